/- The law: Order visits each image once. -/
import Derived.Test.YtflpgdlgfffigaaCOrder
set_option linter.unusedSimpArgs false
set_option linter.unusedVariables false
namespace Go.Proofs.Ytflpgdlgfffigaa
open Go Go.Abs
set_option maxRecDepth 8000
set_option maxHeartbeats 4000000

theorem has_c (xs : List Int) (hx : Short xs) (n : Int) : RCall Try.prog 13 [.dat (intsD xs), .dat (.int .i64 n)] (.dat (.bool (hasI xs n))) := by
  unfold Short at hx
  unfold intsD
  refine rcall_of hmix [] Try.func13 (by kernel_rfl) rfl (by simp [Try.f13]) ?_
  simp -dsimp [Try.f13]
  refine awp_loopN xs.length (fun k s => s.t 5 = .dat (.int .i64 k) ∧ s.t 0 = .dat (.sl (xs.map (.int .i64))) ∧ s.t 1 = .dat (.int .i64 n) ∧ ∀ (j : Nat) (y : Int), j < k → xs[j]? = some y → ¬ n = y) ⟨by simp, by simp, by simp, by omega⟩ ?_
  rintro k s hk ⟨h5, h0, h1, hpre⟩
  by_cases hlt : k < xs.length
  · have hw : IntKind.i64.wrap ((k : Int) + 1) = k + 1 := wrap_in (by omega) (by omega)
    obtain ⟨x, hx1⟩ : ∃ x, xs[k]? = some x := ⟨_, List.getElem?_eq_getElem hlt⟩
    have hx' : xs[k] = x := (List.getElem?_eq_some_iff.1 hx1).2
    simp -dsimp [h5, h0, h1, hlt, hx1, hx']
    by_cases e : x = n
    · subst e
      have : hasI xs x = true := hasI_iff.2 (List.mem_of_getElem? hx1)
      simp -dsimp [h5, h0, h1, this]
    · simp -dsimp [e, h5, h0, h1, hw, hlt]
      intro j y hj hy
      by_cases e2 : j = k
      · subst e2; rw [hx1] at hy; injection hy with hy; subst hy; exact fun h => e h.symm
      · exact hpre j y (by omega) hy
  · have hkl : k = xs.length := by omega
    subst hkl
    have : hasI xs n = false := by
      rw [hasI_false]
      intro hm
      obtain ⟨j, hj⟩ := List.getElem?_of_mem hm
      exact hpre j n (List.getElem?_eq_some_iff.1 hj).1 hj rfl
    simp -dsimp [h5, h0, h1, this]

theorem lawOrder_c (l : List Image) (hl : Short l ∧ ∀ x ∈ l, x.WF) (hb : l.length * Try.prog.bytesOf 46 ≤ reachBytes) : RCall Try.prog 3 [.dat (.sl (l.map Image.enc))] (.dat (.bool true)) := by
  have ho := order_c l hl
  have key : (¬ checkF l = Fault.ok ∧ orderF l = ([], checkF l)) ∨ (∃ i, orderF l = ([], ⟨6, i⟩)) ∨ (checkF l = Fault.ok ∧ missing l = none ∧ orderF l = (walkF (needRows l), Fault.ok)) := by
    unfold orderF
    by_cases h : checkF l = Fault.ok
    · rw [if_pos h]
      cases hm : missing l with
      | some i => exact .inr (.inl ⟨i, rfl⟩)
      | none => exact .inr (.inr ⟨h, rfl, rfl⟩)
    · rw [if_neg h]; exact .inl ⟨h, rfl⟩
  have bad : ∀ (f : Fault), ¬ f.code = 0 → orderF l = ([], f) → RCall Try.prog 3 [.dat (.sl (l.map Image.enc))] (.dat (.bool true)) := by
    intro f hf hof
    rw [hof] at ho
    simp only [orderP, intsD, Fault.enc] at ho
    refine rcall_of hmix [] Try.func3 (by kernel_rfl) rfl (by simp [Try.f3]) ?_
    simp -dsimp [Try.f3]
    refine callA ho ?_ rfl
    simp -dsimp
    refine callA scopeEx_c ?_ rfl
    simp -dsimp [hf]
  rcases key with ⟨hne, h⟩ | ⟨i, h⟩ | ⟨hc, hm, h⟩
  · refine bad _ ?_ h
    rcases good_check l with g | g
    · exact absurd g hne
    · exact g
  · exact bad _ (by simp) h
  · obtain ⟨hc1, hc2, hc3⟩ := check_all hc
    have hrow := needRows_ok hm
    have hlen := walk_len hrow
    have hhead := walk_head (needs := needRows l) (by rw [needRows_len]; omega)
    have hmem : ∀ r : Nat, r < l.length → (r : Int) ∈ walkF (needRows l) := fun r hr => walk_mem _ (by rw [needRows_len]; exact hr)
    rw [needRows_len] at hlen
    rw [h] at ho
    generalize walkF (needRows l) = w at *
    have hw0 : w[0]? = some 0 := hhead
    have hw0' : ∀ h, w[0]'h = 0 := fun h => by rw [List.getElem?_eq_getElem h] at hw0; injection hw0
    have hwl : 0 < w.length := by omega
    have hws : Short w := by unfold Short; omega
    simp only [orderP, intsD, Fault.enc, Fault.ok] at ho
    refine rcall_of hmix [] Try.func3 (by kernel_rfl) rfl (by simp [Try.f3]) ?_
    simp -dsimp [Try.f3]
    refine callA ho ?_ rfl
    simp -dsimp
    refine callA scopeEx_c ?_ rfl
    simp -dsimp [hlen, hw0, hw0', hwl]
    refine awp_loopN l.length (fun k s => s.t 5 = .dat (.int .i64 k) ∧ s.t 0 = .dat (.sl (l.map Image.enc)) ∧ s.t 3 = .dat (.sl (w.map (.int .i64)))) ⟨by simp, by simp, by simp⟩ ?_
    rintro k s hk ⟨h5, h0, h3⟩
    by_cases hlt : k < l.length
    · have hw : IntKind.i64.wrap ((k : Int) + 1) = k + 1 := wrap_in (by omega) (by omega)
      have hh := has_c w hws k
      rw [hasI_iff.2 (hmem k hlt)] at hh
      simp -dsimp [h5, h0, h3, hlt]
      refine callA hh ?_ rfl
      simp -dsimp [h5, h0, h3, hlt, hw]
    · have hkl : k = l.length := by omega
      subst hkl
      simp -dsimp [h5, h0, h3]
end Go.Proofs.Ytflpgdlgfffigaa
