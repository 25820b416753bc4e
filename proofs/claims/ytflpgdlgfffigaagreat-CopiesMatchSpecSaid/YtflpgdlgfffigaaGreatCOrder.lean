/- Scope: Order; small functions of the reference; the example. -/
import Derived.Test.YtflpgdlgfffigaaGreatCoreB
import Derived.Test.YtflpgdlgfffigaaGreatCWalk
set_option linter.unusedSimpArgs false
set_option linter.unusedVariables false
namespace Go.Proofs.YtflpgdlgfffigaaGreat
open Go Go.Abs
set_option maxRecDepth 8000
set_option maxHeartbeats 4000000

def orderP (r : List Int × Fault) : PVal := .tup [.dat (intsD r.1), .dat r.2.enc]
theorem order_c (l : List Image) (hl : Short l ∧ ∀ x ∈ l, x.WF) : RCall Tryz.prog 12 [.dat (.sl (l.map Image.enc))] (orderP (orderF l)) := by
  have hchk := check_images_c l hl
  rcases fault_cases (checkF l) with hs | ⟨c, n, hs, hne, hcn⟩
  · rw [hs] at hchk
    simp only [Fault.enc, Fault.ok] at hchk
    obtain ⟨hc1, hc2, hc3⟩ := check_all hs
    have hneeds := needs_c l hl (by omega) (fun x hx => by have := image_needs (check_img hs hx); omega)
    unfold needsR at hneeds
    cases hm : missing l with
    | some i =>
      rw [hm] at hneeds
      have hF : orderF l = ([], ⟨6, i⟩) := by unfold orderF; rw [if_pos hs, hm]
      rw [hF]
      refine rcall_of hmix [] Tryz.func12 (by kernel_rfl) rfl (by simp [Tryz.f12]) ?_
      simp -dsimp [Tryz.f12]
      refine callA hchk ?_ rfl
      simp -dsimp [Fault.enc]
      refine callA hneeds ?_ rfl
      simp -dsimp [orderP, intsD, Fault.enc]
    | none =>
      rw [hm] at hneeds
      have hwalk := walk_c (needRows l) (by rw [needRows_len]; omega) (fun row hr => ⟨needRows_short hs row hr, needRows_ok hm row hr⟩)
      have hF : orderF l = (walkF (needRows l), Fault.ok) := by unfold orderF; rw [if_pos hs, hm]
      rw [hF]
      refine rcall_of hmix [] Tryz.func12 (by kernel_rfl) rfl (by simp [Tryz.f12]) ?_
      simp -dsimp [Tryz.f12]
      refine callA hchk ?_ rfl
      simp -dsimp [Fault.enc]
      refine callA hneeds ?_ rfl
      simp -dsimp [Fault.enc]
      refine callA hwalk ?_ rfl
      simp -dsimp [orderP, intsD, Fault.enc, Fault.ok]
  · rw [hs] at hchk
    simp only [Fault.enc] at hchk
    have hF : orderF l = ([], ⟨c, n⟩) := by unfold orderF; rw [if_neg hne, hs]
    rw [hF]
    refine rcall_of hmix [] Tryz.func12 (by kernel_rfl) rfl (by simp [Tryz.f12]) ?_
    simp -dsimp [Tryz.f12]
    refine callA hchk ?_ rfl
    simp -dsimp [Fault.enc, hcn, orderP, intsD]
    try kernel_rfl

theorem ref5in_c (n lo hi : Int) : RCall Tryz.prog 16 [.dat (.int .i64 n), .dat (.int .i64 lo), .dat (.int .i64 hi)] (.dat (.bool (decide (lo ≤ n) && decide (n ≤ hi)))) := by
  refine rcall_of hmix [] Tryz.func16 (by kernel_rfl) rfl (by simp [Tryz.f16]) ?_
  simp -dsimp [Tryz.f16]
  repeat' (first | (refine gif ?_ ?_ <;> intro h <;> (try simp only [Bool.not_eq_eq_eq_not, Bool.not_true, Bool.not_false, decide_eq_true_eq, decide_eq_false_iff_not] at h) <;> (try simp -dsimp [h])) | (refine And.intro (show orderOk _ _ = true by kernel_rfl) ?_) | (show orderOk _ _ = true; kernel_rfl))
  all_goals (simp [*]; done)
theorem ints_c (xs ys : List Int) (hx : Short xs) (hy : Short ys) : RCall Tryz.prog 19 [.dat (intsD xs), .dat (intsD ys)] (.dat (.bool (decide (xs = ys)))) := by
  unfold Short at hx hy
  unfold intsD
  by_cases hlen : xs.length = ys.length
  · refine rcall_of hmix [] Tryz.func19 (by kernel_rfl) rfl (by simp [Tryz.f19]) ?_
    simp -dsimp [Tryz.f19, hlen]
    refine awp_loopN xs.length (fun k s => s.t 5 = .dat (.int .i64 k) ∧ s.t 0 = .dat (.sl (xs.map (.int .i64))) ∧ s.t 1 = .dat (.sl (ys.map (.int .i64))) ∧ ∀ j, j < k → xs[j]? = ys[j]?) ⟨by simp, by simp, by simp, by omega⟩ ?_
    rintro k s hk ⟨h5, h0, h1, hpre⟩
    by_cases hlt : k < xs.length
    · have hw : IntKind.i64.wrap ((k : Int) + 1) = k + 1 := wrap_in (by omega) (by omega)
      have hlt2 : k < ys.length := by omega
      obtain ⟨x, hx1⟩ : ∃ x, xs[k]? = some x := ⟨_, List.getElem?_eq_getElem hlt⟩
      have hx' : xs[k] = x := (List.getElem?_eq_some_iff.1 hx1).2
      obtain ⟨y, hy1⟩ : ∃ y, ys[k]? = some y := ⟨_, List.getElem?_eq_getElem hlt2⟩
      have hy' : ys[k] = y := (List.getElem?_eq_some_iff.1 hy1).2
      simp -dsimp [h5, h0, h1, hlt, hlt2, hx1, hx', hy1, hy']
      by_cases e : x = y
      · subst e
        simp -dsimp [h5, h0, h1, hw, hlt]
        refine ⟨by kernel_rfl, ?_⟩
        intro j hj
        by_cases e2 : j = k
        · subst e2; rw [hx1, hy1]
        · exact hpre j (by omega)
      · have : ¬ xs = ys := by intro e3; subst e3; rw [hx1] at hy1; injection hy1 with hy1; exact e hy1
        simp -dsimp [e, h5, h0, h1, this]
        show orderOk _ _ = true
        kernel_rfl
    · have hkl : k = xs.length := by omega
      subst hkl
      have : xs = ys := by
        apply List.ext_getElem?
        intro j
        by_cases hj : j < xs.length
        · exact hpre j hj
        · rw [List.getElem?_eq_none (by omega), List.getElem?_eq_none (by omega)]
      simp -dsimp [h5, h0, h1, this]
  · have : ¬ xs = ys := by intro e; subst e; exact hlen rfl
    have hl2 : ¬ (xs.length : Int) = ys.length := by omega
    refine rcall_of hmix [] Tryz.func19 (by kernel_rfl) rfl (by simp [Tryz.f19]) ?_
    simp -dsimp [Tryz.f19, hlen, hl2, this]

theorem main_c : RCall Tryz.prog 93 [] (.dat mainI.enc) := by
  refine rcall_of hmix [] Tryz.func93 (by kernel_rfl) rfl (by simp [Tryz.f93]) ?_
  simp -dsimp [Tryz.f93]
  rfl
theorem lib_c : RCall Tryz.prog 94 [] (.dat libI.enc) := by
  refine rcall_of hmix [] Tryz.func94 (by kernel_rfl) rfl (by simp [Tryz.f94]) ?_
  simp -dsimp [Tryz.f94]
  rfl
theorem pair_c : RCall Tryz.prog 61 [] (.dat (.sl (pairI.map Image.enc))) := by
  refine rcall_of hmix [] Tryz.func61 (by kernel_rfl) rfl (by simp [Tryz.f61]) ?_
  simp -dsimp [Tryz.f61]
  refine callA main_c ?_ rfl
  simp -dsimp
  refine callA lib_c ?_ rfl
  simp -dsimp [(Image.ag mainI).len, (Image.ag libI).len, (Image.ag mainI).flats, (Image.ag libI).flats, pairI]
theorem scopeEx_c : RCall Tryz.prog 18 [] (.dat (.bool true)) := by
  have ho := order_c pairI pairI_wf
  rw [pair_order] at ho
  simp only [orderP, Fault.enc, Fault.ok] at ho
  have hf := find_c pairI pairI_wf [0, 1] (by simp [Short]) ⟨#[102]⟩ ⟨#[]⟩
  rw [pair_find] at hf
  simp only [findP, Fault.enc, Fault.ok] at hf
  have hi := ints_c [0, 1] [0, 1] (by simp [Short]) (by simp [Short])
  refine rcall_of hmix [] Tryz.func18 (by kernel_rfl) rfl (by simp [Tryz.f18]) ?_
  simp -dsimp [Tryz.f18]
  refine callA pair_c ?_ rfl
  simp -dsimp
  refine callA ho ?_ rfl
  simp -dsimp
  refine callA pair_c ?_ rfl
  simp -dsimp
  refine callA hf ?_ rfl
  simp -dsimp
  refine callA hi ?_ rfl
  simp -dsimp
end Go.Proofs.YtflpgdlgfffigaaGreat
