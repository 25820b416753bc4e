/- A small function of the reference. -/
import Derived.Test.YtflpgdlgfffigaaCOrder
set_option linter.unusedSimpArgs false
set_option linter.unusedVariables false
namespace Go.Proofs.Ytflpgdlgfffigaa
open Go Go.Abs
set_option maxRecDepth 8000
set_option maxHeartbeats 4000000

theorem has_c (xs : List Int) (hx : Short xs) (n : Int) : RCall Try.prog 13 [.dat (intsD xs), .dat (.int .i64 n)] (.dat (.bool (hasI xs n))) := by
  unfold Short at hx
  unfold intsD
  refine rcall_of hmix [] Try.func13 (by kernel_rfl) rfl (by simp [Try.f13]) ?_
  simp -dsimp [Try.f13]
  refine awp_loopN xs.length (fun k s => s.t 5 = .dat (.int .i64 k) ∧ s.t 0 = .dat (.sl (xs.map (.int .i64))) ∧ s.t 1 = .dat (.int .i64 n) ∧ ∀ (j : Nat) (y : Int), j < k → xs[j]? = some y → ¬ n = y) ⟨by simp, by simp, by simp, by omega⟩ ?_
  rintro k s hk ⟨h5, h0, h1, hpre⟩
  by_cases hlt : k < xs.length
  · have hw : IntKind.i64.wrap ((k : Int) + 1) = k + 1 := wrap_in (by omega) (by omega)
    obtain ⟨x, hx1⟩ : ∃ x, xs[k]? = some x := ⟨_, List.getElem?_eq_getElem hlt⟩
    have hx' : xs[k] = x := (List.getElem?_eq_some_iff.1 hx1).2
    simp -dsimp [h5, h0, h1, hlt, hx1, hx']
    by_cases e : x = n
    · subst e
      have : hasI xs x = true := hasI_iff.2 (List.mem_of_getElem? hx1)
      simp -dsimp [h5, h0, h1, this]
    · simp -dsimp [e, h5, h0, h1, hw, hlt]
      intro j y hj hy
      by_cases e2 : j = k
      · subst e2; rw [hx1] at hy; injection hy with hy; subst hy; exact fun h => e h.symm
      · exact hpre j y (by omega) hy
  · have hkl : k = xs.length := by omega
    subst hkl
    have : hasI xs n = false := by
      rw [hasI_false]
      intro hm
      obtain ⟨j, hj⟩ := List.getElem?_of_mem hm
      exact hpre j n (List.getElem?_eq_some_iff.1 hj).1 hj rfl
    simp -dsimp [h5, h0, h1, this]
end Go.Proofs.Ytflpgdlgfffigaa
