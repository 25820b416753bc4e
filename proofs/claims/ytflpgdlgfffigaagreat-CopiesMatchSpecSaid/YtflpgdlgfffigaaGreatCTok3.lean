/- Names of symbols: the script's own. -/
import Derived.Test.YtflpgdlgfffigaaGreatCTok2
set_option linter.unusedSimpArgs false
set_option linter.unusedVariables false
namespace Go.Proofs.YtflpgdlgfffigaaGreat
open Go Go.Abs
set_option maxRecDepth 8000
set_option maxHeartbeats 2000000

theorem isName_c (s : Str) (hs : ShortS s) : RCall Tryz.prog 172 [.dat (.str s)] (.dat (.bool (isName s))) := by
  unfold ShortS at hs
  refine rcall_of hmix [] Tryz.func172 (by kernel_rfl) rfl (by simp [Tryz.f172]) ?_
  simp -dsimp [Tryz.f172]
  refine awp_loop (fun st => ∃ k : Nat, k ≤ s.size ∧ st.t 8 = .dat (.int .i64 k) ∧ st.t 7 = .dat (.int .i64 s.size) ∧ st.t 0 = .dat (.str s) ∧ ∀ i, i < k → nameAt s i = true) (fun st => s.size - natOf (st.t 8)) ⟨0, by simp⟩ ?_
  rintro st ⟨k, hk, h6, h5, h0, hpre⟩
  by_cases hlt : k < s.size
  · have hw : IntKind.i64.wrap ((k : Int) + 1) = k + 1 := wrap_in (by omega) (by omega)
    have hat : nameAt s k = (isNameByteB (s[k]'hlt).toNat && !(decide (k = 0) && isDigitB (s[k]'hlt).toNat)) := by simp [nameAt, hlt]
    have bad : nameAt s k = false → isName s = false := isName_false hlt
    have next : nameAt s k = true → (∃ k_1 : Nat, k_1 ≤ s.size ∧ ((k : Int) + 1 = k_1) ∧ ∀ i, i < k_1 → nameAt s i = true) := fun h => ⟨k + 1, by omega, by simp, fun i hi => by
      by_cases e : i = k
      · subst e; exact h
      · exact hpre i (by omega)⟩
    have dec : s.size - (k + 1) < s.size - k := by omega
    have hn : ((k : Int) + 1).toNat = k + 1 := by omega
    have hz : ((k : Int) = 0) = (k = 0) := by simp
    unfold isNameByteB isDigitB at hat
    generalize hc : ((s[k]'hlt).toNat : Int) = c at hat
    simp -dsimp [h6, h5, h0, hlt, hc]
    repeat' (first | (refine gif ?_ ?_ <;> intro h <;> (try simp only [Bool.not_eq_eq_eq_not, Bool.not_true, Bool.not_false, decide_eq_true_eq, decide_eq_false_iff_not] at h) <;> (try simp -dsimp [h, h6, h5, h0, hw, hn, dec, hz])) | (refine And.intro (show orderOk _ _ = true by kernel_rfl) ?_) | (show orderOk _ _ = true; kernel_rfl))
    all_goals first
      | exact next (by rw [hat]; simp; omega)
      | exact bad (by rw [hat]; simp; omega)
      | omega
  · have hkl : k = s.size := by omega
    subst hkl
    simp [h6, h5, h0]
    rw [isName_true hpre]
    repeat' (first | (refine gif ?_ ?_ <;> intro h <;> (try simp only [Bool.not_eq_eq_eq_not, Bool.not_true, Bool.not_false, decide_eq_true_eq, decide_eq_false_iff_not] at h) <;> (try simp -dsimp [h])) | (refine And.intro (show orderOk _ _ = true by kernel_rfl) ?_) | (show orderOk _ _ = true; kernel_rfl))
    all_goals (simp_all)
end Go.Proofs.YtflpgdlgfffigaaGreat
