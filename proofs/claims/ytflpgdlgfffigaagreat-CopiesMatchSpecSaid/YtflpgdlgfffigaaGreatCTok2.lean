/- Names of symbols: the loops. -/
import Derived.Test.YtflpgdlgfffigaaGreatCTok
set_option linter.unusedSimpArgs false
set_option linter.unusedVariables false
namespace Go.Proofs.YtflpgdlgfffigaaGreat
open Go Go.Abs
set_option maxRecDepth 8000
set_option maxHeartbeats 1000000

theorem tokName_c (s : Str) (hs : ShortS s) : RCall Tryz.prog 258 [.dat (.str s)] (.dat (.bool (isName s))) := by
  unfold ShortS at hs
  refine rcall_of hmix [] Tryz.func258 (by kernel_rfl) rfl (by simp [Tryz.f258]) ?_
  simp -dsimp [Tryz.f258]
  refine awp_loop (fun st => ∃ k : Nat, k ≤ s.size ∧ st.t 6 = .dat (.int .i64 k) ∧ st.t 5 = .dat (.int .i64 s.size) ∧ st.t 0 = .dat (.str s) ∧ ∀ i, i < k → nameAt s i = true) (fun st => s.size - natOf (st.t 6)) ⟨0, by simp⟩ ?_
  rintro st ⟨k, hk, h6, h5, h0, hpre⟩
  by_cases hlt : k < s.size
  · have hw : IntKind.i64.wrap ((k : Int) + 1) = k + 1 := wrap_in (by omega) (by omega)
    have hat : nameAt s k = (isNameByteB (s[k]'hlt).toNat && !(decide (k = 0) && isDigitB (s[k]'hlt).toNat)) := by simp [nameAt, hlt]
    simp [h6, h5, h0, hlt]
    refine callA (isNameByte_c _) ?_ rfl
    simp
    cases hn : isNameByteB (s[k]'hlt).toNat
    · simp [h6, h5, h0, isName_false hlt (by rw [hat, hn]; rfl)]
    · simp [h6, h5, h0, hlt]
      by_cases hk0 : k = 0
      · subst hk0
        simp [h6, h5, h0, hlt]
        refine callA (isDigit_c _) ?_ rfl
        cases hd : isDigitB (s[0]'hlt).toNat
        · simp [hw, h6, h5, h0]
          refine ⟨⟨1, by omega, by simp [wrap_in], fun i hi => ?_⟩, by simp [wrap_in]; omega⟩
          have : i = 0 := by omega
          subst this; rw [hat, hn, hd]; rfl
        · simp [isName_false hlt (by rw [hat, hn, hd]; rfl)]
      · have hk0' : ((k : Int) = 0) = False := by simp; omega
        simp [h6, h5, h0, hlt, hk0, hk0', hw]
        refine ⟨⟨k + 1, by omega, by simp, fun i hi => ?_⟩, by omega⟩
        by_cases e : i = k
        · subst e; rw [hat, hn]; simp [hk0]
        · exact hpre i (by omega)
  · have hkl : k = s.size := by omega
    subst hkl
    simp [h6, h5, h0]
    rw [isName_true hpre]
    repeat' (first | (refine gif ?_ ?_ <;> intro h <;> (try simp only [Bool.not_eq_eq_eq_not, Bool.not_true, Bool.not_false, decide_eq_true_eq, decide_eq_false_iff_not] at h) <;> (try simp -dsimp [h])) | (refine And.intro (show orderOk _ _ = true by kernel_rfl) ?_) | (show orderOk _ _ = true; kernel_rfl))
    all_goals (simp_all)
end Go.Proofs.YtflpgdlgfffigaaGreat
