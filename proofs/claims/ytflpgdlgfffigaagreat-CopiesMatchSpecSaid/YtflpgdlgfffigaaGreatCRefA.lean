/- The references: names. -/
import Derived.Test.YtflpgdlgfffigaaGreatCoreC
import Derived.Test.YtflpgdlgfffigaaGreatCImg
set_option linter.unusedSimpArgs false
set_option linter.unusedVariables false
namespace Go.Proofs.YtflpgdlgfffigaaGreat
open Go Go.Abs
set_option maxRecDepth 8000
set_option maxHeartbeats 4000000

theorem in1_c (n lo hi : Int) : RCall Tryz.prog 204 [.dat (.int .i64 n), .dat (.int .i64 lo), .dat (.int .i64 hi)] (.dat (.bool (inB n lo hi))) := by
  refine rcall_of hmix [] Tryz.func204 (by kernel_rfl) rfl (by simp [Tryz.f204]) ?_
  simp -dsimp [Tryz.f204]
  repeat' (first | (refine gif ?_ ?_ <;> intro h <;> (try simp only [Bool.not_eq_eq_eq_not, Bool.not_true, Bool.not_false, decide_eq_true_eq, decide_eq_false_iff_not] at h) <;> (try simp -dsimp [h])) | (refine And.intro (show orderOk _ _ = true by kernel_rfl) ?_) | (show orderOk _ _ = true; kernel_rfl))
  all_goals (simp [inB, *]; done)
theorem in3_c (n lo hi : Int) : RCall Tryz.prog 195 [.dat (.int .i64 n), .dat (.int .i64 lo), .dat (.int .i64 hi)] (.dat (.bool (inB n lo hi))) := by
  refine rcall_of hmix [] Tryz.func195 (by kernel_rfl) rfl (by simp [Tryz.f195]) ?_
  simp -dsimp [Tryz.f195]
  repeat' (first | (refine gif ?_ ?_ <;> intro h <;> (try simp only [Bool.not_eq_eq_eq_not, Bool.not_true, Bool.not_false, decide_eq_true_eq, decide_eq_false_iff_not] at h) <;> (try simp -dsimp [h])) | (refine And.intro (show orderOk _ _ = true by kernel_rfl) ?_) | (show orderOk _ _ = true; kernel_rfl))
  all_goals (simp [inB, *]; done)
theorem in4_c (n lo hi : Int) : RCall Tryz.prog 118 [.dat (.int .i64 n), .dat (.int .i64 lo), .dat (.int .i64 hi)] (.dat (.bool (inB n lo hi))) := by
  refine rcall_of hmix [] Tryz.func118 (by kernel_rfl) rfl (by simp [Tryz.f118]) ?_
  simp -dsimp [Tryz.f118]
  repeat' (first | (refine gif ?_ ?_ <;> intro h <;> (try simp only [Bool.not_eq_eq_eq_not, Bool.not_true, Bool.not_false, decide_eq_true_eq, decide_eq_false_iff_not] at h) <;> (try simp -dsimp [h])) | (refine And.intro (show orderOk _ _ = true by kernel_rfl) ?_) | (show orderOk _ _ = true; kernel_rfl))
  all_goals (simp [inB, *]; done)
theorem in6_c (n lo hi : Int) : RCall Tryz.prog 56 [.dat (.int .i64 n), .dat (.int .i64 lo), .dat (.int .i64 hi)] (.dat (.bool (inB n lo hi))) := by
  refine rcall_of hmix [] Tryz.func56 (by kernel_rfl) rfl (by simp [Tryz.f56]) ?_
  simp -dsimp [Tryz.f56]
  repeat' (first | (refine gif ?_ ?_ <;> intro h <;> (try simp only [Bool.not_eq_eq_eq_not, Bool.not_true, Bool.not_false, decide_eq_true_eq, decide_eq_false_iff_not] at h) <;> (try simp -dsimp [h])) | (refine And.intro (show orderOk _ _ = true by kernel_rfl) ?_) | (show orderOk _ _ = true; kernel_rfl))
  all_goals (simp [inB, *]; done)
theorem at1_c (c i : Int) : RCall Tryz.prog 121 [.dat (.int .i64 c), .dat (.int .i64 i)] (.dat (.agg [.int .i64 c, .int .i64 i])) := by
  refine rcall_of hmix [] Tryz.func121 (by kernel_rfl) rfl (by simp [Tryz.f121]) ?_
  simp -dsimp [Tryz.f121]
theorem at4_c (c i : Int) : RCall Tryz.prog 115 [.dat (.int .i64 c), .dat (.int .i64 i)] (.dat (.agg [.int .i64 c, .int .i64 i])) := by
  refine rcall_of hmix [] Tryz.func115 (by kernel_rfl) rfl (by simp [Tryz.f115]) ?_
  simp -dsimp [Tryz.f115]
theorem at5_c (c i : Int) : RCall Tryz.prog 17 [.dat (.int .i64 c), .dat (.int .i64 i)] (.dat (.agg [.int .i64 c, .int .i64 i])) := by
  refine rcall_of hmix [] Tryz.func17 (by kernel_rfl) rfl (by simp [Tryz.f17]) ?_
  simp -dsimp [Tryz.f17]
theorem at6_c (c i : Int) : RCall Tryz.prog 57 [.dat (.int .i64 c), .dat (.int .i64 i)] (.dat (.agg [.int .i64 c, .int .i64 i])) := by
  refine rcall_of hmix [] Tryz.func57 (by kernel_rfl) rfl (by simp [Tryz.f57]) ?_
  simp -dsimp [Tryz.f57]

theorem byte_in (c : UInt8) : 0 ≤ (c.toNat : Int) ∧ (c.toNat : Int) ≤ 255 := by have := c.toNat_lt; omega
theorem byte_wrap (c : UInt8) : IntKind.i64.wrap (c.toNat : Int) = c.toNat := by have := byte_in c; exact wrap_in (by omega) (by omega)

theorem nameOk_c (s : Str) (hs : ShortS s) : RCall Tryz.prog 114 [.dat (.str s)] (.dat (.bool (isName s))) := by
  unfold ShortS at hs
  refine rcall_of hmix [] Tryz.func114 (by kernel_rfl) rfl (by simp [Tryz.f114]) ?_
  simp -dsimp [Tryz.f114]
  refine awp_loopN s.size (fun k st => st.t 3 = .dat (.int .i64 k) ∧ st.t 0 = .dat (.str s) ∧ ∀ i, i < k → nameAt s i = true) ⟨by simp, by simp, by omega⟩ ?_
  rintro k st hk ⟨h3, h0, hpre⟩
  by_cases hlt : k < s.size
  · have hw : IntKind.i64.wrap ((k : Int) + 1) = k + 1 := wrap_in (by omega) (by omega)
    have hat : nameAt s k = (isNameByteB (s[k]'hlt).toNat && !(decide (k = 0) && isDigitB (s[k]'hlt).toNat)) := by simp [nameAt, hlt]
    have hwb := byte_wrap (s[k]'hlt)
    have bad : nameAt s k = false → isName s = false := isName_false hlt
    have next : nameAt s k = true → ∀ i, i < k + 1 → nameAt s i = true := fun h i hi => by
      by_cases e : i = k
      · subst e; exact h
      · exact hpre i (by omega)
    have hk0 : ((0 : Int) < (k : Int)) = (0 < k) := by simp
    unfold isNameByteB isDigitB at hat
    simp -dsimp [h3, h0, hlt, hwb]
    generalize ((s[k]'hlt).toNat : Int) = c at *
    repeat' (first | (refine gif ?_ ?_ <;> intro h <;> (try simp only [Bool.not_eq_eq_eq_not, Bool.not_true, Bool.not_false, decide_eq_true_eq, decide_eq_false_iff_not] at h) <;> (try simp -dsimp [h, h3, h0, hw, hlt, hk0])) | (refine And.intro (show orderOk _ _ = true by kernel_rfl) ?_) | (show orderOk _ _ = true; kernel_rfl) | (refine callA (in3_c _ _ _) ?_ rfl; simp -dsimp [h3, h0, hw, hlt]))
    all_goals (try simp only [inB_true, inB_false] at *)
    all_goals first
      | exact next (by rw [hat]; simp <;> omega)
      | exact bad (by rw [hat]; simp <;> omega)
      | exact next (by rw [hat]; simp_all <;> omega)
      | exact bad (by rw [hat]; simp_all <;> omega)
      | omega
  · have hkl : k = s.size := by omega
    subst hkl
    simp -dsimp [h3, h0]
    refine callA (in3_c _ _ _) ?_ rfl
    rw [isName_true hpre]
    simp -dsimp [inB]

theorem name1_c (s : Str) (hs : ShortS s) : RCall Tryz.prog 205 [.dat (.str s)] (.dat (.bool (isName s))) := by
  have hb : ∀ c : UInt8, RCall Tryz.prog 243 [.dat (.int .u8 c.toNat)] (.dat (.bool (isNameByteB c.toNat))) := by
    intro c
    have hwb := byte_wrap c
    refine rcall_of hmix [] Tryz.func243 (by kernel_rfl) rfl (by simp [Tryz.f243]) ?_
    simp -dsimp [Tryz.f243, hwb]
    generalize (c.toNat : Int) = c at *
    repeat' (first | (refine gif ?_ ?_ <;> intro h <;> (try simp only [Bool.not_eq_eq_eq_not, Bool.not_true, Bool.not_false, decide_eq_true_eq, decide_eq_false_iff_not] at h) <;> (try simp -dsimp [h])) | (refine And.intro (show orderOk _ _ = true by kernel_rfl) ?_) | (show orderOk _ _ = true; kernel_rfl) | (refine callA (in1_c _ _ _) ?_ rfl; simp -dsimp))
    all_goals (try simp only [inB_true, inB_false] at *)
    all_goals (unfold isNameByteB isDigitB; simp <;> omega)
  unfold ShortS at hs
  refine rcall_of hmix [] Tryz.func205 (by kernel_rfl) rfl (by simp [Tryz.f205]) ?_
  simp -dsimp [Tryz.f205]
  refine awp_loopN s.size (fun k st => st.t 3 = .dat (.int .i64 k) ∧ st.t 0 = .dat (.str s) ∧ ∀ (i : Nat) (c : UInt8), i < k → s[i]? = some c → isNameByteB c.toNat = true) ⟨by simp, by simp, by omega⟩ ?_
  rintro k st hk ⟨h3, h0, hpre⟩
  by_cases hlt : k < s.size
  · have hw : IntKind.i64.wrap ((k : Int) + 1) = k + 1 := wrap_in (by omega) (by omega)
    simp -dsimp [h3, h0, hlt]
    refine callA (hb _) ?_ rfl
    cases hc : isNameByteB (s[k]'hlt).toNat
    · simp -dsimp [h3, h0]
      exact isName_false hlt (by simp [nameAt, hlt, hc])
    · simp -dsimp [h3, h0, hw, hlt]
      intro i c hi hic
      by_cases e : i = k
      · subst e
        simp [hlt] at hic
        rw [← hic]; exact hc
      · exact hpre i c (by omega) hic
  · have hkl : k = s.size := by omega
    subst hkl
    have hall : ∀ i, 0 < i → i < s.size → nameAt s i = true := by
      intro i h0 hi
      have := hpre i s[i] hi (by simp [hi])
      simp [nameAt, hi, this]; omega
    by_cases h1 : 0 < s.size
    · have hwb := byte_wrap (s[0]'h1)
      have hc := hpre 0 (s[0]'h1) h1 (by simp [h1])
      have hname : isName s = (inB s.size 1 16 && !inB ((s[0]'h1).toNat : Int) 48 57) := by
        cases hd : inB ((s[0]'h1).toNat : Int) 48 57
        · rw [isName_true (fun i hi => by
            by_cases e : i = 0
            · subst e
              have : isDigitB ((s[0]'h1).toNat : Int) = false := hd
              simp [nameAt, h1, hc, this]
            · exact hall i (by omega) hi)]
          simp [inB]
        · rw [isName_false h1 (by
            have : isDigitB ((s[0]'h1).toNat : Int) = true := hd
            simp [nameAt, h1, hc, this])]
          simp
      simp -dsimp [h3, h0]
      repeat' (first | (refine gif ?_ ?_ <;> intro h <;> (try simp only [Bool.not_eq_eq_eq_not, Bool.not_true, Bool.not_false, decide_eq_true_eq, decide_eq_false_iff_not] at h) <;> (try simp -dsimp [h, h3, h0, h1, hwb])) | (refine And.intro (show orderOk _ _ = true by kernel_rfl) ?_) | (show orderOk _ _ = true; kernel_rfl) | (refine callA (in1_c _ _ _) ?_ rfl; simp -dsimp [h3, h0, h1, hwb]))
      all_goals simp_all
    · have hz : s.size = 0 := by omega
      have hname : isName s = false := by unfold isName; simp [hz]
      simp -dsimp [h3, h0, hz]
      repeat' (first | (refine gif ?_ ?_ <;> intro h <;> (try simp only [Bool.not_eq_eq_eq_not, Bool.not_true, Bool.not_false, decide_eq_true_eq, decide_eq_false_iff_not] at h) <;> (try simp -dsimp [h, h3, h0, hz])) | (refine And.intro (show orderOk _ _ = true by kernel_rfl) ?_) | (show orderOk _ _ = true; kernel_rfl) | (refine callA (in1_c _ _ _) ?_ rfl; simp -dsimp [h3, h0, hz, inB]))
      all_goals simp_all

theorem versionOk4_c (s : Str) (hs : ShortS s) : RCall Tryz.prog 240 [.dat (.str s)] (.dat (.bool (versionOk s))) := by
  refine rcall_of hmix [] Tryz.func240 (by kernel_rfl) rfl (by simp [Tryz.f240]) ?_
  simp -dsimp [Tryz.f240]
  repeat' (first | (refine gif ?_ ?_ <;> intro h <;> (try simp only [Bool.not_eq_eq_eq_not, Bool.not_true, Bool.not_false, decide_eq_true_eq, decide_eq_false_iff_not] at h) <;> (try simp -dsimp [h])) | (refine And.intro (show orderOk _ _ = true by kernel_rfl) ?_) | (show orderOk _ _ = true; kernel_rfl) | (refine callA (nameOk_c s hs) ?_ rfl; simp -dsimp))
  all_goals (unfold versionOk; simp_all)
theorem before_c (a b : Str) : RCall Tryz.prog 241 [.dat (.str a), .dat (.str b)] (.dat (.bool (lessS a b))) := by
  refine rcall_of hmix [] Tryz.func241 (by kernel_rfl) rfl (by simp [Tryz.f241]) ?_
  simp -dsimp [Tryz.f241]
  try rfl
theorem round_c (n : Int) (hn : 0 ≤ n ∧ n ≤ 4194304) : RCall Tryz.prog 196 [.dat (.int .i64 n), .dat (.int .i64 256)] (.dat (.int .i64 (up256 n))) := by
  have hq : up256 n = (n + 255) / 256 * 256 := by unfold up256; rw [show n + 256 - 1 = n + 255 by omega]
  refine rcall_of hmix [] Tryz.func196 (by kernel_rfl) rfl (by simp [Tryz.f196]) ?_
  simp -dsimp [Tryz.f196]
  refine awp_loopN 256 (fun k s => ∃ v : Int, s.t 0 = .dat (.int .i64 v) ∧ s.t 1 = .dat (.int .i64 256) ∧ v = n + k ∧ v ≤ up256 n) ⟨n, by simp, by simp, by simp, by rw [hq]; omega⟩ ?_
  rintro k s hk ⟨v, h0, h1, hv, hle⟩
  have hw : IntKind.i64.wrap (v + 1) = v + 1 := wrap_in (by omega) (by omega)
  have hmod : v.tmod 256 = v % 256 := Int.tmod_eq_emod_of_nonneg (by omega)
  by_cases hz : v % 256 = 0
  · have hve : v = up256 n := by rw [hq] at hle ⊢; omega
    have hz2 : (up256 n).tmod 256 = 0 := by rw [← hve, hmod, hz]
    simp -dsimp [h0, h1, hz2, hve]
  · simp -dsimp [h0, h1, hmod, hz, hw]
    exact ⟨by rw [hq] at hle; omega, by omega, by rw [hq] at hle ⊢; omega⟩
end Go.Proofs.YtflpgdlgfffigaaGreat
