/- Comparing, and small helps of images. -/
import Derived.Test.YtflpgdlgfffigaaGreatCTok3
import Derived.Test.YtflpgdlgfffigaaGreatCIdx
set_option linter.unusedSimpArgs false
set_option linter.unusedVariables false
namespace Go.Proofs.YtflpgdlgfffigaaGreat
open Go Go.Abs
set_option maxRecDepth 8000
set_option maxHeartbeats 2000000

theorem version_c (s : Str) (hs : ShortS s) : RCall Tryz.prog 236 [.dat (.str s)] (.dat (.bool (versionOk s))) := by
  refine rcall_of hmix [] Tryz.func236 (by kernel_rfl) rfl (by simp [Tryz.f236]) ?_
  simp -dsimp [Tryz.f236]
  repeat' (first | (refine gif ?_ ?_ <;> intro h <;> (try simp only [Bool.not_eq_eq_eq_not, Bool.not_true, Bool.not_false, decide_eq_true_eq, decide_eq_false_iff_not] at h) <;> (try simp -dsimp [h])) | (refine And.intro (show orderOk _ _ = true by kernel_rfl) ?_) | (show orderOk _ _ = true; kernel_rfl) | (refine callA (isName_c s hs) ?_ rfl; simp -dsimp))
  all_goals (unfold versionOk; simp_all)

theorem isNaNS_c (s : Str) : RCall Tryz.prog 261 [.dat (.str s)] (.dat (.bool false)) := by
  refine rcall_of hmix [] Tryz.func261 (by kernel_rfl) rfl (by simp [Tryz.f261]) ?_
  simp -dsimp [Tryz.f261]
theorem isNaNI_c (n : Int) : RCall Tryz.prog 244 [.dat (.int .i64 n)] (.dat (.bool false)) := by
  refine rcall_of hmix [] Tryz.func244 (by kernel_rfl) rfl (by simp [Tryz.f244]) ?_
  simp -dsimp [Tryz.f244]

theorem cmpS_c (a b : Str) : RCall Tryz.prog 257 [.dat (.str a), .dat (.str b)] (.dat (.int .i64 (cmpS a b))) := by
  refine rcall_of hmix [] Tryz.func257 (by kernel_rfl) rfl (by simp [Tryz.f257]) ?_
  simp -dsimp [Tryz.f257]
  refine callA (isNaNS_c _) ?_ rfl
  simp -dsimp
  refine callA (isNaNS_c _) ?_ rfl
  simp -dsimp
  repeat' (first | (refine gif ?_ ?_ <;> intro h <;> (try simp only [Bool.not_eq_eq_eq_not, Bool.not_true, Bool.not_false, decide_eq_true_eq, decide_eq_false_iff_not] at h) <;> (try simp -dsimp [h])) | (refine And.intro (show orderOk _ _ = true by kernel_rfl) ?_) | (show orderOk _ _ = true; kernel_rfl))
  all_goals (unfold cmpS lessS; simp_all)

theorem orI_c (a b : Int) : RCall Tryz.prog 256 [.dat (.sl [.int .i64 a, .int .i64 b])] (.dat (.int .i64 (orI [a, b]))) := by
  refine rcall_of hmix [] Tryz.func256 (by kernel_rfl) rfl (by simp [Tryz.f256]) ?_
  simp -dsimp [Tryz.f256]
  refine awp_loop (fun s => ∃ k : Nat, k ≤ 2 ∧ s.t 8 = .dat (.int .i64 k) ∧ s.t 7 = .dat (.int .i64 2) ∧ s.t 6 = .dat (.sl [.int .i64 a, .int .i64 b]) ∧ s.t 3 = .dat (.int .i64 0) ∧ (0 < k → a = 0) ∧ (1 < k → b = 0)) (fun s => 2 - natOf (s.t 8)) ⟨0, by simp⟩ ?_
  rintro s ⟨k, hk, h8, h7, h6, h3, ha, hb⟩
  have h01 : k = 0 ∨ k = 1 ∨ k = 2 := by omega
  rcases h01 with rfl | rfl | rfl
  · simp -dsimp [h8, h7, h6, h3]
    repeat' (first | (refine gif ?_ ?_ <;> intro h <;> (try simp only [Bool.not_eq_eq_eq_not, Bool.not_true, Bool.not_false, decide_eq_true_eq, decide_eq_false_iff_not] at h) <;> (try simp -dsimp [h, wrap_in, h8, h7, h6, h3, orI])) | (refine And.intro (show orderOk _ _ = true by kernel_rfl) ?_) | (show orderOk _ _ = true; kernel_rfl))
    all_goals exact ⟨1, by omega, by simp, by omega⟩
  · have ha := ha (by omega)
    simp -dsimp [h8, h7, h6, h3]
    repeat' (first | (refine gif ?_ ?_ <;> intro h <;> (try simp only [Bool.not_eq_eq_eq_not, Bool.not_true, Bool.not_false, decide_eq_true_eq, decide_eq_false_iff_not] at h) <;> (try simp -dsimp [h, wrap_in, h8, h7, h6, h3, orI, ha])) | (refine And.intro (show orderOk _ _ = true by kernel_rfl) ?_) | (show orderOk _ _ = true; kernel_rfl))
    all_goals first
      | exact ⟨2, by omega, by simp⟩
      | simp_all [orI]
  · have ha := ha (by omega)
    have hb := hb (by omega)
    simp -dsimp [h8, h7, h6, h3, orI, ha, hb]

/-- The next multiple of m. -/
theorem thrUp_c (n m : Int) (hn : 0 ≤ n ∧ n ≤ 4294967296) (hm : 0 < m ∧ m ≤ 65536) : RCall Tryz.prog 254 [.dat (.int .i64 n), .dat (.int .i64 m)] (.dat (.int .i64 ((n + m - 1) / m * m))) := by
  have h1 : IntKind.i64.wrap (n + m) = n + m := wrap_in (by omega) (by omega)
  have h2 : IntKind.i64.wrap (n + m - 1) = n + m - 1 := wrap_in (by omega) (by omega)
  have h3 : (n + m - 1).tdiv m = (n + m - 1) / m := Int.tdiv_eq_ediv_of_nonneg (by omega)
  have h4 : 0 ≤ (n + m - 1) / m := Int.ediv_nonneg (by omega) (by omega)
  have h5 : (n + m - 1) / m * m ≤ n + m - 1 := Int.ediv_mul_le _ (by omega)
  have h6 : 0 ≤ (n + m - 1) / m * m := Int.mul_nonneg h4 (by omega)
  have h7 : (n + m - 1) / m ≤ n + m - 1 := Int.ediv_le_self _ (by omega)
  have h8 : IntKind.i64.wrap ((n + m - 1) / m) = (n + m - 1) / m := wrap_in (by omega) (by omega)
  have h9 : IntKind.i64.wrap ((n + m - 1) / m * m) = (n + m - 1) / m * m := wrap_in (by omega) (by omega)
  have h0 : ¬ m = 0 := by omega
  refine rcall_of hmix [] Tryz.func254 (by kernel_rfl) rfl (by simp [Tryz.f254]) ?_
  simp -dsimp [Tryz.f254, h0, h1, h2, h3, h8, h9]
end Go.Proofs.YtflpgdlgfffigaaGreat
