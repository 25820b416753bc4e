/- Names of symbols. -/
import Derived.Test.YtflpgdlgfffigaaGreatCoreB
import Derived.Test.YtflpgdlgfffigaaGreatCTypes
set_option linter.unusedSimpArgs false
set_option linter.unusedVariables false
namespace Go.Proofs.YtflpgdlgfffigaaGreat
open Go Go.Abs
set_option maxRecDepth 8000
set_option maxHeartbeats 1000000

theorem isDigit_c (c : Int) : RCall Tryz.prog 263 [.dat (.int .u8 c)] (.dat (.bool (isDigitB c))) := by
  refine rcall_of hmix [] Tryz.func263 (by kernel_rfl) rfl (by simp [Tryz.f263]) ?_
  simp -dsimp [Tryz.f263]
  repeat' (first | (refine gif ?_ ?_ <;> intro h <;> (try simp only [Bool.not_eq_eq_eq_not, Bool.not_true, Bool.not_false, decide_eq_true_eq, decide_eq_false_iff_not] at h) <;> (try simp -dsimp [h, isDigitB])) | (refine And.intro (show orderOk _ _ = true by kernel_rfl) ?_) | (show orderOk _ _ = true; kernel_rfl))

theorem isNameByte_c (c : Int) : RCall Tryz.prog 262 [.dat (.int .u8 c)] (.dat (.bool (isNameByteB c))) := by
  refine rcall_of hmix [] Tryz.func262 (by kernel_rfl) rfl (by simp [Tryz.f262]) ?_
  simp -dsimp [Tryz.f262]
  repeat' (first | (refine gif ?_ ?_ <;> intro h <;> (try simp only [Bool.not_eq_eq_eq_not, Bool.not_true, Bool.not_false, decide_eq_true_eq, decide_eq_false_iff_not] at h) <;> (try simp -dsimp [h])) | (refine And.intro (show orderOk _ _ = true by kernel_rfl) ?_) | (show orderOk _ _ = true; kernel_rfl) | (refine callA (isDigit_c _) ?_ rfl; simp))
  all_goals (unfold isNameByteB isDigitB at *; simp_all <;> omega)
end Go.Proofs.YtflpgdlgfffigaaGreat
