/- Segments. -/
import Derived.Test.YtflpgdlgfffigaaGreatCCmp
set_option linter.unusedSimpArgs false
set_option linter.unusedVariables false
namespace Go.Proofs.YtflpgdlgfffigaaGreat
open Go Go.Abs
set_option maxRecDepth 8000
set_option maxHeartbeats 2000000

theorem within1_c (a z r : Int) (s : Segment) : RCall Tryz.prog 235 [.dat s.enc, .cptr [.dat (.int .i64 r)], .cptr [.dat (.int .i64 a)], .cptr [.dat (.int .i64 z)]] (.dat (.bool (inSeg a z r s))) := by
  unfold Segment.enc
  refine rcall_of hmix [] Tryz.func235 (by kernel_rfl) rfl (by simp [Tryz.f235]) ?_
  simp -dsimp [Tryz.f235]
  repeat' (first | (refine gif ?_ ?_ <;> intro h <;> (try simp only [Bool.not_eq_eq_eq_not, Bool.not_true, Bool.not_false, decide_eq_true_eq, decide_eq_false_iff_not] at h) <;> (try simp -dsimp [h])) | (refine And.intro (show orderOk _ _ = true by kernel_rfl) ?_) | (show orderOk _ _ = true; kernel_rfl))
  all_goals (unfold inSeg andI W; simp_all <;> omega)

theorem within_c (i : Image) (hi : i.WF) (a z r : Int) : RCall Tryz.prog 157 [.dat i.enc, .dat (.int .i64 a), .dat (.int .i64 z), .dat (.int .i64 r)] (.dat (.bool (within i a z r))) := by
  have hc : Closed [.cptr [.dat (.int .i64 r)], .cptr [.dat (.int .i64 a)], .cptr [.dat (.int .i64 z)]] := by unfold Closed; simp
  unfold Image.enc Image.cells
  refine rcall_of hmix [] Tryz.func157 (by kernel_rfl) rfl (by simp [Tryz.f157]) ?_
  simp -dsimp [Tryz.f157]
  refine callA (containsFunc_Segment (inSeg a z r) _ _ hc i.segments hi.segments.1 (fun s _ => within1_c a z r s)) ?_ rfl
  simp -dsimp [within]

theorem when_c (b : Bool) (n : Int) : RCall Tryz.prog 156 [.dat (.bool b), .dat (.int .i64 n)] (.dat (.int .i64 (whenI b n))) := by
  refine rcall_of hmix [] Tryz.func156 (by kernel_rfl) rfl (by simp [Tryz.f156]) ?_
  simp -dsimp [Tryz.f156]
  repeat' (first | (refine gif ?_ ?_ <;> intro h <;> (try simp only [Bool.not_eq_eq_eq_not, Bool.not_true, Bool.not_false, decide_eq_true_eq, decide_eq_false_iff_not] at h) <;> (try simp -dsimp [h, whenI])) | (refine And.intro (show orderOk _ _ = true by kernel_rfl) ?_) | (show orderOk _ _ = true; kernel_rfl))
end Go.Proofs.YtflpgdlgfffigaaGreat
