/- Segments. -/
import Derived.Test.YtflpgdlgfffigaaCCmp
set_option linter.unusedSimpArgs false
set_option linter.unusedVariables false
namespace Go.Proofs.Ytflpgdlgfffigaa
open Go Go.Abs
set_option maxRecDepth 8000
set_option maxHeartbeats 2000000

theorem within1_c (a z r : Int) (s : Segment) : RCall Try.prog 115 [.dat s.enc, .cptr [.dat (.int .i64 r)], .cptr [.dat (.int .i64 a)], .cptr [.dat (.int .i64 z)]] (.dat (.bool (inSeg a z r s))) := by
  unfold Segment.enc
  refine rcall_of hmix [] Try.func115 (by kernel_rfl) rfl (by simp [Try.f115]) ?_
  simp -dsimp [Try.f115]
  repeat' (first | (refine gif ?_ ?_ <;> intro h <;> (try simp only [Bool.not_eq_eq_eq_not, Bool.not_true, Bool.not_false, decide_eq_true_eq, decide_eq_false_iff_not] at h) <;> (try simp -dsimp [h])) | (refine And.intro (show orderOk _ _ = true by kernel_rfl) ?_) | (show orderOk _ _ = true; kernel_rfl))
  all_goals (unfold inSeg andI W; simp_all <;> omega)

theorem within_c (i : Image) (hi : i.WF) (a z r : Int) : RCall Try.prog 71 [.dat i.enc, .dat (.int .i64 a), .dat (.int .i64 z), .dat (.int .i64 r)] (.dat (.bool (within i a z r))) := by
  have hc : Closed [.cptr [.dat (.int .i64 r)], .cptr [.dat (.int .i64 a)], .cptr [.dat (.int .i64 z)]] := by unfold Closed; simp
  unfold Image.enc Image.cells
  refine rcall_of hmix [] Try.func71 (by kernel_rfl) rfl (by simp [Try.f71]) ?_
  simp -dsimp [Try.f71]
  refine callA (containsFunc_Segment (inSeg a z r) _ _ hc i.segments hi.segments.1 (fun s _ => within1_c a z r s)) ?_ rfl
  simp -dsimp [within]

theorem when_c (b : Bool) (n : Int) : RCall Try.prog 70 [.dat (.bool b), .dat (.int .i64 n)] (.dat (.int .i64 (whenI b n))) := by
  refine rcall_of hmix [] Try.func70 (by kernel_rfl) rfl (by simp [Try.f70]) ?_
  simp -dsimp [Try.f70]
  repeat' (first | (refine gif ?_ ?_ <;> intro h <;> (try simp only [Bool.not_eq_eq_eq_not, Bool.not_true, Bool.not_false, decide_eq_true_eq, decide_eq_false_iff_not] at h) <;> (try simp -dsimp [h, whenI])) | (refine And.intro (show orderOk _ _ = true by kernel_rfl) ?_) | (show orderOk _ _ = true; kernel_rfl))
end Go.Proofs.Ytflpgdlgfffigaa
