/- The closed facts of the seat's program. -/
import Derived.Test.YtflpgdlgfffigaaCoreC
import Derived.Test.YtflpgdlgfffigaaRows
import Derived.ProofKit
namespace Go.Proofs.Ytflpgdlgfffigaa
open Go Go.Abs
theorem jq_a3 : mapsRowed Try.prog = true := by kernel_rfl
theorem jq_a9 : (Try.prog.stopKnobs == []) = true := by kernel_rfl
theorem jq_c5 : (true == Try.prog.plainKeys) = true := by kernel_rfl
theorem jq_c7 : Try.prog.stopsHeard = true := by kernel_rfl
theorem jq_c8 : Try.prog.mayEnter = true := by kernel_rfl
theorem jq_c9 : (false == Try.prog.liftsFinal) = true := by kernel_rfl
theorem jq_d1 : (Try.prog.make == some Make.cut) = true := by kernel_rfl
end Go.Proofs.Ytflpgdlgfffigaa
