/- The closed facts of the seat's program. -/
import Derived.Test.YtflpgdlgfffigaaGreatCoreC
import Derived.Test.YtflpgdlgfffigaaGreatRows
import Derived.ProofKit
namespace Go.Proofs.YtflpgdlgfffigaaGreat
open Go Go.Abs
theorem jq_a3 : mapsRowed Tryz.prog = true := by kernel_rfl
theorem jq_a9 : (Tryz.prog.stopKnobs == []) = true := by kernel_rfl
theorem jq_c5 : (true == Tryz.prog.plainKeys) = true := by kernel_rfl
theorem jq_c7 : Tryz.prog.stopsHeard = true := by kernel_rfl
theorem jq_c8 : Tryz.prog.mayEnter = true := by kernel_rfl
theorem jq_c9 : (false == Tryz.prog.liftsFinal) = true := by kernel_rfl
theorem jq_d1 : (Tryz.prog.make == some Make.cut) = true := by kernel_rfl
end Go.Proofs.YtflpgdlgfffigaaGreat
