/- The bound of lists of loaded images. -/
import Derived.Test.YtflpgdlgfffigaaGreatCCalls
namespace Go.Proofs.YtflpgdlgfffigaaGreat
open Go Go.Abs
set_option maxRecDepth 8000
theorem bytes_Loaded : Tryz.prog.bytesOf 82 = 408 := by kernel_rfl
theorem loaded_bound {l : List Loaded} (hb : l.length * Tryz.prog.bytesOf 82 ≤ reachBytes) : l.length * 384 ≤ 140737488355328 := by
  rw [bytes_Loaded] at hb
  unfold reachBytes at hb
  omega
end Go.Proofs.YtflpgdlgfffigaaGreat
