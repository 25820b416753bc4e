/- The example of the words. -/
import Derived.Test.YtflpgdlgfffigaaGreatCoreC
import Derived.Test.YtflpgdlgfffigaaGreatCWords
set_option linter.unusedSimpArgs false
set_option linter.unusedVariables false
namespace Go.Proofs.YtflpgdlgfffigaaGreat
open Go Go.Abs
set_option maxRecDepth 8000
set_option maxHeartbeats 4000000

theorem bindEx_c : RCall Tryz.prog 35 [] (.dat (.bool true)) := by
  have h1 := words_c bothI bothI_wf (by decide) 0 false
  have h2 := words_c bothI bothI_wf (by decide) 0 true
  have h3 := one_c bothI bothI_wf (by decide) 0 0
  rw [both_words] at h1
  rw [both_words_lazy] at h2
  rw [both_one] at h3
  simp only [wordsP, oneP, Bound.enc, Fault.enc, Fault.ok, List.map_cons, List.map_nil] at h1 h2 h3
  refine rcall_of hmix [] Tryz.func35 (by kernel_rfl) rfl (by simp [Tryz.f35]) ?_
  simp -dsimp [Tryz.f35]
  refine callA both_c ?_ rfl
  simp -dsimp
  refine callA h1 ?_ rfl
  simp -dsimp
  refine callA both_c ?_ rfl
  simp -dsimp
  refine callA h2 ?_ rfl
  simp -dsimp
  refine callA both_c ?_ rfl
  simp -dsimp
  refine callA h3 ?_ rfl
  simp -dsimp
  (try (show orderOk _ _ = true; kernel_rfl))
end Go.Proofs.YtflpgdlgfffigaaGreat
