/- The words that the loader writes: targets. -/
import Derived.Test.YtflpgdlgfffigaaGreatCoreC
import Derived.Test.YtflpgdlgfffigaaGreatCDef
set_option linter.unusedSimpArgs false
set_option linter.unusedVariables false
namespace Go.Proofs.YtflpgdlgfffigaaGreat
open Go Go.Abs
set_option maxRecDepth 8000
set_option maxHeartbeats 4000000

theorem of_c (l : List Loaded) (hl : Short l ∧ ∀ x ∈ l, x.WF) (hb : l.length * 384 ≤ 140737488355328) (hok : loadedF l = Fault.ok) : RCall Tryz.prog 77 [.dat (.sl (l.map Loaded.enc))] (.dat (binderD l)) := by
  have himg := images_c l hb
  have hord := order_c (imagesOf l) (imagesOf_wf hl)
  obtain ⟨hc, hbad, hm⟩ := loaded_all hok
  have hF : orderF (imagesOf l) = (orderOf l, Fault.ok) := by unfold orderF orderOf; rw [if_pos hc, hm]
  rw [hF] at hord
  simp only [orderP, intsD, Fault.enc, Fault.ok] at hord
  refine rcall_of hmix [] Tryz.func77 (by kernel_rfl) rfl (by simp [Tryz.f77]) ?_
  simp -dsimp [Tryz.f77]
  refine callA himg ?_ rfl
  simp -dsimp
  refine callA hord ?_ rfl
  simp -dsimp [binderD, intsD]

theorem executable_c (x : Image) (hx : x.WF) (a : Int) : RCall Tryz.prog 208 [.dat x.enc, .dat (.int .i64 a)] (.dat (.bool (executableB x a))) := by
  have hs := hx.segments.1
  unfold Short at hs
  unfold Image.enc Image.cells
  refine rcall_of hmix [] Tryz.func208 (by kernel_rfl) rfl (by simp [Tryz.f208]) ?_
  simp -dsimp [Tryz.f208]
  refine awp_loopN x.segments.length (fun k s => s.t 10 = .dat (.int .i64 k) ∧ s.t 9 = .dat (.int .i64 x.segments.length) ∧ s.t 8 = .dat (.sl (x.segments.map Segment.enc)) ∧ s.t 1 = .dat (.int .i64 a) ∧ executableB x a = execFrom a (x.segments.drop k)) ⟨by simp, by simp, by simp, by simp, by simp [executableB]⟩ ?_
  rintro k s hk ⟨h10, h9, h8, h1, hrest⟩
  by_cases hlt : k < x.segments.length
  · have hw : IntKind.i64.wrap ((k : Int) + 1) = k + 1 := wrap_in (by omega) (by omega)
    obtain ⟨g, hg⟩ : ∃ g, x.segments[k]? = some g := ⟨_, List.getElem?_eq_getElem hlt⟩
    have hg' : x.segments[k] = g := (List.getElem?_eq_some_iff.1 hg).2
    have hdrop : x.segments.drop k = g :: x.segments.drop (k + 1) := by rw [← hg']; exact List.drop_eq_getElem_cons hlt
    rw [hdrop] at hrest
    simp only [execFrom] at hrest
    simp -dsimp [h10, h9, h8, h1, hlt, hg, hg', Segment.enc]
    by_cases hin : inRange a g = true
    · rw [if_pos hin] at hrest
      unfold inRange at hin
      simp only [Bool.and_eq_true, decide_eq_true_eq] at hin
      obtain ⟨i1, i2⟩ := hin
      unfold W at i2
      simp -dsimp [i1, i2, h10, h9, h8, h1, hrest, andI]
      try rfl
    · rw [if_neg hin] at hrest
      unfold inRange at hin
      simp only [Bool.and_eq_true, decide_eq_true_eq, not_and] at hin
      by_cases i1 : g.address ≤ a
      · have i2 := hin i1
        unfold W at i2
        simp -dsimp [i1, i2, h10, h9, h8, h1, hrest, hw, hlt]
      · simp -dsimp [i1, h10, h9, h8, h1, hrest, hw, hlt]
  · have hkl : k = x.segments.length := by omega
    subst hkl
    have : executableB x a = false := by rw [hrest]; simp [execFrom]
    simp -dsimp [h10, h9, h8, h1, this]

theorem code_c (im k : Int) : RCall Tryz.prog 133 [.dat (.int .i64 im), .dat (.int .i64 k)] (.dat (.int .i64 (codeOf im k))) := by
  refine rcall_of hmix [] Tryz.func133 (by kernel_rfl) rfl (by simp [Tryz.f133]) ?_
  simp -dsimp [Tryz.f133]
  rfl
end Go.Proofs.YtflpgdlgfffigaaGreat
