/- The references: names. -/
import Derived.Test.YtflpgdlgfffigaaGreatCoreC
import Derived.Test.YtflpgdlgfffigaaGreatCScope
set_option linter.unusedSimpArgs false
set_option linter.unusedVariables false
namespace Go.Proofs.YtflpgdlgfffigaaGreat
open Go Go.Abs
set_option maxRecDepth 8000
set_option maxHeartbeats 4000000

theorem named6_c (l : List Image) (hl : Short l) (nm : Str) : RCall Tryz.prog 60 [.dat (.sl (l.map Image.enc)), .dat (.str nm)] (.dat (.int .i64 (named l nm))) := by
  unfold Short at hl
  refine rcall_of hmix [] Tryz.func60 (by kernel_rfl) rfl (by simp [Tryz.f60]) ?_
  simp -dsimp [Tryz.f60]
  refine awp_loopN l.length (fun k s => s.t 5 = .dat (.int .i64 k) ∧ s.t 0 = .dat (.sl (l.map Image.enc)) ∧ s.t 1 = .dat (.str nm) ∧ ∀ j y, j < k → l[j]? = some y → decide (y.name = nm) = false) ⟨by simp, by simp, by simp, by omega⟩ ?_
  rintro k s hk ⟨h5, h0, h1, hpre⟩
  by_cases hlt : k < l.length
  · have hw : IntKind.i64.wrap ((k : Int) + 1) = k + 1 := wrap_in (by omega) (by omega)
    obtain ⟨x, hx⟩ : ∃ x, l[k]? = some x := ⟨_, List.getElem?_eq_getElem hlt⟩
    have hx' : l[k] = x := (List.getElem?_eq_some_iff.1 hx).2
    have hag := Image.ag x
    have hname : x.enc.cells[0]? = some (.str x.name) := rfl
    have hname2 : ∀ h, x.enc.cells[0]'h = .str x.name := fun _ => rfl
    by_cases hn : x.name = nm
    · have hidx : named l nm = k := idx_some hx (by simp [hn]) (fun j y hj hy => hpre j y hj hy)
      simp -dsimp [h5, h0, h1, hlt, hx, hx', hag.len, hname, hname2, hn, hidx]
    · simp -dsimp [h5, h0, h1, hlt, hx, hx', hag.len, hname, hname2, hn, hw]
      intro j y hj hy
      by_cases e : j = k
      · subst e; rw [hx] at hy; cases hy; simp [hn]
      · have := hpre j y (by omega) hy; simpa using this
  · have hkl : k = l.length := by omega
    subst hkl
    have hidx : named l nm = -1 := idx_none (fun j y hy => hpre j y (List.getElem?_eq_some_iff.1 hy).1 hy)
    simp -dsimp [h5, h0, h1, hidx]

theorem has6_c (l : List Int) (hl : Short l) (n : Int) : RCall Tryz.prog 62 [.dat (intsD l), .dat (.int .i64 n)] (.dat (.bool (hasI l n))) := by
  unfold Short at hl
  unfold intsD
  refine rcall_of hmix [] Tryz.func62 (by kernel_rfl) rfl (by simp [Tryz.f62]) ?_
  simp -dsimp [Tryz.f62]
  refine awp_loopN l.length (fun k s => s.t 5 = .dat (.int .i64 k) ∧ s.t 0 = .dat (.sl (l.map (.int .i64))) ∧ s.t 1 = .dat (.int .i64 n) ∧ hasI l n = hasI (l.drop k) n) ⟨by simp, by simp, by simp, by simp⟩ ?_
  rintro k s hk ⟨h5, h0, h1, hrest⟩
  by_cases hlt : k < l.length
  · have hw : IntKind.i64.wrap ((k : Int) + 1) = k + 1 := wrap_in (by omega) (by omega)
    obtain ⟨x, hx⟩ : ∃ x, l[k]? = some x := ⟨_, List.getElem?_eq_getElem hlt⟩
    have hx' : l[k] = x := (List.getElem?_eq_some_iff.1 hx).2
    have hdrop : l.drop k = x :: l.drop (k + 1) := by rw [← hx']; exact List.drop_eq_getElem_cons hlt
    rw [hdrop] at hrest
    by_cases hn : x = n
    · have : hasI l n = true := by rw [hrest]; simp [hasI, hn]
      simp -dsimp [h5, h0, h1, hlt, hx, hx', hn, this]
    · have : hasI l n = hasI (l.drop (k + 1)) n := by rw [hrest]; unfold hasI; simp [Ne.symm hn]
      simp -dsimp [h5, h0, h1, hlt, hx, hx', hn, hw, this]
  · have hkl : k = l.length := by omega
    subst hkl
    have : hasI l n = false := by rw [hrest]; simp [hasI]
    simp -dsimp [h5, h0, h1, this]
end Go.Proofs.YtflpgdlgfffigaaGreat
