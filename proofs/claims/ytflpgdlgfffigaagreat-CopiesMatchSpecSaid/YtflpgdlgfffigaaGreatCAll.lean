/- Copies: the list of them. -/
import Derived.Test.YtflpgdlgfffigaaGreatCWanted
set_option linter.unusedSimpArgs false
set_option linter.unusedVariables false
namespace Go.Proofs.YtflpgdlgfffigaaGreat
open Go Go.Abs
set_option maxRecDepth 8000
set_option maxHeartbeats 4000000

theorem copies_all_c (l : List Loaded) (hl : Short l ∧ ∀ x ∈ l, x.WF) (hb : l.length * 384 ≤ 140737488355328) (hok : loadedF l = Fault.ok) :
    RCall Tryz.prog 69 [.dat (.sl (l.map Loaded.enc))] (.dat (.sl ((copiesOf l).map CopyR.enc))) := by
  have hslen := sites_len hok
  refine rcall_range hmix (GrowsC l 52) [1, 3] (roC (.sl (l.map Loaded.enc))) (kb := 3) (caps := [.cptr [.dat (.sl (l.map Loaded.enc))], .cptr [.dat (intsD (orderOf l))]]) (fI := 206) Tryz.func69 (by kernel_rfl) rfl (by simp [Tryz.f69]) ?_ ?_ (wanted1_c l hl hb hok) (by simp) (by kernel_rfl) (by simp [Tryz.f69]) (by kernel_rfl) (by kernel_rfl) (.inl ⟨rfl, rfl⟩) (fun L c h => h.row) ?_ ?_
  · simp -dsimp [Tryz.f69, onlyK]
    refine callA (wanted_c l hl hb hok) ?_ rfl
    simp -dsimp [onlyK]
    intro i hi
    by_cases h1 : i = 1
    · subst h1; right; simp [roC]
    · left; simp [roC, h1]
  · simp [intsD]
  · intro L d c hc hG
    obtain ⟨⟨rest, hrest⟩, y, m, i, e, y2, x, rfl, g1, g3, hy2, hx⟩ := hG
    have hag := Loaded.ag y
    have hagm := Import.ag m
    have hagl2 := Loaded.ag y2
    have hagx := Export.ag x
    have hll : L.length + 1 ≤ 400 := by
      have := congrArg List.length hrest
      simp at this
      omega
    have hb1 : (L.length + 1) * 24 ≤ 140737488355328 := by omega
    have hb2 : L.length ≤ 9223372036854775806 := by omega
    have j4 : y2.enc.cells[4]? = some (.sl (y2.image.exports.map Export.enc)) := rfl
    have j4' : ∀ h, y2.enc.cells[4]'h = .sl (y2.image.exports.map Export.enc) := fun _ => rfl
    have b2 := loaded_19 y2
    have b2' := loaded_19' y2
    have hs := siteD_ag y m i e
    have s19 := site_19 y m i e
    have s26 := site_26 y m i e
    have s27 := site_27 y m i e
    have s28 := site_28 y m i e
    have s29 := site_29 y m i e
    have s19' := site_19' y m i e
    have s26' := site_26' y m i e
    have s27' := site_27' y m i e
    have s28' := site_28' y m i e
    have s29' := site_29' y m i e
    have hrow := rowOf_site l y m i e
    have hfrom : fromOf l i e = W (x.address + y2.bias) := by unfold fromOf; simp only [hy2, hx]
    rw [hfrom] at hrow
    generalize siteD y m i e = sd at *
    rcases hc with ⟨rfl, rfl⟩ | rfl
    · simp -dsimp [onlyK, sR, roC, hs.len, hs.flats, s19, s26, s27, s28, s29, s19', s26', s27', s28', s29', g1, g3, hy2, hx, hagl2.len, hagx.len, j4, j4', b2, b2', Export.enc, W]
      refine And.intro (show orderOk _ _ = true by kernel_rfl) ?_
      simp -dsimp [bodyK, GrowsC, hrow, CopyR.enc, W, hll]
    · simp -dsimp [onlyK, sR, roC, hs.len, hs.flats, s19, s26, s27, s28, s29, s19', s26', s27', s28', s29', g1, g3, hy2, hx, hagl2.len, hagx.len, j4, j4', b2, b2', Export.enc, W]
      refine And.intro (show orderOk _ _ = true by kernel_rfl) ?_
      simp -dsimp [bodyK, GrowsC, hrow, CopyR.enc, W, hb1, hb2]
  · intro c hc
    have hco : (copiesOf l).map CopyR.enc = (sites l).map fun d => (rowOf l d).enc := by simp [copiesOf]
    rw [hco]
    rcases hc with ⟨h0, rfl⟩ | rfl
    · simp -dsimp [onlyK, sR, roC, h0]
    · simp -dsimp [onlyK, sR, roC]
end Go.Proofs.YtflpgdlgfffigaaGreat
