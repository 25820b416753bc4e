/- The references: images of loaded ones. -/
import Derived.Test.YtflpgdlgfffigaaGreatCLoaded
set_option linter.unusedSimpArgs false
set_option linter.unusedVariables false
namespace Go.Proofs.YtflpgdlgfffigaaGreat
open Go Go.Abs
set_option maxRecDepth 8000
set_option maxHeartbeats 4000000

theorem imagesOf6_c (l : List Loaded) (hb : l.length * 384 ≤ 140737488355328) : RCall Tryz.prog 67 [.dat (.sl (l.map Loaded.enc))] (.dat (.sl ((imagesOf l).map Image.enc))) := by
  refine rcall_of hmix [] Tryz.func67 (by kernel_rfl) rfl (by simp [Tryz.f67]) ?_
  simp -dsimp [Tryz.f67]
  refine awp_loopN l.length (fun k s => s.t 4 = .dat (.int .i64 k) ∧ s.t 0 = .dat (.sl (l.map Loaded.enc)) ∧ GrowsR [18] 80 19 (s.t 3) (imgD l k)) ⟨by simp, by simp, .inl ⟨rfl, by simp⟩⟩ ?_
  rintro k s hk ⟨h4, h0, hgr⟩
  by_cases hlt : k < l.length
  · have hw : IntKind.i64.wrap ((k : Int) + 1) = k + 1 := wrap_in (by omega) (by omega)
    obtain ⟨x, hx⟩ : ∃ x, l[k]? = some x := ⟨_, List.getElem?_eq_getElem hlt⟩
    have hx' : l[k] = x := (List.getElem?_eq_some_iff.1 hx).2
    have htake : imgD l (k + 1) = imgD l k ++ [x.image.enc] := by unfold imgD; rw [List.take_succ_eq_append_getElem hlt, hx', List.map_append]; rfl
    have hag := Loaded.ag x
    have hagi := Image.ag x.image
    have hit := loaded_take x
    have hfl : ∀ c ∈ x.image.enc.cells, c.flat = true := by
      have := hagi.flats
      rw [List.all_eq_true] at this
      intro c hc
      exact this (.dat c) (List.mem_map.2 ⟨c, hc, rfl⟩)
    have hfla : x.image.enc.cells.all Dat.flat = true := List.all_eq_true.2 hfl
    have hlen : (imgD l k).length = k := by simp [imgD]; omega
    have b1 : (k + 1) * 384 ≤ 140737488355328 := by omega
    have b2 : k + 1 ≤ 9223372036854775807 := by omega
    generalize imgD l k = ys at hgr hlen htake
    rcases hgr with ⟨hy, h3⟩ | ⟨d, hd, h3⟩
    · subst hy
      simp -dsimp [h4, h0, h3, hlt, hx, hx', hag.len, hag.ld, hag.mkT, hag.flats, hagi.len, hagi.flats, hfla, hit, hw, hlt, htake, hagi.mk, hagi.mkT]
      exact .inr ⟨18, by simp, rfl⟩
    · simp only [List.mem_singleton] at hd
      subst hd
      simp -dsimp [h4, h0, h3, hlt, hx, hx', hag.len, hag.ld, hag.mkT, hag.flats, hagi.len, hagi.flats, hfla, hit, hw, hlt, htake, hlen, b1, b2, hagi.mk, hagi.mkT]
      exact .inr ⟨18, by simp, rfl⟩
  · have hkl : k = l.length := by omega
    subst hkl
    unfold imgD at hgr
    rw [List.take_length] at hgr
    have hfin : (imagesOf l).map Image.enc = l.map fun x => x.image.enc := by simp [imagesOf]
    rw [hfin]
    rcases hgr with ⟨hy, h3⟩ | ⟨d, hd, h3⟩
    · simp -dsimp [h4, h0, h3, hy]
    · simp -dsimp [h4, h0, h3]
end Go.Proofs.YtflpgdlgfffigaaGreat
