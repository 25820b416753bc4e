/- Loaded images: the check, the calls. -/
import Derived.Test.YtflpgdlgfffigaaGreatCoreC
import Derived.Test.YtflpgdlgfffigaaGreatCSorted
set_option linter.unusedSimpArgs false
set_option linter.unusedVariables false
namespace Go.Proofs.YtflpgdlgfffigaaGreat
open Go Go.Abs
set_option maxRecDepth 8000
set_option maxHeartbeats 4000000

def imgD (l : List Loaded) (k : Nat) : List Dat := (l.take k).map fun x => x.image.enc
theorem images_c (l : List Loaded) (hb : l.length * 384 ≤ 140737488355328) : RCall Tryz.prog 70 [.dat (.sl (l.map Loaded.enc))] (.dat (.sl ((imagesOf l).map Image.enc))) := by
  refine rcall_of hmix [] Tryz.func70 (by kernel_rfl) rfl (by simp [Tryz.f70]) ?_
  simp -dsimp [Tryz.f70]
  refine awp_loopN l.length (fun k s => s.t 8 = .dat (.int .i64 k) ∧ s.t 7 = .dat (.int .i64 l.length) ∧ s.t 6 = .dat (.sl (l.map Loaded.enc)) ∧ GrowsR [16] 80 19 (s.t 3) (imgD l k)) ⟨by simp, by simp, by simp, .inl ⟨rfl, by simp⟩⟩ ?_
  rintro k s hk ⟨h8, h7, h6, hgr⟩
  by_cases hlt : k < l.length
  · have hw : IntKind.i64.wrap ((k : Int) + 1) = k + 1 := wrap_in (by omega) (by omega)
    obtain ⟨x, hx⟩ : ∃ x, l[k]? = some x := ⟨_, List.getElem?_eq_getElem hlt⟩
    have hx' : l[k] = x := (List.getElem?_eq_some_iff.1 hx).2
    have htake : imgD l (k + 1) = imgD l k ++ [x.image.enc] := by unfold imgD; rw [List.take_succ_eq_append_getElem hlt, hx', List.map_append]; rfl
    have hag := Loaded.ag x
    have hagi := Image.ag x.image
    have hit := loaded_take x
    have hfl : ∀ c ∈ x.image.enc.cells, c.flat = true := by
      have := hagi.flats
      rw [List.all_eq_true] at this
      intro c hc
      exact this (.dat c) (List.mem_map.2 ⟨c, hc, rfl⟩)
    have hfla : x.image.enc.cells.all Dat.flat = true := List.all_eq_true.2 hfl
    have hlen : (imgD l k).length = k := by simp [imgD]; omega
    have b1 : (k + 1) * 384 ≤ 140737488355328 := by omega
    have b2 : k + 1 ≤ 9223372036854775807 := by omega
    generalize imgD l k = ys at hgr hlen htake
    rcases hgr with ⟨hy, h3⟩ | ⟨d, hd, h3⟩
    · subst hy
      simp -dsimp [h8, h7, h6, h3, hlt, hx, hx', hag.len, hag.ld, hag.mkT, hag.flats, hagi.len, hagi.flats, hfla, hit, hw, hlt, htake, hagi.mk, hagi.mkT]
      exact .inr ⟨16, by simp, rfl⟩
    · simp only [List.mem_singleton] at hd
      subst hd
      simp -dsimp [h8, h7, h6, h3, hlt, hx, hx', hag.len, hag.ld, hag.mkT, hag.flats, hagi.len, hagi.flats, hfla, hit, hw, hlt, htake, hlen, b1, b2, hagi.mk, hagi.mkT]
      exact .inr ⟨16, by simp, rfl⟩
  · have hkl : k = l.length := by omega
    subst hkl
    unfold imgD at hgr
    rw [List.take_length] at hgr
    have hfin : (imagesOf l).map Image.enc = l.map fun x => x.image.enc := by simp [imagesOf]
    rw [hfin]
    rcases hgr with ⟨hy, h3⟩ | ⟨d, hd, h3⟩
    · simp -dsimp [h8, h7, h6, h3, hy]
    · simp -dsimp [h8, h7, h6, h3]

theorem check_loaded_c (l : List Loaded) (hl : Short l ∧ ∀ x ∈ l, x.WF) (hb : l.length * 384 ≤ 140737488355328) : RCall Tryz.prog 65 [.dat (.sl (l.map Loaded.enc))] (.dat (loadedF l).enc) := by
  have himg := images_c l hb
  have hwf := imagesOf_wf hl
  have hchk := check_images_c (imagesOf l) hwf
  rcases fault_cases (checkF (imagesOf l)) with hs | ⟨c, n, hs, hne, hcn⟩
  · rw [hs] at hchk
    simp only [Fault.enc, Fault.ok] at hchk
    obtain ⟨hc1, hc2, hc3⟩ := check_all hs
    rw [imagesOf_len] at hc1 hc2
    have hneeds := needs_c (imagesOf l) hwf (by rw [imagesOf_len]; omega) (fun x hx => by have := image_needs (check_img hs hx); omega)
    have hF : loadedF l = if ¬ loadedFrom 0 l = Fault.ok then loadedFrom 0 l else needsFault (imagesOf l) := by unfold loadedF; rw [if_neg (by simp [hs])]
    refine rcall_of hmix [] Tryz.func65 (by kernel_rfl) rfl (by simp [Tryz.f65]) ?_
    simp -dsimp [Tryz.f65]
    refine callA himg ?_ rfl
    simp -dsimp
    refine callA hchk ?_ rfl
    simp -dsimp [Fault.enc]
    refine awp_loopN l.length (fun k s => s.t 18 = .dat (.int .i64 k) ∧ s.t 17 = .dat (.int .i64 l.length) ∧ s.t 16 = .dat (.sl (l.map Loaded.enc)) ∧ s.t 0 = .dat (.sl (l.map Loaded.enc)) ∧ s.t 2 = .bptr 2 0 ∧ s.h 2 = some [.dat (.int .i64 0), .dat (.int .i64 0)] ∧ loadedFrom 0 l = loadedFrom k (l.drop k)) ⟨by simp, by simp, by simp, by simp, by simp, by simp, by simp⟩ ?_
    rintro k s hk ⟨h18, h17, h16, h0, h2, hh2, hrest⟩
    by_cases hlt : k < l.length
    · have hw : IntKind.i64.wrap ((k : Int) + 1) = k + 1 := wrap_in (by omega) (by omega)
      obtain ⟨x, hx⟩ : ∃ x, l[k]? = some x := ⟨_, List.getElem?_eq_getElem hlt⟩
      have hx' : l[k] = x := (List.getElem?_eq_some_iff.1 hx).2
      have hdrop : l.drop k = x :: l.drop (k + 1) := by rw [← hx']; exact List.drop_eq_getElem_cons hlt
      rw [hdrop] at hrest
      have hag := Loaded.ag x
      have e1 := loaded_19 x
      have e2 := loaded_20 x
      have e3 := loaded_21 x
      have e1' := loaded_19' x
      have e2' := loaded_20' x
      have e3' := loaded_21' x
      simp -dsimp [h18, h17, h16, h0, h2, hh2, hlt, hx, hx', hag.len, hag.ld, hag.mkT, hag.flats, e1, e2, e3, e1', e2', e3']
      by_cases hbad : badLoaded x
      · have : loadedFrom k (x :: l.drop (k + 1)) = ⟨3, k⟩ := by conv => lhs; unfold loadedFrom
                                                                 rw [if_pos hbad]
        rw [this] at hrest
        have hres : loadedF l = ⟨3, k⟩ := by rw [hF, hrest, if_pos (by simp [Fault.ok])]
        unfold badLoaded at hbad
        rw [hres]
        repeat' (first | (refine gif ?_ ?_ <;> intro h <;> (try simp only [Bool.not_eq_eq_eq_not, Bool.not_true, Bool.not_false, decide_eq_true_eq, decide_eq_false_iff_not] at h) <;> (try simp -dsimp [h, e1, e2, e3, e1', e2', e3', hag.len, h2, hh2, h18, h17, h16, h0, Fault.enc])) | (refine And.intro (show orderOk _ _ = true by kernel_rfl) ?_) | (show orderOk _ _ = true; kernel_rfl))
        all_goals first | (exfalso; omega) | (simp_all; done)
      · have : loadedFrom k (x :: l.drop (k + 1)) = loadedFrom (k + 1) (l.drop (k + 1)) := by conv => lhs; unfold loadedFrom
                                                                                              rw [if_neg hbad]
        rw [this] at hrest
        unfold badLoaded at hbad
        repeat' (first | (refine gif ?_ ?_ <;> intro h <;> (try simp only [Bool.not_eq_eq_eq_not, Bool.not_true, Bool.not_false, decide_eq_true_eq, decide_eq_false_iff_not] at h) <;> (try simp -dsimp [h, e1, e2, e3, e1', e2', e3', hag.len, h2, hh2, h18, h17, h16, h0, hw, hlt, Fault.enc])) | (refine And.intro (show orderOk _ _ = true by kernel_rfl) ?_) | (show orderOk _ _ = true; kernel_rfl))
        all_goals first | (exfalso; omega) | exact hrest
    · have hkl : k = l.length := by omega
      subst hkl
      have hok : loadedFrom 0 l = Fault.ok := by rw [hrest]; simp [loadedFrom]
      have hF2 : loadedF l = needsFault (imagesOf l) := by rw [hF, if_neg (by simp [hok])]
      rw [hF2]
      unfold needsFault
      cases hm : missing (imagesOf l) with
      | some i =>
        rw [needsR_bad hm] at hneeds
        simp -dsimp [h18, h17, h16, h0, h2, hh2]
        refine callA himg ?_ rfl
        simp -dsimp
        refine callA hneeds ?_ rfl
        simp -dsimp [h2, hh2, Fault.enc]
      | none =>
        rw [needsR_ok hm] at hneeds
        simp -dsimp [h18, h17, h16, h0, h2, hh2]
        refine callA himg ?_ rfl
        simp -dsimp
        refine callA hneeds ?_ rfl
        simp -dsimp [h2, hh2, Fault.enc, Fault.ok]
  · have hF : loadedF l = ⟨c, n⟩ := by unfold loadedF; rw [if_pos hne, hs]
    rw [hs] at hchk
    simp only [Fault.enc] at hchk
    rw [hF]
    refine rcall_of hmix [] Tryz.func65 (by kernel_rfl) rfl (by simp [Tryz.f65]) ?_
    simp -dsimp [Tryz.f65]
    refine callA himg ?_ rfl
    simp -dsimp
    refine callA hchk ?_ rfl
    simp -dsimp [Fault.enc, hcn]
end Go.Proofs.YtflpgdlgfffigaaGreat
