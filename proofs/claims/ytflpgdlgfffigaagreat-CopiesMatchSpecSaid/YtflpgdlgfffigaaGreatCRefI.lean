/- The references: loaded images. -/
import Derived.Test.YtflpgdlgfffigaaGreatCRefH
import Derived.Test.YtflpgdlgfffigaaGreatCRefI0
set_option linter.unusedSimpArgs false
set_option linter.unusedVariables false
namespace Go.Proofs.YtflpgdlgfffigaaGreat
open Go Go.Abs
set_option maxRecDepth 8000
set_option maxHeartbeats 4000000

theorem loadedFault_c (l : List Loaded) (hl : Short l ∧ ∀ x ∈ l, x.WF) (hb : l.length * 384 ≤ 140737488355328) : RCall Tryz.prog 24 [.dat (.sl (l.map Loaded.enc))] (.dat (loadedF l).enc) := by
  have himg := imagesOf6_c l hb
  have hwf := imagesOf_wf hl
  have hchk := imagesFault_c (imagesOf l) hwf
  have hneeds := needsFault_c (imagesOf l) hwf
  rcases fault_cases (checkF (imagesOf l)) with hs | ⟨c, n, hs, hne, hcn⟩
  · rw [hs] at hchk
    simp only [Fault.enc, Fault.ok] at hchk
    have hF : loadedF l = if ¬ loadedFrom 0 l = Fault.ok then loadedFrom 0 l else needsFault (imagesOf l) := by unfold loadedF; rw [if_neg (by simp [hs])]
    refine rcall_of hmix [] Tryz.func24 (by kernel_rfl) rfl (by simp [Tryz.f24]) ?_
    simp -dsimp [Tryz.f24]
    refine callA himg ?_ rfl
    simp -dsimp
    refine callA hchk ?_ rfl
    simp -dsimp [Fault.enc]
    refine awp_loopN l.length (fun k s => s.t 5 = .dat (.int .i64 k) ∧ s.t 0 = .dat (.sl (l.map Loaded.enc)) ∧ s.t 3 = .dat (.sl ((imagesOf l).map Image.enc)) ∧ s.t 2 = .bptr 2 0 ∧ s.h 2 = some [.dat (.int .i64 0), .dat (.int .i64 0)] ∧ loadedFrom 0 l = loadedFrom k (l.drop k)) ⟨by simp, by simp, by simp, by simp, by simp, by simp⟩ ?_
    rintro k s hk ⟨h5, h0, h3, h2, hh2, hrest⟩
    by_cases hlt : k < l.length
    · have hw : IntKind.i64.wrap ((k : Int) + 1) = k + 1 := wrap_in (by omega) (by omega)
      obtain ⟨x, hx⟩ : ∃ x, l[k]? = some x := ⟨_, List.getElem?_eq_getElem hlt⟩
      have hx' : l[k] = x := (List.getElem?_eq_some_iff.1 hx).2
      have hdrop : l.drop k = x :: l.drop (k + 1) := by rw [← hx']; exact List.drop_eq_getElem_cons hlt
      rw [hdrop] at hrest
      have hag := Loaded.ag x
      have e1 := loaded_19 x
      have e2 := loaded_20 x
      have e3 := loaded_21 x
      have e1' := loaded_19' x
      have e2' := loaded_20' x
      have e3' := loaded_21' x
      simp -dsimp [h5, h0, h3, h2, hh2, hlt, hx, hx', hag.len, hag.ld, hag.mkT, hag.flats, e1, e2, e3, e1', e2', e3']
      by_cases hbad : badLoaded x
      · have : loadedFrom k (x :: l.drop (k + 1)) = ⟨3, k⟩ := by conv => lhs; unfold loadedFrom
                                                                 rw [if_pos hbad]
        rw [this] at hrest
        have hres : loadedF l = ⟨3, k⟩ := by rw [hF, hrest, if_pos (by simp [Fault.ok])]
        unfold badLoaded at hbad
        rw [hres]
        repeat' (first | (refine gif ?_ ?_ <;> intro h <;> (try simp only [Bool.not_eq_eq_eq_not, Bool.not_true, Bool.not_false, decide_eq_true_eq, decide_eq_false_iff_not] at h) <;> (try simp -dsimp [h, e1, e2, e3, e1', e2', e3', hag.len, h2, hh2, h5, h3, h0, Fault.enc])) | (refine And.intro (show orderOk _ _ = true by kernel_rfl) ?_) | (show orderOk _ _ = true; kernel_rfl) | (refine callA (in6_c _ _ _) ?_ rfl; simp -dsimp [e1, e2, e3, e1', e2', e3', hag.len, h2, hh2, h5, h3, h0]) | (refine callA (at6_c _ _) ?_ rfl; simp -dsimp [h2, hh2, Fault.enc]))
        all_goals (try simp only [inB_true, inB_false] at *)
        all_goals first | (exfalso; omega) | (simp_all; done)
      · have : loadedFrom k (x :: l.drop (k + 1)) = loadedFrom (k + 1) (l.drop (k + 1)) := by conv => lhs; unfold loadedFrom
                                                                                              rw [if_neg hbad]
        rw [this] at hrest
        unfold badLoaded at hbad
        repeat' (first | (refine gif ?_ ?_ <;> intro h <;> (try simp only [Bool.not_eq_eq_eq_not, Bool.not_true, Bool.not_false, decide_eq_true_eq, decide_eq_false_iff_not] at h) <;> (try simp -dsimp [h, e1, e2, e3, e1', e2', e3', hag.len, h2, hh2, h5, h3, h0, hw, hlt, Fault.enc])) | (refine And.intro (show orderOk _ _ = true by kernel_rfl) ?_) | (show orderOk _ _ = true; kernel_rfl) | (refine callA (in6_c _ _ _) ?_ rfl; simp -dsimp [e1, e2, e3, e1', e2', e3', hag.len, h2, hh2, h5, h3, h0, hw, hlt]) | (refine callA (at6_c _ _) ?_ rfl; simp -dsimp [h2, hh2, Fault.enc]))
        all_goals (try simp only [inB_true, inB_false] at *)
        all_goals first | (exfalso; omega) | exact hrest
    · have hkl : k = l.length := by omega
      subst hkl
      have hok : loadedFrom 0 l = Fault.ok := by rw [hrest]; simp [loadedFrom]
      have hF2 : loadedF l = needsFault (imagesOf l) := by rw [hF, if_neg (by simp [hok])]
      rw [hF2]
      generalize needsFault (imagesOf l) = nf at *
      obtain ⟨fc, fn⟩ := nf
      simp only [Fault.enc] at hneeds
      simp -dsimp [h5, h3, h0, h2, hh2]
      refine callA hneeds ?_ rfl
      simp -dsimp [h2, hh2, Fault.enc]
  · have hF : loadedF l = ⟨c, n⟩ := by unfold loadedF; rw [if_pos hne, hs]
    rw [hs] at hchk
    simp only [Fault.enc] at hchk
    rw [hF]
    refine rcall_of hmix [] Tryz.func24 (by kernel_rfl) rfl (by simp [Tryz.f24]) ?_
    simp -dsimp [Tryz.f24]
    refine callA himg ?_ rfl
    simp -dsimp
    refine callA hchk ?_ rfl
    have hc0 : ¬ c = 0 := by
      rcases good_check (imagesOf l) with g | g
      · exact absurd g hne
      · rw [hs] at g; exact g
    simp -dsimp [Fault.enc, hcn, hc0]
end Go.Proofs.YtflpgdlgfffigaaGreat
