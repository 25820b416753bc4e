/- Scope: the check of a list of images. -/
import Derived.Test.YtflpgdlgfffigaaGreatCoreB
import Derived.Test.YtflpgdlgfffigaaGreatCImg
set_option linter.unusedSimpArgs false
set_option linter.unusedVariables false
namespace Go.Proofs.YtflpgdlgfffigaaGreat
open Go Go.Abs
set_option maxRecDepth 8000
set_option maxHeartbeats 4000000

theorem check_images_c (l : List Image) (hl : Short l ∧ ∀ x ∈ l, x.WF) : RCall Tryz.prog 50 [.dat (.sl (l.map Image.enc))] (.dat (checkF l).enc) := by
  have hll := hl.1
  unfold Short at hll
  by_cases hbad : l.length = 0 ∨ 5 < (l.length : Int)
  · have hF : checkF l = ⟨2, -1⟩ := by unfold checkF; rw [if_pos hbad]
    rw [hF]
    refine rcall_of hmix [] Tryz.func50 (by kernel_rfl) rfl (by simp [Tryz.f50]) ?_
    simp -dsimp [Tryz.f50]
    repeat' (first | (refine gif ?_ ?_ <;> intro h <;> (try simp only [Bool.not_eq_eq_eq_not, Bool.not_true, Bool.not_false, decide_eq_true_eq, decide_eq_false_iff_not] at h) <;> (try simp -dsimp [h, Fault.enc])) | (refine And.intro (show orderOk _ _ = true by kernel_rfl) ?_) | (show orderOk _ _ = true; kernel_rfl))
    all_goals (simp_all; try omega)
  · have hF : checkF l = checkFrom l 0 l := by unfold checkF; rw [if_neg hbad]
    rw [hF]
    have hne : ¬ l = [] := by intro e; apply hbad; left; simp [e]
    have h5 : ¬ 5 < (l.length : Int) := by omega
    have h00 : ¬ (l.length = 0) := by omega
    refine rcall_of hmix [] Tryz.func50 (by kernel_rfl) rfl (by simp [Tryz.f50]) ?_
    simp -dsimp [Tryz.f50, hne, h5, h00]
    refine awp_loopN l.length (fun k s => s.t 17 = .dat (.int .i64 k) ∧ s.t 16 = .dat (.int .i64 l.length) ∧ s.t 15 = .dat (.sl (l.map Image.enc)) ∧ s.t 0 = .dat (.sl (l.map Image.enc)) ∧ s.t 2 = .bptr 2 0 ∧ s.h 2 = some [.dat (.int .i64 0), .dat (.int .i64 0)] ∧ checkFrom l 0 l = checkFrom l k (l.drop k)) ⟨by simp, by simp, by simp, by simp, by simp, by simp, by simp⟩ ?_
    rintro k s hk ⟨h17, h16, h15, h0, h2, hh2, hrest⟩
    by_cases hlt : k < l.length
    · have hw : IntKind.i64.wrap ((k : Int) + 1) = k + 1 := wrap_in (by omega) (by omega)
      obtain ⟨x, hx⟩ : ∃ x, l[k]? = some x := ⟨_, List.getElem?_eq_getElem hlt⟩
      have hx' : l[k] = x := (List.getElem?_eq_some_iff.1 hx).2
      have hxw : x.WF := hl.2 x (List.mem_of_getElem? hx)
      have hdrop : l.drop k = x :: l.drop (k + 1) := by rw [← hx']; exact List.drop_eq_getElem_cons hlt
      rw [hdrop] at hrest
      have hag := Image.ag x
      have himg := image_c x hxw
      have hnm := named_c (l.take k) (by unfold Short; simp; omega) x.name
      rw [List.map_take] at hnm
      have hle : (k : Int) ≤ l.length := by omega
      have hname : ∀ (f : Dat → PVal), (x.enc.cells.map f)[0]? = some (f (.str x.name)) := fun f => rfl
      rcases fault_cases (imageF x) with hs | ⟨c, n, hs, hne2, hcn⟩
      · rw [hs] at himg
        simp only [Fault.enc, Fault.ok] at himg
        simp -dsimp [h17, h16, h15, h0, h2, hh2, hlt, hx, hx', hag.len, hag.ld, hag.mkT, hag.flats]
        refine callA himg ?_ rfl
        simp -dsimp [h17, h16, h15, h0, h2, hh2, hlt, hx, hx', hag.len, hag.ld, hag.mkT, hag.flats, Fault.enc, hle, hname]
        refine callA hnm ?_ rfl
        simp -dsimp [h17, h16, h15, h0, h2, hh2]
        refine ⟨by kernel_rfl, ?_⟩
        refine gif ?_ ?_
        · intro h
          simp at h
          have : checkFrom l k (x :: l.drop (k + 1)) = ⟨7, k⟩ := by unfold checkFrom checkOne; simp [hs, h, Fault.ok]
          rw [this] at hrest
          simp -dsimp [h17, h16, h15, h0, h2, hh2, hrest, Fault.enc]
        · intro h
          simp at h
          have : checkFrom l k (x :: l.drop (k + 1)) = checkFrom l (k + 1) (l.drop (k + 1)) := by
            have hone : checkOne l k x = Fault.ok := by unfold checkOne; rw [if_neg (by simp [hs]), if_neg (by omega)]
            conv => lhs; unfold checkFrom
            rw [if_pos hone]
          rw [this] at hrest
          simp -dsimp [h17, h16, h15, h0, h2, hh2, hrest, hw, hlt]
      · rw [hs] at himg
        simp only [Fault.enc] at himg
        have : checkFrom l k (x :: l.drop (k + 1)) = ⟨c, k⟩ := by
          have hone : checkOne l k x = ⟨c, k⟩ := by unfold checkOne; rw [if_pos hne2, hs]
          have hc0 : ¬ c = 0 := image_code hs hne2
          conv => lhs; unfold checkFrom
          rw [hone, if_neg (by simp [Fault.ok, hc0])]
        rw [this] at hrest
        simp -dsimp [h17, h16, h15, h0, h2, hh2, hlt, hx, hx', hag.len, hag.ld, hag.mkT, hag.flats]
        refine callA himg ?_ rfl
        simp -dsimp [h17, h16, h15, h0, h2, hh2, hcn, hrest, Fault.enc]
    · have hkl : k = l.length := by omega
      subst hkl
      have : checkFrom l 0 l = Fault.ok := by rw [hrest]; simp [checkFrom]
      simp -dsimp [h17, h16, h15, h0, h2, hh2, this, Fault.enc, Fault.ok]
end Go.Proofs.YtflpgdlgfffigaaGreat
