/- The references: type records, lists of images. -/
import Derived.Test.YtflpgdlgfffigaaGreatCRefD2
import Derived.Test.YtflpgdlgfffigaaGreatCRefF
import Derived.Test.YtflpgdlgfffigaaGreatCRefG
set_option linter.unusedSimpArgs false
set_option linter.unusedVariables false
namespace Go.Proofs.YtflpgdlgfffigaaGreat
open Go Go.Abs
set_option maxRecDepth 8000
set_option maxHeartbeats 4000000

theorem typeCode2_c (l : List TypeR) (hl : Short l ∧ ∀ t ∈ l, t.WF) (i : Nat) (t : TypeR) (ht : l[i]? = some t) (hpre : ∀ j, j < i → typeCode l j = 0) : RCall Tryz.prog 122 [.dat (.sl (l.map TypeR.enc)), .dat (.int .i64 i)] (.dat (.int .i64 (typeCode l i))) := by
  have hcode : typeCode l i = typeOne l i t := by unfold typeCode; rw [ht]
  rw [hcode]
  by_cases hk0 : t.kind < 1 ∨ 4 < t.kind
  · exact typeCode2_0 l hl i t ht hk0
  by_cases h4 : t.kind = 4
  · exact typeCode2_4 l hl i t ht hpre h4
  by_cases hf : t.fields = []
  · have h : t.kind = 1 ∨ t.kind = 2 ∨ t.kind = 3 := by omega
    rcases h with h | h | h
    · exact typeCode2_1 l hl i t ht hf h
    · exact typeCode2_2 l hl i t ht hf h
    · by_cases hel : 0 ≤ t.elem ∧ t.elem < l.length
      · by_cases he0 : t.elem = 0
        · exact typeCode2_3z l hl i t ht hf h he0
        · exact typeCode2_3n l hl i t ht hf h hel he0
      · exact typeCode2_3o l hl i t ht hf h hel
  · exact typeCode2_f l hl i t ht hf h4 (by omega)

theorem typesFault_c (l : List TypeR) (hl : Short l ∧ ∀ t ∈ l, t.WF) : RCall Tryz.prog 59 [.dat (.sl (l.map TypeR.enc))] (.dat (typesF l).enc) := by
  have hll := hl.1
  unfold Short at hll
  refine rcall_of hmix [] Tryz.func59 (by kernel_rfl) rfl (by simp [Tryz.f59]) ?_
  simp -dsimp [Tryz.f59]
  refine gif ?_ ?_
  · intro h
    simp at h
    simp -dsimp
    refine callA (at1_c _ _) ?_ rfl
    simp -dsimp [typesF, h, Fault.enc]
  · intro h
    simp at h
    simp -dsimp
    have he : typesF l = firstF ((List.range l.length).map fun i => if typeCode l i = 0 then Fault.ok else ⟨typeCode l i, i⟩) := by unfold typesF; rw [if_neg (by omega)]
    refine awp_loopN l.length (fun k s => s.t 3 = .dat (.int .i64 k) ∧ s.t 0 = .dat (.sl (l.map TypeR.enc)) ∧ s.t 2 = .bptr 2 0 ∧ s.h 2 = some [.dat (.int .i64 0), .dat (.int .i64 0)] ∧ (∀ j, j < k → typeCode l j = 0) ∧ typesF l = firstF (((List.range l.length).map fun i => if typeCode l i = 0 then Fault.ok else ⟨typeCode l i, i⟩).drop k)) ⟨by simp, by simp, by simp, by simp, by omega, by simpa using he⟩ ?_
    rintro k s hk ⟨h3, h0, h2, hh2, hpre, hrest⟩
    by_cases hlt : k < l.length
    · obtain ⟨t, ht⟩ : ∃ t, l[k]? = some t := ⟨_, List.getElem?_eq_getElem hlt⟩
      have hw : IntKind.i64.wrap ((k : Int) + 1) = k + 1 := wrap_in (by omega) (by omega)
      rw [drop_rangeMap _ hlt] at hrest
      have htc := typeCode2_c l hl k t ht hpre
      simp -dsimp [h3, h0, h2, hh2, hlt]
      refine callA htc ?_ rfl
      by_cases hc : typeCode l k = 0
      · rw [firstF_ok (by rw [if_pos hc])] at hrest
        simp -dsimp [h3, h0, h2, hh2, hc, hw, hlt]
        refine ⟨fun j hj => ?_, hrest⟩
        by_cases e : j = k
        · subst e; exact hc
        · exact hpre j (by omega)
      · rw [if_neg hc, firstF_ne (by rw [fault_ok]; simp [hc])] at hrest
        simp -dsimp [h3, h0, h2, hh2, hc]
        refine callA htc ?_ rfl
        simp -dsimp [h3, h0, h2, hh2, hc]
        refine callA (at1_c _ _) ?_ rfl
        simp -dsimp [h2, hh2, hrest, Fault.enc]
    · have hkl : k = l.length := by omega
      subst hkl
      rw [drop_rangeMap_end] at hrest
      simp -dsimp [h3, h0, h2, hh2, hrest, firstF, Fault.enc, Fault.ok]

theorem imagesFault_c (l : List Image) (hl : Short l ∧ ∀ x ∈ l, x.WF) : RCall Tryz.prog 14 [.dat (.sl (l.map Image.enc))] (.dat (checkF l).enc) := by
  have hll := hl.1
  unfold Short at hll
  by_cases hbad : l.length = 0 ∨ 5 < (l.length : Int)
  · have hF : checkF l = ⟨2, -1⟩ := by unfold checkF; rw [if_pos hbad]
    have hin : inB l.length 1 5 = false := by rw [inB_false]; omega
    rw [hF]
    refine rcall_of hmix [7000004] Tryz.func14 (by kernel_rfl) rfl (by simp [Tryz.f14]) ?_
    simp -dsimp [Tryz.f14]
    refine callA (in6_c _ _ _) ?_ rfl
    simp -dsimp [hin]
    refine callA (at6_c _ _) ?_ rfl
    simp -dsimp [Fault.enc]
  · have hF : checkF l = checkFrom l 0 l := by unfold checkF; rw [if_neg hbad]
    rw [hF]
    have hin : inB l.length 1 5 = true := by rw [inB_true]; omega
    refine rcall_of hmix [7000004] Tryz.func14 (by kernel_rfl) rfl (by simp [Tryz.f14]) ?_
    simp -dsimp [Tryz.f14]
    refine callA (in6_c _ _ _) ?_ rfl
    simp -dsimp [hin]
    refine awp_loopN l.length (fun k s => s.t 3 = .dat (.int .i64 k) ∧ s.t 0 = .dat (.sl (l.map Image.enc)) ∧ s.t 2 = .bptr 2 0 ∧ s.h 2 = some [.dat (.int .i64 0), .dat (.int .i64 0)] ∧ checkFrom l 0 l = checkFrom l k (l.drop k)) ⟨by simp, by simp, by simp, by simp, by simp⟩ ?_
    rintro k s hk ⟨h3, h0, h2, hh2, hrest⟩
    by_cases hlt : k < l.length
    · have hw : IntKind.i64.wrap ((k : Int) + 1) = k + 1 := wrap_in (by omega) (by omega)
      obtain ⟨x, hx⟩ : ∃ x, l[k]? = some x := ⟨_, List.getElem?_eq_getElem hlt⟩
      have hx' : l[k] = x := (List.getElem?_eq_some_iff.1 hx).2
      have hxw : x.WF := hl.2 x (List.mem_of_getElem? hx)
      have hdrop : l.drop k = x :: l.drop (k + 1) := by rw [← hx']; exact List.drop_eq_getElem_cons hlt
      rw [hdrop] at hrest
      have hag := Image.ag x
      have himg := imageFault_c x hxw
      have hty := typesFault_c x.types hxw.types
      have hnm := named6_c (l.take k) (by unfold Short; simp; omega) x.name
      rw [List.map_take] at hnm
      have hle : (k : Int) ≤ l.length := by omega
      have e16 : x.enc.cells[16]? = some (.sl (x.types.map TypeR.enc)) := rfl
      have e16' : ∀ h, x.enc.cells[16]'h = .sl (x.types.map TypeR.enc) := fun _ => rfl
      have e0 : x.enc.cells[0]? = some (.str x.name) := rfl
      have e0' : ∀ h, x.enc.cells[0]'h = .str x.name := fun _ => rfl
      generalize typesF x.types = tf at himg hty
      obtain ⟨tc, tn⟩ := tf
      simp only [Fault.enc] at himg hty
      rcases fault_cases (imageF x) with hs | ⟨c, n, hs, hne2, hcn⟩
      · rw [hs] at himg
        simp only [Fault.enc, Fault.ok] at himg
        simp -dsimp [h3, h0, h2, hh2, hlt, hx, hx', hag.len, hag.ld, hag.mkT, hag.flats, e16, e16']
        refine callA hty ?_ rfl
        simp -dsimp [h3, h0, h2, hh2, hlt, hx, hx', hag.len, hag.ld, hag.mkT, hag.flats]
        refine callA himg ?_ rfl
        simp -dsimp [h3, h0, h2, hh2, hlt, hx, hx', hag.len, hag.ld, hag.mkT, hag.flats, hle, e0, e0']
        refine ⟨show orderOk _ _ = true by kernel_rfl, ?_⟩
        refine callA hnm ?_ rfl
        simp -dsimp [h3, h0, h2, hh2]
        refine ⟨show orderOk _ _ = true by kernel_rfl, ?_⟩
        refine gif ?_ ?_
        · intro h
          simp at h
          have : checkFrom l k (x :: l.drop (k + 1)) = ⟨7, k⟩ := by unfold checkFrom checkOne; simp [hs, h, Fault.ok]
          rw [this] at hrest
          simp -dsimp [h3, h0, h2, hh2]
          refine callA (at6_c _ _) ?_ rfl
          simp -dsimp [h2, hh2, hrest, Fault.enc]
        · intro h
          simp at h
          have : checkFrom l k (x :: l.drop (k + 1)) = checkFrom l (k + 1) (l.drop (k + 1)) := by
            have hone : checkOne l k x = Fault.ok := by unfold checkOne; rw [if_neg (by simp [hs]), if_neg (by omega)]
            conv => lhs; unfold checkFrom
            rw [if_pos hone]
          rw [this] at hrest
          simp -dsimp [h3, h0, h2, hh2, hrest, hw, hlt]
      · rw [hs] at himg
        simp only [Fault.enc] at himg
        have hc0 : ¬ c = 0 := image_code hs hne2
        have : checkFrom l k (x :: l.drop (k + 1)) = ⟨c, k⟩ := by
          have hone : checkOne l k x = ⟨c, k⟩ := by unfold checkOne; rw [if_pos hne2, hs]
          conv => lhs; unfold checkFrom
          rw [hone, if_neg (by simp [Fault.ok, hc0])]
        rw [this] at hrest
        simp -dsimp [h3, h0, h2, hh2, hlt, hx, hx', hag.len, hag.ld, hag.mkT, hag.flats, e16, e16']
        refine callA hty ?_ rfl
        simp -dsimp [h3, h0, h2, hh2, hlt, hx, hx', hag.len, hag.ld, hag.mkT, hag.flats]
        refine callA himg ?_ rfl
        simp -dsimp [h3, h0, h2, hh2, hc0, hcn]
        refine ⟨show orderOk _ _ = true by kernel_rfl, ?_⟩
        refine callA (at6_c _ _) ?_ rfl
        simp -dsimp [h2, hh2, hrest, Fault.enc]
    · have hkl : k = l.length := by omega
      subst hkl
      have : checkFrom l 0 l = Fault.ok := by rw [hrest]; simp [checkFrom]
      simp -dsimp [h3, h0, h2, hh2, this, Fault.enc, Fault.ok]
end Go.Proofs.YtflpgdlgfffigaaGreat
