/- The references: the words of slots and fixups. -/
import Derived.Test.YtflpgdlgfffigaaGreatCRefN
set_option linter.unusedSimpArgs false
set_option linter.unusedVariables false
namespace Go.Proofs.YtflpgdlgfffigaaGreat
open Go Go.Abs
set_option maxRecDepth 8000
set_option maxHeartbeats 4000000

theorem W_I64 (n : Int) : I64 (W n) := by
  unfold W I64 IntKind.wrap; simp [IntKind.bits, IntKind.signed]; omega
theorem target_facts (l : List Loaded) (im : Int) (y : Loaded) (m : Import) : I64 (targetOf l im y m).value ∧ ((targetOf l im y m).found = false → (targetOf l im y m).thread = false ∧ (targetOf l im y m).code = false ∧ (targetOf l im y m).value = 0) ∧
    ((targetOf l im y m).code = true → m.copy < 0) ∧ ((targetOf l im y m).thread = true → (targetOf l im y m).code = false) := by
  have h0 : I64 0 := by unfold I64; omega
  unfold targetOf targetAt Tgt.none
  split
  · split
    · exact ⟨h0, by simp, by simp, by simp⟩
    · split
      · exact ⟨h0, by simp, by simp, by simp⟩
      · split
        · exact ⟨W_I64 _, by simp, by simp, by simp⟩
        · split
          · exact ⟨W_I64 _, by simp, by simp, by simp⟩
          · rename_i h; exact ⟨W_I64 _, by simp, fun _ => by omega, by simp⟩
  · exact ⟨h0, by simp, by simp, by simp⟩

theorem slotWord6_c (l : List Loaded) (hl : Short l ∧ ∀ x ∈ l, x.WF) (hb : l.length * 384 ≤ 140737488355328) (hok : loadedF l = Fault.ok) (im : Nat) (y : Loaded) (hy : l[im]? = some y) (k : Nat) (m : Import) (hm : y.image.imports[k]? = some m) (lz : Bool) :
    RCall Tryz.prog 39 [.dat (.sl (l.map Loaded.enc)), .dat (.int .i64 im), .dat (.int .i64 k), .dat (.bool lz)] (.tup [.dat (slotOf l im y k m lz).1.enc, .dat (.int .i64 (slotOf l im y k m lz).2)]) := by
  have hval := value6_c l hl hb hok im y hy k m hm
  have hfun := function6_c l hl hb hok im y hy k m hm
  have himl : im < l.length := (List.getElem?_eq_some_iff.1 hy).1
  have himg := loaded_image hok (List.mem_of_getElem? hy)
  have hk80 := (image_imports himg).1
  have hkl : k < y.image.imports.length := (List.getElem?_eq_some_iff.1 hm).1
  obtain ⟨hc, _, _⟩ := loaded_all hok
  obtain ⟨hc1, hc2, _⟩ := check_all hc
  rw [imagesOf_len] at hc2
  have hcode := slotCode6_c im k (by omega) (by omega)
  obtain ⟨f1, f2, f3, f4⟩ := target_facts l im y m
  have hy' : ∀ h, l[im]'h = y := fun h => (List.getElem?_eq_some_iff.1 hy).2
  have hm' : ∀ h, y.image.imports[k]'h = m := fun h => (List.getElem?_eq_some_iff.1 hm).2
  have hagl := Loaded.ag y
  have hagm := Import.ag m
  have i5 : y.enc.cells[5]? = some (.sl (y.image.imports.map Import.enc)) := rfl
  have i5' : ∀ h, y.enc.cells[5]'h = .sl (y.image.imports.map Import.enc) := fun _ => rfl
  have m2 : m.enc.cells[2]? = some (.bool m.weak) := rfl
  have m2' : ∀ h, m.enc.cells[2]'h = .bool m.weak := fun _ => rfl
  have m3 : m.enc.cells[3]? = some (.int .i64 m.slot) := rfl
  have m3' : ∀ h, m.enc.cells[3]'h = .int .i64 m.slot := fun _ => rfl
  have m4 : m.enc.cells[4]? = some (.int .i64 m.copy) := rfl
  have m4' : ∀ h, m.enc.cells[4]'h = .int .i64 m.copy := fun _ => rfl
  have b1 := loaded_19 y
  have b1' := loaded_19' y
  have hslot : slotOf l im y k m lz = if (targetOf l im y m).found = false ∧ m.weak = false then (⟨0, 0⟩, 15) else if (targetOf l im y m).thread = true then (⟨0, 0⟩, 8) else (⟨W (m.slot + y.bias), wrapU (if lz = true ∧ (targetOf l im y m).code = true then codeOf im k else (targetOf l im y m).value)⟩, 0) := rfl
  have hwc := word6_c (codeOf im k) (W_I64 _)
  rw [hslot]
  unfold W
  generalize targetOf l im y m = T at *
  obtain ⟨tf, tt, tc, tv⟩ := T
  simp only at *
  have hwv := word6_c tv f1
  simp only [valueP] at hval
  refine rcall_of hmix [] Tryz.func39 (by kernel_rfl) rfl (by simp [Tryz.f39]) ?_
  simp -dsimp [Tryz.f39, himl, hy, hy', hagl.len, i5, i5', hkl, hm, hm', hagm.len, hagm.ld, hagm.mkT, hagm.flats, hagm.mk]
  refine callA hval ?_ rfl
  have fin0 : tc = true → m.copy < 0 := f3
  cases tf
  · obtain ⟨htt, htc, htv⟩ := f2 rfl
    subst htt
    subst htc
    cases hwk : m.weak
    · rw [hwk] at m2 m2'
      simp -dsimp [hagm.len, m2, m2', Bound.enc]
    · rw [hwk] at m2 m2'
      cases lz
      · simp -dsimp [hagm.len, m2, m2', m3, m3', m4, m4', himl, hy, hy', hagl.len, b1, b1', Bound.enc]
        refine callA hwv ?_ rfl
        simp -dsimp [Bound.enc]
        first | done | exact (show orderOk _ _ = true by kernel_rfl)
      · by_cases hcp : m.copy < 0
        · simp -dsimp [hagm.len, m2, m2', m3, m3', m4, m4', hcp, himl, hy, hy', hagl.len, b1, b1', Bound.enc]
          refine callA (hfun hcp) ?_ rfl
          simp -dsimp [hagm.len, m2, m2', m3, m3', m4, m4', hcp, himl, hy, hy', hagl.len, b1, b1', Bound.enc]
          refine callA hwv ?_ rfl
          simp -dsimp [Bound.enc]
          first | done | exact (show orderOk _ _ = true by kernel_rfl)
        · simp -dsimp [hagm.len, m2, m2', m3, m3', m4, m4', hcp, himl, hy, hy', hagl.len, b1, b1', Bound.enc]
          refine callA hwv ?_ rfl
          simp -dsimp [Bound.enc]
          first | done | exact (show orderOk _ _ = true by kernel_rfl)
  · cases tt
    · cases lz
      · simp -dsimp [hagm.len, m2, m2', m3, m3', m4, m4', himl, hy, hy', hagl.len, b1, b1', Bound.enc]
        refine callA hwv ?_ rfl
        simp -dsimp [Bound.enc]
        first | done | exact (show orderOk _ _ = true by kernel_rfl)
      · by_cases hcp : m.copy < 0
        · simp -dsimp [hagm.len, m2, m2', m3, m3', m4, m4', hcp, himl, hy, hy', hagl.len, b1, b1', Bound.enc]
          refine callA (hfun hcp) ?_ rfl
          cases tc
          · simp -dsimp [hagm.len, m2, m2', m3, m3', m4, m4', hcp, himl, hy, hy', hagl.len, b1, b1', Bound.enc]
            refine callA hwv ?_ rfl
            simp -dsimp [Bound.enc]
            first | done | exact (show orderOk _ _ = true by kernel_rfl)
          · simp -dsimp [hagm.len, m2, m2', m3, m3', m4, m4', hcp, himl, hy, hy', hagl.len, b1, b1', Bound.enc]
            refine callA hcode ?_ rfl
            simp -dsimp [hagm.len, m2, m2', m3, m3', m4, m4', hcp, himl, hy, hy', hagl.len, b1, b1', Bound.enc]
            refine callA hwc ?_ rfl
            simp -dsimp [Bound.enc]
            first | done | exact (show orderOk _ _ = true by kernel_rfl)
        · have htc : tc = false := by
            cases tc
            · rfl
            · exact absurd (fin0 rfl) hcp
          subst htc
          simp -dsimp [hagm.len, m2, m2', m3, m3', m4, m4', hcp, himl, hy, hy', hagl.len, b1, b1', Bound.enc]
          refine callA hwv ?_ rfl
          simp -dsimp [Bound.enc]
          first | done | exact (show orderOk _ _ = true by kernel_rfl)
    · simp -dsimp [hagm.len, m2, m2', Bound.enc]

theorem storedByte6_c (x : Image) (hx : x.WF) (a : Int) : RCall Tryz.prog 131 [.dat x.enc, .dat (.int .i64 a)] (.dat (.int .i64 (storedB x a))) := by
  have hsl := hx.segments.1
  unfold Short at hsl
  have hag := Image.ag x
  have i2 : x.enc.cells[2]? = some (.sl (x.segments.map Segment.enc)) := rfl
  have i2' : ∀ h, x.enc.cells[2]'h = .sl (x.segments.map Segment.enc) := fun _ => rfl
  refine rcall_of hmix [] Tryz.func131 (by kernel_rfl) rfl (by simp [Tryz.f131]) ?_
  simp -dsimp [Tryz.f131, hag.len, hag.flats]
  refine awp_loopN x.segments.length (fun j s => s.t 5 = .dat (.int .i64 j) ∧ s.t 1 = .dat (.int .i64 a) ∧ s.t 2 = .cptr (x.enc.cells.map .dat) ∧ storedB x a = storedF a (x.segments.drop j)) ⟨by simp, by simp, by simp, by simp [storedB]⟩ ?_
  rintro j s hj ⟨h5, h1, h2, hrest⟩
  by_cases hlt : j < x.segments.length
  · have hw : IntKind.i64.wrap ((j : Int) + 1) = j + 1 := wrap_in (by omega) (by omega)
    obtain ⟨g, hg⟩ : ∃ g, x.segments[j]? = some g := ⟨_, List.getElem?_eq_getElem hlt⟩
    have hg' : ∀ h, x.segments[j]'h = g := fun h => (List.getElem?_eq_some_iff.1 hg).2
    have hdrop : x.segments.drop j = g :: x.segments.drop (j + 1) := by rw [← (List.getElem?_eq_some_iff.1 hg).2]; exact List.drop_eq_getElem_cons hlt
    rw [hdrop] at hrest
    simp only [storedF] at hrest
    have hgw := hx.segments.2 g (List.mem_of_getElem? hg)
    have hgl := hgw.2.2.2.1
    unfold Short at hgl
    by_cases hin1 : 0 ≤ IntKind.i64.wrap (a - g.address)
    · by_cases hin2 : IntKind.i64.wrap (a - g.address) < g.data.length
      · rw [if_pos (show storedIn a g from ⟨hin1, hin2⟩)] at hrest
        unfold W at hrest
        obtain ⟨b, hbd⟩ : ∃ b, g.data[(IntKind.i64.wrap (a - g.address)).toNat]? = some b := ⟨_, List.getElem?_eq_getElem (by omega)⟩
        have hbd2 : ∀ h, g.data[(IntKind.i64.wrap (a - g.address)).toNat]'h = b := fun h => (List.getElem?_eq_some_iff.1 hbd).2
        have hbg : g.data.getD (IntKind.i64.wrap (a - g.address)).toNat 0 = b := by rw [List.getD_eq_getElem?_getD, hbd]; rfl
        rw [hbg] at hrest
        have hbb := hgw.2.2.2.2 b (List.mem_of_getElem? hbd)
        have hwb : IntKind.i64.wrap b = b := wrap_in (by omega) (by omega)
        simp -dsimp [h5, h1, h2, hlt, hag.len, i2, i2', hg, hg', Segment.enc, hin1, hin2, hbd, hbd2, hwb, hrest]
      · rw [if_neg (show ¬ storedIn a g from fun h => hin2 h.2)] at hrest
        simp -dsimp [h5, h1, h2, hlt, hag.len, i2, i2', hg, hg', Segment.enc, hin1, hin2, hw, hrest]
    · rw [if_neg (show ¬ storedIn a g from fun h => hin1 h.1)] at hrest
      simp -dsimp [h5, h1, h2, hlt, hag.len, i2, i2', hg, hg', Segment.enc, hin1, hw, hrest]
  · have hje : j = x.segments.length := by omega
    subst hje
    have : storedB x a = 0 := by rw [hrest]; simp [storedF]
    simp -dsimp [h5, h1, h2, hag.len, i2, i2', this]

theorem storedWord6_c (x : Image) (hx : x.WF) (a : Int) : RCall Tryz.prog 74 [.dat x.enc, .dat (.int .i64 a)] (.dat (.int .i64 (storedW x a))) := by
  have hag := Image.ag x
  have q0 := storedByte6_c x hx a
  have q1 := storedByte6_c x hx (W (a + 1))
  have q2 := storedByte6_c x hx (W (a + 2))
  have q3 := storedByte6_c x hx (W (a + 3))
  unfold storedW
  generalize storedB x a = c0 at *
  generalize storedB x (W (a + 1)) = c1 at *
  generalize storedB x (W (a + 2)) = c2 at *
  generalize storedB x (W (a + 3)) = c3 at *
  unfold W at *
  refine rcall_of hmix [] Tryz.func74 (by kernel_rfl) rfl (by simp [Tryz.f74]) ?_
  simp -dsimp [Tryz.f74, hag.len, hag.flats, hag.ld, hag.mkT]
  refine callA q0 ?_ rfl
  simp -dsimp [hag.len, hag.flats, hag.ld, hag.mkT]
  refine callA q1 ?_ rfl
  simp -dsimp [hag.len, hag.flats, hag.ld, hag.mkT]
  refine callA q2 ?_ rfl
  simp -dsimp [hag.len, hag.flats, hag.ld, hag.mkT]
  refine callA q3 ?_ rfl
  simp -dsimp
  first | done | exact (show orderOk _ _ = true by kernel_rfl)
end Go.Proofs.YtflpgdlgfffigaaGreat
