/- Copies: the sites that are wanted, one after another. -/
import Derived.Test.YtflpgdlgfffigaaGreatCoreC
import Derived.Test.YtflpgdlgfffigaaGreatCDef
set_option linter.unusedSimpArgs false
set_option linter.unusedVariables false
namespace Go.Proofs.YtflpgdlgfffigaaGreat
open Go Go.Abs
set_option maxRecDepth 8000
set_option maxHeartbeats 4000000

theorem wanted1_c (l : List Loaded) (hl : Short l ∧ ∀ x ∈ l, x.WF) (hb : l.length * 384 ≤ 140737488355328) (hok : loadedF l = Fault.ok) (lp : Nat) :
    ICall Tryz.prog (SiteA l) 206 lp [.yld lp, .cptr [.dat (.sl (l.map Loaded.enc))], .cptr [.dat (intsD (orderOf l))]] (sites l) := by
  obtain ⟨hone, holen, hoin⟩ := orderOf_facts hok
  obtain ⟨hc, hbad, hmis⟩ := loaded_all hok
  obtain ⟨hc1, hc2, hc3⟩ := check_all hc
  rw [imagesOf_len] at hc1 hc2
  have hdef := fun im m => definition_c l hl hb (orderOf l) hone (by omega) hoin im m
  have hfo : ∀ im m, lookupF (imagesOf l) m.name m.version (others (orderOf l) im) = foundAt l im m := fun _ _ => rfl
  simp only [hfo] at hdef
  refine icall_of [] Tryz.func206 (by kernel_rfl) rfl rfl (by simp [Tryz.f206]) ?_
  simp -dsimp [Tryz.f206]
  refine awpY_loopN l.length (fun k s L => s.t 13 = .dat (.int .i64 k) ∧ s.t 12 = .dat (.int .i64 l.length) ∧ s.t 11 = .dat (.sl (l.map Loaded.enc)) ∧ s.t 0 = .yld lp ∧ s.t 1 = .cptr [.dat (.sl (l.map Loaded.enc))] ∧ s.t 2 = .cptr [.dat (intsD (orderOf l))] ∧ L ++ sitesFrom l k (l.drop k) = sites l) ⟨by simp, by simp, by simp, by simp, by simp, by simp [intsD], by simp [sites]⟩ ?_
  rintro k s L hk ⟨h13, h12, h11, h0, h1, h2, hL⟩
  by_cases hlt : k < l.length
  · have hw : IntKind.i64.wrap ((k : Int) + 1) = k + 1 := wrap_in (by omega) (by omega)
    obtain ⟨y, hy⟩ : ∃ y, l[k]? = some y := ⟨_, List.getElem?_eq_getElem hlt⟩
    have hy' : l[k] = y := (List.getElem?_eq_some_iff.1 hy).2
    have hdrop : l.drop k = y :: l.drop (k + 1) := by rw [← hy']; exact List.drop_eq_getElem_cons hlt
    rw [hdrop] at hL
    simp only [sitesFrom] at hL
    have hag := Loaded.ag y
    have hagi := Image.ag y.image
    have i5 : y.enc.cells[5]? = some (.sl (y.image.imports.map Import.enc)) := rfl
    have i5' : ∀ h, y.enc.cells[5]'h = .sl (y.image.imports.map Import.enc) := fun _ => rfl
    have hil : y.image.imports.length ≤ 9223372036854775807 := (hl.2 y (List.mem_of_getElem? hy)).1.imports.1
    simp -dsimp [h13, h12, h11, h0, h1, h2, hlt, hy, hy', hag.len, hag.ld, hag.mkT, hag.flats, hag.mk, i5, i5']
    refine awpY_loopN y.image.imports.length (fun j s L => s.t 22 = .dat (.int .i64 j) ∧ s.t 21 = .dat (.int .i64 y.image.imports.length) ∧ s.t 20 = .dat (.sl (y.image.imports.map Import.enc)) ∧ s.t 5 = .cptr (y.enc.cells.map .dat) ∧ s.t 4 = .dat (.int .i64 k) ∧ s.t 13 = .dat (.int .i64 k) ∧ s.t 12 = .dat (.int .i64 l.length) ∧ s.t 11 = .dat (.sl (l.map Loaded.enc)) ∧ s.t 0 = .yld lp ∧ s.t 1 = .cptr [.dat (.sl (l.map Loaded.enc))] ∧ s.t 2 = .cptr [.dat (intsD (orderOf l))] ∧
      L ++ (sitesIn l k y (y.image.imports.drop j) ++ sitesFrom l (k + 1) (l.drop (k + 1))) = sites l) ⟨by simp, by simp, by simp, ?_, by simp, by simp [h13], by simp [h12], by simp [h11], by simp [h0], by simp [h1], by simp [h2, intsD], by simpa using hL⟩ ?_
    · simp
    rintro j s L hj ⟨h22, h21, h20, h5, h4, h13, h12, h11, h0, h1, h2, hL⟩
    by_cases hjl : j < y.image.imports.length
    · have hwj : IntKind.i64.wrap ((j : Int) + 1) = j + 1 := wrap_in (by omega) (by omega)
      obtain ⟨m, hm⟩ : ∃ m, y.image.imports[j]? = some m := ⟨_, List.getElem?_eq_getElem hjl⟩
      have hm' : y.image.imports[j] = m := (List.getElem?_eq_some_iff.1 hm).2
      have hdrop : y.image.imports.drop j = m :: y.image.imports.drop (j + 1) := by rw [← hm']; exact List.drop_eq_getElem_cons hjl
      rw [hdrop] at hL
      simp only [sitesIn] at hL
      have hagm := Import.ag m
      have m4 : m.enc.cells[4]? = some (.int .i64 m.copy) := rfl
      have m4' : ∀ h, m.enc.cells[4]'h = .int .i64 m.copy := fun _ => rfl
      have hdm := hdef k m
      have hfound := fun i e => @found_at l hok k m i e
      have hcp : copyOf l k m = if m.copy < 0 then none else if (foundAt l k m).2.2 = true ∧ threadAt l (foundAt l k m).1 (foundAt l k m).2.1 = false then some ((foundAt l k m).1, (foundAt l k m).2.1) else none := rfl
      rw [hcp] at hL
      clear hcp
      unfold intsD at *
      generalize foundAt l k m = r at *
      obtain ⟨i, e, ok⟩ := r
      simp only [lookP] at hdm
      by_cases hneg : m.copy < 0
      · rw [if_pos hneg] at hL
        simp only [List.nil_append] at hL
        simp -dsimp [h22, h21, h20, h5, h4, h13, h12, h11, h0, h1, h2, hjl, hm, hm', hagm.len, hagm.ld, hagm.mkT, hagm.flats, hagm.mk, m4, m4', hneg, hwj, hL]
      · rw [if_neg hneg] at hL
        cases ok
        · simp only [Bool.false_eq_true, false_and, if_false, List.nil_append] at hL
          simp -dsimp [h22, h21, h20, h5, h4, h13, h12, h11, h0, h1, h2, hjl, hm, hm', hagm.len, hagm.ld, hagm.mkT, hagm.flats, hagm.mk, m4, m4', hneg]
          refine callY hdm ?_ rfl
          simp -dsimp [h22, h21, h20, h5, h4, h13, h12, h11, h0, h1, h2, hwj, hL, hjl]
        · obtain ⟨g1, g2, g3, gne, y2, x, hy2, hx⟩ := hfound i e rfl
          have hagl2 := Loaded.ag y2
          have hagx := Export.ag x
          have j4 : y2.enc.cells[4]? = some (.sl (y2.image.exports.map Export.enc)) := rfl
          have j4' : ∀ h, y2.enc.cells[4]'h = .sl (y2.image.exports.map Export.enc) := fun _ => rfl
          have hth : threadAt l i e = x.thread := by unfold threadAt; simp only [hy2, hx]
          rw [hth] at hL
          simp -dsimp [h22, h21, h20, h5, h4, h13, h12, h11, h0, h1, h2, hjl, hm, hm', hagm.len, hagm.ld, hagm.mkT, hagm.flats, hagm.mk, m4, m4', hneg]
          refine callY hdm ?_ rfl
          have hag5 := hag.len
          cases hxt : x.thread
          · rw [hxt] at hL
            simp only [and_self, if_true] at hL
            simp -dsimp [h22, h21, h20, h5, h4, h13, h12, h11, h0, h1, h2, g1, g3, hy2, hagl2.len, j4, j4', hx, hagx.len, Export.enc, hxt, hag.len, hag.ld, hag.mkT, hag.flats, hag.mk, hagm.len, hagm.ld, hagm.mkT, hagm.flats, hagm.mk]
            refine yieldA' (d := siteD y m i e) ?_ ⟨⟨_, by simpa using hL⟩, y, m, i, e, y2, x, rfl, g1, g3, hy2, hx⟩ ?_
            · simp [siteD, Loaded.enc, Image.cells, Import.enc, Dat.cells, Dat.flat]
            · simp -dsimp [h22, h21, h20, h5, h4, h13, h12, h11, h0, h1, h2, hwj, hjl]
              simpa using hL
          · rw [hxt] at hL
            simp only [Bool.true_eq_false, and_false, if_false, List.nil_append] at hL
            simp -dsimp [h22, h21, h20, h5, h4, h13, h12, h11, h0, h1, h2, g1, g3, hy2, hagl2.len, j4, j4', hx, hagx.len, Export.enc, hxt, hwj, hL, hjl]
    · have hjn : j = y.image.imports.length := by omega
      subst hjn
      rw [List.drop_length] at hL
      simp only [sitesIn, List.nil_append] at hL
      simp -dsimp [h22, h21, h13, h12, h11, h0, h1, h2, hw, hL, hlt]
  · have hkl : k = l.length := by omega
    subst hkl
    rw [List.drop_length] at hL
    simp only [sitesFrom, List.append_nil] at hL
    simp -dsimp [h13, h12, hL]
theorem wanted_c (l : List Loaded) (hl : Short l ∧ ∀ x ∈ l, x.WF) (hb : l.length * 384 ≤ 140737488355328) (hok : loadedF l = Fault.ok) :
    RCall Tryz.prog 126 [.dat (.sl (l.map Loaded.enc))] (.fn 206 [.cptr [.dat (.sl (l.map Loaded.enc))], .cptr [.dat (intsD (orderOf l))]]) := by
  have himg := images_c l hb
  have hord := order_c (imagesOf l) (imagesOf_wf hl)
  obtain ⟨hc, hbad, hm⟩ := loaded_all hok
  have ho : orderF (imagesOf l) = (orderOf l, Fault.ok) := by unfold orderF orderOf; rw [if_pos hc, hm]
  rw [ho] at hord
  simp only [orderP, Fault.enc, intsD] at hord
  refine rcall_of hmix [] Tryz.func126 (by kernel_rfl) rfl (by simp [Tryz.f126]) ?_
  simp -dsimp [Tryz.f126]
  refine callA himg ?_ rfl
  simp -dsimp
  refine callA hord ?_ rfl
  simp -dsimp [intsD]
end Go.Proofs.YtflpgdlgfffigaaGreat
