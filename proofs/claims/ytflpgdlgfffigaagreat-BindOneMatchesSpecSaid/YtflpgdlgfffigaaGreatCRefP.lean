/- The references: all words of an image. -/
import Derived.Test.YtflpgdlgfffigaaGreatCRefO
set_option linter.unusedSimpArgs false
set_option linter.unusedVariables false
namespace Go.Proofs.YtflpgdlgfffigaaGreat
open Go Go.Abs
set_option maxRecDepth 8000
set_option maxHeartbeats 8000000

def words6P (r : List Bound × Fault) : PVal := .tup [.dat (.sl (r.1.map Bound.enc)), .dat r.2.enc]
theorem words6_c (l : List Loaded) (hl : Short l ∧ ∀ x ∈ l, x.WF) (hb : l.length * 384 ≤ 140737488355328) (hok : loadedF l = Fault.ok) (im : Nat) (y : Loaded) (hy : l[im]? = some y) (lz : Bool) :
    RCall Tryz.prog 36 [.dat (.sl (l.map Loaded.enc)), .dat (.int .i64 im), .dat (.bool lz)] (words6P (allOf l im y lz)) := by
  have hyl := List.mem_of_getElem? hy
  have hyw : y.WF := hl.2 y hyl
  have himok := loaded_image hok hyl
  obtain ⟨hf600, hfix⟩ := image_fixups himok
  obtain ⟨hi80, himp⟩ := image_imports himok
  have himl : im < l.length := (List.getElem?_eq_some_iff.1 hy).1
  have hy' : ∀ h, l[im]'h = y := fun h => (List.getElem?_eq_some_iff.1 hy).2
  have hybad := (loaded_all hok).2.1 y hyl
  have hagl := Loaded.ag y
  have hlt19 := loaded_take y
  have hag := Image.ag y.image
  have hkd : ∀ d, kills d (y.image.enc.cells.map PVal.dat) = y.image.enc.cells.map PVal.dat := fun d => kills_dats d _
  have i6 : y.image.enc.cells[6]? = some (.sl (y.image.fixups.map Fixup.enc)) := rfl
  have i6' : ∀ h, y.image.enc.cells[6]'h = .sl (y.image.fixups.map Fixup.enc) := fun _ => rfl
  have i5 : y.image.enc.cells[5]? = some (.sl (y.image.imports.map Import.enc)) := rfl
  have i5' : ∀ h, y.image.enc.cells[5]'h = .sl (y.image.imports.map Import.enc) := fun _ => rfl
  have e19 := loaded_19 y
  have e19' := loaded_19' y
  have e20 := loaded_20 y
  have e20' := loaded_20' y
  have hvc := fun (k : Nat) (m : Import) hm => value6_c l hl hb hok im y hy k m hm
  have hsc := fun (k : Nat) (m : Import) hm => slotWord6_c l hl hb hok im y hy k m hm lz
  have hsw := fun (a : Int) => storedWord6_c y.image hyw.1 a
  have hdef : allOf l im y lz = runFix l im y lz 0 y.image.fixups [] := rfl
  generalize allOf l im y lz = R at *
  refine rcall_of hmix [] Tryz.func36 (by kernel_rfl) rfl (by simp [Tryz.f36]) ?_
  simp -dsimp [Tryz.f36, himl, hy, hy', hagl.len, hlt19, hag.len, hag.ld, hag.mkT, hag.flats, hag.mk, hkd]
  refine awp_loopN y.image.fixups.length (fun k s => s.t 10 = .dat (.int .i64 k) ∧ s.t 0 = .dat (.sl (l.map Loaded.enc)) ∧ s.t 1 = .dat (.int .i64 im) ∧ s.t 2 = .dat (.bool lz) ∧ s.t 8 = .bptr 8 0 ∧ s.h 8 = some (y.image.enc.cells.map .dat) ∧ s.t 7 = .bptr 7 0 ∧ s.h 7 = some [.dat (.int .i64 0), .dat (.int .i64 0)] ∧
      ∃ acc, GrowsR [110] 63 2 (s.t 9) (acc.map Bound.enc) ∧ acc.length = k ∧ R = runFix l im y lz k (y.image.fixups.drop k) acc)
    ⟨by simp, by simp, by simp, by simp, by simp, by simp [hkd], by simp, by simp, [], .inl ⟨rfl, by simp⟩, rfl, by simpa using hdef⟩ ?_
  rintro k s hk ⟨h10, h0, h1, h2, h8, hh8, h7, hh7, acc, hgr, hacc, hrun⟩
  by_cases hlt : k < y.image.fixups.length
  · have hw : IntKind.i64.wrap ((k : Int) + 1) = k + 1 := wrap_in (by omega) (by omega)
    obtain ⟨f, hf⟩ : ∃ f, y.image.fixups[k]? = some f := ⟨_, List.getElem?_eq_getElem hlt⟩
    have hf' : ∀ h, y.image.fixups[k]'h = f := fun h => (List.getElem?_eq_some_iff.1 hf).2
    have hdrop : y.image.fixups.drop k = f :: y.image.fixups.drop (k + 1) := by rw [← (List.getElem?_eq_some_iff.1 hf).2]; exact List.drop_eq_getElem_cons hlt
    obtain ⟨hkind, hwit⟩ := fixup_ok (hfix k f hf)
    have hfin := within_in (image_segs himok) (by omega) hwit
    obtain ⟨hws, hw0, hw1⟩ := word_stored hyw.1 himok (a := f.address) (by omega) (by omega)
    have hcall := hsw f.address
    rw [hdrop] at hrun
    simp only [runFix] at hrun
    have hagf := Fixup.ag f
    have f0 : f.enc.cells[0]? = some (.int .i64 f.address) := rfl
    have f0' : ∀ h, f.enc.cells[0]'h = .int .i64 f.address := fun _ => rfl
    have f1 : f.enc.cells[1]? = some (.int .i64 f.kind) := rfl
    have f1' : ∀ h, f.enc.cells[1]'h = .int .i64 f.kind := fun _ => rfl
    have f2 : f.enc.cells[2]? = some (.int .i64 f.imp) := rfl
    have f2' : ∀ h, f.enc.cells[2]'h = .int .i64 f.imp := fun _ => rfl
    have f3 : f.enc.cells[3]? = some (.int .i64 f.addend) := rfl
    have f3' : ∀ h, f.enc.cells[3]'h = .int .i64 f.addend := fun _ => rfl
    have hkf : ∀ d, kills d (f.enc.cells.map PVal.dat) = f.enc.cells.map PVal.dat := fun d => kills_dats d _
    have b1 : (k + 1) * 16 ≤ 140737488355328 := by omega
    have b2 : k + 1 ≤ 9223372036854775807 := by omega
    have hgo : ((acc = [] ∧ k = 0) ∧ s.t 9 = .nilS) ∨ s.t 9 = .ow 110 63 2 (acc.map Bound.enc) := by
      rcases hgr with ⟨ha, h9⟩ | ⟨d, hd, h9⟩
      · have ha0 : acc = [] := by simpa using ha
        subst ha0; simp at hacc; exact .inl ⟨⟨rfl, hacc.symm⟩, h9⟩
      · simp only [List.mem_singleton] at hd; subst hd; exact .inr h9
    clear hgr
    have halen : (acc.map Bound.enc).length = k := by simp [hacc]
    have hw1a : IntKind.i64.wrap 1 = 1 := wrap_in (by omega) (by omega)
    have finish : ∀ (v : Int), (fixOf l im y f) = boundOf y f v → R = runFix l im y lz (k + 1) (y.image.fixups.drop (k + 1)) (acc ++ [⟨W (f.address + y.bias), v⟩]) := fun v hv => by
      rw [hv] at hrun
      simp only [boundOf, if_true] at hrun
      exact hrun
    have hfx : fixOf l im y f = if f.kind = 1 then boundOf y f (wrapU (wordOf y.image f.address + wrapU y.bias))
        else if f.kind = 4 then boundOf y f (wrapU (wordOf y.image f.address + wrapU y.thread))
        else if (targetOf l im y (importAt y f.imp)).found = false ∧ (importAt y f.imp).weak = false then (⟨0, 0⟩, 15)
        else if (targetOf l im y (importAt y f.imp)).found = true ∧ ¬ (targetOf l im y (importAt y f.imp)).thread = decide (f.kind = 3) then (⟨0, 0⟩, 8)
        else boundOf y f (wrapU (W ((targetOf l im y (importAt y f.imp)).value + f.addend))) := rfl
    by_cases hk1 : f.kind = 1
    · have hv := finish (wrapU (W (storedW y.image f.address + y.bias))) (by rw [hfx, if_pos hk1, hws, fix_sum hw0 hw1 (by unfold badLoaded at hybad; omega) (by unfold badLoaded at hybad; omega)])
      have hwd := word6_c (IntKind.i64.wrap (storedW y.image f.address + y.bias)) (W_I64 _)
      unfold W at hv
      rcases hgo with ⟨⟨ha, hk0⟩, h9⟩ | h9
      all_goals
        simp -dsimp [h10, h0, h1, h2, h8, hh8, h7, hh7, h9, hlt, hag.len, hag.ld, hag.mkT, i6, i6', hf, hf', hagf.len, hagf.ld, hagf.mkT, hagf.flats, hagf.mk, f0, f0', hkd, hkf]
        refine callA hcall ?_ rfl
        simp -dsimp [h10, h0, h1, h2, h8, hh8, h7, hh7, h9, hagf.len, f1, f1', hk1, himl, hy, hy', hagl.len, e19, e19', f0, f0']
        refine callA hwd ?_ rfl
        simp -dsimp [h10, h0, h1, h2, h8, hh8, h7, hh7, h9, hw, hw1a, hlt, hacc, b1, b2, hkd, hkf]
        exact ⟨show orderOk _ _ = true by kernel_rfl, acc ++ [⟨IntKind.i64.wrap (f.address + y.bias), wrapU (IntKind.i64.wrap (storedW y.image f.address + y.bias))⟩], .inr ⟨110, by simp, by (first | (simp [Bound.enc, ha]; done) | (simp [Bound.enc]; done))⟩, by simp [hacc], hv⟩
    · by_cases hk4 : f.kind = 4
      · have hv := finish (wrapU (W (storedW y.image f.address + y.thread))) (by rw [hfx, if_neg hk1, if_pos hk4, hws, fix_sum hw0 hw1 (by unfold badLoaded at hybad; omega) (by unfold badLoaded at hybad; omega)])
        have hwd := word6_c (IntKind.i64.wrap (storedW y.image f.address + y.thread)) (W_I64 _)
        unfold W at hv
        rcases hgo with ⟨⟨ha, hk0⟩, h9⟩ | h9
        all_goals
          simp -dsimp [h10, h0, h1, h2, h8, hh8, h7, hh7, h9, hlt, hag.len, hag.ld, hag.mkT, i6, i6', hf, hf', hagf.len, hagf.ld, hagf.mkT, hagf.flats, hagf.mk, f0, f0', hkd, hkf]
          refine callA hcall ?_ rfl
          simp -dsimp [h10, h0, h1, h2, h8, hh8, h7, hh7, h9, hagf.len, f1, f1', hk1, hk4, himl, hy, hy', hagl.len, e19, e19', e20, e20', f0, f0']
          refine callA hwd ?_ rfl
          simp -dsimp [h10, h0, h1, h2, h8, hh8, h7, hh7, h9, hw, hw1a, hlt, hacc, b1, b2, hkd, hkf]
          exact ⟨show orderOk _ _ = true by kernel_rfl, acc ++ [⟨IntKind.i64.wrap (f.address + y.bias), wrapU (IntKind.i64.wrap (storedW y.image f.address + y.thread))⟩], .inr ⟨110, by simp, by (first | (simp [Bound.enc, ha]; done) | (simp [Bound.enc]; done))⟩, by simp [hacc], hv⟩
      · obtain ⟨hi0, hil⟩ : 0 ≤ f.imp ∧ f.imp < y.image.imports.length := by omega
        obtain ⟨n, hn⟩ : ∃ n : Nat, f.imp = n := ⟨f.imp.toNat, by omega⟩
        have hnl : n < y.image.imports.length := by omega
        obtain ⟨m, hm⟩ : ∃ m, y.image.imports[n]? = some m := ⟨_, List.getElem?_eq_getElem hnl⟩
        have hm' : ∀ h, y.image.imports[n]'h = m := fun h => (List.getElem?_eq_some_iff.1 hm).2
        have hagm := Import.ag m
        have m2 : m.enc.cells[2]? = some (.bool m.weak) := rfl
        have m2' : ∀ h, m.enc.cells[2]'h = .bool m.weak := fun _ => rfl
        have hat : importAt y f.imp = m := by unfold importAt; rw [hn]; simp [hm]
        have hval := hvc n m hm
        have hTf := target_facts l im y m
        rw [hat, if_neg hk1, if_neg hk4] at hfx
        rw [hn] at f2 f2'
        generalize targetOf l im y m = T at *
        obtain ⟨tf, tt, tc, tv⟩ := T
        simp only [valueP] at hval hfx hTf
        by_cases hunr : tf = false ∧ m.weak = false
        · obtain ⟨rfl, hwk⟩ := hunr
          rw [hwk] at m2 m2'
          rw [if_pos ⟨rfl, hwk⟩] at hfx
          rw [hfx] at hrun
          simp only [show ¬ (15 : Int) = 0 by omega, if_false] at hrun
          rcases hgo with ⟨⟨ha, hk0⟩, h9⟩ | h9
          all_goals
            simp -dsimp [h10, h0, h1, h2, h8, hh8, h7, hh7, h9, hlt, hag.len, hag.ld, hag.mkT, i6, i6', hf, hf', hagf.len, hagf.ld, hagf.mkT, hagf.flats, hagf.mk, f0, f0', hkd, hkf]
            refine callA hcall ?_ rfl
            simp -dsimp [h10, h0, h1, h2, h8, hh8, h7, hh7, h9, hagf.len, f1, f1', f2, f2', hk1, hk4]
            refine callA hval ?_ rfl
            simp -dsimp [h10, h0, h1, h2, h8, hh8, h7, hh7, h9, hagf.len, f1, f1', f2, f2', hag.len, i5, i5', hnl, hm, hm', hagm.len, m2, m2']
            refine callA (at6_c _ _) ?_ rfl
            simp -dsimp [h7, hh7, hrun, words6P, Fault.enc]
        · rw [if_neg hunr] at hfx
          have hunr2 : tf = true ∨ m.weak = true := by cases tf <;> cases h : m.weak <;> simp_all
          by_cases hwt : tf = true ∧ ¬ tt = decide (f.kind = 3)
          · rw [if_pos hwt] at hfx
            rw [hfx] at hrun
            simp only [show ¬ (8 : Int) = 0 by omega, if_false] at hrun
            obtain ⟨rfl, hne⟩ := hwt
            have hne2 : (!decide (tt = decide (f.kind = 3))) = true := by simp [hne]
            rcases hgo with ⟨⟨ha, hk0⟩, h9⟩ | h9
            all_goals
              simp -dsimp [h10, h0, h1, h2, h8, hh8, h7, hh7, h9, hlt, hag.len, hag.ld, hag.mkT, i6, i6', hf, hf', hagf.len, hagf.ld, hagf.mkT, hagf.flats, hagf.mk, f0, f0', hkd, hkf]
              refine callA hcall ?_ rfl
              simp -dsimp [h10, h0, h1, h2, h8, hh8, h7, hh7, h9, hagf.len, f1, f1', f2, f2', hk1, hk4]
              refine callA hval ?_ rfl
              by_cases hk3 : f.kind = 3 <;> cases htt : tt <;> simp [hk3, htt] at hne
              all_goals
                simp -dsimp [h10, h0, h1, h2, h8, hh8, h7, hh7, h9, hagf.len, f1, f1', f2, f2', hag.len, i5, i5', hnl, hm, hm', hagm.len, m2, m2', hk3]
                refine callA (at6_c _ _) ?_ rfl
                simp -dsimp [h7, hh7, hrun, words6P, Fault.enc]
          · rw [if_neg hwt] at hfx
            have hv := finish _ hfx
            have hwd := word6_c (IntKind.i64.wrap (tv + f.addend)) (W_I64 _)
            unfold W at hv
            have hwt2 : tf = false ∨ tt = decide (f.kind = 3) := by cases tf <;> simp_all
            have hff : tf = false → tt = false ∧ m.weak = true := fun h => ⟨(hTf.2.1 h).1, by rcases hunr2 with h2 | h2; rw [h] at h2; cases h2; exact h2⟩
            rcases hgo with ⟨⟨ha, hk0⟩, h9⟩ | h9
            all_goals
              simp -dsimp [h10, h0, h1, h2, h8, hh8, h7, hh7, h9, hlt, hag.len, hag.ld, hag.mkT, i6, i6', hf, hf', hagf.len, hagf.ld, hagf.mkT, hagf.flats, hagf.mk, f0, f0', hkd, hkf]
              refine callA hcall ?_ rfl
              simp -dsimp [h10, h0, h1, h2, h8, hh8, h7, hh7, h9, hagf.len, f1, f1', f2, f2', hk1, hk4]
              refine callA hval ?_ rfl
              cases htf : tf
              · obtain ⟨htt, hwk⟩ := hff htf
                rw [hwk] at m2 m2'
                simp -dsimp [h10, h0, h1, h2, h8, hh8, h7, hh7, h9, hagf.len, f1, f1', f2, f2', f3, f3', hag.len, i5, i5', hnl, hm, hm', hagm.len, m2, m2', htt, himl, hy, hy', hagl.len, e19, e19', f0, f0']
                refine callA hwd ?_ rfl
                simp -dsimp [h10, h0, h1, h2, h8, hh8, h7, hh7, h9, hw, hw1a, hlt, hacc, b1, b2, hkd, hkf]
                exact ⟨show orderOk _ _ = true by kernel_rfl, acc ++ [⟨IntKind.i64.wrap (f.address + y.bias), wrapU (IntKind.i64.wrap (tv + f.addend))⟩], .inr ⟨110, by simp, by (first | (simp [Bound.enc, ha]; done) | (simp [Bound.enc]; done))⟩, by simp [hacc], hv⟩
              · have htt : tt = decide (f.kind = 3) := by rcases hwt2 with h | h; rw [htf] at h; cases h; exact h
                by_cases hk3 : f.kind = 3 <;> simp only [hk3, decide_true, decide_false] at htt
                all_goals
                  simp -dsimp [h10, h0, h1, h2, h8, hh8, h7, hh7, h9, hagf.len, f1, f1', f2, f2', f3, f3', hag.len, i5, i5', hnl, hm, hm', hagm.len, m2, m2', htt, hk3, himl, hy, hy', hagl.len, e19, e19', f0, f0']
                  refine callA hwd ?_ rfl
                  simp -dsimp [h10, h0, h1, h2, h8, hh8, h7, hh7, h9, hw, hw1a, hlt, hacc, b1, b2, hkd, hkf]
                  exact ⟨show orderOk _ _ = true by kernel_rfl, acc ++ [⟨IntKind.i64.wrap (f.address + y.bias), wrapU (IntKind.i64.wrap (tv + f.addend))⟩], .inr ⟨110, by simp, by (first | (simp [Bound.enc, ha]; done) | (simp [Bound.enc]; done))⟩, by simp [hacc], hv⟩
  · have hkl : k = y.image.fixups.length := by omega
    subst hkl
    rw [List.drop_length] at hrun
    have hrun : R = runSlot l im y lz 0 y.image.imports acc := hrun
    simp -dsimp [h10, h0, h1, h2, h8, hh8, h7, hh7, hag.len, i6, i6', i5, i5']
    refine awp_loopN y.image.imports.length (fun j s => s.t 16 = .dat (.int .i64 j) ∧ s.t 0 = .dat (.sl (l.map Loaded.enc)) ∧ s.t 1 = .dat (.int .i64 im) ∧ s.t 2 = .dat (.bool lz) ∧ s.t 8 = .bptr 8 0 ∧ s.h 8 = some (y.image.enc.cells.map .dat) ∧ s.t 7 = .bptr 7 0 ∧ s.h 7 = some [.dat (.int .i64 0), .dat (.int .i64 0)] ∧
      ∃ acc, GrowsR [110, 142] 63 2 (s.t 9) (acc.map Bound.enc) ∧ acc.length ≤ 600 + j ∧ R = runSlot l im y lz j (y.image.imports.drop j) acc)
      ⟨by simp, by simp [h0], by simp [h1], by simp [h2], by simp [h8], by simp [hh8], by simp [h7], by simp [hh7], acc, by
        rcases hgr with ⟨ha, h9⟩ | ⟨d, hd, h9⟩
        · exact .inl ⟨ha, by simp [h9]⟩
        · simp only [List.mem_singleton] at hd
          subst hd
          exact .inr ⟨110, by simp, by simp [h9]⟩, by omega, by simpa using hrun⟩ ?_
    clear h10 h0 h1 h2 h8 hh8 h7 hh7 hrun hgr hacc
    rintro j s1 hj ⟨h16, h0, h1, h2, h8, hh8, h7, hh7, acc, hgr, hacc, hrun⟩
    have hcase : (acc = [] ∧ s1.t 9 = .nilS) ∨ ∃ d, (d = 110 ∨ d = 142) ∧ s1.t 9 = .ow d 63 2 (acc.map Bound.enc) := by
      rcases hgr with ⟨ha, h9⟩ | ⟨d, hd, h9⟩
      · exact .inl ⟨by simpa using ha, h9⟩
      · exact .inr ⟨d, by simpa using hd, h9⟩
    clear hgr
    by_cases hlt : j < y.image.imports.length
    · have hw : IntKind.i64.wrap ((j : Int) + 1) = j + 1 := wrap_in (by omega) (by omega)
      obtain ⟨m, hm⟩ : ∃ m, y.image.imports[j]? = some m := ⟨_, List.getElem?_eq_getElem hlt⟩
      have hm' : ∀ h, y.image.imports[j]'h = m := fun h => (List.getElem?_eq_some_iff.1 hm).2
      have hdrop : y.image.imports.drop j = m :: y.image.imports.drop (j + 1) := by rw [← (List.getElem?_eq_some_iff.1 hm).2]; exact List.drop_eq_getElem_cons hlt
      have hcall := hsc j m hm
      have hagm := Import.ag m
      have m3 : m.enc.cells[3]? = some (.int .i64 m.slot) := rfl
      have m3' : ∀ h, m.enc.cells[3]'h = .int .i64 m.slot := fun _ => rfl
      rw [hdrop] at hrun
      simp only [runSlot] at hrun
      generalize slotOf l im y j m lz = r at *
      obtain ⟨⟨ba, bv⟩, code⟩ := r
      simp only [Bound.enc] at hcall
      have b1 : (acc.length + 1) * 16 ≤ 140737488355328 := by omega
      have b2 : acc.length + 1 ≤ 9223372036854775807 := by omega
      by_cases hs0 : m.slot < 0
      · rw [if_pos hs0] at hrun
        rcases hcase with ⟨ha, h9⟩ | ⟨d, hd, h9⟩
        · simp -dsimp [h16, h0, h1, h2, h8, hh8, h7, hh7, h9, hlt, hag.len, i5, i5', hm, hm', hagm.len, m3, m3', hs0, hw]
          exact ⟨acc, .inl ⟨by simp [ha], rfl⟩, by omega, hrun⟩
        · simp -dsimp [h16, h0, h1, h2, h8, hh8, h7, hh7, h9, hlt, hag.len, i5, i5', hm, hm', hagm.len, m3, m3', hs0, hw]
          exact ⟨acc, .inr ⟨d, by simpa using hd, rfl⟩, by omega, hrun⟩
      · rw [if_neg hs0] at hrun
        by_cases hc : code = 0
        · subst hc
          rw [if_pos rfl] at hrun
          rcases hcase with ⟨ha, h9⟩ | ⟨d, rfl | rfl, h9⟩
          all_goals
            simp -dsimp [h16, h0, h1, h2, h8, hh8, h7, hh7, h9, hlt, hag.len, i5, i5', hm, hm', hagm.len, m3, m3', hs0]
            refine callA hcall ?_ rfl
            simp -dsimp [h16, h0, h1, h2, h8, hh8, h7, hh7, h9, hw, hlt, b1, b2, hkd]
            exact ⟨acc ++ [⟨ba, bv⟩], .inr ⟨142, by simp, by (first | (simp [Bound.enc, ha]; done) | (simp [Bound.enc]; done))⟩, by simp; omega, hrun⟩
        · rw [if_neg hc] at hrun
          unfold W at hrun
          rcases hcase with ⟨ha, h9⟩ | ⟨d, rfl | rfl, h9⟩
          all_goals
            simp -dsimp [h16, h0, h1, h2, h8, hh8, h7, hh7, h9, hlt, hag.len, i5, i5', hm, hm', hagm.len, m3, m3', hs0]
            refine callA hcall ?_ rfl
            simp -dsimp [h16, h0, h1, h2, h8, hh8, h7, hh7, h9, hc]
            refine callA (at6_c _ _) ?_ rfl
            simp -dsimp [h7, hh7, hrun, words6P, Fault.enc]
    · have hkl : j = y.image.imports.length := by omega
      subst hkl
      rw [List.drop_length] at hrun
      have hrun : R = (acc, Fault.ok) := hrun
      rw [hrun]
      rcases hcase with ⟨ha, h9⟩ | ⟨d, hd, h9⟩
      · subst ha
        simp -dsimp [h16, h0, h1, h2, h8, hh8, h7, hh7, h9, hag.len, i5, i5', words6P, Fault.enc, Fault.ok]
      · simp -dsimp [h16, h0, h1, h2, h8, hh8, h7, hh7, h9, hag.len, i5, i5', words6P, Fault.enc, Fault.ok]
end Go.Proofs.YtflpgdlgfffigaaGreat
