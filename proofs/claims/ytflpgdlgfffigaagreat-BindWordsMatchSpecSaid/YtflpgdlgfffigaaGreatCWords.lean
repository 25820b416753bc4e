/- All words of an image. -/
import Derived.Test.YtflpgdlgfffigaaGreatCoreC
import Derived.Test.YtflpgdlgfffigaaGreatCFix
set_option linter.unusedSimpArgs false
set_option linter.unusedVariables false
namespace Go.Proofs.YtflpgdlgfffigaaGreat
open Go Go.Abs
set_option maxRecDepth 8000
set_option maxHeartbeats 4000000

def wordsP (r : List Bound × Fault) : PVal := .tup [.dat (.sl (r.1.map Bound.enc)), .dat r.2.enc]
theorem allWords_c (l : List Loaded) (hl : Short l ∧ ∀ x ∈ l, x.WF) (hb : l.length * 384 ≤ 140737488355328) (hok : loadedF l = Fault.ok) (im : Nat) (y : Loaded) (hy : l[im]? = some y) (lz : Bool) :
    RCall Tryz.prog 73 [.dat (.sl (l.map Loaded.enc)), .dat (.int .i64 im), .dat (.bool lz)] (wordsP (allOf l im y lz)) := by
  have hof := of_c l hl hb hok
  have hyl := List.mem_of_getElem? hy
  have hyw : y.WF := hl.2 y hyl
  have himok := loaded_image hok hyl
  obtain ⟨hf600, hfix⟩ := image_fixups himok
  obtain ⟨hi80, himp⟩ := image_imports himok
  have himl : im < l.length := (List.getElem?_eq_some_iff.1 hy).1
  have hy' : l[im] = y := (List.getElem?_eq_some_iff.1 hy).2
  have hagl := Loaded.ag y
  have i6 : y.enc.cells[6]? = some (.sl (y.image.fixups.map Fixup.enc)) := rfl
  have i6' : ∀ h, y.enc.cells[6]'h = .sl (y.image.fixups.map Fixup.enc) := fun _ => rfl
  have i5 : y.enc.cells[5]? = some (.sl (y.image.imports.map Import.enc)) := rfl
  have i5' : ∀ h, y.enc.cells[5]'h = .sl (y.image.imports.map Import.enc) := fun _ => rfl
  have hfc := fun f hk => fix_c l hl hb hok im y hy f hk
  have hsc := fun (k : Nat) (m : Import) hm => slot_c l hl hb hok im y hy k m hm lz
  have hdef : allOf l im y lz = runFix l im y lz 0 y.image.fixups [] := rfl
  generalize allOf l im y lz = R at *
  unfold binderD intsD at *
  refine rcall_of hmix [] Tryz.func73 (by kernel_rfl) rfl (by simp [Tryz.f73]) ?_
  simp -dsimp [Tryz.f73]
  refine callA hof ?_ rfl
  simp -dsimp [hy, hy', himl, hagl.len, i6, i6']
  refine awp_loopN y.image.fixups.length (fun k s => s.t 27 = .dat (.int .i64 k) ∧ s.t 26 = .dat (.int .i64 y.image.fixups.length) ∧ s.t 25 = .dat (.sl (y.image.fixups.map Fixup.enc)) ∧ s.t 0 = .dat (.sl (l.map Loaded.enc)) ∧ s.t 1 = .dat (.int .i64 im) ∧ s.t 2 = .dat (.bool lz) ∧ s.t 8 = .bptr 8 0 ∧
      s.h 8 = some [.dat (.sl (l.map Loaded.enc)), .dat (.sl ((imagesOf l).map Image.enc)), .dat (.sl ((orderOf l).map (.int .i64)))] ∧ s.t 7 = .bptr 7 0 ∧ s.h 7 = some [.dat (.int .i64 0), .dat (.int .i64 0)] ∧
      ∃ acc, GrowsR [47] 63 2 (s.t 9) (acc.map Bound.enc) ∧ acc.length = k ∧ R = runFix l im y lz k (y.image.fixups.drop k) acc)
    ⟨by simp, by simp, by simp, by simp, by simp, by simp, by simp, by simp, by simp, by simp, [], .inl ⟨rfl, by simp⟩, rfl, by simpa using hdef⟩ ?_
  rintro k s hk ⟨h27, h26, h25, h0, h1, h2, h8, hh8, h7, hh7, acc, hgr, hacc, hrun⟩
  by_cases hlt : k < y.image.fixups.length
  · have hw : IntKind.i64.wrap ((k : Int) + 1) = k + 1 := wrap_in (by omega) (by omega)
    obtain ⟨f, hf⟩ : ∃ f, y.image.fixups[k]? = some f := ⟨_, List.getElem?_eq_getElem hlt⟩
    have hf' : y.image.fixups[k] = f := (List.getElem?_eq_some_iff.1 hf).2
    have hdrop : y.image.fixups.drop k = f :: y.image.fixups.drop (k + 1) := by rw [← hf']; exact List.drop_eq_getElem_cons hlt
    have hcall := hfc f (fixup_ok (hfix k f hf)).1
    rw [hdrop] at hrun
    simp only [runFix] at hrun
    generalize fixOf l im y f = r at *
    obtain ⟨⟨ba, bv⟩, code⟩ := r
    simp only [resP, Bound.enc] at hcall
    have hagf := Fixup.ag f
    have b1 : (k + 1) * 16 ≤ 140737488355328 := by omega
    have b2 : k + 1 ≤ 9223372036854775807 := by omega
    rcases hgr with ⟨ha, h9⟩ | ⟨d, hd, h9⟩
    · have ha0 : acc = [] := by simpa using ha
      subst ha0
      simp at hacc
      subst hacc
      simp -dsimp [h27, h26, h25, h0, h1, h2, h8, hh8, h7, hh7, h9, hlt, hf, hf', hagf.len, hagf.ld, hagf.mkT, hagf.flats, hagf.mk]
      refine callA hcall ?_ rfl
      simp -dsimp [h27, h26, h25, h0, h1, h2, h8, hh8, h7, hh7, h9]
      refine gif ?_ ?_
      · intro hc
        simp at hc
        rw [if_neg hc] at hrun
        simp -dsimp [h27, h26, h25, h0, h1, h2, h8, hh8, h7, hh7, h9, hrun, wordsP, Fault.enc]
      · intro hc
        simp at hc
        rw [if_pos hc] at hrun
        have hw1 : IntKind.i64.wrap 1 = 1 := wrap_in (by omega) (by omega)
        simp -dsimp [h27, h26, h25, h0, h1, h2, h8, hh8, h7, hh7, h9, hw, hw1, hlt]
        exact ⟨[⟨ba, bv⟩], .inr ⟨47, by simp, rfl⟩, rfl, by simpa using hrun⟩
    · simp only [List.mem_singleton] at hd
      subst hd
      have halen : (acc.map Bound.enc).length = k := by simp [hacc]
      simp -dsimp [h27, h26, h25, h0, h1, h2, h8, hh8, h7, hh7, h9, hlt, hf, hf', hagf.len, hagf.ld, hagf.mkT, hagf.flats, hagf.mk]
      refine callA hcall ?_ rfl
      simp -dsimp [h27, h26, h25, h0, h1, h2, h8, hh8, h7, hh7, h9]
      refine gif ?_ ?_
      · intro hc
        simp at hc
        rw [if_neg hc] at hrun
        simp -dsimp [h27, h26, h25, h0, h1, h2, h8, hh8, h7, hh7, h9, hrun, wordsP, Fault.enc]
      · intro hc
        simp at hc
        rw [if_pos hc] at hrun
        simp -dsimp [h27, h26, h25, h0, h1, h2, h8, hh8, h7, hh7, h9, hw, hlt, hacc, b1, b2]
        exact ⟨acc ++ [⟨ba, bv⟩], .inr ⟨47, by simp, by simp [Bound.enc]⟩, by simp [hacc], hrun⟩
  · have hkl : k = y.image.fixups.length := by omega
    subst hkl
    rw [List.drop_length] at hrun
    have hrun : R = runSlot l im y lz 0 y.image.imports acc := hrun
    simp -dsimp [h27, h26, h25, h0, h1, h2, h8, hh8, h7, hh7, hy, hy', himl, hagl.len, i5, i5']
    refine awp_loopN y.image.imports.length (fun j s => s.t 56 = .dat (.int .i64 j) ∧ s.t 55 = .dat (.int .i64 y.image.imports.length) ∧ s.t 54 = .dat (.sl (y.image.imports.map Import.enc)) ∧ s.t 1 = .dat (.int .i64 im) ∧ s.t 2 = .dat (.bool lz) ∧ s.t 8 = .bptr 8 0 ∧
      s.h 8 = some [.dat (.sl (l.map Loaded.enc)), .dat (.sl ((imagesOf l).map Image.enc)), .dat (.sl ((orderOf l).map (.int .i64)))] ∧ s.t 7 = .bptr 7 0 ∧ s.h 7 = some [.dat (.int .i64 0), .dat (.int .i64 0)] ∧
      ∃ acc, GrowsR [47, 81] 63 2 (s.t 9) (acc.map Bound.enc) ∧ acc.length ≤ 600 + j ∧ R = runSlot l im y lz j (y.image.imports.drop j) acc)
      ⟨by simp, by simp, by simp, by simp [h1], by simp [h2], by simp [h8], by simp [hh8], by simp [h7], by simp [hh7], acc, by
        rcases hgr with ⟨ha, h9⟩ | ⟨d, hd, h9⟩
        · exact .inl ⟨ha, by simp [h9]⟩
        · simp only [List.mem_singleton] at hd
          subst hd
          exact .inr ⟨47, by simp, by simp [h9]⟩, by omega, by simpa using hrun⟩ ?_
    clear h27 h26 h25 h0 h1 h2 h8 hh8 h7 hh7
    rintro j s1 hj ⟨h56, h55, h54, h1, h2, h8, hh8, h7, hh7, acc, hgr, hacc, hrun⟩
    by_cases hlt : j < y.image.imports.length
    · have hw : IntKind.i64.wrap ((j : Int) + 1) = j + 1 := wrap_in (by omega) (by omega)
      obtain ⟨m, hm⟩ : ∃ m, y.image.imports[j]? = some m := ⟨_, List.getElem?_eq_getElem hlt⟩
      have hm' : y.image.imports[j] = m := (List.getElem?_eq_some_iff.1 hm).2
      have hdrop : y.image.imports.drop j = m :: y.image.imports.drop (j + 1) := by rw [← hm']; exact List.drop_eq_getElem_cons hlt
      have hcall := hsc j m hm
      rw [hdrop] at hrun
      simp only [runSlot] at hrun
      generalize slotOf l im y j m lz = r at *
      obtain ⟨⟨ba, bv⟩, code⟩ := r
      simp only [resP, Bound.enc] at hcall
      have b1 : (acc.length + 1) * 16 ≤ 140737488355328 := by omega
      have b2 : acc.length + 1 ≤ 9223372036854775807 := by omega
      have hcase : (acc.map Bound.enc = [] ∧ s1.t 9 = .nilS) ∨ s1.t 9 = .ow 47 63 2 (acc.map Bound.enc) ∨ s1.t 9 = .ow 81 63 2 (acc.map Bound.enc) := by
        rcases hgr with h | ⟨d, hd, h9⟩
        · exact .inl h
        · simp at hd
          rcases hd with rfl | rfl
          · exact .inr (.inl h9)
          · exact .inr (.inr h9)
      by_cases hs0 : m.slot < 0
      · rw [if_pos hs0] at hrun
        rcases hcase with ⟨ha, h9⟩ | h9 | h9
        · simp -dsimp [h56, h55, h54, h1, h2, h8, hh8, h7, hh7, h9, hlt, hm, hm', Import.enc, hs0, hw]
          exact ⟨acc, .inl ⟨ha, rfl⟩, by omega, hrun⟩
        · simp -dsimp [h56, h55, h54, h1, h2, h8, hh8, h7, hh7, h9, hlt, hm, hm', Import.enc, hs0, hw]
          exact ⟨acc, .inr ⟨47, by simp, rfl⟩, by omega, hrun⟩
        · simp -dsimp [h56, h55, h54, h1, h2, h8, hh8, h7, hh7, h9, hlt, hm, hm', Import.enc, hs0, hw]
          exact ⟨acc, .inr ⟨81, by simp, rfl⟩, by omega, hrun⟩
      · rw [if_neg hs0] at hrun
        rcases hcase with ⟨ha, h9⟩ | h9 | h9
        · have ha0 : acc = [] := by simpa using ha
          subst ha0
          simp -dsimp [h56, h55, h54, h1, h2, h8, hh8, h7, hh7, h9, hlt, hm, hm', Import.enc, hs0]
          refine callA hcall ?_ rfl
          simp -dsimp [h56, h55, h54, h1, h2, h8, hh8, h7, hh7, h9]
          refine gif ?_ ?_
          · intro hc
            simp at hc
            rw [if_neg hc] at hrun
            simp -dsimp [h56, h55, h54, h1, h2, h8, hh8, h7, hh7, h9, hrun, wordsP, Fault.enc, W]
          · intro hc
            simp at hc
            rw [if_pos hc] at hrun
            simp -dsimp [h56, h55, h54, h1, h2, h8, hh8, h7, hh7, h9, hw, hlt]
            exact ⟨[⟨ba, bv⟩], .inr ⟨81, by simp, rfl⟩, by simp; omega, hrun⟩
        · simp -dsimp [h56, h55, h54, h1, h2, h8, hh8, h7, hh7, h9, hlt, hm, hm', Import.enc, hs0]
          refine callA hcall ?_ rfl
          simp -dsimp [h56, h55, h54, h1, h2, h8, hh8, h7, hh7, h9]
          refine gif ?_ ?_
          · intro hc
            simp at hc
            rw [if_neg hc] at hrun
            simp -dsimp [h56, h55, h54, h1, h2, h8, hh8, h7, hh7, h9, hrun, wordsP, Fault.enc, W]
          · intro hc
            simp at hc
            rw [if_pos hc] at hrun
            simp -dsimp [h56, h55, h54, h1, h2, h8, hh8, h7, hh7, h9, hw, hlt, b1, b2]
            exact ⟨acc ++ [⟨ba, bv⟩], .inr ⟨81, by simp, by simp [Bound.enc]⟩, by simp; omega, hrun⟩
        · simp -dsimp [h56, h55, h54, h1, h2, h8, hh8, h7, hh7, h9, hlt, hm, hm', Import.enc, hs0]
          refine callA hcall ?_ rfl
          simp -dsimp [h56, h55, h54, h1, h2, h8, hh8, h7, hh7, h9]
          refine gif ?_ ?_
          · intro hc
            simp at hc
            rw [if_neg hc] at hrun
            simp -dsimp [h56, h55, h54, h1, h2, h8, hh8, h7, hh7, h9, hrun, wordsP, Fault.enc, W]
          · intro hc
            simp at hc
            rw [if_pos hc] at hrun
            simp -dsimp [h56, h55, h54, h1, h2, h8, hh8, h7, hh7, h9, hw, hlt, b1, b2]
            exact ⟨acc ++ [⟨ba, bv⟩], .inr ⟨81, by simp, by simp [Bound.enc]⟩, by simp; omega, hrun⟩
    · have hkl : j = y.image.imports.length := by omega
      subst hkl
      rw [List.drop_length] at hrun
      have hrun : R = (acc, Fault.ok) := hrun
      rw [hrun]
      rcases hgr with ⟨ha, h9⟩ | ⟨d, hd, h9⟩
      · simp -dsimp [h56, h55, h54, h1, h2, h8, hh8, h7, hh7, h9, ha, wordsP, Fault.enc, Fault.ok]
      · simp -dsimp [h56, h55, h54, h1, h2, h8, hh8, h7, hh7, h9, wordsP, Fault.enc, Fault.ok]

theorem words_c (l : List Loaded) (hl : Short l ∧ ∀ x ∈ l, x.WF) (hb : l.length * 384 ≤ 140737488355328) (im : Int) (lz : Bool) :
    RCall Tryz.prog 34 [.dat (.sl (l.map Loaded.enc)), .dat (.int .i64 im), .dat (.bool lz)] (wordsP (wordsF l im lz)) := by
  have hchk := check_loaded_c l hl hb
  rcases fault_cases (loadedF l) with hs | ⟨c, n, hs, hne, hcn⟩
  · rw [hs] at hchk
    simp only [Fault.enc, Fault.ok] at hchk
    by_cases hin : im < 0 ∨ (l.length : Int) ≤ im
    · have hF : wordsF l im lz = ([], ⟨3, -9⟩) := by unfold wordsF; rw [if_neg (by simp [hs]), if_pos hin]
      rw [hF]
      refine rcall_of hmix [] Tryz.func34 (by kernel_rfl) rfl (by simp [Tryz.f34]) ?_
      simp -dsimp [Tryz.f34]
      refine callA hchk ?_ rfl
      simp -dsimp [Fault.enc]
      by_cases h0 : im < 0
      · simp -dsimp [h0, wordsP, Fault.enc]
        (try (show orderOk _ _ = true; kernel_rfl))
      · have h1 : (l.length : Int) ≤ im := by omega
        simp -dsimp [h0, h1, wordsP, Fault.enc]
        (try (show orderOk _ _ = true; kernel_rfl))
    · obtain ⟨ik, rfl⟩ : ∃ ik : Nat, im = ik := ⟨im.toNat, by omega⟩
      have hil : ik < l.length := by omega
      obtain ⟨y, hy⟩ : ∃ y, l[ik]? = some y := ⟨_, List.getElem?_eq_getElem hil⟩
      have hF : wordsF l ik lz = allOf l ik y lz := by unfold wordsF; rw [if_neg (by simp [hs]), if_neg hin, show ((ik : Nat) : Int).toNat = ik by omega, hy]
      have hall := allWords_c l hl hb hs ik y hy lz
      have h0 : ¬ (ik : Int) < 0 := by omega
      have h1 : ¬ (l.length : Int) ≤ ik := by omega
      rw [hF]
      generalize allOf l ik y lz = R at *
      simp only [wordsP, Fault.enc] at hall
      refine rcall_of hmix [] Tryz.func34 (by kernel_rfl) rfl (by simp [Tryz.f34]) ?_
      simp -dsimp [Tryz.f34]
      refine callA hchk ?_ rfl
      simp -dsimp [Fault.enc, h0, h1]
      refine callA hall ?_ rfl
      simp -dsimp [wordsP, Fault.enc]
  · have hF : wordsF l im lz = ([], ⟨c, n⟩) := by unfold wordsF; rw [if_pos hne, hs]
    rw [hs] at hchk
    simp only [Fault.enc] at hchk
    rw [hF]
    refine rcall_of hmix [] Tryz.func34 (by kernel_rfl) rfl (by simp [Tryz.f34]) ?_
    simp -dsimp [Tryz.f34]
    refine callA hchk ?_ rfl
    simp -dsimp [Fault.enc, hcn, wordsP]
    repeat' (first | (refine gif ?_ ?_ <;> intro h <;> (try simp only [Bool.not_eq_eq_eq_not, Bool.not_true, Bool.not_false, decide_eq_true_eq, decide_eq_false_iff_not] at h) <;> (try simp -dsimp [h, hcn, wordsP, Fault.enc])) | (refine And.intro (show orderOk _ _ = true by kernel_rfl) ?_) | (show orderOk _ _ = true; kernel_rfl))

def oneP (r : Bound × Fault) : PVal := .tup [.dat r.1.enc, .dat r.2.enc]
theorem one_c (l : List Loaded) (hl : Short l ∧ ∀ x ∈ l, x.WF) (hb : l.length * 384 ≤ 140737488355328) (im k : Int) :
    RCall Tryz.prog 38 [.dat (.sl (l.map Loaded.enc)), .dat (.int .i64 im), .dat (.int .i64 k)] (oneP (oneF l im k)) := by
  have hchk := check_loaded_c l hl hb
  rcases fault_cases (loadedF l) with hs | ⟨c, n, hs, hne, hcn⟩
  · rw [hs] at hchk
    simp only [Fault.enc, Fault.ok] at hchk
    by_cases hin : im < 0 ∨ (l.length : Int) ≤ im
    · have hF : oneF l im k = (⟨0, 0⟩, ⟨3, -9⟩) := by unfold oneF; rw [if_neg (by simp [hs]), if_pos hin]
      rw [hF]
      refine rcall_of hmix [] Tryz.func38 (by kernel_rfl) rfl (by simp [Tryz.f38]) ?_
      simp -dsimp [Tryz.f38]
      refine callA hchk ?_ rfl
      simp -dsimp [Fault.enc]
      by_cases h0 : im < 0
      · simp -dsimp [h0, oneP, Fault.enc, Bound.enc]
        (try (show orderOk _ _ = true; kernel_rfl))
      · have h1 : (l.length : Int) ≤ im := by omega
        simp -dsimp [h0, h1, oneP, Fault.enc, Bound.enc]
        (try (show orderOk _ _ = true; kernel_rfl))
    · obtain ⟨ik, rfl⟩ : ∃ ik : Nat, im = ik := ⟨im.toNat, by omega⟩
      have hil : ik < l.length := by omega
      obtain ⟨y, hy⟩ : ∃ y, l[ik]? = some y := ⟨_, List.getElem?_eq_getElem hil⟩
      have hy' : l[ik] = y := (List.getElem?_eq_some_iff.1 hy).2
      have h0 : ¬ (ik : Int) < 0 := by omega
      have h1 : ¬ (l.length : Int) ≤ ik := by omega
      have hagl := Loaded.ag y
      have i5 : y.enc.cells[5]? = some (.sl (y.image.imports.map Import.enc)) := rfl
      have i5' : ∀ h, y.enc.cells[5]'h = .sl (y.image.imports.map Import.enc) := fun _ => rfl
      have hF0 : oneF l ik k = if k < 0 ∨ (y.image.imports.length : Int) ≤ k then (⟨0, 0⟩, ⟨3, -9⟩) else if (importAt y k).slot < 0 then (⟨0, 0⟩, ⟨6, -2⟩) else if (slotOf l ik y k (importAt y k) false).2 = 0 then ((slotOf l ik y k (importAt y k) false).1, Fault.ok) else (⟨0, 0⟩, ⟨(slotOf l ik y k (importAt y k) false).2, W (-20 - k)⟩) := by
        unfold oneF; rw [if_neg (by simp [hs]), if_neg hin, show ((ik : Nat) : Int).toNat = ik by omega, hy]
      rw [hF0]
      by_cases hk : k < 0 ∨ (y.image.imports.length : Int) ≤ k
      · rw [if_pos hk]
        refine rcall_of hmix [] Tryz.func38 (by kernel_rfl) rfl (by simp [Tryz.f38]) ?_
        simp -dsimp [Tryz.f38]
        refine callA hchk ?_ rfl
        simp -dsimp [Fault.enc, h0, h1]
        by_cases k0 : k < 0
        · simp -dsimp [k0, h0, h1, hil, hy, hy', hagl.len, i5, i5', oneP, Fault.enc, Bound.enc]
          (try (show orderOk _ _ = true; kernel_rfl))
        · have k1 : (y.image.imports.length : Int) ≤ k := by omega
          simp -dsimp [k0, k1, h0, h1, hil, hy, hy', hagl.len, i5, i5', oneP, Fault.enc, Bound.enc]
          (try (show orderOk _ _ = true; kernel_rfl))
      · rw [if_neg hk]
        obtain ⟨kp, rfl⟩ : ∃ kp : Nat, k = kp := ⟨k.toNat, by omega⟩
        have hkl : kp < y.image.imports.length := by omega
        obtain ⟨m, hm⟩ : ∃ m, y.image.imports[kp]? = some m := ⟨_, List.getElem?_eq_getElem hkl⟩
        have hm' : y.image.imports[kp] = m := (List.getElem?_eq_some_iff.1 hm).2
        have k0 : ¬ (kp : Int) < 0 := by omega
        have k1 : ¬ (y.image.imports.length : Int) ≤ kp := by omega
        have him : importAt y (kp : Int) = m := by unfold importAt; rw [show ((kp : Nat) : Int).toNat = kp by omega, hm]
        rw [him]
        have hof := of_c l hl hb hs
        have hslot := slot_c l hl hb hs ik y hy kp m hm false
        have hagm := Import.ag m
        have m3 : m.enc.cells[3]? = some (.int .i64 m.slot) := rfl
        have m3' : ∀ h, m.enc.cells[3]'h = .int .i64 m.slot := fun _ => rfl
        by_cases s0 : m.slot < 0
        · rw [if_pos s0]
          refine rcall_of hmix [] Tryz.func38 (by kernel_rfl) rfl (by simp [Tryz.f38]) ?_
          simp -dsimp [Tryz.f38]
          refine callA hchk ?_ rfl
          simp -dsimp [Fault.enc, h0, h1, k0, k1, hil, hy, hy', hagl.len, i5, i5', hm, hm', hkl, hagm.len, m3, m3', s0, oneP, Bound.enc]
          (try (show orderOk _ _ = true; kernel_rfl))
        · rw [if_neg s0]
          generalize slotOf l ik y kp m false = r at *
          obtain ⟨⟨ba, bv⟩, code⟩ := r
          unfold binderD at *
          simp only [resP, Bound.enc] at hslot
          by_cases hc : code = 0
          · rw [if_pos hc]
            subst hc
            refine rcall_of hmix [] Tryz.func38 (by kernel_rfl) rfl (by simp [Tryz.f38]) ?_
            simp -dsimp [Tryz.f38]
            refine callA hchk ?_ rfl
            simp -dsimp [Fault.enc, h0, h1, k0, k1, hil, hy, hy', hagl.len, i5, i5', hm, hm', hkl, hagm.len, m3, m3', s0]
            repeat' (first | (refine gif ?_ ?_ <;> intro h <;> (try simp only [Bool.not_eq_eq_eq_not, Bool.not_true, Bool.not_false, decide_eq_true_eq, decide_eq_false_iff_not] at h) <;> (try simp -dsimp [h])) | (refine And.intro (show orderOk _ _ = true by kernel_rfl) ?_) | (show orderOk _ _ = true; kernel_rfl) | (refine callA hof ?_ rfl; simp -dsimp) | (refine callA hslot ?_ rfl; simp -dsimp [oneP, Fault.enc, Fault.ok, Bound.enc]))
          · rw [if_neg hc]
            refine rcall_of hmix [] Tryz.func38 (by kernel_rfl) rfl (by simp [Tryz.f38]) ?_
            simp -dsimp [Tryz.f38]
            refine callA hchk ?_ rfl
            simp -dsimp [Fault.enc, h0, h1, k0, k1, hil, hy, hy', hagl.len, i5, i5', hm, hm', hkl, hagm.len, m3, m3', s0]
            repeat' (first | (refine gif ?_ ?_ <;> intro h <;> (try simp only [Bool.not_eq_eq_eq_not, Bool.not_true, Bool.not_false, decide_eq_true_eq, decide_eq_false_iff_not] at h) <;> (try simp -dsimp [h])) | (refine And.intro (show orderOk _ _ = true by kernel_rfl) ?_) | (show orderOk _ _ = true; kernel_rfl) | (refine callA hof ?_ rfl; simp -dsimp) | (refine callA hslot ?_ rfl; simp -dsimp [hc, oneP, Fault.enc, Fault.ok, Bound.enc, W]))
  · have hF : oneF l im k = (⟨0, 0⟩, ⟨c, n⟩) := by unfold oneF; rw [if_pos hne, hs]
    rw [hs] at hchk
    simp only [Fault.enc] at hchk
    rw [hF]
    refine rcall_of hmix [] Tryz.func38 (by kernel_rfl) rfl (by simp [Tryz.f38]) ?_
    simp -dsimp [Tryz.f38]
    refine callA hchk ?_ rfl
    simp -dsimp [Fault.enc, hcn, oneP, Bound.enc]
    repeat' (first | (refine gif ?_ ?_ <;> intro h <;> (try simp only [Bool.not_eq_eq_eq_not, Bool.not_true, Bool.not_false, decide_eq_true_eq, decide_eq_false_iff_not] at h) <;> (try simp -dsimp [h, hcn, oneP, Fault.enc])) | (refine And.intro (show orderOk _ _ = true by kernel_rfl) ?_) | (show orderOk _ _ = true; kernel_rfl))
end Go.Proofs.YtflpgdlgfffigaaGreat
