/- The references: the fault of an image. -/
import Derived.Test.YtflpgdlgfffigaaGreatCRefE
set_option linter.unusedSimpArgs false
set_option linter.unusedVariables false
namespace Go.Proofs.YtflpgdlgfffigaaGreat
open Go Go.Abs
set_option maxRecDepth 8000
set_option maxHeartbeats 4000000

theorem imageFault_c (i : Image) (hi : i.WF) : RCall Tryz.prog 58 [.dat i.enc, .dat (.int .i64 (typesF i.types).code)] (.dat (imageF i).enc) := by
  have hag := Image.ag i
  have hsl := hi.segments.1
  have htl := hi.thread.1
  unfold Short at hsl htl
  have c0 : i.enc.cells[0]? = some (.str i.name) := rfl
  have c0' : ∀ h, i.enc.cells[0]'h = .str i.name := fun _ => rfl
  have c2 : i.enc.cells[2]? = some (.sl (i.segments.map Segment.enc)) := rfl
  have c2' : ∀ h, i.enc.cells[2]'h = .sl (i.segments.map Segment.enc) := fun _ => rfl
  have c3 : i.enc.cells[3]? = some (.int .i64 i.entry) := rfl
  have c3' : ∀ h, i.enc.cells[3]'h = .int .i64 i.entry := fun _ => rfl
  have c7 : i.enc.cells[7]? = some (.sl (i.thread.map (.int .u8))) := rfl
  have c7' : ∀ h, i.enc.cells[7]'h = .sl (i.thread.map (.int .u8)) := fun _ => rfl
  have c8 : i.enc.cells[8]? = some (.int .i64 i.threadSize) := rfl
  have c8' : ∀ h, i.enc.cells[8]'h = .int .i64 i.threadSize := fun _ => rfl
  have c12 : i.enc.cells[12]? = some (.int .i64 i.id) := rfl
  have c12' : ∀ h, i.enc.cells[12]'h = .int .i64 i.id := fun _ => rfl
  have hbad : ∀ c n : Int, headF i = ⟨c, n⟩ → ¬ c = 0 → imageF i = ⟨c, n⟩ := by
    intro c n h hc
    unfold imageF
    rw [if_neg (by rw [h, fault_ok]; simp [hc]), h]
  generalize hT : (typesF i.types).code = T
  refine rcall_of hmix [] Tryz.func58 (by kernel_rfl) rfl (by simp [Tryz.f58]) ?_
  simp -dsimp [Tryz.f58, hag.len, hag.flats, c0, c0']
  refine callA (nameOk_c _ hi.name) ?_ rfl
  cases hnm : isName i.name
  · have hF := hbad 12 (-1) (by unfold headF; rw [if_pos hnm]) (by decide)
    simp -dsimp
    refine callA (at4_c _ _) ?_ rfl
    simp -dsimp [hF, Fault.enc]
  simp -dsimp [hag.len, c2, c2']
  refine gif ?_ ?_
  · intro h
    simp at h
    have hF := hbad 2 (-10) (by unfold headF segments; rw [if_neg (by simp [hnm]), if_pos h]; simp [Fault.ok]) (by decide)
    simp -dsimp
    refine callA (at4_c _ _) ?_ rfl
    simp -dsimp [hF, Fault.enc]
  intro h40
  simp at h40
  simp -dsimp
  have hsegs : segments i.segments = segsFrom 0 0 i.segments := by unfold segments; rw [if_neg (by omega)]
  refine awp_loopN i.segments.length (fun k s => s.t 5 = .dat (.int .i64 k) ∧ s.t 1 = .dat (.int .i64 T) ∧ s.t 2 = .cptr (i.enc.cells.map .dat) ∧ s.t 4 = .bptr 4 0 ∧ s.h 4 = some [.dat (.int .i64 0), .dat (.int .i64 0)] ∧ (∀ x ∈ i.segments.take k, SegIn x) ∧
    ∃ e, (match prev i.segments k with | none => e ≤ 0 | some p => SegIn p ∧ e = up256 (p.address + p.size)) ∧ segments i.segments = segsFrom e k (i.segments.drop k)) ⟨by simp, by simp, by simp, by simp, by simp, by simp, 0, by simp [prev_zero], by simpa using hsegs⟩ ?_
  rintro k s hk ⟨h5, h1, h2, h4, hh4, hin, e, he, hrest⟩
  by_cases hlt : k < i.segments.length
  · have hw : IntKind.i64.wrap ((k : Int) + 1) = k + 1 := wrap_in (by omega) (by omega)
    have hw2 : IntKind.i64.wrap (100 + (k : Int)) = 100 + k := wrap_in (by omega) (by omega)
    obtain ⟨g, hg⟩ : ∃ g, i.segments[k]? = some g := ⟨_, List.getElem?_eq_getElem hlt⟩
    have hg' : i.segments[k] = g := (List.getElem?_eq_some_iff.1 hg).2
    have hdrop : i.segments.drop k = g :: i.segments.drop (k + 1) := by rw [← hg']; exact List.drop_eq_getElem_cons hlt
    have hsc := segCode4_c i hi k hlt e he
    rw [hg'] at hsc
    rw [hdrop] at hrest
    simp -dsimp [h5, h1, h2, h4, hh4, hag.len, hag.ld, hag.mkT, c2, c2', hlt]
    refine callA hsc ?_ rfl
    simp -dsimp [h5, h1, h2, h4, hh4]
    by_cases hc : segCode e g = 0
    · have hsg : SegIn g := by
        unfold segCode at hc
        unfold SegIn
        split at hc <;> omega
      have hnext : segsFrom e k (g :: i.segments.drop (k + 1)) = segsFrom (up256 (g.address + g.size)) (k + 1) (i.segments.drop (k + 1)) := by
        conv => lhs; unfold segsFrom
        rw [if_pos hc]
      rw [hnext] at hrest
      simp -dsimp [h5, h1, h2, h4, hh4, hc, hw, hlt]
      refine ⟨?_, _, ⟨by rw [prev_succ, hg]; exact ⟨hsg, rfl⟩, hrest⟩⟩
      intro x hx
      rw [List.take_succ_eq_append_getElem hlt, hg'] at hx
      rcases List.mem_append.1 hx with hx | hx
      · exact hin x hx
      · simp at hx; subst hx; exact hsg
    · have hF := hbad (segCode e g) (100 + k) (by
        have : segsFrom e k (g :: i.segments.drop (k + 1)) = ⟨segCode e g, 100 + k⟩ := by
          conv => lhs; unfold segsFrom
          rw [if_neg hc]
        rw [this] at hrest
        unfold headF
        rw [if_neg (by simp [hnm]), hrest, if_pos (by rw [fault_ok]; simp [hc])]) hc
      simp -dsimp [h5, h1, h2, h4, hh4, hc, hw2]
      refine callA (at4_c _ _) ?_ rfl
      simp -dsimp [h4, hh4, hF, Fault.enc]
  · have hkl : k = i.segments.length := by omega
    subst hkl
    have hsok : segments i.segments = Fault.ok := by rw [hrest]; simp [segsFrom]
    have hs : ∀ x ∈ i.segments, SegIn x := by intro x hx; exact hin x (by rw [List.take_length]; exact hx)
    have hhead : headF i = if i.entry < -1 ∨ 0 ≤ i.entry ∧ within i i.entry 0 4 = false then ⟨3, -2⟩
      else if i.threadSize < 0 ∨ 8000 < i.threadSize then ⟨3, -3⟩
      else if i.threadSize < (i.thread.length : Int) then ⟨9, -3⟩
      else if i.id < 0 ∨ 4294967295 < i.id then ⟨3, -4⟩
      else Fault.ok := by unfold headF; rw [if_neg (by simp [hnm]), if_neg (by simp [hsok])]
    clear hrest he hin
    simp -dsimp [h5, h1, h2, h4, hh4, hag.len, hag.ld, hag.mkT, c2, c2', c3, c3']
    repeat' (first | (refine gif ?_ ?_ <;> intro h <;> (try simp only [Bool.not_eq_eq_eq_not, Bool.not_true, Bool.not_false, decide_eq_true_eq, decide_eq_false_iff_not] at h) <;> (try simp -dsimp [h, h1, h2, h4, hh4, hag.len, hag.ld, hag.mkT, c3, c3', c7, c7', c8, c8', c12, c12'])) | (refine And.intro (show orderOk _ _ = true by kernel_rfl) ?_) | (show orderOk _ _ = true; kernel_rfl) | (refine callA (within4_c i hi hs i.entry 0 4 (by omega) (by omega)) ?_ rfl; simp -dsimp [h1, h2, h4, hh4, hag.len, hag.ld, hag.mkT, c8, c8']) | (refine callA (in4_c _ _ _) ?_ rfl; simp -dsimp [h1, h2, h4, hh4, hag.len, hag.ld, hag.mkT, c7, c7', c8, c8', c12, c12']) | (refine callA (at4_c _ _) ?_ rfl; simp -dsimp [h1, h2, h4, hh4]))
    all_goals (try simp only [inB_true, inB_false] at *)
    all_goals first
      | (have hX : headF i = ⟨3, -2⟩ := by rw [hhead]; clear hhead hbad hag c0 c0' c2 c2' c3 c3' c7 c7' c8 c8' c12 c12' hsegs hsok hs hi h1 h2 h4 hh4 h5; (repeat' split) <;> first | rfl | omega | (simp_all; done) | (simp_all; omega)
         rw [hbad 3 (-2) hX (by decide)]; rfl)
      | (have hX : headF i = ⟨3, -3⟩ := by rw [hhead]; clear hhead hbad hag c0 c0' c2 c2' c3 c3' c7 c7' c8 c8' c12 c12' hsegs hsok hs hi h1 h2 h4 hh4 h5; (repeat' split) <;> first | rfl | omega | (simp_all; done) | (simp_all; omega)
         rw [hbad 3 (-3) hX (by decide)]; rfl)
      | (have hX : headF i = ⟨9, -3⟩ := by rw [hhead]; clear hhead hbad hag c0 c0' c2 c2' c3 c3' c7 c7' c8 c8' c12 c12' hsegs hsok hs hi h1 h2 h4 hh4 h5; (repeat' split) <;> first | rfl | omega | (simp_all; done) | (simp_all; omega)
         rw [hbad 9 (-3) hX (by decide)]; rfl)
      | (have hX : headF i = ⟨3, -4⟩ := by rw [hhead]; clear hhead hbad hag c0 c0' c2 c2' c3 c3' c7 c7' c8 c8' c12 c12' hsegs hsok hs hi h1 h2 h4 hh4 h5; (repeat' split) <;> first | rfl | omega | (simp_all; done) | (simp_all; omega)
         rw [hbad 3 (-4) hX (by decide)]; rfl)
      | skip
    all_goals
      have hX : headF i = Fault.ok := by rw [hhead]; clear hhead hbad hag c0 c0' c2 c2' c3 c3' c7 c7' c8 c8' c12 c12' hsegs hsok hs hi h1 h2 h4 hh4 h5; (repeat' split) <;> first | rfl | omega | (simp_all; done) | (simp_all; omega)
      have himg : imageF i = firstF ((List.range 12).map (listAt i)) := by unfold imageF; rw [if_pos hX, bodyF_eq]
      clear hhead hbad hX c0 c0' c2 c2' c3 c3' c7 c7' c8 c8' c12 c12' h5
      refine awp_loopN 12 (fun m s => s.t 7 = .dat (.int .i64 (11 + (m : Int))) ∧ s.t 1 = .dat (.int .i64 T) ∧ s.t 2 = .cptr (i.enc.cells.map .dat) ∧ s.t 4 = .bptr 4 0 ∧ s.h 4 = some [.dat (.int .i64 0), .dat (.int .i64 0)] ∧ imageF i = firstF (((List.range 12).map (listAt i)).drop m)) ⟨by simp, by simp [h1], by simp [h2], by simp [h4], by simp [hh4], by simpa using himg⟩ ?_
      clear h1 h2 h4 hh4
      rintro m s hm ⟨h7, h1, h2, h4, hh4, hrest⟩
      by_cases hlt : m < 12
      · have hle : 11 + (m : Int) ≤ 22 := by omega
        have hw : IntKind.i64.wrap (11 + (m : Int) + 1) = 11 + ((m : Int) + 1) := by rw [wrap_in (by omega) (by omega)]; omega
        rw [drop_rangeMap _ hlt] at hrest
        by_cases h9 : m = 9
        · subst h9
          have hl9 : listAt i 9 = typesIn i.types := rfl
          rw [hl9] at hrest
          by_cases hT0 : T = 0
          · have hok : typesF i.types = Fault.ok := by
              rcases good_types i.types with h | h
              · exact h
              · rw [hT] at h; exact absurd hT0 h
            rw [firstF_ok (by unfold typesIn; rw [if_pos hok])] at hrest
            simp -dsimp [h7, h1, h2, h4, hh4, hT0]
            exact ⟨by decide, hrest⟩
          · have hne : ¬ typesF i.types = Fault.ok := by intro h; rw [h] at hT; exact hT0 hT.symm
            have hti : typesIn i.types = ⟨T, -20⟩ := by unfold typesIn; rw [if_neg hne, hT]
            rw [hti, firstF_ne (by rw [fault_ok]; simp [hT0])] at hrest
            simp -dsimp [h7, h1, h2, h4, hh4, hT0]
            refine callA (at4_c _ _) ?_ rfl
            simp -dsimp [h4, hh4, hrest, Fault.enc]
        · have hn20 : ¬ 11 + (m : Int) = 20 := by omega
          have hneg : IntKind.i64.wrap (-(11 + (m : Int))) = -(11 + m) := wrap_in (by omega) (by omega)
          have hla : listAt i m = each (mostAt m) (11 + m) ((List.range (lenAt i m)).map (elemAt i m)) := by unfold listAt; rw [if_neg h9]
          have hmost := most_le m
          simp -dsimp [h7, h1, h2, h4, hh4, hle, hn20, hag.len, hag.ld, hag.mkT]
          refine callA (size4_c i m hlt h9 _ rfl) ?_ rfl
          simp -dsimp [h7, h1, h2, h4, hh4]
          by_cases hbig : mostAt m < (lenAt i m : Int)
          · have hea : listAt i m = ⟨2, -(11 + m)⟩ := by rw [hla]; unfold each; rw [if_pos (by simpa using hbig)]
            rw [hea, firstF_ne (by rw [fault_ok]; simp)] at hrest
            simp -dsimp [h7, h1, h2, h4, hh4, hbig, hneg]
            refine callA (at4_c _ _) ?_ rfl
            simp -dsimp [h4, hh4, hrest, Fault.enc]
          · have hea : listAt i m = eachFrom (11 + m) 0 ((List.range (lenAt i m)).map (elemAt i m)) := by rw [hla]; unfold each; rw [if_neg (by simpa using hbig)]
            simp -dsimp [h7, h1, h2, h4, hh4, hbig]
            refine awp_loopN (lenAt i m) (fun k s => s.t 10 = .dat (.int .i64 k) ∧ s.t 8 = .dat (.int .i64 (lenAt i m)) ∧ s.t 7 = .dat (.int .i64 (11 + (m : Int))) ∧ s.t 1 = .dat (.int .i64 T) ∧ s.t 2 = .cptr (i.enc.cells.map .dat) ∧ s.t 4 = .bptr 4 0 ∧ s.h 4 = some [.dat (.int .i64 0), .dat (.int .i64 0)] ∧ (∀ j, j < k → elemAt i m j = 0) ∧ listAt i m = eachFrom (11 + m) k (((List.range (lenAt i m)).map (elemAt i m)).drop k)) ⟨by simp, by simp, by simp [h7], by simp [h1], by simp [h2], by simp [h4], by simp [hh4], by omega, by simpa using hea⟩ ?_
            clear h7 h1 h2 h4 hh4
            rintro k s hk ⟨h10, h8, h7, h1, h2, h4, hh4, hpre, hrest2⟩
            by_cases hkl : k < lenAt i m
            · have hwk : IntKind.i64.wrap ((k : Int) + 1) = k + 1 := wrap_in (by omega) (by omega)
              have hw1 : IntKind.i64.wrap (1000 * (11 + (m : Int))) = 1000 * (11 + m) := wrap_in (by omega) (by omega)
              have hw2 : IntKind.i64.wrap (1000 * (11 + (m : Int)) + k) = 1000 * (11 + m) + k := wrap_in (by omega) (by omega)
              rw [drop_rangeMap _ hkl] at hrest2
              simp -dsimp [h10, h8, h7, h1, h2, h4, hh4, hkl, hag.len, hag.ld, hag.mkT]
              refine callA (elem4_c i hi hs m hlt h9 _ rfl k hkl hpre) ?_ rfl
              simp -dsimp [h10, h8, h7, h1, h2, h4, hh4]
              by_cases hc : elemAt i m k = 0
              · have hn : eachFrom (11 + m) k (elemAt i m k :: ((List.range (lenAt i m)).map (elemAt i m)).drop (k + 1)) = eachFrom (11 + m) (k + 1) (((List.range (lenAt i m)).map (elemAt i m)).drop (k + 1)) := by simp [eachFrom, hc]
                rw [hn] at hrest2
                simp -dsimp [h10, h8, h7, h1, h2, h4, hh4, hc, hwk, hkl]
                refine ⟨fun j hj => ?_, hrest2⟩
                by_cases e : j = k
                · subst e; exact hc
                · exact hpre j (by omega)
              · have hn : eachFrom (11 + m) k (elemAt i m k :: ((List.range (lenAt i m)).map (elemAt i m)).drop (k + 1)) = ⟨elemAt i m k, 1000 * (11 + m) + k⟩ := by simp [eachFrom, hc]
                rw [hn] at hrest2
                rw [hrest2, firstF_ne (by rw [fault_ok]; simp [hc])] at hrest
                simp -dsimp [h10, h8, h7, h1, h2, h4, hh4, hc, hw1, hw2]
                refine callA (at4_c _ _) ?_ rfl
                simp -dsimp [h4, hh4, hrest, Fault.enc]
            · have hke : k = lenAt i m := by omega
              subst hke
              rw [drop_rangeMap_end] at hrest2
              rw [firstF_ok (by rw [hrest2]; rfl)] at hrest
              simp -dsimp [h10, h8, h7, h1, h2, h4, hh4, hw, hlt]
              try exact hrest
      · have hm12 : m = 12 := by omega
        subst hm12
        rw [drop_rangeMap_end] at hrest
        have hF : imageF i = Fault.ok := by rw [hrest]; rfl
        simp -dsimp [h7, h1, h2, h4, hh4, hF, Fault.enc, Fault.ok]
end Go.Proofs.YtflpgdlgfffigaaGreat
