/- The references' error codes of an image's elements. -/
import Derived.Test.YtflpgdlgfffigaaGreatCRefB
set_option linter.unusedSimpArgs false
set_option linter.unusedVariables false
namespace Go.Proofs.YtflpgdlgfffigaaGreat
open Go Go.Abs
set_option maxRecDepth 8000
set_option maxHeartbeats 4000000

theorem varBefore_c (a b : Variable) : RCall Tryz.prog 242 [.dat a.enc, .dat b.enc] (.dat (.bool (decide (cmpVariables a b < 0)))) := by
  simp only [cmpVariables_lt]
  refine rcall_of hmix [] Tryz.func242 (by kernel_rfl) rfl (by simp [Tryz.f242]) ?_
  simp -dsimp [Tryz.f242, Variable.enc]
  repeat' (first | (refine gif ?_ ?_ <;> intro h <;> (try simp only [Bool.not_eq_eq_eq_not, Bool.not_true, Bool.not_false, decide_eq_true_eq, decide_eq_false_iff_not] at h) <;> (try simp -dsimp [h])) | (refine And.intro (show orderOk _ _ = true by kernel_rfl) ?_) | (show orderOk _ _ = true; kernel_rfl) | (refine callA (before_c _ _) ?_ rfl; simp -dsimp))
  all_goals simp_all


theorem exportCode4_c (i : Image) (hi : i.WF) (hs : ∀ s ∈ i.segments, SegIn s) (k : Nat) (hk : k < i.exports.length) : RCall Tryz.prog 197 [.dat i.enc, .dat (.int .i64 k)] (.dat (.int .i64 (exportCode i k))) := by
  obtain ⟨e, he⟩ : ∃ e, i.exports[k]? = some e := ⟨_, List.getElem?_eq_getElem hk⟩
  have he' : i.exports[k] = e := (List.getElem?_eq_some_iff.1 he).2
  have hew : e.WF := hi.exports.2 e (List.mem_of_getElem? he)
  have hlen := hi.exports.1
  unfold Short at hlen
  have hcode : exportCode i k = exportOne i (prev i.exports k) e := by unfold exportCode; rw [he]
  rw [hcode]; clear hcode
  rcases k with _ | j
  · rw [prev_zero]
    refine rcall_of hmix [] Tryz.func197 (by kernel_rfl) rfl (by simp [Tryz.f197]) ?_
    simp -dsimp [Tryz.f197, he, he', hk, Image.enc, Image.cells, Export.enc]
    repeat' (first | (refine gif ?_ ?_ <;> intro h <;> (try simp only [Bool.not_eq_eq_eq_not, Bool.not_true, Bool.not_false, decide_eq_true_eq, decide_eq_false_iff_not] at h) <;> (try simp -dsimp [h, he, he', hk])) | (refine And.intro (show orderOk _ _ = true by kernel_rfl) ?_) | (show orderOk _ _ = true; kernel_rfl) | (refine callA (nameOk_c _ hew.1) ?_ rfl; simp -dsimp [he, he', hk]) | (refine callA (versionOk4_c _ hew.2.1) ?_ rfl; simp -dsimp [he, he', hk]) | (refine callA (in4_c _ _ _) ?_ rfl; simp -dsimp [he, he', hk]) | (refine callA (within4_c i hi hs _ _ _ (by omega) (by omega)) ?_ rfl; simp -dsimp [he, he', hk]) | (refine callA (before_c _ _) ?_ rfl; simp -dsimp [he, he', hk]))
    all_goals (try simp only [inB_true, inB_false] at *)
    all_goals first
      | (unfold exportOne; repeat' split <;> first | rfl | omega | (simp_all; done) | (simp_all; omega))
      | (simp_all [exportOne]; done)
      | (simp_all [exportOne]; omega)

  · obtain ⟨p, hp⟩ : ∃ p, i.exports[j]? = some p := ⟨_, List.getElem?_eq_getElem (by omega)⟩
    have hj : j < i.exports.length := by omega
    have hp' : i.exports[j] = p := (List.getElem?_eq_some_iff.1 hp).2
    have hw : IntKind.i64.wrap (j : Int) = j := wrap_in (by omega) (by omega)
    have hn : ((j : Int) + 1).toNat = j + 1 := by omega
    have h0 : (0 : Int) < (j : Int) + 1 := by omega
    have h00 : (0 : Int) ≤ (j : Int) + 1 := by omega
    rw [prev_succ, hp]
    have hnn := cmpExports_nn p e
    refine rcall_of hmix [] Tryz.func197 (by kernel_rfl) rfl (by simp [Tryz.f197]) ?_
    simp -dsimp [Tryz.f197, he, he', hk, hp, hp', hj, hw, hn, h0, h00, Image.enc, Image.cells, Export.enc]
    repeat' (first | (refine gif ?_ ?_ <;> intro h <;> (try simp only [Bool.not_eq_eq_eq_not, Bool.not_true, Bool.not_false, decide_eq_true_eq, decide_eq_false_iff_not] at h) <;> (try simp -dsimp [h, he, he', hk, hp, hp', hj, hw, hn, h0, h00, Export.enc])) | (refine And.intro (show orderOk _ _ = true by kernel_rfl) ?_) | (show orderOk _ _ = true; kernel_rfl) | (refine callA (nameOk_c _ hew.1) ?_ rfl; simp -dsimp [he, he', hk, hp, hp', hj, hw, hn, h0, h00, Export.enc]) | (refine callA (versionOk4_c _ hew.2.1) ?_ rfl; simp -dsimp [he, he', hk, hp, hp', hj, hw, hn, h0, h00, Export.enc]) | (refine callA (in4_c _ _ _) ?_ rfl; simp -dsimp [he, he', hk, hp, hp', hj, hw, hn, h0, h00, Export.enc]) | (refine callA (within4_c i hi hs _ _ _ (by omega) (by omega)) ?_ rfl; simp -dsimp [he, he', hk, hp, hp', hj, hw, hn, h0, h00, Export.enc]) | (refine callA (before_c _ _) ?_ rfl; simp -dsimp [he, he', hk, hp, hp', hj, hw, hn, h0, h00, Export.enc]))
    all_goals (try simp only [inB_true, inB_false] at *)
    all_goals first
      | (unfold exportOne; repeat' split <;> first | rfl | omega | (simp_all; done) | (simp_all; omega))
      | (simp_all [exportOne]; done)
      | (simp_all [exportOne]; omega)


theorem importCode4_c (i : Image) (hi : i.WF) (hs : ∀ s ∈ i.segments, SegIn s) (k : Nat) (hk : k < i.imports.length) : RCall Tryz.prog 198 [.dat i.enc, .dat (.int .i64 k)] (.dat (.int .i64 (importCode i k))) := by
  obtain ⟨e, he⟩ : ∃ e, i.imports[k]? = some e := ⟨_, List.getElem?_eq_getElem hk⟩
  have he' : i.imports[k] = e := (List.getElem?_eq_some_iff.1 he).2
  have hew : e.WF := hi.imports.2 e (List.mem_of_getElem? he)
  have hcode : importCode i k = importOne i e := by unfold importCode; rw [he]
  rw [hcode]; clear hcode
  by_cases hz : 0 ≤ e.size ∧ e.size ≤ 1000000
  · have hin : inB e.size 0 1000000 = true := inB_true.2 hz
    refine rcall_of hmix [] Tryz.func198 (by kernel_rfl) rfl (by simp [Tryz.f198]) ?_
    simp -dsimp [Tryz.f198, he, he', hk, Image.enc, Image.cells, Import.enc]
    repeat' (first | (refine gif ?_ ?_ <;> intro h <;> (try simp only [Bool.not_eq_eq_eq_not, Bool.not_true, Bool.not_false, decide_eq_true_eq, decide_eq_false_iff_not] at h) <;> (try simp -dsimp [h])) | (refine And.intro (show orderOk _ _ = true by kernel_rfl) ?_) | (show orderOk _ _ = true; kernel_rfl) | (refine callA (nameOk_c _ hew.1) ?_ rfl; simp -dsimp []) | (refine callA (versionOk4_c _ hew.2.1) ?_ rfl; simp -dsimp []) | (refine callA (in4_c _ _ _) ?_ rfl; simp -dsimp [hin]) | (refine callA (within4_c i hi hs _ _ _ (by omega) (by omega)) ?_ rfl; simp -dsimp []))
    all_goals (try simp only [inB_true, inB_false] at *)
    all_goals (unfold importOne; repeat' split <;> first | rfl | omega | (simp_all; done) | (simp_all; omega))
  · have hin : inB e.size 0 1000000 = false := by rw [inB_false]; omega
    refine rcall_of hmix [] Tryz.func198 (by kernel_rfl) rfl (by simp [Tryz.f198]) ?_
    simp -dsimp [Tryz.f198, he, he', hk, Image.enc, Image.cells, Import.enc]
    repeat' (first | (refine gif ?_ ?_ <;> intro h <;> (try simp only [Bool.not_eq_eq_eq_not, Bool.not_true, Bool.not_false, decide_eq_true_eq, decide_eq_false_iff_not] at h) <;> (try simp -dsimp [h])) | (refine And.intro (show orderOk _ _ = true by kernel_rfl) ?_) | (show orderOk _ _ = true; kernel_rfl) | (refine callA (nameOk_c _ hew.1) ?_ rfl; simp -dsimp []) | (refine callA (versionOk4_c _ hew.2.1) ?_ rfl; simp -dsimp []) | (refine callA (in4_c _ _ _) ?_ rfl; simp -dsimp [hin]))
    all_goals (try simp only [inB_true, inB_false] at *)
    all_goals (unfold importOne; repeat' split <;> first | rfl | omega | (simp_all; done) | (simp_all; omega))

theorem fixupCode4_c (i : Image) (hi : i.WF) (hs : ∀ s ∈ i.segments, SegIn s) (k : Nat) (hk : k < i.fixups.length) (hprev : ∀ b, prev i.fixups k = some b → 0 ≤ b.address ∧ b.address ≤ 1048576) : RCall Tryz.prog 199 [.dat i.enc, .dat (.int .i64 k)] (.dat (.int .i64 (fixupCode i k))) := by
  obtain ⟨e, he⟩ : ∃ e, i.fixups[k]? = some e := ⟨_, List.getElem?_eq_getElem hk⟩
  have he' : i.fixups[k] = e := (List.getElem?_eq_some_iff.1 he).2
  have hew : e.WF := hi.fixups.2 e (List.mem_of_getElem? he)
  have hlen := hi.fixups.1
  unfold Short at hlen
  have hml := hi.imports.1
  unfold Short at hml
  have hmw : IntKind.i64.wrap ((i.imports.length : Int) - 1) = i.imports.length - 1 := wrap_in (by omega) (by omega)
  have hcode : fixupCode i k = fixupOne i (prev i.fixups k) e := by unfold fixupCode; rw [he]
  rw [hcode]; clear hcode
  rcases k with _ | j
  · rw [prev_zero]
    refine rcall_of hmix [] Tryz.func199 (by kernel_rfl) rfl (by simp [Tryz.f199]) ?_
    simp -dsimp [Tryz.f199, he, he', hk, hmw, Image.enc, Image.cells, Fixup.enc]
    repeat' (first | (refine gif ?_ ?_ <;> intro h <;> (try simp only [Bool.not_eq_eq_eq_not, Bool.not_true, Bool.not_false, decide_eq_true_eq, decide_eq_false_iff_not] at h) <;> (try simp -dsimp [h, he, he', hk, hmw])) | (refine And.intro (show orderOk _ _ = true by kernel_rfl) ?_) | (show orderOk _ _ = true; kernel_rfl) | (refine callA (in4_c _ _ _) ?_ rfl; simp -dsimp [he, he', hk, hmw]) | (refine callA (within4_c i hi hs _ _ _ (by omega) (by omega)) ?_ rfl; simp -dsimp [he, he', hk, hmw]))
    all_goals (try simp only [inB_true, inB_false] at *)
    all_goals first
      | (unfold fixupOne; repeat' split <;> first | rfl | omega | (simp_all; done) | (simp_all; omega))
      | (simp_all [fixupOne]; done)
      | (simp_all [fixupOne]; omega)

  · obtain ⟨p, hp⟩ : ∃ p, i.fixups[j]? = some p := ⟨_, List.getElem?_eq_getElem (by omega)⟩
    have hj : j < i.fixups.length := by omega
    have hp' : i.fixups[j] = p := (List.getElem?_eq_some_iff.1 hp).2
    have hw : IntKind.i64.wrap (j : Int) = j := wrap_in (by omega) (by omega)
    have hn : ((j : Int) + 1).toNat = j + 1 := by omega
    have h0 : (0 : Int) < (j : Int) + 1 := by omega
    have h00 : (0 : Int) ≤ (j : Int) + 1 := by omega
    rw [prev_succ, hp]
    have hpb := hprev p (by rw [prev_succ, hp])
    have hW : W (p.address + 4) = p.address + 4 := W_in (by omega) (by omega)
    by_cases hwi : within i e.address 4 0 = true
    · have hbd := within_in hs (by omega) hwi
      have hsub : IntKind.i64.wrap (e.address - p.address) = e.address - p.address := wrap_in (by omega) (by omega)
      refine rcall_of hmix [] Tryz.func199 (by kernel_rfl) rfl (by simp [Tryz.f199]) ?_
      simp -dsimp [Tryz.f199, he, he', hk, hmw, hp, hp', hj, hw, hn, h0, h00, hwi, hsub, Image.enc, Image.cells, Fixup.enc]
      repeat' (first | (refine gif ?_ ?_ <;> intro h <;> (try simp only [Bool.not_eq_eq_eq_not, Bool.not_true, Bool.not_false, decide_eq_true_eq, decide_eq_false_iff_not] at h) <;> (try simp -dsimp [h, he, he', hk, hmw, hp, hp', hj, hw, hn, h0, h00, hwi, hsub, Fixup.enc])) | (refine And.intro (show orderOk _ _ = true by kernel_rfl) ?_) | (show orderOk _ _ = true; kernel_rfl) | (refine callA (in4_c _ _ _) ?_ rfl; simp -dsimp [he, he', hk, hmw, hp, hp', hj, hw, hn, h0, h00, hwi, hsub, Fixup.enc]) | (refine callA (within4_c i hi hs _ _ _ (by omega) (by omega)) ?_ rfl; simp -dsimp [he, he', hk, hmw, hp, hp', hj, hw, hn, h0, h00, hwi, hsub, Fixup.enc]))
      all_goals (try simp only [inB_true, inB_false] at *)
      all_goals first
        | (unfold fixupOne; repeat' split <;> first | rfl | omega | (simp_all; done) | (simp_all; omega))
        | (simp_all [fixupOne]; done)
        | (simp_all [fixupOne]; omega)

    · skip
      refine rcall_of hmix [] Tryz.func199 (by kernel_rfl) rfl (by simp [Tryz.f199]) ?_
      simp -dsimp [Tryz.f199, he, he', hk, hmw, hp, hp', hj, hw, hn, h0, h00, hwi, Image.enc, Image.cells, Fixup.enc]
      repeat' (first | (refine gif ?_ ?_ <;> intro h <;> (try simp only [Bool.not_eq_eq_eq_not, Bool.not_true, Bool.not_false, decide_eq_true_eq, decide_eq_false_iff_not] at h) <;> (try simp -dsimp [h, he, he', hk, hmw, hp, hp', hj, hw, hn, h0, h00, hwi, Fixup.enc])) | (refine And.intro (show orderOk _ _ = true by kernel_rfl) ?_) | (show orderOk _ _ = true; kernel_rfl) | (refine callA (in4_c _ _ _) ?_ rfl; simp -dsimp [he, he', hk, hmw, hp, hp', hj, hw, hn, h0, h00, hwi, Fixup.enc]) | (refine callA (within4_c i hi hs _ _ _ (by omega) (by omega)) ?_ rfl; simp -dsimp [he, he', hk, hmw, hp, hp', hj, hw, hn, h0, h00, hwi, Fixup.enc]))
      all_goals (try simp only [inB_true, inB_false] at *)
      all_goals first
        | (unfold fixupOne; repeat' split <;> first | rfl | omega | (simp_all; done) | (simp_all; omega))
        | (simp_all [fixupOne]; done)
        | (simp_all [fixupOne]; omega)


theorem lineCode4_c (i : Image) (hi : i.WF) (hs : ∀ s ∈ i.segments, SegIn s) (k : Nat) (hk : k < i.lines.length) : RCall Tryz.prog 200 [.dat i.enc, .dat (.int .i64 k)] (.dat (.int .i64 (lineCode i k))) := by
  obtain ⟨e, he⟩ : ∃ e, i.lines[k]? = some e := ⟨_, List.getElem?_eq_getElem hk⟩
  have he' : i.lines[k] = e := (List.getElem?_eq_some_iff.1 he).2
  have hew : e.WF := hi.lines.2 e (List.mem_of_getElem? he)
  have hlen := hi.lines.1
  unfold Short at hlen
  have hml := hi.files.1
  unfold Short at hml
  have hmw : IntKind.i64.wrap ((i.files.length : Int) - 1) = i.files.length - 1 := wrap_in (by omega) (by omega)
  have hcode : lineCode i k = lineOne i (prev i.lines k) e := by unfold lineCode; rw [he]
  rw [hcode]; clear hcode
  rcases k with _ | j
  · rw [prev_zero]
    refine rcall_of hmix [] Tryz.func200 (by kernel_rfl) rfl (by simp [Tryz.f200]) ?_
    simp -dsimp [Tryz.f200, he, he', hk, hmw, Image.enc, Image.cells, LineRow.enc]
    repeat' (first | (refine gif ?_ ?_ <;> intro h <;> (try simp only [Bool.not_eq_eq_eq_not, Bool.not_true, Bool.not_false, decide_eq_true_eq, decide_eq_false_iff_not] at h) <;> (try simp -dsimp [h, he, he', hk, hmw])) | (refine And.intro (show orderOk _ _ = true by kernel_rfl) ?_) | (show orderOk _ _ = true; kernel_rfl) | (refine callA (in4_c _ _ _) ?_ rfl; simp -dsimp [he, he', hk, hmw]))
    all_goals (try simp only [inB_true, inB_false] at *)
    all_goals first
      | (unfold lineOne; repeat' split <;> first | rfl | omega | (simp_all; done) | (simp_all; omega))
      | (simp_all [lineOne]; done)
      | (simp_all [lineOne]; omega)

  · obtain ⟨p, hp⟩ : ∃ p, i.lines[j]? = some p := ⟨_, List.getElem?_eq_getElem (by omega)⟩
    have hj : j < i.lines.length := by omega
    have hp' : i.lines[j] = p := (List.getElem?_eq_some_iff.1 hp).2
    have hw : IntKind.i64.wrap (j : Int) = j := wrap_in (by omega) (by omega)
    have hn : ((j : Int) + 1).toNat = j + 1 := by omega
    have h0 : (0 : Int) < (j : Int) + 1 := by omega
    have h00 : (0 : Int) ≤ (j : Int) + 1 := by omega
    rw [prev_succ, hp]
    refine rcall_of hmix [] Tryz.func200 (by kernel_rfl) rfl (by simp [Tryz.f200]) ?_
    simp -dsimp [Tryz.f200, he, he', hk, hmw, hp, hp', hj, hw, hn, h0, h00, Image.enc, Image.cells, LineRow.enc]
    repeat' (first | (refine gif ?_ ?_ <;> intro h <;> (try simp only [Bool.not_eq_eq_eq_not, Bool.not_true, Bool.not_false, decide_eq_true_eq, decide_eq_false_iff_not] at h) <;> (try simp -dsimp [h, he, he', hk, hmw, hp, hp', hj, hw, hn, h0, h00, LineRow.enc])) | (refine And.intro (show orderOk _ _ = true by kernel_rfl) ?_) | (show orderOk _ _ = true; kernel_rfl) | (refine callA (in4_c _ _ _) ?_ rfl; simp -dsimp [he, he', hk, hmw, hp, hp', hj, hw, hn, h0, h00, LineRow.enc]))
    all_goals (try simp only [inB_true, inB_false] at *)
    all_goals first
      | (unfold lineOne; repeat' split <;> first | rfl | omega | (simp_all; done) | (simp_all; omega))
      | (simp_all [lineOne]; done)
      | (simp_all [lineOne]; omega)


theorem unwindCode4_c (i : Image) (hi : i.WF) (hs : ∀ s ∈ i.segments, SegIn s) (k : Nat) (hk : k < i.unwind.length) : RCall Tryz.prog 201 [.dat i.enc, .dat (.int .i64 k)] (.dat (.int .i64 (unwindCode i k))) := by
  obtain ⟨e, he⟩ : ∃ e, i.unwind[k]? = some e := ⟨_, List.getElem?_eq_getElem hk⟩
  have he' : i.unwind[k] = e := (List.getElem?_eq_some_iff.1 he).2
  have hew : e.WF := hi.unwind.2 e (List.mem_of_getElem? he)
  have hlen := hi.unwind.1
  unfold Short at hlen
  have hcode : unwindCode i k = unwindOne i (prev i.unwind k) e := by unfold unwindCode; rw [he]
  rw [hcode]; clear hcode
  rcases k with _ | j
  · rw [prev_zero]
    refine rcall_of hmix [] Tryz.func201 (by kernel_rfl) rfl (by simp [Tryz.f201]) ?_
    simp -dsimp [Tryz.f201, he, he', hk, Image.enc, Image.cells, UnwindRow.enc]
    repeat' (first | (refine gif ?_ ?_ <;> intro h <;> (try simp only [Bool.not_eq_eq_eq_not, Bool.not_true, Bool.not_false, decide_eq_true_eq, decide_eq_false_iff_not] at h) <;> (try simp -dsimp [h, he, he', hk])) | (refine And.intro (show orderOk _ _ = true by kernel_rfl) ?_) | (show orderOk _ _ = true; kernel_rfl) | (refine callA (in4_c _ _ _) ?_ rfl; simp -dsimp [he, he', hk]))
    all_goals (try simp only [inB_true, inB_false] at *)
    all_goals first
      | (unfold unwindOne; repeat' split <;> first | rfl | omega | (simp_all; done) | (simp_all; omega))
      | (simp_all [unwindOne]; done)
      | (simp_all [unwindOne]; omega)

  · obtain ⟨p, hp⟩ : ∃ p, i.unwind[j]? = some p := ⟨_, List.getElem?_eq_getElem (by omega)⟩
    have hj : j < i.unwind.length := by omega
    have hp' : i.unwind[j] = p := (List.getElem?_eq_some_iff.1 hp).2
    have hw : IntKind.i64.wrap (j : Int) = j := wrap_in (by omega) (by omega)
    have hn : ((j : Int) + 1).toNat = j + 1 := by omega
    have h0 : (0 : Int) < (j : Int) + 1 := by omega
    have h00 : (0 : Int) ≤ (j : Int) + 1 := by omega
    rw [prev_succ, hp]
    refine rcall_of hmix [] Tryz.func201 (by kernel_rfl) rfl (by simp [Tryz.f201]) ?_
    simp -dsimp [Tryz.f201, he, he', hk, hp, hp', hj, hw, hn, h0, h00, Image.enc, Image.cells, UnwindRow.enc]
    repeat' (first | (refine gif ?_ ?_ <;> intro h <;> (try simp only [Bool.not_eq_eq_eq_not, Bool.not_true, Bool.not_false, decide_eq_true_eq, decide_eq_false_iff_not] at h) <;> (try simp -dsimp [h, he, he', hk, hp, hp', hj, hw, hn, h0, h00, UnwindRow.enc])) | (refine And.intro (show orderOk _ _ = true by kernel_rfl) ?_) | (show orderOk _ _ = true; kernel_rfl) | (refine callA (in4_c _ _ _) ?_ rfl; simp -dsimp [he, he', hk, hp, hp', hj, hw, hn, h0, h00, UnwindRow.enc]))
    all_goals (try simp only [inB_true, inB_false] at *)
    all_goals first
      | (unfold unwindOne; repeat' split <;> first | rfl | omega | (simp_all; done) | (simp_all; omega))
      | (simp_all [unwindOne]; done)
      | (simp_all [unwindOne]; omega)


theorem variableCode4_c (i : Image) (hi : i.WF) (hs : ∀ s ∈ i.segments, SegIn s) (k : Nat) (hk : k < i.variables.length) : RCall Tryz.prog 202 [.dat i.enc, .dat (.int .i64 k)] (.dat (.int .i64 (variableCode i k))) := by
  obtain ⟨e, he⟩ : ∃ e, i.variables[k]? = some e := ⟨_, List.getElem?_eq_getElem hk⟩
  have he' : i.variables[k] = e := (List.getElem?_eq_some_iff.1 he).2
  have hew : e.WF := hi.variables.2 e (List.mem_of_getElem? he)
  have hlen := hi.variables.1
  unfold Short at hlen
  have hml := hi.types.1
  unfold Short at hml
  have hmw : IntKind.i64.wrap ((i.types.length : Int) - 1) = i.types.length - 1 := wrap_in (by omega) (by omega)
  have hcode : variableCode i k = variableOne i (prev i.variables k) e := by unfold variableCode; rw [he]
  rw [hcode]; clear hcode
  rcases k with _ | j
  · rw [prev_zero]
    refine rcall_of hmix [] Tryz.func202 (by kernel_rfl) rfl (by simp [Tryz.f202]) ?_
    simp -dsimp [Tryz.f202, he, he', hk, hmw, Image.enc, Image.cells, Variable.enc]
    repeat' (first | (refine gif ?_ ?_ <;> intro h <;> (try simp only [Bool.not_eq_eq_eq_not, Bool.not_true, Bool.not_false, decide_eq_true_eq, decide_eq_false_iff_not] at h) <;> (try simp -dsimp [h, he, he', hk, hmw])) | (refine And.intro (show orderOk _ _ = true by kernel_rfl) ?_) | (show orderOk _ _ = true; kernel_rfl) | (refine callA (nameOk_c _ hew.1) ?_ rfl; simp -dsimp [he, he', hk, hmw]) | (refine callA (in4_c _ _ _) ?_ rfl; simp -dsimp [he, he', hk, hmw]) | (refine callA (within4_c i hi hs _ _ _ (by omega) (by omega)) ?_ rfl; simp -dsimp [he, he', hk, hmw]) | (refine callA (varBefore_c p e) ?_ rfl; simp -dsimp [he, he', hk, hmw]))
    all_goals (try simp only [inB_true, inB_false] at *)
    all_goals first
      | (unfold variableOne; repeat' split <;> first | rfl | omega | (simp_all; done) | (simp_all; omega))
      | (simp_all [variableOne]; done)
      | (simp_all [variableOne]; omega)

  · obtain ⟨p, hp⟩ : ∃ p, i.variables[j]? = some p := ⟨_, List.getElem?_eq_getElem (by omega)⟩
    have hj : j < i.variables.length := by omega
    have hp' : i.variables[j] = p := (List.getElem?_eq_some_iff.1 hp).2
    have hw : IntKind.i64.wrap (j : Int) = j := wrap_in (by omega) (by omega)
    have hn : ((j : Int) + 1).toNat = j + 1 := by omega
    have h0 : (0 : Int) < (j : Int) + 1 := by omega
    have h00 : (0 : Int) ≤ (j : Int) + 1 := by omega
    rw [prev_succ, hp]
    refine rcall_of hmix [] Tryz.func202 (by kernel_rfl) rfl (by simp [Tryz.f202]) ?_
    simp -dsimp [Tryz.f202, he, he', hk, hmw, hp, hp', hj, hw, hn, h0, h00, Image.enc, Image.cells, Variable.enc]
    repeat' (first | (refine gif ?_ ?_ <;> intro h <;> (try simp only [Bool.not_eq_eq_eq_not, Bool.not_true, Bool.not_false, decide_eq_true_eq, decide_eq_false_iff_not] at h) <;> (try simp -dsimp [h, he, he', hk, hmw, hp, hp', hj, hw, hn, h0, h00, Variable.enc])) | (refine And.intro (show orderOk _ _ = true by kernel_rfl) ?_) | (show orderOk _ _ = true; kernel_rfl) | (refine callA (nameOk_c _ hew.1) ?_ rfl; simp -dsimp [he, he', hk, hmw, hp, hp', hj, hw, hn, h0, h00, Variable.enc]) | (refine callA (in4_c _ _ _) ?_ rfl; simp -dsimp [he, he', hk, hmw, hp, hp', hj, hw, hn, h0, h00, Variable.enc]) | (refine callA (within4_c i hi hs _ _ _ (by omega) (by omega)) ?_ rfl; simp -dsimp [he, he', hk, hmw, hp, hp', hj, hw, hn, h0, h00, Variable.enc]) | (refine callA (varBefore_c p e) ?_ rfl; simp -dsimp [he, he', hk, hmw, hp, hp', hj, hw, hn, h0, h00, Variable.enc]))
    all_goals (try simp only [inB_true, inB_false] at *)
    all_goals first
      | (unfold variableOne; repeat' split <;> first | rfl | omega | (simp_all; done) | (simp_all; omega))
      | (simp_all [variableOne]; done)
      | (simp_all [variableOne]; omega)


theorem placeCode4_c (i : Image) (hi : i.WF) (hs : ∀ s ∈ i.segments, SegIn s) (k : Nat) (hk : k < i.places.length) (hprev : ∀ b, prev i.places k = some b → 0 ≤ b.address ∧ 1 ≤ b.size ∧ b.address + b.size ≤ 1048576) : RCall Tryz.prog 203 [.dat i.enc, .dat (.int .i64 k)] (.dat (.int .i64 (placeCode i k))) := by
  obtain ⟨e, he⟩ : ∃ e, i.places[k]? = some e := ⟨_, List.getElem?_eq_getElem hk⟩
  have he' : i.places[k] = e := (List.getElem?_eq_some_iff.1 he).2
  have hew : e.WF := hi.places.2 e (List.mem_of_getElem? he)
  have hlen := hi.places.1
  unfold Short at hlen
  have hbig := hew.2.1
  unfold I64 at hbig
  have hcode : placeCode i k = placeOne i (prev i.places k) e := by unfold placeCode; rw [he]
  rw [hcode]; clear hcode
  rcases k with _ | j
  · rw [prev_zero]
    refine rcall_of hmix [] Tryz.func203 (by kernel_rfl) rfl (by simp [Tryz.f203]) ?_
    simp -dsimp [Tryz.f203, he, he', hk, Image.enc, Image.cells, PlaceR.enc]
    repeat' (first | (refine gif ?_ ?_ <;> intro h <;> (try simp only [Bool.not_eq_eq_eq_not, Bool.not_true, Bool.not_false, decide_eq_true_eq, decide_eq_false_iff_not] at h) <;> (try simp -dsimp [h, he, he', hk])) | (refine And.intro (show orderOk _ _ = true by kernel_rfl) ?_) | (show orderOk _ _ = true; kernel_rfl) | (refine callA (in4_c _ _ _) ?_ rfl; simp -dsimp [he, he', hk]) | (refine callA (within4_c i hi hs _ _ _ (by omega) (by omega)) ?_ rfl; simp -dsimp [he, he', hk]))
    all_goals (try simp only [inB_true, inB_false] at *)
    all_goals first
      | (unfold placeOne; repeat' split <;> first | rfl | omega | (simp_all; done) | (simp_all; omega))
      | (simp_all [placeOne]; done)
      | (simp_all [placeOne]; omega)

  · obtain ⟨p, hp⟩ : ∃ p, i.places[j]? = some p := ⟨_, List.getElem?_eq_getElem (by omega)⟩
    have hj : j < i.places.length := by omega
    have hp' : i.places[j] = p := (List.getElem?_eq_some_iff.1 hp).2
    have hw : IntKind.i64.wrap (j : Int) = j := wrap_in (by omega) (by omega)
    have hn : ((j : Int) + 1).toNat = j + 1 := by omega
    have h0 : (0 : Int) < (j : Int) + 1 := by omega
    have h00 : (0 : Int) ≤ (j : Int) + 1 := by omega
    rw [prev_succ, hp]
    have hpb := hprev p (by rw [prev_succ, hp])
    have hW : W (p.address + p.size) = p.address + p.size := W_in (by omega) (by omega)
    by_cases hwi : 1 ≤ e.size ∧ within i e.address e.size 0 = true
    · have hbd := within_in hs (by omega) hwi.2
      have hwi2 := hwi.2
      have hsub : IntKind.i64.wrap (e.address - p.size) = e.address - p.size := wrap_in (by omega) (by omega)
      refine rcall_of hmix [] Tryz.func203 (by kernel_rfl) rfl (by simp [Tryz.f203]) ?_
      simp -dsimp [Tryz.f203, he, he', hk, hp, hp', hj, hw, hn, h0, h00, hwi2, hsub, Image.enc, Image.cells, PlaceR.enc]
      repeat' (first | (refine gif ?_ ?_ <;> intro h <;> (try simp only [Bool.not_eq_eq_eq_not, Bool.not_true, Bool.not_false, decide_eq_true_eq, decide_eq_false_iff_not] at h) <;> (try simp -dsimp [h, he, he', hk, hp, hp', hj, hw, hn, h0, h00, hwi2, hsub, PlaceR.enc])) | (refine And.intro (show orderOk _ _ = true by kernel_rfl) ?_) | (show orderOk _ _ = true; kernel_rfl) | (refine callA (in4_c _ _ _) ?_ rfl; simp -dsimp [he, he', hk, hp, hp', hj, hw, hn, h0, h00, hwi2, hsub, PlaceR.enc]) | (refine callA (within4_c i hi hs _ _ _ (by omega) (by omega)) ?_ rfl; simp -dsimp [he, he', hk, hp, hp', hj, hw, hn, h0, h00, hwi2, hsub, PlaceR.enc]))
      all_goals (try simp only [inB_true, inB_false] at *)
      all_goals first
        | (unfold placeOne; repeat' split <;> first | rfl | omega | (simp_all; done) | (simp_all; omega))
        | (simp_all [placeOne]; done)
        | (simp_all [placeOne]; omega)

    · skip
      refine rcall_of hmix [] Tryz.func203 (by kernel_rfl) rfl (by simp [Tryz.f203]) ?_
      simp -dsimp [Tryz.f203, he, he', hk, hp, hp', hj, hw, hn, h0, h00, Image.enc, Image.cells, PlaceR.enc]
      repeat' (first | (refine gif ?_ ?_ <;> intro h <;> (try simp only [Bool.not_eq_eq_eq_not, Bool.not_true, Bool.not_false, decide_eq_true_eq, decide_eq_false_iff_not] at h) <;> (try simp -dsimp [h, he, he', hk, hp, hp', hj, hw, hn, h0, h00, PlaceR.enc])) | (refine And.intro (show orderOk _ _ = true by kernel_rfl) ?_) | (show orderOk _ _ = true; kernel_rfl) | (refine callA (in4_c _ _ _) ?_ rfl; simp -dsimp [he, he', hk, hp, hp', hj, hw, hn, h0, h00, PlaceR.enc]) | (refine callA (within4_c i hi hs _ _ _ (by omega) (by omega)) ?_ rfl; simp -dsimp [he, he', hk, hp, hp', hj, hw, hn, h0, h00, PlaceR.enc]))
      all_goals (try simp only [inB_true, inB_false] at *)
      all_goals first
        | (unfold placeOne; repeat' split <;> first | rfl | omega | (simp_all; done) | (simp_all; omega))
        | (simp_all [placeOne]; done)
        | (simp_all [placeOne]; omega)

end Go.Proofs.YtflpgdlgfffigaaGreat
