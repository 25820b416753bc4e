/- The error codes of an image's elements. -/
import Derived.Test.YtflpgdlgfffigaaGreatCSegs
set_option linter.unusedSimpArgs false
set_option linter.unusedVariables false
namespace Go.Proofs.YtflpgdlgfffigaaGreat
open Go Go.Abs
set_option maxRecDepth 8000
set_option maxHeartbeats 4000000

theorem cmpExports_c (n1 v1 : Str) (d1 w1 t1 : Bool) (a1 z1 : Int) (n2 v2 : Str) (d2 w2 t2 : Bool) (a2 z2 : Int) : RCall Tryz.prog 237 [.dat (.agg [.str n1, .str v1, .bool d1, .bool w1, .bool t1, .int .i64 a1, .int .i64 z1]), .dat (.agg [.str n2, .str v2, .bool d2, .bool w2, .bool t2, .int .i64 a2, .int .i64 z2])] (.dat (.int .i64 (orI [cmpS n1 n2, cmpS v1 v2]))) := by
  refine rcall_of hmix [] Tryz.func237 (by kernel_rfl) rfl (by simp [Tryz.f237]) ?_
  simp -dsimp [Tryz.f237]
  refine callA (cmpS_c _ _) ?_ rfl
  simp -dsimp
  refine callA (cmpS_c _ _) ?_ rfl
  simp -dsimp
  refine callA (orI_c _ _) ?_ rfl
  simp -dsimp
  kernel_rfl
theorem cmpI_c (a b : Int) : RCall Tryz.prog 213 [.dat (.int .i64 a), .dat (.int .i64 b)] (.dat (.int .i64 (cmpI a b))) := by
  refine rcall_of hmix [] Tryz.func213 (by kernel_rfl) rfl (by simp [Tryz.f213]) ?_
  simp -dsimp [Tryz.f213]
  repeat' (first | (refine gif ?_ ?_ <;> intro h <;> (try simp only [Bool.not_eq_eq_eq_not, Bool.not_true, Bool.not_false, decide_eq_true_eq, decide_eq_false_iff_not] at h) <;> (try simp -dsimp [h])) | (refine And.intro (show orderOk _ _ = true by kernel_rfl) ?_) | (show orderOk _ _ = true; kernel_rfl) | (refine callA (isNaNI_c _) ?_ rfl; simp -dsimp))
  all_goals first | (simp [cmpI, *]; done) | (unfold cmpI; repeat' split <;> first | rfl | omega)
theorem or3_c (a b c : Int) : RCall Tryz.prog 256 [.dat (.sl [.int .i64 a, .int .i64 b, .int .i64 c])] (.dat (.int .i64 (orI [a, b, c]))) := by
  refine rcall_of hmix [] Tryz.func256 (by kernel_rfl) rfl (by simp [Tryz.f256]) ?_
  simp -dsimp [Tryz.f256]
  refine awp_loop (fun s => ∃ k : Nat, k ≤ 3 ∧ s.t 8 = .dat (.int .i64 k) ∧ s.t 7 = .dat (.int .i64 3) ∧ s.t 6 = .dat (.sl [.int .i64 a, .int .i64 b, .int .i64 c]) ∧ s.t 3 = .dat (.int .i64 0) ∧ (0 < k → a = 0) ∧ (1 < k → b = 0) ∧ (2 < k → c = 0)) (fun s => 3 - natOf (s.t 8)) ⟨0, by simp⟩ ?_
  rintro s ⟨k, hk, h8, h7, h6, h3, ha, hb, hcc⟩
  have h01 : k = 0 ∨ k = 1 ∨ k = 2 ∨ k = 3 := by omega
  rcases h01 with rfl | rfl | rfl | rfl
  · simp -dsimp [h8, h7, h6, h3]
    repeat' (first | (refine gif ?_ ?_ <;> intro h <;> (try simp only [Bool.not_eq_eq_eq_not, Bool.not_true, Bool.not_false, decide_eq_true_eq, decide_eq_false_iff_not] at h) <;> (try simp -dsimp [h, wrap_in, h8, h7, h6, h3, orI])) | (refine And.intro (show orderOk _ _ = true by kernel_rfl) ?_) | (show orderOk _ _ = true; kernel_rfl))
    all_goals exact ⟨1, by omega, by simp, by omega⟩
  · have ha := ha (by omega)
    simp -dsimp [h8, h7, h6, h3]
    repeat' (first | (refine gif ?_ ?_ <;> intro h <;> (try simp only [Bool.not_eq_eq_eq_not, Bool.not_true, Bool.not_false, decide_eq_true_eq, decide_eq_false_iff_not] at h) <;> (try simp -dsimp [h, wrap_in, h8, h7, h6, h3, orI, ha])) | (refine And.intro (show orderOk _ _ = true by kernel_rfl) ?_) | (show orderOk _ _ = true; kernel_rfl))
    all_goals first
      | exact ⟨2, by omega, by simp⟩
      | simp_all [orI]
  · have ha := ha (by omega)
    have hb := hb (by omega)
    simp -dsimp [h8, h7, h6, h3]
    repeat' (first | (refine gif ?_ ?_ <;> intro h <;> (try simp only [Bool.not_eq_eq_eq_not, Bool.not_true, Bool.not_false, decide_eq_true_eq, decide_eq_false_iff_not] at h) <;> (try simp -dsimp [h, wrap_in, h8, h7, h6, h3, orI, ha, hb])) | (refine And.intro (show orderOk _ _ = true by kernel_rfl) ?_) | (show orderOk _ _ = true; kernel_rfl))
    all_goals first
      | exact ⟨3, by omega, by simp⟩
      | simp_all [orI]
  · have ha := ha (by omega)
    have hb := hb (by omega)
    have hcc := hcc (by omega)
    simp -dsimp [h8, h7, h6, h3, orI, ha, hb, hcc]
theorem cmpVariables_c (a b : Variable) : RCall Tryz.prog 239 [.dat a.enc, .dat b.enc] (.dat (.int .i64 (cmpVariables a b))) := by
  unfold Variable.enc
  refine rcall_of hmix [] Tryz.func239 (by kernel_rfl) rfl (by simp [Tryz.f239]) ?_
  simp -dsimp [Tryz.f239]
  refine callA (cmpI_c _ _) ?_ rfl
  simp -dsimp
  refine callA (cmpS_c _ _) ?_ rfl
  simp -dsimp
  refine callA (cmpI_c _ _) ?_ rfl
  simp -dsimp
  refine callA (or3_c _ _ _) ?_ rfl
  simp -dsimp [cmpVariables]
  kernel_rfl

theorem imported_c (i : Image) (hi : i.WF) (m : Import) (hm : m.WF) : RCall Tryz.prog 164 [.dat i.enc, .dat m.enc] (.dat (.int .i64 (importOne i m))) := by
  refine rcall_of hmix [] Tryz.func164 (by kernel_rfl) rfl (by simp [Tryz.f164]) ?_
  simp -dsimp [Tryz.f164, Image.enc, Image.cells, Import.enc]
  repeat' (first | (refine gif ?_ ?_ <;> intro h <;> (try simp only [Bool.not_eq_eq_eq_not, Bool.not_true, Bool.not_false, decide_eq_true_eq, decide_eq_false_iff_not] at h) <;> (try simp -dsimp [h])) | (refine And.intro (show orderOk _ _ = true by kernel_rfl) ?_) | (show orderOk _ _ = true; kernel_rfl) | (refine callA (isName_c _ hm.1) ?_ rfl; simp -dsimp) | (refine callA (version_c _ hm.2.1) ?_ rfl; simp -dsimp) | (refine callA (within_c i hi _ _ _) ?_ rfl; simp -dsimp))
  all_goals first | (simp [importOne, *]; done) | (simp_all [importOne]; done) | (unfold importOne; repeat' split <;> first | rfl | omega | (simp_all; done))

theorem export_c (i : Image) (hi : i.WF) (k : Nat) (hk : k < i.exports.length) : RCall Tryz.prog 161 [.dat i.enc, .dat (.int .i64 k)] (.dat (.int .i64 (exportCode i k))) := by
  obtain ⟨e, he⟩ : ∃ e, i.exports[k]? = some e := ⟨_, List.getElem?_eq_getElem hk⟩
  have he' : i.exports[k] = e := (List.getElem?_eq_some_iff.1 he).2
  have hew : e.WF := hi.exports.2 e (List.mem_of_getElem? he)
  have hlen := hi.exports.1
  unfold Short at hlen
  have hcode : exportCode i k = exportOne i (prev i.exports k) e := by unfold exportCode; rw [he]
  rw [hcode]; clear hcode
  rcases k with _ | j
  · refine rcall_of hmix [] Tryz.func161 (by kernel_rfl) rfl (by simp [Tryz.f161]) ?_
    simp -dsimp [Tryz.f161, he, he', hk, Image.enc, Image.cells, Export.enc]
    rw [prev_zero]
    repeat' (first | (refine gif ?_ ?_ <;> intro h <;> (try simp only [Bool.not_eq_eq_eq_not, Bool.not_true, Bool.not_false, decide_eq_true_eq, decide_eq_false_iff_not] at h) <;> (try simp -dsimp [h])) | (refine And.intro (show orderOk _ _ = true by kernel_rfl) ?_) | (show orderOk _ _ = true; kernel_rfl) | (refine callA (isName_c _ hew.1) ?_ rfl; simp -dsimp) | (refine callA (version_c _ hew.2.1) ?_ rfl; simp -dsimp) | (refine callA (within_c i hi _ _ _) ?_ rfl; simp -dsimp) | (refine callA (cmpExports_c _ _ _ _ _ _ _ _ _ _ _ _ _ _) ?_ rfl; simp -dsimp))
    all_goals first | (simp [exportOne, whenI, W, cmpExports, *]; done) | (simp_all [exportOne, whenI, W, cmpExports]; done) | (unfold whenI exportOne W; repeat' split <;> first | rfl | omega | (simp_all; done) | (simp_all; omega)) | (unfold exportOne W; repeat' split <;> first | rfl | omega | (simp_all; done) | (simp_all; omega)) | (unfold exportOne; repeat' split <;> first | rfl | omega | (simp_all; done)) | (unfold exportOne; simp_all; omega)
  · obtain ⟨p, hp⟩ : ∃ p, i.exports[j]? = some p := ⟨_, List.getElem?_eq_getElem (by omega)⟩
    have hj : j < i.exports.length := by omega
    have hp' : i.exports[j] = p := (List.getElem?_eq_some_iff.1 hp).2
    have hpw : p.WF := hi.exports.2 p (List.mem_of_getElem? hp)
    have hw : IntKind.i64.wrap (j : Int) = j := wrap_in (by omega) (by omega)
    have hn : ((j : Int) + 1).toNat = j + 1 := by omega
    have h0 : (0 : Int) < (j : Int) + 1 := by omega
    have h00 : (0 : Int) ≤ (j : Int) + 1 := by omega
    refine rcall_of hmix [] Tryz.func161 (by kernel_rfl) rfl (by simp [Tryz.f161]) ?_
    simp -dsimp [Tryz.f161, he, he', hk, hp, hp', hj, hw, hn, h0, h00, Image.enc, Image.cells, Export.enc]
    rw [prev_succ, hp]
    repeat' (first | (refine gif ?_ ?_ <;> intro h <;> (try simp only [Bool.not_eq_eq_eq_not, Bool.not_true, Bool.not_false, decide_eq_true_eq, decide_eq_false_iff_not] at h) <;> (try simp -dsimp [h, he, he', hk, hp, hp', hj, hw, hn, h0, h00, Export.enc])) | (refine And.intro (show orderOk _ _ = true by kernel_rfl) ?_) | (show orderOk _ _ = true; kernel_rfl) | (refine callA (isName_c _ hew.1) ?_ rfl; simp -dsimp) | (refine callA (version_c _ hew.2.1) ?_ rfl; simp -dsimp) | (refine callA (within_c i hi _ _ _) ?_ rfl; simp -dsimp) | (refine callA (cmpExports_c _ _ _ _ _ _ _ _ _ _ _ _ _ _) ?_ rfl; simp -dsimp))
    all_goals first | (simp [exportOne, whenI, W, cmpExports, *]; done) | (simp_all [exportOne, whenI, W, cmpExports]; done) | (unfold whenI exportOne W; repeat' split <;> first | rfl | omega | (simp_all; done) | (simp_all; omega)) | (unfold exportOne W; repeat' split <;> first | rfl | omega | (simp_all; done) | (simp_all; omega)) | (unfold exportOne; repeat' split <;> first | rfl | omega | (simp_all; done)) | (unfold exportOne; simp_all; omega)

theorem fixup_c (i : Image) (hi : i.WF) (k : Nat) (hk : k < i.fixups.length) : RCall Tryz.prog 167 [.dat i.enc, .dat (.int .i64 k)] (.dat (.int .i64 (fixupCode i k))) := by
  obtain ⟨e, he⟩ : ∃ e, i.fixups[k]? = some e := ⟨_, List.getElem?_eq_getElem hk⟩
  have he' : i.fixups[k] = e := (List.getElem?_eq_some_iff.1 he).2
  have hew : e.WF := hi.fixups.2 e (List.mem_of_getElem? he)
  have hlen := hi.fixups.1
  unfold Short at hlen
  have hcode : fixupCode i k = fixupOne i (prev i.fixups k) e := by unfold fixupCode; rw [he]
  rw [hcode]; clear hcode
  rcases k with _ | j
  · refine rcall_of hmix [] Tryz.func167 (by kernel_rfl) rfl (by simp [Tryz.f167]) ?_
    simp -dsimp [Tryz.f167, he, he', hk, Image.enc, Image.cells, Fixup.enc]
    rw [prev_zero]
    repeat' (first | (refine gif ?_ ?_ <;> intro h <;> (try simp only [Bool.not_eq_eq_eq_not, Bool.not_true, Bool.not_false, decide_eq_true_eq, decide_eq_false_iff_not] at h) <;> (try simp -dsimp [h])) | (refine And.intro (show orderOk _ _ = true by kernel_rfl) ?_) | (show orderOk _ _ = true; kernel_rfl) | (refine callA (within_c i hi _ _ _) ?_ rfl; simp -dsimp))
    all_goals first | (simp [fixupOne, whenI, W, cmpExports, *]; done) | (simp_all [fixupOne, whenI, W, cmpExports]; done) | (unfold whenI fixupOne W; repeat' split <;> first | rfl | omega | (simp_all; done) | (simp_all; omega)) | (unfold fixupOne W; repeat' split <;> first | rfl | omega | (simp_all; done) | (simp_all; omega)) | (unfold fixupOne; repeat' split <;> first | rfl | omega | (simp_all; done)) | (unfold fixupOne; simp_all; omega)
  · obtain ⟨p, hp⟩ : ∃ p, i.fixups[j]? = some p := ⟨_, List.getElem?_eq_getElem (by omega)⟩
    have hj : j < i.fixups.length := by omega
    have hp' : i.fixups[j] = p := (List.getElem?_eq_some_iff.1 hp).2
    have hpw : p.WF := hi.fixups.2 p (List.mem_of_getElem? hp)
    have hw : IntKind.i64.wrap (j : Int) = j := wrap_in (by omega) (by omega)
    have hn : ((j : Int) + 1).toNat = j + 1 := by omega
    have h0 : (0 : Int) < (j : Int) + 1 := by omega
    have h00 : (0 : Int) ≤ (j : Int) + 1 := by omega
    refine rcall_of hmix [] Tryz.func167 (by kernel_rfl) rfl (by simp [Tryz.f167]) ?_
    simp -dsimp [Tryz.f167, he, he', hk, hp, hp', hj, hw, hn, h0, h00, Image.enc, Image.cells, Fixup.enc]
    rw [prev_succ, hp]
    repeat' (first | (refine gif ?_ ?_ <;> intro h <;> (try simp only [Bool.not_eq_eq_eq_not, Bool.not_true, Bool.not_false, decide_eq_true_eq, decide_eq_false_iff_not] at h) <;> (try simp -dsimp [h, he, he', hk, hp, hp', hj, hw, hn, h0, h00, Fixup.enc])) | (refine And.intro (show orderOk _ _ = true by kernel_rfl) ?_) | (show orderOk _ _ = true; kernel_rfl) | (refine callA (within_c i hi _ _ _) ?_ rfl; simp -dsimp))
    all_goals first | (simp [fixupOne, whenI, W, cmpExports, *]; done) | (simp_all [fixupOne, whenI, W, cmpExports]; done) | (unfold whenI fixupOne W; repeat' split <;> first | rfl | omega | (simp_all; done) | (simp_all; omega)) | (unfold fixupOne W; repeat' split <;> first | rfl | omega | (simp_all; done) | (simp_all; omega)) | (unfold fixupOne; repeat' split <;> first | rfl | omega | (simp_all; done)) | (unfold fixupOne; simp_all; omega)

theorem line_c (i : Image) (hi : i.WF) (k : Nat) (hk : k < i.lines.length) : RCall Tryz.prog 177 [.dat i.enc, .dat (.int .i64 k)] (.dat (.int .i64 (lineCode i k))) := by
  obtain ⟨e, he⟩ : ∃ e, i.lines[k]? = some e := ⟨_, List.getElem?_eq_getElem hk⟩
  have he' : i.lines[k] = e := (List.getElem?_eq_some_iff.1 he).2
  have hew : e.WF := hi.lines.2 e (List.mem_of_getElem? he)
  have hlen := hi.lines.1
  unfold Short at hlen
  have hcode : lineCode i k = lineOne i (prev i.lines k) e := by unfold lineCode; rw [he]
  rw [hcode]; clear hcode
  rcases k with _ | j
  · refine rcall_of hmix [] Tryz.func177 (by kernel_rfl) rfl (by simp [Tryz.f177]) ?_
    simp -dsimp [Tryz.f177, he, he', hk, Image.enc, Image.cells, LineRow.enc]
    rw [prev_zero]
    repeat' (first | (refine gif ?_ ?_ <;> intro h <;> (try simp only [Bool.not_eq_eq_eq_not, Bool.not_true, Bool.not_false, decide_eq_true_eq, decide_eq_false_iff_not] at h) <;> (try simp -dsimp [h])) | (refine And.intro (show orderOk _ _ = true by kernel_rfl) ?_) | (show orderOk _ _ = true; kernel_rfl) | (refine callA (when_c _ _) ?_ rfl; simp -dsimp))
    all_goals first | (simp [lineOne, whenI, W, cmpExports, *]; done) | (simp_all [lineOne, whenI, W, cmpExports]; done) | (unfold whenI lineOne W; repeat' split <;> first | rfl | omega | (simp_all; done) | (simp_all; omega)) | (unfold lineOne W; repeat' split <;> first | rfl | omega | (simp_all; done) | (simp_all; omega)) | (unfold lineOne; repeat' split <;> first | rfl | omega | (simp_all; done)) | (unfold lineOne; simp_all; omega)
  · obtain ⟨p, hp⟩ : ∃ p, i.lines[j]? = some p := ⟨_, List.getElem?_eq_getElem (by omega)⟩
    have hj : j < i.lines.length := by omega
    have hp' : i.lines[j] = p := (List.getElem?_eq_some_iff.1 hp).2
    have hpw : p.WF := hi.lines.2 p (List.mem_of_getElem? hp)
    have hw : IntKind.i64.wrap (j : Int) = j := wrap_in (by omega) (by omega)
    have hn : ((j : Int) + 1).toNat = j + 1 := by omega
    have h0 : (0 : Int) < (j : Int) + 1 := by omega
    have h00 : (0 : Int) ≤ (j : Int) + 1 := by omega
    refine rcall_of hmix [] Tryz.func177 (by kernel_rfl) rfl (by simp [Tryz.f177]) ?_
    simp -dsimp [Tryz.f177, he, he', hk, hp, hp', hj, hw, hn, h0, h00, Image.enc, Image.cells, LineRow.enc]
    rw [prev_succ, hp]
    repeat' (first | (refine gif ?_ ?_ <;> intro h <;> (try simp only [Bool.not_eq_eq_eq_not, Bool.not_true, Bool.not_false, decide_eq_true_eq, decide_eq_false_iff_not] at h) <;> (try simp -dsimp [h, he, he', hk, hp, hp', hj, hw, hn, h0, h00, LineRow.enc])) | (refine And.intro (show orderOk _ _ = true by kernel_rfl) ?_) | (show orderOk _ _ = true; kernel_rfl) | (refine callA (when_c _ _) ?_ rfl; simp -dsimp))
    all_goals first | (simp [lineOne, whenI, W, cmpExports, *]; done) | (simp_all [lineOne, whenI, W, cmpExports]; done) | (unfold whenI lineOne W; repeat' split <;> first | rfl | omega | (simp_all; done) | (simp_all; omega)) | (unfold lineOne W; repeat' split <;> first | rfl | omega | (simp_all; done) | (simp_all; omega)) | (unfold lineOne; repeat' split <;> first | rfl | omega | (simp_all; done)) | (unfold lineOne; simp_all; omega)

theorem unwindRow_c (i : Image) (hi : i.WF) (k : Nat) (hk : k < i.unwind.length) : RCall Tryz.prog 180 [.dat i.enc, .dat (.int .i64 k)] (.dat (.int .i64 (unwindCode i k))) := by
  obtain ⟨e, he⟩ : ∃ e, i.unwind[k]? = some e := ⟨_, List.getElem?_eq_getElem hk⟩
  have he' : i.unwind[k] = e := (List.getElem?_eq_some_iff.1 he).2
  have hew : e.WF := hi.unwind.2 e (List.mem_of_getElem? he)
  have hlen := hi.unwind.1
  unfold Short at hlen
  have hcode : unwindCode i k = unwindOne i (prev i.unwind k) e := by unfold unwindCode; rw [he]
  rw [hcode]; clear hcode
  rcases k with _ | j
  · refine rcall_of hmix [] Tryz.func180 (by kernel_rfl) rfl (by simp [Tryz.f180]) ?_
    simp -dsimp [Tryz.f180, he, he', hk, Image.enc, Image.cells, UnwindRow.enc]
    rw [prev_zero]
    repeat' (first | (refine gif ?_ ?_ <;> intro h <;> (try simp only [Bool.not_eq_eq_eq_not, Bool.not_true, Bool.not_false, decide_eq_true_eq, decide_eq_false_iff_not] at h) <;> (try simp -dsimp [h])) | (refine And.intro (show orderOk _ _ = true by kernel_rfl) ?_) | (show orderOk _ _ = true; kernel_rfl) | (refine callA (when_c _ _) ?_ rfl; simp -dsimp))
    all_goals first | (simp [unwindOne, whenI, W, cmpExports, *]; done) | (simp_all [unwindOne, whenI, W, cmpExports]; done) | (unfold whenI unwindOne W; repeat' split <;> first | rfl | omega | (simp_all; done) | (simp_all; omega)) | (unfold unwindOne W; repeat' split <;> first | rfl | omega | (simp_all; done) | (simp_all; omega)) | (unfold unwindOne; repeat' split <;> first | rfl | omega | (simp_all; done)) | (unfold unwindOne; simp_all; omega)
  · obtain ⟨p, hp⟩ : ∃ p, i.unwind[j]? = some p := ⟨_, List.getElem?_eq_getElem (by omega)⟩
    have hj : j < i.unwind.length := by omega
    have hp' : i.unwind[j] = p := (List.getElem?_eq_some_iff.1 hp).2
    have hpw : p.WF := hi.unwind.2 p (List.mem_of_getElem? hp)
    have hw : IntKind.i64.wrap (j : Int) = j := wrap_in (by omega) (by omega)
    have hn : ((j : Int) + 1).toNat = j + 1 := by omega
    have h0 : (0 : Int) < (j : Int) + 1 := by omega
    have h00 : (0 : Int) ≤ (j : Int) + 1 := by omega
    refine rcall_of hmix [] Tryz.func180 (by kernel_rfl) rfl (by simp [Tryz.f180]) ?_
    simp -dsimp [Tryz.f180, he, he', hk, hp, hp', hj, hw, hn, h0, h00, Image.enc, Image.cells, UnwindRow.enc]
    rw [prev_succ, hp]
    repeat' (first | (refine gif ?_ ?_ <;> intro h <;> (try simp only [Bool.not_eq_eq_eq_not, Bool.not_true, Bool.not_false, decide_eq_true_eq, decide_eq_false_iff_not] at h) <;> (try simp -dsimp [h, he, he', hk, hp, hp', hj, hw, hn, h0, h00, UnwindRow.enc])) | (refine And.intro (show orderOk _ _ = true by kernel_rfl) ?_) | (show orderOk _ _ = true; kernel_rfl) | (refine callA (when_c _ _) ?_ rfl; simp -dsimp))
    all_goals first | (simp [unwindOne, whenI, W, cmpExports, *]; done) | (simp_all [unwindOne, whenI, W, cmpExports]; done) | (unfold whenI unwindOne W; repeat' split <;> first | rfl | omega | (simp_all; done) | (simp_all; omega)) | (unfold unwindOne W; repeat' split <;> first | rfl | omega | (simp_all; done) | (simp_all; omega)) | (unfold unwindOne; repeat' split <;> first | rfl | omega | (simp_all; done)) | (unfold unwindOne; simp_all; omega)

theorem variable_c (i : Image) (hi : i.WF) (k : Nat) (hk : k < i.variables.length) : RCall Tryz.prog 185 [.dat i.enc, .dat (.int .i64 k)] (.dat (.int .i64 (variableCode i k))) := by
  obtain ⟨e, he⟩ : ∃ e, i.variables[k]? = some e := ⟨_, List.getElem?_eq_getElem hk⟩
  have he' : i.variables[k] = e := (List.getElem?_eq_some_iff.1 he).2
  have hew : e.WF := hi.variables.2 e (List.mem_of_getElem? he)
  have hlen := hi.variables.1
  unfold Short at hlen
  have hcode : variableCode i k = variableOne i (prev i.variables k) e := by unfold variableCode; rw [he]
  rw [hcode]; clear hcode
  rcases k with _ | j
  · refine rcall_of hmix [] Tryz.func185 (by kernel_rfl) rfl (by simp [Tryz.f185]) ?_
    simp -dsimp [Tryz.f185, he, he', hk, Image.enc, Image.cells, Variable.enc]
    rw [prev_zero]
    repeat' (first | (refine gif ?_ ?_ <;> intro h <;> (try simp only [Bool.not_eq_eq_eq_not, Bool.not_true, Bool.not_false, decide_eq_true_eq, decide_eq_false_iff_not] at h) <;> (try simp -dsimp [h])) | (refine And.intro (show orderOk _ _ = true by kernel_rfl) ?_) | (show orderOk _ _ = true; kernel_rfl) | (refine callA (isName_c _ hew.1) ?_ rfl; simp -dsimp) | (refine callA (within_c i hi _ _ _) ?_ rfl; simp -dsimp) | (refine callA (when_c _ _) ?_ rfl; simp -dsimp) | (refine callA (cmpVariables_c p e) ?_ rfl; simp -dsimp))
    all_goals first | (simp [variableOne, whenI, W, cmpExports, *]; done) | (simp_all [variableOne, whenI, W, cmpExports]; done) | (unfold whenI variableOne W; repeat' split <;> first | rfl | omega | (simp_all; done) | (simp_all; omega)) | (unfold variableOne W; repeat' split <;> first | rfl | omega | (simp_all; done) | (simp_all; omega)) | (unfold variableOne; repeat' split <;> first | rfl | omega | (simp_all; done)) | (unfold variableOne; simp_all; omega)
  · obtain ⟨p, hp⟩ : ∃ p, i.variables[j]? = some p := ⟨_, List.getElem?_eq_getElem (by omega)⟩
    have hj : j < i.variables.length := by omega
    have hp' : i.variables[j] = p := (List.getElem?_eq_some_iff.1 hp).2
    have hpw : p.WF := hi.variables.2 p (List.mem_of_getElem? hp)
    have hw : IntKind.i64.wrap (j : Int) = j := wrap_in (by omega) (by omega)
    have hn : ((j : Int) + 1).toNat = j + 1 := by omega
    have h0 : (0 : Int) < (j : Int) + 1 := by omega
    have h00 : (0 : Int) ≤ (j : Int) + 1 := by omega
    refine rcall_of hmix [] Tryz.func185 (by kernel_rfl) rfl (by simp [Tryz.f185]) ?_
    simp -dsimp [Tryz.f185, he, he', hk, hp, hp', hj, hw, hn, h0, h00, Image.enc, Image.cells, Variable.enc]
    rw [prev_succ, hp]
    repeat' (first | (refine gif ?_ ?_ <;> intro h <;> (try simp only [Bool.not_eq_eq_eq_not, Bool.not_true, Bool.not_false, decide_eq_true_eq, decide_eq_false_iff_not] at h) <;> (try simp -dsimp [h, he, he', hk, hp, hp', hj, hw, hn, h0, h00, Variable.enc])) | (refine And.intro (show orderOk _ _ = true by kernel_rfl) ?_) | (show orderOk _ _ = true; kernel_rfl) | (refine callA (isName_c _ hew.1) ?_ rfl; simp -dsimp) | (refine callA (within_c i hi _ _ _) ?_ rfl; simp -dsimp) | (refine callA (when_c _ _) ?_ rfl; simp -dsimp) | (refine callA (cmpVariables_c p e) ?_ rfl; simp -dsimp))
    all_goals first | (simp [variableOne, whenI, W, cmpExports, *]; done) | (simp_all [variableOne, whenI, W, cmpExports]; done) | (unfold whenI variableOne W; repeat' split <;> first | rfl | omega | (simp_all; done) | (simp_all; omega)) | (unfold variableOne W; repeat' split <;> first | rfl | omega | (simp_all; done) | (simp_all; omega)) | (unfold variableOne; repeat' split <;> first | rfl | omega | (simp_all; done)) | (unfold variableOne; simp_all; omega)

theorem placed_c (i : Image) (hi : i.WF) (k : Nat) (hk : k < i.places.length) : RCall Tryz.prog 188 [.dat i.enc, .dat (.int .i64 k)] (.dat (.int .i64 (placeCode i k))) := by
  obtain ⟨e, he⟩ : ∃ e, i.places[k]? = some e := ⟨_, List.getElem?_eq_getElem hk⟩
  have he' : i.places[k] = e := (List.getElem?_eq_some_iff.1 he).2
  have hew : e.WF := hi.places.2 e (List.mem_of_getElem? he)
  have hlen := hi.places.1
  unfold Short at hlen
  have hcode : placeCode i k = placeOne i (prev i.places k) e := by unfold placeCode; rw [he]
  rw [hcode]; clear hcode
  rcases k with _ | j
  · refine rcall_of hmix [] Tryz.func188 (by kernel_rfl) rfl (by simp [Tryz.f188]) ?_
    simp -dsimp [Tryz.f188, he, he', hk, Image.enc, Image.cells, PlaceR.enc]
    rw [prev_zero]
    repeat' (first | (refine gif ?_ ?_ <;> intro h <;> (try simp only [Bool.not_eq_eq_eq_not, Bool.not_true, Bool.not_false, decide_eq_true_eq, decide_eq_false_iff_not] at h) <;> (try simp -dsimp [h])) | (refine And.intro (show orderOk _ _ = true by kernel_rfl) ?_) | (show orderOk _ _ = true; kernel_rfl) | (refine callA (within_c i hi _ _ _) ?_ rfl; simp -dsimp) | (refine callA (when_c _ _) ?_ rfl; simp -dsimp))
    all_goals first | (simp [placeOne, whenI, W, cmpExports, *]; done) | (simp_all [placeOne, whenI, W, cmpExports]; done) | (unfold whenI placeOne W; repeat' split <;> first | rfl | omega | (simp_all; done) | (simp_all; omega)) | (unfold placeOne W; repeat' split <;> first | rfl | omega | (simp_all; done) | (simp_all; omega)) | (unfold placeOne; repeat' split <;> first | rfl | omega | (simp_all; done)) | (unfold placeOne; simp_all; omega)
  · obtain ⟨p, hp⟩ : ∃ p, i.places[j]? = some p := ⟨_, List.getElem?_eq_getElem (by omega)⟩
    have hj : j < i.places.length := by omega
    have hp' : i.places[j] = p := (List.getElem?_eq_some_iff.1 hp).2
    have hpw : p.WF := hi.places.2 p (List.mem_of_getElem? hp)
    have hw : IntKind.i64.wrap (j : Int) = j := wrap_in (by omega) (by omega)
    have hn : ((j : Int) + 1).toNat = j + 1 := by omega
    have h0 : (0 : Int) < (j : Int) + 1 := by omega
    have h00 : (0 : Int) ≤ (j : Int) + 1 := by omega
    refine rcall_of hmix [] Tryz.func188 (by kernel_rfl) rfl (by simp [Tryz.f188]) ?_
    simp -dsimp [Tryz.f188, he, he', hk, hp, hp', hj, hw, hn, h0, h00, Image.enc, Image.cells, PlaceR.enc]
    rw [prev_succ, hp]
    repeat' (first | (refine gif ?_ ?_ <;> intro h <;> (try simp only [Bool.not_eq_eq_eq_not, Bool.not_true, Bool.not_false, decide_eq_true_eq, decide_eq_false_iff_not] at h) <;> (try simp -dsimp [h, he, he', hk, hp, hp', hj, hw, hn, h0, h00, PlaceR.enc])) | (refine And.intro (show orderOk _ _ = true by kernel_rfl) ?_) | (show orderOk _ _ = true; kernel_rfl) | (refine callA (within_c i hi _ _ _) ?_ rfl; simp -dsimp) | (refine callA (when_c _ _) ?_ rfl; simp -dsimp))
    all_goals first | (simp [placeOne, whenI, W, cmpExports, *]; done) | (simp_all [placeOne, whenI, W, cmpExports]; done) | (unfold whenI placeOne W; repeat' split <;> first | rfl | omega | (simp_all; done) | (simp_all; omega)) | (unfold placeOne W; repeat' split <;> first | rfl | omega | (simp_all; done) | (simp_all; omega)) | (unfold placeOne; repeat' split <;> first | rfl | omega | (simp_all; done)) | (unfold placeOne; simp_all; omega)
end Go.Proofs.YtflpgdlgfffigaaGreat
