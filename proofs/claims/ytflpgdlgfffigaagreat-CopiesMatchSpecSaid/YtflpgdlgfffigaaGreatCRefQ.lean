/- The references: Copies and Target. -/
import Derived.Test.YtflpgdlgfffigaaGreatCoreC
import Derived.Test.YtflpgdlgfffigaaGreatCRefN0
set_option linter.unusedSimpArgs false
set_option linter.unusedVariables false
namespace Go.Proofs.YtflpgdlgfffigaaGreat
open Go Go.Abs
set_option maxRecDepth 8000
set_option maxHeartbeats 4000000

theorem copies6_c (l : List Loaded) (hl : Short l ∧ ∀ x ∈ l, x.WF) (hb : l.length * 384 ≤ 140737488355328) (hok : loadedF l = Fault.ok) :
    RCall Tryz.prog 32 [.dat (.sl (l.map Loaded.enc))] (.dat (.sl ((copiesOf l).map CopyR.enc))) := by
  have hll : l.length ≤ 9223372036854775807 := hl.1
  have h400 := copiesOf_len hok
  have hrows := copiesOf_rows l
  generalize copiesOf l = C at *
  refine rcall_of hmix [] Tryz.func32 (by kernel_rfl) rfl (by simp [Tryz.f32]) ?_
  simp -dsimp [Tryz.f32]
  refine awp_loopN l.length (fun k s => ∃ acc, s.t 4 = .dat (.int .i64 k) ∧ s.t 0 = .dat (.sl (l.map Loaded.enc)) ∧ GrowsR [92] 52 3 (s.t 3) (acc.map CopyR.enc) ∧ acc ++ rowsFrom l k (l.drop k) = C) ⟨[], by simp, by simp, .inl ⟨rfl, by simp⟩, by simp [hrows]⟩ ?_
  rintro k s hk ⟨acc, h4, h0, hgr, hacc⟩
  by_cases hlt : k < l.length
  · have hw : IntKind.i64.wrap ((k : Int) + 1) = k + 1 := wrap_in (by omega) (by omega)
    obtain ⟨y, hy⟩ : ∃ y, l[k]? = some y := ⟨_, List.getElem?_eq_getElem hlt⟩
    have hy' : l[k] = y := (List.getElem?_eq_some_iff.1 hy).2
    have hdrop : l.drop k = y :: l.drop (k + 1) := by rw [← hy']; exact List.drop_eq_getElem_cons hlt
    rw [hdrop, rowsFrom_cons] at hacc
    have hag := Loaded.ag y
    have i5 : y.enc.cells[5]? = some (.sl (y.image.imports.map Import.enc)) := rfl
    have i5' : ∀ h, y.enc.cells[5]'h = .sl (y.image.imports.map Import.enc) := fun _ => rfl
    have b1 := loaded_19 y
    have b1' := loaded_19' y
    have hil : y.image.imports.length ≤ 9223372036854775807 := (hl.2 y (List.mem_of_getElem? hy)).1.imports.1
    simp -dsimp [h4, h0, hlt]
    refine awp_loopN y.image.imports.length (fun j s => ∃ acc, s.t 5 = .dat (.int .i64 j) ∧ s.t 4 = .dat (.int .i64 k) ∧ s.t 0 = .dat (.sl (l.map Loaded.enc)) ∧ GrowsR [92] 52 3 (s.t 3) (acc.map CopyR.enc) ∧ acc ++ (rowsIn l k y (y.image.imports.drop j) ++ rowsFrom l (k + 1) (l.drop (k + 1))) = C) ⟨acc, by simp, by simp [h4], by simp [h0], by simpa using hgr, by simpa using hacc⟩ ?_
    clear hgr hacc acc
    rintro j s hj ⟨acc, h5, h4, h0, hgr, hacc⟩
    by_cases hjl : j < y.image.imports.length
    · have hwj : IntKind.i64.wrap ((j : Int) + 1) = j + 1 := wrap_in (by omega) (by omega)
      obtain ⟨m, hm⟩ : ∃ m, y.image.imports[j]? = some m := ⟨_, List.getElem?_eq_getElem hjl⟩
      have hm' : y.image.imports[j] = m := (List.getElem?_eq_some_iff.1 hm).2
      have hdrop : y.image.imports.drop j = m :: y.image.imports.drop (j + 1) := by rw [← hm']; exact List.drop_eq_getElem_cons hjl
      rw [hdrop, rowsIn_cons] at hacc
      have hagm := Import.ag m
      have m4 : m.enc.cells[4]? = some (.int .i64 m.copy) := rfl
      have m4' : ∀ h, m.enc.cells[4]'h = .int .i64 m.copy := fun _ => rfl
      have m5 : m.enc.cells[5]? = some (.int .i64 m.size) := rfl
      have m5' : ∀ h, m.enc.cells[5]'h = .int .i64 m.size := fun _ => rfl
      have hdef := defined6_c l hl hb hok k y hy j m hm
      have hfound := fun i e => @found_at l hok k m i e
      have hcp : copyOf l k m = if m.copy < 0 then none else if (foundAt l k m).2.2 = true ∧ threadAt l (foundAt l k m).1 (foundAt l k m).2.1 = false then some ((foundAt l k m).1, (foundAt l k m).2.1) else none := rfl
      rw [hcp] at hacc
      clear hcp
      generalize foundAt l k m = r at *
      obtain ⟨i, e, ok⟩ := r
      simp only [lookP] at hdef
      have hskip : copyOf l k m = copyOf l k m := rfl
      by_cases hneg : m.copy < 0
      · rw [if_pos hneg] at hacc
        simp only [List.nil_append] at hacc
        rcases hgr with ⟨hq, h3⟩ | ⟨d, hd, h3⟩ <;> (try (simp only [List.mem_singleton] at hd; subst hd)) <;>
          simp -dsimp [h5, h4, h0, h3, hlt, hy, hy', hag.len, i5, i5', hjl, hm, hm', hagm.len, hagm.ld, hagm.mkT, hagm.flats, hagm.mk] <;>
          refine callA hdef ?_ rfl <;>
          simp -dsimp [h5, h4, h0, h3, hagm.len, m4, m4', hneg, hwj, hjl]
        · exact ⟨acc, .inl ⟨hq, rfl⟩, hacc⟩
        · exact ⟨acc, .inr ⟨92, by simp, rfl⟩, hacc⟩
      · rw [if_neg hneg] at hacc
        cases ok
        · simp only [Bool.false_eq_true, false_and, if_false, List.nil_append] at hacc
          rcases hgr with ⟨hq, h3⟩ | ⟨d, hd, h3⟩ <;> (try (simp only [List.mem_singleton] at hd; subst hd)) <;>
            simp -dsimp [h5, h4, h0, h3, hlt, hy, hy', hag.len, i5, i5', hjl, hm, hm', hagm.len, hagm.ld, hagm.mkT, hagm.flats, hagm.mk] <;>
            refine callA hdef ?_ rfl <;>
            simp -dsimp [h5, h4, h0, h3, hagm.len, m4, m4', hneg, hwj, hjl]
          · exact ⟨acc, .inl ⟨hq, rfl⟩, hacc⟩
          · exact ⟨acc, .inr ⟨92, by simp, rfl⟩, hacc⟩
        · obtain ⟨g1, g2, g3, gne, y2, x, hy2, hx⟩ := hfound i e rfl
          have hagl2 := Loaded.ag y2
          have hagx := Export.ag x
          have j4 : y2.enc.cells[4]? = some (.sl (y2.image.exports.map Export.enc)) := rfl
          have j4' : ∀ h, y2.enc.cells[4]'h = .sl (y2.image.exports.map Export.enc) := fun _ => rfl
          have b2 := loaded_19 y2
          have b2' := loaded_19' y2
          have hth : threadAt l i e = x.thread := by unfold threadAt; simp only [hy2, hx]
          have hfrom : fromOf l i e = W (x.address + y2.bias) := by unfold fromOf; simp only [hy2, hx]
          simp only [hth] at hacc
          cases hxt : x.thread
          · rw [hxt] at hacc
            simp only [and_self, if_true, hfrom] at hacc
            have hlen : acc.length + 1 ≤ 400 := by
              have := congrArg List.length hacc
              simp at this
              omega
            have c1 : (acc.length + 1) * 24 ≤ 140737488355328 := by omega
            have c2 : acc.length ≤ 9223372036854775806 := by omega
            refine ?_
            have hnew : (acc ++ [(⟨W (m.copy + y.bias), W (x.address + y2.bias), m.size⟩ : CopyR)]) ++ (rowsIn l k y (y.image.imports.drop (j + 1)) ++ rowsFrom l (k + 1) (l.drop (k + 1))) = C := by simpa using hacc
            rcases hgr with ⟨hq, h3⟩ | ⟨d, hd, h3⟩ <;> (try (simp only [List.mem_singleton] at hd; subst hd)) <;>
              simp -dsimp [h5, h4, h0, h3, hlt, hy, hy', hag.len, i5, i5', hjl, hm, hm', hagm.len, hagm.ld, hagm.mkT, hagm.flats, hagm.mk] <;>
              refine callA hdef ?_ rfl <;>
              simp -dsimp [h5, h4, h0, h3, hagm.len, m4, m4', hneg, g1, g3, hy2, hagl2.len, j4, j4', hx, hagx.len, Export.enc, hxt, hlt, hy, hy', hag.len, b1, b1', b2, b2', m5, m5', c1, c2] <;>
              refine And.intro (show orderOk _ _ = true by kernel_rfl) ?_
            · simp -dsimp [h5, h4, h0, hwj, hjl]
              refine ⟨_, ?_, hnew⟩
              refine .inr ⟨92, by simp, ?_⟩
              have : acc = [] := by simpa using hq
              simp [this, CopyR.enc, W]
            · simp -dsimp [h5, h4, h0, hwj, hjl]
              refine ⟨_, ?_, hnew⟩
              exact .inr ⟨92, by simp, by simp [CopyR.enc, W]⟩
          · rw [hxt] at hacc
            simp only [Bool.true_eq_false, and_false, if_false, List.nil_append] at hacc
            rcases hgr with ⟨hq, h3⟩ | ⟨d, hd, h3⟩ <;> (try (simp only [List.mem_singleton] at hd; subst hd)) <;>
              simp -dsimp [h5, h4, h0, h3, hlt, hy, hy', hag.len, i5, i5', hjl, hm, hm', hagm.len, hagm.ld, hagm.mkT, hagm.flats, hagm.mk] <;>
              refine callA hdef ?_ rfl <;>
              simp -dsimp [h5, h4, h0, h3, hagm.len, m4, m4', hneg, hwj, hjl, g1, g3, hy2, hagl2.len, j4, j4', hx, hagx.len, Export.enc, hxt]
            · exact ⟨acc, .inl ⟨hq, rfl⟩, hacc⟩
            · exact ⟨acc, .inr ⟨92, by simp, rfl⟩, hacc⟩
    · have hjn : j = y.image.imports.length := by omega
      subst hjn
      rw [List.drop_length, rowsIn_nil, List.nil_append] at hacc
      simp -dsimp [h5, h4, h0, hlt, hy, hy', hag.len, i5, i5', hw]
      exact ⟨acc, hgr, hacc⟩
  · have hkn : k = l.length := by omega
    subst hkn
    rw [List.drop_length, rowsFrom_nil, List.append_nil] at hacc
    subst hacc
    rcases hgr with ⟨hq, h3⟩ | ⟨d, hd, h3⟩
    · have : acc = [] := by simpa using hq
      simp -dsimp [h4, h0, h3, this]
    · simp -dsimp [h4, h0, h3]

def vbP (r : Int × Bool) : PVal := .tup [.dat (.int .i64 r.1), .dat (.bool r.2)]
theorem target6_c (l : List Loaded) (hl : Short l ∧ ∀ x ∈ l, x.WF) (hb : l.length * 384 ≤ 140737488355328) (hok : loadedF l = Fault.ok) (im : Nat) (y : Loaded) (hy : l[im]? = some y) (k : Nat) (m : Import) (hm : y.image.imports[k]? = some m) :
    RCall Tryz.prog 33 [.dat (.sl (l.map Loaded.enc)), .dat (.int .i64 im), .dat (.int .i64 k)] (vbP (tgtC l im y m)) := by
  have hdef := defined6_c l hl hb hok im y hy k m hm
  have hil : im < l.length := (List.getElem?_eq_some_iff.1 hy).1
  have hy' : l[im] = y := (List.getElem?_eq_some_iff.1 hy).2
  have hkl : k < y.image.imports.length := (List.getElem?_eq_some_iff.1 hm).1
  have hm' : y.image.imports[k] = m := (List.getElem?_eq_some_iff.1 hm).2
  have hagl := Loaded.ag y
  have hagm := Import.ag m
  have i5 : y.enc.cells[5]? = some (.sl (y.image.imports.map Import.enc)) := rfl
  have i5' : ∀ h, y.enc.cells[5]'h = .sl (y.image.imports.map Import.enc) := fun _ => rfl
  have m4 : m.enc.cells[4]? = some (.int .i64 m.copy) := rfl
  have m4' : ∀ h, m.enc.cells[4]'h = .int .i64 m.copy := fun _ => rfl
  have b1 := loaded_19 y
  have b1' := loaded_19' y
  have hfound := fun i e => @found_at l hok im m i e
  have htg : tgtC l im y m = if (foundAt l im m).2.2 = true ∧ threadAt l (foundAt l im m).1 (foundAt l im m).2.1 = false then (if 0 ≤ m.copy then W (m.copy + y.bias) else fromOf l (foundAt l im m).1 (foundAt l im m).2.1, true) else (0, false) := rfl
  rw [htg]
  generalize foundAt l im m = r at *
  obtain ⟨i, e, ok⟩ := r
  simp only [lookP] at hdef
  cases ok
  · simp only [Bool.false_eq_true, false_and, if_false]
    refine rcall_of hmix [] Tryz.func33 (by kernel_rfl) rfl (by simp [Tryz.f33]) ?_
    simp -dsimp [Tryz.f33]
    refine callA hdef ?_ rfl
    simp -dsimp [vbP]
  · obtain ⟨g1, g2, g3, gne, y2, x, hy2, hx⟩ := hfound i e rfl
    have hagl2 := Loaded.ag y2
    have hagx := Export.ag x
    have j4 : y2.enc.cells[4]? = some (.sl (y2.image.exports.map Export.enc)) := rfl
    have j4' : ∀ h, y2.enc.cells[4]'h = .sl (y2.image.exports.map Export.enc) := fun _ => rfl
    have b2 := loaded_19 y2
    have b2' := loaded_19' y2
    have hth : threadAt l i e = x.thread := by unfold threadAt; simp only [hy2, hx]
    have hfrom : fromOf l i e = W (x.address + y2.bias) := by unfold fromOf; simp only [hy2, hx]
    simp only [hth, hfrom]
    by_cases hcp : 0 ≤ m.copy <;> cases hxt : x.thread
    all_goals
      refine rcall_of hmix [] Tryz.func33 (by kernel_rfl) rfl (by simp [Tryz.f33]) ?_
      simp -dsimp [Tryz.f33]
      refine callA hdef ?_ rfl
      simp -dsimp [vbP, g1, g3, hy2, hagl2.len, j4, j4', hx, hagx.len, Export.enc, hxt, b2, b2', hcp, W, hil, hy, hy', hagl.len, i5, i5', hm, hm', hkl, b1, b1', hagm.len, hagm.ld, hagm.mkT, hagm.flats, hagm.mk, m4, m4']
      (try (show orderOk _ _ = true; kernel_rfl))
end Go.Proofs.YtflpgdlgfffigaaGreat
