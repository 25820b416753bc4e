/- An image's check. -/
import Derived.Test.YtflpgdlgfffigaaGreatCTypes2
import Derived.Test.YtflpgdlgfffigaaGreatCCodes
import Derived.Test.YtflpgdlgfffigaaGreatCEach
set_option linter.unusedSimpArgs false
set_option linter.unusedVariables false
namespace Go.Proofs.YtflpgdlgfffigaaGreat
open Go Go.Abs
set_option maxRecDepth 8000
set_option maxHeartbeats 4000000

def icells (i : Image) : List PVal := i.cells.map .dat
theorem icells_closed (i : Image) : Closed [.cptr (icells i)] := by unfold Closed icells; simp [Image.cells]
theorem rangeMap_get {α : Type} {l : List α} {f : Nat → Int} {k : Nat} {c : Int} (h : (rangeMap l f)[k]? = some c) : k < l.length ∧ c = f k := by
  unfold rangeMap at h
  have hk := (List.getElem?_eq_some_iff.1 h).1
  simp at hk
  simp [hk] at h
  exact ⟨hk, h.symm⟩
theorem rangeMap_len {α : Type} (l : List α) (f : Nat → Int) : (rangeMap l f).length = l.length := by simp [rangeMap]

theorem func_c (i : Image) (hi : i.WF) (l : List Int) (k : Nat) (a : Int) (ha : l[k]? = some a) : RCall Tryz.prog 155 [.dat (.int .i64 k), .cptr (icells i), .cptr [.dat (.sl (l.map (.int .i64)))]] (.dat (.int .i64 (funcCode i a))) := by
  have hk : k < l.length := (List.getElem?_eq_some_iff.1 ha).1
  have ha' : l[k] = a := (List.getElem?_eq_some_iff.1 ha).2
  refine rcall_of hmix [] Tryz.func155 (by kernel_rfl) rfl (by simp [Tryz.f155]) ?_
  simp -dsimp [Tryz.f155, icells, Image.cells, ha, ha', hk]
  repeat' (first | (refine gif ?_ ?_ <;> intro h <;> (try simp only [Bool.not_eq_eq_eq_not, Bool.not_true, Bool.not_false, decide_eq_true_eq, decide_eq_false_iff_not] at h) <;> (try simp -dsimp [h])) | (refine And.intro (show orderOk _ _ = true by kernel_rfl) ?_) | (show orderOk _ _ = true; kernel_rfl) | (refine callA (within_c i hi _ _ _) ?_ rfl; simp -dsimp) | (refine callA (when_c _ _) ?_ rfl; simp -dsimp [funcCode]))
theorem function_c (i : Image) (l : List Int) : RCall Tryz.prog 154 [.dat (.sl (l.map (.int .i64))), .cptr (icells i)] (.fn 155 [.cptr (icells i), .cptr [.dat (.sl (l.map (.int .i64)))]]) := by
  refine rcall_of hmix [] Tryz.func154 (by kernel_rfl) rfl (by simp [Tryz.f154]) ?_
  simp -dsimp [Tryz.f154, icells, Image.cells]

theorem v2k_c (i : Image) (hi : i.WF) (k : Nat) (hk : k < i.exports.length) : RCall Tryz.prog 160 [.dat (.int .i64 k), .cptr (icells i)] (.dat (.int .i64 (exportCode i k))) := by
  refine rcall_of hmix [] Tryz.func160 (by kernel_rfl) rfl (by simp [Tryz.f160]) ?_
  simp -dsimp [Tryz.f160, icells, Image.cells]
  refine callA (export_c i hi k hk) ?_ rfl
  simp -dsimp
theorem v2_c (i : Image) (hi : i.WF) : RCall Tryz.prog 158 [.cptr (icells i)] (.dat (each 200 11 (rangeMap i.exports (exportCode i))).enc) := by
  have h := each_c 200 11 160 [.cptr (icells i)] (icells_closed i) (rangeMap i.exports (exportCode i)) (by omega) (by omega) (fun k c hk => by obtain ⟨h1, rfl⟩ := rangeMap_get hk; exact v2k_c i hi k h1)
  rw [rangeMap_len] at h
  unfold icells Image.cells at *
  refine rcall_of hmix [] Tryz.func158 (by kernel_rfl) rfl (by simp [Tryz.f158]) ?_
  simp -dsimp [Tryz.f158]
  repeat' (first | (refine gif ?_ ?_ <;> intro h <;> (try simp only [Bool.not_eq_eq_eq_not, Bool.not_true, Bool.not_false, decide_eq_true_eq, decide_eq_false_iff_not] at h) <;> (try simp -dsimp [h])) | (refine And.intro (show orderOk _ _ = true by kernel_rfl) ?_) | (show orderOk _ _ = true; kernel_rfl) | (refine callA h ?_ rfl; simp -dsimp [Fault.enc]))
theorem v3k_c (i : Image) (hi : i.WF) (k : Nat) (hk : k < i.imports.length) : RCall Tryz.prog 163 [.dat (.int .i64 k), .cptr (icells i)] (.dat (.int .i64 (importCode i k))) := by
  obtain ⟨m, hm⟩ : ∃ m, i.imports[k]? = some m := ⟨_, List.getElem?_eq_getElem hk⟩
  have hm' : i.imports[k] = m := (List.getElem?_eq_some_iff.1 hm).2
  have hcode : importCode i k = importOne i m := by unfold importCode; rw [hm]
  refine rcall_of hmix [] Tryz.func163 (by kernel_rfl) rfl (by simp [Tryz.f163]) ?_
  simp -dsimp [Tryz.f163, icells, Image.cells, hm, hm', hk, Import.enc]
  refine callA (imported_c i hi m (hi.imports.2 m (List.mem_of_getElem? hm))) ?_ rfl
  simp -dsimp [hcode]
  try kernel_rfl
theorem v3_c (i : Image) (hi : i.WF) : RCall Tryz.prog 162 [.cptr (icells i)] (.dat (each 80 12 (rangeMap i.imports (importCode i))).enc) := by
  have h := each_c 80 12 163 [.cptr (icells i)] (icells_closed i) (rangeMap i.imports (importCode i)) (by omega) (by omega) (fun k c hk => by obtain ⟨h1, rfl⟩ := rangeMap_get hk; exact v3k_c i hi k h1)
  rw [rangeMap_len] at h
  unfold icells Image.cells at *
  refine rcall_of hmix [] Tryz.func162 (by kernel_rfl) rfl (by simp [Tryz.f162]) ?_
  simp -dsimp [Tryz.f162]
  repeat' (first | (refine gif ?_ ?_ <;> intro h <;> (try simp only [Bool.not_eq_eq_eq_not, Bool.not_true, Bool.not_false, decide_eq_true_eq, decide_eq_false_iff_not] at h) <;> (try simp -dsimp [h])) | (refine And.intro (show orderOk _ _ = true by kernel_rfl) ?_) | (show orderOk _ _ = true; kernel_rfl) | (refine callA h ?_ rfl; simp -dsimp [Fault.enc]))
theorem v4k_c (i : Image) (hi : i.WF) (k : Nat) (hk : k < i.fixups.length) : RCall Tryz.prog 166 [.dat (.int .i64 k), .cptr (icells i)] (.dat (.int .i64 (fixupCode i k))) := by
  refine rcall_of hmix [] Tryz.func166 (by kernel_rfl) rfl (by simp [Tryz.f166]) ?_
  simp -dsimp [Tryz.f166, icells, Image.cells]
  refine callA (fixup_c i hi k hk) ?_ rfl
  simp -dsimp
theorem v4_c (i : Image) (hi : i.WF) : RCall Tryz.prog 165 [.cptr (icells i)] (.dat (each 600 13 (rangeMap i.fixups (fixupCode i))).enc) := by
  have h := each_c 600 13 166 [.cptr (icells i)] (icells_closed i) (rangeMap i.fixups (fixupCode i)) (by omega) (by omega) (fun k c hk => by obtain ⟨h1, rfl⟩ := rangeMap_get hk; exact v4k_c i hi k h1)
  rw [rangeMap_len] at h
  unfold icells Image.cells at *
  refine rcall_of hmix [] Tryz.func165 (by kernel_rfl) rfl (by simp [Tryz.f165]) ?_
  simp -dsimp [Tryz.f165]
  repeat' (first | (refine gif ?_ ?_ <;> intro h <;> (try simp only [Bool.not_eq_eq_eq_not, Bool.not_true, Bool.not_false, decide_eq_true_eq, decide_eq_false_iff_not] at h) <;> (try simp -dsimp [h])) | (refine And.intro (show orderOk _ _ = true by kernel_rfl) ?_) | (show orderOk _ _ = true; kernel_rfl) | (refine callA h ?_ rfl; simp -dsimp [Fault.enc]))
theorem v9k_c (i : Image) (hi : i.WF) (k : Nat) (hk : k < i.lines.length) : RCall Tryz.prog 176 [.dat (.int .i64 k), .cptr (icells i)] (.dat (.int .i64 (lineCode i k))) := by
  refine rcall_of hmix [] Tryz.func176 (by kernel_rfl) rfl (by simp [Tryz.f176]) ?_
  simp -dsimp [Tryz.f176, icells, Image.cells]
  refine callA (line_c i hi k hk) ?_ rfl
  simp -dsimp
theorem v9_c (i : Image) (hi : i.WF) : RCall Tryz.prog 175 [.cptr (icells i)] (.dat (each 2000 18 (rangeMap i.lines (lineCode i))).enc) := by
  have h := each_c 2000 18 176 [.cptr (icells i)] (icells_closed i) (rangeMap i.lines (lineCode i)) (by omega) (by omega) (fun k c hk => by obtain ⟨h1, rfl⟩ := rangeMap_get hk; exact v9k_c i hi k h1)
  rw [rangeMap_len] at h
  unfold icells Image.cells at *
  refine rcall_of hmix [] Tryz.func175 (by kernel_rfl) rfl (by simp [Tryz.f175]) ?_
  simp -dsimp [Tryz.f175]
  repeat' (first | (refine gif ?_ ?_ <;> intro h <;> (try simp only [Bool.not_eq_eq_eq_not, Bool.not_true, Bool.not_false, decide_eq_true_eq, decide_eq_false_iff_not] at h) <;> (try simp -dsimp [h])) | (refine And.intro (show orderOk _ _ = true by kernel_rfl) ?_) | (show orderOk _ _ = true; kernel_rfl) | (refine callA h ?_ rfl; simp -dsimp [Fault.enc]))
theorem v10k_c (i : Image) (hi : i.WF) (k : Nat) (hk : k < i.unwind.length) : RCall Tryz.prog 179 [.dat (.int .i64 k), .cptr (icells i)] (.dat (.int .i64 (unwindCode i k))) := by
  refine rcall_of hmix [] Tryz.func179 (by kernel_rfl) rfl (by simp [Tryz.f179]) ?_
  simp -dsimp [Tryz.f179, icells, Image.cells]
  refine callA (unwindRow_c i hi k hk) ?_ rfl
  simp -dsimp
theorem v10_c (i : Image) (hi : i.WF) : RCall Tryz.prog 178 [.cptr (icells i)] (.dat (each 2000 19 (rangeMap i.unwind (unwindCode i))).enc) := by
  have h := each_c 2000 19 179 [.cptr (icells i)] (icells_closed i) (rangeMap i.unwind (unwindCode i)) (by omega) (by omega) (fun k c hk => by obtain ⟨h1, rfl⟩ := rangeMap_get hk; exact v10k_c i hi k h1)
  rw [rangeMap_len] at h
  unfold icells Image.cells at *
  refine rcall_of hmix [] Tryz.func178 (by kernel_rfl) rfl (by simp [Tryz.f178]) ?_
  simp -dsimp [Tryz.f178]
  repeat' (first | (refine gif ?_ ?_ <;> intro h <;> (try simp only [Bool.not_eq_eq_eq_not, Bool.not_true, Bool.not_false, decide_eq_true_eq, decide_eq_false_iff_not] at h) <;> (try simp -dsimp [h])) | (refine And.intro (show orderOk _ _ = true by kernel_rfl) ?_) | (show orderOk _ _ = true; kernel_rfl) | (refine callA h ?_ rfl; simp -dsimp [Fault.enc]))
theorem v12k_c (i : Image) (hi : i.WF) (k : Nat) (hk : k < i.variables.length) : RCall Tryz.prog 184 [.dat (.int .i64 k), .cptr (icells i)] (.dat (.int .i64 (variableCode i k))) := by
  refine rcall_of hmix [] Tryz.func184 (by kernel_rfl) rfl (by simp [Tryz.f184]) ?_
  simp -dsimp [Tryz.f184, icells, Image.cells]
  refine callA (variable_c i hi k hk) ?_ rfl
  simp -dsimp
theorem v12_c (i : Image) (hi : i.WF) : RCall Tryz.prog 183 [.cptr (icells i)] (.dat (each 500 21 (rangeMap i.variables (variableCode i))).enc) := by
  have h := each_c 500 21 184 [.cptr (icells i)] (icells_closed i) (rangeMap i.variables (variableCode i)) (by omega) (by omega) (fun k c hk => by obtain ⟨h1, rfl⟩ := rangeMap_get hk; exact v12k_c i hi k h1)
  rw [rangeMap_len] at h
  unfold icells Image.cells at *
  refine rcall_of hmix [] Tryz.func183 (by kernel_rfl) rfl (by simp [Tryz.f183]) ?_
  simp -dsimp [Tryz.f183]
  repeat' (first | (refine gif ?_ ?_ <;> intro h <;> (try simp only [Bool.not_eq_eq_eq_not, Bool.not_true, Bool.not_false, decide_eq_true_eq, decide_eq_false_iff_not] at h) <;> (try simp -dsimp [h])) | (refine And.intro (show orderOk _ _ = true by kernel_rfl) ?_) | (show orderOk _ _ = true; kernel_rfl) | (refine callA h ?_ rfl; simp -dsimp [Fault.enc]))
theorem v13k_c (i : Image) (hi : i.WF) (k : Nat) (hk : k < i.places.length) : RCall Tryz.prog 187 [.dat (.int .i64 k), .cptr (icells i)] (.dat (.int .i64 (placeCode i k))) := by
  refine rcall_of hmix [] Tryz.func187 (by kernel_rfl) rfl (by simp [Tryz.f187]) ?_
  simp -dsimp [Tryz.f187, icells, Image.cells]
  refine callA (placed_c i hi k hk) ?_ rfl
  simp -dsimp
theorem v13_c (i : Image) (hi : i.WF) : RCall Tryz.prog 186 [.cptr (icells i)] (.dat (each 200 22 (rangeMap i.places (placeCode i))).enc) := by
  have h := each_c 200 22 187 [.cptr (icells i)] (icells_closed i) (rangeMap i.places (placeCode i)) (by omega) (by omega) (fun k c hk => by obtain ⟨h1, rfl⟩ := rangeMap_get hk; exact v13k_c i hi k h1)
  rw [rangeMap_len] at h
  unfold icells Image.cells at *
  refine rcall_of hmix [] Tryz.func186 (by kernel_rfl) rfl (by simp [Tryz.f186]) ?_
  simp -dsimp [Tryz.f186]
  repeat' (first | (refine gif ?_ ?_ <;> intro h <;> (try simp only [Bool.not_eq_eq_eq_not, Bool.not_true, Bool.not_false, decide_eq_true_eq, decide_eq_false_iff_not] at h) <;> (try simp -dsimp [h])) | (refine And.intro (show orderOk _ _ = true by kernel_rfl) ?_) | (show orderOk _ _ = true; kernel_rfl) | (refine callA h ?_ rfl; simp -dsimp [Fault.enc]))
theorem v5_c (i : Image) (hi : i.WF) : RCall Tryz.prog 168 [.cptr (icells i), .cptr [.fn 154 [.cptr (icells i)]]] (.dat (each 60 14 (i.inits.map (funcCode i))).enc) := by
  have hcl : Closed [.cptr (icells i), .cptr [.dat (.sl (i.inits.map (.int .i64)))]] := by unfold Closed icells; simp [Image.cells]
  have h := each_c 60 14 155 _ hcl (i.inits.map (funcCode i)) (by omega) (by omega) (fun k c hk => by
    simp only [List.getElem?_map, Option.map_eq_some_iff] at hk
    obtain ⟨a, h1, rfl⟩ := hk
    exact func_c i hi _ k a h1)
  have hf := function_c i i.inits
  rw [List.length_map] at h
  unfold icells Image.cells at *
  refine rcall_of hmix [] Tryz.func168 (by kernel_rfl) rfl (by simp [Tryz.f168]) ?_
  simp -dsimp [Tryz.f168]
  repeat' (first | (refine gif ?_ ?_ <;> intro h <;> (try simp only [Bool.not_eq_eq_eq_not, Bool.not_true, Bool.not_false, decide_eq_true_eq, decide_eq_false_iff_not] at h) <;> (try simp -dsimp [h])) | (refine And.intro (show orderOk _ _ = true by kernel_rfl) ?_) | (show orderOk _ _ = true; kernel_rfl) | (refine callA hf ?_ rfl; simp -dsimp) | (refine callA h ?_ rfl; simp -dsimp [Fault.enc]))
theorem v6_c (i : Image) (hi : i.WF) : RCall Tryz.prog 169 [.cptr (icells i), .cptr [.fn 154 [.cptr (icells i)]]] (.dat (each 60 15 (i.finis.map (funcCode i))).enc) := by
  have hcl : Closed [.cptr (icells i), .cptr [.dat (.sl (i.finis.map (.int .i64)))]] := by unfold Closed icells; simp [Image.cells]
  have h := each_c 60 15 155 _ hcl (i.finis.map (funcCode i)) (by omega) (by omega) (fun k c hk => by
    simp only [List.getElem?_map, Option.map_eq_some_iff] at hk
    obtain ⟨a, h1, rfl⟩ := hk
    exact func_c i hi _ k a h1)
  have hf := function_c i i.finis
  rw [List.length_map] at h
  unfold icells Image.cells at *
  refine rcall_of hmix [] Tryz.func169 (by kernel_rfl) rfl (by simp [Tryz.f169]) ?_
  simp -dsimp [Tryz.f169]
  repeat' (first | (refine gif ?_ ?_ <;> intro h <;> (try simp only [Bool.not_eq_eq_eq_not, Bool.not_true, Bool.not_false, decide_eq_true_eq, decide_eq_false_iff_not] at h) <;> (try simp -dsimp [h])) | (refine And.intro (show orderOk _ _ = true by kernel_rfl) ?_) | (show orderOk _ _ = true; kernel_rfl) | (refine callA hf ?_ rfl; simp -dsimp) | (refine callA h ?_ rfl; simp -dsimp [Fault.enc]))
theorem v7k_c (i : Image) (hi : i.WF) (k : Nat) (a : Str) (ha : i.needs[k]? = some a) : RCall Tryz.prog 171 [.dat (.int .i64 k), .cptr (icells i)] (.dat (.int .i64 (nameCode a))) := by
  have hk : k < i.needs.length := (List.getElem?_eq_some_iff.1 ha).1
  have ha' : i.needs[k] = a := (List.getElem?_eq_some_iff.1 ha).2
  refine rcall_of hmix [] Tryz.func171 (by kernel_rfl) rfl (by simp [Tryz.f171]) ?_
  simp -dsimp [Tryz.f171, icells, Image.cells, ha, ha', hk]
  repeat' (first | (refine gif ?_ ?_ <;> intro h <;> (try simp only [Bool.not_eq_eq_eq_not, Bool.not_true, Bool.not_false, decide_eq_true_eq, decide_eq_false_iff_not] at h) <;> (try simp -dsimp [h])) | (refine And.intro (show orderOk _ _ = true by kernel_rfl) ?_) | (show orderOk _ _ = true; kernel_rfl) | (refine callA (isName_c a (hi.needs.2 a (List.mem_of_getElem? ha))) ?_ rfl; simp -dsimp) | (refine callA (when_c _ _) ?_ rfl; simp -dsimp [nameCode]))
theorem v7_c (i : Image) (hi : i.WF) : RCall Tryz.prog 170 [.cptr (icells i)] (.dat (each 5 16 (i.needs.map nameCode)).enc) := by
  have h := each_c 5 16 171 [.cptr (icells i)] (icells_closed i) (i.needs.map nameCode) (by omega) (by omega) (fun k c hk => by
    simp only [List.getElem?_map, Option.map_eq_some_iff] at hk
    obtain ⟨a, h1, rfl⟩ := hk
    exact v7k_c i hi k a h1)
  rw [List.length_map] at h
  unfold icells Image.cells at *
  refine rcall_of hmix [] Tryz.func170 (by kernel_rfl) rfl (by simp [Tryz.f170]) ?_
  simp -dsimp [Tryz.f170]
  repeat' (first | (refine gif ?_ ?_ <;> intro h <;> (try simp only [Bool.not_eq_eq_eq_not, Bool.not_true, Bool.not_false, decide_eq_true_eq, decide_eq_false_iff_not] at h) <;> (try simp -dsimp [h])) | (refine And.intro (show orderOk _ _ = true by kernel_rfl) ?_) | (show orderOk _ _ = true; kernel_rfl) | (refine callA h ?_ rfl; simp -dsimp [Fault.enc]))
theorem v8k_c (i : Image) (hi : i.WF) (k : Nat) (a : Str) (ha : i.files[k]? = some a) : RCall Tryz.prog 174 [.dat (.int .i64 k), .cptr (icells i)] (.dat (.int .i64 (nameCode a))) := by
  have hk : k < i.files.length := (List.getElem?_eq_some_iff.1 ha).1
  have ha' : i.files[k] = a := (List.getElem?_eq_some_iff.1 ha).2
  refine rcall_of hmix [] Tryz.func174 (by kernel_rfl) rfl (by simp [Tryz.f174]) ?_
  simp -dsimp [Tryz.f174, icells, Image.cells, ha, ha', hk]
  repeat' (first | (refine gif ?_ ?_ <;> intro h <;> (try simp only [Bool.not_eq_eq_eq_not, Bool.not_true, Bool.not_false, decide_eq_true_eq, decide_eq_false_iff_not] at h) <;> (try simp -dsimp [h])) | (refine And.intro (show orderOk _ _ = true by kernel_rfl) ?_) | (show orderOk _ _ = true; kernel_rfl) | (refine callA (isName_c a (hi.files.2 a (List.mem_of_getElem? ha))) ?_ rfl; simp -dsimp) | (refine callA (when_c _ _) ?_ rfl; simp -dsimp [nameCode]))
theorem v8_c (i : Image) (hi : i.WF) : RCall Tryz.prog 173 [.cptr (icells i)] (.dat (each 64 17 (i.files.map nameCode)).enc) := by
  have h := each_c 64 17 174 [.cptr (icells i)] (icells_closed i) (i.files.map nameCode) (by omega) (by omega) (fun k c hk => by
    simp only [List.getElem?_map, Option.map_eq_some_iff] at hk
    obtain ⟨a, h1, rfl⟩ := hk
    exact v8k_c i hi k a h1)
  rw [List.length_map] at h
  unfold icells Image.cells at *
  refine rcall_of hmix [] Tryz.func173 (by kernel_rfl) rfl (by simp [Tryz.f173]) ?_
  simp -dsimp [Tryz.f173]
  repeat' (first | (refine gif ?_ ?_ <;> intro h <;> (try simp only [Bool.not_eq_eq_eq_not, Bool.not_true, Bool.not_false, decide_eq_true_eq, decide_eq_false_iff_not] at h) <;> (try simp -dsimp [h])) | (refine And.intro (show orderOk _ _ = true by kernel_rfl) ?_) | (show orderOk _ _ = true; kernel_rfl) | (refine callA h ?_ rfl; simp -dsimp [Fault.enc]))
theorem v11_c (i : Image) (hi : i.WF) : RCall Tryz.prog 181 [.cptr (icells i)] (.dat (typesIn i.types).enc) := by
  have h := types_c i.types hi.types
  unfold icells Image.cells
  refine rcall_of hmix [] Tryz.func181 (by kernel_rfl) rfl (by simp [Tryz.f181]) ?_
  simp -dsimp [Tryz.f181]
  have hd : typesIn i.types = if typesF i.types = Fault.ok then Fault.ok else ⟨(typesF i.types).code, -20⟩ := rfl
  rw [hd]
  generalize typesF i.types = f at *
  obtain ⟨c, n⟩ := f
  simp only [Fault.enc] at h
  refine callA h ?_ rfl
  simp -dsimp [Fault.enc]
  repeat' (first | (refine gif ?_ ?_ <;> intro h <;> (try simp only [Bool.not_eq_eq_eq_not, Bool.not_true, Bool.not_false, decide_eq_true_eq, decide_eq_false_iff_not] at h) <;> (try simp -dsimp [h, Fault.enc])) | (refine And.intro (show orderOk _ _ = true by kernel_rfl) ?_) | (show orderOk _ _ = true; kernel_rfl))
  all_goals
    by_cases e : c = 0 ∧ n = 0
    · simp_all [Fault.ok]
    · simp only [Fault.ok, Fault.mk.injEq, e, if_false]; simp_all
end Go.Proofs.YtflpgdlgfffigaaGreat
