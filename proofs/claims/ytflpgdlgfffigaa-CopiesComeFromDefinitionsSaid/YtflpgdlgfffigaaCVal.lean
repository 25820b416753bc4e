/- An image's check. -/
import Derived.Test.YtflpgdlgfffigaaCTypes2
import Derived.Test.YtflpgdlgfffigaaCCodes
import Derived.Test.YtflpgdlgfffigaaCEach
set_option linter.unusedSimpArgs false
set_option linter.unusedVariables false
namespace Go.Proofs.Ytflpgdlgfffigaa
open Go Go.Abs
set_option maxRecDepth 8000
set_option maxHeartbeats 4000000

def icells (i : Image) : List PVal := i.cells.map .dat
theorem icells_closed (i : Image) : Closed [.cptr (icells i)] := by unfold Closed icells; simp [Image.cells]
theorem rangeMap_get {α : Type} {l : List α} {f : Nat → Int} {k : Nat} {c : Int} (h : (rangeMap l f)[k]? = some c) : k < l.length ∧ c = f k := by
  unfold rangeMap at h
  have hk := (List.getElem?_eq_some_iff.1 h).1
  simp at hk
  simp [hk] at h
  exact ⟨hk, h.symm⟩
theorem rangeMap_len {α : Type} (l : List α) (f : Nat → Int) : (rangeMap l f).length = l.length := by simp [rangeMap]

theorem func_c (i : Image) (hi : i.WF) (l : List Int) (k : Nat) (a : Int) (ha : l[k]? = some a) : RCall Try.prog 69 [.dat (.int .i64 k), .cptr (icells i), .cptr [.dat (.sl (l.map (.int .i64)))]] (.dat (.int .i64 (funcCode i a))) := by
  have hk : k < l.length := (List.getElem?_eq_some_iff.1 ha).1
  have ha' : l[k] = a := (List.getElem?_eq_some_iff.1 ha).2
  refine rcall_of hmix [] Try.func69 (by kernel_rfl) rfl (by simp [Try.f69]) ?_
  simp -dsimp [Try.f69, icells, Image.cells, ha, ha', hk]
  repeat' (first | (refine gif ?_ ?_ <;> intro h <;> (try simp only [Bool.not_eq_eq_eq_not, Bool.not_true, Bool.not_false, decide_eq_true_eq, decide_eq_false_iff_not] at h) <;> (try simp -dsimp [h])) | (refine And.intro (show orderOk _ _ = true by kernel_rfl) ?_) | (show orderOk _ _ = true; kernel_rfl) | (refine callA (within_c i hi _ _ _) ?_ rfl; simp -dsimp) | (refine callA (when_c _ _) ?_ rfl; simp -dsimp [funcCode]))
theorem function_c (i : Image) (l : List Int) : RCall Try.prog 68 [.dat (.sl (l.map (.int .i64))), .cptr (icells i)] (.fn 69 [.cptr (icells i), .cptr [.dat (.sl (l.map (.int .i64)))]]) := by
  refine rcall_of hmix [] Try.func68 (by kernel_rfl) rfl (by simp [Try.f68]) ?_
  simp -dsimp [Try.f68, icells, Image.cells]

theorem v2k_c (i : Image) (hi : i.WF) (k : Nat) (hk : k < i.exports.length) : RCall Try.prog 74 [.dat (.int .i64 k), .cptr (icells i)] (.dat (.int .i64 (exportCode i k))) := by
  refine rcall_of hmix [] Try.func74 (by kernel_rfl) rfl (by simp [Try.f74]) ?_
  simp -dsimp [Try.f74, icells, Image.cells]
  refine callA (export_c i hi k hk) ?_ rfl
  simp -dsimp
theorem v2_c (i : Image) (hi : i.WF) : RCall Try.prog 72 [.cptr (icells i)] (.dat (each 200 11 (rangeMap i.exports (exportCode i))).enc) := by
  have h := each_c 200 11 74 [.cptr (icells i)] (icells_closed i) (rangeMap i.exports (exportCode i)) (by omega) (by omega) (fun k c hk => by obtain ⟨h1, rfl⟩ := rangeMap_get hk; exact v2k_c i hi k h1)
  rw [rangeMap_len] at h
  unfold icells Image.cells at *
  refine rcall_of hmix [] Try.func72 (by kernel_rfl) rfl (by simp [Try.f72]) ?_
  simp -dsimp [Try.f72]
  repeat' (first | (refine gif ?_ ?_ <;> intro h <;> (try simp only [Bool.not_eq_eq_eq_not, Bool.not_true, Bool.not_false, decide_eq_true_eq, decide_eq_false_iff_not] at h) <;> (try simp -dsimp [h])) | (refine And.intro (show orderOk _ _ = true by kernel_rfl) ?_) | (show orderOk _ _ = true; kernel_rfl) | (refine callA h ?_ rfl; simp -dsimp [Fault.enc]))
theorem v3k_c (i : Image) (hi : i.WF) (k : Nat) (hk : k < i.imports.length) : RCall Try.prog 77 [.dat (.int .i64 k), .cptr (icells i)] (.dat (.int .i64 (importCode i k))) := by
  obtain ⟨m, hm⟩ : ∃ m, i.imports[k]? = some m := ⟨_, List.getElem?_eq_getElem hk⟩
  have hm' : i.imports[k] = m := (List.getElem?_eq_some_iff.1 hm).2
  have hcode : importCode i k = importOne i m := by unfold importCode; rw [hm]
  refine rcall_of hmix [] Try.func77 (by kernel_rfl) rfl (by simp [Try.f77]) ?_
  simp -dsimp [Try.f77, icells, Image.cells, hm, hm', hk, Import.enc]
  refine callA (imported_c i hi m (hi.imports.2 m (List.mem_of_getElem? hm))) ?_ rfl
  simp -dsimp [hcode]
  try kernel_rfl
theorem v3_c (i : Image) (hi : i.WF) : RCall Try.prog 76 [.cptr (icells i)] (.dat (each 80 12 (rangeMap i.imports (importCode i))).enc) := by
  have h := each_c 80 12 77 [.cptr (icells i)] (icells_closed i) (rangeMap i.imports (importCode i)) (by omega) (by omega) (fun k c hk => by obtain ⟨h1, rfl⟩ := rangeMap_get hk; exact v3k_c i hi k h1)
  rw [rangeMap_len] at h
  unfold icells Image.cells at *
  refine rcall_of hmix [] Try.func76 (by kernel_rfl) rfl (by simp [Try.f76]) ?_
  simp -dsimp [Try.f76]
  repeat' (first | (refine gif ?_ ?_ <;> intro h <;> (try simp only [Bool.not_eq_eq_eq_not, Bool.not_true, Bool.not_false, decide_eq_true_eq, decide_eq_false_iff_not] at h) <;> (try simp -dsimp [h])) | (refine And.intro (show orderOk _ _ = true by kernel_rfl) ?_) | (show orderOk _ _ = true; kernel_rfl) | (refine callA h ?_ rfl; simp -dsimp [Fault.enc]))
theorem v4k_c (i : Image) (hi : i.WF) (k : Nat) (hk : k < i.fixups.length) : RCall Try.prog 80 [.dat (.int .i64 k), .cptr (icells i)] (.dat (.int .i64 (fixupCode i k))) := by
  refine rcall_of hmix [] Try.func80 (by kernel_rfl) rfl (by simp [Try.f80]) ?_
  simp -dsimp [Try.f80, icells, Image.cells]
  refine callA (fixup_c i hi k hk) ?_ rfl
  simp -dsimp
theorem v4_c (i : Image) (hi : i.WF) : RCall Try.prog 79 [.cptr (icells i)] (.dat (each 600 13 (rangeMap i.fixups (fixupCode i))).enc) := by
  have h := each_c 600 13 80 [.cptr (icells i)] (icells_closed i) (rangeMap i.fixups (fixupCode i)) (by omega) (by omega) (fun k c hk => by obtain ⟨h1, rfl⟩ := rangeMap_get hk; exact v4k_c i hi k h1)
  rw [rangeMap_len] at h
  unfold icells Image.cells at *
  refine rcall_of hmix [] Try.func79 (by kernel_rfl) rfl (by simp [Try.f79]) ?_
  simp -dsimp [Try.f79]
  repeat' (first | (refine gif ?_ ?_ <;> intro h <;> (try simp only [Bool.not_eq_eq_eq_not, Bool.not_true, Bool.not_false, decide_eq_true_eq, decide_eq_false_iff_not] at h) <;> (try simp -dsimp [h])) | (refine And.intro (show orderOk _ _ = true by kernel_rfl) ?_) | (show orderOk _ _ = true; kernel_rfl) | (refine callA h ?_ rfl; simp -dsimp [Fault.enc]))
theorem v9k_c (i : Image) (hi : i.WF) (k : Nat) (hk : k < i.lines.length) : RCall Try.prog 90 [.dat (.int .i64 k), .cptr (icells i)] (.dat (.int .i64 (lineCode i k))) := by
  refine rcall_of hmix [] Try.func90 (by kernel_rfl) rfl (by simp [Try.f90]) ?_
  simp -dsimp [Try.f90, icells, Image.cells]
  refine callA (line_c i hi k hk) ?_ rfl
  simp -dsimp
theorem v9_c (i : Image) (hi : i.WF) : RCall Try.prog 89 [.cptr (icells i)] (.dat (each 2000 18 (rangeMap i.lines (lineCode i))).enc) := by
  have h := each_c 2000 18 90 [.cptr (icells i)] (icells_closed i) (rangeMap i.lines (lineCode i)) (by omega) (by omega) (fun k c hk => by obtain ⟨h1, rfl⟩ := rangeMap_get hk; exact v9k_c i hi k h1)
  rw [rangeMap_len] at h
  unfold icells Image.cells at *
  refine rcall_of hmix [] Try.func89 (by kernel_rfl) rfl (by simp [Try.f89]) ?_
  simp -dsimp [Try.f89]
  repeat' (first | (refine gif ?_ ?_ <;> intro h <;> (try simp only [Bool.not_eq_eq_eq_not, Bool.not_true, Bool.not_false, decide_eq_true_eq, decide_eq_false_iff_not] at h) <;> (try simp -dsimp [h])) | (refine And.intro (show orderOk _ _ = true by kernel_rfl) ?_) | (show orderOk _ _ = true; kernel_rfl) | (refine callA h ?_ rfl; simp -dsimp [Fault.enc]))
theorem v10k_c (i : Image) (hi : i.WF) (k : Nat) (hk : k < i.unwind.length) : RCall Try.prog 93 [.dat (.int .i64 k), .cptr (icells i)] (.dat (.int .i64 (unwindCode i k))) := by
  refine rcall_of hmix [] Try.func93 (by kernel_rfl) rfl (by simp [Try.f93]) ?_
  simp -dsimp [Try.f93, icells, Image.cells]
  refine callA (unwindRow_c i hi k hk) ?_ rfl
  simp -dsimp
theorem v10_c (i : Image) (hi : i.WF) : RCall Try.prog 92 [.cptr (icells i)] (.dat (each 2000 19 (rangeMap i.unwind (unwindCode i))).enc) := by
  have h := each_c 2000 19 93 [.cptr (icells i)] (icells_closed i) (rangeMap i.unwind (unwindCode i)) (by omega) (by omega) (fun k c hk => by obtain ⟨h1, rfl⟩ := rangeMap_get hk; exact v10k_c i hi k h1)
  rw [rangeMap_len] at h
  unfold icells Image.cells at *
  refine rcall_of hmix [] Try.func92 (by kernel_rfl) rfl (by simp [Try.f92]) ?_
  simp -dsimp [Try.f92]
  repeat' (first | (refine gif ?_ ?_ <;> intro h <;> (try simp only [Bool.not_eq_eq_eq_not, Bool.not_true, Bool.not_false, decide_eq_true_eq, decide_eq_false_iff_not] at h) <;> (try simp -dsimp [h])) | (refine And.intro (show orderOk _ _ = true by kernel_rfl) ?_) | (show orderOk _ _ = true; kernel_rfl) | (refine callA h ?_ rfl; simp -dsimp [Fault.enc]))
theorem v12k_c (i : Image) (hi : i.WF) (k : Nat) (hk : k < i.variables.length) : RCall Try.prog 98 [.dat (.int .i64 k), .cptr (icells i)] (.dat (.int .i64 (variableCode i k))) := by
  refine rcall_of hmix [] Try.func98 (by kernel_rfl) rfl (by simp [Try.f98]) ?_
  simp -dsimp [Try.f98, icells, Image.cells]
  refine callA (variable_c i hi k hk) ?_ rfl
  simp -dsimp
theorem v12_c (i : Image) (hi : i.WF) : RCall Try.prog 97 [.cptr (icells i)] (.dat (each 500 21 (rangeMap i.variables (variableCode i))).enc) := by
  have h := each_c 500 21 98 [.cptr (icells i)] (icells_closed i) (rangeMap i.variables (variableCode i)) (by omega) (by omega) (fun k c hk => by obtain ⟨h1, rfl⟩ := rangeMap_get hk; exact v12k_c i hi k h1)
  rw [rangeMap_len] at h
  unfold icells Image.cells at *
  refine rcall_of hmix [] Try.func97 (by kernel_rfl) rfl (by simp [Try.f97]) ?_
  simp -dsimp [Try.f97]
  repeat' (first | (refine gif ?_ ?_ <;> intro h <;> (try simp only [Bool.not_eq_eq_eq_not, Bool.not_true, Bool.not_false, decide_eq_true_eq, decide_eq_false_iff_not] at h) <;> (try simp -dsimp [h])) | (refine And.intro (show orderOk _ _ = true by kernel_rfl) ?_) | (show orderOk _ _ = true; kernel_rfl) | (refine callA h ?_ rfl; simp -dsimp [Fault.enc]))
theorem v13k_c (i : Image) (hi : i.WF) (k : Nat) (hk : k < i.places.length) : RCall Try.prog 101 [.dat (.int .i64 k), .cptr (icells i)] (.dat (.int .i64 (placeCode i k))) := by
  refine rcall_of hmix [] Try.func101 (by kernel_rfl) rfl (by simp [Try.f101]) ?_
  simp -dsimp [Try.f101, icells, Image.cells]
  refine callA (placed_c i hi k hk) ?_ rfl
  simp -dsimp
theorem v13_c (i : Image) (hi : i.WF) : RCall Try.prog 100 [.cptr (icells i)] (.dat (each 200 22 (rangeMap i.places (placeCode i))).enc) := by
  have h := each_c 200 22 101 [.cptr (icells i)] (icells_closed i) (rangeMap i.places (placeCode i)) (by omega) (by omega) (fun k c hk => by obtain ⟨h1, rfl⟩ := rangeMap_get hk; exact v13k_c i hi k h1)
  rw [rangeMap_len] at h
  unfold icells Image.cells at *
  refine rcall_of hmix [] Try.func100 (by kernel_rfl) rfl (by simp [Try.f100]) ?_
  simp -dsimp [Try.f100]
  repeat' (first | (refine gif ?_ ?_ <;> intro h <;> (try simp only [Bool.not_eq_eq_eq_not, Bool.not_true, Bool.not_false, decide_eq_true_eq, decide_eq_false_iff_not] at h) <;> (try simp -dsimp [h])) | (refine And.intro (show orderOk _ _ = true by kernel_rfl) ?_) | (show orderOk _ _ = true; kernel_rfl) | (refine callA h ?_ rfl; simp -dsimp [Fault.enc]))
theorem v5_c (i : Image) (hi : i.WF) : RCall Try.prog 82 [.cptr (icells i), .cptr [.fn 68 [.cptr (icells i)]]] (.dat (each 60 14 (i.inits.map (funcCode i))).enc) := by
  have hcl : Closed [.cptr (icells i), .cptr [.dat (.sl (i.inits.map (.int .i64)))]] := by unfold Closed icells; simp [Image.cells]
  have h := each_c 60 14 69 _ hcl (i.inits.map (funcCode i)) (by omega) (by omega) (fun k c hk => by
    simp only [List.getElem?_map, Option.map_eq_some_iff] at hk
    obtain ⟨a, h1, rfl⟩ := hk
    exact func_c i hi _ k a h1)
  have hf := function_c i i.inits
  rw [List.length_map] at h
  unfold icells Image.cells at *
  refine rcall_of hmix [] Try.func82 (by kernel_rfl) rfl (by simp [Try.f82]) ?_
  simp -dsimp [Try.f82]
  repeat' (first | (refine gif ?_ ?_ <;> intro h <;> (try simp only [Bool.not_eq_eq_eq_not, Bool.not_true, Bool.not_false, decide_eq_true_eq, decide_eq_false_iff_not] at h) <;> (try simp -dsimp [h])) | (refine And.intro (show orderOk _ _ = true by kernel_rfl) ?_) | (show orderOk _ _ = true; kernel_rfl) | (refine callA hf ?_ rfl; simp -dsimp) | (refine callA h ?_ rfl; simp -dsimp [Fault.enc]))
theorem v6_c (i : Image) (hi : i.WF) : RCall Try.prog 83 [.cptr (icells i), .cptr [.fn 68 [.cptr (icells i)]]] (.dat (each 60 15 (i.finis.map (funcCode i))).enc) := by
  have hcl : Closed [.cptr (icells i), .cptr [.dat (.sl (i.finis.map (.int .i64)))]] := by unfold Closed icells; simp [Image.cells]
  have h := each_c 60 15 69 _ hcl (i.finis.map (funcCode i)) (by omega) (by omega) (fun k c hk => by
    simp only [List.getElem?_map, Option.map_eq_some_iff] at hk
    obtain ⟨a, h1, rfl⟩ := hk
    exact func_c i hi _ k a h1)
  have hf := function_c i i.finis
  rw [List.length_map] at h
  unfold icells Image.cells at *
  refine rcall_of hmix [] Try.func83 (by kernel_rfl) rfl (by simp [Try.f83]) ?_
  simp -dsimp [Try.f83]
  repeat' (first | (refine gif ?_ ?_ <;> intro h <;> (try simp only [Bool.not_eq_eq_eq_not, Bool.not_true, Bool.not_false, decide_eq_true_eq, decide_eq_false_iff_not] at h) <;> (try simp -dsimp [h])) | (refine And.intro (show orderOk _ _ = true by kernel_rfl) ?_) | (show orderOk _ _ = true; kernel_rfl) | (refine callA hf ?_ rfl; simp -dsimp) | (refine callA h ?_ rfl; simp -dsimp [Fault.enc]))
theorem v7k_c (i : Image) (hi : i.WF) (k : Nat) (a : Str) (ha : i.needs[k]? = some a) : RCall Try.prog 85 [.dat (.int .i64 k), .cptr (icells i)] (.dat (.int .i64 (nameCode a))) := by
  have hk : k < i.needs.length := (List.getElem?_eq_some_iff.1 ha).1
  have ha' : i.needs[k] = a := (List.getElem?_eq_some_iff.1 ha).2
  refine rcall_of hmix [] Try.func85 (by kernel_rfl) rfl (by simp [Try.f85]) ?_
  simp -dsimp [Try.f85, icells, Image.cells, ha, ha', hk]
  repeat' (first | (refine gif ?_ ?_ <;> intro h <;> (try simp only [Bool.not_eq_eq_eq_not, Bool.not_true, Bool.not_false, decide_eq_true_eq, decide_eq_false_iff_not] at h) <;> (try simp -dsimp [h])) | (refine And.intro (show orderOk _ _ = true by kernel_rfl) ?_) | (show orderOk _ _ = true; kernel_rfl) | (refine callA (isName_c a (hi.needs.2 a (List.mem_of_getElem? ha))) ?_ rfl; simp -dsimp) | (refine callA (when_c _ _) ?_ rfl; simp -dsimp [nameCode]))
theorem v7_c (i : Image) (hi : i.WF) : RCall Try.prog 84 [.cptr (icells i)] (.dat (each 5 16 (i.needs.map nameCode)).enc) := by
  have h := each_c 5 16 85 [.cptr (icells i)] (icells_closed i) (i.needs.map nameCode) (by omega) (by omega) (fun k c hk => by
    simp only [List.getElem?_map, Option.map_eq_some_iff] at hk
    obtain ⟨a, h1, rfl⟩ := hk
    exact v7k_c i hi k a h1)
  rw [List.length_map] at h
  unfold icells Image.cells at *
  refine rcall_of hmix [] Try.func84 (by kernel_rfl) rfl (by simp [Try.f84]) ?_
  simp -dsimp [Try.f84]
  repeat' (first | (refine gif ?_ ?_ <;> intro h <;> (try simp only [Bool.not_eq_eq_eq_not, Bool.not_true, Bool.not_false, decide_eq_true_eq, decide_eq_false_iff_not] at h) <;> (try simp -dsimp [h])) | (refine And.intro (show orderOk _ _ = true by kernel_rfl) ?_) | (show orderOk _ _ = true; kernel_rfl) | (refine callA h ?_ rfl; simp -dsimp [Fault.enc]))
theorem v8k_c (i : Image) (hi : i.WF) (k : Nat) (a : Str) (ha : i.files[k]? = some a) : RCall Try.prog 88 [.dat (.int .i64 k), .cptr (icells i)] (.dat (.int .i64 (nameCode a))) := by
  have hk : k < i.files.length := (List.getElem?_eq_some_iff.1 ha).1
  have ha' : i.files[k] = a := (List.getElem?_eq_some_iff.1 ha).2
  refine rcall_of hmix [] Try.func88 (by kernel_rfl) rfl (by simp [Try.f88]) ?_
  simp -dsimp [Try.f88, icells, Image.cells, ha, ha', hk]
  repeat' (first | (refine gif ?_ ?_ <;> intro h <;> (try simp only [Bool.not_eq_eq_eq_not, Bool.not_true, Bool.not_false, decide_eq_true_eq, decide_eq_false_iff_not] at h) <;> (try simp -dsimp [h])) | (refine And.intro (show orderOk _ _ = true by kernel_rfl) ?_) | (show orderOk _ _ = true; kernel_rfl) | (refine callA (isName_c a (hi.files.2 a (List.mem_of_getElem? ha))) ?_ rfl; simp -dsimp) | (refine callA (when_c _ _) ?_ rfl; simp -dsimp [nameCode]))
theorem v8_c (i : Image) (hi : i.WF) : RCall Try.prog 87 [.cptr (icells i)] (.dat (each 64 17 (i.files.map nameCode)).enc) := by
  have h := each_c 64 17 88 [.cptr (icells i)] (icells_closed i) (i.files.map nameCode) (by omega) (by omega) (fun k c hk => by
    simp only [List.getElem?_map, Option.map_eq_some_iff] at hk
    obtain ⟨a, h1, rfl⟩ := hk
    exact v8k_c i hi k a h1)
  rw [List.length_map] at h
  unfold icells Image.cells at *
  refine rcall_of hmix [] Try.func87 (by kernel_rfl) rfl (by simp [Try.f87]) ?_
  simp -dsimp [Try.f87]
  repeat' (first | (refine gif ?_ ?_ <;> intro h <;> (try simp only [Bool.not_eq_eq_eq_not, Bool.not_true, Bool.not_false, decide_eq_true_eq, decide_eq_false_iff_not] at h) <;> (try simp -dsimp [h])) | (refine And.intro (show orderOk _ _ = true by kernel_rfl) ?_) | (show orderOk _ _ = true; kernel_rfl) | (refine callA h ?_ rfl; simp -dsimp [Fault.enc]))
theorem v11_c (i : Image) (hi : i.WF) : RCall Try.prog 95 [.cptr (icells i)] (.dat (typesIn i.types).enc) := by
  have h := types_c i.types hi.types
  unfold icells Image.cells
  refine rcall_of hmix [] Try.func95 (by kernel_rfl) rfl (by simp [Try.f95]) ?_
  simp -dsimp [Try.f95]
  have hd : typesIn i.types = if typesF i.types = Fault.ok then Fault.ok else ⟨(typesF i.types).code, -20⟩ := rfl
  rw [hd]
  generalize typesF i.types = f at *
  obtain ⟨c, n⟩ := f
  simp only [Fault.enc] at h
  refine callA h ?_ rfl
  simp -dsimp [Fault.enc]
  repeat' (first | (refine gif ?_ ?_ <;> intro h <;> (try simp only [Bool.not_eq_eq_eq_not, Bool.not_true, Bool.not_false, decide_eq_true_eq, decide_eq_false_iff_not] at h) <;> (try simp -dsimp [h, Fault.enc])) | (refine And.intro (show orderOk _ _ = true by kernel_rfl) ?_) | (show orderOk _ _ = true; kernel_rfl))
  all_goals
    by_cases e : c = 0 ∧ n = 0
    · simp_all [Fault.ok]
    · simp only [Fault.ok, Fault.mk.injEq, e, if_false]; simp_all
end Go.Proofs.Ytflpgdlgfffigaa
