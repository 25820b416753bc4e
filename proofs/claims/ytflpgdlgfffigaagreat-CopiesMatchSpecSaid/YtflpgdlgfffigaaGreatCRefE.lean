/- The references: an image. -/
import Derived.Test.YtflpgdlgfffigaaGreatCoreC
import Derived.Test.YtflpgdlgfffigaaGreatCRefC
set_option linter.unusedSimpArgs false
set_option linter.unusedVariables false
namespace Go.Proofs.YtflpgdlgfffigaaGreat
open Go Go.Abs
set_option maxRecDepth 8000
set_option maxHeartbeats 4000000

theorem size4_c (i : Image) (m : Nat) (hm : m < 12) (h9 : ¬ m = 9) (n : Int) (hn : n = 11 + (m : Int)) : RCall Tryz.prog 119 [.dat i.enc, .dat (.int .i64 n)] (.tup [.dat (.int .i64 (lenAt i m)), .dat (.int .i64 (mostAt m))]) := by
  have h : m = 0 ∨ m = 1 ∨ m = 2 ∨ m = 3 ∨ m = 4 ∨ m = 5 ∨ m = 6 ∨ m = 7 ∨ m = 8 ∨ m = 10 ∨ m = 11 := by omega
  rcases h with rfl | rfl | rfl | rfl | rfl | rfl | rfl | rfl | rfl | rfl | rfl
  all_goals simp at hn
  all_goals subst hn
  all_goals
    refine rcall_of hmix [] Tryz.func119 (by kernel_rfl) rfl (by simp [Tryz.f119]) ?_
    simp -dsimp [Tryz.f119, Image.enc, Image.cells, lenAt, mostAt]

theorem elem4_c (i : Image) (hi : i.WF) (hs : ∀ s ∈ i.segments, SegIn s) (m : Nat) (hm : m < 12) (h9 : ¬ m = 9) (n : Int) (hn : n = 11 + (m : Int)) (k : Nat) (hk : k < lenAt i m) (hpre : ∀ j, j < k → elemAt i m j = 0) : RCall Tryz.prog 120 [.dat i.enc, .dat (.int .i64 n), .dat (.int .i64 k)] (.dat (.int .i64 (elemAt i m k))) := by
  have hag := Image.ag i
  have h : m = 0 ∨ m = 1 ∨ m = 2 ∨ m = 3 ∨ m = 4 ∨ m = 5 ∨ m = 6 ∨ m = 7 ∨ m = 8 ∨ m = 10 ∨ m = 11 := by omega
  rcases h with rfl | rfl | rfl | rfl | rfl | rfl | rfl | rfl | rfl | rfl | rfl
  all_goals simp at hn
  all_goals subst hn
  · refine rcall_of hmix [] Tryz.func120 (by kernel_rfl) rfl (by simp [Tryz.f120]) ?_
    simp -dsimp [Tryz.f120, hag.len, hag.ld, hag.mkT, hag.flats]
    refine callA (exportCode4_c i hi hs k hk) ?_ rfl
    simp -dsimp [elemAt]
  · refine rcall_of hmix [] Tryz.func120 (by kernel_rfl) rfl (by simp [Tryz.f120]) ?_
    simp -dsimp [Tryz.f120, hag.len, hag.ld, hag.mkT, hag.flats]
    refine callA (importCode4_c i hi hs k hk) ?_ rfl
    simp -dsimp [elemAt]
  · refine rcall_of hmix [] Tryz.func120 (by kernel_rfl) rfl (by simp [Tryz.f120]) ?_
    simp -dsimp [Tryz.f120, hag.len, hag.ld, hag.mkT, hag.flats]
    refine callA (fixupCode4_c i hi hs k hk (fixup_prev hs hpre)) ?_ rfl
    simp -dsimp [elemAt]
  · have hk' : k < i.inits.length := hk
    obtain ⟨a, ha⟩ : ∃ a, i.inits[k]? = some a := ⟨_, List.getElem?_eq_getElem hk'⟩
    have ha' : i.inits[k] = a := (List.getElem?_eq_some_iff.1 ha).2
    have e1 : i.enc.cells[9]? = some (intsD i.inits) := rfl
    have e2 : ∀ h, i.enc.cells[9]'h = intsD i.inits := fun _ => rfl
    unfold intsD at e1 e2
    refine rcall_of hmix [] Tryz.func120 (by kernel_rfl) rfl (by simp [Tryz.f120]) ?_
    simp -dsimp [Tryz.f120, hag.len, hag.ld, hag.mkT, hag.flats, e1, e2, ha, ha', hk']
    refine callA (within4_c i hi hs a 0 4 (by omega) (by omega)) ?_ rfl
    simp -dsimp [elemAt, codeAt, ha, funcCode, whenI]
    repeat' (first | (refine gif ?_ ?_ <;> intro h <;> (try simp only [Bool.not_eq_eq_eq_not, Bool.not_true, Bool.not_false, decide_eq_true_eq, decide_eq_false_iff_not] at h) <;> (try simp -dsimp [h])) | (refine And.intro (show orderOk _ _ = true by kernel_rfl) ?_) | (show orderOk _ _ = true; kernel_rfl))
    all_goals simp_all
  · have hk' : k < i.finis.length := hk
    obtain ⟨a, ha⟩ : ∃ a, i.finis[k]? = some a := ⟨_, List.getElem?_eq_getElem hk'⟩
    have ha' : i.finis[k] = a := (List.getElem?_eq_some_iff.1 ha).2
    have e1 : i.enc.cells[10]? = some (intsD i.finis) := rfl
    have e2 : ∀ h, i.enc.cells[10]'h = intsD i.finis := fun _ => rfl
    unfold intsD at e1 e2
    refine rcall_of hmix [] Tryz.func120 (by kernel_rfl) rfl (by simp [Tryz.f120]) ?_
    simp -dsimp [Tryz.f120, hag.len, hag.ld, hag.mkT, hag.flats, e1, e2, ha, ha', hk']
    refine callA (within4_c i hi hs a 0 4 (by omega) (by omega)) ?_ rfl
    simp -dsimp [elemAt, codeAt, ha, funcCode, whenI]
    repeat' (first | (refine gif ?_ ?_ <;> intro h <;> (try simp only [Bool.not_eq_eq_eq_not, Bool.not_true, Bool.not_false, decide_eq_true_eq, decide_eq_false_iff_not] at h) <;> (try simp -dsimp [h])) | (refine And.intro (show orderOk _ _ = true by kernel_rfl) ?_) | (show orderOk _ _ = true; kernel_rfl))
    all_goals simp_all
  · have hk' : k < i.needs.length := hk
    obtain ⟨a, ha⟩ : ∃ a, i.needs[k]? = some a := ⟨_, List.getElem?_eq_getElem hk'⟩
    have ha' : i.needs[k] = a := (List.getElem?_eq_some_iff.1 ha).2
    have e1 : i.enc.cells[11]? = some (.sl (i.needs.map .str)) := rfl
    have e2 : ∀ h, i.enc.cells[11]'h = .sl (i.needs.map .str) := fun _ => rfl
    refine rcall_of hmix [] Tryz.func120 (by kernel_rfl) rfl (by simp [Tryz.f120]) ?_
    simp -dsimp [Tryz.f120, hag.len, hag.ld, hag.mkT, hag.flats, e1, e2, ha, ha', hk']
    refine callA (nameOk_c a (hi.needs.2 a (List.mem_of_getElem? ha))) ?_ rfl
    simp -dsimp [elemAt, codeAt, ha, nameCode, whenI]
    repeat' (first | (refine gif ?_ ?_ <;> intro h <;> (try simp only [Bool.not_eq_eq_eq_not, Bool.not_true, Bool.not_false, decide_eq_true_eq, decide_eq_false_iff_not] at h) <;> (try simp -dsimp [h])) | (refine And.intro (show orderOk _ _ = true by kernel_rfl) ?_) | (show orderOk _ _ = true; kernel_rfl))
    all_goals simp_all
  · have hk' : k < i.files.length := hk
    obtain ⟨a, ha⟩ : ∃ a, i.files[k]? = some a := ⟨_, List.getElem?_eq_getElem hk'⟩
    have ha' : i.files[k] = a := (List.getElem?_eq_some_iff.1 ha).2
    have e1 : i.enc.cells[15]? = some (.sl (i.files.map .str)) := rfl
    have e2 : ∀ h, i.enc.cells[15]'h = .sl (i.files.map .str) := fun _ => rfl
    refine rcall_of hmix [] Tryz.func120 (by kernel_rfl) rfl (by simp [Tryz.f120]) ?_
    simp -dsimp [Tryz.f120, hag.len, hag.ld, hag.mkT, hag.flats, e1, e2, ha, ha', hk']
    refine callA (nameOk_c a (hi.files.2 a (List.mem_of_getElem? ha))) ?_ rfl
    simp -dsimp [elemAt, codeAt, ha, nameCode, whenI]
    repeat' (first | (refine gif ?_ ?_ <;> intro h <;> (try simp only [Bool.not_eq_eq_eq_not, Bool.not_true, Bool.not_false, decide_eq_true_eq, decide_eq_false_iff_not] at h) <;> (try simp -dsimp [h])) | (refine And.intro (show orderOk _ _ = true by kernel_rfl) ?_) | (show orderOk _ _ = true; kernel_rfl))
    all_goals simp_all
  · refine rcall_of hmix [] Tryz.func120 (by kernel_rfl) rfl (by simp [Tryz.f120]) ?_
    simp -dsimp [Tryz.f120, hag.len, hag.ld, hag.mkT, hag.flats]
    refine callA (lineCode4_c i hi hs k hk) ?_ rfl
    simp -dsimp [elemAt]
  · refine rcall_of hmix [] Tryz.func120 (by kernel_rfl) rfl (by simp [Tryz.f120]) ?_
    simp -dsimp [Tryz.f120, hag.len, hag.ld, hag.mkT, hag.flats]
    refine callA (unwindCode4_c i hi hs k hk) ?_ rfl
    simp -dsimp [elemAt]
  · refine rcall_of hmix [] Tryz.func120 (by kernel_rfl) rfl (by simp [Tryz.f120]) ?_
    simp -dsimp [Tryz.f120, hag.len, hag.ld, hag.mkT, hag.flats]
    refine callA (variableCode4_c i hi hs k hk) ?_ rfl
    simp -dsimp [elemAt]
  · refine rcall_of hmix [] Tryz.func120 (by kernel_rfl) rfl (by simp [Tryz.f120]) ?_
    simp -dsimp [Tryz.f120, hag.len, hag.ld, hag.mkT, hag.flats]
    refine callA (placeCode4_c i hi hs k hk (place_prev hs hpre)) ?_ rfl
    simp -dsimp [elemAt]
end Go.Proofs.YtflpgdlgfffigaaGreat
