/- What an import refers to. -/
import Derived.Test.YtflpgdlgfffigaaGreatCoreC
import Derived.Test.YtflpgdlgfffigaaGreatCBind
set_option linter.unusedSimpArgs false
set_option linter.unusedVariables false
namespace Go.Proofs.YtflpgdlgfffigaaGreat
open Go Go.Abs
set_option maxRecDepth 8000
set_option maxHeartbeats 4000000

theorem target_c (l : List Loaded) (hl : Short l ∧ ∀ x ∈ l, x.WF) (hb : l.length * 384 ≤ 140737488355328) (hok : loadedF l = Fault.ok) (im : Nat) (y : Loaded) (hy : l[im]? = some y) (k : Nat) (m : Import) (hm : y.image.imports[k]? = some m) :
    RCall Tryz.prog 132 [.dat (binderD l), .dat (.int .i64 im), .dat (.int .i64 k)] (.dat (targetOf l im y m).enc) := by
  obtain ⟨hone, holen, hoin⟩ := orderOf_facts hok
  obtain ⟨hc, hbad, hmis⟩ := loaded_all hok
  obtain ⟨hc1, hc2, hc3⟩ := check_all hc
  rw [imagesOf_len] at hc1 hc2
  have hdef := definition_c l hl hb (orderOf l) hone (by omega) hoin im m
  have hfo : lookupF (imagesOf l) m.name m.version (others (orderOf l) im) = foundAt l im m := rfl
  rw [hfo] at hdef
  have himl : im < l.length := (List.getElem?_eq_some_iff.1 hy).1
  have hy' : l[im] = y := (List.getElem?_eq_some_iff.1 hy).2
  have hiy : (imagesOf l)[im]? = some y.image := by unfold imagesOf; rw [List.getElem?_map, hy]; rfl
  have hkl : k < y.image.imports.length := (List.getElem?_eq_some_iff.1 hm).1
  have hm' : y.image.imports[k] = m := (List.getElem?_eq_some_iff.1 hm).2
  have hag := Image.ag y.image
  have hagm := Import.ag m
  have i5 : y.image.enc.cells[5]? = some (.sl (y.image.imports.map Import.enc)) := rfl
  have i5' : ∀ h, y.image.enc.cells[5]'h = .sl (y.image.imports.map Import.enc) := fun _ => rfl
  have m4 : m.enc.cells[4]? = some (.int .i64 m.copy) := rfl
  have m4' : ∀ h, m.enc.cells[4]'h = .int .i64 m.copy := fun _ => rfl
  have htg : targetOf l im y m = if (foundAt l im m).2.2 = true then targetAt l y.bias m (foundAt l im m).1 (foundAt l im m).2.1 else Tgt.none := rfl
  rw [htg]
  have hfound := fun i e => @found_at l hok im m i e
  unfold binderD
  unfold intsD at *
  generalize foundAt l im m = r at *
  obtain ⟨i, e, ok⟩ := r
  simp only [lookP] at hdef
  cases ok
  · refine rcall_of hmix [] Tryz.func132 (by kernel_rfl) rfl (by simp [Tryz.f132]) ?_
    simp -dsimp [Tryz.f132, hy, hy', himl, hiy, hag.len, i5, i5', hm, hm', hkl, hagm.len, hagm.ld, hagm.mkT, hagm.flats, hagm.mk]
    refine callA hdef ?_ rfl
    simp -dsimp [Tgt.none, Tgt.enc]
  · obtain ⟨g1, g2, g3, gne, y2, x, hy2, hx⟩ := hfound i e rfl
    have hy2w : y2.WF := hl.2 y2 (List.mem_of_getElem? hy2)
    have hi2 : (imagesOf l)[i.toNat]? = some y2.image := by unfold imagesOf; rw [List.getElem?_map, hy2]; rfl
    have hag2 := Image.ag y2.image
    have hagl2 := Loaded.ag y2
    have hagl := Loaded.ag y
    have hagx := Export.ag x
    have j4 : y2.image.enc.cells[4]? = some (.sl (y2.image.exports.map Export.enc)) := rfl
    have j4' : ∀ h, y2.image.enc.cells[4]'h = .sl (y2.image.exports.map Export.enc) := fun _ => rfl
    have hta : targetAt l y.bias m i e = if x.thread = true then ⟨true, true, false, W (y2.thread + x.address)⟩ else if 0 ≤ m.copy then ⟨true, false, false, W (m.copy + y.bias)⟩ else ⟨true, false, executableB y2.image x.address, W (x.address + y2.bias)⟩ := by
      unfold targetAt; simp only [hy2, hx]
    have hexe := executable_c y2.image hy2w.1 x.address
    simp only [if_true]
    rw [hta]
    have b2 := loaded_19 y2
    have b2' := loaded_19' y2
    have t2 := loaded_20 y2
    have t2' := loaded_20' y2
    have b1 := loaded_19 y
    have b1' := loaded_19' y
    refine rcall_of hmix [] Tryz.func132 (by kernel_rfl) rfl (by simp [Tryz.f132]) ?_
    simp -dsimp [Tryz.f132, hy, hy', himl, hiy, hag.len, i5, i5', hm, hm', hkl, hagm.len, hagm.ld, hagm.mkT, hagm.flats, hagm.mk]
    refine callA hdef ?_ rfl
    simp -dsimp [g1, g3, hi2, hag2.len, j4, j4', hx, hagx.len, hagx.ld, hagx.mkT, hagx.flats, hagx.mk, Export.enc]
    repeat' (first | (refine gif ?_ ?_ <;> intro h <;> (try simp only [Bool.not_eq_eq_eq_not, Bool.not_true, Bool.not_false, decide_eq_true_eq, decide_eq_false_iff_not] at h) <;> (try simp -dsimp [h, g1, g3, hi2, hag2.len, hag2.ld, hag2.mkT, hy, hy', himl, hy2, hagl2.len, hagl.len, b1, b1', b2, b2', t2, t2', m4, m4', hagm.len, Tgt.enc, W])) | (refine And.intro (show orderOk _ _ = true by kernel_rfl) ?_) | (show orderOk _ _ = true; kernel_rfl) | (refine callA hexe ?_ rfl; simp -dsimp [g1, g3, hy2, hagl2.len, b2, b2', Tgt.enc, W]))
    all_goals first | (simp [*, Tgt.enc, W]; done) | (simp_all [Tgt.enc, W]; done)
end Go.Proofs.YtflpgdlgfffigaaGreat
