/- What is wrong with a symbol of an image, as the laws say it. -/
import Derived.Test.YtflpgdlgfffigaaGreatCoreC
import Derived.Test.YtflpgdlgfffigaaGreatCRefI
set_option linter.unusedSimpArgs false
set_option linter.unusedVariables false
namespace Go.Proofs.YtflpgdlgfffigaaGreat
open Go Go.Abs
set_option maxRecDepth 8000
set_option maxHeartbeats 4000000

theorem importFault_bad (l : List Loaded) (hl : Short l ∧ ∀ x ∈ l, x.WF) (hb : l.length * 384 ≤ 140737488355328) {c n : Int} (h : loadedF l = ⟨c, n⟩) (hc : ¬ c = 0) (im k : Int) :
    RCall Tryz.prog 30 [.dat (.sl (l.map Loaded.enc)), .dat (.int .i64 im), .dat (.int .i64 k)] (.dat (.agg [.int .i64 c, .int .i64 n])) := by
  have hlf := loadedFault_c l hl hb
  rw [h] at hlf
  simp only [Fault.enc] at hlf
  refine rcall_of hmix [] Tryz.func30 (by kernel_rfl) rfl (by simp [Tryz.f30]) ?_
  simp -dsimp [Tryz.f30]
  refine callA hlf ?_ rfl
  simp -dsimp [hc]
theorem importFault_out (l : List Loaded) (hl : Short l ∧ ∀ x ∈ l, x.WF) (hb : l.length * 384 ≤ 140737488355328) (h : loadedF l = Fault.ok) (im k : Int) (hin : im < 0 ∨ (l.length : Int) ≤ im) :
    RCall Tryz.prog 30 [.dat (.sl (l.map Loaded.enc)), .dat (.int .i64 im), .dat (.int .i64 k)] (.dat (.agg [.int .i64 3, .int .i64 (-9)])) := by
  have hlf := loadedFault_c l hl hb
  obtain ⟨hc, _, _⟩ := loaded_all h
  obtain ⟨hc1, hc2, _⟩ := check_all hc
  rw [imagesOf_len] at hc1 hc2
  rw [h] at hlf
  simp only [Fault.enc, Fault.ok] at hlf
  have hw : IntKind.i64.wrap ((l.length : Int) - 1) = (l.length : Int) - 1 := wrap_in (by omega) (by omega)
  have hd : (decide (0 ≤ im) && decide (im ≤ (l.length : Int) - 1)) = false := by simp; omega
  refine rcall_of hmix [] Tryz.func30 (by kernel_rfl) rfl (by simp [Tryz.f30]) ?_
  simp -dsimp [Tryz.f30]
  refine callA hlf ?_ rfl
  simp -dsimp [hw]
  refine callA (ref5in_c _ _ _) ?_ rfl
  simp -dsimp [hd]
  refine callA (at5_c _ _) ?_ rfl
  simp -dsimp
theorem importFault_in (l : List Loaded) (hl : Short l ∧ ∀ x ∈ l, x.WF) (hb : l.length * 384 ≤ 140737488355328) (h : loadedF l = Fault.ok) (im : Nat) (y : Loaded) (hy : l[im]? = some y) (k : Int) :
    RCall Tryz.prog 30 [.dat (.sl (l.map Loaded.enc)), .dat (.int .i64 im), .dat (.int .i64 k)] (.dat (if k < 0 ∨ (y.image.imports.length : Int) ≤ k then (.agg [.int .i64 3, .int .i64 (-9)]) else (.agg [.int .i64 0, .int .i64 0]))) := by
  have hlf := loadedFault_c l hl hb
  obtain ⟨hc, _, _⟩ := loaded_all h
  obtain ⟨hc1, hc2, _⟩ := check_all hc
  rw [imagesOf_len] at hc1 hc2
  rw [h] at hlf
  simp only [Fault.enc, Fault.ok] at hlf
  have himl : im < l.length := (List.getElem?_eq_some_iff.1 hy).1
  have hy' : ∀ h, l[im]'h = y := fun h => (List.getElem?_eq_some_iff.1 hy).2
  have hi80 := (image_imports (loaded_image h (List.mem_of_getElem? hy))).1
  have hw : IntKind.i64.wrap ((l.length : Int) - 1) = (l.length : Int) - 1 := wrap_in (by omega) (by omega)
  have hw2 : IntKind.i64.wrap ((y.image.imports.length : Int) - 1) = (y.image.imports.length : Int) - 1 := wrap_in (by omega) (by omega)
  have hd : (decide ((0 : Int) ≤ im) && decide ((im : Int) ≤ (l.length : Int) - 1)) = true := by simp; omega
  have hagl := Loaded.ag y
  have i5 : y.enc.cells[5]? = some (.sl (y.image.imports.map Import.enc)) := rfl
  have i5' : ∀ h, y.enc.cells[5]'h = .sl (y.image.imports.map Import.enc) := fun _ => rfl
  have hin := ref5in_c (im : Int) 0 ((l.length : Int) - 1)
  rw [hd] at hin
  by_cases hk : k < 0 ∨ (y.image.imports.length : Int) ≤ k
  · have hd2 : (decide (0 ≤ k) && decide (k ≤ (y.image.imports.length : Int) - 1)) = false := by simp; omega
    rw [if_pos hk]
    refine rcall_of hmix [] Tryz.func30 (by kernel_rfl) rfl (by simp [Tryz.f30]) ?_
    simp -dsimp [Tryz.f30]
    refine callA hlf ?_ rfl
    simp -dsimp [hw]
    refine callA hin ?_ rfl
    simp -dsimp [himl, hy, hy', hagl.len, i5, i5', hw2]
    refine callA (ref5in_c _ _ _) ?_ rfl
    simp -dsimp [hd2]
    refine callA (at5_c _ _) ?_ rfl
    simp -dsimp
  · have hd2 : (decide (0 ≤ k) && decide (k ≤ (y.image.imports.length : Int) - 1)) = true := by simp; omega
    rw [if_neg hk]
    refine rcall_of hmix [] Tryz.func30 (by kernel_rfl) rfl (by simp [Tryz.f30]) ?_
    simp -dsimp [Tryz.f30]
    refine callA hlf ?_ rfl
    simp -dsimp [hw]
    refine callA hin ?_ rfl
    simp -dsimp [himl, hy, hy', hagl.len, i5, i5', hw2]
    refine callA (ref5in_c _ _ _) ?_ rfl
    simp -dsimp [hd2]
end Go.Proofs.YtflpgdlgfffigaaGreat
