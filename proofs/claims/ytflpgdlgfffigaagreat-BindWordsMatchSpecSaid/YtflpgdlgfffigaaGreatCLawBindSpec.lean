/- The laws: bind.One and bind.Words are as the specification says. -/
import Derived.Test.YtflpgdlgfffigaaGreatCRefP
import Derived.Test.YtflpgdlgfffigaaGreatCBindEx
import Derived.Test.YtflpgdlgfffigaaGreatCLawB
set_option linter.unusedSimpArgs false
set_option linter.unusedVariables false
namespace Go.Proofs.YtflpgdlgfffigaaGreat
open Go Go.Abs
set_option maxRecDepth 8000
set_option maxHeartbeats 4000000

theorem importFault_bad (l : List Loaded) (hl : Short l ∧ ∀ x ∈ l, x.WF) (hb : l.length * 384 ≤ 140737488355328) {c n : Int} (h : loadedF l = ⟨c, n⟩) (hc : ¬ c = 0) (im k : Int) :
    RCall Tryz.prog 30 [.dat (.sl (l.map Loaded.enc)), .dat (.int .i64 im), .dat (.int .i64 k)] (.dat (.agg [.int .i64 c, .int .i64 n])) := by
  have hlf := loadedFault_c l hl hb
  rw [h] at hlf
  simp only [Fault.enc] at hlf
  refine rcall_of hmix [] Tryz.func30 (by kernel_rfl) rfl (by simp [Tryz.f30]) ?_
  simp -dsimp [Tryz.f30]
  refine callA hlf ?_ rfl
  simp -dsimp [hc]
theorem importFault_out (l : List Loaded) (hl : Short l ∧ ∀ x ∈ l, x.WF) (hb : l.length * 384 ≤ 140737488355328) (h : loadedF l = Fault.ok) (im k : Int) (hin : im < 0 ∨ (l.length : Int) ≤ im) :
    RCall Tryz.prog 30 [.dat (.sl (l.map Loaded.enc)), .dat (.int .i64 im), .dat (.int .i64 k)] (.dat (.agg [.int .i64 3, .int .i64 (-9)])) := by
  have hlf := loadedFault_c l hl hb
  obtain ⟨hc, _, _⟩ := loaded_all h
  obtain ⟨hc1, hc2, _⟩ := check_all hc
  rw [imagesOf_len] at hc1 hc2
  rw [h] at hlf
  simp only [Fault.enc, Fault.ok] at hlf
  have hw : IntKind.i64.wrap ((l.length : Int) - 1) = (l.length : Int) - 1 := wrap_in (by omega) (by omega)
  have hd : (decide (0 ≤ im) && decide (im ≤ (l.length : Int) - 1)) = false := by simp; omega
  refine rcall_of hmix [] Tryz.func30 (by kernel_rfl) rfl (by simp [Tryz.f30]) ?_
  simp -dsimp [Tryz.f30]
  refine callA hlf ?_ rfl
  simp -dsimp [hw]
  refine callA (ref5in_c _ _ _) ?_ rfl
  simp -dsimp [hd]
  refine callA (at5_c _ _) ?_ rfl
  simp -dsimp
theorem importFault_in (l : List Loaded) (hl : Short l ∧ ∀ x ∈ l, x.WF) (hb : l.length * 384 ≤ 140737488355328) (h : loadedF l = Fault.ok) (im : Nat) (y : Loaded) (hy : l[im]? = some y) (k : Int) :
    RCall Tryz.prog 30 [.dat (.sl (l.map Loaded.enc)), .dat (.int .i64 im), .dat (.int .i64 k)] (.dat (if k < 0 ∨ (y.image.imports.length : Int) ≤ k then (.agg [.int .i64 3, .int .i64 (-9)]) else (.agg [.int .i64 0, .int .i64 0]))) := by
  have hlf := loadedFault_c l hl hb
  obtain ⟨hc, _, _⟩ := loaded_all h
  obtain ⟨hc1, hc2, _⟩ := check_all hc
  rw [imagesOf_len] at hc1 hc2
  rw [h] at hlf
  simp only [Fault.enc, Fault.ok] at hlf
  have himl : im < l.length := (List.getElem?_eq_some_iff.1 hy).1
  have hy' : ∀ h, l[im]'h = y := fun h => (List.getElem?_eq_some_iff.1 hy).2
  have hi80 := (image_imports (loaded_image h (List.mem_of_getElem? hy))).1
  have hw : IntKind.i64.wrap ((l.length : Int) - 1) = (l.length : Int) - 1 := wrap_in (by omega) (by omega)
  have hw2 : IntKind.i64.wrap ((y.image.imports.length : Int) - 1) = (y.image.imports.length : Int) - 1 := wrap_in (by omega) (by omega)
  have hd : (decide ((0 : Int) ≤ im) && decide ((im : Int) ≤ (l.length : Int) - 1)) = true := by simp; omega
  have hagl := Loaded.ag y
  have i5 : y.enc.cells[5]? = some (.sl (y.image.imports.map Import.enc)) := rfl
  have i5' : ∀ h, y.enc.cells[5]'h = .sl (y.image.imports.map Import.enc) := fun _ => rfl
  have hin := ref5in_c (im : Int) 0 ((l.length : Int) - 1)
  rw [hd] at hin
  by_cases hk : k < 0 ∨ (y.image.imports.length : Int) ≤ k
  · have hd2 : (decide (0 ≤ k) && decide (k ≤ (y.image.imports.length : Int) - 1)) = false := by simp; omega
    rw [if_pos hk]
    refine rcall_of hmix [] Tryz.func30 (by kernel_rfl) rfl (by simp [Tryz.f30]) ?_
    simp -dsimp [Tryz.f30]
    refine callA hlf ?_ rfl
    simp -dsimp [hw]
    refine callA hin ?_ rfl
    simp -dsimp [himl, hy, hy', hagl.len, i5, i5', hw2]
    refine callA (ref5in_c _ _ _) ?_ rfl
    simp -dsimp [hd2]
    refine callA (at5_c _ _) ?_ rfl
    simp -dsimp
  · have hd2 : (decide (0 ≤ k) && decide (k ≤ (y.image.imports.length : Int) - 1)) = true := by simp; omega
    rw [if_neg hk]
    refine rcall_of hmix [] Tryz.func30 (by kernel_rfl) rfl (by simp [Tryz.f30]) ?_
    simp -dsimp [Tryz.f30]
    refine callA hlf ?_ rfl
    simp -dsimp [hw]
    refine callA hin ?_ rfl
    simp -dsimp [himl, hy, hy', hagl.len, i5, i5', hw2]
    refine callA (ref5in_c _ _ _) ?_ rfl
    simp -dsimp [hd2]

theorem lawOneSpec_c (l : List Loaded) (hl : Short l ∧ ∀ x ∈ l, x.WF) (hb0 : l.length * Tryz.prog.bytesOf 82 ≤ reachBytes) (im : Int) (him : I64 im) (k : Int) (hk64 : I64 k) :
    RCall Tryz.prog 7 [.dat (.sl (l.map Loaded.enc)), .dat (.int .i64 im), .dat (.int .i64 k)] (.dat (.bool true)) := by
  have hb := loaded_bound hb0
  have hone := one_c l hl hb im k
  rcases fault_cases (loadedF l) with hs | ⟨c, n, hs, hne, hcn⟩
  · by_cases hin : im < 0 ∨ (l.length : Int) ≤ im
    · have hF : oneF l im k = (⟨0, 0⟩, ⟨3, -9⟩) := by unfold oneF; rw [if_neg (by simp [hs]), if_pos hin]
      rw [hF] at hone
      simp only [oneP, Fault.enc, Bound.enc] at hone
      have hif := importFault_out l hl hb hs im k hin
      refine rcall_of hmix [] Tryz.func7 (by kernel_rfl) rfl (by simp [Tryz.f7]) ?_
      simp -dsimp [Tryz.f7]
      refine callA hone ?_ rfl
      simp -dsimp
      refine callA hif ?_ rfl
      simp -dsimp
      refine callA bindEx_c ?_ rfl
      simp -dsimp
    · obtain ⟨ik, rfl⟩ : ∃ ik : Nat, im = ik := ⟨im.toNat, by omega⟩
      have hil : ik < l.length := by omega
      obtain ⟨y, hy⟩ : ∃ y, l[ik]? = some y := ⟨_, List.getElem?_eq_getElem hil⟩
      have hy' : ∀ h, l[ik]'h = y := fun h => (List.getElem?_eq_some_iff.1 hy).2
      have hF0 : oneF l ik k = if k < 0 ∨ (y.image.imports.length : Int) ≤ k then (⟨0, 0⟩, ⟨3, -9⟩) else if (importAt y k).slot < 0 then (⟨0, 0⟩, ⟨6, -2⟩) else if (slotOf l ik y k (importAt y k) false).2 = 0 then ((slotOf l ik y k (importAt y k) false).1, Fault.ok) else (⟨0, 0⟩, ⟨(slotOf l ik y k (importAt y k) false).2, W (-20 - k)⟩) := by
        unfold oneF; rw [if_neg (by simp [hs]), if_neg hin, show ((ik : Nat) : Int).toNat = ik by omega, hy]
      have hif := importFault_in l hl hb hs ik y hy k
      rw [hF0] at hone
      by_cases hk : k < 0 ∨ (y.image.imports.length : Int) ≤ k
      · rw [if_pos hk] at hone hif
        simp only [oneP, Fault.enc, Bound.enc] at hone
        refine rcall_of hmix [] Tryz.func7 (by kernel_rfl) rfl (by simp [Tryz.f7]) ?_
        simp -dsimp [Tryz.f7]
        refine callA hone ?_ rfl
        simp -dsimp
        refine callA hif ?_ rfl
        simp -dsimp
        refine callA bindEx_c ?_ rfl
        simp -dsimp
      · rw [if_neg hk] at hone hif
        obtain ⟨kk, rfl⟩ : ∃ kk : Nat, k = kk := ⟨k.toNat, by omega⟩
        have hkl : kk < y.image.imports.length := by omega
        obtain ⟨m, hm⟩ : ∃ m, y.image.imports[kk]? = some m := ⟨_, List.getElem?_eq_getElem hkl⟩
        have hm' : ∀ h, y.image.imports[kk]'h = m := fun h => (List.getElem?_eq_some_iff.1 hm).2
        have hat : importAt y kk = m := by unfold importAt; simp [hm]
        rw [hat] at hone
        have hagl := Loaded.ag y
        have hagm := Import.ag m
        have i5 : y.enc.cells[5]? = some (.sl (y.image.imports.map Import.enc)) := rfl
        have i5' : ∀ h, y.enc.cells[5]'h = .sl (y.image.imports.map Import.enc) := fun _ => rfl
        have m3 : m.enc.cells[3]? = some (.int .i64 m.slot) := rfl
        have m3' : ∀ h, m.enc.cells[3]'h = .int .i64 m.slot := fun _ => rfl
        by_cases hs0 : m.slot < 0
        · rw [if_pos hs0] at hone
          simp only [oneP, Fault.enc, Bound.enc] at hone
          refine rcall_of hmix [] Tryz.func7 (by kernel_rfl) rfl (by simp [Tryz.f7]) ?_
          simp -dsimp [Tryz.f7]
          refine callA hone ?_ rfl
          simp -dsimp
          refine callA hif ?_ rfl
          simp -dsimp [hil, hy, hy', hagl.len, i5, i5', hkl, hm, hm', hagm.len, m3, m3', hs0]
          refine callA (at5_c _ _) ?_ rfl
          simp -dsimp
          refine callA bindEx_c ?_ rfl
          simp -dsimp
        · rw [if_neg hs0] at hone
          have hsw := slotWord6_c l hl hb hs ik y hy kk m hm false
          generalize slotOf l ik y kk m false = r at *
          obtain ⟨⟨ba, bv⟩, code⟩ := r
          simp only at hone hsw
          by_cases hc : code = 0
          · subst hc
            rw [if_pos rfl] at hone
            simp only [oneP, Fault.enc, Fault.ok, Bound.enc] at hone hsw
            refine rcall_of hmix [] Tryz.func7 (by kernel_rfl) rfl (by simp [Tryz.f7]) ?_
            simp -dsimp [Tryz.f7]
            refine callA hone ?_ rfl
            simp -dsimp
            refine callA hif ?_ rfl
            simp -dsimp [hil, hy, hy', hagl.len, i5, i5', hkl, hm, hm', hagm.len, m3, m3', hs0]
            refine callA bindEx_c ?_ rfl
            simp -dsimp
            refine callA hsw ?_ rfl
            simp -dsimp
          · rw [if_neg hc] at hone
            unfold W at hone
            simp only [oneP, Fault.enc, Fault.ok, Bound.enc] at hone hsw
            have hbz : ba = 0 ∧ bv = 0 ∨ True := .inr trivial
            refine rcall_of hmix [] Tryz.func7 (by kernel_rfl) rfl (by simp [Tryz.f7]) ?_
            simp -dsimp [Tryz.f7]
            refine callA hone ?_ rfl
            simp -dsimp
            refine callA hif ?_ rfl
            simp -dsimp [hil, hy, hy', hagl.len, i5, i5', hkl, hm, hm', hagm.len, m3, m3', hs0]
            refine callA bindEx_c ?_ rfl
            simp -dsimp
            refine callA hsw ?_ rfl
            simp -dsimp [hc]
            refine callA (at5_c _ _) ?_ rfl
            simp -dsimp
            first | done | exact (show orderOk _ _ = true by kernel_rfl)
  · have hF : oneF l im k = (⟨0, 0⟩, ⟨c, n⟩) := by unfold oneF; rw [if_pos hne, hs]
    have hc0 : ¬ c = 0 := by
      rcases good_loaded l with g | g
      · exact absurd g hne
      · rw [hs] at g; exact g
    rw [hF] at hone
    simp only [oneP, Fault.enc, Bound.enc] at hone
    have hif := importFault_bad l hl hb hs hc0 im k
    refine rcall_of hmix [] Tryz.func7 (by kernel_rfl) rfl (by simp [Tryz.f7]) ?_
    simp -dsimp [Tryz.f7]
    refine callA hone ?_ rfl
    simp -dsimp
    refine callA hif ?_ rfl
    simp -dsimp [hc0]
    refine callA bindEx_c ?_ rfl
    simp -dsimp [hc0]

theorem sameBounds_c (bs : List Bound) (hb : bs.length ≤ 100000) : RCall Tryz.prog 37 [.dat (.sl (bs.map Bound.enc)), .dat (.sl (bs.map Bound.enc))] (.dat (.bool true)) := by
  refine rcall_of hmix [] Tryz.func37 (by kernel_rfl) rfl (by simp [Tryz.f37]) ?_
  simp -dsimp [Tryz.f37]
  refine awp_loopN bs.length (fun k s => s.t 5 = .dat (.int .i64 k) ∧ s.t 0 = .dat (.sl (bs.map Bound.enc)) ∧ s.t 1 = .dat (.sl (bs.map Bound.enc))) ⟨by simp, by simp, by simp⟩ ?_
  rintro k s hk ⟨h5, h0, h1⟩
  by_cases hlt : k < bs.length
  · have hw : IntKind.i64.wrap ((k : Int) + 1) = k + 1 := wrap_in (by omega) (by omega)
    obtain ⟨b, hbk⟩ : ∃ b, bs[k]? = some b := ⟨_, List.getElem?_eq_getElem hlt⟩
    have hbk' : ∀ h, bs[k]'h = b := fun h => (List.getElem?_eq_some_iff.1 hbk).2
    simp -dsimp [h5, h0, h1, hlt, hbk, hbk', Bound.enc, hw]
    first | done | exact (show orderOk _ _ = true by kernel_rfl)
  · have hkl : k = bs.length := by omega
    subst hkl
    simp -dsimp [h5, h0, h1]

theorem lawWordsSpec_c (l : List Loaded) (hl : Short l ∧ ∀ x ∈ l, x.WF) (hb0 : l.length * Tryz.prog.bytesOf 82 ≤ reachBytes) (im : Int) (him : I64 im) (lz : Bool) :
    RCall Tryz.prog 6 [.dat (.sl (l.map Loaded.enc)), .dat (.int .i64 im), .dat (.bool lz)] (.dat (.bool true)) := by
  have hb := loaded_bound hb0
  have hwords := words_c l hl hb im lz
  have hlf := loadedFault_c l hl hb
  rcases fault_cases (loadedF l) with hs | ⟨c, n, hs, hne, hcn⟩
  · obtain ⟨hc, _, _⟩ := loaded_all hs
    obtain ⟨hc1, hc2, _⟩ := check_all hc
    rw [imagesOf_len] at hc1 hc2
    have hw : IntKind.i64.wrap ((l.length : Int) - 1) = (l.length : Int) - 1 := wrap_in (by omega) (by omega)
    rw [hs] at hlf
    simp only [Fault.enc, Fault.ok] at hlf
    by_cases hin : im < 0 ∨ (l.length : Int) ≤ im
    · have hF : wordsF l im lz = ([], ⟨3, -9⟩) := by unfold wordsF; rw [if_neg (by simp [hs]), if_pos hin]
      rw [hF] at hwords
      simp only [wordsP, Fault.enc, List.map_nil] at hwords
      have hd : (decide (0 ≤ im) && decide (im ≤ (l.length : Int) - 1)) = false := by simp; omega
      refine rcall_of hmix [] Tryz.func6 (by kernel_rfl) rfl (by simp [Tryz.f6]) ?_
      simp -dsimp [Tryz.f6]
      refine callA hwords ?_ rfl
      simp -dsimp
      refine callA hlf ?_ rfl
      simp -dsimp [hw]
      refine callA (ref5in_c _ _ _) ?_ rfl
      simp -dsimp [hd]
      refine callA (at5_c _ _) ?_ rfl
      simp -dsimp
      refine callA bindEx_c ?_ rfl
      simp -dsimp
    · obtain ⟨ik, rfl⟩ : ∃ ik : Nat, im = ik := ⟨im.toNat, by omega⟩
      have hil : ik < l.length := by omega
      obtain ⟨y, hy⟩ : ∃ y, l[ik]? = some y := ⟨_, List.getElem?_eq_getElem hil⟩
      have hF : wordsF l ik lz = allOf l ik y lz := by unfold wordsF; rw [if_neg (by simp [hs]), if_neg hin, show ((ik : Nat) : Int).toNat = ik by omega, hy]
      have hd : (decide ((0 : Int) ≤ ik) && decide ((ik : Int) ≤ (l.length : Int) - 1)) = true := by simp; omega
      have hw6 := words6_c l hl hb hs ik y hy lz
      have hlen := allOf_len hs (List.mem_of_getElem? hy) (im := (ik : Int)) lz
      rw [hF] at hwords
      generalize allOf l ik y lz = R at *
      obtain ⟨ws, fc, fi⟩ := R
      simp only [wordsP, words6P, Fault.enc] at hwords hw6
      have hsb := sameBounds_c ws (by simp at hlen; omega)
      refine rcall_of hmix [] Tryz.func6 (by kernel_rfl) rfl (by simp [Tryz.f6]) ?_
      simp -dsimp [Tryz.f6]
      refine callA hwords ?_ rfl
      simp -dsimp
      refine callA hlf ?_ rfl
      simp -dsimp [hw]
      have hri := ref5in_c (ik : Int) 0 ((l.length : Int) - 1)
      rw [hd] at hri
      refine callA hri ?_ rfl
      simp -dsimp
      refine callA bindEx_c ?_ rfl
      simp -dsimp
      refine callA hw6 ?_ rfl
      simp -dsimp
      refine callA hsb ?_ rfl
      simp -dsimp
  · have hF : wordsF l im lz = ([], ⟨c, n⟩) := by unfold wordsF; rw [if_pos hne, hs]
    have hc0 : ¬ c = 0 := by
      rcases good_loaded l with g | g
      · exact absurd g hne
      · rw [hs] at g; exact g
    rw [hF] at hwords
    rw [hs] at hlf
    simp only [wordsP, Fault.enc, List.map_nil] at hwords hlf
    refine rcall_of hmix [] Tryz.func6 (by kernel_rfl) rfl (by simp [Tryz.f6]) ?_
    simp -dsimp [Tryz.f6]
    refine callA hwords ?_ rfl
    simp -dsimp
    refine callA hlf ?_ rfl
    simp -dsimp [hc0]
    refine callA bindEx_c ?_ rfl
    simp -dsimp [hc0]
end Go.Proofs.YtflpgdlgfffigaaGreat
