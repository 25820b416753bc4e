/- Copies: List and Target. -/
import Derived.Test.YtflpgdlgfffigaaGreatCoreC
import Derived.Test.YtflpgdlgfffigaaGreatCAll
set_option linter.unusedSimpArgs false
set_option linter.unusedVariables false
namespace Go.Proofs.YtflpgdlgfffigaaGreat
open Go Go.Abs
set_option maxRecDepth 8000
set_option maxHeartbeats 4000000

theorem copies_list_c (l : List Loaded) (hl : Short l ∧ ∀ x ∈ l, x.WF) (hb : l.length * 384 ≤ 140737488355328) : RCall Tryz.prog 28 [.dat (.sl (l.map Loaded.enc))] (listP (listF l)) := by
  have hchk := check_loaded_c l hl hb
  rcases fault_cases (loadedF l) with hs | ⟨c, n, hs, hne, hcn⟩
  · rw [hs] at hchk
    simp only [Fault.enc, Fault.ok] at hchk
    have hF : listF l = (copiesOf l, Fault.ok) := by unfold listF; rw [if_pos hs]
    have hall := copies_all_c l hl hb hs
    rw [hF]
    refine rcall_of hmix [] Tryz.func28 (by kernel_rfl) rfl (by simp [Tryz.f28]) ?_
    simp -dsimp [Tryz.f28]
    refine callA hchk ?_ rfl
    simp -dsimp [Fault.enc]
    refine callA hall ?_ rfl
    simp -dsimp [listP, Fault.enc, Fault.ok]
  · rw [hs] at hchk
    simp only [Fault.enc] at hchk
    have hF : listF l = ([], ⟨c, n⟩) := by unfold listF; rw [if_neg hne, hs]
    rw [hF]
    refine rcall_of hmix [] Tryz.func28 (by kernel_rfl) rfl (by simp [Tryz.f28]) ?_
    simp -dsimp [Tryz.f28]
    refine callA hchk ?_ rfl
    simp -dsimp [Fault.enc, hcn, listP]
    try kernel_rfl

theorem copies_target_c (l : List Loaded) (hl : Short l ∧ ∀ x ∈ l, x.WF) (hb : l.length * 384 ≤ 140737488355328) (im k : Int) :
    RCall Tryz.prog 29 [.dat (.sl (l.map Loaded.enc)), .dat (.int .i64 im), .dat (.int .i64 k)] (tgtP (targetC l im k)) := by
  have hchk := check_loaded_c l hl hb
  rcases fault_cases (loadedF l) with hs | ⟨c, n, hs, hne, hcn⟩
  · rw [hs] at hchk
    simp only [Fault.enc, Fault.ok] at hchk
    by_cases hin : im < 0 ∨ (l.length : Int) ≤ im
    · have hF : targetC l im k = ((0, false), ⟨3, -9⟩) := by unfold targetC; rw [if_neg (by simp [hs]), if_pos hin]
      rw [hF]
      refine rcall_of hmix [] Tryz.func29 (by kernel_rfl) rfl (by simp [Tryz.f29]) ?_
      simp -dsimp [Tryz.f29]
      refine callA hchk ?_ rfl
      simp -dsimp [Fault.enc]
      by_cases h0 : im < 0
      · simp -dsimp [h0, tgtP, Fault.enc]
        (try (show orderOk _ _ = true; kernel_rfl))
      · have h1 : (l.length : Int) ≤ im := by omega
        simp -dsimp [h0, h1, tgtP, Fault.enc]
        (try (show orderOk _ _ = true; kernel_rfl))
    · obtain ⟨ik, rfl⟩ : ∃ ik : Nat, im = ik := ⟨im.toNat, by omega⟩
      have hil : ik < l.length := by omega
      obtain ⟨y, hy⟩ : ∃ y, l[ik]? = some y := ⟨_, List.getElem?_eq_getElem hil⟩
      have hy' : l[ik] = y := (List.getElem?_eq_some_iff.1 hy).2
      have h0 : ¬ (ik : Int) < 0 := by omega
      have h1 : ¬ (l.length : Int) ≤ ik := by omega
      have hagl := Loaded.ag y
      have i5 : y.enc.cells[5]? = some (.sl (y.image.imports.map Import.enc)) := rfl
      have i5' : ∀ h, y.enc.cells[5]'h = .sl (y.image.imports.map Import.enc) := fun _ => rfl
      by_cases hk : k < 0 ∨ (y.image.imports.length : Int) ≤ k
      · have hF : targetC l ik k = ((0, false), ⟨3, -9⟩) := by unfold targetC; rw [if_neg (by simp [hs]), if_neg hin, show ((ik : Nat) : Int).toNat = ik by omega, hy]; simp only; rw [if_pos hk]
        rw [hF]
        refine rcall_of hmix [] Tryz.func29 (by kernel_rfl) rfl (by simp [Tryz.f29]) ?_
        simp -dsimp [Tryz.f29]
        refine callA hchk ?_ rfl
        simp -dsimp [Fault.enc, h0, h1]
        by_cases k0 : k < 0
        · simp -dsimp [k0, h0, h1, hil, hy, hy', hagl.len, i5, i5', tgtP, Fault.enc]
          (try (show orderOk _ _ = true; kernel_rfl))
        · have k1 : (y.image.imports.length : Int) ≤ k := by omega
          simp -dsimp [k0, k1, h0, h1, hil, hy, hy', hagl.len, i5, i5', tgtP, Fault.enc]
          (try (show orderOk _ _ = true; kernel_rfl))
      · obtain ⟨kp, rfl⟩ : ∃ kp : Nat, k = kp := ⟨k.toNat, by omega⟩
        have hkl : kp < y.image.imports.length := by omega
        obtain ⟨m, hm⟩ : ∃ m, y.image.imports[kp]? = some m := ⟨_, List.getElem?_eq_getElem hkl⟩
        have hm' : y.image.imports[kp] = m := (List.getElem?_eq_some_iff.1 hm).2
        have k0 : ¬ (kp : Int) < 0 := by omega
        have k1 : ¬ (y.image.imports.length : Int) ≤ kp := by omega
        have hF : targetC l ik kp = (tgtC l ik y m, Fault.ok) := by unfold targetC; rw [if_neg (by simp [hs]), if_neg hin, show ((ik : Nat) : Int).toNat = ik by omega, hy]; simp only; rw [if_neg hk, show ((kp : Nat) : Int).toNat = kp by omega, hm]
        have himg := images_c l hb
        have hord := order_c (imagesOf l) (imagesOf_wf hl)
        obtain ⟨hone, holen, hoin⟩ := orderOf_facts hs
        obtain ⟨hc, hbad, hmis⟩ := loaded_all hs
        obtain ⟨hc1, hc2, hc3⟩ := check_all hc
        rw [imagesOf_len] at hc1 hc2
        have ho : orderF (imagesOf l) = (orderOf l, Fault.ok) := by unfold orderF orderOf; rw [if_pos hc, hmis]
        rw [ho] at hord
        simp only [orderP, Fault.enc, intsD] at hord
        have hdef := definition_c l hl hb (orderOf l) hone (by omega) hoin ik m
        have hfo : lookupF (imagesOf l) m.name m.version (others (orderOf l) ik) = foundAt l ik m := rfl
        rw [hfo] at hdef
        have hagm := Import.ag m
        have m4 : m.enc.cells[4]? = some (.int .i64 m.copy) := rfl
        have m4' : ∀ h, m.enc.cells[4]'h = .int .i64 m.copy := fun _ => rfl
        have b1 := loaded_19 y
        have b1' := loaded_19' y
        have hfound := fun i e => @found_at l hs ik m i e
        have htg : tgtC l ik y m = if (foundAt l ik m).2.2 = true ∧ threadAt l (foundAt l ik m).1 (foundAt l ik m).2.1 = false then (if 0 ≤ m.copy then W (m.copy + y.bias) else fromOf l (foundAt l ik m).1 (foundAt l ik m).2.1, true) else (0, false) := rfl
        rw [hF, htg]
        unfold intsD at *
        generalize foundAt l ik m = r at *
        obtain ⟨i, e, ok⟩ := r
        simp only [lookP] at hdef
        cases ok
        · simp only [Bool.false_eq_true, false_and, if_false]
          refine rcall_of hmix [] Tryz.func29 (by kernel_rfl) rfl (by simp [Tryz.f29]) ?_
          simp -dsimp [Tryz.f29]
          refine callA hchk ?_ rfl
          simp -dsimp [Fault.enc, h0, h1, k0, k1, hil, hy, hy', hagl.len, i5, i5', hm, hm', hkl, hagm.len, hagm.ld, hagm.mkT, hagm.flats, hagm.mk]
          refine callA himg ?_ rfl
          simp -dsimp
          refine callA hord ?_ rfl
          simp -dsimp [Fault.enc, h0, h1, k0, k1, hil, hy, hy', hagl.len, i5, i5', hm, hm', hkl, hagm.len, hagm.ld, hagm.mkT, hagm.flats, hagm.mk]
          refine callA hdef ?_ rfl
          simp -dsimp [tgtP, Fault.enc, Fault.ok]
          (try (show orderOk _ _ = true; kernel_rfl))
        · obtain ⟨g1, g2, g3, gne, y2, x, hy2, hx⟩ := hfound i e rfl
          have hagl2 := Loaded.ag y2
          have hagx := Export.ag x
          have j4 : y2.enc.cells[4]? = some (.sl (y2.image.exports.map Export.enc)) := rfl
          have j4' : ∀ h, y2.enc.cells[4]'h = .sl (y2.image.exports.map Export.enc) := fun _ => rfl
          have b2 := loaded_19 y2
          have b2' := loaded_19' y2
          have hth : threadAt l i e = x.thread := by unfold threadAt; simp only [hy2, hx]
          have hfrom : fromOf l i e = W (x.address + y2.bias) := by unfold fromOf; simp only [hy2, hx]
          simp only [hth, hfrom]
          by_cases hcp : 0 ≤ m.copy <;> cases hxt : x.thread
          all_goals
            refine rcall_of hmix [] Tryz.func29 (by kernel_rfl) rfl (by simp [Tryz.f29]) ?_
            simp -dsimp [Tryz.f29]
            refine callA hchk ?_ rfl
            simp -dsimp [Fault.enc, h0, h1, k0, k1, hil, hy, hy', hagl.len, i5, i5', hm, hm', hkl, hagm.len, hagm.ld, hagm.mkT, hagm.flats, hagm.mk]
            refine callA himg ?_ rfl
            simp -dsimp
            refine callA hord ?_ rfl
            simp -dsimp [Fault.enc, h0, h1, k0, k1, hil, hy, hy', hagl.len, i5, i5', hm, hm', hkl, hagm.len, hagm.ld, hagm.mkT, hagm.flats, hagm.mk]
            refine callA hdef ?_ rfl
            simp -dsimp [tgtP, Fault.enc, Fault.ok, g1, g3, hy2, hagl2.len, j4, j4', hx, hagx.len, Export.enc, hxt, b2, b2', hcp, W, hil, hy, hy', hagl.len, b1, b1', hagm.len, hagm.ld, hagm.mkT, hagm.flats, hagm.mk, m4, m4']
            (try (show orderOk _ _ = true; kernel_rfl))
  · have hF : targetC l im k = ((0, false), ⟨c, n⟩) := by unfold targetC; rw [if_pos hne, hs]
    rw [hs] at hchk
    simp only [Fault.enc] at hchk
    rw [hF]
    refine rcall_of hmix [] Tryz.func29 (by kernel_rfl) rfl (by simp [Tryz.f29]) ?_
    simp -dsimp [Tryz.f29]
    refine callA hchk ?_ rfl
    simp -dsimp [Fault.enc, hcn, tgtP]
    try kernel_rfl

theorem copiesEx_c : RCall Tryz.prog 31 [] (.dat (.bool true)) := by
  have h1 := copies_list_c bothI bothI_wf (by decide)
  have h2 := copies_target_c bothI bothI_wf (by decide) 0 0
  rw [both_list] at h1
  rw [both_target] at h2
  simp only [listP, Fault.enc, Fault.ok, List.map_nil] at h1
  simp only [tgtP, Fault.enc, Fault.ok] at h2
  refine rcall_of hmix [] Tryz.func31 (by kernel_rfl) rfl (by simp [Tryz.f31]) ?_
  simp -dsimp [Tryz.f31]
  refine callA both_c ?_ rfl
  simp -dsimp
  refine callA h1 ?_ rfl
  simp -dsimp
  refine callA both_c ?_ rfl
  simp -dsimp
  refine callA h2 ?_ rfl
  simp -dsimp
end Go.Proofs.YtflpgdlgfffigaaGreat
