/- The words of fixups. -/
import Derived.Test.YtflpgdlgfffigaaGreatCSlot
set_option linter.unusedSimpArgs false
set_option linter.unusedVariables false
namespace Go.Proofs.YtflpgdlgfffigaaGreat
open Go Go.Abs
set_option maxRecDepth 8000
set_option maxHeartbeats 4000000

theorem fix_c (l : List Loaded) (hl : Short l ∧ ∀ x ∈ l, x.WF) (hb : l.length * 384 ≤ 140737488355328) (hok : loadedF l = Fault.ok) (im : Nat) (y : Loaded) (hy : l[im]? = some y) (f : Fixup) (hk : f.kind = 1 ∨ f.kind = 4 ∨ 0 ≤ f.imp ∧ f.imp < y.image.imports.length) :
    RCall Tryz.prog 130 [.dat (binderD l), .dat (.int .i64 im), .dat f.enc] (resP (fixOf l im y f)) := by
  have hyw : y.WF := hl.2 y (List.mem_of_getElem? hy)
  have hword := word_c y.image hyw.1 f.address
  have himl : im < l.length := (List.getElem?_eq_some_iff.1 hy).1
  have hy' : l[im] = y := (List.getElem?_eq_some_iff.1 hy).2
  have hagl := Loaded.ag y
  have hagi := Image.ag y.image
  have htake := loaded_take y
  have i5 : y.enc.cells[5]? = some (.sl (y.image.imports.map Import.enc)) := rfl
  have i5' : ∀ h, y.enc.cells[5]'h = .sl (y.image.imports.map Import.enc) := fun _ => rfl
  have b1 := loaded_19 y
  have b1' := loaded_19' y
  have t1 := loaded_20 y
  have t1' := loaded_20' y
  by_cases k1 : f.kind = 1
  · have hs : fixOf l im y f = boundOf y f (wrapU (wordOf y.image f.address + wrapU y.bias)) := by unfold fixOf; rw [if_pos k1]
    rw [hs]
    unfold binderD intsD
    refine rcall_of hmix [] Tryz.func130 (by kernel_rfl) rfl (by simp [Tryz.f130]) ?_
    simp -dsimp [Tryz.f130, hy, hy', himl, hagl.len, hagl.ld, hagl.mkT, hagl.flats, hagl.mk, htake, Fixup.enc]
    refine callA hword ?_ rfl
    simp -dsimp [k1, hagl.len, b1, b1', t1, t1', resP, boundOf, Bound.enc, W, wrapU]
  · by_cases k4 : f.kind = 4
    · have hs : fixOf l im y f = boundOf y f (wrapU (wordOf y.image f.address + wrapU y.thread)) := by unfold fixOf; rw [if_neg k1, if_pos k4]
      rw [hs]
      unfold binderD intsD
      refine rcall_of hmix [] Tryz.func130 (by kernel_rfl) rfl (by simp [Tryz.f130]) ?_
      simp -dsimp [Tryz.f130, hy, hy', himl, hagl.len, hagl.ld, hagl.mkT, hagl.flats, hagl.mk, htake, Fixup.enc]
      refine callA hword ?_ rfl
      simp -dsimp [k4, hagl.len, b1, b1', t1, t1', resP, boundOf, Bound.enc, W, wrapU]
    · obtain ⟨hi0, hil⟩ : 0 ≤ f.imp ∧ f.imp < y.image.imports.length := by
        rcases hk with h | h | h
        · exact absurd h k1
        · exact absurd h k4
        · exact h
      obtain ⟨kp, hkp⟩ : ∃ kp : Nat, f.imp = kp := ⟨f.imp.toNat, by omega⟩
      have hkl : kp < y.image.imports.length := by omega
      obtain ⟨m, hm⟩ : ∃ m, y.image.imports[kp]? = some m := ⟨_, List.getElem?_eq_getElem hkl⟩
      have hm' : y.image.imports[kp] = m := (List.getElem?_eq_some_iff.1 hm).2
      have him : importAt y f.imp = m := by unfold importAt; rw [hkp, show ((kp : Nat) : Int).toNat = kp by omega, hm]
      have htg := target_c l hl hb hok im y hy kp m hm
      have hs : fixOf l im y f = if (targetOf l im y m).found = false ∧ m.weak = false then (⟨0, 0⟩, 15)
          else if (targetOf l im y m).found = true ∧ ¬ (targetOf l im y m).thread = decide (f.kind = 3) then (⟨0, 0⟩, 8)
          else boundOf y f (wrapU (W ((targetOf l im y m).value + f.addend))) := by unfold fixOf; rw [if_neg k1, if_neg k4, him]
      rw [hs]
      unfold binderD intsD at *
      generalize targetOf l im y m = t at *
      obtain ⟨tf, tt, tc, tv⟩ := t
      obtain ⟨mn, mv, mw, ms, mc, mz⟩ := m
      unfold Tgt.enc at htg
      refine rcall_of hmix [] Tryz.func130 (by kernel_rfl) rfl (by simp [Tryz.f130]) ?_
      simp -dsimp [Tryz.f130, hy, hy', himl, hagl.len, hagl.ld, hagl.mkT, hagl.flats, hagl.mk, htake, Fixup.enc]
      refine callA hword ?_ rfl
      simp -dsimp [k1, k4, hkp]
      refine callA htg ?_ rfl
      by_cases k3 : f.kind = 3
      all_goals
        cases tf <;> cases tt <;> cases mw
        all_goals
          simp -dsimp [k3, k1, k4, hkp, hagl.len, b1, b1', t1, t1', i5, i5', hkl, hm, hm', Import.enc]
          first | (simp [resP, boundOf, Bound.enc, W, wrapU]; done) | rfl | (simp [resP, boundOf, Bound.enc, W, wrapU, k3]; done)
end Go.Proofs.YtflpgdlgfffigaaGreat
