/- The words of fixups and slots. -/
import Derived.Test.YtflpgdlgfffigaaGreatCTarget
import Derived.Test.YtflpgdlgfffigaaGreatCWord
set_option linter.unusedSimpArgs false
set_option linter.unusedVariables false
namespace Go.Proofs.YtflpgdlgfffigaaGreat
open Go Go.Abs
set_option maxRecDepth 8000
set_option maxHeartbeats 4000000

def resP (r : Bound × Int) : PVal := .tup [.dat r.1.enc, .dat (.int .i64 r.2)]
theorem slot_c (l : List Loaded) (hl : Short l ∧ ∀ x ∈ l, x.WF) (hb : l.length * 384 ≤ 140737488355328) (hok : loadedF l = Fault.ok) (im : Nat) (y : Loaded) (hy : l[im]? = some y) (k : Nat) (m : Import) (hm : y.image.imports[k]? = some m) (lz : Bool) :
    RCall Tryz.prog 78 [.dat (binderD l), .dat (.int .i64 im), .dat (.int .i64 k), .dat (.bool lz)] (resP (slotOf l im y k m lz)) := by
  have htg := target_c l hl hb hok im y hy k m hm
  have himl : im < l.length := (List.getElem?_eq_some_iff.1 hy).1
  have hy' : l[im] = y := (List.getElem?_eq_some_iff.1 hy).2
  have hkl : k < y.image.imports.length := (List.getElem?_eq_some_iff.1 hm).1
  have hm' : y.image.imports[k] = m := (List.getElem?_eq_some_iff.1 hm).2
  have hagl := Loaded.ag y
  have i5 : y.enc.cells[5]? = some (.sl (y.image.imports.map Import.enc)) := rfl
  have i5' : ∀ h, y.enc.cells[5]'h = .sl (y.image.imports.map Import.enc) := fun _ => rfl
  have b1 := loaded_19 y
  have b1' := loaded_19' y
  have hcode := code_c im k
  have hs : slotOf l im y k m lz = if (targetOf l im y m).found = false ∧ m.weak = false then (⟨0, 0⟩, 15) else if (targetOf l im y m).thread = true then (⟨0, 0⟩, 8) else (⟨W (m.slot + y.bias), wrapU (if lz = true ∧ (targetOf l im y m).code = true then codeOf im k else (targetOf l im y m).value)⟩, 0) := rfl
  rw [hs]
  unfold binderD intsD at *
  generalize targetOf l im y m = t at *
  obtain ⟨tf, tt, tc, tv⟩ := t
  obtain ⟨mn, mv, mw, ms, mc, mz⟩ := m
  unfold Tgt.enc at htg
  simp only [Import.enc] at htg
  refine rcall_of hmix [] Tryz.func78 (by kernel_rfl) rfl (by simp [Tryz.f78]) ?_
  simp -dsimp [Tryz.f78, hy, hy', himl, hagl.len, hagl.ld, hagl.mkT, hagl.flats, hagl.mk, i5, i5', hm, hm', hkl, Import.enc]
  refine callA htg ?_ rfl
  cases tf <;> cases tt <;> cases tc <;> cases mw <;> cases lz
  all_goals
    simp -dsimp [hagl.len, b1, b1']
    (try refine callA hcode ?_ rfl)
    (try simp -dsimp [hagl.len, b1, b1'])
    first | (simp [resP, Bound.enc, W, wrapU]; done) | rfl
end Go.Proofs.YtflpgdlgfffigaaGreat
