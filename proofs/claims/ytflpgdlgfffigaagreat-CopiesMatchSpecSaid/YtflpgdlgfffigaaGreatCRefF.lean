/- The references: needs. -/
import Derived.Test.YtflpgdlgfffigaaGreatCRefF0
import Derived.Test.YtflpgdlgfffigaaGreatCRefA
set_option linter.unusedSimpArgs false
set_option linter.unusedVariables false
namespace Go.Proofs.YtflpgdlgfffigaaGreat
open Go Go.Abs
set_option maxRecDepth 8000
set_option maxHeartbeats 4000000

theorem needsFault_c (l : List Image) (hl : Short l ∧ ∀ x ∈ l, x.WF) : RCall Tryz.prog 15 [.dat (.sl (l.map Image.enc))] (.dat (needsFault l).enc) := by
  have hll := hl.1
  unfold Short at hll
  refine rcall_of hmix [] Tryz.func15 (by kernel_rfl) rfl (by simp [Tryz.f15]) ?_
  simp -dsimp [Tryz.f15]
  refine awp_loopN l.length (fun k s => s.t 3 = .dat (.int .i64 k) ∧ s.t 0 = .dat (.sl (l.map Image.enc)) ∧ s.t 2 = .bptr 2 0 ∧ s.h 2 = some [.dat (.int .i64 0), .dat (.int .i64 0)] ∧
    (∀ j y, j < k → l[j]? = some y → ∀ nm ∈ y.needs, 0 ≤ named l nm)) ⟨by simp, by simp, by simp, by simp, by omega⟩ ?_
  rintro k s hk ⟨h3, h0, h2, hh2, hpre⟩
  by_cases hlt : k < l.length
  · have hw : IntKind.i64.wrap ((k : Int) + 1) = k + 1 := wrap_in (by omega) (by omega)
    obtain ⟨x, hx⟩ : ∃ x, l[k]? = some x := ⟨_, List.getElem?_eq_getElem hlt⟩
    have hx' : l[k] = x := (List.getElem?_eq_some_iff.1 hx).2
    have hxw : x.WF := hl.2 x (List.mem_of_getElem? hx)
    have hnl := hxw.needs.1
    unfold Short at hnl
    have hag := Image.ag x
    have hnd : x.enc.cells[11]? = some (.sl (x.needs.map .str)) := rfl
    have hnd2 : ∀ h, x.enc.cells[11]'h = .sl (x.needs.map .str) := fun _ => rfl
    simp -dsimp [h3, h0, h2, hh2, hlt]
    refine awp_loopN x.needs.length (fun j s => s.t 4 = .dat (.int .i64 j) ∧ s.t 3 = .dat (.int .i64 k) ∧ s.t 0 = .dat (.sl (l.map Image.enc)) ∧ s.t 2 = .bptr 2 0 ∧ s.h 2 = some [.dat (.int .i64 0), .dat (.int .i64 0)] ∧ (∀ nm ∈ x.needs.take j, 0 ≤ named l nm))
      ⟨by simp, by simp [h3], by simp [h0], by simp [h2], by simp [hh2], by simp⟩ ?_
    clear h3 h0 h2 hh2
    rintro j s hj ⟨h4, h3, h0, h2, hh2, hpre2⟩
    by_cases hjl : j < x.needs.length
    · have hwj : IntKind.i64.wrap ((j : Int) + 1) = j + 1 := wrap_in (by omega) (by omega)
      obtain ⟨nm, hnm⟩ : ∃ nm, x.needs[j]? = some nm := ⟨_, List.getElem?_eq_getElem hjl⟩
      have hnm' : x.needs[j] = nm := (List.getElem?_eq_some_iff.1 hnm).2
      have htake : x.needs.take (j + 1) = x.needs.take j ++ [nm] := by rw [List.take_succ_eq_append_getElem hjl, hnm']
      simp -dsimp [h4, h3, h0, h2, hh2, hlt, hx, hx', hag.len, hnd, hnd2, hjl, hnm, hnm']
      refine callA (named6_c l hl.1 nm) ?_ rfl
      simp -dsimp [h4, h3, h0, h2, hh2]
      refine gif ?_ ?_
      · intro h
        simp at h
        have hmis := missing_some hx hpre (List.mem_of_getElem? hnm) h
        have hF : needsFault l = ⟨6, k⟩ := by unfold needsFault; rw [hmis]
        simp -dsimp [h4, h3, h0, h2, hh2, hF, Fault.enc]
        refine callA (at6_c _ _) ?_ rfl
        simp -dsimp [h4, h3, h0, h2, hh2]
      · intro h
        simp at h
        simp -dsimp [h4, h3, h0, h2, hh2, hwj, hjl]
        rw [htake]; intro a ha; rcases List.mem_append.1 ha with ha | ha
        · exact hpre2 a ha
        · simp at ha; subst ha; exact h
    · have hkl : j = x.needs.length := by omega
      subst hkl
      simp -dsimp [h4, h3, h0, h2, hh2, hlt, hx, hx', hag.len, hnd, hnd2, hw]
      intro i y hi hy
      by_cases e : i = k
      · subst e; rw [hx] at hy; injection hy with hy; subst hy; rw [List.take_length] at hpre2; exact hpre2
      · exact hpre i y (by omega) hy
  · have hkl : k = l.length := by omega
    subst hkl
    have hmis := missing_none hpre
    have hF : needsFault l = Fault.ok := by unfold needsFault; rw [hmis]
    simp -dsimp [h3, h0, h2, hh2, hF, Fault.enc, Fault.ok]
end Go.Proofs.YtflpgdlgfffigaaGreat
