/- Scope: the order of search. -/
import Derived.Test.YtflpgdlgfffigaaGreatCFind
set_option linter.unusedSimpArgs false
set_option linter.unusedVariables false
namespace Go.Proofs.YtflpgdlgfffigaaGreat
open Go Go.Abs
set_option maxRecDepth 8000
set_option maxHeartbeats 4000000

def walkTo (needs : List (List Int)) (k : Nat) : List Int := (List.range k).foldl (walkRoot needs) []
theorem walkTo_succ (needs : List (List Int)) (k : Nat) : walkTo needs (k + 1) = walkRoot needs (walkTo needs k) k := by unfold walkTo; rw [List.range_succ, List.foldl_append]; rfl

theorem walk_c (needs : List (List Int)) (hn : needs.length ≤ 1000) (hrow : ∀ row ∈ needs, row.length ≤ 1000 ∧ ∀ v ∈ row, 0 ≤ v ∧ v < needs.length) : RCall Tryz.prog 52 [.dat (rowsD needs)] (.dat (intsD (walkF needs))) := by
  unfold rowsD
  refine rcall_of hmix [] Tryz.func52 (by kernel_rfl) rfl (by simp [Tryz.f52]) ?_
  simp -dsimp [Tryz.f52]
  refine awp_loopN needs.length (fun k s => s.t 10 = .dat (.int .i64 k) ∧ s.t 9 = .dat (.int .i64 needs.length) ∧ s.t 0 = .dat (.sl (needs.map intsD)) ∧ Grows [21, 47] 3 (s.t 3) (walkTo needs k) ∧ Nice needs.length (walkTo needs k)) ⟨by simp, by simp, by simp, .inl ⟨rfl, by simp⟩, nice_nil _⟩ ?_
  rintro k s hk ⟨h10, h9, h0, hgr, hnice⟩
  have hsucc := walkTo_succ needs k
  have holen := hnice.length
  by_cases hlt : k < needs.length
  · have hw : IntKind.i64.wrap ((k : Int) + 1) = k + 1 := wrap_in (by omega) (by omega)
    generalize walkTo needs k = out at hgr hnice holen hsucc
    have hshort : Short out := by unfold Short; omega
    have b1 : (out.length + 1) * 8 ≤ 140737488355328 := by omega
    have b2 : out.length + 1 ≤ 9223372036854775807 := by omega
    have hhas := contains_Int (k : Int) out hshort
    have hhe : (out.any fun y => decide ((k : Int) = y)) = hasI out k := rfl
    rw [hhe] at hhas
    by_cases hh : hasI out (k : Int) = true
    · have hst : walkRoot needs out k = out := by unfold walkRoot; rw [if_pos hh]
      rw [hh] at hhas
      rcases hgr with ⟨ho, h3⟩ | ⟨d, hd, h3⟩
      · subst ho; simp [hasI] at hh
      · simp -dsimp [h10, h9, h0, h3, hlt]
        refine callA hhas ?_ rfl
        simp -dsimp [h10, h9, h0, h3, hw, hlt, hsucc, hst]
        exact ⟨.inr ⟨d, hd, rfl⟩, hnice⟩
    · have hf : hasI out (k : Int) = false := by simpa using hh
      have hn1 := hnice.add (v := (k : Int)) (by omega) hf
      have hst : walkRoot needs out k = bfs needs (needs.length + 1) out.length (out ++ [(k : Int)]) := by unfold walkRoot; rw [if_neg hh]
      rw [hf] at hhas
      rcases hgr with ⟨ho, h3⟩ | ⟨d, hd, h3⟩
      all_goals
        (try rw [ho] at hhas)
        simp -dsimp [h10, h9, h0, h3, hlt]
        refine callA hhas ?_ rfl
        simp -dsimp [h10, h9, h0, h3, b1, b2]
        refine awp_loopN (needs.length + 1) (fun j s' => s'.t 10 = .dat (.int .i64 k) ∧ s'.t 9 = .dat (.int .i64 needs.length) ∧ s'.t 0 = .dat (.sl (needs.map intsD)) ∧ s'.t 5 = .dat (.int .i64 (out.length + j : Nat)) ∧ ∃ o d, s'.t 3 = .ow d 3 1 (o.map (.int .i64)) ∧ d ∈ [21, 47] ∧ Nice needs.length o ∧ out.length + j ≤ o.length ∧ walkRoot needs out k = bfs needs (needs.length + 1 - j) (out.length + j) o)
          ⟨by simp [h10], by simp [h9], by simp [h0], by (first | simp [ho] | simp), out ++ [(k : Int)], 21, by (first | simp [ho] | simp), by simp, hn1, by simp, by simpa using hst⟩ ?_
        clear h10 h9 h0 h3
        rintro j s1 hj ⟨h10, h9, h0, h5, o, d, h3, hd, hno, hle, hwalk⟩
        have hol := hno.length
        by_cases hfr : out.length + j < o.length
        · obtain ⟨i, hi⟩ : ∃ i, o[out.length + j]? = some i := ⟨_, List.getElem?_eq_getElem hfr⟩
          have hi' : o[out.length + j] = i := (List.getElem?_eq_some_iff.1 hi).2
          obtain ⟨hi0, hil⟩ := hno.2 i (List.mem_of_getElem? hi)
          obtain ⟨row, hr⟩ : ∃ row, needs[i.toNat]? = some row := ⟨_, List.getElem?_eq_getElem (by omega)⟩
          obtain ⟨hrl, hrv⟩ := hrow row (List.mem_of_getElem? hr)
          have hgetd : needs.getD i.toNat [] = row := by rw [List.getD_eq_getElem?_getD, hr]; rfl
          have hfz : ((out.length + j : Nat) : Int) < (o.length : Int) := by omega
          have hfw : IntKind.i64.wrap (((out.length + j : Nat) : Int) + 1) = ((out.length + (j + 1) : Nat) : Int) := by rw [wrap_in (by omega) (by omega)]; omega
          generalize hfrom : out.length + j = from_ at *
          simp -dsimp [h10, h9, h0, h5, h3, hfr, hi, hi', hi0, hr, intsD]
          refine awp_loopN row.length (fun m s' => s'.t 36 = .dat (.int .i64 m) ∧ s'.t 35 = .dat (.int .i64 row.length) ∧ s'.t 34 = .dat (.sl (row.map (.int .i64))) ∧ s'.t 10 = .dat (.int .i64 k) ∧ s'.t 9 = .dat (.int .i64 needs.length) ∧ s'.t 0 = .dat (.sl (needs.map intsD)) ∧ s'.t 5 = .dat (.int .i64 from_) ∧ (∃ d, s'.t 3 = .ow d 3 1 ((addAll o (row.take m)).map (.int .i64)) ∧ d ∈ [21, 47]) ∧ Nice needs.length (addAll o (row.take m)))
            ⟨by simp, by simp, by simp, by simp [h10], by simp [h9], by simp [h0], by simp [h5], ⟨d, by simp [h3, addAll], hd⟩, by simpa [addAll] using hno⟩ ?_
          clear h10 h9 h0 h5 h3 hd
          rintro m s2 hm ⟨h36, h35, h34, h10, h9, h0, h5, ⟨d, h3, hd⟩, hno2⟩
          have hol2 := hno2.length
          by_cases hml : m < row.length
          · have hwm : IntKind.i64.wrap ((m : Int) + 1) = m + 1 := wrap_in (by omega) (by omega)
            obtain ⟨v, hv⟩ : ∃ v, row[m]? = some v := ⟨_, List.getElem?_eq_getElem hml⟩
            have hv' : row[m] = v := (List.getElem?_eq_some_iff.1 hv).2
            have hvin := hrv v (List.mem_of_getElem? hv)
            have hadd := addAll_take (out := o) hv
            have hnx := addOne_nice hno2 hvin
            generalize addAll o (row.take m) = q at *
            have hqs : Short q := by unfold Short; omega
            have hcq := contains_Int v q hqs
            have hce : (q.any fun y => decide (v = y)) = hasI q v := rfl
            have q1 : (q.length + 1) * 8 ≤ 140737488355328 := by omega
            have q2 : q.length + 1 ≤ 9223372036854775807 := by omega
            rw [hce] at hcq
            simp -dsimp [h36, h35, h34, h10, h9, h0, h5, h3, hml, hv, hv']
            refine callA hcq ?_ rfl
            cases hq : hasI q v
            · have ha : addOne q v = q ++ [v] := by unfold addOne; rw [hq]; rfl
              rw [ha] at hnx
              simp -dsimp [h36, h35, h34, h10, h9, h0, h5, h3, q1, q2, hwm, hml, hadd, ha]
              exact hnx
            · have ha : addOne q v = q := by unfold addOne; rw [hq]; rfl
              simp -dsimp [h36, h35, h34, h10, h9, h0, h5, h3, hwm, hml, hadd, ha]
              exact ⟨by simpa using hd, hno2⟩
          · have hkl : m = row.length := by omega
            subst hkl
            rw [List.take_length] at h3 hno2
            have hj2 : needs.length + 1 - j = (needs.length + 1 - (j + 1)) + 1 := by omega
            rw [hj2, bfs_step hi, hgetd] at hwalk
            have hlen2 : from_ < (addAll o row).length := Nat.lt_of_lt_of_le hfr (addAll_len row o)
            simp -dsimp [h36, h35, h34, h10, h9, h0, h5, h3, hfw]
            exact ⟨by omega, addAll o row, d, ⟨rfl, rfl⟩, by simpa using hd, hno2, by omega, by rw [show out.length + (j + 1) = from_ + 1 by omega, show needs.length - j = needs.length + 1 - (j + 1) by omega]; exact hwalk⟩
        · have hst2 : walkRoot needs out k = o := by rw [hwalk]; exact bfs_stop (by omega)
          have hfz : ¬ ((out.length + j : Nat) : Int) < (o.length : Int) := by omega
          generalize hfrom : out.length + j = from_ at *
          simp -dsimp [h10, h9, h0, h5, h3, hfr, hw, hlt, hsucc, hst2]
          exact ⟨.inr ⟨d, hd, rfl⟩, hno⟩
  · have hkl : k = needs.length := by omega
    subst hkl
    have hfin : walkF needs = walkTo needs needs.length := rfl
    rcases hgr with ⟨ho, h3⟩ | ⟨d, hd, h3⟩
    · simp -dsimp [h10, h9, h0, h3, hfin, ho, intsD]
    · simp -dsimp [h10, h9, h0, h3, hfin, intsD]
end Go.Proofs.YtflpgdlgfffigaaGreat
