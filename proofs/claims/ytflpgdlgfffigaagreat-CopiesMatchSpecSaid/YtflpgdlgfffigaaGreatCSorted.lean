/- The order of initialization. -/
import Derived.Test.YtflpgdlgfffigaaGreatCoreC
import Derived.Test.YtflpgdlgfffigaaGreatCOrder
set_option linter.unusedSimpArgs false
set_option linter.unusedVariables false
namespace Go.Proofs.YtflpgdlgfffigaaGreat
open Go Go.Abs
set_option maxRecDepth 8000
set_option maxHeartbeats 4000000

theorem sorted1_c (out : List Int) (ho : Short out) (i : Int) : RCall Tryz.prog 124 [.dat (.int .i64 i), .cptr [.dat (intsD out)]] (.dat (.bool (hasI out i))) := by
  have h := contains_Int i out ho
  have he : (out.any fun y => decide (i = y)) = hasI out i := rfl
  rw [he] at h
  unfold intsD
  refine rcall_of hmix [] Tryz.func124 (by kernel_rfl) rfl (by simp [Tryz.f124]) ?_
  simp -dsimp [Tryz.f124]
  refine callA h ?_ rfl
  simp -dsimp
theorem sorted2_c (out : List Int) (ho : Short out) (k i : Int) : RCall Tryz.prog 125 [.dat (.int .i64 k), .cptr [.dat (.int .i64 i)], .cptr [.fn 124 [.cptr [.dat (intsD out)]]]] (.dat (.bool (!decide (k = i) && !hasI out k))) := by
  have hdone := sorted1_c out ho k
  unfold intsD at *
  refine rcall_of hmix [] Tryz.func125 (by kernel_rfl) rfl (by simp [Tryz.f125]) ?_
  simp -dsimp [Tryz.f125]
  repeat' (first | (refine gif ?_ ?_ <;> intro h <;> (try simp only [Bool.not_eq_eq_eq_not, Bool.not_true, Bool.not_false, decide_eq_true_eq, decide_eq_false_iff_not] at h) <;> (try simp -dsimp [h])) | (refine And.intro (show orderOk _ _ = true by kernel_rfl) ?_) | (show orderOk _ _ = true; kernel_rfl) | (refine callA hdone ?_ rfl; simp -dsimp))
  all_goals first | (simp [*]; done) | simp_all
theorem nf_done : nilFn Tryz.prog 107 = true := by kernel_rfl

theorem sorted_c (needs : List (List Int)) (hn : needs.length ≤ 1000) (hrow : ∀ row ∈ needs, row.length ≤ 1000) : RCall Tryz.prog 64 [.dat (rowsD needs)] (.dat (intsD (sortedF needs))) := by
  unfold rowsD
  refine rcall_of hmix [] Tryz.func64 (by kernel_rfl) rfl (by simp [Tryz.f64]) ?_
  simp -dsimp [Tryz.f64, nf_done]
  refine awp_loopN needs.length (fun k s => s.t 0 = .dat (.sl (needs.map intsD)) ∧ s.t 3 = .bptr 3 0 ∧ s.t 4 = .bptr 4 0 ∧ s.h 4 = some [.fn 124 [.bptr 3 0]] ∧ ∃ p, s.h 3 = some [p] ∧ Grows [38] 3 p (sortedFrom needs k [])) ⟨by simp, by simp, by simp, by simp, .nilS, by simp, .inl ⟨rfl, rfl⟩⟩ ?_
  rintro k s hk ⟨h0, h3, h4, hh4, p, hh3, hgr⟩
  have hsucc := sortedFrom_succ needs k []
  have hlen := sortedFrom_len needs k []
  simp only [List.length_nil, Nat.zero_add] at hlen
  have hfin : sortedF needs = sortedFrom needs needs.length [] := rfl
  by_cases hlt : k < needs.length
  · generalize sortedFrom needs k [] = out at *
    have hos : Short out := by unfold Short; omega
    have b1 : (k + 1) * 8 ≤ 140737488355328 := by omega
    have b2 : k + 1 ≤ 9223372036854775807 := by omega
    rcases hgr with ⟨ho, rfl⟩ | ⟨d, hd, rfl⟩
    · skip
      have hlen' : (out.map (Dat.int .i64)).length = k := by simp [hlen]
      have h1c := fun i => sorted1_c out hos i
      have h2c := fun i j => sorted2_c out hos i j
      have hclo : ∀ i : Int, Closed [.cptr [.dat (.int .i64 i)], .cptr [.fn 124 [.cptr [.dat (intsD out)]]]] := fun i => by unfold Closed; simp
      have hany := fun (i : Nat) (row : List Int) (hr : row.length ≤ 1000) => containsFunc_Int (fun k => !decide (k = (i : Int)) && !hasI out k) _ _ (hclo i) row (by unfold Short; omega) (fun k _ => h2c k i)
      subst ho
      have hk0 : k = 0 := by simpa using hlen.symm
      subst hk0
      simp only [intsD, List.map_nil] at h1c hany
      simp -dsimp [h0, h3, h4, hh4, hh3, hlen, hlt]
      refine awp_loopN needs.length (fun j s => s.t 17 = .dat (.int .i64 j) ∧ s.t 16 = .dat (.int .i64 needs.length) ∧ s.t 15 = .dat (.sl (needs.map intsD)) ∧ s.t 0 = .dat (.sl (needs.map intsD)) ∧ s.t 3 = .bptr 3 0 ∧ s.t 4 = .bptr 4 0 ∧ s.h 4 = some [.fn 124 [.bptr 3 0]] ∧ s.h 3 = some [.nilS] ∧ ∃ w, s.t 5 = .dat (.int .i64 w) ∧ pick needs [] = pickFrom needs [] (needs.length - j) j w)
        ⟨by simp, by simp, by simp, by simp [h0], by simp [h3], by simp [h4], by simp [hh4], by simp [hh3], -1, by simp, rfl⟩ ?_
      clear h0 h3 h4 hh4 hh3
      rintro j s1 hj ⟨h17, h16, h15, h0, h3, h4, hh4, hh3, w, h5, hpk⟩
      by_cases hjl : j < needs.length
      · have hwj : IntKind.i64.wrap ((j : Int) + 1) = j + 1 := wrap_in (by omega) (by omega)
        obtain ⟨row, hr⟩ : ∃ row, needs[j]? = some row := ⟨_, List.getElem?_eq_getElem hjl⟩
        have hr' : needs[j] = row := (List.getElem?_eq_some_iff.1 hr).2
        have hrl := hrow row (List.mem_of_getElem? hr)
        have hnj : needs.length - j = (needs.length - (j + 1)) + 1 := by omega
        rw [hnj] at hpk
        have hrd : readyB needs [] j = !(row.any fun k => !decide (k = (j : Int)) && !hasI [] k) := by unfold readyB; rw [hr]
        have hcj := h1c j
        have hanyj := hany j row hrl
        rw [← Bool.not_not (row.any fun k => !decide (k = (j : Int)) && !hasI [] k), ← hrd] at hanyj
        simp -dsimp [h17, h16, h15, h0, h3, h4, hh4, hh3, h5, hjl, hr, hr', intsD]
        refine callA hcj ?_ rfl
        cases hh : hasI [] (j : Int)
        · simp -dsimp [h17, h16, h15, h0, h3, h4, hh4, hh3, h5]
          refine callA hanyj ?_ rfl
          cases hrb : readyB needs [] j
          · rw [pick_step_not hh hrb] at hpk
            simp -dsimp [h17, h16, h15, h0, h3, h4, hh4, hh3, h5]
            refine gif ?_ ?_
            · intro hw0
              simp at hw0
              rw [if_pos hw0] at hpk
              simp -dsimp [h17, h16, h15, h0, h3, h4, hh4, hh3, h5, hwj, hjl, hpk]
            · intro hw0
              simp at hw0
              rw [if_neg (by omega)] at hpk
              simp -dsimp [h17, h16, h15, h0, h3, h4, hh4, hh3, h5, hwj, hjl, hpk]
          · rw [pick_step_ready hh hrb] at hpk
            simp -dsimp [h17, h16, h15, h0, h3, h4, hh4, hh3, h5, hlen, b1, b2, hlt, hsucc, hpk]
            exact .inr ⟨38, by simp, by simp⟩
        · rw [pick_step_done hh] at hpk
          simp -dsimp [h17, h16, h15, h0, h3, h4, hh4, hh3, h5, hwj, hjl, hpk]
      · have hkl : j = needs.length := by omega
        subst hkl
        rw [Nat.sub_self] at hpk
        have hpk : pick needs [] = w := hpk
        simp -dsimp [h17, h16, h15, h0, h3, h4, hh4, hh3, h5, hlen, b1, b2, hlt, hsucc, hpk]
        exact .inr ⟨38, by simp, by simp⟩
    · simp only [List.mem_singleton] at hd
      subst hd
      have hlen' : (out.map (Dat.int .i64)).length = k := by simp [hlen]
      have h1c := fun i => sorted1_c out hos i
      have h2c := fun i j => sorted2_c out hos i j
      have hclo : ∀ i : Int, Closed [.cptr [.dat (.int .i64 i)], .cptr [.fn 124 [.cptr [.dat (intsD out)]]]] := fun i => by unfold Closed; simp
      have hany := fun (i : Nat) (row : List Int) (hr : row.length ≤ 1000) => containsFunc_Int (fun k => !decide (k = (i : Int)) && !hasI out k) _ _ (hclo i) row (by unfold Short; omega) (fun k _ => h2c k i)
      simp only [intsD, List.map_nil] at h1c hany
      simp -dsimp [h0, h3, h4, hh4, hh3, hlen, hlt]
      refine awp_loopN needs.length (fun j s => s.t 17 = .dat (.int .i64 j) ∧ s.t 16 = .dat (.int .i64 needs.length) ∧ s.t 15 = .dat (.sl (needs.map intsD)) ∧ s.t 0 = .dat (.sl (needs.map intsD)) ∧ s.t 3 = .bptr 3 0 ∧ s.t 4 = .bptr 4 0 ∧ s.h 4 = some [.fn 124 [.bptr 3 0]] ∧ s.h 3 = some [.ow 38 3 1 (out.map (.int .i64))] ∧ ∃ w, s.t 5 = .dat (.int .i64 w) ∧ pick needs out = pickFrom needs out (needs.length - j) j w)
        ⟨by simp, by simp, by simp, by simp [h0], by simp [h3], by simp [h4], by simp [hh4], by simp [hh3], -1, by simp, rfl⟩ ?_
      clear h0 h3 h4 hh4 hh3
      rintro j s1 hj ⟨h17, h16, h15, h0, h3, h4, hh4, hh3, w, h5, hpk⟩
      by_cases hjl : j < needs.length
      · have hwj : IntKind.i64.wrap ((j : Int) + 1) = j + 1 := wrap_in (by omega) (by omega)
        obtain ⟨row, hr⟩ : ∃ row, needs[j]? = some row := ⟨_, List.getElem?_eq_getElem hjl⟩
        have hr' : needs[j] = row := (List.getElem?_eq_some_iff.1 hr).2
        have hrl := hrow row (List.mem_of_getElem? hr)
        have hnj : needs.length - j = (needs.length - (j + 1)) + 1 := by omega
        rw [hnj] at hpk
        have hrd : readyB needs out j = !(row.any fun k => !decide (k = (j : Int)) && !hasI out k) := by unfold readyB; rw [hr]
        have hcj := h1c j
        have hanyj := hany j row hrl
        rw [← Bool.not_not (row.any fun k => !decide (k = (j : Int)) && !hasI out k), ← hrd] at hanyj
        simp -dsimp [h17, h16, h15, h0, h3, h4, hh4, hh3, h5, hjl, hr, hr', intsD]
        refine callA hcj ?_ rfl
        cases hh : hasI out (j : Int)
        · simp -dsimp [h17, h16, h15, h0, h3, h4, hh4, hh3, h5]
          refine callA hanyj ?_ rfl
          cases hrb : readyB needs out j
          · rw [pick_step_not hh hrb] at hpk
            simp -dsimp [h17, h16, h15, h0, h3, h4, hh4, hh3, h5]
            refine gif ?_ ?_
            · intro hw0
              simp at hw0
              rw [if_pos hw0] at hpk
              simp -dsimp [h17, h16, h15, h0, h3, h4, hh4, hh3, h5, hwj, hjl, hpk]
            · intro hw0
              simp at hw0
              rw [if_neg (by omega)] at hpk
              simp -dsimp [h17, h16, h15, h0, h3, h4, hh4, hh3, h5, hwj, hjl, hpk]
          · rw [pick_step_ready hh hrb] at hpk
            simp -dsimp [h17, h16, h15, h0, h3, h4, hh4, hh3, h5, hlen, b1, b2, hlt, hsucc, hpk]
            exact .inr ⟨38, by simp, by simp⟩
        · rw [pick_step_done hh] at hpk
          simp -dsimp [h17, h16, h15, h0, h3, h4, hh4, hh3, h5, hwj, hjl, hpk]
      · have hkl : j = needs.length := by omega
        subst hkl
        rw [Nat.sub_self] at hpk
        have hpk : pick needs out = w := hpk
        simp -dsimp [h17, h16, h15, h0, h3, h4, hh4, hh3, h5, hlen, b1, b2, hlt, hsucc, hpk]
        exact .inr ⟨38, by simp, by simp⟩
  · have hkl : k = needs.length := by omega
    subst hkl
    rw [hfin]
    rcases hgr with ⟨ho, rfl⟩ | ⟨d, hd, rfl⟩
    · rw [ho] at hlen
      simp -dsimp [h0, h3, h4, hh4, hh3, ho, ← hlen, intsD, sortedFrom]
    · simp -dsimp [h0, h3, h4, hh4, hh3, hlen, intsD]
end Go.Proofs.YtflpgdlgfffigaaGreat
