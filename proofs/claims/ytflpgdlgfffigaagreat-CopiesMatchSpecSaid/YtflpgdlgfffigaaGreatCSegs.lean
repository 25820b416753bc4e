/- The segments of an image. -/
import Derived.Test.YtflpgdlgfffigaaGreatCWithin
set_option linter.unusedSimpArgs false
set_option linter.unusedVariables false
namespace Go.Proofs.YtflpgdlgfffigaaGreat
open Go Go.Abs
set_option maxRecDepth 8000
set_option maxHeartbeats 4000000

theorem segFault_c (c : Int) (i : Nat) (hi : i ≤ 1000) : RCall Tryz.prog 253 [.dat (.int .i64 c), .cptr [.dat (.int .i64 i)]] (.dat (Fault.enc ⟨c, 100 + i⟩)) := by
  have hw : IntKind.i64.wrap (100 + (i : Int)) = 100 + i := wrap_in (by omega) (by omega)
  refine rcall_of hmix [] Tryz.func253 (by kernel_rfl) rfl (by simp [Tryz.f253]) ?_
  simp -dsimp [Tryz.f253, hw]
  rfl

theorem segments_c (l : List Segment) (hs : Short l ∧ ∀ s ∈ l, s.WF) : RCall Tryz.prog 233 [.dat (.sl (l.map Segment.enc))] (.dat (segments l).enc) := by
  refine rcall_of hmix [] Tryz.func233 (by kernel_rfl) rfl (by simp [Tryz.f233]) ?_
  simp -dsimp [Tryz.f233]
  refine gif ?_ ?_
  · intro h
    simp at h
    simp -dsimp [segments, h, Fault.enc]
  · intro h
    simp at h
    simp -dsimp
    have hlen : segments l = segsFrom 0 0 l := by unfold segments; rw [if_neg (by omega)]
    refine awp_loop (fun s => ∃ (k : Nat) (e : Int), k ≤ l.length ∧ 0 ≤ e ∧ e ≤ 4194304 ∧ s.t 13 = .dat (.int .i64 k) ∧ s.t 12 = .dat (.int .i64 l.length) ∧ s.t 11 = .dat (.sl (l.map Segment.enc)) ∧ s.t 3 = .dat (.int .i64 e) ∧ s.t 2 = .bptr 2 0 ∧ s.h 2 = some [.dat (.int .i64 0), .dat (.int .i64 0)] ∧ segments l = segsFrom e k (l.drop k)) (fun s => l.length - natOf (s.t 13)) ⟨0, 0, by simp [hlen]⟩ ?_
    rintro s ⟨k, e, hk, he0, he, h13, h12, h11, h3, h2, hh2, hrest⟩
    by_cases hlt : k < l.length
    · have hw : IntKind.i64.wrap ((k : Int) + 1) = k + 1 := wrap_in (by omega) (by omega)
      obtain ⟨x, hx⟩ : ∃ x, l[k]? = some x := ⟨_, List.getElem?_eq_getElem hlt⟩
      have hx' : l[k] = x := (List.getElem?_eq_some_iff.1 hx).2
      have hdrop : l.drop k = x :: l.drop (k + 1) := by rw [← hx']; exact List.drop_eq_getElem_cons hlt
      rw [hdrop] at hrest
      have hxw : x.WF := hs.2 x (List.mem_of_getElem? hx)
      obtain ⟨w1, w2, w3, w4, w5⟩ := hxw
      unfold I64 at w1 w2 w3
      unfold Short at w4
      simp -dsimp [h13, h12, h11, h3, h2, hh2, hlt, hx, hx', x.ag.len, x.ag.ld, x.ag.mkT, Segment.enc]
      have wr : 1 ≤ x.size → x.size ≤ 1048576 → IntKind.i64.wrap (1048576 - x.size) = 1048576 - x.size := fun a b => wrap_in (by omega) (by omega)
      have wr2 : 1 ≤ x.size → x.size ≤ 1048576 → 0 ≤ x.address → x.address ≤ 1048576 - x.size → IntKind.i64.wrap (x.address + x.size) = x.address + x.size := fun a b c d => wrap_in (by omega) (by omega)
      have bad : segCode e x ≠ 0 → segments l = ⟨segCode e x, 100 + k⟩ := fun h => by rw [hrest]; unfold segsFrom; rw [if_neg h]
      have up0 : 0 ≤ x.address → 1 ≤ x.size → x.size ≤ 1048576 → x.address ≤ 1048576 - x.size → 0 ≤ up256 (x.address + x.size) ∧ up256 (x.address + x.size) ≤ 4194304 := by
        intro a b c d
        unfold up256
        have h4 : 0 ≤ (x.address + x.size + 256 - 1) / 256 := Int.ediv_nonneg (by omega) (by omega)
        have h5 : (x.address + x.size + 256 - 1) / 256 * 256 ≤ x.address + x.size + 256 - 1 := Int.ediv_mul_le _ (by omega)
        omega
      by_cases hz : 1 ≤ x.size ∧ x.size ≤ 1048576
      · have wz := wr hz.1 hz.2
        by_cases ha : 0 ≤ x.address ∧ x.address ≤ 1048576 - x.size
        · have wa := wr2 hz.1 hz.2 ha.1 ha.2
          repeat' (first | (refine gif ?_ ?_ <;> intro h <;> (try simp only [Bool.not_eq_eq_eq_not, Bool.not_true, Bool.not_false, decide_eq_true_eq, decide_eq_false_iff_not] at h) <;> (try simp -dsimp [h, h2, hh2, h3, wz, wa])) | (refine And.intro (show orderOk _ _ = true by kernel_rfl) ?_) | (show orderOk _ _ = true; kernel_rfl) | (refine callA (segFault_c _ k (by omega)) ?_ rfl; simp -dsimp [h2, hh2, h3, Fault.enc]) | (refine callA (thrUp_c _ _ (by omega) (by omega)) ?_ rfl; simp -dsimp [h2, hh2, h3, h13, h12, h11, hw]))
          all_goals first
            | (have hc : segCode e x = 3 := by unfold segCode; (repeat' split) <;> first | rfl | omega | simp_all
               rw [bad (by rw [hc]; decide), hc]; exact ⟨rfl, rfl⟩)
            | (have hc : segCode e x = 5 := by unfold segCode; (repeat' split) <;> first | rfl | omega | simp_all
               rw [bad (by rw [hc]; decide), hc]; exact ⟨rfl, rfl⟩)
            | (have hc : segCode e x = 9 := by unfold segCode; (repeat' split) <;> first | rfl | omega | simp_all
               rw [bad (by rw [hc]; decide), hc]; exact ⟨rfl, rfl⟩)
            | (have hc : segCode e x = 13 := by unfold segCode; (repeat' split) <;> first | rfl | omega | simp_all
               rw [bad (by rw [hc]; decide), hc]; exact ⟨rfl, rfl⟩)
            | omega
            | (have hc : segCode e x = 0 := by unfold segCode; (repeat' split) <;> first | rfl | omega | simp_all
               have hu := up0 ha.1 hz.1 hz.2 ha.2
               refine ⟨⟨k + 1, by omega, up256 (x.address + x.size), hu.1, hu.2, by simp, rfl, ?_⟩, by omega⟩
               rw [hrest]; show segsFrom e k (x :: l.drop (k + 1)) = _
               rw [segsFrom, if_pos hc])
        · skip
          repeat' (first | (refine gif ?_ ?_ <;> intro h <;> (try simp only [Bool.not_eq_eq_eq_not, Bool.not_true, Bool.not_false, decide_eq_true_eq, decide_eq_false_iff_not] at h) <;> (try simp -dsimp [h, h2, hh2, h3, wz])) | (refine And.intro (show orderOk _ _ = true by kernel_rfl) ?_) | (show orderOk _ _ = true; kernel_rfl) | (refine callA (segFault_c _ k (by omega)) ?_ rfl; simp -dsimp [h2, hh2, h3, Fault.enc]))
          all_goals first
            | (have hc : segCode e x = 3 := by unfold segCode; (repeat' split) <;> first | rfl | omega | simp_all
               rw [bad (by rw [hc]; decide), hc]; exact ⟨rfl, rfl⟩)
            | (have hc : segCode e x = 5 := by unfold segCode; (repeat' split) <;> first | rfl | omega | simp_all
               rw [bad (by rw [hc]; decide), hc]; exact ⟨rfl, rfl⟩)
            | (have hc : segCode e x = 9 := by unfold segCode; (repeat' split) <;> first | rfl | omega | simp_all
               rw [bad (by rw [hc]; decide), hc]; exact ⟨rfl, rfl⟩)
            | (have hc : segCode e x = 13 := by unfold segCode; (repeat' split) <;> first | rfl | omega | simp_all
               rw [bad (by rw [hc]; decide), hc]; exact ⟨rfl, rfl⟩)
            | omega
      · skip
        repeat' (first | (refine gif ?_ ?_ <;> intro h <;> (try simp only [Bool.not_eq_eq_eq_not, Bool.not_true, Bool.not_false, decide_eq_true_eq, decide_eq_false_iff_not] at h) <;> (try simp -dsimp [h, h2, hh2, h3])) | (refine And.intro (show orderOk _ _ = true by kernel_rfl) ?_) | (show orderOk _ _ = true; kernel_rfl) | (refine callA (segFault_c _ k (by omega)) ?_ rfl; simp -dsimp [h2, hh2, h3, Fault.enc]))
        all_goals first
            | (have hc : segCode e x = 3 := by unfold segCode; (repeat' split) <;> first | rfl | omega | simp_all
               rw [bad (by rw [hc]; decide), hc]; exact ⟨rfl, rfl⟩)
            | (have hc : segCode e x = 5 := by unfold segCode; (repeat' split) <;> first | rfl | omega | simp_all
               rw [bad (by rw [hc]; decide), hc]; exact ⟨rfl, rfl⟩)
            | (have hc : segCode e x = 9 := by unfold segCode; (repeat' split) <;> first | rfl | omega | simp_all
               rw [bad (by rw [hc]; decide), hc]; exact ⟨rfl, rfl⟩)
            | (have hc : segCode e x = 13 := by unfold segCode; (repeat' split) <;> first | rfl | omega | simp_all
               rw [bad (by rw [hc]; decide), hc]; exact ⟨rfl, rfl⟩)
            | omega
    · have hkl : k = l.length := by omega
      subst hkl
      simp -dsimp [h13, h12, h11, h3, h2, hh2]
      have : segments l = Fault.ok := by rw [hrest]; simp [segsFrom]
      rw [this]; rfl
end Go.Proofs.YtflpgdlgfffigaaGreat
