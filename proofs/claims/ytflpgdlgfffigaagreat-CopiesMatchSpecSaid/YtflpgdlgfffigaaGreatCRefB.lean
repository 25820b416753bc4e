/- The references: elements of images. -/
import Derived.Test.YtflpgdlgfffigaaGreatCRefA
set_option linter.unusedSimpArgs false
set_option linter.unusedVariables false
namespace Go.Proofs.YtflpgdlgfffigaaGreat
open Go Go.Abs
set_option maxRecDepth 8000
set_option maxHeartbeats 4000000

theorem within4_c (i : Image) (hi : i.WF) (hs : ∀ s ∈ i.segments, SegIn s) (a z r : Int) (hz : 0 ≤ z) (hz2 : z ≤ 9223372036854775807) : RCall Tryz.prog 117 [.dat i.enc, .dat (.int .i64 a), .dat (.int .i64 z), .dat (.int .i64 r)] (.dat (.bool (within i a z r))) := by
  have hsl := hi.segments.1
  unfold Short at hsl
  have hag := Image.ag i
  have i2 : i.enc.cells[2]? = some (.sl (i.segments.map Segment.enc)) := rfl
  have i2' : ∀ h, i.enc.cells[2]'h = .sl (i.segments.map Segment.enc) := fun _ => rfl
  refine rcall_of hmix [] Tryz.func117 (by kernel_rfl) rfl (by simp [Tryz.f117]) ?_
  simp -dsimp [Tryz.f117, hag.len, hag.flats]
  refine awp_loopN i.segments.length (fun k s => s.t 9 = .dat (.int .i64 k) ∧ s.t 1 = .dat (.int .i64 a) ∧ s.t 2 = .dat (.int .i64 z) ∧ s.t 3 = .dat (.int .i64 r) ∧ s.t 4 = .cptr (i.enc.cells.map .dat) ∧ within i a z r = (i.segments.drop k).any (inSeg a z r)) ⟨by simp, by simp, by simp, by simp, by simp, by simp [within]⟩ ?_
  rintro k s hk ⟨h9, h1, h2, h3, h4, hrest⟩
  by_cases hlt : k < i.segments.length
  · have hw : IntKind.i64.wrap ((k : Int) + 1) = k + 1 := wrap_in (by omega) (by omega)
    obtain ⟨g, hg⟩ : ∃ g, i.segments[k]? = some g := ⟨_, List.getElem?_eq_getElem hlt⟩
    have hg' : i.segments[k] = g := (List.getElem?_eq_some_iff.1 hg).2
    have hdrop : i.segments.drop k = g :: i.segments.drop (k + 1) := by rw [← hg']; exact List.drop_eq_getElem_cons hlt
    rw [hdrop, List.any_cons] at hrest
    have hsg := hs g (List.mem_of_getElem? hg)
    unfold SegIn at hsg
    have hwe : IntKind.i64.wrap (g.address + g.size) = g.address + g.size := wrap_in (by omega) (by omega)
    have hseg : inSeg a z r g = (decide (andK .i64 g.rights r = r) && inB a g.address (g.address + g.size) && decide (z ≤ IntKind.i64.wrap (g.address + g.size - a))) := by
      unfold inSeg andI W inB
      rw [hwe]
      by_cases h1 : g.address ≤ a ∧ a ≤ g.address + g.size
      · have e1 : IntKind.i64.wrap (g.address + g.size - a) = g.address + g.size - a := wrap_in (by omega) (by omega)
        rw [e1, show IntKind.i64.wrap (g.address + g.size - z) = g.address + g.size - z from wrap_in (by omega) (by omega)]
        rw [Bool.eq_iff_iff]
        simp
        omega
      · rw [show IntKind.i64.wrap (g.address + g.size - z) = g.address + g.size - z from wrap_in (by omega) (by omega)]
        rw [Bool.eq_iff_iff]
        simp
        omega
    rw [hseg] at hrest
    simp -dsimp [h9, h1, h2, h3, h4, hlt, hag.len, i2, i2', hg, hg', Segment.enc]
    repeat' (first | (refine gif ?_ ?_ <;> intro h <;> (try simp only [Bool.not_eq_eq_eq_not, Bool.not_true, Bool.not_false, decide_eq_true_eq, decide_eq_false_iff_not] at h) <;> (try simp -dsimp [h, h9, h1, h2, h3, h4, hlt, hwe, hg, hg', hw])) | (refine And.intro (show orderOk _ _ = true by kernel_rfl) ?_) | (show orderOk _ _ = true; kernel_rfl) | (refine callA (in4_c _ _ _) ?_ rfl; simp -dsimp [h9, h1, h2, h3, h4, hlt, hwe, hg, hg', hw]))
    all_goals simp_all
  · have hkl : k = i.segments.length := by omega
    subst hkl
    simp -dsimp [h9, h1, h2, h3, h4, hag.len, i2, i2', hrest]

theorem segCode4_c (i : Image) (hi : i.WF) (k : Nat) (hk : k < i.segments.length) (e : Int) (he : match prev i.segments k with | none => e ≤ 0 | some p => SegIn p ∧ e = up256 (p.address + p.size)) : RCall Tryz.prog 116 [.dat i.enc, .dat (.int .i64 k)] (.dat (.int .i64 (segCode e (i.segments[k])))) := by
  obtain ⟨g, hg⟩ : ∃ g, i.segments[k]? = some g := ⟨_, List.getElem?_eq_getElem hk⟩
  have hg' : i.segments[k] = g := (List.getElem?_eq_some_iff.1 hg).2
  have hlen := hi.segments.1
  unfold Short at hlen
  have hgw := hi.segments.2 g (List.mem_of_getElem? hg)
  rw [hg']
  have hsz : g.size ≤ 1048576 → 1 ≤ g.size → IntKind.i64.wrap (1048576 - g.size) = 1048576 - g.size := fun h1 h2 => wrap_in (by omega) (by omega)
  rcases k with _ | j
  · rw [prev_zero] at he
    simp only at he
    by_cases hz : 1 ≤ g.size ∧ g.size ≤ 1048576
    · have hz' := hsz hz.2 hz.1
      refine rcall_of hmix [] Tryz.func116 (by kernel_rfl) rfl (by simp [Tryz.f116]) ?_
      simp -dsimp [Tryz.f116, hg, hg', hk, hz', Image.enc, Image.cells, Segment.enc]
      repeat' (first | (refine gif ?_ ?_ <;> intro h <;> (try simp only [Bool.not_eq_eq_eq_not, Bool.not_true, Bool.not_false, decide_eq_true_eq, decide_eq_false_iff_not] at h) <;> (try simp -dsimp [h, hz'])) | (refine And.intro (show orderOk _ _ = true by kernel_rfl) ?_) | (show orderOk _ _ = true; kernel_rfl) | (refine callA (in4_c _ _ _) ?_ rfl; simp -dsimp [hz']))
      all_goals (try simp only [inB_true, inB_false] at *)
      all_goals (unfold segCode; repeat' split <;> first | rfl | omega)
    · refine rcall_of hmix [] Tryz.func116 (by kernel_rfl) rfl (by simp [Tryz.f116]) ?_
      simp -dsimp [Tryz.f116, hg, hg', hk, Image.enc, Image.cells, Segment.enc]
      repeat' (first | (refine gif ?_ ?_ <;> intro h <;> (try simp only [Bool.not_eq_eq_eq_not, Bool.not_true, Bool.not_false, decide_eq_true_eq, decide_eq_false_iff_not] at h) <;> (try simp -dsimp [h])) | (refine And.intro (show orderOk _ _ = true by kernel_rfl) ?_) | (show orderOk _ _ = true; kernel_rfl) | (refine callA (in4_c _ _ _) ?_ rfl; simp -dsimp))
      all_goals (try simp only [inB_true, inB_false] at *)
      all_goals (unfold segCode; repeat' split <;> first | rfl | omega)
  · obtain ⟨p, hp⟩ : ∃ p, i.segments[j]? = some p := ⟨_, List.getElem?_eq_getElem (by omega)⟩
    have hj : j < i.segments.length := by omega
    have hp' : i.segments[j] = p := (List.getElem?_eq_some_iff.1 hp).2
    rw [prev_succ, hp] at he
    simp only at he
    obtain ⟨hsp, he⟩ := he
    unfold SegIn at hsp
    have hw : IntKind.i64.wrap (j : Int) = j := wrap_in (by omega) (by omega)
    have hn : ((j : Int) + 1).toNat = j + 1 := by omega
    have h0 : (0 : Int) < (j : Int) + 1 := by omega
    have h00 : (0 : Int) ≤ (j : Int) + 1 := by omega
    have hwe : IntKind.i64.wrap (p.address + p.size) = p.address + p.size := wrap_in (by omega) (by omega)
    have hpn : (0 : Int) ≤ p.address + p.size ∧ p.address + p.size ≤ 4194304 := by omega
    by_cases hz : 1 ≤ g.size ∧ g.size ≤ 1048576
    · have hz' := hsz hz.2 hz.1
      refine rcall_of hmix [] Tryz.func116 (by kernel_rfl) rfl (by simp [Tryz.f116]) ?_
      simp -dsimp [Tryz.f116, hg, hg', hk, hp, hp', hj, hw, hn, h0, h00, hwe, hz', Image.enc, Image.cells, Segment.enc]
      repeat' (first | (refine gif ?_ ?_ <;> intro h <;> (try simp only [Bool.not_eq_eq_eq_not, Bool.not_true, Bool.not_false, decide_eq_true_eq, decide_eq_false_iff_not] at h) <;> (try simp -dsimp [h, hg, hg', hk, hp, hp', hj, hw, hn, h0, h00, hwe, hz', Segment.enc])) | (refine And.intro (show orderOk _ _ = true by kernel_rfl) ?_) | (show orderOk _ _ = true; kernel_rfl) | (refine callA (in4_c _ _ _) ?_ rfl; simp -dsimp [hg, hg', hk, hp, hp', hj, hw, hn, h0, h00, hwe, hz', Segment.enc]) | (refine callA (round_c _ hpn) ?_ rfl; simp -dsimp [hg, hg', hk, hp, hp', hj, hw, hn, h0, h00, hwe, hz', Segment.enc]))
      all_goals (try simp only [inB_true, inB_false] at *)
      all_goals (unfold segCode; repeat' split <;> first | rfl | omega)
    · refine rcall_of hmix [] Tryz.func116 (by kernel_rfl) rfl (by simp [Tryz.f116]) ?_
      simp -dsimp [Tryz.f116, hg, hg', hk, hp, hp', hj, hw, hn, h0, h00, hwe, Image.enc, Image.cells, Segment.enc]
      repeat' (first | (refine gif ?_ ?_ <;> intro h <;> (try simp only [Bool.not_eq_eq_eq_not, Bool.not_true, Bool.not_false, decide_eq_true_eq, decide_eq_false_iff_not] at h) <;> (try simp -dsimp [h, hg, hg', hk, hp, hp', hj, hw, hn, h0, h00, hwe, Segment.enc])) | (refine And.intro (show orderOk _ _ = true by kernel_rfl) ?_) | (show orderOk _ _ = true; kernel_rfl) | (refine callA (in4_c _ _ _) ?_ rfl; simp -dsimp [hg, hg', hk, hp, hp', hj, hw, hn, h0, h00, hwe, Segment.enc]) | (refine callA (round_c _ hpn) ?_ rfl; simp -dsimp [hg, hg', hk, hp, hp', hj, hw, hn, h0, h00, hwe, Segment.enc]))
      all_goals (try simp only [inB_true, inB_false] at *)
      all_goals (unfold segCode; repeat' split <;> first | rfl | omega)
end Go.Proofs.YtflpgdlgfffigaaGreat
