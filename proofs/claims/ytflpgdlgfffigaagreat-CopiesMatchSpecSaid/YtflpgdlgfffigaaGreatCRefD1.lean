/- The references: type records. -/
import Derived.Test.YtflpgdlgfffigaaGreatCRefA
set_option linter.unusedSimpArgs false
set_option linter.unusedVariables false
namespace Go.Proofs.YtflpgdlgfffigaaGreat
open Go Go.Abs
set_option maxRecDepth 8000
set_option maxHeartbeats 4000000

theorem typeOne_size {l : List TypeR} {i : Nat} {t : TypeR} (h : typeOne l i t = 0) : 0 ≤ t.size ∧ t.size ≤ 1000000 := by
  unfold typeOne at h
  repeat' split at h
  all_goals first | omega | (simp at h; done)

theorem typeCode2_4 (l : List TypeR) (hl : Short l ∧ ∀ t ∈ l, t.WF) (i : Nat) (t : TypeR) (ht : l[i]? = some t) (hpre : ∀ j, j < i → typeCode l j = 0) (hk4 : t.kind = 4) : RCall Tryz.prog 122 [.dat (.sl (l.map TypeR.enc)), .dat (.int .i64 i)] (.dat (.int .i64 (typeOne l i t))) := by
  have hil : i < l.length := (List.getElem?_eq_some_iff.1 ht).1
  have htw : t.WF := hl.2 t (List.mem_of_getElem? ht)
  have hfl := htw.2.2.2.2.2.1
  have hll := hl.1
  unfold Short at hfl hll
  have hi' : l[i] = t := (List.getElem?_eq_some_iff.1 ht).2
  have hlw : IntKind.i64.wrap ((l.length : Int) - 1) = l.length - 1 := wrap_in (by omega) (by omega)
  have hiw : IntKind.i64.wrap ((i : Int) - 1) = i - 1 := wrap_in (by omega) (by omega)
  have hsz : ∀ n : Int, 0 ≤ n → n < i → ∃ tx, l[n.toNat]? = some tx ∧ 0 ≤ tx.size ∧ tx.size ≤ 1000000 := by
    intro n h0 h1
    obtain ⟨tx, htx⟩ : ∃ tx, l[n.toNat]? = some tx := ⟨_, List.getElem?_eq_getElem (by omega)⟩
    have := hpre n.toNat (by omega)
    unfold typeCode at this
    rw [htx] at this
    exact ⟨tx, htx, typeOne_size this⟩
  have hkb : inB 4 1 4 = true := by decide
  refine rcall_of hmix [] Tryz.func122 (by kernel_rfl) rfl (by simp [Tryz.f122]) ?_
  simp -dsimp [Tryz.f122, ht, hi', hil, hk4, TypeR.enc]
  repeat' (first | (refine gif ?_ ?_ <;> intro h <;> (try simp only [Bool.not_eq_eq_eq_not, Bool.not_true, Bool.not_false, decide_eq_true_eq, decide_eq_false_iff_not] at h) <;> (try simp -dsimp [h, hk4, hlw, TypeR.enc])) | (refine And.intro (show orderOk _ _ = true by kernel_rfl) ?_) | (show orderOk _ _ = true; kernel_rfl) | (refine callA (in1_c _ _ _) ?_ rfl; simp -dsimp [hk4, hlw, hkb]) | (refine callA (name1_c _ htw.2.1) ?_ rfl; simp -dsimp [hk4, hlw]))
  all_goals (try simp only [inB_true, inB_false] at *)
  all_goals first
    | (show (_ : Int) = _; clear hpre hsz hl hi'; unfold typeOne; (repeat' split) <;> first | rfl | omega | (simp_all; done) | (simp_all; omega))
    | skip
  all_goals
    have hlp : typeOne l i t = firstC ((List.range t.fields.length).map (fieldCode l i t)) := by
      clear hpre hsz hl hi'
      unfold typeOne
      (repeat' split) <;> first | rfl | omega | (simp_all; done) | (simp_all; omega)
    have htz : 0 ≤ t.size ∧ t.size ≤ 1000000 := by omega
    rw [hlp]
    refine awp_loopN t.fields.length (fun k s => s.t 7 = .dat (.int .i64 k) ∧ s.t 6 = .dat (.int .i64 (fieldEnd l (prev t.fields k))) ∧ s.t 0 = .dat (.sl (l.map TypeR.enc)) ∧ s.t 1 = .dat (.int .i64 i) ∧ s.t 5 = .bptr 5 0 ∧ (∃ kd nm b c, s.h 5 = some [.dat kd, .dat nm, .dat (.int .i64 t.size), .dat b, .dat c, .dat (.sl (t.fields.map FieldR.enc))]) ∧ firstC ((List.range t.fields.length).map (fieldCode l i t)) = firstC (((List.range t.fields.length).map (fieldCode l i t)).drop k)) ⟨by simp, by simp [prev_zero, fieldEnd], by simp, by simp, by simp, ⟨_, _, _, _, rfl⟩, by simp⟩ ?_
    rintro k s hk ⟨h7, h6, h0, h1, h5, ⟨kd, nm, b, c, hh5⟩, hrest⟩
    by_cases hlt : k < t.fields.length
    · have hw : IntKind.i64.wrap ((k : Int) + 1) = k + 1 := wrap_in (by omega) (by omega)
      obtain ⟨x, hx⟩ : ∃ x, t.fields[k]? = some x := ⟨_, List.getElem?_eq_getElem hlt⟩
      have hx' : t.fields[k] = x := (List.getElem?_eq_some_iff.1 hx).2
      have hxw : x.WF := htw.2.2.2.2.2.2 x (List.mem_of_getElem? hx)
      have hxo := hxw.2.2
      unfold I64 at hxo
      have hfc : fieldCode l i t k = fieldOne l i t k x := by unfold fieldCode; rw [hx]
      rw [drop_rangeMap _ hlt, hfc] at hrest
      simp -dsimp [h7, h6, h0, h1, h5, hh5, hlt, hx, hx', FieldR.enc]
      refine callA (name1_c _ hxw.1) ?_ rfl
      cases hnx : isName x.name
      · have hone : fieldOne l i t k x = 12 := by unfold fieldOne; rw [if_pos hnx]
        rw [hone, firstC_ne (by decide)] at hrest
        simp -dsimp [h7, h6, h0, h1, h5, hh5, hrest]
      · simp -dsimp [h7, h6, h0, h1, h5, hh5]
        refine awp_loopN k (fun j s => s.t 9 = .dat (.int .i64 j) ∧ s.t 7 = .dat (.int .i64 k) ∧ s.t 6 = .dat (.int .i64 (fieldEnd l (prev t.fields k))) ∧ s.t 0 = .dat (.sl (l.map TypeR.enc)) ∧ s.t 1 = .dat (.int .i64 i) ∧ s.t 5 = .bptr 5 0 ∧ s.h 5 = some [.dat kd, .dat nm, .dat (.int .i64 t.size), .dat b, .dat c, .dat (.sl (t.fields.map FieldR.enc))] ∧ s.t 8 = .bptr 8 0 ∧ s.h 8 = some [.dat (.str x.name), .dat (.int .i64 x.type), .dat (.int .i64 x.offset)] ∧ (∀ y ∈ t.fields.take j, ¬ y.name = x.name)) ⟨by simp, by simp [h7], by simp [h6], by simp [h0], by simp [h1], by simp [h5], by simp [hh5], by simp, by simp, by simp⟩ ?_
        clear h7 h6 h0 h1 h5 hh5
        rintro j s hj ⟨h9, h7, h6, h0, h1, h5, hh5, h8, hh8, hnone⟩
        by_cases hjk : j < k
        · have hwj : IntKind.i64.wrap ((j : Int) + 1) = j + 1 := wrap_in (by omega) (by omega)
          have hjl : j < t.fields.length := by omega
          obtain ⟨y, hy⟩ : ∃ y, t.fields[j]? = some y := ⟨_, List.getElem?_eq_getElem hjl⟩
          have hy' : t.fields[j] = y := (List.getElem?_eq_some_iff.1 hy).2
          by_cases hyx : y.name = x.name
          · have hall : (t.fields.take k).any (fun y => decide (y.name = x.name)) = true := by
              rw [List.any_eq_true]
              exact ⟨y, List.mem_take_iff_getElem.2 ⟨j, by omega, hy'⟩, by simp [hyx]⟩
            have hone : fieldOne l i t k x = 7 := by unfold fieldOne; rw [if_neg (by simp [hnx]), if_pos hall]
            rw [hone, firstC_ne (by decide)] at hrest
            simp -dsimp [h9, h7, h6, h0, h1, h5, hh5, h8, hh8, hjk, hjl, hy, hy', FieldR.enc, hyx, hrest]
            first | (show orderOk _ _ = true; kernel_rfl) | (refine ⟨show orderOk _ _ = true by kernel_rfl, ?_⟩; simp)
          · have htake : t.fields.take (j + 1) = t.fields.take j ++ [y] := by rw [List.take_succ_eq_append_getElem hjl, hy']
            simp -dsimp [h9, h7, h6, h0, h1, h5, hh5, h8, hh8, hjk, hjl, hy, hy', FieldR.enc, hyx, hwj]
            refine ⟨by kernel_rfl, ?_⟩
            rw [htake]; intro z hz; rcases List.mem_append.1 hz with hz | hz
            · exact hnone z hz
            · simp at hz; subst hz; exact hyx
        · have hjk' : j = k := by omega
          subst hjk'
          have hany : (t.fields.take j).any (fun y => decide (y.name = x.name)) = false := by
            rw [List.any_eq_false]; intro z hz; simpa using hnone z hz
          simp -dsimp [h9, h7, h6, h0, h1, h5, hh5, h8, hh8, hiw]
          refine callA (in1_c _ _ _) ?_ rfl
          by_cases hty : 0 ≤ x.type ∧ x.type < i
          · have hin : inB x.type 0 ((i : Int) - 1) = true := inB_true.2 (by omega)
            obtain ⟨tx, htx, hz0, hz1⟩ := hsz x.type hty.1 hty.2
            have htl : x.type.toNat < l.length := by omega
            have htx' : l[x.type.toNat] = tx := (List.getElem?_eq_some_iff.1 htx).2
            have hsa : sizeAt l x.type = tx.size := by unfold sizeAt; rw [htx]
            have hty1 := hty.1
            have hone : fieldOne l i t j x = if x.offset < fieldEnd l (prev t.fields j) ∨ 2000000 < x.offset ∨ t.size < IntKind.i64.wrap (x.offset + tx.size) then 5 else 0 := by
              unfold fieldOne
              rw [if_neg (by simp [hnx]), if_neg (by simp [hany]), if_neg (by omega), hsa]
              unfold W
              by_cases ho : x.offset ≤ 2000000 ∧ -2000000 ≤ x.offset
              · rw [wrap_in (n := x.offset + tx.size) (by omega) (by omega)]
                (repeat' split) <;> first | rfl | omega
              · by_cases ho2 : 2000000 < x.offset
                · rw [if_pos (by omega), if_pos (by omega)]
                · rw [wrap_in (n := x.offset + tx.size) (by omega) (by omega)]
                  (repeat' split) <;> first | rfl | omega
            rw [hone] at hrest
            generalize fieldEnd l (prev t.fields j) = fe at *
            simp -dsimp [h7, h6, h0, h1, h5, hh5, h8, hh8, hin, hty1, htx, htx', htl, TypeR.enc]
            by_cases b1 : x.offset < fe
            · rw [if_pos (by omega), firstC_ne (by decide)] at hrest
              simp -dsimp [h7, h6, h0, h1, h5, hh5, h8, hh8, b1, hrest, hin, hty1, htx, htx', htl, TypeR.enc]
              first | done | (show orderOk _ _ = true; kernel_rfl) | (refine ⟨show orderOk _ _ = true by kernel_rfl, ?_⟩; simp)
            · by_cases b2 : 2000000 < x.offset
              · rw [if_pos (by omega), firstC_ne (by decide)] at hrest
                simp -dsimp [h7, h6, h0, h1, h5, hh5, h8, hh8, b1, b2, hrest, hin, hty1, htx, htx', htl, TypeR.enc]
                first | done | (show orderOk _ _ = true; kernel_rfl) | (refine ⟨show orderOk _ _ = true by kernel_rfl, ?_⟩; simp)
              · by_cases b3 : t.size < IntKind.i64.wrap (x.offset + tx.size)
                · rw [if_pos (by omega), firstC_ne (by decide)] at hrest
                  simp -dsimp [h7, h6, h0, h1, h5, hh5, h8, hh8, b1, b2, b3, hrest, hin, hty1, htx, htx', htl, TypeR.enc]
                  first | done | (show orderOk _ _ = true; kernel_rfl) | (refine ⟨show orderOk _ _ = true by kernel_rfl, ?_⟩; simp)
                · rw [if_neg (by omega), firstC_zero rfl] at hrest
                  have hfe : fieldEnd l (prev t.fields (j + 1)) = IntKind.i64.wrap (x.offset + tx.size) := by rw [prev_succ, hx]; simp [fieldEnd, hsa, W]
                  simp -dsimp [h7, h6, h0, h1, h5, hh5, h8, hh8, b1, b2, b3, hin, hty1, htx, htx', htl, TypeR.enc, hw, hlt, hfe]
                  repeat (refine ⟨show orderOk _ _ = true by kernel_rfl, ?_⟩)
                  exact hrest
          · have hin : inB x.type 0 ((i : Int) - 1) = false := by rw [inB_false]; omega
            have hone : fieldOne l i t j x = 3 := by unfold fieldOne; rw [if_neg (by simp [hnx]), if_neg (by simp [hany]), if_pos (by omega)]
            rw [hone, firstC_ne (by decide)] at hrest
            simp -dsimp [h7, h6, h0, h1, h5, hh5, h8, hh8, hin, hrest]
    · have hkl : k = t.fields.length := by omega
      subst hkl
      rw [drop_rangeMap_end] at hrest
      simp -dsimp [h7, h6, h0, h1, h5, hh5, hrest, firstC]
end Go.Proofs.YtflpgdlgfffigaaGreat
