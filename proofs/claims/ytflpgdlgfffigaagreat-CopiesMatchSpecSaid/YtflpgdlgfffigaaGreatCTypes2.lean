/- Type records. -/
import Derived.Test.YtflpgdlgfffigaaGreatCoreB
import Derived.Test.YtflpgdlgfffigaaGreatCSegs
set_option linter.unusedSimpArgs false
set_option linter.unusedVariables false
namespace Go.Proofs.YtflpgdlgfffigaaGreat
open Go Go.Abs
set_option maxRecDepth 8000
set_option maxHeartbeats 4000000

theorem field1_c (y x : FieldR) : RCall Tryz.prog 265 [.dat y.enc, .cptr [.dat (.str x.name), .dat (.int .i64 x.type), .dat (.int .i64 x.offset)]] (.dat (.bool (decide (y.name = x.name)))) := by
  unfold FieldR.enc
  refine rcall_of hmix [] Tryz.func265 (by kernel_rfl) rfl (by simp [Tryz.f265]) ?_
  simp -dsimp [Tryz.f265]

theorem field_c (l : List TypeR) (hl : Short l ∧ ∀ t ∈ l, t.WF) (i : Nat) (t : TypeR) (ht : l[i]? = some t) (k : Nat) (x : FieldR) (hx : t.fields[k]? = some x) (hprev : ∀ b, prev t.fields k = some b → 0 ≤ b.type ∧ b.type < i) :
    RCall Tryz.prog 259 [.dat (.sl (l.map TypeR.enc)), .dat (.int .i64 i), .dat (.int .i64 k)] (.dat (.int .i64 (fieldOne l i t k x))) := by
  have hil : i < l.length := (List.getElem?_eq_some_iff.1 ht).1
  have hkl : k < t.fields.length := (List.getElem?_eq_some_iff.1 hx).1
  have htw : t.WF := hl.2 t (List.mem_of_getElem? ht)
  have hxw : x.WF := htw.2.2.2.2.2.2 x (List.mem_of_getElem? hx)
  have hfl := htw.2.2.2.2.2.1
  have hll := hl.1
  unfold Short at hfl hll
  have hi' : l[i] = t := (List.getElem?_eq_some_iff.1 ht).2
  have hx' : t.fields[k] = x := (List.getElem?_eq_some_iff.1 hx).2
  have htk : Short (t.fields.take k) := by unfold Short; simp; omega
  have hcl : Closed [.cptr [.dat (.str x.name), .dat (.int .i64 x.type), .dat (.int .i64 x.offset)]] := by unfold Closed; simp
  have hle : k ≤ t.fields.length := by omega
  rcases k with _ | j
  · by_cases hty : 0 ≤ x.type ∧ x.type < i
    · obtain ⟨tx, htx⟩ : ∃ tx, l[x.type.toNat]? = some tx := ⟨_, List.getElem?_eq_getElem (by omega)⟩
      have h0x := hty.1
      have hmin : (min (x.type.toNat) l.length) = x.type.toNat := by omega
      refine rcall_of hmix [] Tryz.func259 (by kernel_rfl) rfl (by simp [Tryz.f259]) ?_
      simp -dsimp [Tryz.f259, ht, hi', hil, hx, hx', hkl, TypeR.enc, FieldR.enc]
      repeat' (first | (refine gif ?_ ?_ <;> intro h <;> (try simp only [Bool.not_eq_eq_eq_not, Bool.not_true, Bool.not_false, decide_eq_true_eq, decide_eq_false_iff_not] at h) <;> (try simp -dsimp [h, hx, hx', hkl, htx, h0x, FieldR.enc, TypeR.enc])) | (refine And.intro (show orderOk _ _ = true by kernel_rfl) ?_) | (show orderOk _ _ = true; kernel_rfl) | (refine callA (tokName_c _ hxw.1) ?_ rfl; simp -dsimp) | (refine callA (containsFunc_FieldR (fun y => decide (y.name = x.name)) _ _ hcl [] (by simp [Short]) (by simp)) ?_ rfl; simp -dsimp))
      all_goals first | omega | (simp [fieldOne, prev_zero, fieldEnd, sizeAt, W, *]; done) | (simp_all [fieldOne, prev_zero, fieldEnd, sizeAt, W]; done)
    · refine rcall_of hmix [] Tryz.func259 (by kernel_rfl) rfl (by simp [Tryz.f259]) ?_
      simp -dsimp [Tryz.f259, ht, hi', hil, hx, hx', hkl, TypeR.enc, FieldR.enc]
      repeat' (first | (refine gif ?_ ?_ <;> intro h <;> (try simp only [Bool.not_eq_eq_eq_not, Bool.not_true, Bool.not_false, decide_eq_true_eq, decide_eq_false_iff_not] at h) <;> (try simp -dsimp [h, hx, hx', hkl, FieldR.enc, TypeR.enc])) | (refine And.intro (show orderOk _ _ = true by kernel_rfl) ?_) | (show orderOk _ _ = true; kernel_rfl) | (refine callA (tokName_c _ hxw.1) ?_ rfl; simp -dsimp) | (refine callA (containsFunc_FieldR (fun y => decide (y.name = x.name)) _ _ hcl [] (by simp [Short]) (by simp)) ?_ rfl; simp -dsimp))
      all_goals first | omega | (simp [fieldOne, prev_zero, fieldEnd, sizeAt, W, *]; done) | (simp_all [fieldOne, prev_zero, fieldEnd, sizeAt, W]; done)
  · obtain ⟨b, hb⟩ : ∃ b, t.fields[j]? = some b := ⟨_, List.getElem?_eq_getElem (by omega)⟩
    have hb' : t.fields[j] = b := (List.getElem?_eq_some_iff.1 hb).2
    have hjl : j < t.fields.length := by omega
    obtain ⟨hb0, hbi⟩ := hprev b (by rw [prev_succ]; exact hb)
    obtain ⟨tb, htb⟩ : ∃ tb, l[b.type.toNat]? = some tb := ⟨_, List.getElem?_eq_getElem (by omega)⟩
    have hw : IntKind.i64.wrap (j : Int) = j := wrap_in (by omega) (by omega)
    have hn : ((j : Int) + 1).toNat = j + 1 := by omega
    have h0 : (0 : Int) < (j : Int) + 1 := by omega
    have h00 : (0 : Int) ≤ (j : Int) + 1 := by omega
    have hany := containsFunc_FieldR (fun y => decide (y.name = x.name)) _ _ hcl (t.fields.take (j + 1)) htk (fun y _ => field1_c y x)
    rw [List.map_take] at hany
    have hle2 : (j : Int) + 1 ≤ t.fields.length := by omega
    by_cases hty : 0 ≤ x.type ∧ x.type < i
    · obtain ⟨tx, htx⟩ : ∃ tx, l[x.type.toNat]? = some tx := ⟨_, List.getElem?_eq_getElem (by omega)⟩
      have h0x := hty.1
      refine rcall_of hmix [] Tryz.func259 (by kernel_rfl) rfl (by simp [Tryz.f259]) ?_
      simp -dsimp [Tryz.f259, ht, hi', hil, hx, hx', hkl, hb, hb', hjl, hb0, htb, hw, hn, h0, h00, TypeR.enc, FieldR.enc]
      repeat' (first | (refine gif ?_ ?_ <;> intro h <;> (try simp only [Bool.not_eq_eq_eq_not, Bool.not_true, Bool.not_false, decide_eq_true_eq, decide_eq_false_iff_not] at h) <;> (try simp -dsimp [h, hx, hx', hkl, htx, h0x, hb, hb', hjl, hb0, htb, hw, hn, h0, h00, hle2, FieldR.enc, TypeR.enc])) | (refine And.intro (show orderOk _ _ = true by kernel_rfl) ?_) | (show orderOk _ _ = true; kernel_rfl) | (refine callA (tokName_c _ hxw.1) ?_ rfl; simp -dsimp) | (refine callA hany ?_ rfl; simp -dsimp))
      all_goals first | omega | (simp [fieldOne, prev_succ, fieldEnd, sizeAt, W, *]; done) | (simp_all [fieldOne, prev_succ, fieldEnd, sizeAt, W]; done)
    · refine rcall_of hmix [] Tryz.func259 (by kernel_rfl) rfl (by simp [Tryz.f259]) ?_
      simp -dsimp [Tryz.f259, ht, hi', hil, hx, hx', hkl, hb, hb', hjl, hb0, htb, hw, hn, h0, h00, TypeR.enc, FieldR.enc]
      repeat' (first | (refine gif ?_ ?_ <;> intro h <;> (try simp only [Bool.not_eq_eq_eq_not, Bool.not_true, Bool.not_false, decide_eq_true_eq, decide_eq_false_iff_not] at h) <;> (try simp -dsimp [h, hx, hx', hkl, hb, hb', hjl, hb0, htb, hw, hn, h0, h00, hle2, FieldR.enc, TypeR.enc])) | (refine And.intro (show orderOk _ _ = true by kernel_rfl) ?_) | (show orderOk _ _ = true; kernel_rfl) | (refine callA (tokName_c _ hxw.1) ?_ rfl; simp -dsimp) | (refine callA hany ?_ rfl; simp -dsimp))
      all_goals first | omega | (simp [fieldOne, prev_succ, fieldEnd, sizeAt, W, *]; done) | (simp_all [fieldOne, prev_succ, fieldEnd, sizeAt, W]; done)

theorem check_c (l : List TypeR) (hl : Short l ∧ ∀ t ∈ l, t.WF) (i : Nat) (t : TypeR) (ht : l[i]? = some t) : RCall Tryz.prog 238 [.dat (.sl (l.map TypeR.enc)), .dat (.int .i64 i)] (.dat (.int .i64 (typeOne l i t))) := by
  have hil : i < l.length := (List.getElem?_eq_some_iff.1 ht).1
  have htw : t.WF := hl.2 t (List.mem_of_getElem? ht)
  have hfl := htw.2.2.2.2.2.1
  have hll := hl.1
  unfold Short at hfl hll
  have hi' : l[i] = t := (List.getElem?_eq_some_iff.1 ht).2
  have hlne : ¬ l = [] := by intro e; rw [e] at hil; simp at hil
  have hinc : ∀ k : Nat, k < t.fields.length → IntKind.i64.wrap ((k : Int) + 1) = k + 1 := fun k hk => wrap_in (by omega) (by omega)
  have hround : ∀ k x, t.fields[k]? = some x → (∀ j, j < k → fieldCode l i t j = 0) → RCall Tryz.prog 259 [.dat (.sl (l.map TypeR.enc)), .dat (.int .i64 i), .dat (.int .i64 k)] (.dat (.int .i64 (fieldCode l i t k))) := by
    intro k x hx hpre
    have := field_c l hl i t ht k x hx (fun b hb => by
      obtain ⟨j, rfl, hj⟩ := prev_some hb
      have h0 := hpre j (by omega)
      unfold fieldCode at h0
      rw [hj] at h0
      exact fieldOne_zero h0)
    unfold fieldCode
    rw [hx]
    exact this
  by_cases hel : 0 ≤ t.elem ∧ t.elem < l.length
  · obtain ⟨te, hte⟩ : ∃ te, l[t.elem.toNat]? = some te := ⟨_, List.getElem?_eq_getElem (by omega)⟩
    have h0e := hel.1
    refine rcall_of hmix [] Tryz.func238 (by kernel_rfl) rfl (by simp [Tryz.f238]) ?_
    simp -dsimp [Tryz.f238, ht, hi', hil, TypeR.enc]
    repeat' (first | (refine gif ?_ ?_ <;> intro h <;> (try simp only [Bool.not_eq_eq_eq_not, Bool.not_true, Bool.not_false, decide_eq_true_eq, decide_eq_false_iff_not] at h) <;> (try simp -dsimp [h, hte, h0e, TypeR.enc])) | (refine And.intro (show orderOk _ _ = true by kernel_rfl) ?_) | (show orderOk _ _ = true; kernel_rfl) | (refine callA (tokName_c _ htw.2.1) ?_ rfl; simp -dsimp))
    all_goals first
      | (show (_ : Int) = _; simp only [typeOne, sizeAt, W, hte]; simp [*]; done)
      | omega
      | (have hlp : typeOne l i t = firstC ((List.range t.fields.length).map (fieldCode l i t)) := by
           simp only [typeOne, sizeAt, W, hte]
           first | (simp [*]; done) | (repeat (first | rw [if_neg (by omega)] | rw [if_neg (by simp [*])]))
         rw [hlp]
         refine awp_loopN t.fields.length (fun k s => s.t 157 = .dat (.int .i64 k) ∧ s.t 156 = .dat (.int .i64 t.fields.length) ∧ s.t 0 = .dat (.sl (l.map TypeR.enc)) ∧ s.t 1 = .dat (.int .i64 i) ∧ (∀ j, j < k → fieldCode l i t j = 0) ∧ firstC ((List.range t.fields.length).map (fieldCode l i t)) = firstC (((List.range t.fields.length).map (fieldCode l i t)).drop k)) ⟨by simp, by simp, by simp, by simp, by omega, by simp⟩ ?_
         rintro k s hk ⟨h157, h156, h0, h1, hpre, hrest⟩
         by_cases hlt : k < t.fields.length
         · obtain ⟨x, hx⟩ : ∃ x, t.fields[k]? = some x := ⟨_, List.getElem?_eq_getElem hlt⟩
           have hw := hinc k hlt
           rw [drop_rangeMap _ hlt] at hrest
           simp -dsimp [h157, h156, h0, h1, hlt]
           refine callA (hround k x hx hpre) ?_ rfl
           simp -dsimp [h157, h156, h0, h1]
           refine gif ?_ ?_
           · intro hc
             simp at hc
             rw [firstC_ne hc] at hrest
             simp -dsimp [h157, h156, h0, h1, hrest]
           · intro hc
             simp at hc
             rw [firstC_zero hc] at hrest
             simp -dsimp [h157, h156, h0, h1, hw, hlt]
             refine ⟨fun j hj => ?_, hrest⟩
             by_cases e : j = k
             · subst e; exact hc
             · exact hpre j (by omega)
         · have hkl : k = t.fields.length := by omega
           subst hkl
           rw [drop_rangeMap_end] at hrest
           simp -dsimp [h157, h156, h0, h1, hrest, firstC])
  · refine rcall_of hmix [] Tryz.func238 (by kernel_rfl) rfl (by simp [Tryz.f238]) ?_
    simp -dsimp [Tryz.f238, ht, hi', hil, TypeR.enc]
    repeat' (first | (refine gif ?_ ?_ <;> intro h <;> (try simp only [Bool.not_eq_eq_eq_not, Bool.not_true, Bool.not_false, decide_eq_true_eq, decide_eq_false_iff_not] at h) <;> (try simp -dsimp [h, TypeR.enc])) | (refine And.intro (show orderOk _ _ = true by kernel_rfl) ?_) | (show orderOk _ _ = true; kernel_rfl) | (refine callA (tokName_c _ htw.2.1) ?_ rfl; simp -dsimp))
    all_goals first
      | (show (_ : Int) = _; simp only [typeOne, sizeAt, W]; simp [*]; done)
      | omega
      | (simp_all [typeOne, sizeAt, W]; done)

theorem types_c (l : List TypeR) (hl : Short l ∧ ∀ t ∈ l, t.WF) : RCall Tryz.prog 182 [.dat (.sl (l.map TypeR.enc))] (.dat (typesF l).enc) := by
  have hll := hl.1
  unfold Short at hll
  refine rcall_of hmix [] Tryz.func182 (by kernel_rfl) rfl (by simp [Tryz.f182]) ?_
  simp -dsimp [Tryz.f182]
  refine gif ?_ ?_
  · intro h
    simp at h
    simp -dsimp [typesF, h, Fault.enc]
  · intro h
    simp at h
    simp -dsimp
    have he : typesF l = firstF ((List.range l.length).map fun i => if typeCode l i = 0 then Fault.ok else ⟨typeCode l i, i⟩) := by unfold typesF; rw [if_neg (by omega)]
    refine awp_loopN l.length (fun k s => s.t 11 = .dat (.int .i64 k) ∧ s.t 10 = .dat (.int .i64 l.length) ∧ s.t 0 = .dat (.sl (l.map TypeR.enc)) ∧ s.t 2 = .bptr 2 0 ∧ s.h 2 = some [.dat (.int .i64 0), .dat (.int .i64 0)] ∧ typesF l = firstF (((List.range l.length).map fun i => if typeCode l i = 0 then Fault.ok else ⟨typeCode l i, i⟩).drop k)) ⟨by simp, by simp, by simp, by simp, by simp, by simpa using he⟩ ?_
    rintro k s hk ⟨h11, h10, h0, h2, hh2, hrest⟩
    by_cases hlt : k < l.length
    · obtain ⟨t, ht⟩ : ∃ t, l[k]? = some t := ⟨_, List.getElem?_eq_getElem hlt⟩
      have hw : IntKind.i64.wrap ((k : Int) + 1) = k + 1 := wrap_in (by omega) (by omega)
      have hcode : typeCode l k = typeOne l k t := by unfold typeCode; rw [ht]
      rw [drop_rangeMap _ hlt] at hrest
      simp -dsimp [h11, h10, h0, h2, hh2, hlt]
      refine callA (check_c l hl k t ht) ?_ rfl
      rw [← hcode]
      simp -dsimp [h11, h10, h0, h2, hh2]
      refine gif ?_ ?_
      · intro hc
        simp at hc
        rw [firstF_ne (by simp [hc, Fault.ok])] at hrest
        rw [if_neg hc] at hrest
        simp -dsimp [h11, h10, h0, h2, hh2, hrest, Fault.enc]
      · intro hc
        simp at hc
        rw [firstF_ok (by simp [hc])] at hrest
        simp -dsimp [h11, h10, h0, h2, hh2, hw, hlt]
        exact hrest
    · have hkl : k = l.length := by omega
      subst hkl
      rw [drop_rangeMap_end] at hrest
      simp -dsimp [h11, h10, h0, h2, hh2, hrest, firstF, Fault.enc, Fault.ok]
end Go.Proofs.YtflpgdlgfffigaaGreat
