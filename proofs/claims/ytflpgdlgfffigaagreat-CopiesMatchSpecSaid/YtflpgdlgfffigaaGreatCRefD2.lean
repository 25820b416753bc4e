/- The references: type records. -/
import Derived.Test.YtflpgdlgfffigaaGreatCRefD1
set_option linter.unusedSimpArgs false
set_option linter.unusedVariables false
namespace Go.Proofs.YtflpgdlgfffigaaGreat
open Go Go.Abs
set_option maxRecDepth 8000
set_option maxHeartbeats 4000000


theorem typeCode2_1 (l : List TypeR) (hl : Short l ∧ ∀ t ∈ l, t.WF) (i : Nat) (t : TypeR) (ht : l[i]? = some t) (hf : t.fields = []) (hk : t.kind = 1) : RCall Tryz.prog 122 [.dat (.sl (l.map TypeR.enc)), .dat (.int .i64 i)] (.dat (.int .i64 (typeOne l i t))) := by
  have hil : i < l.length := (List.getElem?_eq_some_iff.1 ht).1
  have htw : t.WF := hl.2 t (List.mem_of_getElem? ht)
  have hll := hl.1
  unfold Short at hll
  have hi' : l[i] = t := (List.getElem?_eq_some_iff.1 ht).2
  have hlw : IntKind.i64.wrap ((l.length : Int) - 1) = l.length - 1 := wrap_in (by omega) (by omega)
  have hin : inB 1 1 4 = true := by decide
  refine rcall_of hmix [] Tryz.func122 (by kernel_rfl) rfl (by simp [Tryz.f122]) ?_
  simp -dsimp [Tryz.f122, ht, hi', hil, TypeR.enc, hf, hk]
  repeat' (first | (refine gif ?_ ?_ <;> intro h <;> (try simp only [Bool.not_eq_eq_eq_not, Bool.not_true, Bool.not_false, decide_eq_true_eq, decide_eq_false_iff_not] at h) <;> (try simp -dsimp [h, hlw, hf, hk, TypeR.enc])) | (refine And.intro (show orderOk _ _ = true by kernel_rfl) ?_) | (show orderOk _ _ = true; kernel_rfl) | (refine callA (in1_c _ _ _) ?_ rfl; simp -dsimp [hlw, hf, hk, hin]) | (refine callA (name1_c _ htw.2.1) ?_ rfl; simp -dsimp [hlw, hf, hk]))
  all_goals (try simp only [inB_true, inB_false] at *)
  all_goals first
    | (show (_ : Int) = _; clear hl hi' htw; simp only [typeOne, hf, hk, List.length_nil]; (repeat' split) <;> first | rfl | omega | (simp_all; done) | (simp_all; omega))
    | skip
  all_goals
    have hlp : typeOne l i t = 0 := by
      clear hl hi' htw
      simp only [typeOne, hf, hk, List.length_nil]; (repeat' split) <;> first | rfl | omega | (simp_all; done) | (simp_all; omega)
    rw [hlp]
  all_goals
    refine awp_loopN 0 (fun k s => s.t 7 = .dat (.int .i64 0) ∧ s.t 5 = .bptr 5 0 ∧ (∃ kd nm a b c, s.h 5 = some [.dat kd, .dat nm, .dat a, .dat b, .dat c, .dat (.sl [])])) ⟨by simp, by simp, ⟨_, _, _, _, _, rfl⟩⟩ ?_
    rintro k s hk ⟨h7, h5, ⟨kd, nm, a, b, c, hh5⟩⟩
    simp -dsimp [h7, h5, hh5]

theorem typeCode2_2 (l : List TypeR) (hl : Short l ∧ ∀ t ∈ l, t.WF) (i : Nat) (t : TypeR) (ht : l[i]? = some t) (hf : t.fields = []) (hk : t.kind = 2) : RCall Tryz.prog 122 [.dat (.sl (l.map TypeR.enc)), .dat (.int .i64 i)] (.dat (.int .i64 (typeOne l i t))) := by
  have hil : i < l.length := (List.getElem?_eq_some_iff.1 ht).1
  have htw : t.WF := hl.2 t (List.mem_of_getElem? ht)
  have hll := hl.1
  unfold Short at hll
  have hi' : l[i] = t := (List.getElem?_eq_some_iff.1 ht).2
  have hlw : IntKind.i64.wrap ((l.length : Int) - 1) = l.length - 1 := wrap_in (by omega) (by omega)
  have hin : inB 2 1 4 = true := by decide
  refine rcall_of hmix [] Tryz.func122 (by kernel_rfl) rfl (by simp [Tryz.f122]) ?_
  simp -dsimp [Tryz.f122, ht, hi', hil, TypeR.enc, hf, hk]
  repeat' (first | (refine gif ?_ ?_ <;> intro h <;> (try simp only [Bool.not_eq_eq_eq_not, Bool.not_true, Bool.not_false, decide_eq_true_eq, decide_eq_false_iff_not] at h) <;> (try simp -dsimp [h, hlw, hf, hk, TypeR.enc])) | (refine And.intro (show orderOk _ _ = true by kernel_rfl) ?_) | (show orderOk _ _ = true; kernel_rfl) | (refine callA (in1_c _ _ _) ?_ rfl; simp -dsimp [hlw, hf, hk, hin]) | (refine callA (name1_c _ htw.2.1) ?_ rfl; simp -dsimp [hlw, hf, hk]))
  all_goals (try simp only [inB_true, inB_false] at *)
  all_goals first
    | (show (_ : Int) = _; clear hl hi' htw; simp only [typeOne, hf, hk, List.length_nil]; (repeat' split) <;> first | rfl | omega | (simp_all; done) | (simp_all; omega))
    | skip
  all_goals
    have hlp : typeOne l i t = 0 := by
      clear hl hi' htw
      simp only [typeOne, hf, hk, List.length_nil]; (repeat' split) <;> first | rfl | omega | (simp_all; done) | (simp_all; omega)
    rw [hlp]
  all_goals
    refine awp_loopN 0 (fun k s => s.t 7 = .dat (.int .i64 0) ∧ s.t 5 = .bptr 5 0 ∧ (∃ kd nm a b c, s.h 5 = some [.dat kd, .dat nm, .dat a, .dat b, .dat c, .dat (.sl [])])) ⟨by simp, by simp, ⟨_, _, _, _, _, rfl⟩⟩ ?_
    rintro k s hk ⟨h7, h5, ⟨kd, nm, a, b, c, hh5⟩⟩
    simp -dsimp [h7, h5, hh5]

theorem typeCode2_3n (l : List TypeR) (hl : Short l ∧ ∀ t ∈ l, t.WF) (i : Nat) (t : TypeR) (ht : l[i]? = some t) (hf : t.fields = []) (hk : t.kind = 3) (hel : 0 ≤ t.elem ∧ t.elem < l.length) (he0 : ¬ t.elem = 0) : RCall Tryz.prog 122 [.dat (.sl (l.map TypeR.enc)), .dat (.int .i64 i)] (.dat (.int .i64 (typeOne l i t))) := by
  have hil : i < l.length := (List.getElem?_eq_some_iff.1 ht).1
  have htw : t.WF := hl.2 t (List.mem_of_getElem? ht)
  have hll := hl.1
  unfold Short at hll
  have hi' : l[i] = t := (List.getElem?_eq_some_iff.1 ht).2
  have hlw : IntKind.i64.wrap ((l.length : Int) - 1) = l.length - 1 := wrap_in (by omega) (by omega)
  have hin : inB 3 1 4 = true := by decide
  obtain ⟨te, hte⟩ : ∃ te, l[t.elem.toNat]? = some te := ⟨_, List.getElem?_eq_getElem (by omega)⟩
  have hte' : l[t.elem.toNat] = te := (List.getElem?_eq_some_iff.1 hte).2
  have htel : t.elem.toNat < l.length := by omega
  have h0e := hel.1
  refine rcall_of hmix [] Tryz.func122 (by kernel_rfl) rfl (by simp [Tryz.f122]) ?_
  simp -dsimp [Tryz.f122, ht, hi', hil, TypeR.enc, hf, hk, hte, hte', htel, h0e, he0]
  repeat' (first | (refine gif ?_ ?_ <;> intro h <;> (try simp only [Bool.not_eq_eq_eq_not, Bool.not_true, Bool.not_false, decide_eq_true_eq, decide_eq_false_iff_not] at h) <;> (try simp -dsimp [h, hlw, hf, hk, hte, hte', htel, h0e, he0, TypeR.enc])) | (refine And.intro (show orderOk _ _ = true by kernel_rfl) ?_) | (show orderOk _ _ = true; kernel_rfl) | (refine callA (in1_c _ _ _) ?_ rfl; simp -dsimp [hlw, hf, hk, hte, hte', htel, h0e, he0, hin]) | (refine callA (name1_c _ htw.2.1) ?_ rfl; simp -dsimp [hlw, hf, hk, hte, hte', htel, h0e, he0]))
  all_goals (try simp only [inB_true, inB_false] at *)
  all_goals first
    | (show (_ : Int) = _; clear hl hi' htw; simp only [typeOne, sizeAt, W, hte, hf, hk, List.length_nil]; (repeat' split) <;> first | rfl | omega | (simp_all; done) | (simp_all; omega))
    | skip
  all_goals
    have hlp : typeOne l i t = 0 := by
      clear hl hi' htw
      simp only [typeOne, sizeAt, W, hte, hf, hk, List.length_nil]; (repeat' split) <;> first | rfl | omega | (simp_all; done) | (simp_all; omega)
    rw [hlp]
  all_goals
    refine awp_loopN 0 (fun k s => s.t 7 = .dat (.int .i64 0) ∧ s.t 5 = .bptr 5 0 ∧ (∃ kd nm a b c, s.h 5 = some [.dat kd, .dat nm, .dat a, .dat b, .dat c, .dat (.sl [])])) ⟨by simp, by simp, ⟨_, _, _, _, _, rfl⟩⟩ ?_
    rintro k s hk ⟨h7, h5, ⟨kd, nm, a, b, c, hh5⟩⟩
    simp -dsimp [h7, h5, hh5]

theorem typeCode2_3z (l : List TypeR) (hl : Short l ∧ ∀ t ∈ l, t.WF) (i : Nat) (t : TypeR) (ht : l[i]? = some t) (hf : t.fields = []) (hk : t.kind = 3) (he0 : t.elem = 0) : RCall Tryz.prog 122 [.dat (.sl (l.map TypeR.enc)), .dat (.int .i64 i)] (.dat (.int .i64 (typeOne l i t))) := by
  have hil : i < l.length := (List.getElem?_eq_some_iff.1 ht).1
  have htw : t.WF := hl.2 t (List.mem_of_getElem? ht)
  have hll := hl.1
  unfold Short at hll
  have hi' : l[i] = t := (List.getElem?_eq_some_iff.1 ht).2
  have hlw : IntKind.i64.wrap ((l.length : Int) - 1) = l.length - 1 := wrap_in (by omega) (by omega)
  have hin : inB 3 1 4 = true := by decide
  have htel : 0 < l.length := by omega
  obtain ⟨te, hte⟩ : ∃ te, l[0]? = some te := ⟨_, List.getElem?_eq_getElem (by omega)⟩
  have hte' : l[0] = te := (List.getElem?_eq_some_iff.1 hte).2
  have h0e : ((0 : Int)).toNat = 0 := rfl
  refine rcall_of hmix [] Tryz.func122 (by kernel_rfl) rfl (by simp [Tryz.f122]) ?_
  simp -dsimp [Tryz.f122, ht, hi', hil, TypeR.enc, hf, hk, hte, hte', htel, he0]
  repeat' (first | (refine gif ?_ ?_ <;> intro h <;> (try simp only [Bool.not_eq_eq_eq_not, Bool.not_true, Bool.not_false, decide_eq_true_eq, decide_eq_false_iff_not] at h) <;> (try simp -dsimp [h, hlw, hf, hk, hte, hte', htel, he0, TypeR.enc])) | (refine And.intro (show orderOk _ _ = true by kernel_rfl) ?_) | (show orderOk _ _ = true; kernel_rfl) | (refine callA (in1_c _ _ _) ?_ rfl; simp -dsimp [hlw, hf, hk, hte, hte', htel, he0, hin]) | (refine callA (name1_c _ htw.2.1) ?_ rfl; simp -dsimp [hlw, hf, hk, hte, hte', htel, he0]))
  all_goals (try simp only [inB_true, inB_false] at *)
  all_goals first
    | (show (_ : Int) = _; clear hl hi' htw; simp only [typeOne, sizeAt, W, he0, h0e, hte, hf, hk, List.length_nil]; (repeat' split) <;> first | rfl | omega | (simp_all; done) | (simp_all; omega))
    | skip
  all_goals
    have hlp : typeOne l i t = 0 := by
      clear hl hi' htw
      simp only [typeOne, sizeAt, W, he0, h0e, hte, hf, hk, List.length_nil]; (repeat' split) <;> first | rfl | omega | (simp_all; done) | (simp_all; omega)
    rw [hlp]
  all_goals
    refine awp_loopN 0 (fun k s => s.t 7 = .dat (.int .i64 0) ∧ s.t 5 = .bptr 5 0 ∧ (∃ kd nm a b c, s.h 5 = some [.dat kd, .dat nm, .dat a, .dat b, .dat c, .dat (.sl [])])) ⟨by simp, by simp, ⟨_, _, _, _, _, rfl⟩⟩ ?_
    rintro k s hk ⟨h7, h5, ⟨kd, nm, a, b, c, hh5⟩⟩
    simp -dsimp [h7, h5, hh5]

theorem typeCode2_3o (l : List TypeR) (hl : Short l ∧ ∀ t ∈ l, t.WF) (i : Nat) (t : TypeR) (ht : l[i]? = some t) (hf : t.fields = []) (hk : t.kind = 3) (hel : ¬ (0 ≤ t.elem ∧ t.elem < l.length)) : RCall Tryz.prog 122 [.dat (.sl (l.map TypeR.enc)), .dat (.int .i64 i)] (.dat (.int .i64 (typeOne l i t))) := by
  have hil : i < l.length := (List.getElem?_eq_some_iff.1 ht).1
  have htw : t.WF := hl.2 t (List.mem_of_getElem? ht)
  have hll := hl.1
  unfold Short at hll
  have hi' : l[i] = t := (List.getElem?_eq_some_iff.1 ht).2
  have hlw : IntKind.i64.wrap ((l.length : Int) - 1) = l.length - 1 := wrap_in (by omega) (by omega)
  have hin : inB 3 1 4 = true := by decide
  refine rcall_of hmix [] Tryz.func122 (by kernel_rfl) rfl (by simp [Tryz.f122]) ?_
  simp -dsimp [Tryz.f122, ht, hi', hil, TypeR.enc, hf, hk]
  repeat' (first | (refine gif ?_ ?_ <;> intro h <;> (try simp only [Bool.not_eq_eq_eq_not, Bool.not_true, Bool.not_false, decide_eq_true_eq, decide_eq_false_iff_not] at h) <;> (try simp -dsimp [h, hlw, hf, hk, TypeR.enc])) | (refine And.intro (show orderOk _ _ = true by kernel_rfl) ?_) | (show orderOk _ _ = true; kernel_rfl) | (refine callA (in1_c _ _ _) ?_ rfl; simp -dsimp [hlw, hf, hk, hin]) | (refine callA (name1_c _ htw.2.1) ?_ rfl; simp -dsimp [hlw, hf, hk]))
  all_goals (try simp only [inB_true, inB_false] at *)
  all_goals first
    | (show (_ : Int) = _; clear hl hi' htw; simp only [typeOne, hf, hk, List.length_nil]; (repeat' split) <;> first | rfl | omega | (simp_all; done) | (simp_all; omega))
    | skip
  all_goals omega

theorem typeCode2_0 (l : List TypeR) (hl : Short l ∧ ∀ t ∈ l, t.WF) (i : Nat) (t : TypeR) (ht : l[i]? = some t) (hk : t.kind < 1 ∨ 4 < t.kind) : RCall Tryz.prog 122 [.dat (.sl (l.map TypeR.enc)), .dat (.int .i64 i)] (.dat (.int .i64 (typeOne l i t))) := by
  have hil : i < l.length := (List.getElem?_eq_some_iff.1 ht).1
  have htw : t.WF := hl.2 t (List.mem_of_getElem? ht)
  have hll := hl.1
  unfold Short at hll
  have hi' : l[i] = t := (List.getElem?_eq_some_iff.1 ht).2
  have hlw : IntKind.i64.wrap ((l.length : Int) - 1) = l.length - 1 := wrap_in (by omega) (by omega)
  have hin : inB t.kind 1 4 = false := by rw [inB_false]; omega
  refine rcall_of hmix [] Tryz.func122 (by kernel_rfl) rfl (by simp [Tryz.f122]) ?_
  simp -dsimp [Tryz.f122, ht, hi', hil, TypeR.enc]
  refine callA (in1_c _ _ _) ?_ rfl
  have hlp : typeOne l i t = 4 := by unfold typeOne; rw [if_pos hk]
  simp -dsimp [hin, hlp]

theorem typeCode2_f (l : List TypeR) (hl : Short l ∧ ∀ t ∈ l, t.WF) (i : Nat) (t : TypeR) (ht : l[i]? = some t) (hf : ¬ t.fields = []) (hk : ¬ t.kind = 4) (hk0 : 1 ≤ t.kind ∧ t.kind ≤ 4) : RCall Tryz.prog 122 [.dat (.sl (l.map TypeR.enc)), .dat (.int .i64 i)] (.dat (.int .i64 (typeOne l i t))) := by
  have hil : i < l.length := (List.getElem?_eq_some_iff.1 ht).1
  have htw : t.WF := hl.2 t (List.mem_of_getElem? ht)
  have hll := hl.1
  unfold Short at hll
  have hi' : l[i] = t := (List.getElem?_eq_some_iff.1 ht).2
  have hlw : IntKind.i64.wrap ((l.length : Int) - 1) = l.length - 1 := wrap_in (by omega) (by omega)
  have hin : inB t.kind 1 4 = true := inB_true.2 hk0
  have hf1 : 0 < (t.fields.length : Int) := by have := List.length_pos_iff.2 hf; omega
  have hf2 : 0 < t.fields.length := by omega
  refine rcall_of hmix [] Tryz.func122 (by kernel_rfl) rfl (by simp [Tryz.f122]) ?_
  simp -dsimp [Tryz.f122, ht, hi', hil, TypeR.enc, hf1, hk, hf2]
  repeat' (first | (refine gif ?_ ?_ <;> intro h <;> (try simp only [Bool.not_eq_eq_eq_not, Bool.not_true, Bool.not_false, decide_eq_true_eq, decide_eq_false_iff_not] at h) <;> (try simp -dsimp [h, hlw, TypeR.enc, hf1, hk, hf2])) | (refine And.intro (show orderOk _ _ = true by kernel_rfl) ?_) | (show orderOk _ _ = true; kernel_rfl) | (refine callA (in1_c _ _ _) ?_ rfl; simp -dsimp [hlw, hf1, hf2, hk, hin]) | (refine callA (name1_c _ htw.2.1) ?_ rfl; simp -dsimp [hlw, hf1, hk]))
  all_goals (try simp only [inB_true, inB_false] at *)
  all_goals first
    | (show (_ : Int) = _; clear hl hi' htw; unfold typeOne; (repeat' split) <;> first | rfl | omega | (simp_all; done) | (simp_all; omega))
    | skip
  all_goals omega
end Go.Proofs.YtflpgdlgfffigaaGreat
