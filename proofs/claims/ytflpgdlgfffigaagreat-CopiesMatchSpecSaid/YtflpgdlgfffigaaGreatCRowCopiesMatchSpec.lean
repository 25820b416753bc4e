/- The law CopiesMatchSpec: whatever the arguments, the call returns true and leaves the arguments as they were. No condition. -/
import Derived.Test.YtflpgdlgfffigaaGreatCoreB
import Derived.Test.YtflpgdlgfffigaaGreatCRecs
import Derived.Test.YtflpgdlgfffigaaGreatCLawCopiesSpec
import Derived.Test.YtflpgdlgfffigaaGreatCJoinP
import Derived.WalkKit
import Derived.ProofKit
import Derived.OpenShut
import Derived.ShutString
import Derived.ChangeOld
import Derived.Below
import Derived.Carry
import Derived.SizedLaws
namespace Go.Proofs.YtflpgdlgfffigaaGreat.copiesMatchSpec
open Go.ChangeShapes Go.WideShapes Go.ChangeAt Go.RowKit Go.Abs Go.Proofs.YtflpgdlgfffigaaGreat
open Go.ChangeMaps (open_string shut_string)
set_option linter.unusedVariables false
set_option linter.unusedSimpArgs false
theorem own : ownKnob Tryz.prog.godebug = none := by kernel_rfl
theorem laidOut : laidOutB Tryz.prog = true := by kernel_rfl
theorem ok_loaded : okTy Tryz.prog 9 39 = true := by kernel_rfl
set_option maxRecDepth 100000 in
theorem lifted (os : Os) (started : os.Started) (H : Type) (enc : TypeId × Value → H) :
    ReturnsInHanded {} Tryz.checked os 5 .any (Rows.copiesMatchSpecSpec.pre6 enc Tryz.prog Tryz.f5 Rows.copiesMatchSpecRow.domain false) (Rows.copiesMatchSpecSpec.post enc Tryz.prog Tryz.f5 false true false false) := by
  refine returnsInHanded_of_change_sized (C := Tryz.checked) own started (by kernel_rfl) Tryz.func5
    (ChangeSpec.witness6 (enc := enc) (C := Tryz.checked) false ⟨#[], #[.slice none 0 0, .int .i64 0, .int .i64 0], []⟩ 8 (by kernel_rfl) (by kernel_rfl) (by kernel_rfl) (by kernel_rfl)) ?_
  intro W base args ds gs before hval0 hW hcnd hsz0 _
  have hsz : (DataW.weightsEach Tryz.prog (Tryz.f5.params.toList ++ Rows.copiesMatchSpecSpec.plain.varTypes Tryz.prog) (ds ++ gs)).all (· ≤ reachBytes) = true := hsz0
  have hval : ∀ (j : Nat) t v, Tryz.f5.params[j]? = some t → args[j]? = some v → Value.okWide Tryz.prog W .any base t v := hval0
  have hW' := hW
  obtain ⟨p, q, hA0, hV, rfl, hfz, hnd⟩ := hW
  have hA : DataW.TrodAll enc Tryz.prog W 0 (fun _ => true) true Tryz.f5.params.toList args.toList ds p := hA0
  rw [Tryz.params5] at hA hval hsz
  obtain ⟨v0, vs0, d0, ds0, p0, q0, hargs, rfl, rfl, h0, r0⟩ := trodAll_cons hA
  obtain ⟨v1, vs1, d1, ds1, p1, q1, rfl, rfl, rfl, h1, r1⟩ := trodAll_cons r0
  obtain ⟨v2, vs2, d2, ds2, p2, q2, rfl, rfl, rfl, h2, r2⟩ := trodAll_cons r1
  obtain ⟨rfl, rfl, rfl⟩ := trodAll_nil r2
  obtain rfl : args = #[v0, v1, v2] := by cases args; simp_all
  obtain ⟨rfl, rfl⟩ := trodVars_none hV
  obtain ⟨a0, len0, cap0, rfl⟩ := okWide_slice Tryz.underlying39 (hval 0 39 v0 rfl rfl)
  have k0 := h0
  have lt0 : ∀ x ∈ p0, x.block < W.heap.size := by obtain ⟨m, hm⟩ := k0; exact DataW.trod_lt m _ _ _ hm
  obtain ⟨xs0, rfl, e0, m0, f0, z0⟩ := open_sl (n := 8) Tryz.underlying39 ok_loaded h0
  have y0 : xs0.length * Tryz.prog.bytesOf 82 ≤ reachBytes := by
    rcases z0 with ⟨_, z0⟩ | ⟨es, sp, rfl, z0⟩
    · rw [z0, Nat.zero_mul]; exact Nat.zero_le _
    · have := sized_slice hsz (j := 0) (t := 39) (e := 82) rfl rfl Tryz.underlying39
      rw [z0, Nat.add_mul] at this
      omega
  obtain ⟨l0, rfl, w0⟩ := recs_of Loaded.enc Loaded.WF (by kernel_rfl) (fun zs h => fit_Loaded zs h) m0 f0
  rw [List.length_map] at y0
  obtain ⟨a1, rfl, rfl, rfl, w1⟩ := open_int Tryz.underlying3 (hval 1 3 v1 rfl rfl) h1
  obtain ⟨a2, rfl, rfl, rfl, w2⟩ := open_int Tryz.underlying3 (hval 2 3 v2 rfl rfl) h2
  clear hA0 hval0 hsz0 hsz
  have main := (lawCopiesSpec_c l0 w0 y0 a1 (by have := w1; simpa [Lit.wf, IntKind.min, IntKind.max, IntKind.signed, IntKind.bits, I64] using this) a2 (by have := w2; simpa [Lit.wf, IntKind.min, IntKind.max, IntKind.signed, IntKind.bits, I64] using this)).2 W.cell? W.cell? [.slice a0 (l0.map Loaded.enc).length cap0, .int .i64 a1, .int .i64 a2] W (fun _ _ h => h) (fun _ _ h => h) (fun _ _ h => h) (by
    refine ⟨rfl, fun i p v hp hv => ?_⟩
    match i, hp, hv with
    | 0, hp, hv => simp only [List.getElem?_cons_zero, List.getElem?_cons_succ, Option.some.injEq] at hp hv; subst hp; subst hv; exact .dat _ _ e0
    | 1, hp, hv => simp only [List.getElem?_cons_zero, List.getElem?_cons_succ, Option.some.injEq] at hp hv; subst hp; subst hv; exact .dat _ _ (.int _ _)
    | 2, hp, hv => simp only [List.getElem?_cons_zero, List.getElem?_cons_succ, Option.some.injEq] at hp hv; subst hp; subst hv; exact .dat _ _ (.int _ _)
    )
  refine main.mono ?_
  rintro e W' ⟨v, Φ', Ψ', rfl, bel, _, _, _, _, _, _, hr⟩
  obtain rfl : v = .bool true := by cases hr with | dat _ _ hr => cases hr; rfl
  exact ⟨_, rfl, _, _, _, [], _, [], hW', trodAll_mk1 (shut_bool Tryz.underlying4 _), (trodAll_cons_mk (Below.trod laidOut (by kernel_rfl) (of_decide_eq_true (by kernel_rfl)) k0 bel lt0) (trodAll_cons_mk (shut_int Tryz.underlying3 w1) (trodAll_cons_mk (shut_int Tryz.underlying3 w2) trodAll_mk0))), rfl, bel.frame _, fun h => by cases h⟩
theorem jb1 : (Rows.copiesMatchSpecRow.inPlace == Tryz.prog.inPlace 5) = true := by kernel_rfl
theorem jb2 : (Rows.copiesMatchSpecRow.unfollowed == Tryz.prog.unfollowed 5) = true := by kernel_rfl
theorem jb3 : (Rows.copiesMatchSpecRow.recurses == Tryz.prog.recurses 5) = true := by kernel_rfl
theorem jb4 : (Rows.copiesMatchSpecRow.named == Tryz.prog.varsNamed 5) = true := by kernel_rfl
theorem joined : joinedFacts Tryz.prog 5 Tryz.f5 Rows.copiesMatchSpecSpec Rows.copiesMatchSpecRow = true :=
  joined_of (by kernel_rfl) laidOut jq_a3 (by kernel_rfl) (by kernel_rfl) (by kernel_rfl) (by kernel_rfl) (by kernel_rfl) jq_a9 jb1 jb2 jb3 jb4 (by kernel_rfl) (by kernel_rfl) (by kernel_rfl) (by kernel_rfl) (by kernel_rfl) (by kernel_rfl) (by kernel_rfl) (by kernel_rfl) (by kernel_rfl) jq_c5 (by kernel_rfl) jq_c7 jq_c8 jq_c9 jq_d1 (by kernel_rfl) (by kernel_rfl) (by kernel_rfl) (by kernel_rfl)
theorem over : Rows.copiesMatchSpecRow.holds Tryz.pinned (OpenSpec.ofChange Rows.copiesMatchSpecSpec) :=
  OpenClaim.holds_of_wide 5 Tryz.f5 rfl rfl rfl rfl rfl rfl rfl ⟨rfl, rfl, rfl, rfl, rfl⟩ rfl rfl rfl rfl rfl (by kernel_rfl) Tryz.func5 joined
    (of_decide_eq_true (by kernel_rfl)) (by unfold Func.isWrapper; first | (rw [if_pos (by decide +kernel)]; kernel_rfl) | (rw [if_neg (by decide +kernel)]; exact ⟨rfl, rfl⟩))
    (fun os started H enc _ => lifted os started H enc)
theorem proved : Rows.CopiesMatchSpecSaid := over
end Go.Proofs.YtflpgdlgfffigaaGreat.copiesMatchSpec
namespace Go.Proofs.YtflpgdlgfffigaaGreat
/-- The row, under a short name, for the claim. -/
theorem copiesMatchSpec_holds : Rows.CopiesMatchSpecSaid := copiesMatchSpec.proved
end Go.Proofs.YtflpgdlgfffigaaGreat
