/- The law InitsMatchSpec: whatever the arguments, the call returns true and leaves the arguments as they were. No condition. -/
import Derived.Test.YtflpgdlgfffigaaGreatCoreB
import Derived.Test.YtflpgdlgfffigaaGreatCRecs
import Derived.Test.YtflpgdlgfffigaaGreatCLawInitsSpec
import Derived.Test.YtflpgdlgfffigaaGreatCJoinP
import Derived.WalkKit
import Derived.ProofKit
import Derived.OpenShut
import Derived.ShutString
import Derived.ChangeOld
import Derived.Below
import Derived.Carry
import Derived.SizedLaws
namespace Go.Proofs.YtflpgdlgfffigaaGreat.initsMatchSpec
open Go.ChangeShapes Go.WideShapes Go.ChangeAt Go.RowKit Go.Abs Go.Proofs.YtflpgdlgfffigaaGreat
open Go.ChangeMaps (open_string shut_string)
set_option linter.unusedVariables false
set_option linter.unusedSimpArgs false
theorem own : ownKnob Tryz.prog.godebug = none := by kernel_rfl
theorem laidOut : laidOutB Tryz.prog = true := by kernel_rfl
theorem ok_images : okTy Tryz.prog 9 22 = true := by kernel_rfl
theorem ok_loaded : okTy Tryz.prog 9 39 = true := by kernel_rfl
set_option maxRecDepth 100000 in
theorem lifted (os : Os) (started : os.Started) (H : Type) (enc : TypeId × Value → H) :
    ReturnsInHanded {} Tryz.checked os 4 .any (Rows.initsMatchSpecSpec.pre6 enc Tryz.prog Tryz.f4 Rows.initsMatchSpecRow.domain false) (Rows.initsMatchSpecSpec.post enc Tryz.prog Tryz.f4 false true false false) := by
  refine returnsInHanded_of_change_sized (C := Tryz.checked) own started (by kernel_rfl) Tryz.func4
    (ChangeSpec.witness6 (enc := enc) (C := Tryz.checked) false ⟨#[], #[.slice none 0 0, .slice none 0 0], []⟩ 8 (by kernel_rfl) (by kernel_rfl) (by kernel_rfl) (by kernel_rfl)) ?_
  intro W base args ds gs before hval0 hW hcnd hsz0 _
  have hsz : (DataW.weightsEach Tryz.prog (Tryz.f4.params.toList ++ Rows.initsMatchSpecSpec.plain.varTypes Tryz.prog) (ds ++ gs)).all (· ≤ reachBytes) = true := hsz0
  have hval : ∀ (j : Nat) t v, Tryz.f4.params[j]? = some t → args[j]? = some v → Value.okWide Tryz.prog W .any base t v := hval0
  have hW' := hW
  obtain ⟨p, q, hA0, hV, rfl, hfz, hnd⟩ := hW
  have hA : DataW.TrodAll enc Tryz.prog W 0 (fun _ => true) true Tryz.f4.params.toList args.toList ds p := hA0
  rw [Tryz.params4] at hA hval hsz
  obtain ⟨v0, vs0, d0, ds0, p0, q0, hargs, rfl, rfl, h0, r0⟩ := trodAll_cons hA
  obtain ⟨v1, vs1, d1, ds1, p1, q1, rfl, rfl, rfl, h1, r1⟩ := trodAll_cons r0
  obtain ⟨rfl, rfl, rfl⟩ := trodAll_nil r1
  obtain rfl : args = #[v0, v1] := by cases args; simp_all
  obtain ⟨rfl, rfl⟩ := trodVars_none hV
  obtain ⟨a0, len0, cap0, rfl⟩ := okWide_slice Tryz.underlying22 (hval 0 22 v0 rfl rfl)
  have k0 := h0
  have lt0 : ∀ x ∈ p0, x.block < W.heap.size := by obtain ⟨m, hm⟩ := k0; exact DataW.trod_lt m _ _ _ hm
  obtain ⟨xs0, rfl, e0, m0, f0, z0⟩ := open_sl (n := 8) Tryz.underlying22 ok_images h0
  have y0 : xs0.length * Tryz.prog.bytesOf 80 ≤ reachBytes := by
    rcases z0 with ⟨_, z0⟩ | ⟨es, sp, rfl, z0⟩
    · rw [z0, Nat.zero_mul]; exact Nat.zero_le _
    · have := sized_slice hsz (j := 0) (t := 22) (e := 80) rfl rfl Tryz.underlying22
      rw [z0, Nat.add_mul] at this
      omega
  obtain ⟨l0, rfl, w0⟩ := recs_of Image.enc Image.WF (by kernel_rfl) (fun zs h => fit_Image zs h) m0 f0
  rw [List.length_map] at y0
  obtain ⟨a1, len1, cap1, rfl⟩ := okWide_slice Tryz.underlying39 (hval 1 39 v1 rfl rfl)
  have k1 := h1
  have lt1 : ∀ x ∈ p1, x.block < W.heap.size := by obtain ⟨m, hm⟩ := k1; exact DataW.trod_lt m _ _ _ hm
  obtain ⟨xs1, rfl, e1, m1, f1, z1⟩ := open_sl (n := 8) Tryz.underlying39 ok_loaded h1
  have y1 : xs1.length * Tryz.prog.bytesOf 82 ≤ reachBytes := by
    rcases z1 with ⟨_, z1⟩ | ⟨es, sp, rfl, z1⟩
    · rw [z1, Nat.zero_mul]; exact Nat.zero_le _
    · have := sized_slice hsz (j := 1) (t := 39) (e := 82) rfl rfl Tryz.underlying39
      rw [z1, Nat.add_mul] at this
      omega
  obtain ⟨l1, rfl, w1⟩ := recs_of Loaded.enc Loaded.WF (by kernel_rfl) (fun zs h => fit_Loaded zs h) m1 f1
  rw [List.length_map] at y1
  clear hA0 hval0 hsz0 hsz
  have main := (lawInitsSpec_c l0 w0 y0 l1 w1 y1).2 W.cell? W.cell? [.slice a0 (l0.map Image.enc).length cap0, .slice a1 (l1.map Loaded.enc).length cap1] W (fun _ _ h => h) (fun _ _ h => h) (fun _ _ h => h) (by
    refine ⟨rfl, fun i p v hp hv => ?_⟩
    match i, hp, hv with
    | 0, hp, hv => simp only [List.getElem?_cons_zero, List.getElem?_cons_succ, Option.some.injEq] at hp hv; subst hp; subst hv; exact .dat _ _ e0
    | 1, hp, hv => simp only [List.getElem?_cons_zero, List.getElem?_cons_succ, Option.some.injEq] at hp hv; subst hp; subst hv; exact .dat _ _ e1
    )
  refine main.mono ?_
  rintro e W' ⟨v, Φ', Ψ', rfl, bel, _, _, _, _, _, _, hr⟩
  obtain rfl : v = .bool true := by cases hr with | dat _ _ hr => cases hr; rfl
  exact ⟨_, rfl, _, _, _, [], _, [], hW', trodAll_mk1 (shut_bool Tryz.underlying4 _), (trodAll_cons_mk (Below.trod laidOut (by kernel_rfl) (of_decide_eq_true (by kernel_rfl)) k0 bel lt0) (trodAll_cons_mk (Below.trod laidOut (by kernel_rfl) (of_decide_eq_true (by kernel_rfl)) k1 bel lt1) trodAll_mk0)), rfl, bel.frame _, fun h => by cases h⟩
theorem jb1 : (Rows.initsMatchSpecRow.inPlace == Tryz.prog.inPlace 4) = true := by kernel_rfl
theorem jb2 : (Rows.initsMatchSpecRow.unfollowed == Tryz.prog.unfollowed 4) = true := by kernel_rfl
theorem jb3 : (Rows.initsMatchSpecRow.recurses == Tryz.prog.recurses 4) = true := by kernel_rfl
theorem jb4 : (Rows.initsMatchSpecRow.named == Tryz.prog.varsNamed 4) = true := by kernel_rfl
theorem joined : joinedFacts Tryz.prog 4 Tryz.f4 Rows.initsMatchSpecSpec Rows.initsMatchSpecRow = true :=
  joined_of (by kernel_rfl) laidOut jq_a3 (by kernel_rfl) (by kernel_rfl) (by kernel_rfl) (by kernel_rfl) (by kernel_rfl) jq_a9 jb1 jb2 jb3 jb4 (by kernel_rfl) (by kernel_rfl) (by kernel_rfl) (by kernel_rfl) (by kernel_rfl) (by kernel_rfl) (by kernel_rfl) (by kernel_rfl) (by kernel_rfl) jq_c5 (by kernel_rfl) jq_c7 jq_c8 jq_c9 jq_d1 (by kernel_rfl) (by kernel_rfl) (by kernel_rfl) (by kernel_rfl)
theorem over : Rows.initsMatchSpecRow.holds Tryz.pinned (OpenSpec.ofChange Rows.initsMatchSpecSpec) :=
  OpenClaim.holds_of_wide 4 Tryz.f4 rfl rfl rfl rfl rfl rfl rfl ⟨rfl, rfl, rfl, rfl, rfl⟩ rfl rfl rfl rfl rfl (by kernel_rfl) Tryz.func4 joined
    (of_decide_eq_true (by kernel_rfl)) (by unfold Func.isWrapper; first | (rw [if_pos (by decide +kernel)]; kernel_rfl) | (rw [if_neg (by decide +kernel)]; exact ⟨rfl, rfl⟩))
    (fun os started H enc _ => lifted os started H enc)
theorem proved : Rows.InitsMatchSpecSaid := over
end Go.Proofs.YtflpgdlgfffigaaGreat.initsMatchSpec
namespace Go.Proofs.YtflpgdlgfffigaaGreat
/-- The row, under a short name, for the claim. -/
theorem initsMatchSpec_holds : Rows.InitsMatchSpecSaid := initsMatchSpec.proved
end Go.Proofs.YtflpgdlgfffigaaGreat
