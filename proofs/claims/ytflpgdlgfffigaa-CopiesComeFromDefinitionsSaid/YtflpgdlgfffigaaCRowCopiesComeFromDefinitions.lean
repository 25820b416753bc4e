/- The law CopiesComeFromDefinitions: whatever the arguments, the call returns true and leaves the arguments as they were. No condition. -/
import Derived.Test.YtflpgdlgfffigaaCoreB
import Derived.Test.YtflpgdlgfffigaaCRecs
import Derived.Test.YtflpgdlgfffigaaCLawCopies
import Derived.Test.YtflpgdlgfffigaaCJoinP
import Derived.WalkKit
import Derived.ProofKit
import Derived.OpenShut
import Derived.ShutString
import Derived.ChangeOld
import Derived.Below
import Derived.Carry
import Derived.SizedLaws
namespace Go.Proofs.Ytflpgdlgfffigaa.copiesComeFromDefinitions
open Go.ChangeShapes Go.WideShapes Go.ChangeAt Go.RowKit Go.Abs Go.Proofs.Ytflpgdlgfffigaa
open Go.ChangeMaps (open_string shut_string)
set_option linter.unusedVariables false
set_option linter.unusedSimpArgs false
theorem own : ownKnob Try.prog.godebug = none := by kernel_rfl
theorem laidOut : laidOutB Try.prog = true := by kernel_rfl
theorem ok_loaded : okTy Try.prog 9 49 = true := by kernel_rfl
set_option maxRecDepth 100000 in
theorem lifted (os : Os) (started : os.Started) (H : Type) (enc : TypeId × Value → H) :
    ReturnsInHanded {} Try.checked os 7 .any (Rows.copiesComeFromDefinitionsSpec.pre6 enc Try.prog Try.f7 Rows.copiesComeFromDefinitionsRow.domain false) (Rows.copiesComeFromDefinitionsSpec.post enc Try.prog Try.f7 false true false false) := by
  refine returnsInHanded_of_change_sized (C := Try.checked) own started (by kernel_rfl) Try.func7
    (ChangeSpec.witness6 (enc := enc) (C := Try.checked) false ⟨#[], #[.slice none 0 0], []⟩ 8 (by kernel_rfl) (by kernel_rfl) (by kernel_rfl) (by kernel_rfl)) ?_
  intro W base args ds gs before hval0 hW hcnd hsz0 _
  have hsz : (DataW.weightsEach Try.prog (Try.f7.params.toList ++ Rows.copiesComeFromDefinitionsSpec.plain.varTypes Try.prog) (ds ++ gs)).all (· ≤ reachBytes) = true := hsz0
  have hval : ∀ (j : Nat) t v, Try.f7.params[j]? = some t → args[j]? = some v → Value.okWide Try.prog W .any base t v := hval0
  have hW' := hW
  obtain ⟨p, q, hA0, hV, rfl, hfz, hnd⟩ := hW
  have hA : DataW.TrodAll enc Try.prog W 0 (fun _ => true) true Try.f7.params.toList args.toList ds p := hA0
  rw [Try.params7] at hA hval hsz
  obtain ⟨v0, vs0, d0, ds0, p0, q0, hargs, rfl, rfl, h0, r0⟩ := trodAll_cons hA
  obtain ⟨rfl, rfl, rfl⟩ := trodAll_nil r0
  obtain rfl : args = #[v0] := by cases args; simp_all
  obtain ⟨rfl, rfl⟩ := trodVars_none hV
  obtain ⟨a0, len0, cap0, rfl⟩ := okWide_slice Try.underlying49 (hval 0 49 v0 rfl rfl)
  have k0 := h0
  have lt0 : ∀ x ∈ p0, x.block < W.heap.size := by obtain ⟨m, hm⟩ := k0; exact DataW.trod_lt m _ _ _ hm
  obtain ⟨xs0, rfl, e0, m0, f0, z0⟩ := open_sl (n := 8) Try.underlying49 ok_loaded h0
  have y0 : xs0.length * Try.prog.bytesOf 52 ≤ reachBytes := by
    rcases z0 with ⟨_, z0⟩ | ⟨es, sp, rfl, z0⟩
    · rw [z0, Nat.zero_mul]; exact Nat.zero_le _
    · have := sized_slice hsz (j := 0) (t := 49) (e := 52) rfl rfl Try.underlying49
      rw [z0, Nat.add_mul] at this
      omega
  obtain ⟨l0, rfl, w0⟩ := recs_of Loaded.enc Loaded.WF (by kernel_rfl) (fun zs h => fit_Loaded zs h) m0 f0
  rw [List.length_map] at y0
  clear hA0 hval0 hsz0 hsz
  have main := (lawCopies_c l0 w0 y0).2 W.cell? W.cell? [.slice a0 (l0.map Loaded.enc).length cap0] W (fun _ _ h => h) (fun _ _ h => h) (fun _ _ h => h) (by
    refine ⟨rfl, fun i p v hp hv => ?_⟩
    match i, hp, hv with
    | 0, hp, hv => simp only [List.getElem?_cons_zero, List.getElem?_cons_succ, Option.some.injEq] at hp hv; subst hp; subst hv; exact .dat _ _ e0
    )
  refine main.mono ?_
  rintro e W' ⟨v, Φ', Ψ', rfl, bel, _, _, _, _, _, _, hr⟩
  obtain rfl : v = .bool true := by cases hr with | dat _ _ hr => cases hr; rfl
  exact ⟨_, rfl, _, _, _, [], _, [], hW', trodAll_mk1 (shut_bool Try.underlying4 _), (trodAll_cons_mk (Below.trod laidOut (by kernel_rfl) (of_decide_eq_true (by kernel_rfl)) k0 bel lt0) trodAll_mk0), rfl, bel.frame _, fun h => by cases h⟩
theorem jb1 : (Rows.copiesComeFromDefinitionsRow.inPlace == Try.prog.inPlace 7) = true := by kernel_rfl
theorem jb2 : (Rows.copiesComeFromDefinitionsRow.unfollowed == Try.prog.unfollowed 7) = true := by kernel_rfl
theorem jb3 : (Rows.copiesComeFromDefinitionsRow.recurses == Try.prog.recurses 7) = true := by kernel_rfl
theorem jb4 : (Rows.copiesComeFromDefinitionsRow.named == Try.prog.varsNamed 7) = true := by kernel_rfl
theorem joined : joinedFacts Try.prog 7 Try.f7 Rows.copiesComeFromDefinitionsSpec Rows.copiesComeFromDefinitionsRow = true :=
  joined_of (by kernel_rfl) laidOut jq_a3 (by kernel_rfl) (by kernel_rfl) (by kernel_rfl) (by kernel_rfl) (by kernel_rfl) jq_a9 jb1 jb2 jb3 jb4 (by kernel_rfl) (by kernel_rfl) (by kernel_rfl) (by kernel_rfl) (by kernel_rfl) (by kernel_rfl) (by kernel_rfl) (by kernel_rfl) (by kernel_rfl) jq_c5 (by kernel_rfl) jq_c7 jq_c8 jq_c9 jq_d1 (by kernel_rfl) (by kernel_rfl) (by kernel_rfl) (by kernel_rfl)
theorem over : Rows.copiesComeFromDefinitionsRow.holds Try.pinned (OpenSpec.ofChange Rows.copiesComeFromDefinitionsSpec) :=
  OpenClaim.holds_of_wide 7 Try.f7 rfl rfl rfl rfl rfl rfl rfl ⟨rfl, rfl, rfl, rfl, rfl⟩ rfl rfl rfl rfl rfl (by kernel_rfl) Try.func7 joined
    (of_decide_eq_true (by kernel_rfl)) (by unfold Func.isWrapper; first | (rw [if_pos (by decide +kernel)]; kernel_rfl) | (rw [if_neg (by decide +kernel)]; exact ⟨rfl, rfl⟩))
    (fun os started H enc _ => lifted os started H enc)
theorem proved : Rows.CopiesComeFromDefinitionsSaid := over
end Go.Proofs.Ytflpgdlgfffigaa.copiesComeFromDefinitions
namespace Go.Proofs.Ytflpgdlgfffigaa
/-- The row, under a short name, for the claim. -/
theorem copiesComeFromDefinitions_holds : Rows.CopiesComeFromDefinitionsSaid := copiesComeFromDefinitions.proved
end Go.Proofs.Ytflpgdlgfffigaa
