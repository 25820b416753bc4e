/- The law: what is needed comes first. -/
import Derived.Test.YtflpgdlgfffigaaCCyclic
import Derived.Test.YtflpgdlgfffigaaCCalls
import Derived.Test.YtflpgdlgfffigaaCHas5
set_option linter.unusedSimpArgs false
set_option linter.unusedVariables false
namespace Go.Proofs.Ytflpgdlgfffigaa
open Go Go.Abs
set_option maxRecDepth 8000
set_option maxHeartbeats 4000000

theorem lawNeeded_c (l : List Image) (hl : Short l ∧ ∀ x ∈ l, x.WF) (hb : l.length * Try.prog.bytesOf 46 ≤ reachBytes) :
    RCall Try.prog 5 [.dat (.sl (l.map Image.enc))] (.dat (.bool true)) := by
  have hord := initsOrder_c l hl
  rcases fault_cases (checkF l) with hs | ⟨c, n, hs, hne, hcn⟩
  · cases hm : missing l with
    | some i =>
      have hF : initsOrderF l = ([], ⟨6, i⟩) := by unfold initsOrderF; rw [if_pos hs, hm]
      rw [hF] at hord
      simp only [orderP, Fault.enc, intsD, List.map_nil] at hord
      refine rcall_of hmix [] Try.func5 (by kernel_rfl) rfl (by simp [Try.f5]) ?_
      simp -dsimp [Try.f5]
      refine callA hord ?_ rfl
      simp -dsimp
      refine callA initsEx_c ?_ rfl
      simp -dsimp
    | none =>
      have hF : initsOrderF l = (sortedF (needRows l), Fault.ok) := by unfold initsOrderF; rw [if_pos hs, hm]
      rw [hF] at hord
      simp only [orderP, Fault.enc, Fault.ok, intsD] at hord
      obtain ⟨hc1, hc2, _⟩ := check_all hs
      have hok := needRows_ok hm
      have hnl := needRows_len l
      have hnice := sortedF_nice (needRows l)
      rw [hnl] at hnice
      have hneed := fun (p i : Nat) (row : List Int) (v : Int) h1 h2 h3 h4 h5 => @needed_first (needRows l) hok p i h1 row h2 v h3 h4 h5
      have hcyc := fun (i : Nat) hi => cyclic_c l hl (by omega) (fun x hx => by have := image_needs (check_img hs hx); omega) hm i hi
      have hget : ∀ (i : Nat) (x : Image), l[i]? = some x → (needRows l)[i]? = some (needRow l x) := fun i x h => by simp [needRows, h]
      generalize sortedF (needRows l) = out at *
      obtain ⟨hno, hol⟩ := hnice
      refine rcall_of hmix [] Try.func5 (by kernel_rfl) rfl (by simp [Try.f5]) ?_
      simp -dsimp [Try.f5]
      refine callA hord ?_ rfl
      simp -dsimp
      refine callA initsEx_c ?_ rfl
      simp -dsimp
      refine awp_loopN out.length (fun p s => s.t 5 = .dat (.int .i64 p) ∧ s.t 3 = .dat (.sl (out.map (.int .i64))) ∧ s.t 0 = .dat (.sl (l.map Image.enc))) ⟨by simp, by simp, by simp⟩ ?_
      rintro p s hp ⟨h5, h3, h0⟩
      by_cases hlt : p < out.length
      · have hw : IntKind.i64.wrap ((p : Int) + 1) = p + 1 := wrap_in (by omega) (by omega)
        obtain ⟨i, hi⟩ : ∃ i, out[p]? = some i := ⟨_, List.getElem?_eq_getElem hlt⟩
        have hin := hno.2 i (List.mem_of_getElem? hi)
        obtain ⟨i, rfl⟩ : ∃ i' : Nat, i = i' := ⟨i.toNat, by omega⟩
        have hi' : ∀ h, out[p]'h = (i : Int) := fun h => (List.getElem?_eq_some_iff.1 hi).2
        have hil : i < l.length := by omega
        obtain ⟨x, hx⟩ : ∃ x, l[i]? = some x := ⟨_, List.getElem?_eq_getElem hil⟩
        have hx' : ∀ h, l[i]'h = x := fun h => (List.getElem?_eq_some_iff.1 hx).2
        have hxn := image_needs (check_img hs (List.mem_of_getElem? hx))
        have hag := Image.ag x
        have hnd : x.enc.cells[11]? = some (.sl (x.needs.map .str)) := rfl
        have hnd2 : ∀ h, x.enc.cells[11]'h = .sl (x.needs.map .str) := fun _ => rfl
        have hrow := hget i x hx
        have htk : (out.map (Dat.int IntKind.i64)).take p = (out.take p).map (Dat.int IntKind.i64) := (List.map_take).symm
        have hple : (p : Int) ≤ out.length := by omega
        simp -dsimp [h5, h3, h0, hlt, hi, hi', hil, hx, hx', hag.len, hnd, hnd2]
        refine awp_loopN x.needs.length (fun q s => s.t 7 = .dat (.int .i64 q) ∧ s.t 6 = .dat (.sl (x.needs.map .str)) ∧ s.t 5 = .dat (.int .i64 p) ∧ s.t 3 = .dat (.sl (out.map (.int .i64))) ∧ s.t 0 = .dat (.sl (l.map Image.enc))) ⟨by simp, by simp, by simp [h5], by simp [h3], by simp [h0]⟩ ?_
        clear h5 h3 h0
        rintro q s1 hq ⟨h7, h6, h5, h3, h0⟩
        by_cases hql : q < x.needs.length
        · have hwq : IntKind.i64.wrap ((q : Int) + 1) = q + 1 := wrap_in (by omega) (by omega)
          obtain ⟨nm, hnm⟩ : ∃ nm, x.needs[q]? = some nm := ⟨_, List.getElem?_eq_getElem hql⟩
          have hnm' : ∀ h, x.needs[q]'h = nm := fun h => (List.getElem?_eq_some_iff.1 hnm).2
          have hmem : named l nm ∈ needRow l x := by unfold needRow; exact List.mem_map_of_mem (List.mem_of_getElem? hnm)
          have hhas := has_c (out.take p) (by unfold Short; simp; omega) (named l nm)
          unfold intsD at hhas
          rw [← htk] at hhas
          simp -dsimp [h7, h6, h5, h3, h0, hql, hnm, hnm']
          refine callA (named6_c l hl.1 nm) ?_ rfl
          by_cases e : named l nm = i
          · simp -dsimp [h7, h6, h5, h3, h0, hlt, hi, hi', e, hwq, hql]
          · simp -dsimp [h7, h6, h5, h3, h0, hlt, hi, hi', e, hple]
            refine callA hhas ?_ rfl
            cases hh : hasI (out.take p) (named l nm)
            · have hcy := hneed p i _ _ hi hrow hmem e hh
              have hcall := hcyc i hil
              rw [hcy] at hcall
              simp -dsimp [h7, h6, h5, h3, h0, hlt, hi, hi', hh]
              refine callA hcall ?_ rfl
              simp -dsimp [h7, h6, h5, h3, h0, hwq, hql]
            · simp -dsimp [h7, h6, h5, h3, h0, hlt, hi, hi', hh, hwq, hql]
        · have hqe : q = x.needs.length := by omega
          subst hqe
          simp -dsimp [h7, h6, h5, h3, h0, hw, hlt]
      · have hpe : p = out.length := by omega
        subst hpe
        simp -dsimp [h5, h3, h0]
  · have hF : initsOrderF l = ([], ⟨c, n⟩) := by unfold initsOrderF; rw [if_neg hne, hs]
    have hc0 : ¬ c = 0 := by
      rcases good_check l with g | g
      · exact absurd g hne
      · rw [hs] at g; exact g
    rw [hF] at hord
    simp only [orderP, Fault.enc, intsD, List.map_nil] at hord
    refine rcall_of hmix [] Try.func5 (by kernel_rfl) rfl (by simp [Try.f5]) ?_
    simp -dsimp [Try.f5]
    refine callA hord ?_ rfl
    simp -dsimp
    refine callA initsEx_c ?_ rfl
    simp -dsimp [hc0]
end Go.Proofs.Ytflpgdlgfffigaa
