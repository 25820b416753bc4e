/- The law: Calls are all Inits. -/
import Derived.Test.YtflpgdlgfffigaaCCalls
set_option linter.unusedSimpArgs false
set_option linter.unusedVariables false
namespace Go.Proofs.Ytflpgdlgfffigaa
open Go Go.Abs
set_option maxRecDepth 8000
set_option maxHeartbeats 4000000

theorem bytes_Loaded : Try.prog.bytesOf 52 = 408 := by kernel_rfl
theorem loaded_bound {l : List Loaded} (hb : l.length * Try.prog.bytesOf 52 ≤ reachBytes) : l.length * 384 ≤ 140737488355328 := by
  rw [bytes_Loaded] at hb
  unfold reachBytes at hb
  omega
theorem greedy_snoc (S : List Int) (c : List Int) (x : Int) (a : Nat) : greedy S (c ++ [x]) a = if S[greedy S c a]? = some x then greedy S c a + 1 else greedy S c a := by
  rw [greedy_append]; rfl

theorem lawCalls_c (l : List Loaded) (hl : Short l ∧ ∀ x ∈ l, x.WF) (hb0 : l.length * Try.prog.bytesOf 52 ≤ reachBytes) : RCall Try.prog 6 [.dat (.sl (l.map Loaded.enc))] (.dat (.bool true)) := by
  have hb := loaded_bound hb0
  have hcalls := calls_c l hl hb
  by_cases hok : loadedF l = Fault.ok
  · have hF : callsF l = (allF l, Fault.ok) := by unfold callsF; rw [if_pos hok]
    rw [hF] at hcalls
    simp only [orderP, Fault.enc, Fault.ok, intsD] at hcalls
    obtain ⟨hc, hbad, hm⟩ := loaded_all hok
    obtain ⟨hc1, hc2, hc3⟩ := check_all hc
    rw [imagesOf_len] at hc1 hc2
    have hlen := allF_len l
    have hgr := allF_greedy l
    have hto := initsTo_le hok
    have hto5 := hto l.length
    generalize allF l = c at *
    have hcl : c.length ≤ 300 := by omega
    refine rcall_of hmix [] Try.func6 (by kernel_rfl) rfl (by simp [Try.f6]) ?_
    simp -dsimp [Try.f6]
    refine callA hcalls ?_ rfl
    simp -dsimp
    refine callA initsEx_c ?_ rfl
    simp -dsimp
    refine awp_loopN l.length (fun k s => s.t 6 = .dat (.int .i64 k) ∧ s.t 5 = .dat (.int .i64 (initsTo l k : Nat)) ∧ s.t 3 = .dat (.sl (c.map (.int .i64))) ∧ s.t 0 = .dat (.sl (l.map Loaded.enc))) ⟨by simp, by simp [initsTo], by simp, by simp⟩ ?_
    rintro k s hk ⟨h6, h5, h3, h0⟩
    by_cases hlt : k < l.length
    · have hw : IntKind.i64.wrap ((k : Int) + 1) = k + 1 := wrap_in (by omega) (by omega)
      obtain ⟨x, hx⟩ : ∃ x, l[k]? = some x := ⟨_, List.getElem?_eq_getElem hlt⟩
      have hx' : l[k] = x := (List.getElem?_eq_some_iff.1 hx).2
      have hS : initsAt l (k : Int) = x.image.inits.map fun a => W (a + x.bias) := by unfold initsAt; rw [show ((k : Int)).toNat = k by omega, hx]
      have hSl : (initsAt l (k : Int)).length = x.image.inits.length := by rw [hS]; simp
      have hsuc := initsTo_succ l k
      have hS60 := initsAt_len hok (k : Int)
      have htk := hto k
      have hwn : IntKind.i64.wrap ((initsTo l k : Int) + (x.image.inits.length : Int)) = (initsTo l (k + 1) : Nat) := by rw [hsuc, hSl, wrap_in (by omega) (by omega)]; omega
      have hgk := hgr k hlt
      have hgle : ∀ m, greedy (initsAt l (k : Int)) (c.take m) 0 ≤ (initsAt l (k : Int)).length := fun m => greedy_le _ _ _ (Nat.zero_le _)
      generalize initsAt l (k : Int) = S at *
      have hag := Loaded.ag x
      have e9 := loaded_9 x
      have e9' := loaded_9' x
      have e19 := loaded_19 x
      have e19' := loaded_19' x
      simp -dsimp [h6, h5, h3, h0, hlt, hx, hx', hag.len, e9, e9', hwn]
      have after : ∀ s2 : ASt, True := fun _ => trivial
      refine awp_loopN c.length (fun m s => s.t 8 = .dat (.int .i64 m) ∧ s.t 7 = .dat (.int .i64 (greedy S (c.take m) 0 : Nat)) ∧ s.t 6 = .dat (.int .i64 k) ∧ s.t 5 = .dat (.int .i64 (initsTo l (k + 1) : Nat)) ∧ s.t 3 = .dat (.sl (c.map (.int .i64))) ∧ s.t 0 = .dat (.sl (l.map Loaded.enc))) ⟨by simp, by simp [greedy], by simp [h6], by simp, by simp [h3], by simp [h0]⟩ ?_
      clear h6 h5 h3 h0
      rintro m s1 hm2 ⟨h8, h7, h6, h5, h3, h0⟩
      have hat := hgle m
      by_cases hml : m < c.length
      · obtain ⟨y, hy⟩ : ∃ y, c[m]? = some y := ⟨_, List.getElem?_eq_getElem hml⟩
        have hy' : c[m] = y := (List.getElem?_eq_some_iff.1 hy).2
        have hwm : IntKind.i64.wrap ((m : Int) + 1) = m + 1 := wrap_in (by omega) (by omega)
        have hsn : greedy S (c.take (m + 1)) 0 = if S[greedy S (c.take m) 0]? = some y then greedy S (c.take m) 0 + 1 else greedy S (c.take m) 0 := by
          rw [List.take_succ_eq_append_getElem hml, hy']; exact greedy_snoc _ _ _ _
        generalize greedy S (c.take m) 0 = a at *
        by_cases hal : a < x.image.inits.length
        · obtain ⟨z, hz⟩ : ∃ z, x.image.inits[a]? = some z := ⟨_, List.getElem?_eq_getElem hal⟩
          have hz' : x.image.inits[a] = z := (List.getElem?_eq_some_iff.1 hz).2
          have hSa : S[a]? = some (IntKind.i64.wrap (z + x.bias)) := by rw [hS, List.getElem?_map, hz]; rfl
          have hwa : IntKind.i64.wrap ((a : Int) + 1) = a + 1 := wrap_in (by omega) (by omega)
          rw [hSa] at hsn
          simp -dsimp [h8, h7, h6, h5, h3, h0, hml, hal, hlt, hx, hx', hag.len, e9, e9', e19, e19', hy, hy', hz, hz', hwm, hwa]
          refine ⟨by kernel_rfl, ?_⟩
          by_cases e : y = IntKind.i64.wrap (z + x.bias)
          · rw [if_pos (by rw [e])] at hsn
            simp -dsimp [e, h8, h7, h6, h5, h3, h0, hml, hwm, hwa, hsn]
          · rw [if_neg (by intro e2; injection e2 with e2; exact e e2.symm)] at hsn
            simp -dsimp [e, h8, h7, h6, h5, h3, h0, hml, hwm, hwa, hsn]
        · have hax : a = x.image.inits.length := by omega
          subst hax
          simp -dsimp [h8, h7, h6, h5, h3, h0, hml, hlt, hx, hx', hag.len, e9, e9', hw]
      · have hkl : m = c.length := by omega
        subst hkl
        rw [List.take_length, hgk, hSl] at h7
        simp -dsimp [h8, h7, h6, h5, h3, h0, hlt, hx, hx', hag.len, e9, e9', hw]
    · have hkl : k = l.length := by omega
      subst hkl
      simp -dsimp [h6, h5, h3, h0, hlen]
  · have hF : callsF l = ([], loadedF l) := by unfold callsF; rw [if_neg hok]
    have hcode : ¬ (loadedF l).code = 0 := by
      rcases good_loaded l with g | g
      · exact absurd g hok
      · exact g
    rw [hF] at hcalls
    simp only [orderP, intsD, Fault.enc] at hcalls
    refine rcall_of hmix [] Try.func6 (by kernel_rfl) rfl (by simp [Try.f6]) ?_
    simp -dsimp [Try.f6]
    refine callA hcalls ?_ rfl
    simp -dsimp
    refine callA initsEx_c ?_ rfl
    simp -dsimp [hcode]
end Go.Proofs.Ytflpgdlgfffigaa
