/- The law: lazy and eager words agree. -/
import Derived.Test.YtflpgdlgfffigaaCBindEx
set_option linter.unusedSimpArgs false
set_option linter.unusedVariables false
namespace Go.Proofs.Ytflpgdlgfffigaa
open Go Go.Abs
set_option maxRecDepth 8000
set_option maxHeartbeats 4000000

theorem bytes_LoadedL : Try.prog.bytesOf 52 = 408 := by kernel_rfl
theorem loaded_boundL {l : List Loaded} (hb : l.length * Try.prog.bytesOf 52 ≤ reachBytes) : l.length * 384 ≤ 140737488355328 := by
  rw [bytes_LoadedL] at hb
  unfold reachBytes at hb
  omega
theorem lawLazy_c (l : List Loaded) (hl : Short l ∧ ∀ x ∈ l, x.WF) (hb0 : l.length * Try.prog.bytesOf 52 ≤ reachBytes) (im : Int) (him : I64 im) :
    RCall Try.prog 9 [.dat (.sl (l.map Loaded.enc)), .dat (.int .i64 im)] (.dat (.bool true)) := by
  have hb := loaded_boundL hb0
  have hw1 := words_c l hl hb im false
  have hw2 := words_c l hl hb im true
  rcases words_cases l im with ⟨f, hf, hF⟩ | ⟨hok, ik, y, rfl, hy, hF⟩
  · rw [hF false] at hw1
    rw [hF true] at hw2
    simp only [wordsP, Fault.enc, List.map_nil] at hw1 hw2
    refine rcall_of hmix [] Try.func9 (by kernel_rfl) rfl (by simp [Try.f9]) ?_
    simp -dsimp [Try.f9]
    refine callA bindEx_c ?_ rfl
    simp -dsimp
    refine callA hw1 ?_ rfl
    simp -dsimp
    refine callA hw2 ?_ rfl
    simp -dsimp [hf]
  · rw [hF false] at hw1
    rw [hF true] at hw2
    have hyl := List.mem_of_getElem? hy
    have himl : ik < l.length := (List.getElem?_eq_some_iff.1 hy).1
    obtain ⟨hc, hbad, hm⟩ := loaded_all hok
    obtain ⟨hc1, hc2, hc3⟩ := check_all hc
    rw [imagesOf_len] at hc1 hc2
    have hi80 := (image_imports (loaded_image hok hyl)).1
    obtain ⟨hp1, hp2⟩ := allOf_pairs l ik y
    have hlen680 := allOf_len hok (im := (ik : Int)) hyl false
    have hgood : Go.Abs.Good (allOf l ik y false).2 := runFix_good _ _ _
    have hone := fun k : Nat => one_c l hl hb ik k
    generalize allOf l ik y false = R1 at *
    generalize allOf l ik y true = R2 at *
    obtain ⟨us, f⟩ := R1
    obtain ⟨bs, f2⟩ := R2
    simp only at hp1 hp2 hlen680 hgood
    subst hp1
    simp only [wordsP, Fault.enc] at hw1 hw2
    rcases hgood with rfl | hfc
    · simp only [Fault.ok] at hw1 hw2
      obtain ⟨hlen, hpair⟩ := hp2
      refine rcall_of hmix [] Try.func9 (by kernel_rfl) rfl (by simp [Try.f9]) ?_
      simp -dsimp [Try.f9]
      refine callA bindEx_c ?_ rfl
      simp -dsimp
      refine callA hw1 ?_ rfl
      simp -dsimp
      refine callA hw2 ?_ rfl
      simp -dsimp [hlen]
      refine awp_loopN us.length (fun i s => s.t 9 = .dat (.int .i64 i) ∧ s.t 5 = .dat (.sl (us.map Bound.enc)) ∧ s.t 7 = .dat (.sl (bs.map Bound.enc)) ∧ s.t 0 = .dat (.sl (l.map Loaded.enc)) ∧ s.t 1 = .dat (.int .i64 ik)) ⟨by simp, by simp, by simp, by simp, by simp⟩ ?_
      rintro i s hi ⟨h9, h5, h7, h0, h1⟩
      by_cases hlt : i < us.length
      · have hwi : IntKind.i64.wrap ((i : Int) + 1) = i + 1 := wrap_in (by omega) (by omega)
        have hltb : i < bs.length := by omega
        obtain ⟨a, hai⟩ : ∃ a, us[i]? = some a := ⟨_, List.getElem?_eq_getElem hlt⟩
        have hai' : us[i] = a := (List.getElem?_eq_some_iff.1 hai).2
        obtain ⟨b, hbi⟩ : ∃ b, bs[i]? = some b := ⟨_, List.getElem?_eq_getElem hltb⟩
        have hbi' : bs[i] = b := (List.getElem?_eq_some_iff.1 hbi).2
        obtain ⟨hadr, hval⟩ := hpair i a b hai hbi
        by_cases hv : a.value = b.value
        · simp -dsimp [h9, h5, h7, h0, h1, hlt, hltb, hai, hai', hbi, hbi', Bound.enc, hadr, hv, hwi]
          (try (show orderOk _ _ = true ∧ orderOk _ _ = true; exact ⟨by kernel_rfl, by kernel_rfl⟩))
        · obtain ⟨k, m, hm1, hs0, hslot, hbv⟩ := hval.resolve_left hv
          have hk80 : k < 80 := by have := (List.getElem?_eq_some_iff.1 hm1).1; omega
          have hcode := codeOf_in (im := ik) (k := k) (by omega) hk80
          have hbv2 : b.value = 983040 + 4 * (80 * (ik : Int) + k) := by rw [hbv, hcode, wrapU_in (by omega) (by omega)]
          have e1 : IntKind.i64.wrap b.value = b.value := wrap_in (by omega) (by omega)
          have e2 : IntKind.i64.wrap (b.value - 983040) = b.value - 983040 := wrap_in (by omega) (by omega)
          have e3 : (b.value - 983040).tdiv 4 = 80 * (ik : Int) + k := by
            rw [hbv2, show 983040 + 4 * (80 * (ik : Int) + k) - 983040 = 4 * (80 * (ik : Int) + k) by omega]
            exact Int.mul_tdiv_cancel_left _ (by omega)
          have e4 : IntKind.i64.wrap (80 * (ik : Int) + k) = 80 * (ik : Int) + k := wrap_in (by omega) (by omega)
          have e5 : IntKind.i64.wrap (80 * (ik : Int)) = 80 * (ik : Int) := wrap_in (by omega) (by omega)
          have e6 : IntKind.i64.wrap (80 * (ik : Int) + k - 80 * (ik : Int)) = k := by rw [wrap_in (by omega) (by omega)]; omega
          have hF1 : oneF l ik k = (a, Fault.ok) := by
            have him : importAt y (k : Int) = m := by unfold importAt; rw [show ((k : Nat) : Int).toNat = k by omega, hm1]
            have hkl : k < y.image.imports.length := (List.getElem?_eq_some_iff.1 hm1).1
            unfold oneF
            rw [if_neg (by simp [hok]), if_neg (by omega), show ((ik : Nat) : Int).toNat = ik by omega, hy]
            simp only [him]
            rw [if_neg (by omega), if_neg hs0, hslot]
            simp
          have hok1 := hone k
          rw [hF1] at hok1
          simp only [oneP, Bound.enc, Fault.enc, Fault.ok] at hok1
          simp -dsimp [h9, h5, h7, h0, h1, hlt, hltb, hai, hai', hbi, hbi', Bound.enc, hadr, hv, e1, e2, e3, e4, e5, e6]
          repeat' (first | (refine gif ?_ ?_ <;> intro h <;> (try simp only [Bool.not_eq_eq_eq_not, Bool.not_true, Bool.not_false, decide_eq_true_eq, decide_eq_false_iff_not] at h) <;> (try simp -dsimp [h])) | (refine And.intro (show orderOk _ _ = true by kernel_rfl) ?_) | (show orderOk _ _ = true; kernel_rfl) | (refine callA (hadr ▸ hok1) ?_ rfl; simp -dsimp [h9, h5, h7, h0, h1, hlt, hltb, hai, hai', hbi, hbi', Bound.enc, hadr, hv, hwi]))
      · have hkl : i = us.length := by omega
        subst hkl
        simp -dsimp [h9, h5, h7, h0, h1]
    · refine rcall_of hmix [] Try.func9 (by kernel_rfl) rfl (by simp [Try.f9]) ?_
      simp -dsimp [Try.f9]
      refine callA bindEx_c ?_ rfl
      simp -dsimp
      refine callA hw1 ?_ rfl
      simp -dsimp
      refine callA hw2 ?_ rfl
      simp -dsimp [hfc]
end Go.Proofs.Ytflpgdlgfffigaa
