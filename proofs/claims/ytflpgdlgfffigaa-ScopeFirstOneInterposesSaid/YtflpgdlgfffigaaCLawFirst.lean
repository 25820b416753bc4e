/- The law: the first one interposes. -/
import Derived.Test.YtflpgdlgfffigaaCOrder
set_option linter.unusedSimpArgs false
set_option linter.unusedVariables false
namespace Go.Proofs.Ytflpgdlgfffigaa
open Go Go.Abs
set_option maxRecDepth 8000
set_option maxHeartbeats 4000000

theorem lawFirst_c (l : List Image) (hl : Short l ∧ ∀ x ∈ l, x.WF) (hb : l.length * Try.prog.bytesOf 46 ≤ reachBytes) (order : List Int) (ho : Short order ∧ ∀ n ∈ order, I64 n) (hob : order.length * Try.prog.bytesOf 3 ≤ reachBytes)
    (nm : Str) (hnm : ShortS nm) (v : Str) (hv : ShortS v) : RCall Try.prog 4 [.dat (.sl (l.map Image.enc)), .dat (.sl (order.map (.int .i64))), .dat (.str nm), .dat (.str v)] (.dat (.bool true)) := by
  have hf := find_c l hl order ho.1 nm v
  have key : (∃ f : Fault, ¬ f.code = 0 ∧ findF l order nm v = ((0, 0, false), f)) ∨ (checkF l = Fault.ok ∧ order.any (outside l.length) = false ∧ findF l order nm v = (lookupF l nm v order, Fault.ok)) := by
    unfold findF
    by_cases hc : checkF l = Fault.ok
    · rw [if_neg (by simp [hc])]
      by_cases ha : order.any (outside l.length) = true
      · rw [if_pos ha]; exact .inl ⟨⟨3, -2⟩, by simp, rfl⟩
      · rw [if_neg ha]; exact .inr ⟨hc, by simpa using ha, rfl⟩
    · rw [if_pos hc]
      refine .inl ⟨_, ?_, rfl⟩
      rcases good_check l with g | g
      · exact absurd g hc
      · exact g
  rcases key with ⟨f, hfc, h⟩ | ⟨hc, ha, h⟩
  · rw [h] at hf
    simp only [findP, Fault.enc] at hf
    refine rcall_of hmix [] Try.func4 (by kernel_rfl) rfl (by simp [Try.f4]) ?_
    simp -dsimp [Try.f4]
    refine callA scopeEx_c ?_ rfl
    simp -dsimp
    refine callA hf ?_ rfl
    simp -dsimp [hfc]
  · rw [h] at hf
    simp only [findP, Fault.enc, Fault.ok] at hf
    cases order with
    | nil =>
      simp only [lookupF] at hf
      refine rcall_of hmix [] Try.func4 (by kernel_rfl) rfl (by simp [Try.f4]) ?_
      simp -dsimp [Try.f4]
      refine callA scopeEx_c ?_ rfl
      simp -dsimp
      refine callA hf ?_ rfl
      simp -dsimp
    | cons o os =>
      have ha2 := ha
      simp only [List.any_cons, Bool.or_eq_false_iff] at ha2
      have hos : Short os := by have := ho.1; unfold Short at this ⊢; simp at this; omega
      have hf1 := find_c l hl [o] (by simp [Short]) nm v
      have hf2 := find_c l hl os hos nm v
      have e1 : findF l [o] nm v = (lookupF l nm v [o], Fault.ok) := by unfold findF; rw [if_neg (by simp [hc]), if_neg (by simp [ha2.1])]
      have e2 : findF l os nm v = (lookupF l nm v os, Fault.ok) := by unfold findF; rw [if_neg (by simp [hc]), if_neg (by simp [ha2.2])]
      rw [e1] at hf1
      rw [e2] at hf2
      simp only [findP, Fault.enc, Fault.ok, lookupF] at hf hf1 hf2
      have hlen : (1 : Int) ≤ (os.length : Int) + 1 := by omega
      have htn : ((os.length : Int) + 1).toNat = os.length + 1 := by omega
      have htk : List.take os.length (List.map (Dat.int IntKind.i64) os) = List.map (Dat.int IntKind.i64) os := List.take_of_length_le (by simp)
      by_cases hx : 0 ≤ exportAt l o nm v
      · rw [if_pos hx] at hf hf1
        generalize lookupF l nm v os = r at *
        obtain ⟨r1, r2, r3⟩ := r
        refine rcall_of hmix [] Try.func4 (by kernel_rfl) rfl (by simp [Try.f4]) ?_
        simp -dsimp [Try.f4]
        refine callA scopeEx_c ?_ rfl
        simp -dsimp
        refine callA hf ?_ rfl
        simp -dsimp [hlen, htn, htk]
        repeat' (first | (refine gif ?_ ?_ <;> intro h <;> (try simp only [Bool.not_eq_eq_eq_not, Bool.not_true, Bool.not_false, decide_eq_true_eq, decide_eq_false_iff_not] at h) <;> (try simp -dsimp [h, hlen, htn, htk])) | (refine And.intro (show orderOk _ _ = true by kernel_rfl) ?_) | (show orderOk _ _ = true; kernel_rfl) | (refine callA hf1 ?_ rfl; simp -dsimp [hlen, htn, htk]) | (refine callA hf2 ?_ rfl; simp -dsimp [hlen, htn, htk]))
        all_goals first | omega | (simp_all; done) | skip
      · rw [if_neg hx] at hf hf1
        generalize lookupF l nm v os = r at *
        obtain ⟨r1, r2, r3⟩ := r
        refine rcall_of hmix [] Try.func4 (by kernel_rfl) rfl (by simp [Try.f4]) ?_
        simp -dsimp [Try.f4]
        refine callA scopeEx_c ?_ rfl
        simp -dsimp
        refine callA hf ?_ rfl
        simp -dsimp [hlen, htn, htk]
        repeat' (first | (refine gif ?_ ?_ <;> intro h <;> (try simp only [Bool.not_eq_eq_eq_not, Bool.not_true, Bool.not_false, decide_eq_true_eq, decide_eq_false_iff_not] at h) <;> (try simp -dsimp [h, hlen, htn, htk])) | (refine And.intro (show orderOk _ _ = true by kernel_rfl) ?_) | (show orderOk _ _ = true; kernel_rfl) | (refine callA hf1 ?_ rfl; simp -dsimp [hlen, htn, htk]) | (refine callA hf2 ?_ rfl; simp -dsimp [hlen, htn, htk]))
        all_goals first | omega | (simp_all; done) | skip
end Go.Proofs.Ytflpgdlgfffigaa
