/- The law: copies are as the specification says. -/
import Derived.Test.YtflpgdlgfffigaaGreatCRefQ
import Derived.Test.YtflpgdlgfffigaaGreatCCopies
import Derived.Test.YtflpgdlgfffigaaGreatCImpFault
set_option linter.unusedSimpArgs false
set_option linter.unusedVariables false
namespace Go.Proofs.YtflpgdlgfffigaaGreat
open Go Go.Abs
set_option maxRecDepth 8000
set_option maxHeartbeats 4000000

theorem bytes_LoadedS : Tryz.prog.bytesOf 82 = 408 := by kernel_rfl
theorem loaded_boundS {l : List Loaded} (hb : l.length * Tryz.prog.bytesOf 82 ≤ reachBytes) : l.length * 384 ≤ 140737488355328 := by
  rw [bytes_LoadedS] at hb
  unfold reachBytes at hb
  omega
theorem copiesSpec_ok (l : List Loaded) (hl : Short l ∧ ∀ x ∈ l, x.WF) (hb : l.length * 384 ≤ 140737488355328) (hs : loadedF l = Fault.ok) (im k fc fi tv : Int) (tb : Bool)
    (hT : RCall Tryz.prog 29 [.dat (.sl (l.map Loaded.enc)), .dat (.int .i64 im), .dat (.int .i64 k)] (.tup [.dat (.int .i64 tv), .dat (.bool tb), .dat (.agg [.int .i64 fc, .int .i64 fi])]))
    (hIF : RCall Tryz.prog 30 [.dat (.sl (l.map Loaded.enc)), .dat (.int .i64 im), .dat (.int .i64 k)] (.dat (.agg [.int .i64 fc, .int .i64 fi])))
    (hcase : (¬ fc = 0 ∧ tv = 0 ∧ tb = false) ∨ (fc = 0 ∧ fi = 0 ∧ RCall Tryz.prog 33 [.dat (.sl (l.map Loaded.enc)), .dat (.int .i64 im), .dat (.int .i64 k)] (.tup [.dat (.int .i64 tv), .dat (.bool tb)]))) :
    RCall Tryz.prog 5 [.dat (.sl (l.map Loaded.enc)), .dat (.int .i64 im), .dat (.int .i64 k)] (.dat (.bool true)) := by
  have hlist := copies_list_c l hl hb
  have hlf := loadedFault_c l hl hb
  have h6 := copies6_c l hl hb hs
  have h400 := copiesOf_len hs
  have hF : listF l = (copiesOf l, Fault.ok) := by unfold listF; rw [if_pos hs]
  rw [hF] at hlist
  rw [hs] at hlf
  simp only [listP, Fault.enc, Fault.ok] at hlist hlf
  generalize copiesOf l = cs at *
  rcases hcase with ⟨hne, rfl, rfl⟩ | ⟨rfl, rfl, hT6⟩
  · refine rcall_of hmix [] Tryz.func5 (by kernel_rfl) rfl (by simp [Tryz.f5]) ?_
    simp -dsimp [Tryz.f5]
    refine callA hlist ?_ rfl
    simp -dsimp
    refine callA hT ?_ rfl
    simp -dsimp
    refine callA hlf ?_ rfl
    simp -dsimp
    refine callA hIF ?_ rfl
    simp -dsimp
    refine callA copiesEx_c ?_ rfl
    simp -dsimp [hne]
    refine callA h6 ?_ rfl
    simp -dsimp
    refine awp_loopN cs.length (fun j s => s.t 15 = .dat (.int .i64 j) ∧ s.t 7 = .dat (.sl (cs.map CopyR.enc)) ∧ s.t 14 = .dat (.sl (cs.map CopyR.enc)) ∧ s.t 13 = .bptr 13 0 ∧ s.h 13 = some [.dat (.int .i64 fc), .dat (.int .i64 fi)]) ⟨by simp, by simp, by simp, by simp, by simp⟩ ?_
    rintro j s hj ⟨h15, h7, h14, h13, hh13⟩
    by_cases hlt : j < cs.length
    · have hw : IntKind.i64.wrap ((j : Int) + 1) = j + 1 := wrap_in (by omega) (by omega)
      obtain ⟨r, hr⟩ : ∃ r, cs[j]? = some r := ⟨_, List.getElem?_eq_getElem hlt⟩
      have hr' : cs[j] = r := (List.getElem?_eq_some_iff.1 hr).2
      simp -dsimp [h15, h7, h14, h13, hh13, hlt, hr, hr', CopyR.enc, hw]
      (try (exact (show orderOk _ _ = true by kernel_rfl)))
    · have hje : j = cs.length := by omega
      subst hje
      simp -dsimp [h15, h7, h14, h13, hh13, hne]
  · refine rcall_of hmix [] Tryz.func5 (by kernel_rfl) rfl (by simp [Tryz.f5]) ?_
    simp -dsimp [Tryz.f5]
    refine callA hlist ?_ rfl
    simp -dsimp
    refine callA hT ?_ rfl
    simp -dsimp
    refine callA hlf ?_ rfl
    simp -dsimp
    refine callA hIF ?_ rfl
    simp -dsimp
    refine callA copiesEx_c ?_ rfl
    simp -dsimp
    refine callA h6 ?_ rfl
    simp -dsimp
    refine awp_loopN cs.length (fun j s => s.t 15 = .dat (.int .i64 j) ∧ s.t 7 = .dat (.sl (cs.map CopyR.enc)) ∧ s.t 14 = .dat (.sl (cs.map CopyR.enc)) ∧ s.t 13 = .bptr 13 0 ∧ s.h 13 = some [.dat (.int .i64 0), .dat (.int .i64 0)] ∧ s.t 0 = .dat (.sl (l.map Loaded.enc)) ∧ s.t 1 = .dat (.int .i64 im) ∧ s.t 2 = .dat (.int .i64 k) ∧ s.t 9 = .dat (.int .i64 tv) ∧ s.t 10 = .dat (.bool tb)) ⟨by simp, by simp, by simp, by simp, by simp, by simp, by simp, by simp, by simp, by simp⟩ ?_
    rintro j s hj ⟨h15, h7, h14, h13, hh13, h0, h1, h2, h9, h10⟩
    by_cases hlt : j < cs.length
    · have hw : IntKind.i64.wrap ((j : Int) + 1) = j + 1 := wrap_in (by omega) (by omega)
      obtain ⟨r, hr⟩ : ∃ r, cs[j]? = some r := ⟨_, List.getElem?_eq_getElem hlt⟩
      have hr' : cs[j] = r := (List.getElem?_eq_some_iff.1 hr).2
      simp -dsimp [h15, h7, h14, h13, hh13, h0, h1, h2, h9, h10, hlt, hr, hr', CopyR.enc, hw]
      (try (exact (show orderOk _ _ = true by kernel_rfl)))
    · have hje : j = cs.length := by omega
      subst hje
      simp -dsimp [h15, h7, h14, h13, hh13, h0, h1, h2, h9, h10]
      refine callA hT6 ?_ rfl
      simp -dsimp [h9, h10]

theorem lawCopiesSpec_c (l : List Loaded) (hl : Short l ∧ ∀ x ∈ l, x.WF) (hb0 : l.length * Tryz.prog.bytesOf 82 ≤ reachBytes) (im : Int) (him : I64 im) (k : Int) (hk64 : I64 k) :
    RCall Tryz.prog 5 [.dat (.sl (l.map Loaded.enc)), .dat (.int .i64 im), .dat (.int .i64 k)] (.dat (.bool true)) := by
  have hb := loaded_boundS hb0
  have hT := copies_target_c l hl hb im k
  rcases fault_cases (loadedF l) with hs | ⟨c, n, hs, hne, hcn⟩
  · by_cases hin : im < 0 ∨ (l.length : Int) ≤ im
    · have hF : targetC l im k = ((0, false), ⟨3, -9⟩) := by unfold targetC; rw [if_neg (by simp [hs]), if_pos hin]
      rw [hF] at hT
      exact copiesSpec_ok l hl hb hs im k 3 (-9) 0 false hT (importFault_out l hl hb hs im k hin) (.inl ⟨by decide, rfl, rfl⟩)
    · obtain ⟨ik, rfl⟩ : ∃ ik : Nat, im = ik := ⟨im.toNat, by omega⟩
      have hil : ik < l.length := by omega
      obtain ⟨y, hy⟩ : ∃ y, l[ik]? = some y := ⟨_, List.getElem?_eq_getElem hil⟩
      have hif := importFault_in l hl hb hs ik y hy k
      by_cases hk : k < 0 ∨ (y.image.imports.length : Int) ≤ k
      · have hF : targetC l ik k = ((0, false), ⟨3, -9⟩) := by unfold targetC; rw [if_neg (by simp [hs]), if_neg hin, show ((ik : Nat) : Int).toNat = ik by omega, hy]; simp only; rw [if_pos hk]
        rw [hF] at hT
        rw [if_pos hk] at hif
        exact copiesSpec_ok l hl hb hs ik k 3 (-9) 0 false hT hif (.inl ⟨by decide, rfl, rfl⟩)
      · obtain ⟨kp, rfl⟩ : ∃ kp : Nat, k = kp := ⟨k.toNat, by omega⟩
        have hkl : kp < y.image.imports.length := by omega
        obtain ⟨m, hm⟩ : ∃ m, y.image.imports[kp]? = some m := ⟨_, List.getElem?_eq_getElem hkl⟩
        have hF : targetC l ik kp = (tgtC l ik y m, Fault.ok) := by unfold targetC; rw [if_neg (by simp [hs]), if_neg hin, show ((ik : Nat) : Int).toNat = ik by omega, hy]; simp only; rw [if_neg hk, show ((kp : Nat) : Int).toNat = kp by omega, hm]
        rw [hF] at hT
        rw [if_neg hk] at hif
        exact copiesSpec_ok l hl hb hs ik kp 0 0 (tgtC l ik y m).1 (tgtC l ik y m).2 hT hif (.inr ⟨rfl, rfl, target6_c l hl hb hs ik y hy kp m hm⟩)
  · have hF : targetC l im k = ((0, false), ⟨c, n⟩) := by unfold targetC; rw [if_pos hne, hs]
    have hL : listF l = ([], ⟨c, n⟩) := by unfold listF; rw [if_neg hne, hs]
    have hlist := copies_list_c l hl hb
    have hlf := loadedFault_c l hl hb
    have hc0 : ¬ c = 0 := by
      rcases good_loaded l with g | g
      · exact absurd g hne
      · rw [hs] at g; exact g
    have hif := importFault_bad l hl hb hs hc0 im k
    rw [hF] at hT
    rw [hL] at hlist
    rw [hs] at hlf
    simp only [listP, tgtP, Fault.enc, List.map_nil] at hlist hT hlf
    refine rcall_of hmix [] Tryz.func5 (by kernel_rfl) rfl (by simp [Tryz.f5]) ?_
    simp -dsimp [Tryz.f5]
    refine callA hlist ?_ rfl
    simp -dsimp
    refine callA hT ?_ rfl
    simp -dsimp
    refine callA hlf ?_ rfl
    simp -dsimp
    refine callA hif ?_ rfl
    simp -dsimp
    refine callA copiesEx_c ?_ rfl
    simp -dsimp [hc0]
end Go.Proofs.YtflpgdlgfffigaaGreat
