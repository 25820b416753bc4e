/- The law: inits.Order and inits.Calls are as the specification says. -/
import Derived.Test.YtflpgdlgfffigaaGreatCRefM
import Derived.Test.YtflpgdlgfffigaaGreatCLawB
set_option linter.unusedSimpArgs false
set_option linter.unusedVariables false
namespace Go.Proofs.YtflpgdlgfffigaaGreat
open Go Go.Abs
set_option maxRecDepth 8000
set_option maxHeartbeats 4000000

theorem lawInitsSpec_c (l : List Image) (hl : Short l ∧ ∀ x ∈ l, x.WF) (hb : l.length * Tryz.prog.bytesOf 80 ≤ reachBytes) (l2 : List Loaded) (hl2 : Short l2 ∧ ∀ x ∈ l2, x.WF) (hb2 : l2.length * Tryz.prog.bytesOf 82 ≤ reachBytes) :
    RCall Tryz.prog 4 [.dat (.sl (l.map Image.enc)), .dat (.sl (l2.map Loaded.enc))] (.dat (.bool true)) := by
  have hb3 := loaded_bound hb2
  have hord := initsOrder_c l hl
  have hcalls := calls_c l2 hl2 hb3
  have hchk := imagesFault_c l hl
  have hneeds := needsFault_c l hl
  have hlf := loadedFault_c l2 hl2 hb3
  -- the first half
  obtain ⟨L, c, n, gc, gi, hof, hck, hg⟩ : ∃ (L : List Int) (c n gc gi : Int), initsOrderF l = (L, ⟨gc, gi⟩) ∧ checkF l = ⟨c, n⟩ ∧
      ((c = 0 ∧ n = 0 ∧ needsFault l = ⟨gc, gi⟩ ∧ ((gc = 0 ∧ gi = 0 ∧ L = sortedF (needRows l) ∧ missing l = none) ∨ (gc = 6 ∧ L = []))) ∨ (¬ c = 0 ∧ gc = c ∧ gi = n ∧ L = [])) := by
    unfold initsOrderF needsFault
    rcases fault_cases (checkF l) with hs | ⟨c, n, hs, hne, hcn⟩
    · rw [if_pos hs]
      cases hm : missing l with
      | none => exact ⟨_, 0, 0, 0, 0, rfl, hs, .inl ⟨rfl, rfl, rfl, .inl ⟨rfl, rfl, rfl, rfl⟩⟩⟩
      | some i => exact ⟨_, 0, 0, 6, i, rfl, hs, .inl ⟨rfl, rfl, rfl, .inr ⟨rfl, rfl⟩⟩⟩
    · rw [if_neg hne, hs]
      refine ⟨_, c, n, c, n, rfl, rfl, .inr ⟨?_, rfl, rfl, rfl⟩⟩
      rcases good_check l with g | g
      · exact absurd g hne
      · rw [hs] at g; exact g
  obtain ⟨C, hc, hi, hcf, hlc, hh⟩ : ∃ (C : List Int) (hc hi : Int), callsF l2 = (C, ⟨hc, hi⟩) ∧ loadedF l2 = ⟨hc, hi⟩ ∧ ((hc = 0 ∧ hi = 0 ∧ C = allF l2) ∨ (¬ hc = 0 ∧ C = [])) := by
    unfold callsF
    rcases fault_cases (loadedF l2) with hs | ⟨c, n, hs, hne, hcn⟩
    · rw [if_pos hs]; exact ⟨_, 0, 0, rfl, hs, .inl ⟨rfl, rfl, rfl⟩⟩
    · rw [if_neg hne, hs]
      refine ⟨_, c, n, rfl, rfl, .inr ⟨?_, rfl⟩⟩
      rcases good_loaded l2 with g | g
      · exact absurd g hne
      · rw [hs] at g; exact g
  rw [hof] at hord
  rw [hck] at hchk
  rw [hcf] at hcalls
  rw [hlc] at hlf
  simp only [orderP, Fault.enc, intsD] at hord hcalls hchk hlf
  -- the calls of the tail
  have hfirst : L = sortedF (needRows l) → missing l = none → c = 0 → n = 0 → Short L ∧ RCall Tryz.prog 26 [.dat (.sl (l.map Image.enc))] (.dat (intsD L)) := fun h1 h2 h3 h4 => by
    have hs : checkF l = Fault.ok := by rw [hck, h3, h4]; rfl
    obtain ⟨hc1, hc2, _⟩ := check_all hs
    have hn := sortedF_nice (needRows l)
    rw [needRows_len] at hn
    subst h1
    exact ⟨by unfold Short; omega, first6_c l hl (by omega) (fun x hx => by have := image_needs (check_img hs hx); omega) h2⟩
  have hcalled : C = allF l2 → hc = 0 → hi = 0 → Short C ∧ RCall Tryz.prog 27 [.dat (.sl (l2.map Loaded.enc))] (.dat (intsD C)) := fun h1 h2 h3 => by
    have hs : loadedF l2 = Fault.ok := by rw [hlc, h2, h3]; rfl
    obtain ⟨hk, _, _⟩ := loaded_all hs
    obtain ⟨hc1, hc2, _⟩ := check_all hk
    rw [imagesOf_len] at hc2
    have h4 := allF_len l2
    have h5 := initsTo_le hs l2.length
    subst h1
    exact ⟨by unfold Short; omega, called6_c l2 hl2 hb3 hs⟩
  have hints : ∀ X : List Int, Short X → RCall Tryz.prog 19 [.dat (.sl (X.map (.int .i64))), .dat (.sl (X.map (.int .i64)))] (.dat (.bool true)) := fun X hX => by
    have := ints_c X X hX hX
    simpa [intsD] using this
  unfold intsD at hfirst hcalled
  rcases hg with ⟨rfl, rfl, hnf, hg⟩ | ⟨hc0, rfl, rfl, rfl⟩
  · rw [hnf] at hneeds
    simp only [Fault.enc] at hneeds
    rcases hg with ⟨rfl, rfl, hL, hm⟩ | ⟨rfl, rfl⟩
    · obtain ⟨q1, q2⟩ := hfirst hL hm rfl rfl
      have q3 := hints L q1
      rcases hh with ⟨rfl, rfl, hC⟩ | ⟨hh0, rfl⟩
      · obtain ⟨p1, p2⟩ := hcalled hC rfl rfl
        have p3 := hints C p1
        refine rcall_of hmix [] Tryz.func4 (by kernel_rfl) rfl (by simp [Tryz.f4]) ?_
        simp -dsimp [Tryz.f4]
        refine callA hord ?_ rfl
        simp -dsimp
        refine callA hcalls ?_ rfl
        simp -dsimp
        refine callA hchk ?_ rfl
        simp -dsimp
        refine callA hneeds ?_ rfl
        simp -dsimp
        refine callA hlf ?_ rfl
        simp -dsimp
        refine callA initsEx_c ?_ rfl
        simp -dsimp
        refine callA q2 ?_ rfl
        simp -dsimp
        refine callA q3 ?_ rfl
        simp -dsimp
        refine callA p2 ?_ rfl
        simp -dsimp
        refine callA p3 ?_ rfl
        simp -dsimp
      · refine rcall_of hmix [] Tryz.func4 (by kernel_rfl) rfl (by simp [Tryz.f4]) ?_
        simp -dsimp [Tryz.f4]
        refine callA hord ?_ rfl
        simp -dsimp
        refine callA hcalls ?_ rfl
        simp -dsimp
        refine callA hchk ?_ rfl
        simp -dsimp
        refine callA hneeds ?_ rfl
        simp -dsimp
        refine callA hlf ?_ rfl
        simp -dsimp
        refine callA initsEx_c ?_ rfl
        simp -dsimp
        refine callA q2 ?_ rfl
        simp -dsimp
        refine callA q3 ?_ rfl
        simp -dsimp [hh0]
    · rcases hh with ⟨rfl, rfl, hC⟩ | ⟨hh0, rfl⟩
      · obtain ⟨p1, p2⟩ := hcalled hC rfl rfl
        have p3 := hints C p1
        refine rcall_of hmix [] Tryz.func4 (by kernel_rfl) rfl (by simp [Tryz.f4]) ?_
        simp -dsimp [Tryz.f4]
        refine callA hord ?_ rfl
        simp -dsimp
        refine callA hcalls ?_ rfl
        simp -dsimp
        refine callA hchk ?_ rfl
        simp -dsimp
        refine callA hneeds ?_ rfl
        simp -dsimp
        refine callA hlf ?_ rfl
        simp -dsimp
        refine callA initsEx_c ?_ rfl
        simp -dsimp
        refine callA p2 ?_ rfl
        simp -dsimp
        refine callA p3 ?_ rfl
        simp -dsimp
      · refine rcall_of hmix [] Tryz.func4 (by kernel_rfl) rfl (by simp [Tryz.f4]) ?_
        simp -dsimp [Tryz.f4]
        refine callA hord ?_ rfl
        simp -dsimp
        refine callA hcalls ?_ rfl
        simp -dsimp
        refine callA hchk ?_ rfl
        simp -dsimp
        refine callA hneeds ?_ rfl
        simp -dsimp
        refine callA hlf ?_ rfl
        simp -dsimp
        refine callA initsEx_c ?_ rfl
        simp -dsimp [hh0]
  · rcases hh with ⟨rfl, rfl, hC⟩ | ⟨hh0, rfl⟩
    · obtain ⟨p1, p2⟩ := hcalled hC rfl rfl
      have p3 := hints C p1
      refine rcall_of hmix [] Tryz.func4 (by kernel_rfl) rfl (by simp [Tryz.f4]) ?_
      simp -dsimp [Tryz.f4]
      refine callA hord ?_ rfl
      simp -dsimp
      refine callA hcalls ?_ rfl
      simp -dsimp
      refine callA hchk ?_ rfl
      simp -dsimp [hc0]
      refine callA hlf ?_ rfl
      simp -dsimp [hc0]
      refine callA initsEx_c ?_ rfl
      simp -dsimp [hc0]
      refine callA p2 ?_ rfl
      simp -dsimp
      refine callA p3 ?_ rfl
      simp -dsimp
    · refine rcall_of hmix [] Tryz.func4 (by kernel_rfl) rfl (by simp [Tryz.f4]) ?_
      simp -dsimp [Tryz.f4]
      refine callA hord ?_ rfl
      simp -dsimp
      refine callA hcalls ?_ rfl
      simp -dsimp
      refine callA hchk ?_ rfl
      simp -dsimp [hc0]
      refine callA hlf ?_ rfl
      simp -dsimp [hc0]
      refine callA initsEx_c ?_ rfl
      simp -dsimp [hc0, hh0]
end Go.Proofs.YtflpgdlgfffigaaGreat
