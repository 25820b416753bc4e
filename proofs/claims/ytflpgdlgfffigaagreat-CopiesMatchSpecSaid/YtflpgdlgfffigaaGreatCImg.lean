/- Lists of images. -/
import Derived.Test.YtflpgdlgfffigaaGreatCoreB
import Derived.Test.YtflpgdlgfffigaaGreatCVal
set_option linter.unusedSimpArgs false
set_option linter.unusedVariables false
namespace Go.Proofs.YtflpgdlgfffigaaGreat
open Go Go.Abs
set_option maxRecDepth 8000
set_option maxHeartbeats 4000000

theorem head_c (i : Image) (hi : i.WF) : RCall Tryz.prog 153 [.dat i.enc] (.dat (headF i).enc) := by
  have hseg := segments_c i.segments hi.segments
  rcases fault_cases (segments i.segments) with hs | ⟨c, n, hs, hne, hcn⟩
  · rw [hs] at hseg
    simp only [Fault.enc, Fault.ok] at hseg
    unfold Image.enc Image.cells
    refine rcall_of hmix [] Tryz.func153 (by kernel_rfl) rfl (by simp [Tryz.f153]) ?_
    simp -dsimp [Tryz.f153]
    repeat' (first | (refine gif ?_ ?_ <;> intro h <;> (try simp only [Bool.not_eq_eq_eq_not, Bool.not_true, Bool.not_false, decide_eq_true_eq, decide_eq_false_iff_not] at h) <;> (try simp -dsimp [h, Fault.enc])) | (refine And.intro (show orderOk _ _ = true by kernel_rfl) ?_) | (show orderOk _ _ = true; kernel_rfl) | (refine callA (isName_c _ hi.name) ?_ rfl; simp -dsimp) | (refine callA hseg ?_ rfl; simp -dsimp) | (refine callA (within_c i hi _ _ _) ?_ rfl; simp -dsimp))
    all_goals first
      | (simp only [headF, hs]; simp [*]; done)
      | (rw [show headF i = Fault.ok by
          simp only [headF, hs]
          repeat (first | rw [if_neg (by omega)] | rw [if_neg (by simp [*]; done)] | rw [if_neg (by simp [*]; omega)])]
         simp [Fault.enc, Fault.ok]; done)
      | (simp_all [headF, Fault.ok]; done)
  · have hseg2 := hseg
    rw [hs] at hseg2
    simp only [Fault.enc] at hseg2
    unfold Image.enc Image.cells
    refine rcall_of hmix [] Tryz.func153 (by kernel_rfl) rfl (by simp [Tryz.f153]) ?_
    simp -dsimp [Tryz.f153]
    repeat' (first | (refine gif ?_ ?_ <;> intro h <;> (try simp only [Bool.not_eq_eq_eq_not, Bool.not_true, Bool.not_false, decide_eq_true_eq, decide_eq_false_iff_not] at h) <;> (try simp -dsimp [h, Fault.enc, hcn])) | (refine And.intro (show orderOk _ _ = true by kernel_rfl) ?_) | (show orderOk _ _ = true; kernel_rfl) | (refine callA (isName_c _ hi.name) ?_ rfl; simp -dsimp) | (refine callA hseg2 ?_ rfl; simp -dsimp [Fault.enc, hcn]) | (refine callA (within_c i hi _ _ _) ?_ rfl; simp -dsimp))
    all_goals first | (simp only [headF, hs]; simp [*]; done) | (simp_all [headF, Fault.ok]; done)

/-- The checks of an image, as the program lists them. -/
def checksL (i : Image) : List PVal := [.fn 158 [.cptr (icells i)], .fn 162 [.cptr (icells i)], .fn 165 [.cptr (icells i)],
  .fn 168 [.cptr (icells i), .bptr 4 0], .fn 169 [.cptr (icells i), .bptr 4 0],
  .fn 170 [.cptr (icells i)], .fn 173 [.cptr (icells i)], .fn 175 [.cptr (icells i)], .fn 178 [.cptr (icells i)],
  .fn 181 [.cptr (icells i)], .fn 183 [.cptr (icells i)], .fn 186 [.cptr (icells i)]]
theorem checks_each (i : Image) (hi : i.WF) (k : Nat) (hk : k < 12) (h3 : ¬ k = 3) (h4 : ¬ k = 4) : ∃ g caps F, (checksL i)[k]? = some (.fn g caps) ∧ Closed caps ∧ (bodyF i)[k]? = some F ∧ RCall Tryz.prog g caps (.dat F.enc) := by
  have c1 := icells_closed i
  have : k = 0 ∨ k = 1 ∨ k = 2 ∨ k = 5 ∨ k = 6 ∨ k = 7 ∨ k = 8 ∨ k = 9 ∨ k = 10 ∨ k = 11 := by omega
  rcases this with rfl | rfl | rfl | rfl | rfl | rfl | rfl | rfl | rfl | rfl
  · exact ⟨_, _, _, rfl, c1, rfl, v2_c i hi⟩
  · exact ⟨_, _, _, rfl, c1, rfl, v3_c i hi⟩
  · exact ⟨_, _, _, rfl, c1, rfl, v4_c i hi⟩
  · exact ⟨_, _, _, rfl, c1, rfl, v7_c i hi⟩
  · exact ⟨_, _, _, rfl, c1, rfl, v8_c i hi⟩
  · exact ⟨_, _, _, rfl, c1, rfl, v9_c i hi⟩
  · exact ⟨_, _, _, rfl, c1, rfl, v10_c i hi⟩
  · exact ⟨_, _, _, rfl, c1, rfl, v11_c i hi⟩
  · exact ⟨_, _, _, rfl, c1, rfl, v12_c i hi⟩
  · exact ⟨_, _, _, rfl, c1, rfl, v13_c i hi⟩
theorem checks_kill (i : Image) (d : Nat) (hd : ¬ d = 4) : kills d (checksL i) = checksL i := by
  unfold checksL icells
  simp [kills, PVal.kill]
  simp [Ne.symm hd]

theorem nf_function : nilFn Tryz.prog 205 = true := by kernel_rfl
theorem image_c (i : Image) (hi : i.WF) : RCall Tryz.prog 109 [.dat i.enc] (.dat (imageF i).enc) := by
  have hhead := head_c i hi
  have hag := Image.ag i
  rcases fault_cases (headF i) with hs | ⟨c, n, hs, hne, hcn⟩
  · rw [hs] at hhead
    simp only [Fault.enc, Fault.ok] at hhead
    have hF : imageF i = firstF (bodyF i) := by unfold imageF; rw [if_pos hs]
    rw [hF]
    refine rcall_of hmix [] Tryz.func109 (by kernel_rfl) rfl (by simp [Tryz.f109]) ?_
    simp -dsimp [Tryz.f109, hag.len, hag.ld, hag.mkT, hag.flats]
    refine callA hhead ?_ rfl
    simp -dsimp [hag.len, hag.ld, hag.mkT, hag.flats, Fault.enc, nf_function]
    refine awp_loopN 12 (fun k s => s.t 31 = .dat (.int .i64 k) ∧ s.t 30 = .dat (.int .i64 12) ∧ s.t 29 = .fsl (checksL i) ∧ s.t 2 = .bptr 2 0 ∧ s.h 2 = some [.dat (.int .i64 0), .dat (.int .i64 0)] ∧ s.h 4 = some [.fn 154 [.cptr (icells i)]] ∧ firstF (bodyF i) = firstF ((bodyF i).drop k)) ⟨by simp, by simp, by rfl, by simp, by simp, by rfl, by simp⟩ ?_
    rintro k s hk ⟨h31, h30, h29, h2, hh2, hh4, hrest⟩
    by_cases hlt : k < 12
    · have hlt' : (k : Int) < 12 := by omega
      have hw : IntKind.i64.wrap ((k : Int) + 1) = k + 1 := wrap_in (by omega) (by omega)
      have hkk := checks_kill i 8 (by omega)
      have hex : ∃ g caps ccaps F, (checksL i)[k]? = some (.fn g caps) ∧ (bodyF i)[k]? = some F ∧ RCall Tryz.prog g ccaps (.dat F.enc) ∧ kills 8 caps = caps ∧
          (mapO (closeP (fun _ => none) 9) caps = some ccaps ∨ mapO (closeP (fun _ => none) 9) caps = none ∧ mapO (closeP s.h 9) caps = some ccaps) := by
        by_cases h3 : k = 3
        · subst h3
          exact ⟨_, _, _, _, rfl, rfl, v5_c i hi, by simp [kills, PVal.kill, icells], .inr ⟨by simp [icells], by simp [icells, hh4]⟩⟩
        · by_cases h4 : k = 4
          · subst h4
            exact ⟨_, _, _, _, rfl, rfl, v6_c i hi, by simp [kills, PVal.kill, icells], .inr ⟨by simp [icells], by simp [icells, hh4]⟩⟩
          · obtain ⟨g, caps, F, hg, hcl, hb, hcall⟩ := checks_each i hi k hlt h3 h4
            exact ⟨g, caps, caps, F, hg, hb, hcall, kills_closed hcl 8, .inl hcl.1⟩
      obtain ⟨g, caps, ccaps, F, hg, hb, hcall, hkc, hcaps⟩ := hex
      have hdrop : (bodyF i).drop k = F :: (bodyF i).drop (k + 1) := by
        obtain ⟨hkl, hF⟩ := List.getElem?_eq_some_iff.1 hb
        rw [← hF]; exact List.drop_eq_getElem_cons hkl
      rw [hdrop] at hrest
      have hic : kills 8 (icells i) = icells i := by unfold icells; simp
      rcases fault_cases F with hs | ⟨c, n, hs, hne, hcn⟩
      · rw [hs] at hcall
        simp only [Fault.enc, Fault.ok] at hcall
        rw [firstF_ok hs] at hrest
        rcases hcaps with hcaps | ⟨hc0, hcaps⟩
        all_goals
          simp -dsimp [h31, h30, h29, h2, hh2, hh4, hlt', hg, hcaps, *]
          refine callA hcall ?_ (by simp)
          simp -dsimp [h31, h30, h29, h2, hh2, hh4, hkk, hkc, hic, hw, hlt]
          try exact hrest
      · rw [hs] at hcall
        simp only [Fault.enc] at hcall
        rw [firstF_ne hne] at hrest
        rcases hcaps with hcaps | ⟨hc0, hcaps⟩
        all_goals
          simp -dsimp [h31, h30, h29, h2, hh2, hh4, hlt', hg, hcaps, *]
          refine callA hcall ?_ (by simp)
          simp -dsimp [h31, h30, h29, h2, hh2, hh4, hkk, hkc, hic, hcn, hrest, hs, Fault.enc]
    · have hkl : k = 12 := by omega
      subst hkl
      have : firstF (bodyF i) = Fault.ok := by rw [hrest]; rfl
      simp -dsimp [h31, h30, h29, h2, hh2, this, Fault.enc, Fault.ok]
  · have hF : imageF i = ⟨c, n⟩ := by unfold imageF; rw [if_neg hne, hs]
    rw [hs] at hhead
    simp only [Fault.enc] at hhead
    rw [hF]
    refine rcall_of hmix [] Tryz.func109 (by kernel_rfl) rfl (by simp [Tryz.f109]) ?_
    simp -dsimp [Tryz.f109, hag.len, hag.ld, hag.mkT, hag.flats]
    refine callA hhead ?_ rfl
    simp -dsimp [hag.len, hag.ld, hag.mkT, hag.flats, hcn, Fault.enc]

theorem named1_c (x : Image) (nm : Str) : RCall Tryz.prog 190 [.dat x.enc, .cptr [.dat (.str nm)]] (.dat (.bool (decide (x.name = nm)))) := by
  unfold Image.enc Image.cells
  refine rcall_of hmix [] Tryz.func190 (by kernel_rfl) rfl (by simp [Tryz.f190]) ?_
  simp -dsimp [Tryz.f190]
  try kernel_rfl
theorem named_c (l : List Image) (hl : Short l) (nm : Str) : RCall Tryz.prog 110 [.dat (.sl (l.map Image.enc)), .dat (.str nm)] (.dat (.int .i64 (named l nm))) := by
  have hc : Closed [.cptr [.dat (.str nm)]] := by unfold Closed; simp
  refine rcall_of hmix [] Tryz.func110 (by kernel_rfl) rfl (by simp [Tryz.f110]) ?_
  simp -dsimp [Tryz.f110]
  refine callA (indexFunc_Image (fun x => decide (x.name = nm)) _ _ hc l hl (fun x _ => named1_c x nm)) ?_ rfl
  simp -dsimp [named]
end Go.Proofs.YtflpgdlgfffigaaGreat
