/- Scope: finding. -/
import Derived.Test.YtflpgdlgfffigaaGreatCoreB
import Derived.Test.YtflpgdlgfffigaaGreatCNeeds
set_option linter.unusedSimpArgs false
set_option linter.unusedVariables false
namespace Go.Proofs.YtflpgdlgfffigaaGreat
open Go Go.Abs
set_option maxRecDepth 8000
set_option maxHeartbeats 4000000

theorem export1_c (e : Export) (nm v : Str) : RCall Tryz.prog 193 [.dat e.enc, .cptr [.dat (.str nm)], .cptr [.dat (.str v)]] (.dat (.bool (fitExact nm v e))) := by
  unfold Export.enc
  refine rcall_of hmix [] Tryz.func193 (by kernel_rfl) rfl (by simp [Tryz.f193]) ?_
  simp -dsimp [Tryz.f193]
  repeat' (first | (refine gif ?_ ?_ <;> intro h <;> (try simp only [Bool.not_eq_eq_eq_not, Bool.not_true, Bool.not_false, decide_eq_true_eq, decide_eq_false_iff_not] at h) <;> (try simp -dsimp [h])) | (refine And.intro (show orderOk _ _ = true by kernel_rfl) ?_) | (show orderOk _ _ = true; kernel_rfl))
  all_goals (simp [fitExact, *]; done)
theorem export2_c (e : Export) (nm v : Str) : RCall Tryz.prog 194 [.dat e.enc, .cptr [.dat (.str nm)], .cptr [.dat (.str v)]] (.dat (.bool (fitLoose nm v e))) := by
  unfold Export.enc
  refine rcall_of hmix [] Tryz.func194 (by kernel_rfl) rfl (by simp [Tryz.f194]) ?_
  simp -dsimp [Tryz.f194]
  repeat' (first | (refine gif ?_ ?_ <;> intro h <;> (try simp only [Bool.not_eq_eq_eq_not, Bool.not_true, Bool.not_false, decide_eq_true_eq, decide_eq_false_iff_not] at h) <;> (try simp -dsimp [h])) | (refine And.intro (show orderOk _ _ = true by kernel_rfl) ?_) | (show orderOk _ _ = true; kernel_rfl))
  all_goals first | (simp [fitLoose, *]; done) | (simp_all [fitLoose]; done)
theorem exportOf_c (x : Image) (hx : x.WF) (nm v : Str) : RCall Tryz.prog 113 [.dat x.enc, .dat (.str nm), .dat (.str v)] (.dat (.int .i64 (exportOf x nm v))) := by
  have hc : Closed [.cptr [.dat (.str nm)], .cptr [.dat (.str v)]] := by unfold Closed; simp
  have h1 := indexFunc_Export (fitExact nm v) _ _ hc x.exports hx.exports.1 (fun e _ => export1_c e nm v)
  have h2 := indexFunc_Export (fitLoose nm v) _ _ hc x.exports hx.exports.1 (fun e _ => export2_c e nm v)
  unfold Image.enc Image.cells
  refine rcall_of hmix [] Tryz.func113 (by kernel_rfl) rfl (by simp [Tryz.f113]) ?_
  simp -dsimp [Tryz.f113]
  refine callA h1 ?_ rfl
  simp -dsimp
  repeat' (first | (refine gif ?_ ?_ <;> intro h <;> (try simp only [Bool.not_eq_eq_eq_not, Bool.not_true, Bool.not_false, decide_eq_true_eq, decide_eq_false_iff_not] at h) <;> (try simp -dsimp [h])) | (refine And.intro (show orderOk _ _ = true by kernel_rfl) ?_) | (show orderOk _ _ = true; kernel_rfl) | (refine callA h2 ?_ rfl; simp -dsimp))
  all_goals simp [exportOf, *]

def lookP (r : Int × Int × Bool) : PVal := .tup [.dat (.int .i64 r.1), .dat (.int .i64 r.2.1), .dat (.bool r.2.2)]
theorem lookup_c (l : List Image) (hl : Short l ∧ ∀ x ∈ l, x.WF) (order : List Int) (ho : Short order) (hin : ∀ i ∈ order, 0 ≤ i ∧ i < l.length) (nm v : Str) :
    RCall Tryz.prog 55 [.dat (.sl (l.map Image.enc)), .dat (.sl (order.map (.int .i64))), .dat (.str nm), .dat (.str v)] (lookP (lookupF l nm v order)) := by
  unfold Short at ho
  refine rcall_of hmix [] Tryz.func55 (by kernel_rfl) rfl (by simp [Tryz.f55]) ?_
  simp -dsimp [Tryz.f55]
  refine awp_loopN order.length (fun k s => s.t 16 = .dat (.int .i64 k) ∧ s.t 15 = .dat (.int .i64 order.length) ∧ s.t 14 = .dat (.sl (order.map (.int .i64))) ∧ s.t 0 = .dat (.sl (l.map Image.enc)) ∧ s.t 2 = .dat (.str nm) ∧ s.t 3 = .dat (.str v) ∧ lookupF l nm v order = lookupF l nm v (order.drop k)) ⟨by simp, by simp, by simp, by simp, by simp, by simp, by simp⟩ ?_
  rintro k s hk ⟨h16, h15, h14, h0, h2, h3, hrest⟩
  by_cases hlt : k < order.length
  · have hw : IntKind.i64.wrap ((k : Int) + 1) = k + 1 := wrap_in (by omega) (by omega)
    obtain ⟨i, hi⟩ : ∃ i, order[k]? = some i := ⟨_, List.getElem?_eq_getElem hlt⟩
    have hi' : order[k] = i := (List.getElem?_eq_some_iff.1 hi).2
    obtain ⟨hi0, hil⟩ := hin i (List.mem_of_getElem? hi)
    obtain ⟨x, hx⟩ : ∃ x, l[i.toNat]? = some x := ⟨_, List.getElem?_eq_getElem (by omega)⟩
    have hdrop : order.drop k = i :: order.drop (k + 1) := by rw [← hi']; exact List.drop_eq_getElem_cons hlt
    rw [hdrop] at hrest
    have hat : exportAt l i nm v = exportOf x nm v := by unfold exportAt; rw [hx]
    simp only [lookupF, hat] at hrest
    have hag := Image.ag x
    simp -dsimp [h16, h15, h14, h0, h2, h3, hlt, hi, hi', hi0, hx, hag.len, hag.ld, hag.mkT]
    refine callA (exportOf_c x (hl.2 x (List.mem_of_getElem? hx)) nm v) ?_ rfl
    simp -dsimp [h16, h15, h14, h0, h2, h3]
    refine gif ?_ ?_
    · intro h
      simp at h
      rw [if_pos h] at hrest
      simp -dsimp [h16, h15, h14, h0, h2, h3, hrest, lookP]
    · intro h
      simp at h
      rw [if_neg (by omega)] at hrest
      simp -dsimp [h16, h15, h14, h0, h2, h3, hw, hlt, hrest]
  · have hkl : k = order.length := by omega
    subst hkl
    have : lookupF l nm v order = (0, 0, false) := by rw [hrest]; simp [lookupF]
    simp -dsimp [h16, h15, h14, h0, h2, h3, this, lookP]

theorem find1_c (l : List Image) (i : Int) : RCall Tryz.prog 54 [.dat (.int .i64 i), .cptr [.dat (.sl (l.map Image.enc))]] (.dat (.bool (outside l.length i))) := by
  refine rcall_of hmix [] Tryz.func54 (by kernel_rfl) rfl (by simp [Tryz.f54]) ?_
  simp -dsimp [Tryz.f54]
  repeat' (first | (refine gif ?_ ?_ <;> intro h <;> (try simp only [Bool.not_eq_eq_eq_not, Bool.not_true, Bool.not_false, decide_eq_true_eq, decide_eq_false_iff_not] at h) <;> (try simp -dsimp [h])) | (refine And.intro (show orderOk _ _ = true by kernel_rfl) ?_) | (show orderOk _ _ = true; kernel_rfl))
  all_goals (simp [outside, *]; done)

def findP (r : (Int × Int × Bool) × Fault) : PVal := .tup [.dat (.int .i64 r.1.1), .dat (.int .i64 r.1.2.1), .dat (.bool r.1.2.2), .dat r.2.enc]
theorem find_c (l : List Image) (hl : Short l ∧ ∀ x ∈ l, x.WF) (order : List Int) (ho : Short order) (nm v : Str) :
    RCall Tryz.prog 13 [.dat (.sl (l.map Image.enc)), .dat (.sl (order.map (.int .i64))), .dat (.str nm), .dat (.str v)] (findP (findF l order nm v)) := by
  have hc : Closed [.cptr [.dat (.sl (l.map Image.enc))]] := by unfold Closed; simp
  have hany := containsFunc_Int (outside l.length) _ _ hc order ho (fun i _ => find1_c l i)
  have hchk := check_images_c l hl
  rcases fault_cases (checkF l) with hs | ⟨c, n, hs, hne, hcn⟩
  · rw [hs] at hchk
    simp only [Fault.enc, Fault.ok] at hchk
    refine rcall_of hmix [] Tryz.func13 (by kernel_rfl) rfl (by simp [Tryz.f13]) ?_
    simp -dsimp [Tryz.f13]
    refine callA hchk ?_ rfl
    simp -dsimp [Fault.enc]
    refine callA hany ?_ rfl
    simp -dsimp
    by_cases ha : order.any (outside l.length) = true
    · have hF : findF l order nm v = ((0, 0, false), ⟨3, -2⟩) := by unfold findF; rw [if_neg (by simp [hs]), if_pos ha]
      rw [hF]
      simp -dsimp [ha, findP, Fault.enc]
      repeat' (first | (refine gif ?_ ?_ <;> intro h <;> (try simp only [Bool.not_eq_eq_eq_not, Bool.not_true, Bool.not_false, decide_eq_true_eq, decide_eq_false_iff_not] at h) <;> (try simp -dsimp [h])) | (refine And.intro (show orderOk _ _ = true by kernel_rfl) ?_) | (show orderOk _ _ = true; kernel_rfl))
    · have hF : findF l order nm v = (lookupF l nm v order, Fault.ok) := by unfold findF; rw [if_neg (by simp [hs]), if_neg ha]
      simp only [Bool.not_eq_true] at ha
      have hlook := lookup_c l hl order ho (by
        intro i hi
        rw [List.any_eq_false] at ha
        have := ha i hi
        simp [outside] at this
        omega) nm v
      rw [hF]
      simp -dsimp [ha, findP, Fault.enc, Fault.ok]
      repeat' (first | (refine gif ?_ ?_ <;> intro h <;> (try simp only [Bool.not_eq_eq_eq_not, Bool.not_true, Bool.not_false, decide_eq_true_eq, decide_eq_false_iff_not] at h) <;> (try simp -dsimp [h, findP, Fault.enc, Fault.ok])) | (refine And.intro (show orderOk _ _ = true by kernel_rfl) ?_) | (show orderOk _ _ = true; kernel_rfl) | (refine callA hlook ?_ rfl; simp -dsimp [lookP, findP, Fault.enc, Fault.ok]))
  · rw [hs] at hchk
    simp only [Fault.enc] at hchk
    have hF : findF l order nm v = ((0, 0, false), ⟨c, n⟩) := by unfold findF; rw [if_pos hne, hs]
    rw [hF]
    refine rcall_of hmix [] Tryz.func13 (by kernel_rfl) rfl (by simp [Tryz.f13]) ?_
    simp -dsimp [Tryz.f13]
    refine callA hchk ?_ rfl
    simp -dsimp [Fault.enc, hcn, findP]
    repeat' (first | (refine gif ?_ ?_ <;> intro h <;> (try simp only [Bool.not_eq_eq_eq_not, Bool.not_true, Bool.not_false, decide_eq_true_eq, decide_eq_false_iff_not] at h) <;> (try simp -dsimp [h, hcn, findP, Fault.enc])) | (refine And.intro (show orderOk _ _ = true by kernel_rfl) ?_) | (show orderOk _ _ = true; kernel_rfl))
end Go.Proofs.YtflpgdlgfffigaaGreat
