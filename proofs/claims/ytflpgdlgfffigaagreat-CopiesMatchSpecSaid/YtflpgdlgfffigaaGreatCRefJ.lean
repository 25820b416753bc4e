/- The references: exports that fit, what is found. -/
import Derived.Test.YtflpgdlgfffigaaGreatCoreC
import Derived.Test.YtflpgdlgfffigaaGreatCFind
import Derived.Test.YtflpgdlgfffigaaGreatCRefF0
set_option linter.unusedSimpArgs false
set_option linter.unusedVariables false
namespace Go.Proofs.YtflpgdlgfffigaaGreat
open Go Go.Abs
set_option maxRecDepth 8000
set_option maxHeartbeats 4000000

theorem fits6_c (e : Export) (nm v : Str) : RCall Tryz.prog 123 [.dat e.enc, .dat (.str nm), .dat (.str v)] (.dat (.int .i64 (fitN nm v e))) := by
  unfold Export.enc
  refine rcall_of hmix [] Tryz.func123 (by kernel_rfl) rfl (by simp [Tryz.f123]) ?_
  simp -dsimp [Tryz.f123]
  repeat' (first | (refine gif ?_ ?_ <;> intro h <;> (try simp only [Bool.not_eq_eq_eq_not, Bool.not_true, Bool.not_false, decide_eq_true_eq, decide_eq_false_iff_not] at h) <;> (try simp -dsimp [h])) | (refine And.intro (show orderOk _ _ = true by kernel_rfl) ?_) | (show orderOk _ _ = true; kernel_rfl))
  all_goals first | (simp [fitN, fitExact, fitLoose, *]; done) | (simp_all [fitN, fitExact, fitLoose]; done)

theorem exported6_c (x : Image) (hx : x.WF) (nm v : Str) : RCall Tryz.prog 63 [.dat x.enc, .dat (.str nm), .dat (.str v)] (.dat (.int .i64 (exportOf x nm v))) := by
  have hel := hx.exports.1
  unfold Short at hel
  have hag := Image.ag x
  have e4 : x.enc.cells[4]? = some (.sl (x.exports.map Export.enc)) := rfl
  have e4' : ∀ h, x.enc.cells[4]'h = .sl (x.exports.map Export.enc) := fun _ => rfl
  have hw0 : IntKind.i64.wrap ((x.exports.length : Int) - 1) = (x.exports.length : Int) - 1 := wrap_in (by omega) (by omega)
  refine rcall_of hmix [] Tryz.func63 (by kernel_rfl) rfl (by simp [Tryz.f63]) ?_
  simp -dsimp [Tryz.f63, hag.len, hag.ld, hag.mkT, hag.flats, e4, e4', hw0]
  refine awp_loopN x.exports.length (fun j s => s.t 8 = .dat (.int .i64 ((x.exports.length : Int) - 1 - (j : Int))) ∧ s.t 3 = .cptr (x.enc.cells.map .dat) ∧ s.t 1 = .dat (.str nm) ∧ s.t 2 = .dat (.str v) ∧ ∃ b, s.t 7 = .dat (.int .i64 b) ∧ BestAt nm v x.exports (x.exports.length - j) b)
    ⟨by simp, by simp, by simp, by simp, -1, by simp, best_end nm v _ (Nat.le_refl _)⟩ ?_
  rintro j s hj ⟨h8, h3, h1, h2, b, h7, hbest⟩
  by_cases hlt : j < x.exports.length
  · obtain ⟨k, hk⟩ : ∃ k : Nat, x.exports.length = k + 1 + j := ⟨x.exports.length - 1 - j, by omega⟩
    have hki : (x.exports.length : Int) - 1 - (j : Int) = (k : Int) := by omega
    have hkl : k < x.exports.length := by omega
    rw [show x.exports.length - j = k + 1 by omega] at hbest
    have hlt2 : (j : Int) < (x.exports.length : Int) := by omega
    rw [hki] at h8
    obtain ⟨e, he⟩ : ∃ e, x.exports[k]? = some e := ⟨_, List.getElem?_eq_getElem hkl⟩
    have he' : x.exports[k] = e := (List.getElem?_eq_some_iff.1 he).2
    have hage := Export.ag e
    have hw1 : IntKind.i64.wrap ((k : Int) - 1) = (k : Int) - 1 := wrap_in (by omega) (by omega)
    have hnext : (x.exports.length : Int) - 1 - ((j + 1 : Nat) : Int) = (k : Int) - 1 := by omega
    have hnb : x.exports.length - (j + 1) = k := by omega
    simp -dsimp [h8, h3, h1, h2, h7, hag.len, e4, e4', hkl, he, he', hage.len, hage.ld, hage.mkT]
    refine callA (fits6_c e nm v) ?_ rfl
    simp -dsimp [h8, h3, h1, h2, h7]
    by_cases h0 : fitN nm v e = 0
    · have := best_keep hbest he h0
      simp -dsimp [h0, h8, h3, h1, h2, h7, hw1, hlt, hnext, hnb]
      exact ⟨by omega, this⟩
    · have hpos : 0 < fitN nm v e := by rcases fitN_cases nm v e with g | g | g <;> omega
      by_cases hb : b < 0
      · have := best_take hbest he h0 (.inl hb)
        simp -dsimp [hpos, hb, h8, h3, h1, h2, h7, hw1, hlt, hnext, hnb]
        exact ⟨by omega, this⟩
      · obtain ⟨m, y, rfl, hm, hy, hfy⟩ := best_get hbest hb
        have hml : m < x.exports.length := (List.getElem?_eq_some_iff.1 hy).1
        have hy' : x.exports[m] = y := (List.getElem?_eq_some_iff.1 hy).2
        have hagy := Export.ag y
        simp -dsimp [hpos, hb, h8, h3, h1, h2, h7, hag.len, e4, e4', hml, hy, hy', hagy.len, hagy.ld, hagy.mkT]
        refine callA (fits6_c y nm v) ?_ rfl
        by_cases hle : fitN nm v y ≤ fitN nm v e
        · have := best_take hbest he h0 (.inr ⟨m, y, rfl, hy, hle⟩)
          simp -dsimp [hle, hpos, hb, h8, h3, h1, h2, h7, hw1, hlt, hnext, hnb]
          exact ⟨by omega, this⟩
        · have := best_stay hbest he rfl hy (by omega)
          simp -dsimp [hle, hpos, hb, h8, h3, h1, h2, h7, hw1, hlt, hnext, hnb]
          exact ⟨by omega, this⟩
  · have hjl : j = x.exports.length := by omega
    subst hjl
    rw [Nat.sub_self] at hbest
    have hfin := best_zero hbest
    have hneg : ¬ (0 : Int) ≤ (x.exports.length : Int) - 1 - (x.exports.length : Int) := by omega
    have hm1 : (x.exports.length : Int) - 1 - (x.exports.length : Int) = -1 := by omega
    rw [hm1] at h8
    simp -dsimp [h8, h7, hfin]

theorem found6_c (l : List Image) (hl : Short l ∧ ∀ x ∈ l, x.WF) (order : List Int) (ho : Short order) (hin : ∀ i ∈ order, 0 ≤ i ∧ i < l.length) (nm v : Str) :
    RCall Tryz.prog 21 [.dat (.sl (l.map Image.enc)), .dat (intsD order), .dat (.str nm), .dat (.str v)] (lookP (lookupF l nm v order)) := by
  unfold Short at ho
  unfold intsD
  refine rcall_of hmix [] Tryz.func21 (by kernel_rfl) rfl (by simp [Tryz.f21]) ?_
  simp -dsimp [Tryz.f21]
  refine awp_loopN order.length (fun k s => s.t 11 = .dat (.int .i64 k) ∧ s.t 1 = .dat (.sl (order.map (.int .i64))) ∧ s.t 0 = .dat (.sl (l.map Image.enc)) ∧ s.t 2 = .dat (.str nm) ∧ s.t 3 = .dat (.str v) ∧ lookupF l nm v order = lookupF l nm v (order.drop k)) ⟨by simp, by simp, by simp, by simp, by simp, by simp⟩ ?_
  rintro k s hk ⟨h11, h1, h0, h2, h3, hrest⟩
  by_cases hlt : k < order.length
  · have hw : IntKind.i64.wrap ((k : Int) + 1) = k + 1 := wrap_in (by omega) (by omega)
    obtain ⟨i, hi⟩ : ∃ i, order[k]? = some i := ⟨_, List.getElem?_eq_getElem hlt⟩
    have hi' : order[k] = i := (List.getElem?_eq_some_iff.1 hi).2
    obtain ⟨hi0, hil⟩ := hin i (List.mem_of_getElem? hi)
    obtain ⟨x, hx⟩ : ∃ x, l[i.toNat]? = some x := ⟨_, List.getElem?_eq_getElem (by omega)⟩
    have hdrop : order.drop k = i :: order.drop (k + 1) := by rw [← hi']; exact List.drop_eq_getElem_cons hlt
    rw [hdrop] at hrest
    have hat : exportAt l i nm v = exportOf x nm v := by unfold exportAt; rw [hx]
    simp only [lookupF, hat] at hrest
    have hag := Image.ag x
    simp -dsimp [h11, h1, h0, h2, h3, hlt, hi, hi', hi0, hx, hag.len, hag.ld, hag.mkT]
    refine callA (exported6_c x (hl.2 x (List.mem_of_getElem? hx)) nm v) ?_ rfl
    simp -dsimp [h11, h1, h0, h2, h3]
    refine gif ?_ ?_
    · intro h
      simp at h
      rw [if_pos h] at hrest
      simp -dsimp [h11, h1, h0, h2, h3, hlt, hi, hi', hi0, hrest, lookP]
    · intro h
      simp at h
      rw [if_neg (by omega)] at hrest
      simp -dsimp [h11, h1, h0, h2, h3, hw, hlt, hrest]
  · have hkl : k = order.length := by omega
    subst hkl
    have : lookupF l nm v order = (0, 0, false) := by rw [hrest]; simp [lookupF]
    simp -dsimp [h11, h1, h0, h2, h3, this, lookP]
end Go.Proofs.YtflpgdlgfffigaaGreat
