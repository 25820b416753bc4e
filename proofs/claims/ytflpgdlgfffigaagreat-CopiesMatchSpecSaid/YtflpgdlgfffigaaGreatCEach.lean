/- The first fault of a list. -/
import Derived.Test.YtflpgdlgfffigaaGreatCWithin
set_option linter.unusedSimpArgs false
set_option linter.unusedVariables false
namespace Go.Proofs.YtflpgdlgfffigaaGreat
open Go Go.Abs
set_option maxRecDepth 8000
set_option maxHeartbeats 4000000

theorem each_c (most list : Int) (g : Nat) (caps : List PVal) (hc : Closed caps) (codes : List Int) (hm : most ≤ 1000000) (hl : 0 ≤ list ∧ list ≤ 100)
    (hg : ∀ k c, codes[k]? = some c → RCall Tryz.prog g (.dat (.int .i64 (k : Nat)) :: caps) (.dat (.int .i64 c))) :
    RCall Tryz.prog 159 [.dat (.int .i64 codes.length), .dat (.int .i64 most), .dat (.int .i64 list), .fn g caps] (.dat (each most list codes).enc) := by
  have hkc := kills_closed hc 8
  have hneg : IntKind.i64.wrap (-list) = -list := wrap_in (by omega) (by omega)
  refine rcall_of hmix [] Tryz.func159 (by kernel_rfl) rfl (by simp [Tryz.f159]) ?_
  simp -dsimp [Tryz.f159]
  refine gif ?_ ?_
  · intro h
    simp at h
    simp -dsimp [each, h, Fault.enc, hneg]
  · intro h
    simp at h
    simp -dsimp
    have he : each most list codes = eachFrom list 0 codes := by unfold each; rw [if_neg (by omega)]
    refine awp_loopN codes.length (fun k s => s.t 18 = .dat (.int .i64 k) ∧ s.t 17 = .dat (.int .i64 codes.length) ∧ s.t 2 = .dat (.int .i64 list) ∧ s.t 3 = .fn g caps ∧ s.t 8 = .bptr 8 0 ∧ s.h 8 = some [.dat (.int .i64 0), .dat (.int .i64 0)] ∧ each most list codes = eachFrom list k (codes.drop k)) ⟨by simp, by simp, by simp, by simp [hkc], by simp, by simp, by simpa using he⟩ ?_
    rintro k s hk ⟨h18, h17, h2, h3, h8, hh8, hrest⟩
    by_cases hlt : k < codes.length
    · have hw : IntKind.i64.wrap ((k : Int) + 1) = k + 1 := wrap_in (by omega) (by omega)
      have hw2 : IntKind.i64.wrap (1000 * list) = 1000 * list := wrap_in (by omega) (by omega)
      have hw3 : IntKind.i64.wrap (1000 * list + k) = 1000 * list + k := wrap_in (by omega) (by omega)
      obtain ⟨c, hcc⟩ : ∃ c, codes[k]? = some c := ⟨_, List.getElem?_eq_getElem hlt⟩
      have hc' : codes[k] = c := (List.getElem?_eq_some_iff.1 hcc).2
      have hdrop : codes.drop k = c :: codes.drop (k + 1) := by rw [← hc']; exact List.drop_eq_getElem_cons hlt
      rw [hdrop] at hrest
      have hcl := hc
      unfold Closed at hcl
      simp -dsimp [h18, h17, h2, h3, h8, hh8, hlt, hcl.1, hcl.2.1]
      refine callA (hg k c hcc) ?_ (by simp)
      simp -dsimp [h18, h17, h2, h3, h8, hh8]
      refine gif ?_ ?_
      · intro h0
        simp at h0
        have : eachFrom list k (c :: codes.drop (k + 1)) = ⟨c, 1000 * list + k⟩ := by simp [eachFrom, h0]
        rw [this] at hrest
        simp -dsimp [h18, h17, h2, h3, h8, hh8, hw2, hw3, hrest, Fault.enc]
      · intro h0
        simp at h0
        have : eachFrom list k (c :: codes.drop (k + 1)) = eachFrom list (k + 1) (codes.drop (k + 1)) := by simp [eachFrom, h0]
        rw [this] at hrest
        simp -dsimp [h18, h17, h2, h3, h8, hh8, hw, hlt, hrest]
    · have hkl : k = codes.length := by omega
      subst hkl
      have : each most list codes = Fault.ok := by rw [hrest]; simp [eachFrom]
      simp -dsimp [h18, h17, h2, h3, h8, hh8, this, Fault.enc, Fault.ok]
end Go.Proofs.YtflpgdlgfffigaaGreat
