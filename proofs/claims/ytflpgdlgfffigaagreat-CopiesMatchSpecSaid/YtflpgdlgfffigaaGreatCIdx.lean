/- slices.IndexFunc and its kin. -/
import Derived.Test.YtflpgdlgfffigaaGreatCoreB
import Derived.Test.YtflpgdlgfffigaaGreatCTypes
set_option linter.unusedSimpArgs false
set_option linter.unusedVariables false
namespace Go.Proofs.YtflpgdlgfffigaaGreat
open Go Go.Abs
set_option maxRecDepth 8000
set_option maxHeartbeats 2000000

theorem indexFunc_Image (p : Image → Bool) (g : Nat) (caps : List PVal) (hc : Closed caps) (xs : List Image) (hmax : Short xs) (hg : ∀ x ∈ xs, RCall Tryz.prog g (.dat (Image.enc x) :: caps) (.dat (.bool (p x)))) :
    RCall Tryz.prog 189 [.dat (.sl (xs.map Image.enc)), .fn g caps] (.dat (.int .i64 (idx p xs))) := by
  unfold Short at hmax
  refine rcall_of hmix [] Tryz.func189 (by kernel_rfl) rfl (by simp [Tryz.f189]) ?_
  simp -dsimp [Tryz.f189]
  refine awp_loop (fun s => ∃ k : Nat, k ≤ xs.length ∧ s.t 8 = .dat (.int .i64 k) ∧ s.t 7 = .dat (.int .i64 xs.length) ∧ s.t 0 = .dat (.sl (xs.map Image.enc)) ∧ s.t 1 = .fn g caps ∧ ∀ (j : Nat) (y : Image), j < k → xs[j]? = some y → p y = false) (fun s => xs.length - natOf (s.t 8)) ⟨0, by simp⟩ ?_
  rintro s ⟨k, hk, h8, h7, h0, h1, hpre⟩
  by_cases hlt : k < xs.length
  · have hw : IntKind.i64.wrap ((k : Int) + 1) = k + 1 := wrap_in (by omega) (by omega)
    obtain ⟨x, hx⟩ : ∃ x, xs[k]? = some x := ⟨_, List.getElem?_eq_getElem hlt⟩
    have hx' : xs[k] = x := (List.getElem?_eq_some_iff.1 hx).2
    have hc' := hc
    unfold Closed at hc'
    simp -dsimp [h8, h7, h0, h1, hlt, hx, hx', hc'.1, hc'.2.1, (Image.ag x).len, (Image.ag x).ld, (Image.ag x).mkT]
    refine callA (hg x (List.mem_of_getElem? hx)) ?_ (by simp)
    cases hp : p x
    · simp -dsimp [hw, h8, h7, h0, h1]
      refine ⟨⟨k + 1, by omega, by simp, fun j y hj hy => ?_⟩, by omega⟩
      by_cases e : j = k
      · subst e; rw [hx] at hy; injection hy with hy; subst hy; exact hp
      · exact hpre j y (by omega) hy
    · simp -dsimp [h8]
      exact (idx_some hx hp hpre).symm
  · have hkl : k = xs.length := by omega
    subst hkl
    simp -dsimp [h8, h7, h0, h1]
    exact (idx_none (fun j y hy => hpre j y (List.getElem?_eq_some_iff.1 hy).1 hy)).symm


theorem indexFunc_Export (p : Export → Bool) (g : Nat) (caps : List PVal) (hc : Closed caps) (xs : List Export) (hmax : Short xs) (hg : ∀ x ∈ xs, RCall Tryz.prog g (.dat (Export.enc x) :: caps) (.dat (.bool (p x)))) :
    RCall Tryz.prog 192 [.dat (.sl (xs.map Export.enc)), .fn g caps] (.dat (.int .i64 (idx p xs))) := by
  unfold Short at hmax
  refine rcall_of hmix [] Tryz.func192 (by kernel_rfl) rfl (by simp [Tryz.f192]) ?_
  simp -dsimp [Tryz.f192]
  refine awp_loop (fun s => ∃ k : Nat, k ≤ xs.length ∧ s.t 8 = .dat (.int .i64 k) ∧ s.t 7 = .dat (.int .i64 xs.length) ∧ s.t 0 = .dat (.sl (xs.map Export.enc)) ∧ s.t 1 = .fn g caps ∧ ∀ (j : Nat) (y : Export), j < k → xs[j]? = some y → p y = false) (fun s => xs.length - natOf (s.t 8)) ⟨0, by simp⟩ ?_
  rintro s ⟨k, hk, h8, h7, h0, h1, hpre⟩
  by_cases hlt : k < xs.length
  · have hw : IntKind.i64.wrap ((k : Int) + 1) = k + 1 := wrap_in (by omega) (by omega)
    obtain ⟨x, hx⟩ : ∃ x, xs[k]? = some x := ⟨_, List.getElem?_eq_getElem hlt⟩
    have hx' : xs[k] = x := (List.getElem?_eq_some_iff.1 hx).2
    have hc' := hc
    unfold Closed at hc'
    simp -dsimp [h8, h7, h0, h1, hlt, hx, hx', hc'.1, hc'.2.1, (Export.ag x).len, (Export.ag x).ld, (Export.ag x).mkT]
    refine callA (hg x (List.mem_of_getElem? hx)) ?_ (by simp)
    cases hp : p x
    · simp -dsimp [hw, h8, h7, h0, h1]
      refine ⟨⟨k + 1, by omega, by simp, fun j y hj hy => ?_⟩, by omega⟩
      by_cases e : j = k
      · subst e; rw [hx] at hy; injection hy with hy; subst hy; exact hp
      · exact hpre j y (by omega) hy
    · simp -dsimp [h8]
      exact (idx_some hx hp hpre).symm
  · have hkl : k = xs.length := by omega
    subst hkl
    simp -dsimp [h8, h7, h0, h1]
    exact (idx_none (fun j y hy => hpre j y (List.getElem?_eq_some_iff.1 hy).1 hy)).symm


theorem indexFunc_Segment (p : Segment → Bool) (g : Nat) (caps : List PVal) (hc : Closed caps) (xs : List Segment) (hmax : Short xs) (hg : ∀ x ∈ xs, RCall Tryz.prog g (.dat (Segment.enc x) :: caps) (.dat (.bool (p x)))) :
    RCall Tryz.prog 255 [.dat (.sl (xs.map Segment.enc)), .fn g caps] (.dat (.int .i64 (idx p xs))) := by
  unfold Short at hmax
  refine rcall_of hmix [] Tryz.func255 (by kernel_rfl) rfl (by simp [Tryz.f255]) ?_
  simp -dsimp [Tryz.f255]
  refine awp_loop (fun s => ∃ k : Nat, k ≤ xs.length ∧ s.t 8 = .dat (.int .i64 k) ∧ s.t 7 = .dat (.int .i64 xs.length) ∧ s.t 0 = .dat (.sl (xs.map Segment.enc)) ∧ s.t 1 = .fn g caps ∧ ∀ (j : Nat) (y : Segment), j < k → xs[j]? = some y → p y = false) (fun s => xs.length - natOf (s.t 8)) ⟨0, by simp⟩ ?_
  rintro s ⟨k, hk, h8, h7, h0, h1, hpre⟩
  by_cases hlt : k < xs.length
  · have hw : IntKind.i64.wrap ((k : Int) + 1) = k + 1 := wrap_in (by omega) (by omega)
    obtain ⟨x, hx⟩ : ∃ x, xs[k]? = some x := ⟨_, List.getElem?_eq_getElem hlt⟩
    have hx' : xs[k] = x := (List.getElem?_eq_some_iff.1 hx).2
    have hc' := hc
    unfold Closed at hc'
    simp -dsimp [h8, h7, h0, h1, hlt, hx, hx', hc'.1, hc'.2.1, (Segment.ag x).len, (Segment.ag x).ld, (Segment.ag x).mkT]
    refine callA (hg x (List.mem_of_getElem? hx)) ?_ (by simp)
    cases hp : p x
    · simp -dsimp [hw, h8, h7, h0, h1]
      refine ⟨⟨k + 1, by omega, by simp, fun j y hj hy => ?_⟩, by omega⟩
      by_cases e : j = k
      · subst e; rw [hx] at hy; injection hy with hy; subst hy; exact hp
      · exact hpre j y (by omega) hy
    · simp -dsimp [h8]
      exact (idx_some hx hp hpre).symm
  · have hkl : k = xs.length := by omega
    subst hkl
    simp -dsimp [h8, h7, h0, h1]
    exact (idx_none (fun j y hy => hpre j y (List.getElem?_eq_some_iff.1 hy).1 hy)).symm


theorem containsFunc_Segment (p : Segment → Bool) (g : Nat) (caps : List PVal) (hc : Closed caps) (xs : List Segment) (hmax : Short xs) (hg : ∀ x ∈ xs, RCall Tryz.prog g (.dat (Segment.enc x) :: caps) (.dat (.bool (p x)))) :
    RCall Tryz.prog 234 [.dat (.sl (xs.map Segment.enc)), .fn g caps] (.dat (.bool (xs.any p))) := by
  have hc' := hc
  unfold Closed at hc'
  refine rcall_of hmix [] Tryz.func234 (by kernel_rfl) rfl (by simp [Tryz.f234]) ?_
  simp -dsimp [Tryz.f234, hc'.1, hc'.2.1]
  refine callA (indexFunc_Segment p g caps hc xs hmax hg) ?_ (by simp)
  simp -dsimp [idx_nonneg]


theorem indexFunc_FieldR (p : FieldR → Bool) (g : Nat) (caps : List PVal) (hc : Closed caps) (xs : List FieldR) (hmax : Short xs) (hg : ∀ x ∈ xs, RCall Tryz.prog g (.dat (FieldR.enc x) :: caps) (.dat (.bool (p x)))) :
    RCall Tryz.prog 266 [.dat (.sl (xs.map FieldR.enc)), .fn g caps] (.dat (.int .i64 (idx p xs))) := by
  unfold Short at hmax
  refine rcall_of hmix [] Tryz.func266 (by kernel_rfl) rfl (by simp [Tryz.f266]) ?_
  simp -dsimp [Tryz.f266]
  refine awp_loop (fun s => ∃ k : Nat, k ≤ xs.length ∧ s.t 8 = .dat (.int .i64 k) ∧ s.t 7 = .dat (.int .i64 xs.length) ∧ s.t 0 = .dat (.sl (xs.map FieldR.enc)) ∧ s.t 1 = .fn g caps ∧ ∀ (j : Nat) (y : FieldR), j < k → xs[j]? = some y → p y = false) (fun s => xs.length - natOf (s.t 8)) ⟨0, by simp⟩ ?_
  rintro s ⟨k, hk, h8, h7, h0, h1, hpre⟩
  by_cases hlt : k < xs.length
  · have hw : IntKind.i64.wrap ((k : Int) + 1) = k + 1 := wrap_in (by omega) (by omega)
    obtain ⟨x, hx⟩ : ∃ x, xs[k]? = some x := ⟨_, List.getElem?_eq_getElem hlt⟩
    have hx' : xs[k] = x := (List.getElem?_eq_some_iff.1 hx).2
    have hc' := hc
    unfold Closed at hc'
    simp -dsimp [h8, h7, h0, h1, hlt, hx, hx', hc'.1, hc'.2.1, (FieldR.ag x).len, (FieldR.ag x).ld, (FieldR.ag x).mkT]
    refine callA (hg x (List.mem_of_getElem? hx)) ?_ (by simp)
    cases hp : p x
    · simp -dsimp [hw, h8, h7, h0, h1]
      refine ⟨⟨k + 1, by omega, by simp, fun j y hj hy => ?_⟩, by omega⟩
      by_cases e : j = k
      · subst e; rw [hx] at hy; injection hy with hy; subst hy; exact hp
      · exact hpre j y (by omega) hy
    · simp -dsimp [h8]
      exact (idx_some hx hp hpre).symm
  · have hkl : k = xs.length := by omega
    subst hkl
    simp -dsimp [h8, h7, h0, h1]
    exact (idx_none (fun j y hy => hpre j y (List.getElem?_eq_some_iff.1 hy).1 hy)).symm


theorem containsFunc_FieldR (p : FieldR → Bool) (g : Nat) (caps : List PVal) (hc : Closed caps) (xs : List FieldR) (hmax : Short xs) (hg : ∀ x ∈ xs, RCall Tryz.prog g (.dat (FieldR.enc x) :: caps) (.dat (.bool (p x)))) :
    RCall Tryz.prog 264 [.dat (.sl (xs.map FieldR.enc)), .fn g caps] (.dat (.bool (xs.any p))) := by
  have hc' := hc
  unfold Closed at hc'
  refine rcall_of hmix [] Tryz.func264 (by kernel_rfl) rfl (by simp [Tryz.f264]) ?_
  simp -dsimp [Tryz.f264, hc'.1, hc'.2.1]
  refine callA (indexFunc_FieldR p g caps hc xs hmax hg) ?_ (by simp)
  simp -dsimp [idx_nonneg]


theorem indexFunc_Int (p : Int → Bool) (g : Nat) (caps : List PVal) (hc : Closed caps) (xs : List Int) (hmax : Short xs) (hg : ∀ x ∈ xs, RCall Tryz.prog g (.dat ((Dat.int IntKind.i64) x) :: caps) (.dat (.bool (p x)))) :
    RCall Tryz.prog 112 [.dat (.sl (xs.map (Dat.int IntKind.i64))), .fn g caps] (.dat (.int .i64 (idx p xs))) := by
  unfold Short at hmax
  refine rcall_of hmix [] Tryz.func112 (by kernel_rfl) rfl (by simp [Tryz.f112]) ?_
  simp -dsimp [Tryz.f112]
  refine awp_loop (fun s => ∃ k : Nat, k ≤ xs.length ∧ s.t 8 = .dat (.int .i64 k) ∧ s.t 7 = .dat (.int .i64 xs.length) ∧ s.t 0 = .dat (.sl (xs.map (Dat.int IntKind.i64))) ∧ s.t 1 = .fn g caps ∧ ∀ (j : Nat) (y : Int), j < k → xs[j]? = some y → p y = false) (fun s => xs.length - natOf (s.t 8)) ⟨0, by simp⟩ ?_
  rintro s ⟨k, hk, h8, h7, h0, h1, hpre⟩
  by_cases hlt : k < xs.length
  · have hw : IntKind.i64.wrap ((k : Int) + 1) = k + 1 := wrap_in (by omega) (by omega)
    obtain ⟨x, hx⟩ : ∃ x, xs[k]? = some x := ⟨_, List.getElem?_eq_getElem hlt⟩
    have hx' : xs[k] = x := (List.getElem?_eq_some_iff.1 hx).2
    have hc' := hc
    unfold Closed at hc'
    simp -dsimp [h8, h7, h0, h1, hlt, hx, hx', hc'.1, hc'.2.1]
    refine callA (hg x (List.mem_of_getElem? hx)) ?_ (by simp)
    cases hp : p x
    · simp -dsimp [hw, h8, h7, h0, h1]
      refine ⟨⟨k + 1, by omega, by simp, fun j y hj hy => ?_⟩, by omega⟩
      by_cases e : j = k
      · subst e; rw [hx] at hy; injection hy with hy; subst hy; exact hp
      · exact hpre j y (by omega) hy
    · simp -dsimp [h8]
      exact (idx_some hx hp hpre).symm
  · have hkl : k = xs.length := by omega
    subst hkl
    simp -dsimp [h8, h7, h0, h1]
    exact (idx_none (fun j y hy => hpre j y (List.getElem?_eq_some_iff.1 hy).1 hy)).symm


theorem containsFunc_Int (p : Int → Bool) (g : Nat) (caps : List PVal) (hc : Closed caps) (xs : List Int) (hmax : Short xs) (hg : ∀ x ∈ xs, RCall Tryz.prog g (.dat ((Dat.int IntKind.i64) x) :: caps) (.dat (.bool (p x)))) :
    RCall Tryz.prog 53 [.dat (.sl (xs.map (Dat.int IntKind.i64))), .fn g caps] (.dat (.bool (xs.any p))) := by
  have hc' := hc
  unfold Closed at hc'
  refine rcall_of hmix [] Tryz.func53 (by kernel_rfl) rfl (by simp [Tryz.f53]) ?_
  simp -dsimp [Tryz.f53, hc'.1, hc'.2.1]
  refine callA (indexFunc_Int p g caps hc xs hmax hg) ?_ (by simp)
  simp -dsimp [idx_nonneg]


theorem index_Int (x : Int) (xs : List Int) (hmax : Short xs) : RCall Tryz.prog 191 [.dat (.sl (xs.map (.int .i64))), .dat (.int .i64 x)] (.dat (.int .i64 (idx (fun y => decide (x = y)) xs))) := by
  unfold Short at hmax
  refine rcall_of hmix [] Tryz.func191 (by kernel_rfl) rfl (by simp [Tryz.f191]) ?_
  simp -dsimp [Tryz.f191]
  refine awp_loop (fun s => ∃ k : Nat, k ≤ xs.length ∧ s.t 8 = .dat (.int .i64 k) ∧ s.t 7 = .dat (.int .i64 xs.length) ∧ s.t 0 = .dat (.sl (xs.map (.int .i64))) ∧ s.t 1 = .dat (.int .i64 x) ∧ ∀ (j : Nat) (y : Int), j < k → xs[j]? = some y → (decide (x = y)) = false) (fun s => xs.length - natOf (s.t 8)) ⟨0, by simp⟩ ?_
  rintro s ⟨k, hk, h8, h7, h0, h1, hpre⟩
  by_cases hlt : k < xs.length
  · have hw : IntKind.i64.wrap ((k : Int) + 1) = k + 1 := wrap_in (by omega) (by omega)
    obtain ⟨y, hy⟩ : ∃ y, xs[k]? = some y := ⟨_, List.getElem?_eq_getElem hlt⟩
    have hy' : xs[k] = y := (List.getElem?_eq_some_iff.1 hy).2
    by_cases hp : x = y
    · simp -dsimp [h8, h7, h0, h1, hlt, hy, hy', hp]
      exact (idx_some hy (by simp [hp]) (fun j z hj hz => by have := hpre j z hj hz; rw [hp] at this; simpa using this)).symm
    · simp -dsimp [h8, h7, h0, h1, hlt, hy, hy', hp, hw]
      refine ⟨⟨k + 1, by omega, by simp, fun j z hj hz => ?_⟩, by omega⟩
      by_cases e : j = k
      · subst e; rw [hy] at hz; injection hz with hz; subst hz; exact hp
      · simpa using hpre j z (by omega) hz
  · have hkl : k = xs.length := by omega
    subst hkl
    simp -dsimp [h8, h7, h0, h1]
    exact (idx_none (fun j y hy => hpre j y (List.getElem?_eq_some_iff.1 hy).1 hy)).symm
theorem contains_Int (x : Int) (xs : List Int) (hmax : Short xs) : RCall Tryz.prog 111 [.dat (.sl (xs.map (.int .i64))), .dat (.int .i64 x)] (.dat (.bool (xs.any fun y => decide (x = y)))) := by
  refine rcall_of hmix [] Tryz.func111 (by kernel_rfl) rfl (by simp [Tryz.f111]) ?_
  simp -dsimp [Tryz.f111]
  refine callA (index_Int x xs hmax) ?_ (by simp)
  simp -dsimp [idx_nonneg]
end Go.Proofs.YtflpgdlgfffigaaGreat
