/- slices.IndexFunc and its kin. -/
import Derived.Test.YtflpgdlgfffigaaCoreB
import Derived.Test.YtflpgdlgfffigaaCTypes
set_option linter.unusedSimpArgs false
set_option linter.unusedVariables false
namespace Go.Proofs.Ytflpgdlgfffigaa
open Go Go.Abs
set_option maxRecDepth 8000
set_option maxHeartbeats 2000000

theorem indexFunc_Image (p : Image → Bool) (g : Nat) (caps : List PVal) (hc : Closed caps) (xs : List Image) (hmax : Short xs) (hg : ∀ x ∈ xs, RCall Try.prog g (.dat (Image.enc x) :: caps) (.dat (.bool (p x)))) :
    RCall Try.prog 103 [.dat (.sl (xs.map Image.enc)), .fn g caps] (.dat (.int .i64 (idx p xs))) := by
  unfold Short at hmax
  refine rcall_of hmix [] Try.func103 (by kernel_rfl) rfl (by simp [Try.f103]) ?_
  simp -dsimp [Try.f103]
  refine awp_loop (fun s => ∃ k : Nat, k ≤ xs.length ∧ s.t 8 = .dat (.int .i64 k) ∧ s.t 7 = .dat (.int .i64 xs.length) ∧ s.t 0 = .dat (.sl (xs.map Image.enc)) ∧ s.t 1 = .fn g caps ∧ ∀ (j : Nat) (y : Image), j < k → xs[j]? = some y → p y = false) (fun s => xs.length - natOf (s.t 8)) ⟨0, by simp⟩ ?_
  rintro s ⟨k, hk, h8, h7, h0, h1, hpre⟩
  by_cases hlt : k < xs.length
  · have hw : IntKind.i64.wrap ((k : Int) + 1) = k + 1 := wrap_in (by omega) (by omega)
    obtain ⟨x, hx⟩ : ∃ x, xs[k]? = some x := ⟨_, List.getElem?_eq_getElem hlt⟩
    have hx' : xs[k] = x := (List.getElem?_eq_some_iff.1 hx).2
    have hc' := hc
    unfold Closed at hc'
    simp -dsimp [h8, h7, h0, h1, hlt, hx, hx', hc'.1, hc'.2.1, (Image.ag x).len, (Image.ag x).ld, (Image.ag x).mkT]
    refine callA (hg x (List.mem_of_getElem? hx)) ?_ (by simp)
    cases hp : p x
    · simp -dsimp [hw, h8, h7, h0, h1]
      refine ⟨⟨k + 1, by omega, by simp, fun j y hj hy => ?_⟩, by omega⟩
      by_cases e : j = k
      · subst e; rw [hx] at hy; injection hy with hy; subst hy; exact hp
      · exact hpre j y (by omega) hy
    · simp -dsimp [h8]
      exact (idx_some hx hp hpre).symm
  · have hkl : k = xs.length := by omega
    subst hkl
    simp -dsimp [h8, h7, h0, h1]
    exact (idx_none (fun j y hy => hpre j y (List.getElem?_eq_some_iff.1 hy).1 hy)).symm


theorem indexFunc_Export (p : Export → Bool) (g : Nat) (caps : List PVal) (hc : Closed caps) (xs : List Export) (hmax : Short xs) (hg : ∀ x ∈ xs, RCall Try.prog g (.dat (Export.enc x) :: caps) (.dat (.bool (p x)))) :
    RCall Try.prog 106 [.dat (.sl (xs.map Export.enc)), .fn g caps] (.dat (.int .i64 (idx p xs))) := by
  unfold Short at hmax
  refine rcall_of hmix [] Try.func106 (by kernel_rfl) rfl (by simp [Try.f106]) ?_
  simp -dsimp [Try.f106]
  refine awp_loop (fun s => ∃ k : Nat, k ≤ xs.length ∧ s.t 8 = .dat (.int .i64 k) ∧ s.t 7 = .dat (.int .i64 xs.length) ∧ s.t 0 = .dat (.sl (xs.map Export.enc)) ∧ s.t 1 = .fn g caps ∧ ∀ (j : Nat) (y : Export), j < k → xs[j]? = some y → p y = false) (fun s => xs.length - natOf (s.t 8)) ⟨0, by simp⟩ ?_
  rintro s ⟨k, hk, h8, h7, h0, h1, hpre⟩
  by_cases hlt : k < xs.length
  · have hw : IntKind.i64.wrap ((k : Int) + 1) = k + 1 := wrap_in (by omega) (by omega)
    obtain ⟨x, hx⟩ : ∃ x, xs[k]? = some x := ⟨_, List.getElem?_eq_getElem hlt⟩
    have hx' : xs[k] = x := (List.getElem?_eq_some_iff.1 hx).2
    have hc' := hc
    unfold Closed at hc'
    simp -dsimp [h8, h7, h0, h1, hlt, hx, hx', hc'.1, hc'.2.1, (Export.ag x).len, (Export.ag x).ld, (Export.ag x).mkT]
    refine callA (hg x (List.mem_of_getElem? hx)) ?_ (by simp)
    cases hp : p x
    · simp -dsimp [hw, h8, h7, h0, h1]
      refine ⟨⟨k + 1, by omega, by simp, fun j y hj hy => ?_⟩, by omega⟩
      by_cases e : j = k
      · subst e; rw [hx] at hy; injection hy with hy; subst hy; exact hp
      · exact hpre j y (by omega) hy
    · simp -dsimp [h8]
      exact (idx_some hx hp hpre).symm
  · have hkl : k = xs.length := by omega
    subst hkl
    simp -dsimp [h8, h7, h0, h1]
    exact (idx_none (fun j y hy => hpre j y (List.getElem?_eq_some_iff.1 hy).1 hy)).symm


theorem indexFunc_Segment (p : Segment → Bool) (g : Nat) (caps : List PVal) (hc : Closed caps) (xs : List Segment) (hmax : Short xs) (hg : ∀ x ∈ xs, RCall Try.prog g (.dat (Segment.enc x) :: caps) (.dat (.bool (p x)))) :
    RCall Try.prog 122 [.dat (.sl (xs.map Segment.enc)), .fn g caps] (.dat (.int .i64 (idx p xs))) := by
  unfold Short at hmax
  refine rcall_of hmix [] Try.func122 (by kernel_rfl) rfl (by simp [Try.f122]) ?_
  simp -dsimp [Try.f122]
  refine awp_loop (fun s => ∃ k : Nat, k ≤ xs.length ∧ s.t 8 = .dat (.int .i64 k) ∧ s.t 7 = .dat (.int .i64 xs.length) ∧ s.t 0 = .dat (.sl (xs.map Segment.enc)) ∧ s.t 1 = .fn g caps ∧ ∀ (j : Nat) (y : Segment), j < k → xs[j]? = some y → p y = false) (fun s => xs.length - natOf (s.t 8)) ⟨0, by simp⟩ ?_
  rintro s ⟨k, hk, h8, h7, h0, h1, hpre⟩
  by_cases hlt : k < xs.length
  · have hw : IntKind.i64.wrap ((k : Int) + 1) = k + 1 := wrap_in (by omega) (by omega)
    obtain ⟨x, hx⟩ : ∃ x, xs[k]? = some x := ⟨_, List.getElem?_eq_getElem hlt⟩
    have hx' : xs[k] = x := (List.getElem?_eq_some_iff.1 hx).2
    have hc' := hc
    unfold Closed at hc'
    simp -dsimp [h8, h7, h0, h1, hlt, hx, hx', hc'.1, hc'.2.1, (Segment.ag x).len, (Segment.ag x).ld, (Segment.ag x).mkT]
    refine callA (hg x (List.mem_of_getElem? hx)) ?_ (by simp)
    cases hp : p x
    · simp -dsimp [hw, h8, h7, h0, h1]
      refine ⟨⟨k + 1, by omega, by simp, fun j y hj hy => ?_⟩, by omega⟩
      by_cases e : j = k
      · subst e; rw [hx] at hy; injection hy with hy; subst hy; exact hp
      · exact hpre j y (by omega) hy
    · simp -dsimp [h8]
      exact (idx_some hx hp hpre).symm
  · have hkl : k = xs.length := by omega
    subst hkl
    simp -dsimp [h8, h7, h0, h1]
    exact (idx_none (fun j y hy => hpre j y (List.getElem?_eq_some_iff.1 hy).1 hy)).symm


theorem containsFunc_Segment (p : Segment → Bool) (g : Nat) (caps : List PVal) (hc : Closed caps) (xs : List Segment) (hmax : Short xs) (hg : ∀ x ∈ xs, RCall Try.prog g (.dat (Segment.enc x) :: caps) (.dat (.bool (p x)))) :
    RCall Try.prog 114 [.dat (.sl (xs.map Segment.enc)), .fn g caps] (.dat (.bool (xs.any p))) := by
  have hc' := hc
  unfold Closed at hc'
  refine rcall_of hmix [] Try.func114 (by kernel_rfl) rfl (by simp [Try.f114]) ?_
  simp -dsimp [Try.f114, hc'.1, hc'.2.1]
  refine callA (indexFunc_Segment p g caps hc xs hmax hg) ?_ (by simp)
  simp -dsimp [idx_nonneg]


theorem indexFunc_FieldR (p : FieldR → Bool) (g : Nat) (caps : List PVal) (hc : Closed caps) (xs : List FieldR) (hmax : Short xs) (hg : ∀ x ∈ xs, RCall Try.prog g (.dat (FieldR.enc x) :: caps) (.dat (.bool (p x)))) :
    RCall Try.prog 134 [.dat (.sl (xs.map FieldR.enc)), .fn g caps] (.dat (.int .i64 (idx p xs))) := by
  unfold Short at hmax
  refine rcall_of hmix [] Try.func134 (by kernel_rfl) rfl (by simp [Try.f134]) ?_
  simp -dsimp [Try.f134]
  refine awp_loop (fun s => ∃ k : Nat, k ≤ xs.length ∧ s.t 8 = .dat (.int .i64 k) ∧ s.t 7 = .dat (.int .i64 xs.length) ∧ s.t 0 = .dat (.sl (xs.map FieldR.enc)) ∧ s.t 1 = .fn g caps ∧ ∀ (j : Nat) (y : FieldR), j < k → xs[j]? = some y → p y = false) (fun s => xs.length - natOf (s.t 8)) ⟨0, by simp⟩ ?_
  rintro s ⟨k, hk, h8, h7, h0, h1, hpre⟩
  by_cases hlt : k < xs.length
  · have hw : IntKind.i64.wrap ((k : Int) + 1) = k + 1 := wrap_in (by omega) (by omega)
    obtain ⟨x, hx⟩ : ∃ x, xs[k]? = some x := ⟨_, List.getElem?_eq_getElem hlt⟩
    have hx' : xs[k] = x := (List.getElem?_eq_some_iff.1 hx).2
    have hc' := hc
    unfold Closed at hc'
    simp -dsimp [h8, h7, h0, h1, hlt, hx, hx', hc'.1, hc'.2.1, (FieldR.ag x).len, (FieldR.ag x).ld, (FieldR.ag x).mkT]
    refine callA (hg x (List.mem_of_getElem? hx)) ?_ (by simp)
    cases hp : p x
    · simp -dsimp [hw, h8, h7, h0, h1]
      refine ⟨⟨k + 1, by omega, by simp, fun j y hj hy => ?_⟩, by omega⟩
      by_cases e : j = k
      · subst e; rw [hx] at hy; injection hy with hy; subst hy; exact hp
      · exact hpre j y (by omega) hy
    · simp -dsimp [h8]
      exact (idx_some hx hp hpre).symm
  · have hkl : k = xs.length := by omega
    subst hkl
    simp -dsimp [h8, h7, h0, h1]
    exact (idx_none (fun j y hy => hpre j y (List.getElem?_eq_some_iff.1 hy).1 hy)).symm


theorem containsFunc_FieldR (p : FieldR → Bool) (g : Nat) (caps : List PVal) (hc : Closed caps) (xs : List FieldR) (hmax : Short xs) (hg : ∀ x ∈ xs, RCall Try.prog g (.dat (FieldR.enc x) :: caps) (.dat (.bool (p x)))) :
    RCall Try.prog 131 [.dat (.sl (xs.map FieldR.enc)), .fn g caps] (.dat (.bool (xs.any p))) := by
  have hc' := hc
  unfold Closed at hc'
  refine rcall_of hmix [] Try.func131 (by kernel_rfl) rfl (by simp [Try.f131]) ?_
  simp -dsimp [Try.f131, hc'.1, hc'.2.1]
  refine callA (indexFunc_FieldR p g caps hc xs hmax hg) ?_ (by simp)
  simp -dsimp [idx_nonneg]


theorem indexFunc_Int (p : Int → Bool) (g : Nat) (caps : List PVal) (hc : Closed caps) (xs : List Int) (hmax : Short xs) (hg : ∀ x ∈ xs, RCall Try.prog g (.dat ((Dat.int IntKind.i64) x) :: caps) (.dat (.bool (p x)))) :
    RCall Try.prog 54 [.dat (.sl (xs.map (Dat.int IntKind.i64))), .fn g caps] (.dat (.int .i64 (idx p xs))) := by
  unfold Short at hmax
  refine rcall_of hmix [] Try.func54 (by kernel_rfl) rfl (by simp [Try.f54]) ?_
  simp -dsimp [Try.f54]
  refine awp_loop (fun s => ∃ k : Nat, k ≤ xs.length ∧ s.t 8 = .dat (.int .i64 k) ∧ s.t 7 = .dat (.int .i64 xs.length) ∧ s.t 0 = .dat (.sl (xs.map (Dat.int IntKind.i64))) ∧ s.t 1 = .fn g caps ∧ ∀ (j : Nat) (y : Int), j < k → xs[j]? = some y → p y = false) (fun s => xs.length - natOf (s.t 8)) ⟨0, by simp⟩ ?_
  rintro s ⟨k, hk, h8, h7, h0, h1, hpre⟩
  by_cases hlt : k < xs.length
  · have hw : IntKind.i64.wrap ((k : Int) + 1) = k + 1 := wrap_in (by omega) (by omega)
    obtain ⟨x, hx⟩ : ∃ x, xs[k]? = some x := ⟨_, List.getElem?_eq_getElem hlt⟩
    have hx' : xs[k] = x := (List.getElem?_eq_some_iff.1 hx).2
    have hc' := hc
    unfold Closed at hc'
    simp -dsimp [h8, h7, h0, h1, hlt, hx, hx', hc'.1, hc'.2.1]
    refine callA (hg x (List.mem_of_getElem? hx)) ?_ (by simp)
    cases hp : p x
    · simp -dsimp [hw, h8, h7, h0, h1]
      refine ⟨⟨k + 1, by omega, by simp, fun j y hj hy => ?_⟩, by omega⟩
      by_cases e : j = k
      · subst e; rw [hx] at hy; injection hy with hy; subst hy; exact hp
      · exact hpre j y (by omega) hy
    · simp -dsimp [h8]
      exact (idx_some hx hp hpre).symm
  · have hkl : k = xs.length := by omega
    subst hkl
    simp -dsimp [h8, h7, h0, h1]
    exact (idx_none (fun j y hy => hpre j y (List.getElem?_eq_some_iff.1 hy).1 hy)).symm


theorem containsFunc_Int (p : Int → Bool) (g : Nat) (caps : List PVal) (hc : Closed caps) (xs : List Int) (hmax : Short xs) (hg : ∀ x ∈ xs, RCall Try.prog g (.dat ((Dat.int IntKind.i64) x) :: caps) (.dat (.bool (p x)))) :
    RCall Try.prog 33 [.dat (.sl (xs.map (Dat.int IntKind.i64))), .fn g caps] (.dat (.bool (xs.any p))) := by
  have hc' := hc
  unfold Closed at hc'
  refine rcall_of hmix [] Try.func33 (by kernel_rfl) rfl (by simp [Try.f33]) ?_
  simp -dsimp [Try.f33, hc'.1, hc'.2.1]
  refine callA (indexFunc_Int p g caps hc xs hmax hg) ?_ (by simp)
  simp -dsimp [idx_nonneg]


theorem index_Int (x : Int) (xs : List Int) (hmax : Short xs) : RCall Try.prog 105 [.dat (.sl (xs.map (.int .i64))), .dat (.int .i64 x)] (.dat (.int .i64 (idx (fun y => decide (x = y)) xs))) := by
  unfold Short at hmax
  refine rcall_of hmix [] Try.func105 (by kernel_rfl) rfl (by simp [Try.f105]) ?_
  simp -dsimp [Try.f105]
  refine awp_loop (fun s => ∃ k : Nat, k ≤ xs.length ∧ s.t 8 = .dat (.int .i64 k) ∧ s.t 7 = .dat (.int .i64 xs.length) ∧ s.t 0 = .dat (.sl (xs.map (.int .i64))) ∧ s.t 1 = .dat (.int .i64 x) ∧ ∀ (j : Nat) (y : Int), j < k → xs[j]? = some y → (decide (x = y)) = false) (fun s => xs.length - natOf (s.t 8)) ⟨0, by simp⟩ ?_
  rintro s ⟨k, hk, h8, h7, h0, h1, hpre⟩
  by_cases hlt : k < xs.length
  · have hw : IntKind.i64.wrap ((k : Int) + 1) = k + 1 := wrap_in (by omega) (by omega)
    obtain ⟨y, hy⟩ : ∃ y, xs[k]? = some y := ⟨_, List.getElem?_eq_getElem hlt⟩
    have hy' : xs[k] = y := (List.getElem?_eq_some_iff.1 hy).2
    by_cases hp : x = y
    · simp -dsimp [h8, h7, h0, h1, hlt, hy, hy', hp]
      exact (idx_some hy (by simp [hp]) (fun j z hj hz => by have := hpre j z hj hz; rw [hp] at this; simpa using this)).symm
    · simp -dsimp [h8, h7, h0, h1, hlt, hy, hy', hp, hw]
      refine ⟨⟨k + 1, by omega, by simp, fun j z hj hz => ?_⟩, by omega⟩
      by_cases e : j = k
      · subst e; rw [hy] at hz; injection hz with hz; subst hz; exact hp
      · simpa using hpre j z (by omega) hz
  · have hkl : k = xs.length := by omega
    subst hkl
    simp -dsimp [h8, h7, h0, h1]
    exact (idx_none (fun j y hy => hpre j y (List.getElem?_eq_some_iff.1 hy).1 hy)).symm
theorem contains_Int (x : Int) (xs : List Int) (hmax : Short xs) : RCall Try.prog 51 [.dat (.sl (xs.map (.int .i64))), .dat (.int .i64 x)] (.dat (.bool (xs.any fun y => decide (x = y)))) := by
  refine rcall_of hmix [] Try.func51 (by kernel_rfl) rfl (by simp [Try.f51]) ?_
  simp -dsimp [Try.f51]
  refine callA (index_Int x xs hmax) ?_ (by simp)
  simp -dsimp [idx_nonneg]
end Go.Proofs.Ytflpgdlgfffigaa
