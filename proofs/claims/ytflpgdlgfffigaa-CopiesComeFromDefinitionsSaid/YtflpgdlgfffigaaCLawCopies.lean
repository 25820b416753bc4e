/- The law: copies come from definitions. -/
import Derived.Test.YtflpgdlgfffigaaCCopies
set_option linter.unusedSimpArgs false
set_option linter.unusedVariables false
namespace Go.Proofs.Ytflpgdlgfffigaa
open Go Go.Abs
set_option maxRecDepth 8000
set_option maxHeartbeats 4000000

theorem bytes_LoadedC : Try.prog.bytesOf 52 = 408 := by kernel_rfl
theorem loaded_boundC {l : List Loaded} (hb : l.length * Try.prog.bytesOf 52 ≤ reachBytes) : l.length * 384 ≤ 140737488355328 := by
  rw [bytes_LoadedC] at hb
  unfold reachBytes at hb
  omega
theorem lawCopies_c (l : List Loaded) (hl : Short l ∧ ∀ x ∈ l, x.WF) (hb0 : l.length * Try.prog.bytesOf 52 ≤ reachBytes) : RCall Try.prog 7 [.dat (.sl (l.map Loaded.enc))] (.dat (.bool true)) := by
  have hb := loaded_boundC hb0
  have hll : l.length ≤ 9223372036854775807 := hl.1
  have hlist := copies_list_c l hl hb
  have hdef := listF_def l
  have hlen := listF_len l
  generalize listF l = r at *
  obtain ⟨cs, ⟨c, n⟩⟩ := r
  simp only [listP, Fault.enc] at hlist
  simp only at hdef hlen
  refine rcall_of hmix [] Try.func7 (by kernel_rfl) rfl (by simp [Try.f7]) ?_
  simp -dsimp [Try.f7]
  refine callA hlist ?_ rfl
  simp -dsimp
  refine callA copiesEx_c ?_ rfl
  simp -dsimp
  refine awp_loopN cs.length (fun k s => s.t 5 = .dat (.int .i64 k) ∧ s.t 3 = .dat (.sl (cs.map CopyR.enc)) ∧ s.t 4 = .bptr 4 0 ∧ s.h 4 = some [.dat (.int .i64 c), .dat (.int .i64 n)] ∧ s.t 0 = .dat (.sl (l.map Loaded.enc))) ⟨by simp, by simp, by simp, by simp, by simp⟩ ?_
  rintro k s hk ⟨h5, h3, h4, hh4, h0⟩
  by_cases hlt : k < cs.length
  · have hw : IntKind.i64.wrap ((k : Int) + 1) = k + 1 := wrap_in (by omega) (by omega)
    obtain ⟨r, hr⟩ : ∃ r, cs[k]? = some r := ⟨_, List.getElem?_eq_getElem hlt⟩
    have hr' : cs[k] = r := (List.getElem?_eq_some_iff.1 hr).2
    obtain ⟨j0, k0, y0, x0, hy0, hx0, hth0, hsrc0⟩ := hdef r (List.mem_of_getElem? hr)
    have hagr := CopyR.ag r
    have r1 : r.enc.cells[1]? = some (.int .i64 r.source) := rfl
    have r1' : ∀ h, r.enc.cells[1]'h = .int .i64 r.source := fun _ => rfl
    by_cases hc : c = 0
    · simp -dsimp [h5, h3, h4, hh4, h0, hlt, hc]
      refine awp_loopN l.length (fun j s => ∃ b, s.t 7 = .dat (.int .i64 j) ∧ s.t 6 = .dat (.bool b) ∧ (b = false → j ≤ j0) ∧ s.t 5 = .dat (.int .i64 k) ∧ s.t 3 = .dat (.sl (cs.map CopyR.enc)) ∧ s.t 4 = .bptr 4 0 ∧ s.h 4 = some [.dat (.int .i64 c), .dat (.int .i64 n)] ∧ s.t 0 = .dat (.sl (l.map Loaded.enc))) ⟨false, by simp, by simp, by simp, by simp [h5], by simp [h3], by simp [h4], by simp [hh4], by simp [h0]⟩ ?_
      rintro j s hj ⟨b, h7, h6, hbj, h5, h3, h4, hh4, h0⟩
      by_cases hjl : j < l.length
      · have hwj : IntKind.i64.wrap ((j : Int) + 1) = j + 1 := wrap_in (by omega) (by omega)
        obtain ⟨y, hy⟩ : ∃ y, l[j]? = some y := ⟨_, List.getElem?_eq_getElem hjl⟩
        have hy' : l[j] = y := (List.getElem?_eq_some_iff.1 hy).2
        have hag := Loaded.ag y
        have j4 : y.enc.cells[4]? = some (.sl (y.image.exports.map Export.enc)) := rfl
        have j4' : ∀ h, y.enc.cells[4]'h = .sl (y.image.exports.map Export.enc) := fun _ => rfl
        have b1 := loaded_19 y
        have b1' := loaded_19' y
        have hel : y.image.exports.length ≤ 9223372036854775807 := (hl.2 y (List.mem_of_getElem? hy)).1.exports.1
        simp -dsimp [h7, h6, h5, h3, h4, hh4, h0, hjl, hy, hy', hag.len, j4, j4']
        refine awp_loopN y.image.exports.length (fun e s => ∃ b, s.t 9 = .dat (.int .i64 e) ∧ s.t 8 = .dat (.sl (y.image.exports.map Export.enc)) ∧ s.t 7 = .dat (.int .i64 j) ∧ s.t 6 = .dat (.bool b) ∧ (b = false → j ≤ j0 ∧ (j = j0 → e ≤ k0)) ∧ s.t 5 = .dat (.int .i64 k) ∧ s.t 3 = .dat (.sl (cs.map CopyR.enc)) ∧ s.t 4 = .bptr 4 0 ∧ s.h 4 = some [.dat (.int .i64 c), .dat (.int .i64 n)] ∧ s.t 0 = .dat (.sl (l.map Loaded.enc))) ⟨b, by simp, by simp, by simp [h7], by simp [h6], fun h => ⟨hbj h, fun _ => Nat.zero_le _⟩, by simp [h5], by simp [h3], by simp [h4], by simp [hh4], by simp [h0]⟩ ?_
        rintro e s he ⟨b, h9, h8, h7, h6, hbe, h5, h3, h4, hh4, h0⟩
        by_cases hel2 : e < y.image.exports.length
        · have hwe : IntKind.i64.wrap ((e : Int) + 1) = e + 1 := wrap_in (by omega) (by omega)
          obtain ⟨x, hx⟩ : ∃ x, y.image.exports[e]? = some x := ⟨_, List.getElem?_eq_getElem hel2⟩
          have hx' : y.image.exports[e] = x := (List.getElem?_eq_some_iff.1 hx).2
          have hagx := Export.ag x
          cases b
          · obtain ⟨q1, q2⟩ := hbe rfl
            have hmatch : (x.thread = true ∨ ¬ W (x.address + y.bias) = r.source) → (j = j0 → e + 1 ≤ k0) := by
              intro hno hjj
              have hle := q2 hjj
              rcases Nat.lt_or_eq_of_le hle with h | h
              · omega
              · exfalso
                subst hjj; subst h
                rw [hy] at hy0; injection hy0 with hy0; subst hy0
                rw [hx] at hx0; injection hx0 with hx0; subst hx0
                rcases hno with h | h
                · rw [hth0] at h; cases h
                · exact h hsrc0
            cases hxt : x.thread
            · simp -dsimp [h9, h8, h7, h6, h5, h3, h4, hh4, h0, hel2, hx, hx', hagx.len, Export.enc, hxt, hjl, hy, hy', hag.len, b1, b1', hlt, hr, hr', hagr.len, r1, r1', hwe]
              refine And.intro (show orderOk _ _ = true by kernel_rfl) ?_
              try simp -dsimp [h9, h8, h7, h6, h5, h3, h4, hh4, h0, hwe, hel2]
              first | exact ⟨q1, hmatch (.inl hxt)⟩ | (by_cases hno : IntKind.i64.wrap (x.address + y.bias) = r.source; exact .inr hno; exact .inl ⟨hno, q1, hmatch (.inr hno)⟩)
            · simp -dsimp [h9, h8, h7, h6, h5, h3, h4, hh4, h0, hel2, hx, hx', hagx.len, Export.enc, hxt, hwe]
              refine And.intro (show orderOk _ _ = true by kernel_rfl) ?_
              try simp -dsimp [h9, h8, h7, h6, h5, h3, h4, hh4, h0, hwe, hel2]
              first | exact ⟨q1, hmatch (.inl hxt)⟩ | (by_cases hno : IntKind.i64.wrap (x.address + y.bias) = r.source; exact .inr hno; exact .inl ⟨hno, q1, hmatch (.inr hno)⟩)
          · simp -dsimp [h9, h8, h7, h6, h5, h3, h4, hh4, h0, hel2, hwj, hjl]
        · have hen : e = y.image.exports.length := by omega
          subst hen
          have hbn : b = false → j + 1 ≤ j0 := by
            intro hb
            obtain ⟨q1, q2⟩ := hbe hb
            rcases Nat.lt_or_eq_of_le q1 with h | h
            · omega
            · exfalso
              have := q2 h
              subst h
              rw [hy] at hy0; injection hy0 with hy0; subst hy0
              have := (List.getElem?_eq_some_iff.1 hx0).1
              omega
          simp -dsimp [h9, h8, h7, h6, h5, h3, h4, hh4, h0, hwj, hjl]
          cases b
          · exact .inl ⟨rfl, hbn rfl⟩
          · exact .inr rfl
      · have hjn : j = l.length := by omega
        subst hjn
        have hbt : b = true := by
          cases b
          · have := hbj rfl
            have := (List.getElem?_eq_some_iff.1 hy0).1
            omega
          · rfl
        subst hbt
        simp -dsimp [h7, h6, h5, h3, h4, hh4, h0, hw, hlt, hc]
    · simp -dsimp [h5, h3, h4, hh4, h0, hlt, hc]
  · have hkn : k = cs.length := by omega
    subst hkn
    simp -dsimp [h5, h3, h4, hh4, h0]
end Go.Proofs.Ytflpgdlgfffigaa
