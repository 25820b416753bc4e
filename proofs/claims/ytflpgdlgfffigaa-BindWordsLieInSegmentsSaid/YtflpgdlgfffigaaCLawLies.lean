/- The law: every word lies in the segments. -/
import Derived.Test.YtflpgdlgfffigaaCBindEx
set_option linter.unusedSimpArgs false
set_option linter.unusedVariables false
namespace Go.Proofs.Ytflpgdlgfffigaa
open Go Go.Abs
set_option maxRecDepth 8000
set_option maxHeartbeats 4000000

theorem bytes_Loaded' : Try.prog.bytesOf 52 = 408 := by kernel_rfl
theorem loaded_bound' {l : List Loaded} (hb : l.length * Try.prog.bytesOf 52 ≤ reachBytes) : l.length * 384 ≤ 140737488355328 := by
  rw [bytes_Loaded'] at hb
  unfold reachBytes at hb
  omega
def liesIn (y : Loaded) (b : Bound) (s : Segment) : Bool := decide (s.address ≤ W (b.address - y.bias)) && decide (W (b.address - y.bias) ≤ W (W (s.address + s.size) - 4))

theorem lawLies_c (l : List Loaded) (hl : Short l ∧ ∀ x ∈ l, x.WF) (hb0 : l.length * Try.prog.bytesOf 52 ≤ reachBytes) (im : Int) (him : I64 im) (lz : Bool) :
    RCall Try.prog 10 [.dat (.sl (l.map Loaded.enc)), .dat (.int .i64 im), .dat (.bool lz)] (.dat (.bool true)) := by
  have hb := loaded_bound' hb0
  have hw := words_c l hl hb im lz
  rcases words_cases l im with ⟨f, hf, hF⟩ | ⟨hok, ik, y, rfl, hy, hF⟩
  · rw [hF lz] at hw
    simp only [wordsP, Fault.enc, List.map_nil] at hw
    refine rcall_of hmix [] Try.func10 (by kernel_rfl) rfl (by simp [Try.f10]) ?_
    simp -dsimp [Try.f10]
    refine callA hw ?_ rfl
    simp -dsimp
    refine callA bindEx_c ?_ rfl
    simp -dsimp
    refine awp_loopN 0 (fun k s => s.t 9 = .dat (.int .i64 0) ∧ s.t 7 = .dat (.sl [])) ⟨by simp, by simp⟩ ?_
    rintro k s hk ⟨h9, h7⟩
    simp -dsimp [h9, h7]
  · rw [hF lz] at hw
    have hyl := List.mem_of_getElem? hy
    have hyw : y.WF := hl.2 y hyl
    have himl : ik < l.length := (List.getElem?_eq_some_iff.1 hy).1
    have hy' : l[ik] = y := (List.getElem?_eq_some_iff.1 hy).2
    have hlies := allOf_lies hok (im := (ik : Int)) hyl lz
    have hlen680 := allOf_len hok (im := (ik : Int)) hyl lz
    have hgood : Go.Abs.Good (allOf l ik y lz).2 := runFix_good _ _ _
    have hfail : (allOf l ik y lz).2 = Fault.ok ∨ (allOf l ik y lz).1 = [] := runFix_fail _ _ _
    have hagl := Loaded.ag y
    have i2 : y.enc.cells[2]? = some (.sl (y.image.segments.map Segment.enc)) := rfl
    have i2' : ∀ h, y.enc.cells[2]'h = .sl (y.image.segments.map Segment.enc) := fun _ => rfl
    have b1 := loaded_19 y
    have b1' := loaded_19' y
    have hsl := hyw.1.segments.1
    unfold Short at hsl
    generalize allOf l ik y lz = R at *
    obtain ⟨ws, f⟩ := R
    have hws680 : ws.length ≤ 680 := hlen680
    simp only [wordsP, Fault.enc] at hw
    rcases hfail with hfk | hws
    · simp only at hfk
      subst hfk
      simp only [Fault.ok] at hw
      refine rcall_of hmix [] Try.func10 (by kernel_rfl) rfl (by simp [Try.f10]) ?_
      simp -dsimp [Try.f10]
      refine callA hw ?_ rfl
      simp -dsimp
      refine callA bindEx_c ?_ rfl
      simp -dsimp
      refine awp_loopN ws.length (fun i s => s.t 9 = .dat (.int .i64 i) ∧ s.t 7 = .dat (.sl (ws.map Bound.enc)) ∧ s.t 8 = .bptr 8 0 ∧ s.h 8 = some [.dat (.int .i64 0), .dat (.int .i64 0)] ∧ s.t 0 = .dat (.sl (l.map Loaded.enc)) ∧ s.t 1 = .dat (.int .i64 ik)) ⟨by simp, by simp, by simp, by simp, by simp, by simp⟩ ?_
      rintro i s hi ⟨h9, h7, h8, hh8, h0, h1⟩
      by_cases hlt : i < ws.length
      · have hwi : IntKind.i64.wrap ((i : Int) + 1) = i + 1 := wrap_in (by omega) (by omega)
        obtain ⟨b, hbi⟩ : ∃ b, ws[i]? = some b := ⟨_, List.getElem?_eq_getElem hlt⟩
        have hbi' : ws[i] = b := (List.getElem?_eq_some_iff.1 hbi).2
        obtain ⟨sg, hsg, hsa, hsb⟩ := hlies b (List.mem_of_getElem? hbi)
        have hany : y.image.segments.any (liesIn y b) = true := by
          rw [List.any_eq_true]
          exact ⟨sg, hsg, by unfold liesIn; simp [hsa, hsb]⟩
        simp -dsimp [h9, h7, h8, hh8, h0, h1, hlt, hy, hy', himl, hagl.len, hagl.ld, hagl.mkT, hagl.flats, hagl.mk]
        refine awp_loopN y.image.segments.length (fun j s => s.t 12 = .dat (.int .i64 j) ∧ s.t 11 = .dat (.bool ((y.image.segments.take j).any (liesIn y b))) ∧ s.t 10 = .bptr 10 0 ∧ s.h 10 = some (y.enc.cells.map .dat) ∧ s.t 9 = .dat (.int .i64 i) ∧ s.t 7 = .dat (.sl (ws.map Bound.enc)) ∧ s.t 8 = .bptr 8 0 ∧ s.h 8 = some [.dat (.int .i64 0), .dat (.int .i64 0)] ∧ s.t 0 = .dat (.sl (l.map Loaded.enc)) ∧ s.t 1 = .dat (.int .i64 ik))
          ⟨by simp, by simp, by simp, by simp, by simp [h9], by simp [h7], by simp [h8], by simp [hh8], by simp [h0], by simp [h1]⟩ ?_
        clear h9 h7 h8 hh8 h0 h1
        rintro j s1 hj ⟨h12, h11, h10, hh10, h9, h7, h8, hh8, h0, h1⟩
        by_cases hjl : j < y.image.segments.length
        · have hwj : IntKind.i64.wrap ((j : Int) + 1) = j + 1 := wrap_in (by omega) (by omega)
          obtain ⟨g, hg⟩ : ∃ g, y.image.segments[j]? = some g := ⟨_, List.getElem?_eq_getElem hjl⟩
          have hg' : y.image.segments[j] = g := (List.getElem?_eq_some_iff.1 hg).2
          have hst : (y.image.segments.take (j + 1)).any (liesIn y b) = ((y.image.segments.take j).any (liesIn y b) || liesIn y b g) := by
            rw [List.take_succ_eq_append_getElem hjl, hg', List.any_append]; simp
          have hin := ref5in_c (W (b.address - y.bias)) g.address (W (W (g.address + g.size) - 4))
          have hli : (decide (g.address ≤ W (b.address - y.bias)) && decide (W (b.address - y.bias) ≤ W (W (g.address + g.size) - 4))) = liesIn y b g := rfl
          rw [hli] at hin
          generalize liesIn y b g = q at *
          generalize (y.image.segments.take j).any (liesIn y b) = q0 at *
          unfold W at hin
          cases q0
          · simp -dsimp [h12, h11, h10, hh10, h9, h7, h8, hh8, h0, h1, hagl.len, i2, i2', b1, b1', hjl, hg, hg', Segment.enc, hlt, hbi, hbi', Bound.enc]
            refine callA hin ?_ rfl
            simp -dsimp [h12, h11, h10, hh10, h9, h7, h8, hh8, h0, h1, hwj, hjl, hst]
            first | exact ⟨by kernel_rfl, trivial⟩ | kernel_rfl | skip
          · simp -dsimp [h12, h11, h10, hh10, h9, h7, h8, hh8, h0, h1, hagl.len, i2, i2', b1, b1', hjl, hg, hg', Segment.enc, hlt, hbi, hbi', Bound.enc, hwj, hst]
            (try (show orderOk _ _ = true; kernel_rfl))
        · have hkl : j = y.image.segments.length := by omega
          subst hkl
          rw [List.take_length, hany] at h11
          simp -dsimp [h12, h11, h10, hh10, h9, h7, h8, hh8, h0, h1, hagl.len, i2, i2', hwi, hlt]
      · have hkl : i = ws.length := by omega
        subst hkl
        simp -dsimp [h9, h7, h8, hh8, h0, h1]
    · simp only at hws
      subst hws
      simp only [List.map_nil] at hw
      refine rcall_of hmix [] Try.func10 (by kernel_rfl) rfl (by simp [Try.f10]) ?_
      simp -dsimp [Try.f10]
      refine callA hw ?_ rfl
      simp -dsimp
      refine callA bindEx_c ?_ rfl
      simp -dsimp
      refine awp_loopN 0 (fun k s => s.t 9 = .dat (.int .i64 0) ∧ s.t 7 = .dat (.sl [])) ⟨by simp, by simp⟩ ?_
      rintro k s hk ⟨h9, h7⟩
      simp -dsimp [h9, h7]
end Go.Proofs.Ytflpgdlgfffigaa
