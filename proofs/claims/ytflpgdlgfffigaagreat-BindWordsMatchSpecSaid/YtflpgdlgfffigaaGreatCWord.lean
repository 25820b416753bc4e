/- A stored word. -/
import Derived.Test.YtflpgdlgfffigaaGreatCBind
set_option linter.unusedSimpArgs false
set_option linter.unusedVariables false
namespace Go.Proofs.YtflpgdlgfffigaaGreat
open Go Go.Abs
set_option maxRecDepth 8000
set_option maxHeartbeats 4000000

def wordTo (x : Image) (a : Int) (i : Nat) : Int := (List.range i).foldl (wordRow x a) 0
def rowTo (x : Image) (a : Int) (i j : Nat) (w : Int) : Int := (x.segments.take j).foldl (byteStep a i) w
theorem wordTo_succ (x : Image) (a : Int) (i : Nat) : wordTo x a (i + 1) = rowTo x a i x.segments.length (wordTo x a i) := by
  unfold wordTo rowTo
  rw [List.range_succ, List.foldl_append, List.take_length]; rfl
theorem rowTo_succ (x : Image) (a : Int) (i j : Nat) (w : Int) (s : Segment) (h : x.segments[j]? = some s) : rowTo x a i (j + 1) w = byteStep a i (rowTo x a i j w) s := by
  obtain ⟨hj, rfl⟩ := List.getElem?_eq_some_iff.1 h
  unfold rowTo
  rw [List.take_succ_eq_append_getElem hj, List.foldl_append]; rfl

theorem word_c (x : Image) (hx : x.WF) (a : Int) : RCall Tryz.prog 207 [.dat x.enc, .dat (.int .i64 a)] (.dat (.int .u32 (wordOf x a))) := by
  have hsl := hx.segments.1
  unfold Short at hsl
  have hag := Image.ag x
  have i2 : x.enc.cells[2]? = some (.sl (x.segments.map Segment.enc)) := rfl
  have i2' : ∀ h, x.enc.cells[2]'h = .sl (x.segments.map Segment.enc) := fun _ => rfl
  refine rcall_of hmix [] Tryz.func207 (by kernel_rfl) rfl (by simp [Tryz.f207]) ?_
  simp -dsimp [Tryz.f207, hag.len, hag.flats]
  refine awp_loopN 4 (fun i s => s.t 10 = .dat (.int .i64 i) ∧ s.t 5 = .dat (.int .u32 (wordTo x a i)) ∧ s.t 1 = .dat (.int .i64 a) ∧ s.t 2 = .cptr (x.enc.cells.map .dat)) ⟨by simp, by simp [wordTo], by simp, by simp⟩ ?_
  rintro i s hi ⟨h10, h5, h1, h2⟩
  by_cases hlt : i < 4
  · have hw : IntKind.i64.wrap ((i : Int) + 1) = i + 1 := wrap_in (by omega) (by omega)
    have hlt' : (i : Int) < 4 := by omega
    have hw8 : IntKind.i64.wrap (8 * (i : Int)) = 8 * i := wrap_in (by omega) (by omega)
    have h80 : (0 : Int) ≤ 8 * (i : Int) := by omega
    have hsucc := wordTo_succ x a i
    generalize wordTo x a i = w0 at *
    simp -dsimp [h10, h5, h1, h2, hlt', hag.len, i2, i2']
    refine awp_loopN x.segments.length (fun j s => s.t 16 = .dat (.int .i64 j) ∧ s.t 15 = .dat (.int .i64 x.segments.length) ∧ s.t 14 = .dat (.sl (x.segments.map Segment.enc)) ∧ s.t 6 = .dat (.int .i64 i) ∧ s.t 10 = .dat (.int .i64 i) ∧ s.t 5 = .dat (.int .u32 (rowTo x a i j w0)) ∧ s.t 1 = .dat (.int .i64 a) ∧ s.t 2 = .cptr (x.enc.cells.map .dat))
      ⟨by simp, by simp, by simp, by simp, by simp [h10], by simp [h5, rowTo], by simp [h1], by simp [h2]⟩ ?_
    clear h10 h5 h1 h2
    rintro j s1 hj ⟨h16, h15, h14, h6, h10, h5, h1, h2⟩
    by_cases hjl : j < x.segments.length
    · have hwj : IntKind.i64.wrap ((j : Int) + 1) = j + 1 := wrap_in (by omega) (by omega)
      obtain ⟨g, hg⟩ : ∃ g, x.segments[j]? = some g := ⟨_, List.getElem?_eq_getElem hjl⟩
      have hg' : x.segments[j] = g := (List.getElem?_eq_some_iff.1 hg).2
      have hrs := rowTo_succ x a i j w0 g hg
      generalize rowTo x a i j w0 = w1 at *
      unfold byteStep W at hrs
      by_cases hin : 0 ≤ IntKind.i64.wrap (IntKind.i64.wrap (a + (i : Int)) - g.address) ∧ IntKind.i64.wrap (IntKind.i64.wrap (a + (i : Int)) - g.address) < g.data.length
      · rw [if_pos hin, hw8] at hrs
        obtain ⟨b, hbd⟩ : ∃ b, g.data[(IntKind.i64.wrap (IntKind.i64.wrap (a + (i : Int)) - g.address)).toNat]? = some b := ⟨_, List.getElem?_eq_getElem (by omega)⟩
        have hbd2 : ∀ h, g.data[(IntKind.i64.wrap (IntKind.i64.wrap (a + (i : Int)) - g.address)).toNat]'h = b := fun h => (List.getElem?_eq_some_iff.1 hbd).2
        have hbg : g.data.getD (IntKind.i64.wrap (IntKind.i64.wrap (a + (i : Int)) - g.address)).toNat 0 = b := by rw [List.getD_eq_getElem?_getD, hbd]; rfl
        rw [hbg] at hrs
        obtain ⟨hin1, hin2⟩ := hin
        simp -dsimp [h16, h15, h14, h6, h10, h5, h1, h2, hjl, hg, hg', Segment.enc, hin1, hin2, hbd, hbd2, hw8, h80, shlA, hwj, hrs, shlU, wrapU, IntKind.bits]
      · rw [if_neg hin] at hrs
        by_cases hin1 : 0 ≤ IntKind.i64.wrap (IntKind.i64.wrap (a + (i : Int)) - g.address)
        · have hin2 : ¬ IntKind.i64.wrap (IntKind.i64.wrap (a + (i : Int)) - g.address) < g.data.length := fun h => hin ⟨hin1, h⟩
          simp -dsimp [h16, h15, h14, h6, h10, h5, h1, h2, hjl, hg, hg', Segment.enc, hin1, hin2, hwj, hrs]
        · simp -dsimp [h16, h15, h14, h6, h10, h5, h1, h2, hjl, hg, hg', Segment.enc, hin1, hwj, hrs]
    · have hkl : j = x.segments.length := by omega
      subst hkl
      simp -dsimp [h16, h15, h14, h6, h10, h5, h1, h2, hw, hlt, hsucc]
  · have hi4 : i = 4 := by omega
    subst hi4
    simp -dsimp [h10, h5, h1, h2]
    rfl
end Go.Proofs.YtflpgdlgfffigaaGreat
