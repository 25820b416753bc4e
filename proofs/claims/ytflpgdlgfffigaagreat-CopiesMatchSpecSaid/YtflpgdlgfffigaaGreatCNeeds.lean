/- Scope: what images need. -/
import Derived.Test.YtflpgdlgfffigaaGreatCoreB
import Derived.Test.YtflpgdlgfffigaaGreatCScope
set_option linter.unusedSimpArgs false
set_option linter.unusedVariables false
namespace Go.Proofs.YtflpgdlgfffigaaGreat
open Go Go.Abs
set_option maxRecDepth 8000
set_option maxHeartbeats 4000000

def rowAt (l : List Image) (j : Nat) : List Int := match l[j]? with | some x => needRow l x | none => []
theorem needs_c (l : List Image) (hl : Short l ∧ ∀ x ∈ l, x.WF) (h5 : l.length ≤ 1000) (hn5 : ∀ x ∈ l, x.needs.length ≤ 1000) : RCall Tryz.prog 51 [.dat (.sl (l.map Image.enc))] (needsR l) := by
  have b1 : (24 : Int) * (l.length : Int) ≤ 281474976710656 := by omega
  have b2 : (l.length : Int) ≤ 9223372036854775807 := by omega
  refine rcall_of hmix [] Tryz.func51 (by kernel_rfl) rfl (by simp [Tryz.f51]) ?_
  simp -dsimp [Tryz.f51, b1, b2]
  refine awp_loopN l.length (fun k s => s.t 16 = .dat (.int .i64 k) ∧ s.t 15 = .dat (.int .i64 l.length) ∧ s.t 14 = .dat (.sl (l.map Image.enc)) ∧ s.t 0 = .dat (.sl (l.map Image.enc)) ∧ s.t 5 = .msl 13 l.length ∧ (∃ cs, s.h 13 = some cs ∧ OutC cs l.length k (rowAt l)) ∧
    (∀ j y, j < k → l[j]? = some y → ∀ nm ∈ y.needs, 0 ≤ named l nm)) ⟨by simp, by simp, by simp, by simp, by simp, ⟨List.replicate l.length .nilS, by simp [kills_nils], by simp, by omega, fun j _ hj => by simp [hj]⟩, by omega⟩ ?_
  rintro k s hk ⟨h16, h15, h14, h0, h5', ⟨cs, hh13, hout⟩, hpre⟩
  by_cases hlt : k < l.length
  · have hw : IntKind.i64.wrap ((k : Int) + 1) = k + 1 := wrap_in (by omega) (by omega)
    obtain ⟨x, hx⟩ : ∃ x, l[k]? = some x := ⟨_, List.getElem?_eq_getElem hlt⟩
    have hx' : l[k] = x := (List.getElem?_eq_some_iff.1 hx).2
    have hmem : x ∈ l := List.mem_of_getElem? hx
    have hxw : x.WF := hl.2 x hmem
    have hxn := hn5 x hmem
    have hag := Image.ag x
    have hnd : x.enc.cells[11]? = some (.sl (x.needs.map .str)) := rfl
    have hnd2 : ∀ h, x.enc.cells[11]'h = .sl (x.needs.map .str) := fun _ => rfl
    have hrow : rowAt l k = needRow l x := by unfold rowAt; rw [hx]
    simp -dsimp [h16, h15, h14, h0, h5', hh13, hlt, hx, hx', hag.len, hag.ld, hag.mkT, hag.flats, hnd, hnd2]
    refine awp_loopN x.needs.length (fun j s => s.t 24 = .dat (.int .i64 j) ∧ s.t 23 = .dat (.int .i64 x.needs.length) ∧ s.t 22 = .dat (.sl (x.needs.map .str)) ∧ s.t 6 = .dat (.int .i64 k) ∧ s.t 16 = .dat (.int .i64 k) ∧ s.t 15 = .dat (.int .i64 l.length) ∧ s.t 14 = .dat (.sl (l.map Image.enc)) ∧ s.t 0 = .dat (.sl (l.map Image.enc)) ∧ s.t 5 = .msl 13 l.length ∧
      (∃ cs p, s.h 13 = some cs ∧ InC cs l.length k (rowAt l) p ∧ Grows [42] 3 p ((x.needs.take j).map (named l))) ∧ (∀ nm ∈ x.needs.take j, 0 ≤ named l nm))
      ⟨by simp, by simp, by simp, by simp [h16], by simp [h16], by simp [h15], by simp [h14], by simp [h0], by simp [h5'], ⟨kills 7 cs, .nilS, by simp [hh13], (hout.kills 7).inC hlt, .inl ⟨by simp, rfl⟩⟩, by simp⟩ ?_
    rintro j s hj ⟨h24, h23, h22, h6, h16, h15, h14, h0, h5', ⟨cs, p, hh13, hin, hgr⟩, hpre2⟩
    by_cases hjl : j < x.needs.length
    · have hwj : IntKind.i64.wrap ((j : Int) + 1) = j + 1 := wrap_in (by omega) (by omega)
      obtain ⟨nm, hnm⟩ : ∃ nm, x.needs[j]? = some nm := ⟨_, List.getElem?_eq_getElem hjl⟩
      have hnm' : x.needs[j] = nm := (List.getElem?_eq_some_iff.1 hnm).2
      have htake : x.needs.take (j + 1) = x.needs.take j ++ [nm] := by rw [List.take_succ_eq_append_getElem hjl, hnm']
      simp -dsimp [h24, h23, h22, h6, h16, h15, h14, h0, h5', hh13, hjl, hnm, hnm']
      refine callA (named_c l hl.1 nm) ?_ rfl
      simp -dsimp [h24, h23, h22, h6, h16, h15, h14, h0, h5', hh13]
      refine gif ?_ ?_
      · intro h
        simp at h
        have hmis := missing_some hx hpre (List.mem_of_getElem? hnm) h
        simp -dsimp [h24, h23, h22, h6, h16, h15, h14, h0, h5', hh13, needsR, hmis]
      · intro h
        simp at h
        have hcl := hin.1
        have hck := hin.2.1
        have hklt : (k : Int) < l.length := by omega
        generalize hpf : (x.needs.take j).map (named l) = pre at hgr
        have hplen : pre.length = j := by rw [← hpf]; simp; omega
        have bb : (j + 1) * 8 ≤ 140737488355328 := by omega
        have bb2 : j + 1 ≤ 9223372036854775807 := by omega
        have hkc2 : k + 1 ≤ cs.length := by omega
        rcases hgr with ⟨hp0, rfl⟩ | ⟨d, hd, rfl⟩
        · simp -dsimp [h24, h23, h22, h6, h16, h15, h14, h0, h5', hh13, hklt, hck, hkc2, kills_length, hwj, hjl]
          refine ⟨⟨_, hin.put hlt 42 _, .inr ⟨42, by simp, ?_⟩⟩, ?_⟩
          · rw [← List.map_take, htake, List.map_append, hpf, hp0]; rfl
          · rw [htake]; intro a ha; rcases List.mem_append.1 ha with ha | ha
            · exact hpre2 a ha
            · simp at ha; subst ha; exact h
        · simp at hd; subst hd
          simp -dsimp [h24, h23, h22, h6, h16, h15, h14, h0, h5', hh13, hklt, hck, hkc2, kills_length, hwj, hjl, hplen, bb, bb2]
          refine ⟨⟨_, (hin.kills 42).put hlt 42 _, .inr ⟨42, by simp, ?_⟩⟩, ?_⟩
          · rw [← List.map_take, htake, List.map_append, hpf]; simp
          · rw [htake]; intro a ha; rcases List.mem_append.1 ha with ha | ha
            · exact hpre2 a ha
            · simp at ha; subst ha; exact h
    · have hkl : j = x.needs.length := by omega
      subst hkl
      simp -dsimp [h24, h23, h22, h6, h16, h15, h14, h0, h5', hh13, hw, hlt]
      refine ⟨hin.out (by rw [hrow]; have := hgr.datOf; rw [List.take_length] at this; exact this), fun i y hi hy => ?_⟩
      by_cases e : i = k
      · subst e; rw [hx] at hy; injection hy with hy; subst hy; rw [List.take_length] at hpre2; exact hpre2
      · exact hpre i y (by omega) hy
  · have hkl : k = l.length := by omega
    subst hkl
    have hmis := missing_none hpre
    have hdats := hout.dats
    have hlen := hout.1
    have hrr : ((List.range l.length).map fun j => intsD (rowAt l j)) = (needRows l).map intsD := rows_range
    rw [hrr] at hdats
    simp -dsimp [h16, h15, h14, h0, h5', hh13, needsR, hmis, hdats, hlen, rowsD]
end Go.Proofs.YtflpgdlgfffigaaGreat
