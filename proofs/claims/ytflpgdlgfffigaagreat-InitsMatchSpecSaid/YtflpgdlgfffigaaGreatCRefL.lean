/- The references: the order of initialization. -/
import Derived.Test.YtflpgdlgfffigaaGreatCRefJ
import Derived.Test.YtflpgdlgfffigaaGreatCCalls
set_option linter.unusedSimpArgs false
set_option linter.unusedVariables false
namespace Go.Proofs.YtflpgdlgfffigaaGreat
open Go Go.Abs
set_option maxRecDepth 8000
set_option maxHeartbeats 4000000

/-- Between the passes. -/
def PassAt (needs : List (List Int)) (out : List Int) (p : Nat) (b : Int) : Prop :=
  (p = 0 ∧ b = -1) ∨ (p = 1 ∧ FirstAt (passB needs out 0) needs.length 0 b) ∨ (p = 2 ∧ b = pick needs out)

theorem first6_c (l : List Image) (hl : Short l ∧ ∀ x ∈ l, x.WF) (h5 : l.length ≤ 1000) (hn5 : ∀ x ∈ l, x.needs.length ≤ 1000) (hm : missing l = none) :
    RCall Tryz.prog 26 [.dat (.sl (l.map Image.enc))] (.dat (intsD (sortedF (needRows l)))) := by
  have hnl := needRows_len l
  have hget : ∀ (i : Nat) (x : Image), l[i]? = some x → (needRows l)[i]? = some (needRow l x) := fun i x h => by simp [needRows, h]
  generalize needRows l = needs at hnl hget
  refine rcall_of hmix [] Tryz.func26 (by kernel_rfl) rfl (by simp [Tryz.f26]) ?_
  simp -dsimp [Tryz.f26]
  refine awp_loopN l.length (fun k s => s.t 0 = .dat (.sl (l.map Image.enc)) ∧ Grows [74] 3 (s.t 3) (sortedFrom needs k [])) ⟨by simp, .inl ⟨rfl, by simp⟩⟩ ?_
  rintro k s hk ⟨h0, hgr⟩
  have hlen := sortedFrom_len needs k []
  rw [List.length_nil, Nat.zero_add] at hlen
  have hsucc := sortedFrom_succ needs k []
  have hend : k = l.length → sortedFrom needs k [] = sortedF needs := fun e => by unfold sortedF; rw [hnl, e]
  generalize sortedFrom needs k [] = out at hgr hlen hsucc hend
  have hshort : Short out := by unfold Short; omega
  have hhas : ∀ n : Int, RCall Tryz.prog 62 [.dat (.sl (out.map (.int .i64))), .dat (.int .i64 n)] (.dat (.bool (hasI out n))) := fun n => has6_c out hshort n
  have b1 : (out.length + 1) * 8 ≤ 140737488355328 := by omega
  have b2 : out.length + 1 ≤ 9223372036854775807 := by omega
  by_cases hlt : k < l.length
  · have hlt1 : out.length < l.length := by omega
    have hlt2 : (out.length : Int) < (l.length : Int) := by omega
    have hl0 : 0 < l.length := by omega
    have hl0i : (0 : Int) < (l.length : Int) := by omega
    have hlne : ¬ l = [] := by intro e; rw [e] at hl0; simp at hl0
    have hundone := nice_missing (n := needs.length) (out := out) (by omega)
    have hw0 : IntKind.i64.wrap ((l.length : Int) - 1) = (l.length : Int) - 1 := wrap_in (by omega) (by omega)
    have hgr0 := hgr
    rcases hgr with ⟨ho, h3⟩ | ⟨d, hd, h3⟩
    all_goals
      first | simp -dsimp [h0, h3, hlt2, hlt1, hl0, hl0i, hlne, ho] | simp -dsimp [h0, h3, hlt2, hlt1, hl0, hl0i, hlne]
      refine awp_loopN 2 (fun p s' => s'.t 5 = .dat (.int .i64 p) ∧ s'.t 0 = .dat (.sl (l.map Image.enc)) ∧ s'.t 3 = s.t 3 ∧ ∃ b, s'.t 4 = .dat (.int .i64 b) ∧ PassAt needs out p b) ⟨by simp, by simp [h0], by simp [h3], -1, by simp, .inl ⟨rfl, rfl⟩⟩ ?_
      rintro p s1 hp ⟨h5', h0', h3', b, h4', hpass⟩
      rw [h3] at h3'
      by_cases hgo : p < 2 ∧ b < 0
      · obtain ⟨hp2, hb0⟩ := hgo
        have hp2i : (p : Int) < 2 := by omega
        have hwp : IntKind.i64.wrap ((p : Int) + 1) = p + 1 := wrap_in (by omega) (by omega)
        simp -dsimp [h5', h0', h3', h4', hp2, hp2i, hb0, hw0]
        refine awp_loopN l.length (fun j s' => s'.t 6 = .dat (.int .i64 ((l.length : Int) - 1 - (j : Int))) ∧ s'.t 5 = .dat (.int .i64 p) ∧ s'.t 0 = .dat (.sl (l.map Image.enc)) ∧ s'.t 3 = s.t 3 ∧ ∃ b, s'.t 4 = .dat (.int .i64 b) ∧ FirstAt (passB needs out p) needs.length (needs.length - j) b)
          ⟨by simp, by simp [h5'], by simp [h0'], by simp [h3', h3], -1, by (have hbe : b = -1 := by (rcases hpass with ⟨_, e⟩ | ⟨_, ⟨e, _⟩ | ⟨_, e, _⟩⟩ | ⟨e, _⟩ <;> omega)); simp [h4', hbe], firstAt_end _ _⟩ ?_
        clear h5' h0' h3' h4'
        rintro j s2 hj ⟨h6, h5', h0', h3', b', h4', hfirst⟩
        rw [h3] at h3'
        by_cases hjl : j < l.length
        · obtain ⟨i, hi⟩ : ∃ i : Nat, l.length = i + 1 + j := ⟨l.length - 1 - j, by omega⟩
          have hii : (l.length : Int) - 1 - (j : Int) = (i : Int) := by omega
          have hil : i < l.length := by omega
          rw [show needs.length - j = i + 1 by omega] at hfirst
          rw [hii] at h6
          obtain ⟨x, hx⟩ : ∃ x, l[i]? = some x := ⟨_, List.getElem?_eq_getElem hil⟩
          have hx' : ∀ h, l[i]'h = x := fun h => (List.getElem?_eq_some_iff.1 hx).2
          have hxn := hn5 x (List.mem_of_getElem? hx)
          have hag := Image.ag x
          have hnd : x.enc.cells[11]? = some (.sl (x.needs.map .str)) := rfl
          have hnd2 : ∀ h, x.enc.cells[11]'h = .sl (x.needs.map .str) := fun _ => rfl
          have hrow := hget _ x hx
          have hready := ready_rowOk (out := out) hrow
          have hw1 : IntKind.i64.wrap ((i : Int) - 1) = (i : Int) - 1 := wrap_in (by omega) (by omega)
          have hh6 := hhas (i : Int)
          (try rw [ho] at hh6)
          simp -dsimp [h6, h5', h0', h3']
          refine callA hh6 ?_ rfl
          simp -dsimp [h6, h5', h0', h3']
          refine awp_loopN x.needs.length (fun q s' => s'.t 8 = .dat (.int .i64 q) ∧ s'.t 6 = .dat (.int .i64 i) ∧ s'.t 5 = .dat (.int .i64 p) ∧ s'.t 0 = .dat (.sl (l.map Image.enc)) ∧ s'.t 3 = s.t 3 ∧ s'.t 4 = .dat (.int .i64 b') ∧ (p ≠ 0 → q = 0) ∧ s'.t 7 = .dat (.bool (!hasI out i && rowOk out i ((needRow l x).take q))))
            ⟨by simp, by simp [h6], by simp [h5'], by simp [h0'], by simp [h3', h3], by simp [h4'], by simp, by (simp [rowOk]; try simp [ho])⟩ ?_
          clear h6 h5' h0' h3' h4'
          rintro q s3 hq ⟨h8, h6, h5', h0', h3', h4', hpq, h7⟩
          rw [h3] at h3'
          by_cases hql : q < x.needs.length ∧ p = 0
          · obtain ⟨hql, rfl⟩ := hql
            have hwq : IntKind.i64.wrap ((q : Int) + 1) = q + 1 := wrap_in (by omega) (by omega)
            obtain ⟨nm, hnm⟩ : ∃ nm, x.needs[q]? = some nm := ⟨_, List.getElem?_eq_getElem hql⟩
            have hnm' : x.needs[q] = nm := (List.getElem?_eq_some_iff.1 hnm).2
            have htk : rowOk out i ((needRow l x).take (q + 1)) = (rowOk out i ((needRow l x).take q) && (decide (named l nm = i) || hasI out (named l nm))) := by
              have hrl : q < (needRow l x).length := by simp [needRow]; exact hql
              have hre : (needRow l x)[q] = named l nm := by simp [needRow, hnm']
              unfold rowOk
              rw [List.take_succ_eq_append_getElem hrl, List.all_append, hre]; simp
            generalize rowOk out i ((needRow l x).take q) = rq at *
            have hhn := hhas (named l nm)
            (try rw [ho] at hhn)
            simp -dsimp [h8, h6, h5', h0', h3', h4', h7, hil, hx, hx', hag.len, hnd, hnd2, hql, hnm, hnm']
            refine callA (named6_c l hl.1 nm) ?_ rfl
            simp -dsimp [h8, h6, h5', h0', h3', h4', h7]
            by_cases hre : (!hasI out i && rq) = true
            · by_cases hin : named l nm = i
              · simp -dsimp [hre, hin, h8, h6, h5', h0', h3', h4', h7, hwq, hql, htk]
                all_goals (first | done | (simp_all; done) | skip)
              · simp -dsimp [hre, hin, h8, h6, h5', h0', h3', h4', h7, hwq, hql, htk]
                refine callA hhn ?_ rfl
                simp -dsimp [hre, hin, h8, h6, h5', h0', h3', h4', h7, hwq, hql, htk]
                all_goals (first | done | (simp_all; done) | skip)
            · simp -dsimp [hre, h8, h6, h5', h0', h3', h4', h7, hwq, hql, htk]
              all_goals (first | done | (simp_all; done) | skip)
          · have hRi : (!hasI out i && rowOk out i ((needRow l x).take q)) = passB needs out p i := by
              unfold passB
              by_cases hp0 : p = 0
              · have hqe : q = x.needs.length := by omega
                subst hqe
                rw [List.take_of_length_le (by simp [needRow]), hready, hp0]; simp
              · rw [hpq hp0]; simp [rowOk, hp0]
            rw [hRi] at h7
            have hnb : needs.length - (j + 1) = i := by omega
            have hcond : ((x.needs.length : Int) ≤ (q : Int) ∨ ¬ p = 0) := by omega
            have hqn : ¬ (q < x.needs.length) ∨ ¬ p = 0 := by omega
            have hfin : ∀ B : Int, FirstAt (passB needs out p) needs.length i B → (i : Int) - 1 = (l.length : Int) - 1 - ((j : Int) + 1) ∧ FirstAt (passB needs out p) needs.length (needs.length - (j + 1)) B := fun B hB => ⟨by omega, by rw [hnb]; exact hB⟩
            by_cases hq1 : q < x.needs.length
            · have hp0 : ¬ p = 0 := by omega
              have hp0i : ¬ (p : Int) = 0 := by omega
              simp -dsimp [h8, h6, h5', h0', h3', h4', h7, hil, hx, hx', hag.len, hnd, hnd2, hq1, hp0, hp0i]
              cases hR : passB needs out p i
              · simp -dsimp [h6, h5', h0', h3', h4', h7, hR, hw1, hjl, h3]
                exact hfin _ (firstAt_no hfirst hR)
              · simp -dsimp [h6, h5', h0', h3', h4', h7, hR, hw1, hjl, h3]
                exact hfin _ (firstAt_yes (by omega) hR)
            · simp -dsimp [h8, h6, h5', h0', h3', h4', h7, hil, hx, hx', hag.len, hnd, hnd2, hq1]
              cases hR : passB needs out p i
              · simp -dsimp [h6, h5', h0', h3', h4', h7, hR, hw1, hjl, h3]
                exact hfin _ (firstAt_no hfirst hR)
              · simp -dsimp [h6, h5', h0', h3', h4', h7, hR, hw1, hjl, h3]
                exact hfin _ (firstAt_yes (by omega) hR)
        · have hje : j = l.length := by omega
          subst hje
          rw [show needs.length - l.length = 0 by omega] at hfirst
          have hm1 : (l.length : Int) - 1 - (l.length : Int) = -1 := by omega
          rw [hm1] at h6
          have hnext : PassAt needs out (p + 1) b' := by
            rcases hpass with ⟨rfl, _⟩ | ⟨rfl, hf0⟩ | ⟨e, _⟩
            · exact .inr (.inl ⟨rfl, hfirst⟩)
            · exact .inr (.inr ⟨rfl, pass_one hf0 hb0 hfirst hundone⟩)
            · omega
          simp -dsimp [h6, h5', h0', h3', h4', hwp, hp2, h3]
          exact hnext
      · have hpick : b = pick needs out := by
          rcases hpass with ⟨rfl, rfl⟩ | ⟨rfl, hf0⟩ | ⟨_, e⟩
          · omega
          · exact pass_zero hf0 (by omega)
          · exact e
        subst hpick
        have hcond : (p : Int) < 2 → ¬ pick needs out < 0 := by omega
        by_cases hp2 : p < 2
        · have hb0 : ¬ pick needs out < 0 := by omega
          have hp2i : (p : Int) < 2 := by omega
          first
            | (simp -dsimp [h5', h0', h3', h4', hp2, hp2i, hb0, b1, b2, hsucc, hlt, ho]; exact .inr ⟨74, by simp, by simp [ho]⟩)
            | (simp -dsimp [h5', h0', h3', h4', hp2, hp2i, hb0, b1, b2, hsucc, hlt]; exact .inr ⟨74, by simp, by (first | (simp; done) | (simp [ho]; done))⟩)
        · have hp2i : ¬ (p : Int) < 2 := by omega
          first
            | (simp -dsimp [h5', h0', h3', h4', hp2, hp2i, b1, b2, hsucc, hlt, ho]; exact .inr ⟨74, by simp, by simp [ho]⟩)
            | (simp -dsimp [h5', h0', h3', h4', hp2, hp2i, b1, b2, hsucc, hlt]; exact .inr ⟨74, by simp, by (first | (simp; done) | (simp [ho]; done))⟩)
  · have hkl : k = l.length := by omega
    rw [← hend hkl]
    have hnlt : ¬ (out.length < l.length) := by omega
    rcases hgr with ⟨ho, h3⟩ | ⟨d, hd, h3⟩
    · subst ho
      have hl0 : l = [] := by apply List.length_eq_zero_iff.1; simp at hlen; omega
      simp -dsimp [h3, h0, hl0, intsD]
    · simp -dsimp [h3, h0, hnlt, intsD]
end Go.Proofs.YtflpgdlgfffigaaGreat
