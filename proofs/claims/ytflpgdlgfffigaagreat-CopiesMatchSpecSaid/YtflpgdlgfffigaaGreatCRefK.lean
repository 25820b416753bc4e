/- The references: the order of search. -/
import Derived.Test.YtflpgdlgfffigaaGreatCRefJ
set_option linter.unusedSimpArgs false
set_option linter.unusedVariables false
namespace Go.Proofs.YtflpgdlgfffigaaGreat
open Go Go.Abs
set_option maxRecDepth 8000
set_option maxHeartbeats 4000000

/-- A level: data, or the row that was just made. -/
def LevP (p : PVal) (lv : List Int) : Prop := p = .dat (.sl (lv.map (.int .i64))) ∨ p = .ow 67 3 1 (lv.map (.int .i64)) ∨ (p = .nilS ∧ lv = [])
theorem LevP.kill {p : PVal} {lv : List Int} (h : LevP p lv) : p.kill 67 = .dat (.sl (lv.map (.int .i64))) ∨ (p.kill 67 = .nilS ∧ lv = []) := by
  rcases h with rfl | rfl | ⟨rfl, rfl⟩
  · exact .inl rfl
  · exact .inl rfl
  · exact .inr ⟨rfl, rfl⟩
theorem searched6_c (l : List Image) (hl : Short l ∧ ∀ x ∈ l, x.WF) (h5 : l.length ≤ 1000) (hn5 : ∀ x ∈ l, x.needs.length ≤ 1000) (hm : missing l = none) :
    RCall Tryz.prog 20 [.dat (.sl (l.map Image.enc))] (.dat (intsD (walkF (needRows l)))) := by
  have hok := needRows_ok hm
  have hnl := needRows_len l
  have hget : ∀ (i : Nat) (x : Image), l[i]? = some x → (needRows l)[i]? = some (needRow l x) := fun i x h => by simp [needRows, h]
  generalize needRows l = needs at hok hnl hget
  refine rcall_of hmix [10000067] Tryz.func20 (by kernel_rfl) rfl (by simp [Tryz.f20]) ?_
  simp -dsimp [Tryz.f20]
  refine awp_loopN l.length (fun k s => s.t 0 = .dat (.sl (l.map Image.enc)) ∧ ∃ out r, Grows [26, 63] 3 (s.t 3) out ∧ out = walkUp needs r ∧ r ≤ needs.length ∧ Nice needs.length out ∧ k ≤ out.length)
    ⟨by simp, [], 0, .inl ⟨rfl, by simp⟩, rfl, Nat.zero_le _, nice_nil _, Nat.zero_le _⟩ ?_
  rintro k s hk ⟨h0, out, r, hgr, hwalk, hr, hnice, hkl⟩
  have holen := hnice.length
  have hshort : Short out := by unfold Short; omega
  have hlens : ∀ p, Grows [26, 63] 3 p out → (p = .nilS ∧ out = []) ∨ ∃ d, d ∈ [26, 63] ∧ p = .ow d 3 1 (out.map (.int .i64)) := fun p h => by
    rcases h with ⟨a, b⟩ | ⟨d, a, b⟩
    · exact .inl ⟨b, a⟩
    · exact .inr ⟨d, a, b⟩
  by_cases hlt : out.length < l.length
  · obtain ⟨r1, hr1, hr2⟩ := nice_missing (n := needs.length) (out := out) (by omega)
    have hlt2 : (out.length : Int) < (l.length : Int) := by omega
    have hl0 : 0 < l.length := by omega
    have hl0i : (0 : Int) < (l.length : Int) := by omega
    have hlne : ¬ l = [] := by intro e; rw [e] at hl0; simp at hl0
    rcases hlens _ hgr with ⟨h3, ho⟩ | ⟨d, hd, h3⟩
    all_goals
      first | simp -dsimp [h0, h3, hlt2, hlt, hl0, hl0i, hlne, ho] | simp -dsimp [h0, h3, hlt2, hlt, hl0, hl0i, hlne]
      refine awp_loopN needs.length (fun j s' => s'.t 4 = .dat (.int .i64 j) ∧ s'.t 0 = .dat (.sl (l.map Image.enc)) ∧ s'.t 3 = s.t 3 ∧ ∀ i : Nat, i < j → (i : Int) ∈ out) ⟨by simp, by simp [h0], by simp [h3], by omega⟩ ?_
      rintro root s1 hj ⟨h4', h0', h3', hpre⟩
      rw [h3] at h3'
      have hw : IntKind.i64.wrap ((root : Int) + 1) = root + 1 := wrap_in (by omega) (by omega)
      have hhas := has6_c out hshort (root : Int)
      unfold intsD at hhas
      (try rw [ho] at hhas)
      simp -dsimp [h4', h0', h3']
      refine callA hhas ?_ rfl
      by_cases hh : hasI out (root : Int) = true
      · have hmem := hasI_iff.1 hh
        have hrl : root < needs.length := by have := hnice.2 _ hmem; omega
        (try rw [ho] at hh)
        simp -dsimp [h4', h0', h3', hh, hw, hrl, h3]
        intro i hi
        by_cases e : i = root
        · subst e; exact hmem
        · exact hpre i (by omega)
      · have hf : hasI out (root : Int) = false := by simpa using hh
        have hrl : root < needs.length := by
          refine Classical.byContradiction fun hn => ?_
          have hmem : (r1 : Int) ∈ out := hpre r1 (by omega)
          exact hasI_false.1 hr2 hmem
        have hst := walkUp_next needs (walkUp_root needs hwalk hpre hf) hf
        have hn1 := hnice.add (v := (root : Int)) (by omega) hf
        have b1 : (out.length + 1) * 8 ≤ 140737488355328 := by omega
        have b2 : out.length + 1 ≤ 9223372036854775807 := by omega
        clear hhas
        (try rw [ho] at hf)
        simp -dsimp [h4', h0', h3', hf, b1, b2]
        refine awp_loopN (needs.length + 1) (fun m s' => s'.t 0 = .dat (.sl (l.map Image.enc)) ∧ ∃ j o lv d, LevP (s'.t 5) lv ∧ s'.t 3 = .ow d 3 1 (o.map (.int .i64)) ∧ d ∈ [26, 63] ∧ m ≤ j ∧ out.length + j ≤ o.length ∧ o.drop (out.length + j) = lv ∧ Nice needs.length o ∧ out.length + 1 ≤ o.length ∧ walkUp needs (root + 1) = bfs needs (needs.length + 1 - j) (out.length + j) o)
          ⟨by simp [h0'], 0, out ++ [(root : Int)], [(root : Int)], 26, by (first | (left; simp; done) | skip), by (first | (simp [ho]; done) | (simp; done)), by simp, by simp, by simp, by simp, hn1, by simp, by simpa using hst⟩ ?_
        clear h4' h0' h3' hf hst hn1 b1 b2
        rintro m s2 hm2 ⟨h0', j, o, lv, d2, hlev, h3', hd2, hmj, hle, hdrop, hno, hlo, hbfs⟩
        have hol := hno.length
        have hd67 : ¬ d2 = 67 := by rintro rfl; simp at hd2
        by_cases hlv : lv = []
        · subst hlv
          have hlen : o.length = out.length + j := by
            have := List.drop_eq_nil_iff.1 hdrop; omega
          have hdone : walkUp needs (root + 1) = o := by rw [hbfs]; exact bfs_stop (by omega)
          have hkl2 : k < l.length := by omega
          rcases hlev with h5' | h5' | ⟨h5', _⟩ <;> simp -dsimp [h5', h3', h0', hkl2] <;> exact ⟨o, .inr ⟨d2, hd2, rfl⟩, root + 1, hdone.symm, by omega, hno, by omega⟩
        · have hlv0 : 0 < lv.length := List.length_pos_iff.2 hlv
          have hlvi : (0 : Int) < (lv.length : Int) := by omega
          have hlvlen : lv.length = o.length - (out.length + j) := by rw [← hdrop]; simp
          have hgo : (s2.t 5 = .dat (.sl (lv.map (.int .i64))) ∨ s2.t 5 = .ow 67 3 1 (lv.map (.int .i64))) := by
            rcases hlev with h | h | ⟨_, h⟩
            · exact .inl h
            · exact .inr h
            · exact absurd h hlv
          clear hlev
          rcases hgo with h5' | h5'
          all_goals
            simp -dsimp [h5', h3', h0', hlvi, hlv0, hlv, hd67]
            refine awp_loopN lv.length (fun i s' => s'.t 7 = .dat (.int .i64 i) ∧ s'.t 0 = .dat (.sl (l.map Image.enc)) ∧ s'.t 5 = .dat (.sl (lv.map (.int .i64))) ∧ ∃ o' nx, (∃ d, s'.t 3 = .ow d 3 1 (o'.map (.int .i64)) ∧ d ∈ [26, 63]) ∧ Grows [67] 3 (s'.t 6) nx ∧ o'.drop (out.length + j) = lv ++ nx ∧ Nice needs.length o' ∧ out.length + 1 ≤ o'.length ∧ walkUp needs (root + 1) = bfs needs (needs.length + 1 - (j + i)) (out.length + (j + i)) o')
              ⟨by simp, by simp [h0'], by simp [h5'], o, [], ⟨d2, by simp [h3', hd67], hd2⟩, .inl ⟨rfl, by simp⟩, by simpa using hdrop, hno, hlo, by simpa using hbfs⟩ ?_
            rintro i s3 hi ⟨h7, h0'', h5'', o', nx, ⟨d3, h3'', hd3⟩, hnx, hdr, hno', hlo', hbfs'⟩
            have hol' := hno'.length
            by_cases hil : i < lv.length
            · have hwi : IntKind.i64.wrap ((i : Int) + 1) = i + 1 := wrap_in (by omega) (by omega)
              obtain ⟨v, hv⟩ : ∃ v, lv[i]? = some v := ⟨_, List.getElem?_eq_getElem hil⟩
              have hv' : lv[i] = v := (List.getElem?_eq_some_iff.1 hv).2
              have hov : o'[out.length + (j + i)]? = some v := by
                have : (o'.drop (out.length + j))[i]? = some v := by rw [hdr, List.getElem?_append_left hil]; exact hv
                rw [List.getElem?_drop] at this
                rw [show out.length + (j + i) = out.length + j + i by omega]; exact this
              obtain ⟨hv0, hvl⟩ := hno'.2 v (List.mem_of_getElem? hov)
              obtain ⟨x, hx⟩ : ∃ x, l[v.toNat]? = some x := ⟨_, List.getElem?_eq_getElem (by omega)⟩
              have hx' : ∀ h, l[v.toNat]'h = x := fun h => (List.getElem?_eq_some_iff.1 hx).2
              have hxm := List.mem_of_getElem? hx
              have hxn := hn5 x hxm
              have hag := Image.ag x
              have hnd : x.enc.cells[11]? = some (.sl (x.needs.map .str)) := rfl
              have hnd2 : ∀ h, x.enc.cells[11]'h = .sl (x.needs.map .str) := fun _ => rfl
              have hrow := hget _ x hx
              have hgetd : needs.getD v.toNat [] = needRow l x := by rw [List.getD_eq_getElem?_getD, hrow]; rfl
              have hrv := hok _ (List.mem_of_getElem? hrow)
              have hvl2 : v.toNat < l.length := by omega
              simp -dsimp [h7, h0'', h5'', h3'', hil, hv, hv', hv0, hx, hx', hvl2, hag.len, hnd, hnd2]
              refine awp_loopN x.needs.length (fun q s' => s'.t 9 = .dat (.int .i64 q) ∧ s'.t 8 = .dat (.sl (x.needs.map .str)) ∧ s'.t 7 = .dat (.int .i64 i) ∧ s'.t 0 = .dat (.sl (l.map Image.enc)) ∧ s'.t 5 = .dat (.sl (lv.map (.int .i64))) ∧ ∃ nx, (∃ d, s'.t 3 = .ow d 3 1 ((addAll o' ((needRow l x).take q)).map (.int .i64)) ∧ d ∈ [26, 63]) ∧ Grows [67] 3 (s'.t 6) nx ∧ (addAll o' ((needRow l x).take q)).drop (out.length + j) = lv ++ nx ∧ Nice needs.length (addAll o' ((needRow l x).take q)))
                ⟨by simp, by simp, by simp [h7], by simp [h0''], by simp [h5''], nx, ⟨d3, by simp [h3'', addAll], hd3⟩, by simpa using hnx, by simpa [addAll] using hdr, by simpa [addAll] using hno'⟩ ?_
              clear h7 h0'' h5'' h3'' hnx hdr hd3
              rintro q s4 hq ⟨h9, h8, h7, h0'', h5'', nx, ⟨d3, h3'', hd3⟩, hnx, hdr, hno2⟩
              have hol2 := hno2.length
              have hd67' : ¬ d3 = 67 := by rintro rfl; simp at hd3
              have hd67s : ¬ 67 = d3 := fun e => hd67' e.symm
              by_cases hql : q < x.needs.length
              · have hwq : IntKind.i64.wrap ((q : Int) + 1) = q + 1 := wrap_in (by omega) (by omega)
                obtain ⟨nm, hnm⟩ : ∃ nm, x.needs[q]? = some nm := ⟨_, List.getElem?_eq_getElem hql⟩
                have hnm' : x.needs[q] = nm := (List.getElem?_eq_some_iff.1 hnm).2
                have hrq : (needRow l x)[q]? = some (named l nm) := by simp [needRow, hnm]
                have hvin := hrv _ (List.mem_of_getElem? hrq)
                have hadd := addAll_take (out := o') hrq
                have hnxt := addOne_nice hno2 hvin
                have hge : out.length + j ≤ (addAll o' ((needRow l x).take q)).length := by
                  have := addAll_len ((needRow l x).take q) o'
                  have := (List.getElem?_eq_some_iff.1 hov).1
                  omega
                generalize addAll o' ((needRow l x).take q) = p at *
                have hps : Short p := by unfold Short; omega
                have hcq := has6_c p hps (named l nm)
                unfold intsD at hcq
                have q1 : (p.length + 1) * 8 ≤ 140737488355328 := by omega
                have q2 : p.length + 1 ≤ 9223372036854775807 := by omega
                have hnxlen : nx.length ≤ p.length := by have := congrArg List.length hdr; simp at this; omega
                simp -dsimp [h9, h8, h7, h0'', h5'', h3'', hql, hnm, hnm']
                refine callA (named6_c l hl.1 nm) ?_ rfl
                simp -dsimp [h9, h8, h7, h0'', h5'', h3'']
                refine callA hcq ?_ rfl
                cases hhq : hasI p (named l nm)
                · have ha : addOne p (named l nm) = p ++ [named l nm] := by unfold addOne; rw [hhq]; rfl
                  have hdr2 : (p ++ [named l nm]).drop (out.length + j) = lv ++ (nx ++ [named l nm]) := by rw [List.drop_append_of_le_length hge, hdr, List.append_assoc]
                  rw [ha] at hnxt
                  have n1 : (nx.length + 1) * 8 ≤ 140737488355328 := by omega
                  have n2 : nx.length + 1 ≤ 9223372036854775807 := by omega
                  rcases hnx with ⟨hn0, h6⟩ | ⟨dn, hdn, h6⟩
                  · subst hn0
                    simp -dsimp [h9, h8, h7, h0'', h5'', h3'', h6, q1, q2, hwq, hql, hadd, ha, hd67', hd67s]
                    exact ⟨[named l nm], .inr ⟨67, by simp, by simp⟩, by simpa using hdr2, hnxt⟩
                  · simp only [List.mem_singleton] at hdn
                    subst hdn
                    simp -dsimp [h9, h8, h7, h0'', h5'', h3'', h6, q1, q2, n1, n2, hwq, hql, hadd, ha, hd67', hd67s]
                    exact ⟨nx ++ [named l nm], .inr ⟨67, by simp, by simp⟩, by simpa using hdr2, hnxt⟩
                · have ha : addOne p (named l nm) = p := by unfold addOne; rw [hhq]; rfl
                  simp -dsimp [h9, h8, h7, h0'', h5'', h3'', hwq, hql, hadd, ha]
                  exact ⟨by simpa using hd3, nx, hnx, hdr, hno2⟩
              · have hqe : q = x.needs.length := by omega
                subst hqe
                have htk : (needRow l x).take x.needs.length = needRow l x := List.take_of_length_le (by simp [needRow])
                rw [htk] at h3'' hdr hno2
                have hj2 : needs.length + 1 - (j + i) = (needs.length + 1 - (j + (i + 1))) + 1 := by
                  have := (List.getElem?_eq_some_iff.1 hov).1
                  omega
                rw [hj2, bfs_step hov, hgetd] at hbfs'
                have hlen2 := addAll_len (needRow l x) o'
                simp -dsimp [h9, h8, h7, h0'', h5'', h3'', hwi, hil]
                exact ⟨addAll o' (needRow l x), ⟨d3, ⟨rfl, rfl⟩, by simpa using hd3⟩, nx, hnx, hdr, hno2, by omega, hbfs'⟩
            · have hie : i = lv.length := by omega
              subst hie
              have hdr2 : o'.drop (out.length + (j + lv.length)) = nx := by
                have : (o'.drop (out.length + j)).drop lv.length = nx := by rw [hdr]; simp
                rw [List.drop_drop] at this
                rw [show out.length + (j + lv.length) = out.length + j + lv.length by omega]; exact this
              have hle2 : out.length + (j + lv.length) ≤ o'.length := by
                have := congrArg List.length hdr; simp at this; omega
              have hlev2 : LevP (s3.t 6) nx := by
                rcases hnx with ⟨hn0, h6⟩ | ⟨dn, hdn, h6⟩
                · exact .inr (.inr ⟨h6, hn0⟩)
                · simp only [List.mem_singleton] at hdn; subst hdn; exact .inr (.inl h6)
              have hm3 : m < needs.length + 1 := by omega
              simp -dsimp [h7, h0'', h5'', h3'', hm3]
              exact ⟨j + lv.length, o', nx, hlev2, d3, ⟨rfl, rfl⟩, by simpa using hd3, by omega, hle2, hdr2, hno', hlo', hbfs'⟩
  · have hfin : out = walkF needs := walkUp_end hok hwalk hr (by omega)
    have hnlt : ¬ (out.length : Int) < (l.length : Int) := by omega
    rcases hlens _ hgr with ⟨h3, ho⟩ | ⟨d, hd, h3⟩
    · subst ho
      simp at hnlt
      simp -dsimp [h3, h0, hnlt, ← hfin, intsD]
    · simp -dsimp [h3, h0, hlt, ← hfin, intsD]
end Go.Proofs.YtflpgdlgfffigaaGreat
