/- The law's own function that looks for cycles of needs. -/
import Derived.Test.YtflpgdlgfffigaaCoreC
import Derived.Test.YtflpgdlgfffigaaCRefF0
set_option linter.unusedSimpArgs false
set_option linter.unusedVariables false
namespace Go.Proofs.Ytflpgdlgfffigaa
open Go Go.Abs
set_option maxRecDepth 8000
set_option maxHeartbeats 8000000

def rowB (n : Nat) (f : Nat → Bool) : List PVal := (List.range n).map fun b => .dat (.bool (f b))
def outerP (n a : Nat) : List PVal := (List.range n).map fun j => if j < a then .msl (100000 + j) n else .nilS
theorem rowB_len (n : Nat) (f : Nat → Bool) : (rowB n f).length = n := by simp [rowB]
theorem outerP_len (n a : Nat) : (outerP n a).length = n := by simp [outerP]
theorem rowB_get {n b : Nat} (f : Nat → Bool) (h : b < n) : (rowB n f)[b]? = some (.dat (.bool (f b))) := by simp [rowB, h]
theorem outerP_get {n a j : Nat} (h : j < n) (ha : j < a) : (outerP n a)[j]? = some (.msl (100000 + j) n) := by simp [outerP, h, ha]
theorem kills_map {α : Type} (d : Nat) (f : α → PVal) (h : ∀ x, (f x).kill d = f x) : ∀ l : List α, kills d (l.map f) = l.map f
  | [] => rfl
  | x :: l => by simp only [List.map_cons, kills, h x, kills_map d f h l]
theorem rowB_kills (n d : Nat) (f : Nat → Bool) : kills d (rowB n f) = rowB n f := kills_map d _ (fun _ => rfl) _
theorem kills_mapm {α : Type} (d : Nat) (f : α → PVal) : ∀ l : List α, (∀ x ∈ l, (f x).kill d = f x) → kills d (l.map f) = l.map f
  | [], _ => rfl
  | x :: l, h => by simp only [List.map_cons, kills, h x (by simp), kills_mapm d f l (fun y hy => h y (List.mem_cons_of_mem _ hy))]
theorem outerP_kills (n a : Nat) : kills (100000 + a) (outerP n a) = outerP n a := by
  refine kills_mapm _ _ _ (fun j hj => ?_)
  by_cases h : j < a
  · simp only [h, if_true, PVal.kill]; rw [if_neg (by omega)]
  · simp only [h, if_false, PVal.kill]
theorem outerP_kill0 (n d : Nat) : kills d (outerP n 0) = outerP n 0 := kills_mapm _ _ _ (fun j hj => by simp [PVal.kill])
theorem outerP_set {n a : Nat} (h : a < n) : List.take a (outerP n a) ++ PVal.msl (100000 + a) n :: List.drop (a + 1) (outerP n a) = outerP n (a + 1) := by
  apply List.ext_getElem?
  intro j
  by_cases h1 : j < a
  · rw [List.getElem?_append_left (by simp [outerP]; omega), List.getElem?_take_of_lt h1, outerP_get (by omega) h1, outerP_get (by omega) (by omega)]
  · rw [List.getElem?_append_right (by simp [outerP]; omega)]
    have hl : (List.take a (outerP n a)).length = a := by simp [outerP]; omega
    rw [hl]
    by_cases h2 : j = a
    · subst h2; rw [Nat.sub_self, List.getElem?_cons_zero, outerP_get h (by omega)]
    · rw [show j - a = (j - a - 1) + 1 by omega, List.getElem?_cons_succ, List.getElem?_drop, show a + 1 + (j - a - 1) = j by omega]
      by_cases h3 : j < n
      · simp [outerP, h3, h1, show ¬ j < a + 1 by omega]
      · rw [List.getElem?_eq_none (by simp [outerP]; omega), List.getElem?_eq_none (by simp [outerP]; omega)]
theorem rowB_set {n b : Nat} (f : Nat → Bool) (v : Bool) (h : b < n) : List.take b (rowB n f) ++ PVal.dat (.bool v) :: List.drop (b + 1) (rowB n f) = rowB n (fun x => if x = b then v else f x) := by
  apply List.ext_getElem?
  intro j
  by_cases h1 : j < b
  · rw [List.getElem?_append_left (by simp [rowB]; omega), List.getElem?_take_of_lt h1, rowB_get _ (by omega), rowB_get _ (by omega), if_neg (by omega)]
  · rw [List.getElem?_append_right (by simp [rowB]; omega)]
    have hl : (List.take b (rowB n f)).length = b := by simp [rowB]; omega
    rw [hl]
    by_cases h2 : j = b
    · subst h2; rw [Nat.sub_self, List.getElem?_cons_zero, rowB_get _ h, if_pos rfl]
    · rw [show j - b = (j - b - 1) + 1 by omega, List.getElem?_cons_succ, List.getElem?_drop, show b + 1 + (j - b - 1) = j by omega]
      by_cases h3 : j < n
      · rw [rowB_get _ h3, rowB_get _ h3, if_neg h2]
      · rw [List.getElem?_eq_none (by simp [rowB]; omega), List.getElem?_eq_none (by simp [rowB]; omega)]
theorem rowB_rep (n : Nat) : List.replicate n (PVal.dat (.bool false)) = rowB n (fun _ => false) := by
  apply List.ext_getElem <;> simp [rowB]
theorem outerP_rep (n : Nat) : List.replicate n PVal.nilS = outerP n 0 := by
  apply List.ext_getElem <;> simp [outerP]
theorem kills_rep (d n : Nat) (x : Dat) : kills d (List.replicate n (PVal.dat x)) = List.replicate n (PVal.dat x) := by
  induction n with
  | zero => rfl
  | succ n ih => simp only [List.replicate_succ, kills, PVal.kill, ih]
theorem kills_repn (d n : Nat) : kills d (List.replicate n PVal.nilS) = List.replicate n PVal.nilS := by
  induction n with
  | zero => rfl
  | succ n ih => simp only [List.replicate_succ, kills, PVal.kill, ih]
def condAt (M : Mat) (i a : Nat) : Bool := (decide (a = i) || M i a) && M a a
/-- The rows of the matrix, in their arrays. -/
def RowsAt (n : Nat) (M : Mat) (h : Nat → Option (List PVal)) : Prop := ∀ j, j < n → h (100000 + j) = some (rowB n (M j))
theorem RowsAt.set {n a b : Nat} {M : Mat} {v : Bool} {h : Nat → Option (List PVal)} (hr : RowsAt n M h) (ha : a < n) : RowsAt n (upd2 M a b v) (upd h (100000 + a) (some (rowB n (fun x => if x = b then v else M a x)))) := by
  intro j hj
  show (if 100000 + j = 100000 + a then _ else h (100000 + j)) = _
  by_cases e : j = a
  · subst e
    simp only [if_true]
    congr 2
    funext x
    by_cases hx : x = b
    · subst hx; rw [if_pos rfl, upd2_at]
    · rw [if_neg hx, upd2_ne (fun h => hx h.2)]
  · have hne : ¬ 100000 + j = 100000 + a := by omega
    simp only [hne, if_false]
    rw [hr j hj]
    congr 2
    funext x
    rw [upd2_ne (fun h => e h.1)]

theorem cyclic_c (l : List Image) (hl : Short l ∧ ∀ x ∈ l, x.WF) (h5 : l.length ≤ 1000) (hn5 : ∀ x ∈ l, x.needs.length ≤ 1000) (hm : missing l = none) (i : Nat) (hi : i < l.length) :
    RCall Try.prog 18 [.dat (.sl (l.map Image.enc)), .dat (.int .i64 i)] (.dat (.bool (cyclicF (needRows l) i))) := by
  have hok := needRows_ok hm
  have hnl := needRows_len l
  have hget : ∀ (i : Nat) (x : Image), l[i]? = some x → (needRows l)[i]? = some (needRow l x) := fun i x h => by simp [needRows, h]
  generalize needRows l = needs at hok hnl hget
  obtain ⟨n, hn⟩ : ∃ n, n = l.length := ⟨_, rfl⟩
  have hE : ∀ a x, l[a]? = some x → ∀ b, edgeM needs a b = (needRow l x).any fun v => decide (v = (b : Int)) && !decide (v = (a : Int)) := fun a x hx b => by unfold edgeM; rw [hget a x hx]
  have c1 : (24 : Int) * (l.length : Int) ≤ 281474976710656 := by omega
  have c2 : (l.length : Int) ≤ 9223372036854775807 := by omega
  have c3 : (l.length : Int) ≤ 281474976710656 := by omega
  have d1 : (24 : Int) * (n : Int) ≤ 281474976710656 := by omega
  have d2 : (n : Int) ≤ 9223372036854775807 := by omega
  have d3 : (n : Int) ≤ 281474976710656 := by omega
  have hfin : cyclicF needs i = (List.range n).any (condAt (closeM n (edgeM needs) n) i) := by unfold cyclicF condAt; rw [hnl, ← hn]
  generalize hEM : edgeM needs = E at *
  refine rcall_of hmix [1000006000026] Try.func18 (by kernel_rfl) rfl (by simp [Try.f18]) ?_
  simp -dsimp [Try.f18, c1, c2, c3]
  refine awp_loopN n (fun a s => s.t 6 = .dat (.int .i64 a) ∧ s.t 0 = .dat (.sl (l.map Image.enc)) ∧ s.t 1 = .dat (.int .i64 i) ∧ s.t 5 = .msl 15 n ∧ s.h 15 = some (outerP n a) ∧ ∀ j, j < a → s.h (100000 + j) = some (rowB n (E j)))
    ⟨by simp, by simp, by simp, by simp [hn], by simp [outerP_rep, outerP_kill0, hn], by omega⟩ ?_
  rintro a s ha ⟨h6, h0, h1, h5', h15, hrows⟩
  by_cases hlt : a < n
  · have hltl : a < l.length := by omega
    have hw : IntKind.i64.wrap ((a : Int) + 1) = a + 1 := wrap_in (by omega) (by omega)
    obtain ⟨x, hx⟩ : ∃ x, l[a]? = some x := ⟨_, List.getElem?_eq_getElem hltl⟩
    have hx' : ∀ h, l[a]'h = x := fun h => (List.getElem?_eq_some_iff.1 hx).2
    have hxn := hn5 x (List.mem_of_getElem? hx)
    have hag := Image.ag x
    have hnd : x.enc.cells[11]? = some (.sl (x.needs.map .str)) := rfl
    have hnd2 : ∀ h, x.enc.cells[11]'h = .sl (x.needs.map .str) := fun _ => rfl
    have hrv := hok _ (List.mem_of_getElem? (hget a x hx))
    have n15 : ¬ 15 = 100000 + a := by omega
    have n15' : ¬ 100000 + a = 15 := by omega
    have hao : a + 1 ≤ (outerP n a).length := by rw [outerP_len]; omega
    have hset := outerP_set hlt
    have hki := outerP_kills n a
    have hltn : (a : Int) < (n : Int) := by omega
    simp -dsimp [h6, h0, h1, h5', h15, hltl, c1, c2, c3, d1, d2, d3, n15, n15', hki, hao, hset, hlt, hltn, ← hn]
    refine awp_loopN x.needs.length (fun q s => s.t 7 = .dat (.int .i64 q) ∧ s.t 6 = .dat (.int .i64 a) ∧ s.t 0 = .dat (.sl (l.map Image.enc)) ∧ s.t 1 = .dat (.int .i64 i) ∧ s.t 5 = .msl 15 n ∧ s.h 15 = some (outerP n (a + 1)) ∧ s.h (100000 + a) = some (rowB n (fun b => ((needRow l x).take q).any fun v => decide (v = (b : Int)) && !decide (v = (a : Int)))) ∧ ∀ j, j < a → s.h (100000 + j) = some (rowB n (E j)))
      ⟨by simp, by simp [h6], by simp [h0], by simp [h1], by simp [h5']; omega, by simp, by simp [n15', kills_rep, rowB_rep, rowB_kills], fun j hj => by simp [show ¬ 100000 + j = 15 by omega, show ¬ j = a by omega, hrows j hj, rowB_kills]⟩ ?_
    clear h6 h0 h1 h5' h15
    rintro q s1 hq ⟨h7, h6, h0, h1, h5', h15, hra, hrows1⟩
    by_cases hql : q < x.needs.length
    · have hwq : IntKind.i64.wrap ((q : Int) + 1) = q + 1 := wrap_in (by omega) (by omega)
      obtain ⟨nm, hnm⟩ : ∃ nm, x.needs[q]? = some nm := ⟨_, List.getElem?_eq_getElem hql⟩
      have hnm' : ∀ h, x.needs[q]'h = nm := fun h => (List.getElem?_eq_some_iff.1 hnm).2
      have hrq : (needRow l x)[q]? = some (named l nm) := by simp [needRow, hnm]
      have hvin := hrv _ (List.mem_of_getElem? hrq)
      have htk : ∀ p : Int → Bool, ((needRow l x).take (q + 1)).any p = (((needRow l x).take q).any p || p (named l nm)) := fun p => by
        obtain ⟨hq1, hq2⟩ := List.getElem?_eq_some_iff.1 hrq
        rw [List.take_succ_eq_append_getElem hq1, hq2, List.any_append]; simp
      obtain ⟨v, hv⟩ : ∃ v : Nat, named l nm = v := ⟨(named l nm).toNat, by omega⟩
      have hvn : v < n := by omega
      have hvni : (v : Int) < (n : Int) := by omega
      have hnamed := named6_c l hl.1 nm
      rw [hv] at hnamed htk
      simp -dsimp [h7, h6, h0, h1, hltl, hx, hx', hag.len, hnd, hnd2, hql, hnm, hnm']
      refine callA hnamed ?_ rfl
      by_cases e : v = a
      · subst e
        simp -dsimp [h7, h6, h0, h1, h5', h15, hwq, hql]
        refine ⟨?_, hrows1⟩
        rw [hra]
        congr 2
        funext b
        rw [htk]; simp
      · have ei : ¬ (v : Int) = (a : Int) := by omega
        have og := outerP_get (n := n) (a := a + 1) hlt (by omega)
        have hvr : v + 1 ≤ (rowB n (fun b => ((needRow l x).take q).any fun v => decide (v = (b : Int)) && !decide (v = (a : Int)))).length := by rw [rowB_len]; omega
        have hset2 := rowB_set (fun b => ((needRow l x).take q).any fun v => decide (v = (b : Int)) && !decide (v = (a : Int))) true hvn
        have n15 : ¬ 15 = 100000 + a := by omega
        have hrow : rowB n (fun y => if y = v then true else ((needRow l x).take q).any fun v => decide (v = (y : Int)) && !decide (v = (a : Int))) = rowB n (fun b => ((needRow l x).take (q + 1)).any fun v => decide (v = (b : Int)) && !decide (v = (a : Int))) := by
          congr 1
          funext b
          rw [htk]
          by_cases hb : b = v
          · subst hb; simp [ei]
          · have : ¬ (v : Int) = (b : Int) := by omega
            simp [hb, this]
        rw [hrow] at hset2
        generalize rowB n (fun b => ((needRow l x).take q).any fun v => decide (v = (b : Int)) && !decide (v = (a : Int))) = R at *
        simp -dsimp [h7, h6, h0, h1, h5', h15, e, ei, hltn, og, hra, hvni, hvr, hset2, n15, hwq, hql]
        exact fun j hj => by rw [if_neg (by omega)]; exact hrows1 j hj
    · have hqe : q = x.needs.length := by omega
      subst hqe
      have hfull : (needRow l x).take x.needs.length = needRow l x := List.take_of_length_le (by simp [needRow])
      rw [hfull] at hra
      simp -dsimp [h7, h6, h0, h1, h5', h15, hltl, hx, hx', hag.len, hnd, hnd2, hw, hlt]
      intro j hj
      by_cases e : j = a
      · subst e
        rw [hra]
        congr 2
        funext b
        exact (hE j x hx b).symm
      · exact hrows1 j (by omega)
  · have hae : a = n := by omega
    rw [hae] at h6 h15 hrows
    have hnlt : ¬ (n : Int) < (l.length : Int) := by omega
    have hnlt' : ¬ n < l.length := by omega
    have hR0 : RowsAt n (closeM n E 0) s.h := fun j hj => hrows j hj
    clear hrows
    simp -dsimp [h6, h0, h1, h5', h15, hnlt, hnlt']
    refine awp_loopN n (fun k s => s.t 9 = .dat (.int .i64 k) ∧ s.t 0 = .dat (.sl (l.map Image.enc)) ∧ s.t 1 = .dat (.int .i64 i) ∧ s.t 5 = .msl 15 n ∧ s.h 15 = some (outerP n n) ∧ RowsAt n (closeM n E k) s.h)
      ⟨by simp, by simp [h0], by simp [h1], by simp [h5'], by simp [h15], by simpa using hR0⟩ ?_
    clear h6 h0 h1 h5' h15 hR0
    rintro k s1 hk ⟨h9, h0, h1, h5', h15, hR⟩
    by_cases hkn : k < n
    · have hknl : k < l.length := by omega
      have hkni : (k : Int) < (n : Int) := by omega
      have hwk : IntKind.i64.wrap ((k : Int) + 1) = k + 1 := wrap_in (by omega) (by omega)
      have hsucc := closeM_succ n E k
      generalize closeM n E k = M0 at *
      simp -dsimp [h9, h0, h1, h5', h15, hknl]
      refine awp_loopN n (fun a s => s.t 10 = .dat (.int .i64 a) ∧ s.t 9 = .dat (.int .i64 k) ∧ s.t 0 = .dat (.sl (l.map Image.enc)) ∧ s.t 1 = .dat (.int .i64 i) ∧ s.t 5 = .msl 15 n ∧ s.h 15 = some (outerP n n) ∧ RowsAt n (roundM n M0 k a) s.h)
        ⟨by simp, by simp [h9], by simp [h0], by simp [h1], by simp [h5'], by simp [h15], by simpa [roundM] using hR⟩ ?_
      clear h9 h0 h1 h5' h15 hR
      rintro a s2 ha ⟨h10, h9, h0, h1, h5', h15, hR⟩
      by_cases han : a < n
      · have hanl : a < l.length := by omega
        have hani : (a : Int) < (n : Int) := by omega
        have hwa : IntKind.i64.wrap ((a : Int) + 1) = a + 1 := wrap_in (by omega) (by omega)
        have hsucc2 := roundM_succ n M0 k a
        generalize roundM n M0 k a = M1 at *
        simp -dsimp [h10, h9, h0, h1, h5', h15, hanl]
        refine awp_loopN n (fun b s => s.t 11 = .dat (.int .i64 b) ∧ s.t 10 = .dat (.int .i64 a) ∧ s.t 9 = .dat (.int .i64 k) ∧ s.t 0 = .dat (.sl (l.map Image.enc)) ∧ s.t 1 = .dat (.int .i64 i) ∧ s.t 5 = .msl 15 n ∧ s.h 15 = some (outerP n n) ∧ RowsAt n (rowM n k M1 a b) s.h)
          ⟨by simp, by simp [h10], by simp [h9], by simp [h0], by simp [h1], by simp [h5'], by simp [h15], by simpa [rowM] using hR⟩ ?_
        clear h10 h9 h0 h1 h5' h15 hR
        rintro b s3 hb ⟨h11, h10, h9, h0, h1, h5', h15, hR⟩
        by_cases hbn : b < n
        · have hbnl : b < l.length := by omega
          have hbni : (b : Int) < (n : Int) := by omega
          have hwb : IntKind.i64.wrap ((b : Int) + 1) = b + 1 := wrap_in (by omega) (by omega)
          have hsucc3 := rowM_succ n k M1 a b
          generalize rowM n k M1 a b = M at *
          have oga := outerP_get (n := n) (a := n) han han
          have ogk := outerP_get (n := n) (a := n) hkn hkn
          have ra := hR a han
          have rk := hR k hkn
          have gab := rowB_get (M a) hbn
          have gak := rowB_get (M a) hkn
          have gkb := rowB_get (M k) hbn
          have n15 : ¬ 15 = 100000 + a := by omega
          have hvr : b + 1 ≤ (rowB n (M a)).length := by rw [rowB_len]; omega
          have hstep : ∀ v, v = (M a b || (M a k && M k b)) → RowsAt n (rowM n k M1 a (b + 1)) (upd s3.h (100000 + a) (some (rowB n (fun x => if x = b then v else M a x)))) := fun v hv => by
            rw [hsucc3]
            unfold stepM
            rw [← hv]
            exact hR.set han
          have hset : ∀ v, List.take b (rowB n (M a)) ++ PVal.dat (.bool v) :: List.drop (b + 1) (rowB n (M a)) = rowB n (fun x => if x = b then v else M a x) := fun v => rowB_set (M a) v hbn
          cases hab : M a b
          · cases hak : M a k
            · simp -dsimp [h11, h10, h9, h0, h1, h5', h15, hbnl, hani, hkni, hbni, oga, ogk, ra, rk, gab, gak, gkb, hab, hak, n15, hvr, hset, hwb, hbn]
              exact ⟨show orderOk _ _ = true by kernel_rfl, by simpa using hstep false (by rw [hab, hak]; rfl)⟩
            · cases hkb : M k b
              · simp -dsimp [h11, h10, h9, h0, h1, h5', h15, hbnl, hani, hkni, hbni, oga, ogk, ra, rk, gab, gak, gkb, hab, hak, hkb, n15, hvr, hset, hwb, hbn]
                exact ⟨show orderOk _ _ = true by kernel_rfl, by simpa using hstep false (by rw [hab, hak, hkb]; rfl)⟩
              · simp -dsimp [h11, h10, h9, h0, h1, h5', h15, hbnl, hani, hkni, hbni, oga, ogk, ra, rk, gab, gak, gkb, hab, hak, hkb, n15, hvr, hset, hwb, hbn]
                exact ⟨show orderOk _ _ = true by kernel_rfl, by simpa using hstep true (by rw [hab, hak, hkb]; rfl)⟩
          · simp -dsimp [h11, h10, h9, h0, h1, h5', h15, hbnl, hani, hkni, hbni, oga, ogk, ra, rk, gab, gak, gkb, hab, n15, hvr, hset, hwb, hbn]
            exact ⟨show orderOk _ _ = true by kernel_rfl, by simpa using hstep true (by rw [hab]; rfl)⟩
        · have hbe : b = n := by omega
          rw [hbe] at hR h11
          have hnlt2 : ¬ n < l.length := by omega
          rw [← hsucc2] at hR
          simp -dsimp [h11, h10, h9, h0, h1, h5', h15, hnlt2, hnlt, hwa, han]
          exact hR
      · have hae : a = n := by omega
        rw [hae] at hR h10
        rw [← hsucc] at hR
        simp -dsimp [h10, h9, h0, h1, h5', h15, hnlt', hnlt, hwk, hkn]
        exact hR
    · have hke : k = n := by omega
      rw [hke] at hR h9
      simp -dsimp [h9, h0, h1, h5', h15, hnlt', hnlt]
      generalize closeM n E n = M at *
      have hii : (i : Int) < (n : Int) := by omega
      have hin : i < n := by omega
      refine awp_loopN n (fun a s => s.t 12 = .dat (.int .i64 a) ∧ s.t 0 = .dat (.sl (l.map Image.enc)) ∧ s.t 1 = .dat (.int .i64 i) ∧ s.t 5 = .msl 15 n ∧ s.h 15 = some (outerP n n) ∧ RowsAt n M s.h ∧ (List.range n).any (condAt M i) = ((List.range n).drop a).any (condAt M i))
        ⟨by simp, by simp [h0], by simp [h1], by simp [h5'], by simp [h15], by simpa using hR, by simp⟩ ?_
      clear h9 h0 h1 h5' h15 hR
      rintro a s2 ha ⟨h12, h0, h1, h5', h15, hR, hany⟩
      by_cases han : a < n
      · have hanl : a < l.length := by omega
        have hani : (a : Int) < (n : Int) := by omega
        have hwa : IntKind.i64.wrap ((a : Int) + 1) = a + 1 := wrap_in (by omega) (by omega)
        have hdrop : (List.range n).drop a = a :: (List.range n).drop (a + 1) := by
          rw [List.drop_eq_getElem_cons (by simpa using han)]; simp
        rw [hdrop, List.any_cons] at hany
        have oga := outerP_get (n := n) (a := n) han han
        have ogi := outerP_get (n := n) (a := n) hin hin
        have ra := hR a han
        have ri := hR i hin
        have gaa := rowB_get (M a) han
        have gia := rowB_get (M i) han
        by_cases e : a = i
        · subst e
          cases haa : M a a
          · have hc : condAt M a a = false := by simp [condAt, haa]
            rw [hc, Bool.false_or] at hany
            simp -dsimp [h12, h0, h1, h5', h15, hanl, hani, oga, ra, gaa, haa, hwa, han]
            exact ⟨hR, hany⟩
          · have hc : condAt M a a = true := by simp [condAt, haa]
            rw [hc, Bool.true_or] at hany
            simp -dsimp [h12, h0, h1, h5', h15, hanl, hani, oga, ra, gaa, haa, hfin, hany]
        · have ei : ¬ (a : Int) = (i : Int) := by omega
          cases hia : M i a
          · have hc : condAt M i a = false := by simp [condAt, hia, e]
            rw [hc, Bool.false_or] at hany
            simp -dsimp [h12, h0, h1, h5', h15, hanl, hani, hii, e, ei, ogi, ri, gia, hia, hwa, han]
            exact ⟨hR, hany⟩
          · cases haa : M a a
            · have hc : condAt M i a = false := by simp [condAt, haa]
              rw [hc, Bool.false_or] at hany
              simp -dsimp [h12, h0, h1, h5', h15, hanl, hani, hii, e, ei, ogi, ri, gia, hia, oga, ra, gaa, haa, hwa, han]
              exact ⟨hR, hany⟩
            · have hc : condAt M i a = true := by simp [condAt, haa, hia]
              rw [hc, Bool.true_or] at hany
              simp -dsimp [h12, h0, h1, h5', h15, hanl, hani, hii, e, ei, ogi, ri, gia, hia, oga, ra, gaa, haa, hfin, hany]
      · have hae : a = n := by omega
        rw [hae] at hany h12
        have hd : (List.range n).drop n = [] := List.drop_eq_nil_of_le (by simp)
        rw [hd] at hany
        simp -dsimp [h12, h0, h1, h5', h15, hnlt', hnlt, hfin, hany]
end Go.Proofs.Ytflpgdlgfffigaa
