/- An abstract interpreter of the program's code, and that what it says holds: part CoreC. -/
import Derived.Test.YtflpgdlgfffigaaCoreB
/- The order of initialization: plain facts. -/
set_option linter.unusedVariables false
set_option linter.unusedSimpArgs false
namespace Go.Abs
open Go
theorem sortedFrom_succ (needs : List (List Int)) : ∀ (k : Nat) (out : List Int), sortedFrom needs (k + 1) out = sortedFrom needs k out ++ [pick needs (sortedFrom needs k out)]
  | 0, out => rfl
  | k + 1, out => by
    have := sortedFrom_succ needs k (out ++ [pick needs out])
    conv => lhs; unfold sortedFrom
    rw [this]
    conv => rhs; unfold sortedFrom
theorem sortedFrom_len (needs : List (List Int)) : ∀ (k : Nat) (out : List Int), (sortedFrom needs k out).length = out.length + k
  | 0, out => rfl
  | k + 1, out => by
    unfold sortedFrom
    rw [sortedFrom_len needs k]
    simp; omega
theorem pick_step_done {needs : List (List Int)} {out : List Int} {n i : Nat} {w : Int} (h : hasI out i = true) : pickFrom needs out (n + 1) i w = pickFrom needs out n (i + 1) w := by
  conv => lhs; unfold pickFrom
  rw [if_pos (by unfold doneB; exact h)]
theorem pick_step_ready {needs : List (List Int)} {out : List Int} {n i : Nat} {w : Int} (h : hasI out i = false) (hr : readyB needs out i = true) : pickFrom needs out (n + 1) i w = i := by
  conv => lhs; unfold pickFrom
  rw [if_neg (by unfold doneB; simp [h]), if_pos hr]
theorem pick_step_not {needs : List (List Int)} {out : List Int} {n i : Nat} {w : Int} (h : hasI out i = false) (hr : readyB needs out i = false) : pickFrom needs out (n + 1) i w = pickFrom needs out n (i + 1) (if w < 0 then (i : Int) else w) := by
  conv => lhs; unfold pickFrom
  rw [if_neg (by unfold doneB; simp [h]), if_neg (by simp [hr])]
end Go.Abs

/- Loaded images: what the checks and the calls compute. -/
set_option linter.unusedVariables false
set_option linter.unusedSimpArgs false
namespace Go.Abs
open Go
def imagesOf (l : List Loaded) : List Image := l.map (·.image)
def badLoaded (x : Loaded) : Prop := ¬ x.bias.tmod 256 = 0 ∨ x.bias < 0 ∨ 1048576 ≤ x.bias ∨ ¬ x.thread.tmod 16 = 0 ∨ x.thread < 0 ∨ 1024 < x.thread ∨ x.uses < 0 ∨ 1000000 < x.uses
instance (x : Loaded) : Decidable (badLoaded x) := by unfold badLoaded; infer_instance
def loadedFrom : Nat → List Loaded → Fault
  | _, [] => Fault.ok
  | k, x :: xs => if badLoaded x then ⟨3, k⟩ else loadedFrom (k + 1) xs
def needsFault (l : List Image) : Fault := match missing l with
  | some i => ⟨6, i⟩
  | none => Fault.ok
def loadedF (l : List Loaded) : Fault := if ¬ checkF (imagesOf l) = Fault.ok then checkF (imagesOf l) else if ¬ loadedFrom 0 l = Fault.ok then loadedFrom 0 l else needsFault (imagesOf l)
def initsAt (l : List Loaded) (i : Int) : List Int := match l[i.toNat]? with
  | some x => x.image.inits.map fun a => W (a + x.bias)
  | none => []
def callsOf (l : List Loaded) (order : List Int) : List Int := order.flatMap (initsAt l)
def allF (l : List Loaded) : List Int := callsOf l (sortedF (needRows (imagesOf l)))
def callsF (l : List Loaded) : List Int × Fault := if loadedF l = Fault.ok then (allF l, Fault.ok) else ([], loadedF l)
theorem good_loadedFrom : ∀ (k : Nat) (l : List Loaded), Good (loadedFrom k l)
  | _, [] => good_ok
  | k, x :: xs => by
    unfold loadedFrom
    split
    · exact good_mk (by omega)
    · exact good_loadedFrom (k + 1) xs
theorem good_needs (l : List Image) : Good (needsFault l) := by
  unfold needsFault
  split
  · exact good_mk (by omega)
  · exact good_ok
theorem good_loaded (l : List Loaded) : Good (loadedF l) := by
  unfold loadedF
  repeat' split
  · exact good_check _
  · exact good_loadedFrom _ _
  · exact good_needs _
theorem imagesOf_len (l : List Loaded) : (imagesOf l).length = l.length := by simp [imagesOf]
theorem imagesOf_wf {l : List Loaded} (hl : Short l ∧ ∀ x ∈ l, x.WF) : Short (imagesOf l) ∧ ∀ x ∈ imagesOf l, x.WF := by
  refine ⟨by have := hl.1; unfold Short at *; rw [imagesOf_len]; exact this, ?_⟩
  intro x hx
  simp only [imagesOf, List.mem_map] at hx
  obtain ⟨y, hy, rfl⟩ := hx
  exact (hl.2 y hy).1
theorem loadedFrom_all : ∀ (k : Nat) (l : List Loaded), loadedFrom k l = Fault.ok → ∀ x ∈ l, ¬ badLoaded x
  | _, [], _, x, hx => by simp at hx
  | k, y :: ys, h, x, hx => by
    unfold loadedFrom at h
    split at h
    · rw [fault_ok] at h; have := h.1; simp at this
    · rename_i hb
      rcases List.mem_cons.1 hx with rfl | hx
      · exact hb
      · exact loadedFrom_all (k + 1) ys h x hx
theorem loaded_all {l : List Loaded} (h : loadedF l = Fault.ok) : checkF (imagesOf l) = Fault.ok ∧ (∀ x ∈ l, ¬ badLoaded x) ∧ missing (imagesOf l) = none := by
  unfold loadedF at h
  split at h
  · rename_i h1; exact absurd h h1
  · rename_i h1
    split at h
    · rename_i h2; exact absurd h h2
    · rename_i h2
      refine ⟨by simpa using h1, loadedFrom_all 0 l (by simpa using h2), ?_⟩
      unfold needsFault at h
      split at h
      · rw [fault_ok] at h; have := h.1; simp at this
      · assumption
theorem image_inits {x : Image} (h : imageF x = Fault.ok) : x.inits.length ≤ 60 := by
  have := (each_all ((image_all h).2 (each 60 14 (x.inits.map (funcCode x))) (by simp [bodyF]))).1
  simp at this; omega
theorem needsR_ok {l : List Image} (h : missing l = none) : needsR l = .tup [.dat (rowsD (needRows l)), .dat (.int .i64 0), .dat (.bool true)] := by unfold needsR; rw [h]
theorem needsR_bad {l : List Image} {i : Nat} (h : missing l = some i) : needsR l = .tup [.dat (.sl []), .dat (.int .i64 i), .dat (.bool false)] := by unfold needsR; rw [h]
/-- A list of structs that grows. -/
def GrowsR (ds : List Nat) (e z : Nat) (p : PVal) (xs : List Dat) : Prop := (xs = [] ∧ p = .nilS) ∨ ∃ d, d ∈ ds ∧ p = .ow d e z xs
theorem loaded_take (x : Loaded) : mkAgg (List.take 19 (List.map PVal.dat x.enc.cells)) = .dat x.image.enc := by
  have : List.take 19 (List.map PVal.dat x.enc.cells) = x.image.enc.cells.map PVal.dat := rfl
  rw [this, (Image.ag x.image).mk]
theorem loaded_19 (x : Loaded) : x.enc.cells[19]? = some (.int .i64 x.bias) := rfl
theorem loaded_20 (x : Loaded) : x.enc.cells[20]? = some (.int .i64 x.thread) := rfl
theorem loaded_21 (x : Loaded) : x.enc.cells[21]? = some (.int .i64 x.uses) := rfl
theorem loaded_9 (x : Loaded) : x.enc.cells[9]? = some (.sl (x.image.inits.map (.int .i64))) := rfl
theorem loaded_19' (x : Loaded) (h : 19 < x.enc.cells.length) : x.enc.cells[19]'h = .int .i64 x.bias := rfl
theorem loaded_20' (x : Loaded) (h : 20 < x.enc.cells.length) : x.enc.cells[20]'h = .int .i64 x.thread := rfl
theorem loaded_21' (x : Loaded) (h : 21 < x.enc.cells.length) : x.enc.cells[21]'h = .int .i64 x.uses := rfl
theorem loaded_9' (x : Loaded) (h : 9 < x.enc.cells.length) : x.enc.cells[9]'h = .sl (x.image.inits.map (.int .i64)) := rfl
theorem bothI_wf : Short bothI ∧ ∀ x ∈ bothI, x.WF := by
  refine ⟨by simp [bothI, Short], ?_⟩
  intro x hx
  simp only [bothI, List.mem_cons, List.not_mem_nil, or_false] at hx
  rcases hx with rfl | rfl
  · exact ⟨mainI_wf, by simp [I64]⟩
  · exact ⟨libI_wf, by simp [I64]⟩
theorem both_loaded : loadedF bothI = Fault.ok := by decide +kernel
theorem both_calls : callsF bothI = ([4608], Fault.ok) := by
  have h : allF bothI = [4608] := by decide +kernel
  unfold callsF; rw [if_pos both_loaded, h]
end Go.Abs

/- The calls at the start: plain facts. -/
set_option linter.unusedVariables false
set_option linter.unusedSimpArgs false
namespace Go.Abs
open Go
theorem pick_spec {needs : List (List Int)} {out : List Int} {N : Nat} : ∀ (m i : Nat) (w : Int), i + m = N → (w = -1 ∧ (∃ j : Nat, i ≤ j ∧ j < N ∧ hasI out j = false)) ∨ (0 ≤ w ∧ w < N ∧ hasI out w = false) →
    0 ≤ pickFrom needs out m i w ∧ pickFrom needs out m i w < N ∧ hasI out (pickFrom needs out m i w) = false
  | 0, i, w, hi, h => by
    rcases h with ⟨_, j, h1, h2, _⟩ | h
    · omega
    · exact h
  | m + 1, i, w, hi, h => by
    cases hd : hasI out (i : Int)
    · cases hr : readyB needs out i
      · rw [pick_step_not hd hr]
        refine pick_spec m (i + 1) _ (by omega) (.inr ?_)
        rcases h with ⟨rfl, _⟩ | h
        · rw [if_pos (by omega)]; exact ⟨by omega, by omega, hd⟩
        · rw [if_neg (by omega)]; exact h
      · rw [pick_step_ready hd hr]; exact ⟨by omega, by omega, hd⟩
    · rw [pick_step_done hd]
      refine pick_spec m (i + 1) w (by omega) ?_
      rcases h with ⟨h1, j, h2, h3, h4⟩ | h
      · refine .inl ⟨h1, j, ?_, h3, h4⟩
        by_cases e : j = i
        · subst e; rw [hd] at h4; cases h4
        · omega
      · exact .inr h
theorem sorted_nice (needs : List (List Int)) : ∀ k, k ≤ needs.length → Nice needs.length (sortedFrom needs k [])
  | 0, _ => nice_nil _
  | k + 1, hk => by
    have ih := sorted_nice needs k (by omega)
    have hlen := sortedFrom_len needs k []
    rw [sortedFrom_succ]
    generalize sortedFrom needs k [] = out at *
    simp only [List.length_nil, Nat.zero_add] at hlen
    have hex : ∃ j : Nat, 0 ≤ j ∧ j < needs.length ∧ hasI out j = false := by
      refine Classical.byContradiction fun hno => ?_
      have := cover_len needs.length out (fun r hr => by
        rw [← hasI_iff]
        cases hh : hasI out (r : Int)
        · exact absurd ⟨r, Nat.zero_le _, hr, hh⟩ hno
        · rfl)
      omega
    have := pick_spec (needs := needs) (out := out) (N := needs.length) needs.length 0 (-1) (by omega) (.inl ⟨rfl, hex⟩)
    exact ih.add ⟨this.1, this.2.1⟩ this.2.2
theorem sortedF_nice (needs : List (List Int)) : Nice needs.length (sortedF needs) ∧ (sortedF needs).length = needs.length := ⟨sorted_nice needs _ (Nat.le_refl _), by have := sortedFrom_len needs needs.length []; rw [List.length_nil, Nat.zero_add] at this; exact this⟩
theorem nice_full {n : Nat} {out : List Int} (h : Nice n out) (hl : out.length = n) : ∀ r : Nat, r < n → (r : Int) ∈ out := by
  intro r hr
  refine Classical.byContradiction fun hno => ?_
  have h2 : Nice n (out ++ [(r : Int)]) := h.add ⟨by omega, by omega⟩ (hasI_false.2 hno)
  have := h2.length
  simp at this; omega
theorem initsAt_len {l : List Loaded} (h : loadedF l = Fault.ok) (i : Int) : (initsAt l i).length ≤ 60 := by
  unfold initsAt
  cases hx : l[i.toNat]? with
  | none => simp
  | some x =>
    have : imageF x.image = Fault.ok := check_img (loaded_all h).1 (by simp only [imagesOf, List.mem_map]; exact ⟨x, List.mem_of_getElem? hx, rfl⟩)
    have := image_inits this
    simpa using this
theorem callsOf_take {l : List Loaded} {order : List Int} {m : Nat} {i : Int} (h : order[m]? = some i) : callsOf l (order.take (m + 1)) = callsOf l (order.take m) ++ initsAt l i := by
  obtain ⟨hm, rfl⟩ := List.getElem?_eq_some_iff.1 h
  unfold callsOf
  rw [List.take_succ_eq_append_getElem hm, List.flatMap_append]
  simp
theorem callsOf_len {l : List Loaded} (h : loadedF l = Fault.ok) : ∀ order : List Int, (callsOf l order).length ≤ 60 * order.length
  | [] => by simp [callsOf]
  | i :: is => by
    have h1 := callsOf_len h is
    have h2 := initsAt_len h i
    have h3 : callsOf l (i :: is) = initsAt l i ++ callsOf l is := by simp [callsOf]
    rw [h3]
    simp; omega

/-! ### all of them, and in order -/
def greedy (s : List Int) : List Int → Nat → Nat
  | [], a => a
  | c :: cs, a => greedy s cs (if s[a]? = some c then a + 1 else a)
theorem greedy_mono (s : List Int) : ∀ (c : List Int) (a : Nat), a ≤ greedy s c a
  | [], a => Nat.le_refl _
  | c :: cs, a => by
    unfold greedy
    refine Nat.le_trans ?_ (greedy_mono s cs _)
    split <;> omega
theorem greedy_le (s : List Int) : ∀ (c : List Int) (a : Nat), a ≤ s.length → greedy s c a ≤ s.length
  | [], a, h => h
  | c :: cs, a, h => by
    unfold greedy
    refine greedy_le s cs _ ?_
    split
    · rename_i hs; have := (List.getElem?_eq_some_iff.1 hs).1; omega
    · exact h
theorem greedy_append (s : List Int) : ∀ (c d : List Int) (a : Nat), greedy s (c ++ d) a = greedy s d (greedy s c a)
  | [], d, a => rfl
  | c :: cs, d, a => by simp only [List.cons_append, greedy]; exact greedy_append s cs d _
theorem greedy_block (s : List Int) : ∀ (t : List Int) (j a : Nat), s.drop j = t → j ≤ a → j ≤ s.length → s.length ≤ greedy s t a
  | [], j, a, h, ha, hj => by
    rw [List.drop_eq_nil_iff] at h
    have := greedy_mono s [] a
    unfold greedy; omega
  | x :: t, j, a, h, ha, hj => by
    have hjl : j < s.length := by
      refine Classical.byContradiction fun hn => ?_
      rw [List.drop_eq_nil_of_le (by omega)] at h; cases h
    rw [List.drop_eq_getElem_cons hjl] at h
    injection h with h1 h2
    unfold greedy
    refine greedy_block s t (j + 1) _ h2 ?_ (by omega)
    by_cases e : a = j
    · subst e; rw [List.getElem?_eq_getElem hjl, h1, if_pos rfl]; exact Nat.le_refl _
    · split <;> omega
theorem greedy_all {l : List Loaded} {order : List Int} {i : Int} (hi : i ∈ order) : greedy (initsAt l i) (callsOf l order) 0 = (initsAt l i).length := by
  obtain ⟨a, b, rfl⟩ := List.append_of_mem hi
  have h1 : callsOf l (a ++ i :: b) = callsOf l a ++ (initsAt l i ++ callsOf l b) := by simp [callsOf]
  rw [h1, greedy_append, greedy_append]
  have h2 := greedy_block (initsAt l i) (initsAt l i) 0 (greedy (initsAt l i) (callsOf l a) 0) rfl (Nat.zero_le _) (Nat.zero_le _)
  have h3 := greedy_mono (initsAt l i) (callsOf l b) (greedy (initsAt l i) (initsAt l i) (greedy (initsAt l i) (callsOf l a) 0))
  have h4 := greedy_le (initsAt l i) (callsOf l b) (greedy (initsAt l i) (initsAt l i) (greedy (initsAt l i) (callsOf l a) 0)) (greedy_le _ _ _ (greedy_le _ _ _ (Nat.zero_le _)))
  omega
theorem sum_out (f : Int → Nat) (a : Int) : ∀ (l : List Int), l.Nodup → a ∈ l → (l.map f).sum = f a + ((l.filter fun v => decide (v ≠ a)).map f).sum
  | [], _, h => by simp at h
  | x :: l, hn, h => by
    rw [List.nodup_cons] at hn
    by_cases e : x = a
    · subst e
      have : (l.filter fun v => decide (v ≠ x)) = l := by
        rw [List.filter_eq_self]
        intro v hv
        simp only [decide_eq_true_eq]
        intro e2; subst e2; exact hn.1 hv
      simp only [List.map_cons, List.sum_cons, List.filter_cons, ne_eq, not_true_eq_false, decide_false, Bool.false_eq_true, if_false]
      have h5 : (l.filter fun v => decide (¬ v = x)) = l := this
      rw [h5]
    · have hm : a ∈ l := by
        rcases List.mem_cons.1 h with h | h
        · exact absurd h.symm e
        · exact h
      have ih := sum_out f a l hn.2 hm
      simp only [ne_eq] at ih
      simp only [List.map_cons, List.sum_cons, List.filter_cons, ne_eq, e, not_false_eq_true, decide_true, if_true]
      omega
theorem sum_full (f : Int → Nat) : ∀ (n : Nat) (out : List Int), Nice n out → out.length = n → (out.map f).sum = ((List.range n).map fun r : Nat => f (r : Int)).sum
  | 0, out, _, hl => by rw [List.length_eq_zero_iff.1 hl]; rfl
  | n + 1, out, h, hl => by
    have hm := nice_full h hl n (by omega)
    rw [sum_out f n out h.1 hm, List.range_succ, List.map_append, List.sum_append]
    have h2 : Nice n (out.filter fun v => decide (v ≠ (n : Int))) := by
      refine ⟨h.1.filter _, fun v hv => ?_⟩
      simp only [List.mem_filter, decide_eq_true_eq] at hv
      have := h.2 v hv.1
      omega
    have h3 : n ≤ (out.filter fun v => decide (v ≠ (n : Int))).length := cover_len n _ (fun r hr => by
      rw [List.mem_filter]; exact ⟨nice_full h hl r (by omega), by simp; omega⟩)
    have h4 := h2.length
    rw [sum_full f n _ h2 (by omega)]
    simp; omega
theorem callsOf_sum (l : List Loaded) : ∀ order : List Int, (callsOf l order).length = (order.map fun i => (initsAt l i).length).sum
  | [] => rfl
  | i :: is => by
    have := callsOf_sum l is
    simp only [callsOf, List.flatMap_cons, List.length_append, List.map_cons, List.sum_cons] at this ⊢
    omega
def initsTo (l : List Loaded) (k : Nat) : Nat := ((List.range k).map fun r : Nat => (initsAt l (r : Int)).length).sum
theorem initsTo_succ (l : List Loaded) (k : Nat) : initsTo l (k + 1) = initsTo l k + (initsAt l (k : Int)).length := by
  unfold initsTo; rw [List.range_succ, List.map_append, List.sum_append]; simp
theorem initsTo_le {l : List Loaded} (h : loadedF l = Fault.ok) : ∀ k, initsTo l k ≤ 60 * k
  | 0 => by simp [initsTo]
  | k + 1 => by
    have := initsTo_le h k
    have := initsAt_len h (k : Int)
    rw [initsTo_succ]; omega
theorem allF_len (l : List Loaded) : (allF l).length = initsTo l l.length := by
  have h := sortedF_nice (needRows (imagesOf l))
  rw [needRows_len, imagesOf_len] at h
  unfold allF initsTo
  rw [callsOf_sum, sum_full (fun i => (initsAt l i).length) l.length _ h.1 h.2]
theorem allF_greedy (l : List Loaded) (k : Nat) (hk : k < l.length) : greedy (initsAt l (k : Int)) (allF l) 0 = (initsAt l (k : Int)).length := by
  have h := sortedF_nice (needRows (imagesOf l))
  rw [needRows_len, imagesOf_len] at h
  exact greedy_all (nice_full h.1 h.2 k hk)
end Go.Abs
