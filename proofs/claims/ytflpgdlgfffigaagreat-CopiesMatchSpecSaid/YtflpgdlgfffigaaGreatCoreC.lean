/- An abstract interpreter of the program's code, and that what it says holds: part CoreC. -/
import Derived.Test.YtflpgdlgfffigaaGreatCoreB
import Derived.Shelf.GgClosure.Gives
import Derived.Sort.Row
import Derived.Sort.Grow
import Derived.JoinedOf
import Derived.OrdersIn
import Derived.RangeFuncRecord
import Derived.RangeFuncIn
import Derived.RangeFuncLeaves
/- The order of initialization: plain facts. -/
set_option linter.unusedVariables false
set_option linter.unusedSimpArgs false
namespace Go.Abs
open Go
theorem sortedFrom_succ (needs : List (List Int)) : ∀ (k : Nat) (out : List Int), sortedFrom needs (k + 1) out = sortedFrom needs k out ++ [pick needs (sortedFrom needs k out)]
  | 0, out => rfl
  | k + 1, out => by
    have := sortedFrom_succ needs k (out ++ [pick needs out])
    conv => lhs; unfold sortedFrom
    rw [this]
    conv => rhs; unfold sortedFrom
theorem sortedFrom_len (needs : List (List Int)) : ∀ (k : Nat) (out : List Int), (sortedFrom needs k out).length = out.length + k
  | 0, out => rfl
  | k + 1, out => by
    unfold sortedFrom
    rw [sortedFrom_len needs k]
    simp; omega
theorem pick_step_done {needs : List (List Int)} {out : List Int} {n i : Nat} {w : Int} (h : hasI out i = true) : pickFrom needs out (n + 1) i w = pickFrom needs out n (i + 1) w := by
  conv => lhs; unfold pickFrom
  rw [if_pos (by unfold doneB; exact h)]
theorem pick_step_ready {needs : List (List Int)} {out : List Int} {n i : Nat} {w : Int} (h : hasI out i = false) (hr : readyB needs out i = true) : pickFrom needs out (n + 1) i w = i := by
  conv => lhs; unfold pickFrom
  rw [if_neg (by unfold doneB; simp [h]), if_pos hr]
theorem pick_step_not {needs : List (List Int)} {out : List Int} {n i : Nat} {w : Int} (h : hasI out i = false) (hr : readyB needs out i = false) : pickFrom needs out (n + 1) i w = pickFrom needs out n (i + 1) (if w < 0 then (i : Int) else w) := by
  conv => lhs; unfold pickFrom
  rw [if_neg (by unfold doneB; simp [h]), if_neg (by simp [hr])]
end Go.Abs

/- Loaded images: what the checks and the calls compute. -/
set_option linter.unusedVariables false
set_option linter.unusedSimpArgs false
namespace Go.Abs
open Go
def imagesOf (l : List Loaded) : List Image := l.map (·.image)
def badLoaded (x : Loaded) : Prop := ¬ x.bias.tmod 256 = 0 ∨ x.bias < 0 ∨ 1048576 ≤ x.bias ∨ ¬ x.thread.tmod 16 = 0 ∨ x.thread < 0 ∨ 1024 < x.thread ∨ x.uses < 0 ∨ 1000000 < x.uses
instance (x : Loaded) : Decidable (badLoaded x) := by unfold badLoaded; infer_instance
def loadedFrom : Nat → List Loaded → Fault
  | _, [] => Fault.ok
  | k, x :: xs => if badLoaded x then ⟨3, k⟩ else loadedFrom (k + 1) xs
def needsFault (l : List Image) : Fault := match missing l with
  | some i => ⟨6, i⟩
  | none => Fault.ok
def loadedF (l : List Loaded) : Fault := if ¬ checkF (imagesOf l) = Fault.ok then checkF (imagesOf l) else if ¬ loadedFrom 0 l = Fault.ok then loadedFrom 0 l else needsFault (imagesOf l)
def initsAt (l : List Loaded) (i : Int) : List Int := match l[i.toNat]? with
  | some x => x.image.inits.map fun a => W (a + x.bias)
  | none => []
def callsOf (l : List Loaded) (order : List Int) : List Int := order.flatMap (initsAt l)
def allF (l : List Loaded) : List Int := callsOf l (sortedF (needRows (imagesOf l)))
def callsF (l : List Loaded) : List Int × Fault := if loadedF l = Fault.ok then (allF l, Fault.ok) else ([], loadedF l)
theorem good_loadedFrom : ∀ (k : Nat) (l : List Loaded), Good (loadedFrom k l)
  | _, [] => good_ok
  | k, x :: xs => by
    unfold loadedFrom
    split
    · exact good_mk (by omega)
    · exact good_loadedFrom (k + 1) xs
theorem good_needs (l : List Image) : Good (needsFault l) := by
  unfold needsFault
  split
  · exact good_mk (by omega)
  · exact good_ok
theorem good_loaded (l : List Loaded) : Good (loadedF l) := by
  unfold loadedF
  repeat' split
  · exact good_check _
  · exact good_loadedFrom _ _
  · exact good_needs _
theorem imagesOf_len (l : List Loaded) : (imagesOf l).length = l.length := by simp [imagesOf]
theorem imagesOf_wf {l : List Loaded} (hl : Short l ∧ ∀ x ∈ l, x.WF) : Short (imagesOf l) ∧ ∀ x ∈ imagesOf l, x.WF := by
  refine ⟨by have := hl.1; unfold Short at *; rw [imagesOf_len]; exact this, ?_⟩
  intro x hx
  simp only [imagesOf, List.mem_map] at hx
  obtain ⟨y, hy, rfl⟩ := hx
  exact (hl.2 y hy).1
theorem loadedFrom_all : ∀ (k : Nat) (l : List Loaded), loadedFrom k l = Fault.ok → ∀ x ∈ l, ¬ badLoaded x
  | _, [], _, x, hx => by simp at hx
  | k, y :: ys, h, x, hx => by
    unfold loadedFrom at h
    split at h
    · rw [fault_ok] at h; have := h.1; simp at this
    · rename_i hb
      rcases List.mem_cons.1 hx with rfl | hx
      · exact hb
      · exact loadedFrom_all (k + 1) ys h x hx
theorem loaded_all {l : List Loaded} (h : loadedF l = Fault.ok) : checkF (imagesOf l) = Fault.ok ∧ (∀ x ∈ l, ¬ badLoaded x) ∧ missing (imagesOf l) = none := by
  unfold loadedF at h
  split at h
  · rename_i h1; exact absurd h h1
  · rename_i h1
    split at h
    · rename_i h2; exact absurd h h2
    · rename_i h2
      refine ⟨by simpa using h1, loadedFrom_all 0 l (by simpa using h2), ?_⟩
      unfold needsFault at h
      split at h
      · rw [fault_ok] at h; have := h.1; simp at this
      · assumption
theorem image_inits {x : Image} (h : imageF x = Fault.ok) : x.inits.length ≤ 60 := by
  have := (each_all ((image_all h).2 (each 60 14 (x.inits.map (funcCode x))) (by simp [bodyF]))).1
  simp at this; omega
theorem needsR_ok {l : List Image} (h : missing l = none) : needsR l = .tup [.dat (rowsD (needRows l)), .dat (.int .i64 0), .dat (.bool true)] := by unfold needsR; rw [h]
theorem needsR_bad {l : List Image} {i : Nat} (h : missing l = some i) : needsR l = .tup [.dat (.sl []), .dat (.int .i64 i), .dat (.bool false)] := by unfold needsR; rw [h]
/-- A list of structs that grows. -/
def GrowsR (ds : List Nat) (e z : Nat) (p : PVal) (xs : List Dat) : Prop := (xs = [] ∧ p = .nilS) ∨ ∃ d, d ∈ ds ∧ p = .ow d e z xs
theorem loaded_take (x : Loaded) : mkAgg (List.take 19 (List.map PVal.dat x.enc.cells)) = .dat x.image.enc := by
  have : List.take 19 (List.map PVal.dat x.enc.cells) = x.image.enc.cells.map PVal.dat := rfl
  rw [this, (Image.ag x.image).mk]
theorem loaded_19 (x : Loaded) : x.enc.cells[19]? = some (.int .i64 x.bias) := rfl
theorem loaded_20 (x : Loaded) : x.enc.cells[20]? = some (.int .i64 x.thread) := rfl
theorem loaded_21 (x : Loaded) : x.enc.cells[21]? = some (.int .i64 x.uses) := rfl
theorem loaded_9 (x : Loaded) : x.enc.cells[9]? = some (.sl (x.image.inits.map (.int .i64))) := rfl
theorem loaded_19' (x : Loaded) (h : 19 < x.enc.cells.length) : x.enc.cells[19]'h = .int .i64 x.bias := rfl
theorem loaded_20' (x : Loaded) (h : 20 < x.enc.cells.length) : x.enc.cells[20]'h = .int .i64 x.thread := rfl
theorem loaded_21' (x : Loaded) (h : 21 < x.enc.cells.length) : x.enc.cells[21]'h = .int .i64 x.uses := rfl
theorem loaded_9' (x : Loaded) (h : 9 < x.enc.cells.length) : x.enc.cells[9]'h = .sl (x.image.inits.map (.int .i64)) := rfl
theorem bothI_wf : Short bothI ∧ ∀ x ∈ bothI, x.WF := by
  refine ⟨by simp [bothI, Short], ?_⟩
  intro x hx
  simp only [bothI, List.mem_cons, List.not_mem_nil, or_false] at hx
  rcases hx with rfl | rfl
  · exact ⟨mainI_wf, by simp [I64]⟩
  · exact ⟨libI_wf, by simp [I64]⟩
theorem both_loaded : loadedF bothI = Fault.ok := by decide +kernel
theorem both_calls : callsF bothI = ([4608], Fault.ok) := by
  have h : allF bothI = [4608] := by decide +kernel
  unfold callsF; rw [if_pos both_loaded, h]
end Go.Abs

/- The calls at the start: plain facts. -/
set_option linter.unusedVariables false
set_option linter.unusedSimpArgs false
namespace Go.Abs
open Go
theorem pick_spec {needs : List (List Int)} {out : List Int} {N : Nat} : ∀ (m i : Nat) (w : Int), i + m = N → (w = -1 ∧ (∃ j : Nat, i ≤ j ∧ j < N ∧ hasI out j = false)) ∨ (0 ≤ w ∧ w < N ∧ hasI out w = false) →
    0 ≤ pickFrom needs out m i w ∧ pickFrom needs out m i w < N ∧ hasI out (pickFrom needs out m i w) = false
  | 0, i, w, hi, h => by
    rcases h with ⟨_, j, h1, h2, _⟩ | h
    · omega
    · exact h
  | m + 1, i, w, hi, h => by
    cases hd : hasI out (i : Int)
    · cases hr : readyB needs out i
      · rw [pick_step_not hd hr]
        refine pick_spec m (i + 1) _ (by omega) (.inr ?_)
        rcases h with ⟨rfl, _⟩ | h
        · rw [if_pos (by omega)]; exact ⟨by omega, by omega, hd⟩
        · rw [if_neg (by omega)]; exact h
      · rw [pick_step_ready hd hr]; exact ⟨by omega, by omega, hd⟩
    · rw [pick_step_done hd]
      refine pick_spec m (i + 1) w (by omega) ?_
      rcases h with ⟨h1, j, h2, h3, h4⟩ | h
      · refine .inl ⟨h1, j, ?_, h3, h4⟩
        by_cases e : j = i
        · subst e; rw [hd] at h4; cases h4
        · omega
      · exact .inr h
theorem sorted_nice (needs : List (List Int)) : ∀ k, k ≤ needs.length → Nice needs.length (sortedFrom needs k [])
  | 0, _ => nice_nil _
  | k + 1, hk => by
    have ih := sorted_nice needs k (by omega)
    have hlen := sortedFrom_len needs k []
    rw [sortedFrom_succ]
    generalize sortedFrom needs k [] = out at *
    simp only [List.length_nil, Nat.zero_add] at hlen
    have hex : ∃ j : Nat, 0 ≤ j ∧ j < needs.length ∧ hasI out j = false := by
      refine Classical.byContradiction fun hno => ?_
      have := cover_len needs.length out (fun r hr => by
        rw [← hasI_iff]
        cases hh : hasI out (r : Int)
        · exact absurd ⟨r, Nat.zero_le _, hr, hh⟩ hno
        · rfl)
      omega
    have := pick_spec (needs := needs) (out := out) (N := needs.length) needs.length 0 (-1) (by omega) (.inl ⟨rfl, hex⟩)
    exact ih.add ⟨this.1, this.2.1⟩ this.2.2
theorem sortedF_nice (needs : List (List Int)) : Nice needs.length (sortedF needs) ∧ (sortedF needs).length = needs.length := ⟨sorted_nice needs _ (Nat.le_refl _), by have := sortedFrom_len needs needs.length []; rw [List.length_nil, Nat.zero_add] at this; exact this⟩
theorem nice_full {n : Nat} {out : List Int} (h : Nice n out) (hl : out.length = n) : ∀ r : Nat, r < n → (r : Int) ∈ out := by
  intro r hr
  refine Classical.byContradiction fun hno => ?_
  have h2 : Nice n (out ++ [(r : Int)]) := h.add ⟨by omega, by omega⟩ (hasI_false.2 hno)
  have := h2.length
  simp at this; omega
theorem initsAt_len {l : List Loaded} (h : loadedF l = Fault.ok) (i : Int) : (initsAt l i).length ≤ 60 := by
  unfold initsAt
  cases hx : l[i.toNat]? with
  | none => simp
  | some x =>
    have : imageF x.image = Fault.ok := check_img (loaded_all h).1 (by simp only [imagesOf, List.mem_map]; exact ⟨x, List.mem_of_getElem? hx, rfl⟩)
    have := image_inits this
    simpa using this
theorem callsOf_take {l : List Loaded} {order : List Int} {m : Nat} {i : Int} (h : order[m]? = some i) : callsOf l (order.take (m + 1)) = callsOf l (order.take m) ++ initsAt l i := by
  obtain ⟨hm, rfl⟩ := List.getElem?_eq_some_iff.1 h
  unfold callsOf
  rw [List.take_succ_eq_append_getElem hm, List.flatMap_append]
  simp
theorem callsOf_len {l : List Loaded} (h : loadedF l = Fault.ok) : ∀ order : List Int, (callsOf l order).length ≤ 60 * order.length
  | [] => by simp [callsOf]
  | i :: is => by
    have h1 := callsOf_len h is
    have h2 := initsAt_len h i
    have h3 : callsOf l (i :: is) = initsAt l i ++ callsOf l is := by simp [callsOf]
    rw [h3]
    simp; omega

/-! ### all of them, and in order -/
def greedy (s : List Int) : List Int → Nat → Nat
  | [], a => a
  | c :: cs, a => greedy s cs (if s[a]? = some c then a + 1 else a)
theorem greedy_mono (s : List Int) : ∀ (c : List Int) (a : Nat), a ≤ greedy s c a
  | [], a => Nat.le_refl _
  | c :: cs, a => by
    unfold greedy
    refine Nat.le_trans ?_ (greedy_mono s cs _)
    split <;> omega
theorem greedy_le (s : List Int) : ∀ (c : List Int) (a : Nat), a ≤ s.length → greedy s c a ≤ s.length
  | [], a, h => h
  | c :: cs, a, h => by
    unfold greedy
    refine greedy_le s cs _ ?_
    split
    · rename_i hs; have := (List.getElem?_eq_some_iff.1 hs).1; omega
    · exact h
theorem greedy_append (s : List Int) : ∀ (c d : List Int) (a : Nat), greedy s (c ++ d) a = greedy s d (greedy s c a)
  | [], d, a => rfl
  | c :: cs, d, a => by simp only [List.cons_append, greedy]; exact greedy_append s cs d _
theorem greedy_block (s : List Int) : ∀ (t : List Int) (j a : Nat), s.drop j = t → j ≤ a → j ≤ s.length → s.length ≤ greedy s t a
  | [], j, a, h, ha, hj => by
    rw [List.drop_eq_nil_iff] at h
    have := greedy_mono s [] a
    unfold greedy; omega
  | x :: t, j, a, h, ha, hj => by
    have hjl : j < s.length := by
      refine Classical.byContradiction fun hn => ?_
      rw [List.drop_eq_nil_of_le (by omega)] at h; cases h
    rw [List.drop_eq_getElem_cons hjl] at h
    injection h with h1 h2
    unfold greedy
    refine greedy_block s t (j + 1) _ h2 ?_ (by omega)
    by_cases e : a = j
    · subst e; rw [List.getElem?_eq_getElem hjl, h1, if_pos rfl]; exact Nat.le_refl _
    · split <;> omega
theorem greedy_all {l : List Loaded} {order : List Int} {i : Int} (hi : i ∈ order) : greedy (initsAt l i) (callsOf l order) 0 = (initsAt l i).length := by
  obtain ⟨a, b, rfl⟩ := List.append_of_mem hi
  have h1 : callsOf l (a ++ i :: b) = callsOf l a ++ (initsAt l i ++ callsOf l b) := by simp [callsOf]
  rw [h1, greedy_append, greedy_append]
  have h2 := greedy_block (initsAt l i) (initsAt l i) 0 (greedy (initsAt l i) (callsOf l a) 0) rfl (Nat.zero_le _) (Nat.zero_le _)
  have h3 := greedy_mono (initsAt l i) (callsOf l b) (greedy (initsAt l i) (initsAt l i) (greedy (initsAt l i) (callsOf l a) 0))
  have h4 := greedy_le (initsAt l i) (callsOf l b) (greedy (initsAt l i) (initsAt l i) (greedy (initsAt l i) (callsOf l a) 0)) (greedy_le _ _ _ (greedy_le _ _ _ (Nat.zero_le _)))
  omega
theorem sum_out (f : Int → Nat) (a : Int) : ∀ (l : List Int), l.Nodup → a ∈ l → (l.map f).sum = f a + ((l.filter fun v => decide (v ≠ a)).map f).sum
  | [], _, h => by simp at h
  | x :: l, hn, h => by
    rw [List.nodup_cons] at hn
    by_cases e : x = a
    · subst e
      have : (l.filter fun v => decide (v ≠ x)) = l := by
        rw [List.filter_eq_self]
        intro v hv
        simp only [decide_eq_true_eq]
        intro e2; subst e2; exact hn.1 hv
      simp only [List.map_cons, List.sum_cons, List.filter_cons, ne_eq, not_true_eq_false, decide_false, Bool.false_eq_true, if_false]
      have h5 : (l.filter fun v => decide (¬ v = x)) = l := this
      rw [h5]
    · have hm : a ∈ l := by
        rcases List.mem_cons.1 h with h | h
        · exact absurd h.symm e
        · exact h
      have ih := sum_out f a l hn.2 hm
      simp only [ne_eq] at ih
      simp only [List.map_cons, List.sum_cons, List.filter_cons, ne_eq, e, not_false_eq_true, decide_true, if_true]
      omega
theorem sum_full (f : Int → Nat) : ∀ (n : Nat) (out : List Int), Nice n out → out.length = n → (out.map f).sum = ((List.range n).map fun r : Nat => f (r : Int)).sum
  | 0, out, _, hl => by rw [List.length_eq_zero_iff.1 hl]; rfl
  | n + 1, out, h, hl => by
    have hm := nice_full h hl n (by omega)
    rw [sum_out f n out h.1 hm, List.range_succ, List.map_append, List.sum_append]
    have h2 : Nice n (out.filter fun v => decide (v ≠ (n : Int))) := by
      refine ⟨h.1.filter _, fun v hv => ?_⟩
      simp only [List.mem_filter, decide_eq_true_eq] at hv
      have := h.2 v hv.1
      omega
    have h3 : n ≤ (out.filter fun v => decide (v ≠ (n : Int))).length := cover_len n _ (fun r hr => by
      rw [List.mem_filter]; exact ⟨nice_full h hl r (by omega), by simp; omega⟩)
    have h4 := h2.length
    rw [sum_full f n _ h2 (by omega)]
    simp; omega
theorem callsOf_sum (l : List Loaded) : ∀ order : List Int, (callsOf l order).length = (order.map fun i => (initsAt l i).length).sum
  | [] => rfl
  | i :: is => by
    have := callsOf_sum l is
    simp only [callsOf, List.flatMap_cons, List.length_append, List.map_cons, List.sum_cons] at this ⊢
    omega
def initsTo (l : List Loaded) (k : Nat) : Nat := ((List.range k).map fun r : Nat => (initsAt l (r : Int)).length).sum
theorem initsTo_succ (l : List Loaded) (k : Nat) : initsTo l (k + 1) = initsTo l k + (initsAt l (k : Int)).length := by
  unfold initsTo; rw [List.range_succ, List.map_append, List.sum_append]; simp
theorem initsTo_le {l : List Loaded} (h : loadedF l = Fault.ok) : ∀ k, initsTo l k ≤ 60 * k
  | 0 => by simp [initsTo]
  | k + 1 => by
    have := initsTo_le h k
    have := initsAt_len h (k : Int)
    rw [initsTo_succ]; omega
theorem allF_len (l : List Loaded) : (allF l).length = initsTo l l.length := by
  have h := sortedF_nice (needRows (imagesOf l))
  rw [needRows_len, imagesOf_len] at h
  unfold allF initsTo
  rw [callsOf_sum, sum_full (fun i => (initsAt l i).length) l.length _ h.1 h.2]
theorem allF_greedy (l : List Loaded) (k : Nat) (hk : k < l.length) : greedy (initsAt l (k : Int)) (allF l) 0 = (initsAt l (k : Int)).length := by
  have h := sortedF_nice (needRows (imagesOf l))
  rw [needRows_len, imagesOf_len] at h
  exact greedy_all (nice_full h.1 h.2 k hk)
end Go.Abs

/- A function of which a part is walked by hand. -/
set_option linter.unusedVariables false
set_option linter.unusedSimpArgs false
namespace Go.Abs
open Go Go.RowKit
section
variable {P : Program}
/-- A function's contract, where a part of its code was walked by hand. -/
theorem rcall_of_wp {f : Nat} {fn : Func} {c : Code} {ps : List PVal} {r : PVal} (hf : P.funcs[f]? = some fn) (hname : (fn.name == "runtime.NumGoroutine") = false) (hb : fn.body = some c)
    (hn : ps.length ≤ fn.ntmps) (h : ∀ {base : Nat} {E : Env} {a : Act} {w : World}, Inv base E (argSt ps) a.tmps w → a.tmps.size = fn.ntmps → a.defers = [] → c.wp P (PostA base fn.ntmps E w (retK P fn.results.toList r)) a w) : RCall P f ps r := by
  refine ⟨fun args w => ?_, fun Φ Ψ vs w h1 h2 h3 hr => ?_⟩
  · have h1 : fn.name ≠ "runtime.NumGoroutine" := by simpa using hname
    simp [callFunc, hf, h1, hb]
  · refine calls_of_wp hf hb (wp_mono (h (argSt_inv fn.ntmps h1 h2 h3 hr) (by simp; have := hr.1; omega) rfl) ?_)
    rintro e a' w' ⟨x, s', E', rfl, hx, hI, hN, hd, hB, hE⟩
    have fin : resultsA P fn.results.toList s' = some r → a'.defers = [] ∧ ∃ v, (results fn a'.tmps).run P w' = .ok v w' ∧ ∃ v' Φ' Ψ', Ending.returned v = .returned v' ∧ Below w.heap.size w w' ∧ (∀ a v, Φ a = some v → Φ' a = some v) ∧ (∀ a v, Ψ a = some v → Ψ' a = some v) ∧ (∀ a v, Φ' a = some v → Ψ' a = some v) ∧
        (∀ a v, Ψ' a = some v → w'.cell? a = some v) ∧ (∀ a v, Φ' a = some v → Φ a = some v ∨ w.heap.size ≤ a.block) ∧ (∀ a v, Ψ' a = some v → Ψ a = some v ∨ w.heap.size ≤ a.block) ∧ RelP (E0 Φ' Ψ') r v' := by
      intro hres
      have hboxnew : ∀ (f : Mem) (a : Addr) (v : Value), boxMem E' w' s'.h f a = some v → f a = some v ∨ w.heap.size ≤ a.block := by
        intro f a v ha
        unfold boxMem at ha
        split at ha
        · rename_i hc
          obtain ⟨t, cs, _, hβ⟩ := hc
          exact .inr (hI.bsep t _ hβ).1
        · exact .inl ha
      have common : ∀ {q : PVal} {v : Value}, RelP (E0 (boxMem E' w' s'.h E'.Φ) (boxMem E' w' s'.h E'.Ψ)) q v → (∃ v' Φ' Ψ', Ending.returned v = .returned v' ∧ Below w.heap.size w w' ∧ (∀ a v, Φ a = some v → Φ' a = some v) ∧ (∀ a v, Ψ a = some v → Ψ' a = some v) ∧ (∀ a v, Φ' a = some v → Ψ' a = some v) ∧
          (∀ a v, Ψ' a = some v → w'.cell? a = some v) ∧ (∀ a v, Φ' a = some v → Φ a = some v ∨ w.heap.size ≤ a.block) ∧ (∀ a v, Ψ' a = some v → Ψ a = some v ∨ w.heap.size ≤ a.block) ∧ RelP (E0 Φ' Ψ') q v') := by
        intro q v hq
        refine ⟨v, boxMem E' w' s'.h E'.Φ, boxMem E' w' s'.h E'.Ψ, rfl, hB, fun a v ha => boxMem_le hI hI.sub a v (hE.phi a v ha), fun a v ha => boxMem_le hI (fun _ _ h => h) a v (hE.psi a v ha), fun a v ha => ?_, boxMem_sound hI.psi, fun a v ha => ?_, fun a v ha => ?_, hq⟩
        · unfold boxMem at ha ⊢
          split at ha
          · rename_i hc; rw [if_pos hc]; exact ha
          · rename_i hc; rw [if_neg hc]; exact hI.sub a v ha
        · rcases hboxnew _ a v ha with h | h
          · exact hE.newp a v h
          · exact .inr h
        · rcases hboxnew _ a v ha with h | h
          · exact hE.new a v h
          · exact .inr h
      refine ⟨hd, ?_⟩
      unfold resultsA at hres
      have hm : ∀ vs : List Value, (fn.results.toList.mapM (resOne a'.tmps) : Sem (List Value)).run P w' = .ok vs w' →
          (results fn a'.tmps).run P w' = .ok (if h : vs.toArray.size = 1 then vs.toArray[0] else .tuple vs.toArray) w' := by
        intro vs hvs
        rw [results_eq, Sem.run_bind, Array.mapM_eq_mapM_toList]
        simp only [Sem.run_map]
        rw [hvs]
        rfl
      split at hres
      · rename_i p hrs
        injection hres with hres; subst hres
        obtain ⟨us, g1, g2, g3⟩ := resAs_sound (P := P) hI (fun _ _ h => h) (fun _ _ h => h) _ _ hrs
        obtain ⟨u, rfl⟩ : ∃ u, us = [u] := by
          cases us with
          | nil => simp at g2
          | cons u t => cases t with
            | nil => exact ⟨u, rfl⟩
            | cons _ _ => simp at g2
        refine ⟨u, ?_, common (g3 0 p u rfl rfl)⟩
        have := hm [u] g1
        simpa using this
      · rename_i qs hne hrs
        injection hres with hres; subst hres
        obtain ⟨us, g1, g2, g3⟩ := resAs_sound (P := P) hI (fun _ _ h => h) (fun _ _ h => h) _ _ hrs
        have hl : us.toArray.size ≠ 1 := by
          intro h1
          have : qs.length = 1 := by rw [← g2]; simpa using h1
          obtain ⟨p, hp⟩ := List.length_eq_one_iff.1 this
          exact hne p (by rw [hp])
        refine ⟨.tuple us.toArray, ?_, common (.tup qs us g2 g3)⟩
        have := hm us g1
        rw [dif_neg hl] at this
        exact this
      · cases hres
    cases x with
    | normal => exact fin hx
    | ret => exact fin hx
    | exit id => exact hx.elim

/-- A piece walked by hand, then the rest. -/
theorem postA_seq {base N : Nat} {E : Env} {a : Act} {w : World} {Q : AExit → ASt → Prop} {x y : Code} (s' : ASt) (hx : x.wp P (PostA base N E w (fun e s => e = .normal ∧ s = s')) a w)
    (hy : ∀ {E1 : Env} {a1 : Act} {w1 : World}, Inv base E1 s' a1.tmps w1 → a1.tmps.size = N → a1.defers = [] → y.wp P (PostA base N E1 w1 Q) a1 w1) : (Code.seq x y).wp P (PostA base N E w Q) a w := by
  refine wp_seq (wp_mono hx ?_)
  rintro e a1 w1 ⟨z, s1, E1, rfl, ⟨rfl, rfl⟩, k1, k2, k3, k4, k5⟩
  refine wp_mono (hy k1 k2 k3) ?_
  rintro e a2 w2 ⟨z, s2, E2, rfl, hz2, q1, q2, q3, q4, q5⟩
  exact ⟨z, s2, E2, rfl, hz2, q1, q2, q3, k4.trans q4, k5.trans q5⟩
/-- The same, of which only facts are known behind it. -/
theorem postA_cut {base N : Nat} {E : Env} {a : Act} {w : World} {Q : AExit → ASt → Prop} {x y : Code} (J : ASt → Prop) (hx : x.wp P (PostA base N E w (leaves J)) a w)
    (hy : ∀ (s' : ASt), J s' → ∀ {E1 : Env} {a1 : Act} {w1 : World}, Inv base E1 s' a1.tmps w1 → a1.tmps.size = N → a1.defers = [] → y.wp P (PostA base N E1 w1 Q) a1 w1) : (Code.seq x y).wp P (PostA base N E w Q) a w := by
  refine wp_seq (wp_mono hx ?_)
  rintro e a1 w1 ⟨z, s1, E1, rfl, hz, k1, k2, k3, k4, k5⟩
  cases z with
  | normal =>
    refine wp_mono (hy s1 hz k1 k2 k3) ?_
    rintro e a2 w2 ⟨z, s2, E2, rfl, hz2, q1, q2, q3, q4, q5⟩
    exact ⟨z, s2, E2, rfl, hz2, q1, q2, q3, k4.trans q4, k5.trans q5⟩
  | exit i => exact hz.elim
  | ret => exact hz.elim
end
end Go.Abs

/- A clone from which some numbers are struck: walked by hand. -/
set_option linter.unusedVariables false
set_option linter.unusedSimpArgs false
namespace Go.Abs
open Go Go.RowKit Go.Proofs Go.Sort

section
variable {P : Program} {ops : Array Oper} {Q : Exit → Act → World → Prop}
theorem wpOp_val {i : Nat} {o : Oper} {K : Act → World → Prop} {a : Act} {w w1 : World} {v : Value} (ho : ops[i]? = some o) (hg : o.guard = none) (hrun : (execOp a.eval o).run P w = .ok (.value v) w1) (hK : K (a.put o.dst v) w1) : wpOp P ops Q i K a w := by
  unfold wpOp
  rw [ho]
  simp only
  rw [if_pos (by unfold Region.wanted; rw [hg])]
  left
  unfold Oper.wp
  rw [hrun]
  exact hK
theorem wpOp_call {i g : Nat} {o : Oper} {K : Act → World → Prop} {a : Act} {w : World} {args : Array Value} (ho : ops[i]? = some o) (hg : o.guard = none) (hrun : (execOp a.eval o).run P w = .ok (.enter g args) w)
    (hc : Calls P g args w fun e w' => ∃ v, e = .returned v ∧ K (a.put o.dst v) w') : wpOp P ops Q i K a w := by
  unfold wpOp
  rw [ho]
  simp only
  rw [if_pos (by unfold Region.wanted; rw [hg])]
  left
  unfold Oper.wp
  rw [hrun]
  show Calls P g args w _
  refine hc.mono ?_
  rintro e w' ⟨v, rfl, hk⟩
  exact hk
theorem eval_put {a : Act} {d t : Nat} {v : Value} (hd : d < a.tmps.size) : (a.put (some d) v).eval (.tmp t) = if t = d then v else a.eval (.tmp t) := by
  show (a.put (some d) v).tmps.getD t Go.undef = _
  rw [put_tmps]
  simp only [putT]
  rw [Array.getD_eq_getD_getElem?, Array.getElem?_setIfInBounds]
  by_cases e : t = d
  · subst e; simp [hd]
  · rw [if_neg (fun h => e h.symm), if_neg e]
    show _ = a.tmps.getD t Go.undef
    rw [Array.getD_eq_getD_getElem?]
theorem size_put {a : Act} {d : Nat} {v : Value} : (a.put (some d) v).tmps.size = a.tmps.size := by rw [put_tmps, putT_size]

/-- What the two library functions and the closure do. -/
structure DefLaws (P : Program) (fc fd fg eT : Nat) : Prop where
  cE : ∀ args w, (callFunc fc args).run P w = .ok (.enter fc args) w
  dE : ∀ args w, (callFunc fd args).run P w = .ok (.enter fd args) w
  clone : ∀ (b off n c : Nat) (zs : List Int) (w : World), n ≤ zs.length → n * 8 ≤ 140737488355328 → (∀ j, j < zs.length → w.cell? ⟨b, off + j, none⟩ = some (.int .i64 (zs.getD j 0))) →
     Calls P fc #[.slice (some ⟨b, off, none⟩) n c] w fun e w' => ∃ v', e = .returned v' ∧ w'.ownsRow w.heap.size eT 1 v' n ((zs.take n).map (Value.int .i64)) ∧ v' ≠ .slice none 0 0 ∧ Below w.heap.size w w'
  del : ∀ (p : Int → Bool) (lb : Array Value) (blk off cap : Nat) (d : Array Int) (w : World), PredAt P fg lb (Value.int .i64) p w → PredOver P fg lb (Value.int .i64) p blk off d.size w → Holds (Value.int .i64) w blk off d → d.size ≤ 9223372036854775807 → d.size ≤ cap →
     Calls P fd #[.slice (some ⟨blk, off, none⟩) d.size cap, .func (.func fg) #[] lb] w fun e w' => e = .returned (.slice (some ⟨blk, off, none⟩) (d.toList.filter fun x => !p x).length cap) ∧ ∃ q, w' = putRow (Value.int .i64) (Sort.ahead w q) blk off ((d.toList.filter fun x => !p x) ++ List.replicate (d.size - (d.toList.filter fun x => !p x).length) 0).toArray
  gives : ∀ (im x : Int) (ad : Addr) (W : World), W.cell? ad = some (.int .i64 im) → FnGives P fg #[.pointer (some ad)] #[.int .i64 x] (.bool (decide (x = im))) W

theorem def_region {fc fd fg eT : Nat} (L : DefLaws P fc fd fg eT) {o0 o1 o2 o3 o4 : Oper} {ts1 ts3 : Array TypeId} (hops : ops = #[o0, o1, o2, o3, o4])
    (h0 : o0.op = .move (.tmp 1)) (d0 : o0.dst = some 12) (g0 : o0.guard = none) (h1 : o1.op = .call ⟨.value (.func fc), #[.tmp 12], ts1⟩) (d1 : o1.dst = some 13) (g1 : o1.guard = none)
    (h2 : o2.op = .makeFunc (.func fg) #[] #[.tmp 6]) (d2 : o2.dst = some 14) (g2 : o2.guard = none) (h3 : o3.op = .call ⟨.value (.func fd), #[.tmp 13, .tmp 14], ts3⟩) (d3 : o3.dst = some 15) (g3 : o3.guard = none)
    (h4 : o4.op = .assign (.tmp 15)) (d4 : o4.dst = some 11) (g4 : o4.guard = none)
    {base rid : Nat} {E : Env} {s : ASt} {a : Act} {w : World} (hI : Inv base E s a.tmps w) (hN : a.tmps.size = 27) (hd : a.defers = [])
    (order : List Int) (hne : order ≠ []) (hlen : order.length ≤ 1000) (im : Int) (ht1 : s.t 1 = .dat (intsD order)) (ht6 : s.t 6 = .cptr [.dat (.int .i64 im)]) :
    (Code.region rid ops false).wp P (PostA base 27 E w (leaves fun s' => s'.t 0 = s.t 0 ∧ s'.t 7 = s.t 7 ∧ s'.t 11 = .dat (intsD (order.filter fun k => !decide (k = im))))) a w := by
  have hv1 := hI.tm 1
  have hv6 := hI.tm 6
  rw [ht1] at hv1
  rw [ht6] at hv6
  generalize hw1 : a.tmps.getD 1 Go.undef = v1 at hv1
  generalize hw6 : a.tmps.getD 6 Go.undef = v6 at hv6
  have hlen0 : 0 < order.length := List.length_pos_iff.2 hne
  cases hv6 with
  | cptr cs ad6 vals6 hΨ6 hf6 h16 hr6 =>
  have hcell6 : w.cell? ad6 = some (.int .i64 im) := by
    have h1 := hI.psi _ _ (hΨ6 0 (by simp))
    have h2 := hr6 0 _ rfl
    have h3 : vals6 0 = .int .i64 im := by
      generalize vals6 0 = u at h2
      cases h2 with | dat _ _ h => cases h; rfl
    rw [h3] at h1
    have h4 : ad6.add 0 = ad6 := by simp [Addr.add]
    rw [h4] at h1
    exact h1
  have hb6 : ad6.block < w.heap.size := World.block_lt_of_cell? w ad6 hcell6
  cases hv1 with
  | dat _ _ hv1 =>
  unfold intsD at hv1
  cases hv1 with
  | sl _ A ad c sz vals hc hm hA hsz hf hΦ hr =>
  simp only [List.length_map] at *
  obtain rfl := hA hlen0
  have hsz1 : sz = 1 := by
    have := hsz (.int .i64 (order[0]'hlen0)) (by simp)
    simpa [Dat.cells] using this.symm
  subst hsz1
  have hcellsA : ∀ j, (hj : j < order.length) → w.cell? (ad.add j) = some (.int .i64 (order[j])) := by
    intro j hj
    have h1 := hI.phi _ _ (hΦ j 0 hj (by omega))
    have h2 := hr j 0 (.int .i64 order[j]) (.int .i64 order[j]) (by simp [hj]) rfl
    have h3 : vals j 0 = .int .i64 order[j] := by
      generalize vals j 0 = u at h2
      cases h2; rfl
    rw [h3] at h1
    simpa using h1
  obtain ⟨ab, ao, asp⟩ := ad
  have hspot : asp = none := by simpa [Addr.add] using World.cell?_spot (hcellsA 0 hlen0)
  subst hspot
  have hcells : ∀ j, j < order.length → w.cell? ⟨ab, ao + j, none⟩ = some (.int .i64 (order.getD j 0)) := by
    intro j hj
    have := hcellsA j hj
    rw [List.getD_eq_getElem?_getD, List.getElem?_eq_getElem hj]
    simp only [addr_mk_add] at this
    exact this
  have e1 : a.eval (.tmp 1) = .slice (some ⟨ab, ao, none⟩) order.length c := hw1
  have e6 : a.eval (.tmp 6) = .pointer (some ad6) := hw6
  refine wp_region ?_
  subst hops
  show wpOps P _ _ [0, 1, 2, 3, 4] a w
  rw [wpOps_cons]
  refine wpOp_val (o := o0) (v := .slice (some ⟨ab, ao, none⟩) order.length c) (w1 := w) rfl g0 (by simp [execOp, h0, e1]) ?_
  rw [d0, wpOps_cons]
  have s0 : (12 : Nat) < a.tmps.size := by omega
  generalize ha1 : a.put (some 12) (.slice (some ⟨ab, ao, none⟩) order.length c) = a1
  have z1 : a1.tmps.size = 27 := by rw [← ha1, size_put]; exact hN
  have q12 : a1.eval (.tmp 12) = .slice (some ⟨ab, ao, none⟩) order.length c := by rw [← ha1, eval_put s0, if_pos rfl]
  have q6 : a1.eval (.tmp 6) = .pointer (some ad6) := by rw [← ha1, eval_put s0, if_neg (by decide)]; exact e6
  refine wpOp_call (o := o1) (g := fc) (args := #[.slice (some ⟨ab, ao, none⟩) order.length c]) rfl g1 ?_ ?_
  · have hfv : a1.eval (.func fc) = .func (.func fc) #[] #[] := rfl
    simp only [execOp, h1, resolve, hfv, Deferred.ofValue, Sem.run_bind, Sem.run_pure, Result.andThen_ok, invoke]
    simp only [List.map_toArray, List.map_cons, List.map_nil, Array.append_empty, Array.empty_append, q12]
    exact L.cE _ _
  refine (L.clone ab ao order.length c order w (Nat.le_refl _) (by omega) hcells).mono ?_
  rintro e w1 ⟨v', rfl, hown, hnn, hB1⟩
  refine ⟨v', rfl, ?_⟩
  obtain ⟨hol, hov⟩ := hown
  rcases hov with ⟨hv0, _⟩ | ⟨g, cap, cur, hvg, hbase, hblk, hnc, hcm, hcs, hcur⟩
  · exact absurd hv0 hnn
  subst hvg
  rw [List.take_length] at hcur
  have hgw : w.heap.size ≤ g := hbase
  have hg1 : g < w1.heap.size := by
    have := (Array.getElem?_eq_some_iff.1 hblk).1
    exact this
  rw [d1, wpOps_cons]
  have s1 : (13 : Nat) < a1.tmps.size := by omega
  generalize ha2 : a1.put (some 13) (.slice (some ⟨g, 0, none⟩) order.length cap) = a2
  have z2 : a2.tmps.size = 27 := by rw [← ha2, size_put]; exact z1
  have q13 : a2.eval (.tmp 13) = .slice (some ⟨g, 0, none⟩) order.length cap := by rw [← ha2, eval_put s1, if_pos rfl]
  have q62 : a2.eval (.tmp 6) = .pointer (some ad6) := by rw [← ha2, eval_put s1, if_neg (by decide)]; exact q6
  refine wpOp_val (o := o2) (v := .func (.func fg) #[] #[.pointer (some ad6)]) (w1 := w1) rfl g2 (by simp [execOp, h2, q62, Instr.makeFunc]) ?_
  rw [d2, wpOps_cons]
  have s2 : (14 : Nat) < a2.tmps.size := by omega
  generalize ha3 : a2.put (some 14) (.func (.func fg) #[] #[.pointer (some ad6)]) = a3
  have z3 : a3.tmps.size = 27 := by rw [← ha3, size_put]; exact z2
  have q133 : a3.eval (.tmp 13) = .slice (some ⟨g, 0, none⟩) order.length cap := by rw [← ha3, eval_put s2, if_neg (by decide)]; exact q13
  have q14 : a3.eval (.tmp 14) = .func (.func fg) #[] #[.pointer (some ad6)] := by rw [← ha3, eval_put s2, if_pos rfl]
  have hcell1 : w1.cell? ad6 = some (.int .i64 im) := (hB1.cell hb6).trans hcell6
  have hb61 : ad6.block < w1.heap.size := Nat.lt_of_lt_of_le hb6 hB1.size
  have hne6 : ad6.block ≠ g := by omega
  have hholds : Holds (Value.int .i64) w1 g 0 order.toArray := by
    intro j hj
    have hj' : j < order.length := by simpa using hj
    refine ⟨?_, by simp [World.frozen?, hblk]⟩
    have h1 : cur[j]? = some (.int .i64 order[j]) := by
      have h2 : (cur.toList.take (order.length * 1))[j]? = some (.int .i64 order[j]) := by rw [hcur]; simp [hj']
      rw [List.getElem?_take_of_lt (by omega)] at h2
      simpa using h2
    rw [Nat.zero_add, cell_of_row w1 g j cur eT (0, 0) hblk, h1]
    simp [hj']
  refine wpOp_call (o := o3) (g := fd) (args := #[.slice (some ⟨g, 0, none⟩) order.length cap, .func (.func fg) #[] #[.pointer (some ad6)]]) rfl g3 ?_ ?_
  · have hfv : a3.eval (.func fd) = .func (.func fd) #[] #[] := rfl
    simp only [execOp, h3, resolve, hfv, Deferred.ofValue, Sem.run_bind, Sem.run_pure, Result.andThen_ok, invoke]
    simp only [List.map_toArray, List.map_cons, List.map_nil, Array.append_empty, Array.empty_append, q133, q14]
    exact L.dE _ _
  have hpat : PredAt P fg #[.pointer (some ad6)] (Value.int .i64) (fun x => decide (x = im)) w1 := fun W x hb => L.gives im x ad6 W ((hb.cell hb61).trans hcell1)
  have hpov : PredOver P fg #[.pointer (some ad6)] (Value.int .i64) (fun x => decide (x = im)) g 0 order.toArray.size w1 := fun n os dk x _ => L.gives im x ad6 _ (by
    unfold sortWorld
    rw [cell?_grow _ _ _ (by show _ < (putRow _ _ _ _ _).heap.size; rw [size_putRow]; exact hb61), cell?_putRow_other _ _ g 0 _ _ (Or.inl hne6)]
    exact hcell1)
  have hdel := L.del (fun x => decide (x = im)) #[.pointer (some ad6)] g 0 cap order.toArray w1 hpat hpov hholds (by simp; omega) (by simpa using hnc)
  simp only [List.size_toArray] at hdel
  refine hdel.mono ?_
  rintro e w2 ⟨rfl, q, hw2⟩
  refine ⟨_, rfl, ?_⟩
  have hlenf : (order.filter fun x => !decide (x = im)).length ≤ order.length := List.length_filter_le _ _
  generalize hys : (order.filter fun x => !decide (x = im)) = ys at *
  -- the world at the end
  have hw2cell : ∀ j, j < ys.length → w2.cell? ⟨g, j, none⟩ = some (.int .i64 (ys.getD j 0)) := by
    intro j hj
    have hh : Holds (Value.int .i64) (Sort.ahead w1 q) g 0 order.toArray := holds_ahead _ _ _ _ _ _ hholds
    have := cell?_putRow (Value.int .i64) (Sort.ahead w1 q) g 0 order.toArray (ys ++ List.replicate (order.length - ys.length) 0).toArray hh (by simp; omega) j (by simp; omega)
    rw [hw2, show j = 0 + j by omega, this]
    congr 2
    rw [getElem!_pos _ j (by simp; omega)]
    simp [hj]
  have hw2heap : ∀ k, k ≠ g → w2.heap[k]? = w1.heap[k]? := by
    intro k hk
    rw [hw2]
    simp [putRow, mapBlock, Sort.ahead, Array.getElem?_modify, Ne.symm hk]
  have hw2size : w2.heap.size = w1.heap.size := by rw [hw2, size_putRow]; rfl
  have hold : ∀ k, k < w.heap.size → w2.heap[k]? = w.heap[k]? := fun k hk => (hw2heap k (by omega)).trans (hB1.block k hk)
  have hcellold : ∀ x v, w.cell? x = some v → w2.cell? x = some v := by
    intro x v hx
    have hlt := World.block_lt_of_cell? w x hx
    rw [World.cell?_of_block (hold x.block hlt)]
    exact hx
  let New : Mem := fun x => if x.block = g ∧ x.spot = none ∧ x.off < ys.length then w2.cell? x else none
  have hNew : ∀ x v, New x = some v → w2.cell? x = some v := by
    intro x v hx
    have hx' : (if x.block = g ∧ x.spot = none ∧ x.off < ys.length then w2.cell? x else none) = some v := hx
    split at hx'
    · exact hx'
    · cases hx'
  have hNewb : ∀ x v, New x = some v → x.block = g := by
    intro x v hx
    have hx' : (if x.block = g ∧ x.spot = none ∧ x.off < ys.length then w2.cell? x else none) = some v := hx
    split at hx'
    · rename_i h; exact h.1
    · cases hx'
  let Φ' : Mem := fun x => match E.Φ x with | some v => some v | none => New x
  let Ψ' : Mem := fun x => match E.Ψ x with | some v => some v | none => New x
  have hPhi : ∀ x v, Φ' x = some v → E.Φ x = some v ∨ New x = some v := by
    intro x v hx
    have hx' : (match E.Φ x with | some v => some v | none => New x) = some v := hx
    split at hx'
    · rename_i u hu; left; rw [hu]; exact hx'
    · exact .inr hx'
  have hPsi : ∀ x v, Ψ' x = some v → E.Ψ x = some v ∨ New x = some v := by
    intro x v hx
    have hx' : (match E.Ψ x with | some v => some v | none => New x) = some v := hx
    split at hx'
    · rename_i u hu; left; rw [hu]; exact hx'
    · exact .inr hx'
  have hPhi0 : ∀ x v, E.Φ x = some v → Φ' x = some v := by
    intro x v hx
    show (match E.Φ x with | some v => some v | none => New x) = some v
    rw [hx]
  have hPsi0 : ∀ x v, E.Ψ x = some v → Ψ' x = some v := by
    intro x v hx
    show (match E.Ψ x with | some v => some v | none => New x) = some v
    rw [hx]
  have hPsig : ∀ x : Addr, x.block = g → E.Ψ x = none := by
    intro x hx
    cases h : E.Ψ x with
    | none => rfl
    | some v => have := hI.psi_lt h; omega
  have hPhig : ∀ x : Addr, x.block = g → E.Φ x = none := by
    intro x hx
    cases h : E.Φ x with
    | none => rfl
    | some v => have := hPsig x hx; rw [hI.sub x v h] at this; cases this
  let E'' : Env := { E with Φ := Φ', Ψ := Ψ' }
  have hle : E.le E'' := ⟨hPhi0, hPsi0, fun _ _ h => h, fun _ _ h => h⟩
  have hI2 : Inv base E'' s a.tmps w2 := hI.env hle rfl rfl (fun x v h => (hPhi x v h).elim (fun h => hcellold x v (hI.phi x v h)) (hNew x v)) (fun x v h => (hPsi x v h).elim (fun h => hcellold x v (hI.psi x v h)) (hNew x v))
    (fun x v h => by
      rcases hPhi x v h with h | h
      · exact hPsi0 x v (hI.sub x v h)
      · show (match E.Ψ x with | some v => some v | none => New x) = some v
        rw [hPsig x (hNewb x v h)]; exact h) (fun x v h => (hPsi x v h).imp id (fun h => by rw [hNewb x v h]; exact hgw)) hold (by rw [hw2size]; exact hB1.size)
  have hfin : RelP E'' (.dat (intsD ys)) (.slice (some ⟨g, 0, none⟩) ys.length cap) := by
    have := RelD.sl (Φ := Φ') (ys.map (Dat.int .i64)) (some ⟨g, 0, none⟩) ⟨g, 0, none⟩ cap 1 (fun j _ => .int .i64 (ys.getD j 0)) (by simp; omega) (by simp; unfold maxLen; omega) (fun _ => rfl) (by simp [Dat.cells]) (by simp [Dat.cells, Dat.flat]) (fun j i hj hi => by
        have hj' : j < ys.length := by simpa using hj
        have hi' : i = 0 := by omega
        subst hi'
        have hfalse := hPhig ⟨g, 0 + (j * 1 + 0), none⟩ rfl
        rw [addr_mk_add]
        show (match E.Φ _ with | some v => some v | none => New _) = _
        rw [hfalse]
        show (if _ ∧ _ ∧ _ then _ else _) = _
        rw [if_pos ⟨rfl, rfl, by simp; omega⟩]
        have := hw2cell j hj'
        simpa using this) (fun j i d c' hj hc' => by
        have hj' : j < ys.length := by have := (List.getElem?_eq_some_iff.1 hj).1; simpa using this
        simp only [List.getElem?_map, List.getElem?_eq_getElem hj', Option.map_some, Option.some.injEq] at hj
        subst hj
        cases i with
        | zero =>
          simp [Dat.cells] at hc'
          subst hc'
          rw [List.getD_eq_getElem?_getD, List.getElem?_eq_getElem hj']
          exact .int _ _
        | succ i => simp [Dat.cells] at hc')
    rw [List.length_map] at this
    exact .dat _ _ this
  rw [d3, wpOps_cons]
  have s3 : (15 : Nat) < a3.tmps.size := by omega
  generalize ha4 : a3.put (some 15) (.slice (some ⟨g, 0, none⟩) ys.length cap) = a4
  have q15 : a4.eval (.tmp 15) = .slice (some ⟨g, 0, none⟩) ys.length cap := by rw [← ha4, eval_put s3, if_pos rfl]
  refine wpOp_val (o := o4) (v := .slice (some ⟨g, 0, none⟩) ys.length cap) (w1 := w2) rfl g4 (by simp [execOp, h4, q15]) ?_
  rw [d4]
  have i12 := hI2.put (some 12) (p := .top) (v := .slice (some ⟨ab, ao, none⟩) order.length c) (.top _) (by simp [dstOk, hN])
  have i13 := i12.put (some 13) (p := .top) (v := .slice (some ⟨g, 0, none⟩) order.length cap) (.top _) (by rw [putT_size]; simp [dstOk, hN])
  have i14 := i13.put (some 14) (p := .top) (v := .func (.func fg) #[] #[.pointer (some ad6)]) (.top _) (by rw [putT_size, putT_size]; simp [dstOk, hN])
  have i15 := i14.put (some 15) (p := .top) (v := .slice (some ⟨g, 0, none⟩) ys.length cap) (.top _) (by rw [putT_size, putT_size, putT_size]; simp [dstOk, hN])
  have i11 := i15.put (some 11) hfin (by rw [putT_size, putT_size, putT_size, putT_size]; simp [dstOk, hN])
  have htm : (a4.put (some 11) (.slice (some ⟨g, 0, none⟩) ys.length cap)).tmps = putT (putT (putT (putT (putT a.tmps (some 12) (.slice (some ⟨ab, ao, none⟩) order.length c)) (some 13) (.slice (some ⟨g, 0, none⟩) order.length cap)) (some 14) (.func (.func fg) #[] #[.pointer (some ad6)])) (some 15) (.slice (some ⟨g, 0, none⟩) ys.length cap)) (some 11) (.slice (some ⟨g, 0, none⟩) ys.length cap) := by
    rw [put_tmps, ← ha4, put_tmps, ← ha3, put_tmps, ← ha2, put_tmps, ← ha1, put_tmps]
  refine ⟨.normal, _, E'', rfl, ?_, by rw [htm]; exact i11, by rw [htm, putT_size, putT_size, putT_size, putT_size, putT_size]; exact hN, ?_, ?_, ?_⟩
  · exact ⟨by simp [ASt.put, upd], by simp [ASt.put, upd], by simp [ASt.put, upd]⟩
  · rw [put_defers, ← ha4, put_defers, ← ha3, put_defers, ← ha2, put_defers, ← ha1, put_defers]; exact hd
  · refine ⟨?_, ?_, ?_, by rw [hw2size]; exact hB1.size, fun k hk => hold k (Nat.lt_of_lt_of_le hk hI.hb)⟩
    · rw [hw2]; exact hB1.os
    · rw [hw2]; exact hB1.tape
    · rw [hw2]; exact hB1.output
  · exact ⟨⟨hPhi0, hPsi0, fun x v h => (hPsi x v h).imp id (fun h => by rw [hNewb x v h]; exact Nat.le_trans hI.hb hgw), fun x v h => (hPhi x v h).imp id (fun h => by rw [hNewb x v h]; exact Nat.le_trans hI.hb hgw)⟩, Fr.sameOwn hold (by rw [hw2size]; exact hB1.size) rfl rfl⟩
end
end Go.Abs

/- The words that the loader writes: what the functions of bind compute, in plain Lean. -/
set_option linter.unusedVariables false
set_option linter.unusedSimpArgs false
namespace Go.Abs
open Go
structure Tgt where
  found : Bool
  thread : Bool
  code : Bool
  value : Int
def Tgt.enc (t : Tgt) : Dat := .agg [.bool t.found, .bool t.thread, .bool t.code, .int .i64 t.value]
def Tgt.none : Tgt := ⟨false, false, false, 0⟩
def wrapU (n : Int) : Int := IntKind.u32.wrap n
def orderOf (l : List Loaded) : List Int := walkF (needRows (imagesOf l))
def binderD (l : List Loaded) : Dat := .agg [.sl (l.map Loaded.enc), .sl ((imagesOf l).map Image.enc), intsD (orderOf l)]
def othersOf (order : List Int) (im : Int) : List Int := order.filter fun k => !decide (k = im)
def inRange (a : Int) (s : Segment) : Bool := decide (s.address ≤ a) && decide (a < W (s.address + s.size))
def execFrom (a : Int) : List Segment → Bool
  | [] => false
  | s :: ss => if inRange a s = true then !decide (andI s.rights 4 = 0) else execFrom a ss
def executableB (x : Image) (a : Int) : Bool := execFrom a x.segments
def foundAt (l : List Loaded) (im : Int) (m : Import) : Int × Int × Bool := lookupF (imagesOf l) m.name m.version (othersOf (orderOf l) im)
def targetAt (l : List Loaded) (bias : Int) (m : Import) (i e : Int) : Tgt := match l[i.toNat]? with
  | .none => Tgt.none
  | some y => match y.image.exports[e.toNat]? with
    | .none => Tgt.none
    | some x => if x.thread = true then ⟨true, true, false, W (y.thread + x.address)⟩ else if 0 ≤ m.copy then ⟨true, false, false, W (m.copy + bias)⟩ else ⟨true, false, executableB y.image x.address, W (x.address + y.bias)⟩
/-- y: the image im itself. -/
def targetOf (l : List Loaded) (im : Int) (y : Loaded) (m : Import) : Tgt := if (foundAt l im m).2.2 = true then targetAt l y.bias m (foundAt l im m).1 (foundAt l im m).2.1 else Tgt.none
def codeOf (im k : Int) : Int := W (983040 + W (4 * W (W (80 * im) + k)))
def shlU (x n : Int) : Int := IntKind.u32.wrap (x * 2 ^ min n.toNat 32)
def byteStep (a : Int) (i : Nat) (w : Int) (s : Segment) : Int := if 0 ≤ W (W (a + i) - s.address) ∧ W (W (a + i) - s.address) < s.data.length then orK .u32 w (shlU (wrapU (s.data.getD (W (W (a + i) - s.address)).toNat 0)) (W (8 * (i : Int)))) else w
def wordRow (x : Image) (a : Int) (w : Int) (i : Nat) : Int := x.segments.foldl (byteStep a i) w
def wordOf (x : Image) (a : Int) : Int := (List.range 4).foldl (wordRow x a) 0
def importAt (y : Loaded) (k : Int) : Import := match y.image.imports[k.toNat]? with
  | some m => m
  | .none => ⟨⟨#[]⟩, ⟨#[]⟩, false, 0, 0, 0⟩
def boundOf (y : Loaded) (f : Fixup) (word : Int) : Bound × Int := (⟨W (f.address + y.bias), word⟩, 0)
def fixOf (l : List Loaded) (im : Int) (y : Loaded) (f : Fixup) : Bound × Int :=
  if f.kind = 1 then boundOf y f (wrapU (wordOf y.image f.address + wrapU y.bias))
  else if f.kind = 4 then boundOf y f (wrapU (wordOf y.image f.address + wrapU y.thread))
  else if (targetOf l im y (importAt y f.imp)).found = false ∧ (importAt y f.imp).weak = false then (⟨0, 0⟩, 15)
  else if (targetOf l im y (importAt y f.imp)).found = true ∧ ¬ (targetOf l im y (importAt y f.imp)).thread = decide (f.kind = 3) then (⟨0, 0⟩, 8)
  else boundOf y f (wrapU (W ((targetOf l im y (importAt y f.imp)).value + f.addend)))
def slotOf (l : List Loaded) (im : Int) (y : Loaded) (k : Int) (m : Import) (lz : Bool) : Bound × Int :=
  if (targetOf l im y m).found = false ∧ m.weak = false then (⟨0, 0⟩, 15)
  else if (targetOf l im y m).thread = true then (⟨0, 0⟩, 8)
  else (⟨W (m.slot + y.bias), wrapU (if lz = true ∧ (targetOf l im y m).code = true then codeOf im k else (targetOf l im y m).value)⟩, 0)
def runSlot (l : List Loaded) (im : Int) (y : Loaded) (lz : Bool) : Nat → List Import → List Bound → List Bound × Fault
  | _, [], acc => (acc, Fault.ok)
  | k, m :: ms, acc => if m.slot < 0 then runSlot l im y lz (k + 1) ms acc else if (slotOf l im y k m lz).2 = 0 then runSlot l im y lz (k + 1) ms (acc ++ [(slotOf l im y k m lz).1]) else ([], ⟨(slotOf l im y k m lz).2, W (-20 - (k : Int))⟩)
def runFix (l : List Loaded) (im : Int) (y : Loaded) (lz : Bool) : Nat → List Fixup → List Bound → List Bound × Fault
  | _, [], acc => runSlot l im y lz 0 y.image.imports acc
  | k, f :: fs, acc => if (fixOf l im y f).2 = 0 then runFix l im y lz (k + 1) fs (acc ++ [(fixOf l im y f).1]) else ([], ⟨(fixOf l im y f).2, k⟩)
def allOf (l : List Loaded) (im : Int) (y : Loaded) (lz : Bool) : List Bound × Fault := runFix l im y lz 0 y.image.fixups []
def wordsF (l : List Loaded) (im : Int) (lz : Bool) : List Bound × Fault :=
  if ¬ loadedF l = Fault.ok then ([], loadedF l) else if im < 0 ∨ (l.length : Int) ≤ im then ([], ⟨3, -9⟩) else match l[im.toNat]? with
    | some y => allOf l im y lz
    | .none => ([], Fault.ok)
def oneF (l : List Loaded) (im k : Int) : Bound × Fault :=
  if ¬ loadedF l = Fault.ok then (⟨0, 0⟩, loadedF l) else if im < 0 ∨ (l.length : Int) ≤ im then (⟨0, 0⟩, ⟨3, -9⟩) else match l[im.toNat]? with
    | .none => (⟨0, 0⟩, ⟨3, -9⟩)
    | some y => if k < 0 ∨ (y.image.imports.length : Int) ≤ k then (⟨0, 0⟩, ⟨3, -9⟩) else if (importAt y k).slot < 0 then (⟨0, 0⟩, ⟨6, -2⟩) else if (slotOf l im y k (importAt y k) false).2 = 0 then ((slotOf l im y k (importAt y k) false).1, Fault.ok) else (⟨0, 0⟩, ⟨(slotOf l im y k (importAt y k) false).2, W (-20 - k)⟩)
theorem orderOf_facts {l : List Loaded} (h : loadedF l = Fault.ok) : orderOf l ≠ [] ∧ (orderOf l).length = l.length ∧ ∀ i ∈ orderOf l, 0 ≤ i ∧ i < l.length := by
  obtain ⟨hc, hbad, hm⟩ := loaded_all h
  obtain ⟨hc1, hc2, hc3⟩ := check_all hc
  rw [imagesOf_len] at hc1 hc2
  have hrow := needRows_ok hm
  have hlen := walk_len hrow
  have hn := walk_nice hrow _ (Nat.le_refl _)
  rw [needRows_len, imagesOf_len] at hlen
  refine ⟨?_, hlen, ?_⟩
  · intro e
    unfold orderOf at e
    rw [e] at hlen; simp at hlen; omega
  · intro i hi
    have := hn.2 i hi
    rw [needRows_len, imagesOf_len] at this
    exact this
end Go.Abs

/- What is found lies where it is said to lie. -/
set_option linter.unusedVariables false
set_option linter.unusedSimpArgs false
namespace Go.Abs
open Go
theorem exportOf_lt (x : Image) (nm v : Str) : exportOf x nm v < x.exports.length := by
  unfold exportOf
  split
  · exact (idx_lt _ _).2
  · exact (idx_lt _ _).2
theorem lookup_true {l : List Image} {nm v : Str} : ∀ {order : List Int} {i e : Int}, lookupF l nm v order = (i, e, true) → i ∈ order ∧ 0 ≤ e ∧ e = exportAt l i nm v
  | [], i, e, h => by simp [lookupF] at h
  | o :: os, i, e, h => by
    unfold lookupF at h
    split at h
    · rename_i h0
      simp only [Prod.mk.injEq] at h
      obtain ⟨rfl, rfl, _⟩ := h
      exact ⟨by simp, h0, rfl⟩
    · obtain ⟨h1, h2⟩ := lookup_true h
      exact ⟨List.mem_cons_of_mem _ h1, h2⟩
theorem found_at {l : List Loaded} (h : loadedF l = Fault.ok) {im : Int} {m : Import} {i e : Int} (hf : foundAt l im m = (i, e, true)) :
    0 ≤ i ∧ i < l.length ∧ 0 ≤ e ∧ ¬ i = im ∧ ∃ y x, l[i.toNat]? = some y ∧ y.image.exports[e.toNat]? = some x := by
  unfold foundAt at hf
  obtain ⟨h1, h2, h3⟩ := lookup_true hf
  have hmem := List.mem_filter.1 h1
  obtain ⟨g1, g2⟩ := (orderOf_facts h).2.2 i hmem.1
  have hy : i.toNat < l.length := by omega
  have hne : ¬ i = im := by have := hmem.2; simpa using this
  have hat : exportAt (imagesOf l) i m.name m.version = exportOf (l[i.toNat]'hy).image m.name m.version := by
    unfold exportAt imagesOf
    rw [List.getElem?_map, List.getElem?_eq_getElem hy]; rfl
  have hlt := exportOf_lt (l[i.toNat]'hy).image m.name m.version
  rw [← hat, ← h3] at hlt
  exact ⟨g1, g2, h2, hne, _, _, List.getElem?_eq_getElem hy, List.getElem?_eq_getElem (by omega)⟩
end Go.Abs

/- What checked images say of fixups and slots. -/
set_option linter.unusedVariables false
set_option linter.unusedSimpArgs false
namespace Go.Abs
open Go
theorem rangeMap_zero {α : Type} {l : List α} {f : Nat → Int} (h : ∀ c ∈ rangeMap l f, c = 0) : ∀ k, k < l.length → f k = 0 := by
  intro k hk
  exact h _ (by unfold rangeMap; simp only [List.mem_map, List.mem_range]; exact ⟨k, hk, rfl⟩)
theorem image_fixups {x : Image} (h : imageF x = Fault.ok) : x.fixups.length ≤ 600 ∧ ∀ k f, x.fixups[k]? = some f → fixupOne x (prev x.fixups k) f = 0 := by
  have h1 := each_all ((image_all h).2 (each 600 13 (rangeMap x.fixups (fixupCode x))) (by simp [bodyF]))
  refine ⟨by have := h1.1; simp [rangeMap] at this; omega, fun k f hk => ?_⟩
  have := rangeMap_zero h1.2 k (List.getElem?_eq_some_iff.1 hk).1
  unfold fixupCode at this
  rw [hk] at this
  exact this
theorem image_imports {x : Image} (h : imageF x = Fault.ok) : x.imports.length ≤ 80 ∧ ∀ (k : Nat) (m : Import), x.imports[k]? = some m → importOne x m = 0 := by
  have h1 := each_all ((image_all h).2 (each 80 12 (rangeMap x.imports (importCode x))) (by simp [bodyF]))
  refine ⟨by have := h1.1; simp [rangeMap] at this; omega, fun k m hk => ?_⟩
  have := rangeMap_zero h1.2 k (List.getElem?_eq_some_iff.1 hk).1
  unfold importCode at this
  rw [hk] at this
  exact this
theorem fixup_ok {x : Image} {p : Option Fixup} {f : Fixup} (h : fixupOne x p f = 0) : (f.kind = 1 ∨ f.kind = 4 ∨ 0 ≤ f.imp ∧ f.imp < x.imports.length) ∧ within x f.address 4 0 = true := by
  unfold fixupOne at h
  split at h
  · omega
  · rename_i h1
    split at h
    · omega
    · rename_i h2
      split at h
      · omega
      · rename_i h3
        refine ⟨by omega, ?_⟩
        cases hw : within x f.address 4 0
        · exact absurd (.inr (.inr hw)) h3
        · rfl
theorem import_ok {x : Image} {m : Import} (h : importOne x m = 0) (hs : 0 ≤ m.slot) : within x m.slot 4 2 = true := by
  unfold importOne at h
  split at h
  · omega
  · split at h
    · omega
    · split at h
      · omega
      · rename_i h3
        cases hw : within x m.slot 4 2
        · exact absurd ⟨hs, .inr hw⟩ h3
        · rfl
theorem loaded_image {l : List Loaded} (h : loadedF l = Fault.ok) {y : Loaded} (hy : y ∈ l) : imageF y.image = Fault.ok :=
  check_img (loaded_all h).1 (by simp only [imagesOf, List.mem_map]; exact ⟨y, hy, rfl⟩)
end Go.Abs

/- The laws of the words: plain facts. -/
set_option linter.unusedVariables false
set_option linter.unusedSimpArgs false
namespace Go.Abs
open Go
theorem both_words : wordsF bothI 0 false = ([⟨1024, 4608⟩], Fault.ok) := by decide +kernel
theorem both_words_lazy : wordsF bothI 0 true = ([⟨1024, 983040⟩], Fault.ok) := by decide +kernel
theorem both_one : oneF bothI 0 0 = (⟨1024, 4608⟩, Fault.ok) := by decide +kernel
theorem W_in {n : Int} (h1 : -9223372036854775808 ≤ n) (h2 : n ≤ 9223372036854775807) : W n = n := wrap_in h1 h2

/-! ### segments of a checked image -/
def SegIn (s : Segment) : Prop := 0 ≤ s.address ∧ 1 ≤ s.size ∧ s.address + s.size ≤ 1048576
theorem segsFrom_in : ∀ (e : Int) (k : Nat) (l : List Segment), segsFrom e k l = Fault.ok → ∀ s ∈ l, SegIn s
  | _, _, [], _, s, hs => by simp at hs
  | e, k, t :: ts, h, s, hs => by
    unfold segsFrom at h
    split at h
    · rename_i hc
      rcases List.mem_cons.1 hs with rfl | hs
      · unfold segCode at hc
        split at hc
        · omega
        · rename_i h1
          unfold SegIn; omega
      · exact segsFrom_in _ _ ts h s hs
    · rename_i hc
      rw [fault_ok] at h
      exact absurd h.1 hc
theorem image_segs {x : Image} (h : imageF x = Fault.ok) : ∀ s ∈ x.segments, SegIn s := by
  have hh := (image_all h).1
  have : segments x.segments = Fault.ok := by
    unfold headF at hh
    split at hh
    · rw [fault_ok] at hh; have := hh.1; simp at this
    · split at hh
      · rename_i h1; exact absurd hh h1
      · rename_i h1; simpa using h1
  unfold segments at this
  split at this
  · rw [fault_ok] at this; have := this.1; simp at this
  · exact segsFrom_in _ _ _ this
theorem within_mem {x : Image} {a z r : Int} (h : within x a z r = true) : ∃ s ∈ x.segments, inSeg a z r s = true := by
  unfold within at h
  rw [List.any_eq_true] at h
  exact h
/-- A word of four bytes in a segment. -/
def Lies (y : Loaded) (b : Bound) : Prop := ∃ s ∈ y.image.segments, s.address ≤ W (b.address - y.bias) ∧ W (b.address - y.bias) ≤ W (W (s.address + s.size) - 4)
theorem lies_of {y : Loaded} (hi : imageF y.image = Fault.ok) (hb : 0 ≤ y.bias ∧ y.bias < 1048576) {a r : Int} (h : within y.image a 4 r = true) (v : Int) : Lies y ⟨W (a + y.bias), v⟩ := by
  obtain ⟨s, hs, h1⟩ := within_mem h
  have hsi := image_segs hi s hs
  unfold SegIn at hsi
  unfold inSeg at h1
  simp only [Bool.and_eq_true, decide_eq_true_eq] at h1
  obtain ⟨⟨⟨_, h2⟩, h3⟩, h4⟩ := h1
  have e1 : W (s.address + s.size) = s.address + s.size := W_in (by omega) (by omega)
  have e2 : W (s.address + s.size - 4) = s.address + s.size - 4 := W_in (by omega) (by omega)
  rw [e1, e2] at h4
  have e3 : W (a + y.bias) = a + y.bias := W_in (by omega) (by omega)
  refine ⟨s, hs, ?_⟩
  rw [e1, e2]
  show s.address ≤ W (W (a + y.bias) - y.bias) ∧ W (W (a + y.bias) - y.bias) ≤ _
  rw [e3, show a + y.bias - y.bias = a by omega, W_in (by omega) (by omega)]
  exact ⟨h2, h4⟩
theorem fix_address {l : List Loaded} {im : Int} {y : Loaded} {f : Fixup} (h : (fixOf l im y f).2 = 0) : (fixOf l im y f).1.address = W (f.address + y.bias) := by
  unfold fixOf at *
  repeat' split at h
  all_goals first | (simp [*, boundOf]; done) | (simp at h; done)
theorem slot_address {l : List Loaded} {im : Int} {y : Loaded} {k : Int} {m : Import} {lz : Bool} (h : (slotOf l im y k m lz).2 = 0) : (slotOf l im y k m lz).1.address = W (m.slot + y.bias) := by
  unfold slotOf at *
  repeat' split at h
  all_goals first | (simp [*]; done) | (simp at h; done)
theorem runSlot_lies {l : List Loaded} {im : Int} {y : Loaded} {lz : Bool} (hi : imageF y.image = Fault.ok) (hb : 0 ≤ y.bias ∧ y.bias < 1048576) : ∀ (ms : List Import) (k : Nat) (acc : List Bound), (∀ m ∈ ms, importOne y.image m = 0) → (∀ b ∈ acc, Lies y b) → ∀ b ∈ (runSlot l im y lz k ms acc).1, Lies y b
  | [], k, acc, hm, ha => ha
  | m :: ms, k, acc, hm, ha => by
    unfold runSlot
    split
    · exact runSlot_lies hi hb ms (k + 1) acc (fun x hx => hm x (List.mem_cons_of_mem _ hx)) ha
    · rename_i hs
      split
      · rename_i hc
        refine runSlot_lies hi hb ms (k + 1) _ (fun x hx => hm x (List.mem_cons_of_mem _ hx)) ?_
        intro b hb'
        rcases List.mem_append.1 hb' with h | h
        · exact ha b h
        · simp only [List.mem_singleton] at h
          have hadr := slot_address hc
          have := lies_of hi hb (import_ok (hm m (by simp)) (by omega)) (slotOf l im y k m lz).1.value
          rw [← hadr] at this
          rw [h]; exact this
      · simp
theorem runFix_lies {l : List Loaded} {im : Int} {y : Loaded} {lz : Bool} (hi : imageF y.image = Fault.ok) (hb : 0 ≤ y.bias ∧ y.bias < 1048576) : ∀ (fs : List Fixup) (k : Nat) (acc : List Bound), (∀ f ∈ fs, within y.image f.address 4 0 = true) → (∀ b ∈ acc, Lies y b) → ∀ b ∈ (runFix l im y lz k fs acc).1, Lies y b
  | [], k, acc, hm, ha => by
    unfold runFix
    refine runSlot_lies hi hb _ _ _ (fun m hm => ?_) ha
    obtain ⟨j, hj⟩ := List.getElem?_of_mem hm
    exact (image_imports hi).2 j m hj
  | f :: fs, k, acc, hm, ha => by
    unfold runFix
    split
    · rename_i hc
      refine runFix_lies hi hb fs (k + 1) _ (fun x hx => hm x (List.mem_cons_of_mem _ hx)) ?_
      intro b hb'
      rcases List.mem_append.1 hb' with h | h
      · exact ha b h
      · simp only [List.mem_singleton] at h
        have hadr := fix_address hc
        have := lies_of hi hb (hm f (by simp)) (fixOf l im y f).1.value
        rw [← hadr] at this
        rw [h]; exact this
    · simp
theorem loaded_bias {l : List Loaded} (h : loadedF l = Fault.ok) {y : Loaded} (hy : y ∈ l) : 0 ≤ y.bias ∧ y.bias < 1048576 := by
  have := (loaded_all h).2.1 y hy
  unfold badLoaded at this
  omega
theorem allOf_lies {l : List Loaded} (h : loadedF l = Fault.ok) {im : Int} {y : Loaded} (hy : y ∈ l) (lz : Bool) : ∀ b ∈ (allOf l im y lz).1, Lies y b := by
  have hi := loaded_image h hy
  refine runFix_lies hi (loaded_bias h hy) _ _ _ (fun f hf => ?_) (by simp)
  obtain ⟨j, hj⟩ := List.getElem?_of_mem hf
  exact (fixup_ok ((image_fixups hi).2 j f hj)).2

/-! ### lazy and eager -/
/-- The eager word a and the lazy word b of one place. -/
def Pair (l : List Loaded) (im : Int) (y : Loaded) (a b : Bound) : Prop := a.address = b.address ∧ (a.value = b.value ∨ ∃ (k : Nat) (m : Import), y.image.imports[k]? = some m ∧ ¬ m.slot < 0 ∧ slotOf l im y k m false = (a, 0) ∧ b.value = wrapU (codeOf im k))
def Pairs (l : List Loaded) (im : Int) (y : Loaded) (us bs : List Bound) : Prop := us.length = bs.length ∧ ∀ (i : Nat) (a b : Bound), us[i]? = some a → bs[i]? = some b → Pair l im y a b
theorem Pairs.snoc {l : List Loaded} {im : Int} {y : Loaded} {us bs : List Bound} (h : Pairs l im y us bs) {a b : Bound} (hp : Pair l im y a b) : Pairs l im y (us ++ [a]) (bs ++ [b]) := by
  refine ⟨by simp [h.1], fun i x z hx hz => ?_⟩
  by_cases hi : i < us.length
  · rw [List.getElem?_append_left hi] at hx
    rw [List.getElem?_append_left (by rw [← h.1]; exact hi)] at hz
    exact h.2 i x z hx hz
  · rw [List.getElem?_append_right (by omega)] at hx
    rw [List.getElem?_append_right (by rw [← h.1]; omega), ← h.1] at hz
    have hi0 : i - us.length = 0 := by
      have := (List.getElem?_eq_some_iff.1 hx).1; simp at this; omega
    rw [hi0] at hx hz
    simp at hx hz
    subst hx; subst hz; exact hp
theorem runSlot_pairs {l : List Loaded} {im : Int} {y : Loaded} : ∀ (ms : List Import) (k : Nat) (us bs : List Bound), (∀ (j : Nat) (m : Import), ms[j]? = some m → y.image.imports[k + j]? = some m) → Pairs l im y us bs →
    (runSlot l im y false k ms us).2 = (runSlot l im y true k ms bs).2 ∧ Pairs l im y (runSlot l im y false k ms us).1 (runSlot l im y true k ms bs).1
  | [], k, us, bs, hm, hp => ⟨rfl, hp⟩
  | m :: ms, k, us, bs, hm, hp => by
    have hm' : ∀ (j : Nat) (x : Import), ms[j]? = some x → y.image.imports[k + 1 + j]? = some x := fun j x hx => by
      have := hm (j + 1) x (by simpa using hx)
      rw [show k + 1 + j = k + (j + 1) by omega]; exact this
    have hcode : (slotOf l im y k m true).2 = (slotOf l im y k m false).2 := by
      unfold slotOf; repeat' split
      all_goals rfl
    unfold runSlot
    by_cases hs : m.slot < 0
    · rw [if_pos hs, if_pos hs]
      exact runSlot_pairs ms (k + 1) us bs hm' hp
    · rw [if_neg hs, if_neg hs, hcode]
      by_cases hc : (slotOf l im y k m false).2 = 0
      · rw [if_pos hc, if_pos hc]
        refine runSlot_pairs ms (k + 1) _ _ hm' (hp.snoc ⟨?_, ?_⟩)
        · rw [slot_address hc, slot_address (by rw [hcode]; exact hc)]
        · have h0 := hm 0 m rfl
          by_cases hv : (targetOf l im y m).code = true
          · right
            refine ⟨k, m, by simpa using h0, hs, by rw [← hc], ?_⟩
            have hc2 : (slotOf l im y k m true).2 = 0 := by rw [hcode]; exact hc
            unfold slotOf at hc2 ⊢
            repeat' split at hc2
            all_goals first | (simp [*]; done) | (simp at hc2; done)
          · left
            unfold slotOf
            repeat' split
            all_goals first | rfl | (simp [hv]; done) | simp_all
      · rw [if_neg hc, if_neg hc]
        exact ⟨rfl, rfl, by simp⟩
theorem runFix_pairs {l : List Loaded} {im : Int} {y : Loaded} : ∀ (fs : List Fixup) (k : Nat) (us bs : List Bound), Pairs l im y us bs →
    (runFix l im y false k fs us).2 = (runFix l im y true k fs bs).2 ∧ Pairs l im y (runFix l im y false k fs us).1 (runFix l im y true k fs bs).1
  | [], k, us, bs, hp => by
    unfold runFix
    exact runSlot_pairs _ 0 us bs (fun j m h => by simpa using h) hp
  | f :: fs, k, us, bs, hp => by
    unfold runFix
    by_cases hc : (fixOf l im y f).2 = 0
    · rw [if_pos hc, if_pos hc]
      exact runFix_pairs fs (k + 1) _ _ (hp.snoc ⟨rfl, .inl rfl⟩)
    · rw [if_neg hc, if_neg hc]
      exact ⟨rfl, rfl, by simp⟩
theorem allOf_pairs (l : List Loaded) (im : Int) (y : Loaded) : (allOf l im y false).2 = (allOf l im y true).2 ∧ Pairs l im y (allOf l im y false).1 (allOf l im y true).1 := runFix_pairs _ 0 [] [] ⟨rfl, by simp⟩
theorem codeOf_in {im k : Nat} (h1 : im < 5) (h2 : k < 80) : codeOf im k = 983040 + 4 * (80 * im + k) := by
  unfold codeOf
  rw [W_in (n := 80 * (im : Int)) (by omega) (by omega), W_in (n := 80 * (im : Int) + k) (by omega) (by omega), W_in (n := 4 * (80 * (im : Int) + k)) (by omega) (by omega), W_in (by omega) (by omega)]
theorem wrapU_in {n : Int} (h1 : 0 ≤ n) (h2 : n < 4294967296) : wrapU n = n := by
  unfold wrapU IntKind.wrap; simp [IntKind.bits, IntKind.signed]; omega
theorem runSlot_good {l : List Loaded} {im : Int} {y : Loaded} {lz : Bool} : ∀ (ms : List Import) (k : Nat) (acc : List Bound), Good (runSlot l im y lz k ms acc).2
  | [], k, acc => good_ok
  | m :: ms, k, acc => by
    unfold runSlot
    repeat' split
    · exact runSlot_good ms _ _
    · exact runSlot_good ms _ _
    · rename_i h; exact good_mk h
theorem runFix_good {l : List Loaded} {im : Int} {y : Loaded} {lz : Bool} : ∀ (fs : List Fixup) (k : Nat) (acc : List Bound), Good (runFix l im y lz k fs acc).2
  | [], k, acc => runSlot_good _ _ _
  | f :: fs, k, acc => by
    unfold runFix
    repeat' split
    · exact runFix_good fs _ _
    · rename_i h; exact good_mk h
theorem runSlot_fail {l : List Loaded} {im : Int} {y : Loaded} {lz : Bool} : ∀ (ms : List Import) (k : Nat) (acc : List Bound), (runSlot l im y lz k ms acc).2 = Fault.ok ∨ (runSlot l im y lz k ms acc).1 = []
  | [], k, acc => .inl rfl
  | m :: ms, k, acc => by
    unfold runSlot
    repeat' split
    · exact runSlot_fail ms _ _
    · exact runSlot_fail ms _ _
    · exact .inr rfl
theorem runFix_fail {l : List Loaded} {im : Int} {y : Loaded} {lz : Bool} : ∀ (fs : List Fixup) (k : Nat) (acc : List Bound), (runFix l im y lz k fs acc).2 = Fault.ok ∨ (runFix l im y lz k fs acc).1 = []
  | [], k, acc => runSlot_fail _ _ _
  | f :: fs, k, acc => by
    unfold runFix
    repeat' split
    · exact runFix_fail fs _ _
    · exact .inr rfl
/-- What Words comes to. -/
theorem words_cases (l : List Loaded) (im : Int) : (∃ f : Fault, ¬ f.code = 0 ∧ ∀ lz, wordsF l im lz = ([], f)) ∨ (loadedF l = Fault.ok ∧ ∃ (ik : Nat) (y : Loaded), im = ik ∧ l[ik]? = some y ∧ ∀ lz, wordsF l im lz = allOf l im y lz) := by
  unfold wordsF
  by_cases h : loadedF l = Fault.ok
  · by_cases hin : im < 0 ∨ (l.length : Int) ≤ im
    · refine .inl ⟨⟨3, -9⟩, by simp, fun lz => ?_⟩
      rw [if_neg (by simp [h]), if_pos hin]
    · refine .inr ⟨h, im.toNat, l[im.toNat]'(by omega), by omega, List.getElem?_eq_getElem (by omega), fun lz => ?_⟩
      rw [if_neg (by simp [h]), if_neg hin, List.getElem?_eq_getElem (by omega)]
  · refine .inl ⟨loadedF l, ?_, fun lz => by rw [if_pos h]⟩
    rcases good_loaded l with g | g
    · exact absurd g h
    · exact g
theorem runSlot_len {l : List Loaded} {im : Int} {y : Loaded} {lz : Bool} : ∀ (ms : List Import) (k : Nat) (acc : List Bound), (runSlot l im y lz k ms acc).1.length ≤ acc.length + ms.length
  | [], k, acc => by simp [runSlot]
  | m :: ms, k, acc => by
    unfold runSlot
    repeat' split
    · have := runSlot_len (l := l) (im := im) (y := y) (lz := lz) ms (k + 1) acc; simp; omega
    · have := runSlot_len (l := l) (im := im) (y := y) (lz := lz) ms (k + 1) (acc ++ [(slotOf l im y k m lz).1]); simp at this ⊢; omega
    · simp
theorem runFix_len {l : List Loaded} {im : Int} {y : Loaded} {lz : Bool} : ∀ (fs : List Fixup) (k : Nat) (acc : List Bound), (runFix l im y lz k fs acc).1.length ≤ acc.length + fs.length + y.image.imports.length
  | [], k, acc => by
    have := runSlot_len (l := l) (im := im) (y := y) (lz := lz) y.image.imports 0 acc
    unfold runFix; simp; omega
  | f :: fs, k, acc => by
    unfold runFix
    repeat' split
    · have := runFix_len (l := l) (im := im) (y := y) (lz := lz) fs (k + 1) (acc ++ [(fixOf l im y f).1]); simp at this ⊢; omega
    · simp
theorem allOf_len {l : List Loaded} (h : loadedF l = Fault.ok) {im : Int} {y : Loaded} (hy : y ∈ l) (lz : Bool) : (allOf l im y lz).1.length ≤ 680 := by
  have hi := loaded_image h hy
  have h1 := (image_fixups hi).1
  have h2 := (image_imports hi).1
  have := runFix_len (l := l) (im := im) (y := y) (lz := lz) y.image.fixups 0 []
  unfold allOf
  simp at this
  omega
end Go.Abs

/- Helps for the references. -/
set_option linter.unusedVariables false
set_option linter.unusedSimpArgs false
namespace Go.Abs
open Go
def inB (n lo hi : Int) : Bool := decide (lo ≤ n) && decide (n ≤ hi)
theorem inB_true {n lo hi : Int} : inB n lo hi = true ↔ lo ≤ n ∧ n ≤ hi := by simp [inB]
theorem inB_false {n lo hi : Int} : inB n lo hi = false ↔ n < lo ∨ hi < n := by simp [inB]; omega
theorem within_in {i : Image} {a z r : Int} (hs : ∀ s ∈ i.segments, SegIn s) (hz : 0 ≤ z) (h : within i a z r = true) : 0 ≤ a ∧ a + z ≤ 1048576 := by
  obtain ⟨s, hm, h1⟩ := within_mem h
  have hsi := hs s hm
  unfold SegIn at hsi
  unfold inSeg at h1
  simp only [Bool.and_eq_true, decide_eq_true_eq] at h1
  obtain ⟨⟨⟨_, h2⟩, h3⟩, h4⟩ := h1
  rw [W_in (n := s.address + s.size) (by omega) (by omega), W_in (by omega) (by omega)] at h4
  omega
theorem bytesLess_self : ∀ l : List UInt8, Op.bytesLess l l = false
  | [] => rfl
  | c :: cs => by simp [Op.bytesLess, bytesLess_self cs]
theorem lessS_self (s : Str) : lessS s s = false := bytesLess_self _
theorem cmpExports_nn (a b : Export) : 0 ≤ cmpExports a b ↔ lessS a.name b.name = false ∧ (¬ a.name = b.name ∨ lessS a.version b.version = false) := by
  unfold cmpExports cmpS
  cases h1 : lessS a.name b.name <;> by_cases h2 : a.name = b.name <;> cases h3 : lessS a.version b.version <;> by_cases h4 : a.version = b.version <;> simp [orI, h1, h2, h3, h4]
theorem cmpVariables_lt (a b : Variable) : cmpVariables a b < 0 ↔ if ¬ a.address = b.address then a.address < b.address else if ¬ a.name = b.name then lessS a.name b.name = true else a.type < b.type := by
  unfold cmpVariables cmpS cmpI
  by_cases e1 : a.address < b.address
  · have : ¬ a.address = b.address := by omega
    simp [orI, e1, this]
  · by_cases e2 : b.address < a.address
    · have : ¬ a.address = b.address := by omega
      simp [orI, e1, e2, this]
    · have e3 : a.address = b.address := by omega
      by_cases h2 : a.name = b.name
      · by_cases e4 : a.type < b.type <;> by_cases e5 : b.type < a.type <;> simp [orI, e3, h2, e4, e5, lessS_self] <;> omega
      · cases h1 : lessS a.name b.name <;> simp [orI, e3, h1, h2]
end Go.Abs

/- The references: the lists of an image. -/
set_option linter.unusedVariables false
set_option linter.unusedSimpArgs false
namespace Go.Abs
open Go
def codeAt {α : Type} (l : List α) (f : α → Int) (k : Nat) : Int := match l[k]? with
  | some a => f a
  | none => 0
theorem map_range {α : Type} (l : List α) (f : α → Int) : l.map f = (List.range l.length).map (codeAt l f) := by
  apply List.ext_getElem
  · simp
  · intro k h1 h2
    simp at h1 h2
    simp [codeAt, h1]
def lenAt (i : Image) : Nat → Nat
  | 0 => i.exports.length
  | 1 => i.imports.length
  | 2 => i.fixups.length
  | 3 => i.inits.length
  | 4 => i.finis.length
  | 5 => i.needs.length
  | 6 => i.files.length
  | 7 => i.lines.length
  | 8 => i.unwind.length
  | 10 => i.variables.length
  | _ => i.places.length
def mostAt : Nat → Int
  | 0 => 200
  | 1 => 80
  | 2 => 600
  | 3 => 60
  | 4 => 60
  | 5 => 5
  | 6 => 64
  | 7 => 2000
  | 8 => 2000
  | 10 => 500
  | _ => 200
def elemAt (i : Image) : Nat → Nat → Int
  | 0 => exportCode i
  | 1 => importCode i
  | 2 => fixupCode i
  | 3 => codeAt i.inits (funcCode i)
  | 4 => codeAt i.finis (funcCode i)
  | 5 => codeAt i.needs nameCode
  | 6 => codeAt i.files nameCode
  | 7 => lineCode i
  | 8 => unwindCode i
  | 10 => variableCode i
  | _ => placeCode i
def listAt (i : Image) (m : Nat) : Fault := if m = 9 then typesIn i.types else each (mostAt m) (11 + m) ((List.range (lenAt i m)).map (elemAt i m))
theorem bodyF_eq (i : Image) : bodyF i = (List.range 12).map (listAt i) := by
  have e : List.range 12 = [0, 1, 2, 3, 4, 5, 6, 7, 8, 9, 10, 11] := by decide
  unfold bodyF
  rw [e, map_range i.inits, map_range i.finis, map_range i.needs, map_range i.files]
  simp [listAt, rangeMap, lenAt, mostAt, elemAt]
theorem most_le (m : Nat) : mostAt m ≤ 2000 := by
  unfold mostAt; split <;> omega
theorem places_ok {x : Image} {p : Option PlaceR} {v : PlaceR} (h : placeOne x p v = 0) : 1 ≤ v.size ∧ within x v.address v.size 0 = true := by
  unfold placeOne at h
  split at h
  · omega
  · split at h
    · omega
    · rename_i h1
      refine ⟨by omega, ?_⟩
      cases hw : within x v.address v.size 0
      · exact absurd (Or.inr hw) h1
      · rfl
theorem fixup_prev {x : Image} (hs : ∀ s ∈ x.segments, SegIn s) {k : Nat} (h : ∀ j, j < k → fixupCode x j = 0) : ∀ b, prev x.fixups k = some b → 0 ≤ b.address ∧ b.address ≤ 1048576 := by
  intro b hb
  obtain ⟨j, rfl, hj⟩ := prev_some hb
  have := h j (by omega)
  unfold fixupCode at this
  rw [hj] at this
  have := within_in hs (by omega) (fixup_ok this).2
  omega
theorem place_prev {x : Image} (hs : ∀ s ∈ x.segments, SegIn s) {k : Nat} (h : ∀ j, j < k → placeCode x j = 0) : ∀ b, prev x.places k = some b → 0 ≤ b.address ∧ 1 ≤ b.size ∧ b.address + b.size ≤ 1048576 := by
  intro b hb
  obtain ⟨j, rfl, hj⟩ := prev_some hb
  have := h j (by omega)
  unfold placeCode at this
  rw [hj] at this
  have h1 := places_ok this
  have := within_in hs (by omega) h1.2
  omega
end Go.Abs

/- The references: exports that fit, the order of initialization: plain facts. -/
set_option linter.unusedVariables false
set_option linter.unusedSimpArgs false
namespace Go.Abs
open Go
/-! ### exports -/
def fitN (nm v : Str) (e : Export) : Int := if fitExact nm v e then 2 else if fitLoose nm v e then 1 else 0
/-- b is the best among the exports from place k on. -/
def BestAt (nm v : Str) (xs : List Export) (k : Nat) (b : Int) : Prop :=
  (b = -1 ∧ ∀ (j : Nat) y, k ≤ j → xs[j]? = some y → fitN nm v y = 0) ∨
  (∃ (j : Nat) (y : Export), b = j ∧ k ≤ j ∧ xs[j]? = some y ∧ fitN nm v y = 2 ∧ ∀ (i : Nat) z, k ≤ i → i < j → xs[i]? = some z → ¬ fitN nm v z = 2) ∨
  (∃ (j : Nat) (y : Export), b = j ∧ k ≤ j ∧ xs[j]? = some y ∧ fitN nm v y = 1 ∧ (∀ (i : Nat) z, k ≤ i → i < j → xs[i]? = some z → fitN nm v z = 0) ∧ ∀ (i : Nat) z, k ≤ i → xs[i]? = some z → ¬ fitN nm v z = 2)
theorem fitN_cases (nm v : Str) (e : Export) : fitN nm v e = 0 ∨ fitN nm v e = 1 ∨ fitN nm v e = 2 := by
  unfold fitN; split
  · simp
  · split <;> simp
theorem fitN_two {nm v : Str} {e : Export} : fitN nm v e = 2 ↔ fitExact nm v e = true := by
  unfold fitN; split
  · simp_all
  · split <;> simp_all
theorem best_end (nm v : Str) (xs : List Export) {k : Nat} (hk : xs.length ≤ k) : BestAt nm v xs k (-1) := by
  refine .inl ⟨rfl, fun j y hj hy => ?_⟩
  have := (List.getElem?_eq_some_iff.1 hy).1
  omega
theorem best_keep {nm v : Str} {xs : List Export} {k : Nat} {b : Int} {x : Export} (h : BestAt nm v xs (k + 1) b) (hx : xs[k]? = some x) (h0 : fitN nm v x = 0) : BestAt nm v xs k b := by
  have at_ : ∀ (i : Nat) z, k ≤ i → xs[i]? = some z → (i = k ∧ z = x) ∨ k + 1 ≤ i := by
    intro i z hi hz
    by_cases e : i = k
    · subst e; rw [hx] at hz; injection hz with hz; exact .inl ⟨rfl, hz.symm⟩
    · exact .inr (by omega)
  rcases h with ⟨hb, h⟩ | ⟨j, y, hb, hj, hy, h2, h⟩ | ⟨j, y, hb, hj, hy, h1, h, h3⟩
  · refine .inl ⟨hb, fun i z hi hz => ?_⟩
    rcases at_ i z hi hz with ⟨_, rfl⟩ | hi2
    · exact h0
    · exact h i z hi2 hz
  · refine .inr (.inl ⟨j, y, hb, by omega, hy, h2, fun i z hi hij hz => ?_⟩)
    rcases at_ i z hi hz with ⟨_, rfl⟩ | hi2
    · omega
    · exact h i z hi2 hij hz
  · refine .inr (.inr ⟨j, y, hb, by omega, hy, h1, fun i z hi hij hz => ?_, fun i z hi hz => ?_⟩)
    · rcases at_ i z hi hz with ⟨_, rfl⟩ | hi2
      · exact h0
      · exact h i z hi2 hij hz
    · rcases at_ i z hi hz with ⟨_, rfl⟩ | hi2
      · omega
      · exact h3 i z hi2 hz
theorem best_get {nm v : Str} {xs : List Export} {k : Nat} {b : Int} (h : BestAt nm v xs k b) (hb : ¬ b < 0) : ∃ (j : Nat) (y : Export), b = j ∧ k ≤ j ∧ xs[j]? = some y ∧ 0 < fitN nm v y := by
  rcases h with ⟨hb2, h⟩ | ⟨j, y, hb2, hj, hy, h2, h⟩ | ⟨j, y, hb2, hj, hy, h1, h, h3⟩
  · omega
  · exact ⟨j, y, hb2, hj, hy, by omega⟩
  · exact ⟨j, y, hb2, hj, hy, by omega⟩
/-- The export at k takes the place. -/
theorem best_take {nm v : Str} {xs : List Export} {k : Nat} {b : Int} {x : Export} (h : BestAt nm v xs (k + 1) b) (hx : xs[k]? = some x) (h0 : ¬ fitN nm v x = 0)
    (hb : b < 0 ∨ ∃ (j : Nat) (y : Export), b = j ∧ xs[j]? = some y ∧ fitN nm v y ≤ fitN nm v x) : BestAt nm v xs k k := by
  rcases fitN_cases nm v x with g | g | g
  · exact absurd g h0
  · refine .inr (.inr ⟨k, x, rfl, Nat.le_refl _, hx, g, fun i z hi hik => by omega, fun i z hi hz => ?_⟩)
    by_cases e : i = k
    · subst e; rw [hx] at hz; injection hz with hz; subst hz; omega
    · rcases h with ⟨hb2, h⟩ | ⟨j, y, hb2, hj, hy, h2, h⟩ | ⟨j, y, hb2, hj, hy, h1, h, h3⟩
      · have := h i z (by omega) hz; omega
      · exfalso
        rcases hb with hb | ⟨j', y', hb3, hy', hle⟩
        · omega
        · have : j' = j := by omega
          subst this
          rw [hy] at hy'; injection hy' with hy'; subst hy'; omega
      · exact h3 i z (by omega) hz
  · exact .inr (.inl ⟨k, x, rfl, Nat.le_refl _, hx, g, fun i z hi hik => by omega⟩)
/-- The one that stood fits better. -/
theorem best_stay {nm v : Str} {xs : List Export} {k j : Nat} {b : Int} {x y : Export} (h : BestAt nm v xs (k + 1) b) (hx : xs[k]? = some x) (hb : b = j) (hy : xs[j]? = some y) (hlt : fitN nm v x < fitN nm v y) : BestAt nm v xs k b := by
  by_cases h0 : fitN nm v x = 0
  · exact best_keep h hx h0
  · have hx1 : fitN nm v x = 1 := by rcases fitN_cases nm v x with g | g | g <;> rcases fitN_cases nm v y with g' | g' | g' <;> omega
    have hy2 : fitN nm v y = 2 := by rcases fitN_cases nm v y with g' | g' | g' <;> omega
    rcases h with ⟨hb2, h⟩ | ⟨j2, y2, hb2, hj, hy', h2, h⟩ | ⟨j2, y2, hb2, hj, hy', h1, h, h3⟩
    · omega
    · refine .inr (.inl ⟨j2, y2, hb2, by omega, hy', h2, fun i z hi hij hz => ?_⟩)
      by_cases e : i = k
      · subst e; rw [hx] at hz; injection hz with hz; subst hz; omega
      · exact h i z (by omega) hij hz
    · exfalso
      have : j2 = j := by omega
      subst this
      exact h3 j2 y hj hy hy2
theorem best_zero {nm v : Str} {x : Image} {b : Int} (h : BestAt nm v x.exports 0 b) : b = exportOf x nm v := by
  have e2 : ∀ y : Export, ¬ fitN nm v y = 2 → fitExact nm v y = false := fun y hy => by
    cases hh : fitExact nm v y
    · rfl
    · exact absurd (fitN_two.2 hh) hy
  unfold exportOf
  rcases h with ⟨hb, h⟩ | ⟨j, y, hb, hj, hy, h2, h⟩ | ⟨j, y, hb, hj, hy, h1, h, h3⟩
  · have q1 : idx (fitExact nm v) x.exports = -1 := idx_none fun j y hy => e2 y (by rw [h j y (by omega) hy]; omega)
    have q2 : idx (fitLoose nm v) x.exports = -1 := idx_none fun j y hy => by
      have h4 := h j y (by omega) hy
      have h5 := e2 y (by omega)
      unfold fitN at h4
      rw [h5] at h4
      cases hl : fitLoose nm v y
      · rfl
      · rw [hl] at h4; simp at h4
    rw [q1, q2, hb]; simp
  · have q1 : idx (fitExact nm v) x.exports = j := idx_some hy (fitN_two.1 h2) (fun i z hi hz => e2 z (h i z (by omega) hi hz))
    rw [q1, if_pos (by omega)]; exact hb
  · have q1 : idx (fitExact nm v) x.exports = -1 := idx_none fun i z hz => e2 z (h3 i z (by omega) hz)
    have q2 : idx (fitLoose nm v) x.exports = j := idx_some hy (by
      unfold fitN at h1
      rw [e2 y (by unfold fitN; omega)] at h1
      cases hl : fitLoose nm v y
      · rw [hl] at h1; simp at h1
      · rfl) (fun i z hi hz => by
      have h4 := h i z (by omega) hi hz
      have h5 := e2 z (by omega)
      unfold fitN at h4
      rw [h5] at h4
      cases hl : fitLoose nm v z
      · rfl
      · rw [hl] at h4; simp at h4)
    rw [q1, q2, if_neg (by omega)]; exact hb

/-! ### the order of initialization -/
theorem pick_ready {needs : List (List Int)} {out : List Int} {j : Nat} (hd : hasI out j = false) (hr : readyB needs out j = true) : ∀ (n i : Nat) (w : Int), i ≤ j → j < i + n → (∀ m : Nat, i ≤ m → m < j → hasI out m = true ∨ readyB needs out m = false) → pickFrom needs out n i w = j
  | 0, i, w, h1, h2, _ => by omega
  | n + 1, i, w, h1, h2, h => by
    by_cases e : i = j
    · subst e; exact pick_step_ready hd hr
    · have ih := fun w => pick_ready hd hr n (i + 1) w (by omega) (by omega) (fun m h3 h4 => h m (by omega) h4)
      cases hdi : hasI out (i : Int)
      · have hri : readyB needs out i = false := (h i (Nat.le_refl _) (by omega)).resolve_left (by simp [hdi])
        rw [pick_step_not hdi hri]; exact ih _
      · rw [pick_step_done hdi]; exact ih _
theorem pick_none {needs : List (List Int)} {out : List Int} : ∀ (n i : Nat) (w : Int), 0 ≤ w → (∀ m : Nat, i ≤ m → m < i + n → hasI out m = true ∨ readyB needs out m = false) → pickFrom needs out n i w = w
  | 0, i, w, h1, _ => rfl
  | n + 1, i, w, h1, h => by
    have ih := pick_none n (i + 1) w h1 (fun m h3 h4 => h m (by omega) (by omega))
    cases hdi : hasI out (i : Int)
    · have hri : readyB needs out i = false := (h i (Nat.le_refl _) (by omega)).resolve_left (by simp [hdi])
      rw [pick_step_not hdi hri, if_neg (by omega)]; exact ih
    · rw [pick_step_done hdi]; exact ih
theorem pick_first {needs : List (List Int)} {out : List Int} {j : Nat} (hd : hasI out j = false) : ∀ (n i : Nat) (w : Int), w < 0 → i ≤ j → j < i + n → (∀ m : Nat, i ≤ m → m < j → hasI out m = true) → (∀ m : Nat, i ≤ m → m < i + n → hasI out m = true ∨ readyB needs out m = false) → pickFrom needs out n i w = j
  | 0, i, w, _, h1, h2, _, _ => by omega
  | n + 1, i, w, hw, h1, h2, h, hn => by
    by_cases e : i = j
    · subst e
      have hri : readyB needs out i = false := (hn i (Nat.le_refl _) (by omega)).resolve_left (by simp [hd])
      rw [pick_step_not hd hri, if_pos hw]
      exact pick_none n (i + 1) i (by omega) (fun m h3 h4 => hn m (by omega) (by omega))
    · rw [pick_step_done (h i (Nat.le_refl _) (by omega))]
      exact pick_first hd n (i + 1) w hw (by omega) (by omega) (fun m h3 h4 => h m (by omega) h4) (fun m h3 h4 => hn m (by omega) (by omega))

/-! ### the order of search -/
def walkUp (needs : List (List Int)) (k : Nat) : List Int := (List.range k).foldl (walkRoot needs) []
theorem walkUp_succ (needs : List (List Int)) (k : Nat) : walkUp needs (k + 1) = walkRoot needs (walkUp needs k) k := by unfold walkUp; rw [List.range_succ, List.foldl_append]; rfl
theorem walkUp_mem (needs : List (List Int)) : ∀ (k j : Nat), j < k → (j : Int) ∈ walkUp needs k
  | 0, j, h => by omega
  | k + 1, j, h => by
    rw [walkUp_succ]
    by_cases e : j = k
    · subst e; exact walkRoot_mem needs _ _
    · exact (walkRoot_pre needs _ _).subset (walkUp_mem needs k j (by omega))
theorem walkUp_skip (needs : List (List Int)) {out : List Int} : ∀ (m r : Nat), out = walkUp needs r → (∀ j : Nat, r ≤ j → j < r + m → (j : Int) ∈ out) → walkUp needs (r + m) = out
  | 0, r, h, _ => h.symm
  | m + 1, r, h, hj => by
    have ih := walkUp_skip needs m r h (fun j h1 h2 => hj j h1 (by omega))
    rw [show r + (m + 1) = r + m + 1 by omega, walkUp_succ, ih]
    unfold walkRoot
    rw [if_pos (hasI_iff.2 (hj (r + m) (by omega) (by omega)))]
/-- The first root that is missing. -/
theorem walkUp_root (needs : List (List Int)) {out : List Int} {r root : Nat} (h : out = walkUp needs r) (hp : ∀ j : Nat, j < root → (j : Int) ∈ out) (hn : hasI out root = false) : walkUp needs root = out := by
  have hle : r ≤ root := by
    refine Classical.byContradiction fun hlt => ?_
    have := walkUp_mem needs r root (by omega)
    rw [← h] at this
    exact (hasI_false.1 hn) this
  have := walkUp_skip needs (root - r) r h (fun j h1 h2 => hp j (by omega))
  rwa [show r + (root - r) = root by omega] at this
theorem walkUp_next (needs : List (List Int)) {out : List Int} {root : Nat} (h : walkUp needs root = out) (hn : hasI out root = false) : walkUp needs (root + 1) = bfs needs (needs.length + 1) out.length (out ++ [(root : Int)]) := by
  rw [walkUp_succ, h]; unfold walkRoot; rw [if_neg (by simp [hn])]
theorem walkUp_end {needs : List (List Int)} (hrow : ∀ row ∈ needs, ∀ v ∈ row, 0 ≤ v ∧ v < needs.length) {out : List Int} {r : Nat} (h : out = walkUp needs r) (hr : r ≤ needs.length) (hl : needs.length ≤ out.length) : out = walkF needs := by
  have h1 := walk_pre needs (needs.length - r) r
  rw [show r + (needs.length - r) = needs.length by omega] at h1
  have h2 : out <+: walkF needs := by rw [h]; exact h1
  have h3 := walk_len hrow
  exact h2.eq_of_length (by have := h2.length_le; omega)
theorem nice_missing {n : Nat} {out : List Int} (h : out.length < n) : ∃ r : Nat, r < n ∧ hasI out r = false := by
  refine Classical.byContradiction fun hno => ?_
  have := cover_len n out (fun r hr => by
    rw [← hasI_iff]
    cases hh : hasI out (r : Int)
    · exact absurd ⟨r, hr, hh⟩ hno
    · rfl)
  omega
/-! ### the order of initialization, by passes -/
def rowOk (out : List Int) (i : Int) (row : List Int) : Bool := row.all fun k => decide (k = i) || hasI out k
theorem ready_rowOk {needs : List (List Int)} {out row : List Int} {i : Nat} (h : needs[i]? = some row) : readyB needs out i = rowOk out i row := by
  unfold readyB rowOk
  rw [h]
  simp only
  clear h
  induction row with
  | nil => rfl
  | cons a t ih => simp only [List.any_cons, List.all_cons, Bool.not_or, ih]; simp
def passB (needs : List (List Int)) (out : List Int) (p : Nat) (i : Nat) : Bool := !hasI out i && (decide (p ≠ 0) || readyB needs out i)
/-- b is the first place from k on where R holds, or -1. -/
def FirstAt (R : Nat → Bool) (n k : Nat) (b : Int) : Prop :=
  (b = -1 ∧ ∀ j, k ≤ j → j < n → R j = false) ∨ ∃ j : Nat, b = j ∧ k ≤ j ∧ j < n ∧ R j = true ∧ ∀ i, k ≤ i → i < j → R i = false
theorem firstAt_end (R : Nat → Bool) (n : Nat) : FirstAt R n n (-1) := .inl ⟨rfl, fun j h1 h2 => by omega⟩
theorem firstAt_yes {R : Nat → Bool} {n k : Nat} (hk : k < n) (h : R k = true) : FirstAt R n k k := .inr ⟨k, rfl, Nat.le_refl _, hk, h, fun i h1 h2 => by omega⟩
theorem firstAt_no {R : Nat → Bool} {n k : Nat} {b : Int} (hb : FirstAt R n (k + 1) b) (h : R k = false) : FirstAt R n k b := by
  have key : ∀ j, k ≤ j → j = k ∨ k + 1 ≤ j := fun j hj => by omega
  rcases hb with ⟨rfl, g⟩ | ⟨j, rfl, h1, h2, h3, h4⟩
  · refine .inl ⟨rfl, fun j h1 h2 => ?_⟩
    rcases key j h1 with rfl | h3
    · exact h
    · exact g j h3 h2
  · refine .inr ⟨j, rfl, by omega, h2, h3, fun i h5 h6 => ?_⟩
    rcases key i h5 with rfl | h7
    · exact h
    · exact h4 i h7 h6
theorem pass_zero {needs : List (List Int)} {out : List Int} {b : Int} (h : FirstAt (passB needs out 0) needs.length 0 b) (hb : ¬ b < 0) : b = pick needs out := by
  rcases h with ⟨rfl, _⟩ | ⟨j, rfl, _, h2, h3, h4⟩
  · omega
  · unfold passB at h3 h4
    simp at h3 h4
    unfold pick
    rw [pick_ready h3.1 h3.2 needs.length 0 (-1) (by omega) (by omega) (fun m _ h6 => ?_)]
    have := h4 m h6
    cases hh : hasI out (m : Int)
    · exact .inr (this hh)
    · exact .inl rfl
theorem pass_one {needs : List (List Int)} {out : List Int} {b c : Int} (h0 : FirstAt (passB needs out 0) needs.length 0 c) (hc : c < 0) (h : FirstAt (passB needs out 1) needs.length 0 b) (hm : ∃ r : Nat, r < needs.length ∧ hasI out r = false) : b = pick needs out := by
  obtain ⟨r, hr1, hr2⟩ := hm
  have hn : ∀ m : Nat, 0 ≤ m → m < 0 + needs.length → hasI out m = true ∨ readyB needs out m = false := by
    rcases h0 with ⟨_, g⟩ | ⟨j, rfl, _, _, _, _⟩
    · intro m _ hm
      have := g m (by omega) (by omega)
      unfold passB at this
      simp at this
      cases hh : hasI out (m : Int)
      · exact .inr (this hh)
      · exact .inl rfl
    · omega
  rcases h with ⟨rfl, g⟩ | ⟨j, rfl, _, h2, h3, h4⟩
  · have := g r (by omega) hr1
    unfold passB at this
    simp [hr2] at this
  · unfold passB at h3 h4
    simp at h3 h4
    unfold pick
    rw [pick_first h3 needs.length 0 (-1) (by omega) (by omega) (by omega) (fun m _ h6 => by simpa using h4 m h6) hn]
end Go.Abs

/- The references: bytes and words of an image, code: plain facts. -/
set_option linter.unusedVariables false
set_option linter.unusedSimpArgs false
namespace Go.Abs
open Go
def SegOk (s : Segment) : Prop := SegIn s ∧ 1 ≤ s.rights ∧ s.rights ≤ 7 ∧ (s.data.length : Int) ≤ s.size
theorem up256_le {n : Int} (h : 0 ≤ n) : n ≤ up256 n := by unfold up256; omega
theorem segsFrom_ok : ∀ (e : Int) (k : Nat) (l : List Segment), segsFrom e k l = Fault.ok → (∀ s ∈ l, SegOk s ∧ e ≤ s.address) ∧ l.Pairwise (fun a b => a.address + a.size ≤ b.address)
  | _, _, [], _ => ⟨by simp, List.Pairwise.nil⟩
  | e, k, t :: ts, h => by
    unfold segsFrom at h
    split at h
    · rename_i hc
      have ht : SegOk t ∧ e ≤ t.address := by
        unfold segCode at hc
        repeat' split at hc
        all_goals first | omega | (unfold SegOk SegIn; omega)
      obtain ⟨i1, i2⟩ := segsFrom_ok _ _ ts h
      have hup : t.address + t.size ≤ up256 (t.address + t.size) := up256_le (by have := ht.1.1; unfold SegIn at this; omega)
      refine ⟨fun s hs => ?_, List.Pairwise.cons (fun s hs => by have := (i1 s hs).2; omega) i2⟩
      rcases List.mem_cons.1 hs with rfl | hs
      · exact ht
      · have := i1 s hs
        refine ⟨this.1, ?_⟩
        have hsi := ht.1.1; unfold SegIn at hsi
        omega
    · rename_i hc
      rw [fault_ok] at h
      exact absurd h.1 hc
theorem image_segOk {x : Image} (h : imageF x = Fault.ok) : (∀ s ∈ x.segments, SegOk s) ∧ x.segments.Pairwise (fun a b => a.address + a.size ≤ b.address) := by
  have hh := (image_all h).1
  have : segments x.segments = Fault.ok := by
    unfold headF at hh
    split at hh
    · rw [fault_ok] at hh; have := hh.1; simp at this
    · split at hh
      · rename_i h1; exact absurd hh h1
      · rename_i h1; simpa using h1
  unfold segments at this
  split at this
  · rw [fault_ok] at this; have := this.1; simp at this
  · have := segsFrom_ok _ _ _ this
    exact ⟨fun s hs => (this.1 s hs).1, this.2⟩

/-! ### code -/
def execRef (a : Int) : List Segment → Bool
  | [] => false
  | s :: ss => if inB a s.address (W (W (s.address + s.size) - 1)) = true then decide ((s.rights.tdiv 4).tmod 2 = 1) else execRef a ss
theorem rights_exec {r : Int} (h1 : 1 ≤ r) (h2 : r ≤ 7) : decide ((r.tdiv 4).tmod 2 = 1) = !decide (andI r 4 = 0) := by
  have : r = 1 ∨ r = 2 ∨ r = 3 ∨ r = 4 ∨ r = 5 ∨ r = 6 ∨ r = 7 := by omega
  rcases this with rfl | rfl | rfl | rfl | rfl | rfl | rfl <;> decide +kernel
theorem execRef_eq (a : Int) : ∀ (l : List Segment), (∀ s ∈ l, SegOk s) → execRef a l = execFrom a l
  | [], _ => rfl
  | s :: ss, h => by
    have hs := h s (by simp)
    obtain ⟨h1, h2, h3, h4⟩ := hs
    unfold SegIn at h1
    have e1 : W (s.address + s.size) = s.address + s.size := W_in (by omega) (by omega)
    have e2 : W (s.address + s.size - 1) = s.address + s.size - 1 := W_in (by omega) (by omega)
    have ih := execRef_eq a ss (fun t ht => h t (List.mem_cons_of_mem _ ht))
    unfold execRef execFrom
    have hin : inB a s.address (W (W (s.address + s.size) - 1)) = inRange a s := by
      unfold inB inRange
      rw [e1, e2, Bool.eq_iff_iff]; simp; omega
    rw [hin, ih, rights_exec h2 h3]

/-! ### bytes -/
def storedIn (a : Int) (s : Segment) : Prop := 0 ≤ W (a - s.address) ∧ W (a - s.address) < s.data.length
instance (a : Int) (s : Segment) : Decidable (storedIn a s) := by unfold storedIn; infer_instance
def storedF (a : Int) : List Segment → Int
  | [] => 0
  | s :: ss => if storedIn a s then s.data.getD (W (a - s.address)).toNat 0 else storedF a ss
theorem storedIn_iff {a : Int} {s : Segment} (h : SegOk s) (h1 : 0 ≤ a) (h2 : a ≤ 1048576) : storedIn a s ↔ s.address ≤ a ∧ a < s.address + s.data.length := by
  obtain ⟨g1, g2, g3, g4⟩ := h
  unfold SegIn at g1
  unfold storedIn
  rw [W_in (n := a - s.address) (by omega) (by omega)]
  omega
theorem storedF_byte {a : Int} : ∀ (l : List Segment), (∀ s ∈ l, ∀ b ∈ s.data, 0 ≤ b ∧ b ≤ 255) → 0 ≤ storedF a l ∧ storedF a l ≤ 255
  | [], _ => by simp [storedF]
  | s :: ss, h => by
    unfold storedF
    split
    · rename_i hi
      unfold storedIn at hi
      have hlt : (W (a - s.address)).toNat < s.data.length := by omega
      rw [List.getD_eq_getElem?_getD, List.getElem?_eq_getElem hlt]
      exact h s (by simp) _ (List.getElem_mem hlt)
    · exact storedF_byte ss (fun t ht => h t (List.mem_cons_of_mem _ ht))

theorem ofInt_toNat (n : Nat) (h : n < 4294967296) : (BitVec.ofInt 32 (n : Int)).toNat = n := by
  rw [BitVec.ofInt_natCast, BitVec.toNat_ofNat]
  exact Nat.mod_eq_of_lt h
theorem orK_add {X Y n : Nat} (hX : X < 2 ^ n) (h : X + Y * 2 ^ n < 4294967296) : orK .u32 (X : Int) ((Y * 2 ^ n : Nat) : Int) = ((X + Y * 2 ^ n : Nat) : Int) := by
  unfold orK
  have e1 : IntKind.u32.bits = 32 := rfl
  rw [e1, BitVec.toNat_or, ofInt_toNat X (by omega), ofInt_toNat _ (by omega)]
  have e2 : X ||| Y * 2 ^ n = X + Y * 2 ^ n := by
    have := Nat.shiftLeft_add_eq_or_of_lt hX Y
    rw [Nat.shiftLeft_eq] at this
    rw [Nat.or_comm, ← this, Nat.add_comm]
  rw [e2]
  clear e2
  generalize Y * 2 ^ n = Z at *
  unfold IntKind.wrap
  simp [IntKind.bits, IntKind.signed]
  omega
theorem orK_zero {X : Nat} (h : X < 4294967296) : orK .u32 (X : Int) 0 = X := by
  have := orK_add (X := X) (Y := 0) (n := 32) (by omega) (by omega)
  simpa using this
theorem shlU_byte {b : Int} (h1 : 0 ≤ b) (h2 : b ≤ 255) {i : Nat} (hi : i < 4) : shlU (wrapU b) (W (8 * (i : Int))) = ((b.toNat * 2 ^ (8 * i) : Nat) : Int) := by
  obtain ⟨n, rfl⟩ : ∃ n : Nat, b = n := ⟨b.toNat, by omega⟩
  unfold shlU
  rw [wrapU_in h1 (by omega), W_in (by omega) (by omega)]
  have : i = 0 ∨ i = 1 ∨ i = 2 ∨ i = 3 := by omega
  unfold IntKind.wrap
  rcases this with rfl | rfl | rfl | rfl <;> (simp [IntKind.bits, IntKind.signed]; omega)
/-- The segments' bytes at one place: at most one of them has it. -/
theorem row_byte {a : Int} {i : Nat} (hi : i < 4) (h0 : 0 ≤ a) (h1 : a + 4 ≤ 1048576) : ∀ (l : List Segment), (∀ s ∈ l, SegOk s) → l.Pairwise (fun a b => a.address + a.size ≤ b.address) → (∀ s ∈ l, ∀ b ∈ s.data, 0 ≤ b ∧ b ≤ 255) → ∀ (X : Nat), X < 2 ^ (8 * i) →
    l.foldl (byteStep a i) (X : Int) = ((X + (storedF (W (a + i)) l).toNat * 2 ^ (8 * i) : Nat) : Int)
  | [], _, _, _, X, hX => by simp [storedF]
  | s :: ss, hok, hp, hb, X, hX => by
    have ha : W (a + i) = a + i := W_in (by omega) (by omega)
    have hp8 : 2 ^ (8 * i) ≤ 16777216 := by
      have : i = 0 ∨ i = 1 ∨ i = 2 ∨ i = 3 := by omega
      rcases this with rfl | rfl | rfl | rfl <;> decide
    have hso := hok s (by simp)
    have hsi := hso.1
    unfold SegIn at hsi
    have hsub : W (a + i - s.address) = a + i - s.address := W_in (by omega) (by omega)
    have none : ∀ (l : List Segment) (w : Int), (∀ t ∈ l, SegOk t ∧ a + i < t.address) → l.foldl (byteStep a i) w = w := by
      intro l
      induction l with
      | nil => intro w _; rfl
      | cons t ts ih =>
        intro w ht
        have h2 := ht t (by simp)
        have h3 := h2.1.1
        unfold SegIn at h3
        rw [List.foldl_cons]
        have : byteStep a i w t = w := by
          unfold byteStep
          rw [ha, W_in (n := a + i - t.address) (by omega) (by omega), if_neg (by omega)]
        rw [this]
        exact ih w (fun u hu => ht u (List.mem_cons_of_mem _ hu))
    rw [List.foldl_cons]
    by_cases hin : storedIn (a + i) s
    · have hin2 := (storedIn_iff hso (by omega) (by omega)).1 hin
      have hlt : (a + i - s.address).toNat < s.data.length := by omega
      have hst : storedF (W (a + i)) (s :: ss) = s.data.getD (a + i - s.address).toNat 0 := by
        rw [ha]; unfold storedF; rw [if_pos hin, hsub]
      have hbyte : 0 ≤ s.data.getD (a + i - s.address).toNat 0 ∧ s.data.getD (a + i - s.address).toNat 0 ≤ 255 := by
        rw [List.getD_eq_getElem?_getD, List.getElem?_eq_getElem hlt]
        exact hb s (by simp) _ (List.getElem_mem hlt)
      have hstep : byteStep a i (X : Int) s = ((X + (storedF (W (a + i)) (s :: ss)).toNat * 2 ^ (8 * i) : Nat) : Int) := by
        unfold byteStep
        rw [ha, hsub, if_pos (by omega), ← ha] 
        rw [ha] at hst ⊢
        rw [hst]
        generalize s.data.getD (a + i - s.address).toNat 0 = b at *
        rw [shlU_byte hbyte.1 hbyte.2 hi]
        refine orK_add hX ?_
        have : b.toNat ≤ 255 := by omega
        have h5 : b.toNat * 2 ^ (8 * i) ≤ 255 * 2 ^ (8 * i) := Nat.mul_le_mul_right _ this
        omega
      rw [hstep]
      refine none ss _ (fun t ht => ⟨hok t (List.mem_cons_of_mem _ ht), ?_⟩)
      have h6 := (List.pairwise_cons.1 hp).1 t ht
      have h7 := hso.2.2.2
      omega
    · have hstep : byteStep a i (X : Int) s = X := by
        unfold byteStep
        rw [ha]
        unfold storedIn at hin
        rw [if_neg hin]
      have hst : storedF (W (a + i)) (s :: ss) = storedF (W (a + i)) ss := by
        rw [ha]; conv => lhs; unfold storedF
        rw [if_neg hin]
      rw [hstep, hst]
      exact row_byte hi h0 h1 ss (fun t ht => hok t (List.mem_cons_of_mem _ ht)) (List.pairwise_cons.1 hp).2 (fun t ht => hb t (List.mem_cons_of_mem _ ht)) X hX

def storedB (x : Image) (a : Int) : Int := storedF a x.segments
/-- The word of four bytes, summed as the reference does. -/
def storedW (x : Image) (a : Int) : Int := W (W (W (storedB x a + W (256 * storedB x (W (a + 1)))) + W (65536 * storedB x (W (a + 2)))) + W (16777216 * storedB x (W (a + 3))))
theorem word_stored {x : Image} (hx : x.WF) (h : imageF x = Fault.ok) {a : Int} (h0 : 0 ≤ a) (h1 : a + 4 ≤ 1048576) : wordOf x a = storedW x a ∧ 0 ≤ storedW x a ∧ storedW x a < 4294967296 := by
  obtain ⟨hok, hp⟩ := image_segOk h
  have hb : ∀ s ∈ x.segments, ∀ b ∈ s.data, 0 ≤ b ∧ b ≤ 255 := fun s hs => (hx.segments.2 s hs).2.2.2.2
  have hbyte : ∀ c, 0 ≤ storedB x c ∧ storedB x c ≤ 255 := fun c => storedF_byte x.segments hb
  have ea : W (a + (0 : Nat)) = a := by rw [W_in] <;> simp <;> omega
  have row : ∀ (i : Nat), i < 4 → ∀ X : Nat, X < 2 ^ (8 * i) → wordRow x a (X : Int) i = ((X + (storedB x (W (a + i))).toNat * 2 ^ (8 * i) : Nat) : Int) := fun i hi X hX => row_byte hi h0 h1 x.segments hok hp hb X hX
  have b0 := hbyte a
  have b1 := hbyte (W (a + 1))
  have b2 := hbyte (W (a + 2))
  have b3 := hbyte (W (a + 3))
  have r0 := row 0 (by omega) 0 (by decide)
  rw [ea] at r0
  have hw : wordOf x a = wordRow x a (wordRow x a (wordRow x a (wordRow x a 0 0) 1) 2) 3 := rfl
  have r1 := row 1 (by omega) ((storedB x a).toNat) (by omega)
  have r2 := row 2 (by omega) ((storedB x a).toNat + (storedB x (W (a + 1))).toNat * 256) (by omega)
  have r3 := row 3 (by omega) ((storedB x a).toNat + (storedB x (W (a + 1))).toNat * 256 + (storedB x (W (a + 2))).toNat * 65536) (by omega)
  have q0 : wordRow x a 0 0 = ((storedB x a).toNat : Int) := by simpa using r0
  have q1 : wordRow x a ((storedB x a).toNat : Int) 1 = (((storedB x a).toNat + (storedB x (W (a + 1))).toNat * 256 : Nat) : Int) := by simpa using r1
  have q2 : wordRow x a (((storedB x a).toNat + (storedB x (W (a + 1))).toNat * 256 : Nat) : Int) 2 = (((storedB x a).toNat + (storedB x (W (a + 1))).toNat * 256 + (storedB x (W (a + 2))).toNat * 65536 : Nat) : Int) := by simpa using r2
  have q3 : wordRow x a (((storedB x a).toNat + (storedB x (W (a + 1))).toNat * 256 + (storedB x (W (a + 2))).toNat * 65536 : Nat) : Int) 3 = (((storedB x a).toNat + (storedB x (W (a + 1))).toNat * 256 + (storedB x (W (a + 2))).toNat * 65536 + (storedB x (W (a + 3))).toNat * 16777216 : Nat) : Int) := by simpa using r3
  rw [hw, q0, q1, q2, q3]
  unfold storedW
  generalize storedB x a = c0 at *
  generalize storedB x (W (a + 1)) = c1 at *
  generalize storedB x (W (a + 2)) = c2 at *
  generalize storedB x (W (a + 3)) = c3 at *
  rw [W_in (n := 256 * c1) (by omega) (by omega), W_in (n := c0 + 256 * c1) (by omega) (by omega), W_in (n := 65536 * c2) (by omega) (by omega), W_in (n := c0 + 256 * c1 + 65536 * c2) (by omega) (by omega), W_in (n := 16777216 * c3) (by omega) (by omega), W_in (by omega) (by omega)]
  omega
/-- A number as the reference makes a word of it. -/
theorem word_wrap {n : Int} (h : I64 n) : IntKind.u32.wrap ((W (n.tmod 4294967296 + 4294967296)).tmod 4294967296) = wrapU n := by
  have h1 := Int.mul_tdiv_add_tmod n 4294967296
  have h2 := Int.tmod_lt_of_pos n (b := 4294967296) (by omega)
  have h3 : -4294967296 < n.tmod 4294967296 := by
    have := Int.tmod_lt_of_pos (-n) (b := 4294967296) (by omega)
    rw [Int.neg_tmod] at this
    omega
  rw [W_in (by omega) (by omega), Int.tmod_eq_emod_of_nonneg (by omega)]
  unfold wrapU IntKind.wrap
  simp [IntKind.bits, IntKind.signed]
  generalize n.tdiv 4294967296 = q at *
  omega
theorem kills_dats (d : Nat) : ∀ cs : List Dat, kills d (cs.map PVal.dat) = cs.map PVal.dat
  | [] => rfl
  | c :: cs => by simp only [List.map_cons, kills, PVal.kill, kills_dats d cs]
/-- The reference's word of a fixup that adds a bias. -/
theorem fix_sum {w b : Int} (h1 : 0 ≤ w) (h2 : w < 4294967296) (h3 : 0 ≤ b) (h4 : b < 4294967296) : wrapU (W (w + b)) = wrapU (w + wrapU b) := by
  rw [W_in (by omega) (by omega), wrapU_in h3 h4]
end Go.Abs

/- Who reaches whom: the closure by rounds, cycles of needs: plain facts. -/
set_option linter.unusedVariables false
set_option linter.unusedSimpArgs false
namespace Go.Abs
open Go
abbrev Mat := Nat → Nat → Bool
def upd2 (M : Mat) (a b : Nat) (v : Bool) : Mat := fun x y => if x = a ∧ y = b then v else M x y
theorem upd2_at (M : Mat) (a b : Nat) (v : Bool) : upd2 M a b v a b = v := by simp [upd2]
theorem upd2_ne {M : Mat} {a b x y : Nat} {v : Bool} (h : ¬ (x = a ∧ y = b)) : upd2 M a b v x y = M x y := by simp [upd2, h]
def stepM (k a : Nat) (M : Mat) (b : Nat) : Mat := upd2 M a b (M a b || (M a k && M k b))
def rowM (n k : Nat) (M : Mat) (a : Nat) (m : Nat) : Mat := (List.range m).foldl (stepM k a) M
def roundM (n : Nat) (M : Mat) (k : Nat) (m : Nat) : Mat := (List.range m).foldl (fun M a => rowM n k M a n) M
def closeM (n : Nat) (M : Mat) (m : Nat) : Mat := (List.range m).foldl (fun M k => roundM n M k n) M
theorem rowM_succ (n k : Nat) (M : Mat) (a m : Nat) : rowM n k M a (m + 1) = stepM k a (rowM n k M a m) m := by unfold rowM; rw [List.range_succ, List.foldl_append]; rfl
theorem roundM_succ (n : Nat) (M : Mat) (k m : Nat) : roundM n M k (m + 1) = rowM n k (roundM n M k m) m n := by unfold roundM; rw [List.range_succ, List.foldl_append]; rfl
theorem closeM_succ (n : Nat) (M : Mat) (m : Nat) : closeM n M (m + 1) = roundM n (closeM n M m) m n := by unfold closeM; rw [List.range_succ, List.foldl_append]; rfl
def LeM (M N : Mat) : Prop := ∀ x y, M x y = true → N x y = true
theorem LeM.refl (M : Mat) : LeM M M := fun _ _ h => h
theorem LeM.trans {M N O : Mat} (h : LeM M N) (k : LeM N O) : LeM M O := fun x y z => k x y (h x y z)
theorem stepM_le (k a : Nat) (M : Mat) (b : Nat) : LeM M (stepM k a M b) := fun x y h => by
  unfold stepM
  by_cases e : x = a ∧ y = b
  · obtain ⟨rfl, rfl⟩ := e; rw [upd2_at, h]; rfl
  · rw [upd2_ne e]; exact h
theorem rowM_le (n k : Nat) (M : Mat) (a : Nat) : ∀ m, LeM M (rowM n k M a m)
  | 0 => LeM.refl M
  | m + 1 => by rw [rowM_succ]; exact (rowM_le n k M a m).trans (stepM_le _ _ _ _)
theorem roundM_le (n : Nat) (M : Mat) (k : Nat) : ∀ m, LeM M (roundM n M k m)
  | 0 => LeM.refl M
  | m + 1 => by rw [roundM_succ]; exact (roundM_le n M k m).trans (rowM_le _ _ _ _ _)
theorem rowM_at {n k : Nat} {M : Mat} {a : Nat} : ∀ (m b : Nat), b < m → (M a b = true ∨ M a k = true ∧ M k b = true) → rowM n k M a m a b = true
  | 0, b, h, _ => by omega
  | m + 1, b, h, hm => by
    rw [rowM_succ]
    by_cases e : b = m
    · subst e
      unfold stepM
      rw [upd2_at]
      have hle := rowM_le n k M a b
      rcases hm with hm | ⟨h1, h2⟩
      · rw [hle _ _ hm]; rfl
      · rw [hle _ _ h1, hle _ _ h2]; simp
    · exact stepM_le _ _ _ _ _ _ (rowM_at m b (by omega) hm)
theorem roundM_at {n k : Nat} {M : Mat} : ∀ (m a b : Nat), a < m → b < n → (M a b = true ∨ M a k = true ∧ M k b = true) → roundM n M k m a b = true
  | 0, a, b, h, _, _ => by omega
  | m + 1, a, b, h, hb, hm => by
    rw [roundM_succ]
    have hle := roundM_le n M k m
    by_cases e : a = m
    · subst e
      exact rowM_at n b hb (hm.imp (hle _ _) (fun ⟨h1, h2⟩ => ⟨hle _ _ h1, hle _ _ h2⟩))
    · exact rowM_le _ _ _ _ _ _ _ (roundM_at m a b (by omega) hb hm)

inductive PathB (E : Nat → Nat → Prop) : Nat → Nat → Nat → Prop
  | edge {k a b : Nat} (h : E a b) : PathB E k a b
  | thru {k a b c : Nat} (hc : c < k) (h1 : PathB E k a c) (h2 : PathB E k c b) : PathB E k a b
theorem PathB.split {E : Nat → Nat → Prop} {k a b : Nat} (h : PathB E (k + 1) a b) : PathB E k a b ∨ (PathB E k a k ∧ PathB E k k b) := by
  generalize hk : k + 1 = k' at h
  induction h with
  | edge h => exact .inl (.edge h)
  | thru hc h1 h2 ih1 ih2 =>
    subst hk
    rename_i a b c
    have i1 := ih1
    have i2 := ih2
    by_cases e : c = k
    · subst e
      refine .inr ⟨?_, ?_⟩
      · rcases i1 with h | ⟨h, _⟩ <;> exact h
      · rcases i2 with h | ⟨_, h⟩ <;> exact h
    · have hck : c < k := by omega
      rcases i1 with p1 | ⟨p1, p1'⟩ <;> rcases i2 with p2 | ⟨p2, p2'⟩
      · exact .inl (.thru hck p1 p2)
      · exact .inr ⟨.thru hck p1 p2, p2'⟩
      · exact .inr ⟨p1, .thru hck p1' p2⟩
      · exact .inr ⟨p1, p2'⟩
theorem closeM_path {E : Nat → Nat → Prop} {n : Nat} {M : Mat} (h0 : ∀ a b, a < n → b < n → E a b → M a b = true) : ∀ m, m ≤ n → ∀ a b, a < n → b < n → (PathB E m a b → closeM n M m a b = true)
  | 0, _, a, b, ha, hb, hp => by
    cases hp with
    | edge h => exact h0 a b ha hb h
    | thru hc => omega
  | m + 1, hm, a, b, ha, hb, hp => by
    have ih := closeM_path h0 m (by omega)
    rw [closeM_succ]
    refine roundM_at n a b ha hb ?_
    rcases hp.split with h | ⟨h1, h2⟩
    · exact .inl (ih a b ha hb h)
    · exact .inr ⟨ih a m ha (by omega) h1, ih m b (by omega) hb h2⟩

/-! ### needs that are not met -/
theorem exists_first {p : Nat → Prop} : ∀ (n : Nat), p n → ∃ j, j ≤ n ∧ p j ∧ ∀ m, m < j → ¬ p m := by
  intro n
  induction n using Nat.strongRecOn with
  | _ n ih =>
    intro hn
    by_cases h : ∃ m, m < n ∧ p m
    · obtain ⟨m, hm, hp⟩ := h
      obtain ⟨j, h1, h2, h3⟩ := ih m hm hp
      exact ⟨j, by omega, h2, h3⟩
    · exact ⟨n, Nat.le_refl _, hn, fun m hm hp => h ⟨m, hm, hp⟩⟩
/-- If the one that is picked is not ready, no other one is. -/
theorem pick_stuck {needs : List (List Int)} {out : List Int} {i : Nat} (hp : pick needs out = i) (hr : readyB needs out i = false) : ∀ j : Nat, j < needs.length → hasI out j = false → readyB needs out j = false := by
  intro j hj hd
  cases hrj : readyB needs out j
  · rfl
  · exfalso
    obtain ⟨m, hm, ⟨hm1, hm2⟩, hmin⟩ := exists_first (p := fun m => hasI out (m : Int) = false ∧ readyB needs out m = true) j ⟨hd, hrj⟩
    have := pick_ready hm1 hm2 needs.length 0 (-1) (by omega) (by omega) (fun q _ hq => by
      have h1 := hmin q hq
      cases h2 : hasI out (q : Int)
      · cases h3 : readyB needs out q
        · exact .inr rfl
        · exact absurd ⟨h2, h3⟩ h1
      · exact .inl rfl)
    unfold pick at hp
    rw [this] at hp
    have : m = i := by omega
    subst this
    rw [hm2] at hr; cases hr
def EdgeN (needs : List (List Int)) (a b : Nat) : Prop := ∃ row, needs[a]? = some row ∧ (b : Int) ∈ row ∧ a ≠ b
/-- One that waits has a successor that waits. -/
theorem stuck_next {needs : List (List Int)} (hok : ∀ row ∈ needs, ∀ v ∈ row, 0 ≤ v ∧ v < needs.length) {out : List Int} {j : Nat} (hj : j < needs.length) (hr : readyB needs out j = false) :
    ∃ k : Nat, k < needs.length ∧ hasI out k = false ∧ EdgeN needs j k := by
  have hrow : needs[j]? = some needs[j] := List.getElem?_eq_getElem hj
  rw [ready_rowOk hrow] at hr
  unfold rowOk at hr
  rw [List.all_eq_false] at hr
  obtain ⟨v, hv, hne⟩ := hr
  have hin := hok _ (List.getElem_mem hj) v hv
  obtain ⟨k, rfl⟩ : ∃ k : Nat, v = k := ⟨v.toNat, by omega⟩
  simp only [Bool.or_eq_true, decide_eq_true_eq, not_or, Bool.not_eq_true] at hne
  refine ⟨k, by omega, hne.2, _, hrow, hv, fun e => hne.1 (by rw [e])⟩
theorem stuck_cycle {needs : List (List Int)} (hok : ∀ row ∈ needs, ∀ v ∈ row, 0 ≤ v ∧ v < needs.length) {out : List Int} (hall : ∀ j : Nat, j < needs.length → hasI out j = false → readyB needs out j = false) {i : Nat} (hi : i < needs.length) (hd : hasI out i = false) :
    ∃ a, a < needs.length ∧ (a = i ∨ PathB (EdgeN needs) needs.length i a) ∧ PathB (EdgeN needs) needs.length a a := by
  -- a walk among those that wait
  have hstep : ∀ j : Nat, ∃ k : Nat, (j < needs.length ∧ hasI out j = false) → (k < needs.length ∧ hasI out k = false ∧ EdgeN needs j k) := by
    intro j
    by_cases h : j < needs.length ∧ hasI out j = false
    · obtain ⟨k, hk⟩ := stuck_next hok h.1 (hall j h.1 h.2)
      exact ⟨k, fun _ => hk⟩
    · exact ⟨0, fun h' => absurd h' h⟩
  obtain ⟨f, hf⟩ := Classical.axiomOfChoice hstep
  obtain ⟨u, hu0, hus⟩ : ∃ u : Nat → Nat, u 0 = i ∧ ∀ t, u (t + 1) = f (u t) := ⟨fun t => Nat.rec i (fun _ x => f x) t, rfl, fun _ => rfl⟩
  have hw : ∀ t, u t < needs.length ∧ hasI out ((u t : Nat) : Int) = false := by
    intro t
    induction t with
    | zero => rw [hu0]; exact ⟨hi, hd⟩
    | succ t ih => rw [hus]; have := hf (u t) ih; exact ⟨this.1, this.2.1⟩
  have he : ∀ t, EdgeN needs (u t) (u (t + 1)) := fun t => by rw [hus]; exact (hf (u t) (hw t)).2.2
  have hpath : ∀ d s, PathB (EdgeN needs) needs.length (u s) (u (s + d + 1)) := by
    intro d
    induction d with
    | zero => intro s; exact .edge (he s)
    | succ d ih => intro s; exact .thru (hw (s + d + 1)).1 (ih s) (by have := PathB.edge (k := needs.length) (he (s + d + 1)); rw [show s + (d + 1) + 1 = s + d + 1 + 1 by omega]; exact this)
  -- two of its places are the same
  have hdup : ∃ s t, s < t ∧ u s = u t := by
    refine Classical.byContradiction fun hno => ?_
    have hnice : Nice needs.length ((List.range (needs.length + 1)).map fun t => ((u t : Nat) : Int)) := by
      refine ⟨?_, fun v hv => ?_⟩
      · rw [List.nodup_iff_pairwise_ne, List.pairwise_map]
        refine List.Pairwise.imp ?_ (List.pairwise_lt_range (n := needs.length + 1))
        intro a b hab e
        exact hno ⟨a, b, hab, by omega⟩
      · obtain ⟨t, _, rfl⟩ := List.mem_map.1 hv
        have := (hw t).1
        omega
    have := hnice.length
    simp at this
    omega
  obtain ⟨s, t, hst, heq⟩ := hdup
  refine ⟨u s, (hw s).1, ?_, ?_⟩
  · cases s with
    | zero => exact .inl hu0
    | succ s => right; have := hpath s 0; rw [hu0] at this; simpa using this
  · have := hpath (t - s - 1) s
    rw [show s + (t - s - 1) + 1 = t by omega, ← heq] at this
    exact this
/-- What the function that looks for cycles computes. -/
def edgeM (needs : List (List Int)) : Mat := fun a b => match needs[a]? with
  | some row => row.any fun v => decide (v = (b : Int)) && !decide (v = (a : Int))
  | none => false
def cyclicF (needs : List (List Int)) (i : Nat) : Bool := (List.range needs.length).any fun a => (decide (a = i) || closeM needs.length (edgeM needs) needs.length i a) && closeM needs.length (edgeM needs) needs.length a a
theorem cyclicF_true {needs : List (List Int)} {i a : Nat} (ha : a < needs.length) (hi : i < needs.length) (h1 : a = i ∨ PathB (EdgeN needs) needs.length i a) (h2 : PathB (EdgeN needs) needs.length a a) : cyclicF needs i = true := by
  have h0 : ∀ a b, a < needs.length → b < needs.length → EdgeN needs a b → edgeM needs a b = true := by
    rintro a b _ _ ⟨row, hr, hb, hne⟩
    unfold edgeM
    rw [hr]
    simp only [List.any_eq_true, Bool.and_eq_true, decide_eq_true_eq, Bool.not_eq_true', decide_eq_false_iff_not]
    exact ⟨b, hb, rfl, fun e => hne (by omega)⟩
  have key := closeM_path h0 needs.length (Nat.le_refl _)
  unfold cyclicF
  rw [List.any_eq_true]
  refine ⟨a, by simpa using ha, ?_⟩
  rw [key a a ha ha h2, Bool.and_true, Bool.or_eq_true]
  rcases h1 with h1 | h1
  · left; simpa using h1
  · exact .inr (key i a hi ha h1)
theorem sortedFrom_take (needs : List (List Int)) : ∀ (m k : Nat), (sortedFrom needs (k + m) []).take k = sortedFrom needs k []
  | 0, k => by
    have := sortedFrom_len needs k []
    rw [List.take_of_length_le (by rw [Nat.add_zero, this]; simp)]; rfl
  | m + 1, k => by
    have h := sortedFrom_succ needs (k + m) []
    rw [show k + (m + 1) = k + m + 1 by omega, h, List.take_append_of_le_length (by rw [sortedFrom_len]; simp), sortedFrom_take needs m k]
/-- The law: one that comes before what it needs leads to a cycle. -/
theorem needed_first {needs : List (List Int)} (hok : ∀ row ∈ needs, ∀ v ∈ row, 0 ≤ v ∧ v < needs.length) {p : Nat} {i : Nat} (hi : (sortedF needs)[p]? = some (i : Int)) {row : List Int} (hrow : needs[i]? = some row) {v : Int} (hv : v ∈ row) (hne : ¬ v = i) (hn : hasI ((sortedF needs).take p) v = false) : cyclicF needs i = true := by
  have hlen := (sortedF_nice needs).2
  have hpl := (List.getElem?_eq_some_iff.1 hi).1
  have hil := (List.getElem?_eq_some_iff.1 hrow).1
  have htake : (sortedF needs).take p = sortedFrom needs p [] := by
    have := sortedFrom_take needs (needs.length - p) p
    rw [show p + (needs.length - p) = needs.length by omega] at this
    exact this
  have htake2 : (sortedF needs).take (p + 1) = sortedFrom needs (p + 1) [] := by
    have := sortedFrom_take needs (needs.length - (p + 1)) (p + 1)
    rw [show p + 1 + (needs.length - (p + 1)) = needs.length by omega] at this
    exact this
  have hpick : pick needs (sortedFrom needs p []) = i := by
    have h1 := sortedFrom_succ needs p []
    rw [← htake2, ← htake, List.take_succ_eq_append_getElem hpl] at h1
    have h2 := List.append_cancel_left h1
    rw [(List.getElem?_eq_some_iff.1 hi).2] at h2
    rw [← htake]
    injection h2 with h2
    exact h2.symm
  rw [htake] at hn
  have hnice := sorted_nice needs (p + 1) (by omega)
  have hund : hasI (sortedFrom needs p []) i = false := by
    rw [sortedFrom_succ, hpick] at hnice
    rw [hasI_false]
    intro hm
    have := hnice.1
    rw [List.nodup_append] at this
    exact this.2.2 _ hm _ (by simp) rfl
  have hr : readyB needs (sortedFrom needs p []) i = false := by
    rw [ready_rowOk hrow]
    unfold rowOk
    rw [List.all_eq_false]
    exact ⟨v, hv, by simp [hne, hn]⟩
  obtain ⟨a, ha, h1, h2⟩ := stuck_cycle hok (pick_stuck hpick hr) hil hund
  exact cyclicF_true ha hil h1 h2
end Go.Abs

/- The closed facts of a row, one by one: together they are too great for the kernel's memory at a great seat. -/
set_option linter.unusedVariables false
namespace Go.Abs
open Go
theorem and2 {a b : Bool} (h : a = true) (k : b = true) : (a && b) = true := by rw [h, k]; rfl
theorem joined_of {P : Program} {f : FuncId} {fn : Func} {s : ChangeSpec} {c : OpenClaim}
    (a1 : c.wf (OpenSpec.ofChange s) = true) (a2 : laidOutB P = true) (a3 : mapsRowed P = true) (a4 : fn.params.all (P.readableRec ·) = true) (a5 : namedTie P c.named s.vars = true)
    (a6 : (c.stops == []) = true) (a7 : (P.stops == []) = true) (a8 : (c.knobs == []) = true) (a9 : (P.stopKnobs == []) = true)
    (b1 : (c.inPlace == P.inPlace f) = true) (b2 : (c.unfollowed == P.unfollowed f) = true) (b3 : (c.recurses == P.recurses f) = true) (b4 : (c.named == P.varsNamed f) = true)
    (b5 : (c.maps == (fn.params.toList ++ s.plain.varTypes P).any (P.mapsRec ·)) = true) (b6 : (c.ifaces == (fn.params.toList ++ s.plain.varTypes P).any (P.ifacesRec ·)) = true) (b7 : (c.mapsOut == P.mapsAmong fn.resultTypes.toList) = true)
    (b8 : (c.loops == (fn.params.toList ++ s.plain.varTypes P).any (P.loopsFrom ·)) = true) (b9 : (c.wideKeys == (fn.params.toList ++ s.plain.varTypes P ++ fn.resultTypes.toList).any (P.wideKeysFrom ·)) = true)
    (c1 : s.vars.all (P.varReadable ·) = true) (c2 : fn.resultTypes.all (fun t => P.readableRec t && decide (t < P.types.size)) = true) (c3 : (c.ifacesOut == fn.resultTypes.toList.any (P.ifacesRec ·)) = true) (c4 : (c.loopsOut == fn.resultTypes.toList.any (P.loopsFrom ·)) = true)
    (c5 : (c.plainKeys == P.plainKeys) = true) (c6 : c.shortTexts.isNone = true) (c7 : P.stopsHeard = true) (c8 : P.mayEnter = true) (c9 : (c.lifted == P.liftsFinal) = true) (d1 : (P.make == some c.make) = true)
    (d2 : (c.kinds == (if c.domain.isEmpty then [] else fn.params.toList.map fun t => match P.underlying t with | some (.int k) => some k | _ => none)) = true) (d3 : (c.pinned == c.pinnedBy) = true)
    (d4 : (c.veiled == (fn.params.toList ++ s.plain.varTypes P ++ fn.resultTypes.toList).any (P.veiledRec ·)) = true) (d5 : c.veiledFits P fn.params.toList (fn.params.toList ++ s.plain.varTypes P ++ fn.resultTypes.toList) = true) : joinedFacts P f fn s c = true := by
  exact (and2 (and2 (and2 (and2 (and2 (and2 (and2 (and2 (and2 (and2 (and2 (and2 (and2 (and2 (and2 (and2 (and2 (and2 (and2 (and2 (and2 (and2 (and2 (and2 (and2 (and2 (and2 (and2 (and2 (and2 (and2 a1 a2) a3) a4) a5) a6) a7) a8) a9) b1) b2) b3) b4) b5) b6) b7) b8) b9) c1) c2) c3) c4) c5) c6) c7) c8) c9) d1) d2) d3) d4) d5)
end Go.Abs

/- The walk inside a round of a range over a function: the same rules under a fence. -/
set_option linter.unusedVariables false
set_option linter.unusedSimpArgs false
namespace Go.Abs
open Go Go.RowKit

/-- Nothing is fenced off. -/
def Plain (F : Fence) : Prop := F = Fence.wide ∨ ∃ l, F = Fence.wide.inRound l

section
variable {F : Fence} {n : Nat} {P : Program}
theorem callsIn_plain (hF : Plain F) {f : FuncId} {args : Array Value} {w : World} {R : Ending → World → Prop} (h : Calls P f args w R) : CallsIn F n P f args w R := by
  rcases hF with rfl | ⟨l, rfl⟩
  · exact callsIn_wide.2 h
  · exact (callsIn_wide (n := n)).2 h
theorem rowsIn_plain (hF : Plain F) {f : String} {args : Array Value} {w : World} {R : Value → World → Prop} (h : Rows P f args w R) : RowsIn F n P f args w R := by
  have h0 : RowsIn Fence.wide n P f args w R := fun c cs _ => let ⟨v, w', r, s⟩ := h c cs; ⟨v, w', r, stepsIn_wide.2 s⟩
  rcases hF with rfl | ⟨l, rfl⟩
  · exact h0
  · exact h0
theorem plain_fn (hF : Plain F) (f : FuncId) : F.fn f := by
  rcases hF with rfl | ⟨l, rfl⟩ <;> trivial
theorem plain_depth (hF : Plain F) : F.depth = none := by
  rcases hF with rfl | ⟨l, rfl⟩ <;> rfl

theorem wpOp_in (hF : Plain F) {ops : Array Oper} {Q : Exit → Act → World → Prop} {i : Nat} {K : Act → World → Prop} {a : Act} {w : World}
    (hdef : ∀ o, ops[i]? = some o → Region.wanted o (yielded ops a.tmps) = true → ∀ c, o.op ≠ .defer c) (h : wpOp P ops (fun _ _ _ => False) i K a w) : wpOpIn F n P ops Q i K a w := by
  have hlets : ¬ LetsOut (fun _ _ _ => False) := by rintro ⟨a, w, h⟩; exact h
  have hdep : ∀ m, F.depth.isSome = true → 1 ≤ m := fun m hd => by rw [plain_depth hF] at hd; cases hd
  unfold wpOp at h
  unfold wpOpIn
  cases ho : ops[i]? with
  | none => rw [ho] at h; exact h
  | some o =>
    rw [ho] at h
    simp only at h ⊢
    by_cases hw : Region.wanted o (yielded ops a.tmps) = true
    · rw [if_pos hw] at h ⊢
      have h := h.resolve_right (fun hh => hlets hh.2)
      unfold Oper.wp at h
      refine ⟨fun f _ => plain_fn hF f, ?_⟩
      rw [Oper.semAt_eq _ _ _ (hdef o ho hw)]
      generalize (execOp a.eval o).run P w = r at h
      cases r with
      | ok x w' =>
        cases x <;> (try simp only [Oper.upon] at h) <;> simp only [Oper.uponIn] <;>
          first
            | exact h
            | exact h.elim
            | exact ⟨hdep _, callsIn_plain hF (h.mono fun e w'' he => by (cases e with | returned v => exact he | panicked ch => exact he.elim | outgrown => exact (hlets he).elim))⟩
            | exact ⟨hdep _, rowsIn_plain hF h⟩
      | halt x w' => cases x <;> simp only [Oper.upon, Oper.uponIn] at h ⊢ <;> exact h.elim
    · rw [if_neg hw] at h ⊢
      exact ⟨fun f _ => plain_fn hF f, h⟩

/-- A loop, with a ghost of its own. -/
theorem wpIn_loop_ghost {G : Type} {c : Code} {Q : Exit → Act → World → Prop} (R : G → Act → World → Prop) (μ : G → Nat)
    (round : ∀ g a w, R g a w → c.wpIn F n P (Exit.then (fun a' w' => ∃ g', R g' a' w' ∧ μ g' < μ g) Q) a w) {g : G} {a : Act} {w : World} (h : R g a w) : (Code.loop c).wpIn F n P Q a w := by
  intro b k cs hro hb hr
  have key : ∀ j g a w, μ g = j → R g a w → ∃ e a' w', Q e a' w' ∧ ArrivesIn (Machine.fenced P F) P (lone (b.atR a (.code c :: .inLoop c :: k)) cs w) b k cs e a' w' := by
    intro j
    induction j using Nat.strongRecOn with
    | _ j ih =>
      intro g a w hn hR
      obtain ⟨e, a₁, w₁, hq, harr⟩ := round g a w hR b (.inLoop c :: k) cs hro hb hr
      cases e with
      | normal =>
        obtain ⟨g', hR', hlt⟩ := hq
        obtain ⟨e₂, a₂, w₂, hq₂, harr₂⟩ := ih (μ g') (hn ▸ hlt) g' a₁ w₁ rfl hR'
        exact ⟨e₂, a₂, w₂, hq₂, .of_steps (StepsIn.trans harr (.one (fenced_calm hb hr rfl) stepR_inLoop)) harr₂⟩
      | exit id => exact ⟨_, a₁, w₁, hq, .pass (x := .inLoop c) rfl (fun _ _ => .inl (by simp)) harr⟩
      | goto l => exact ⟨_, a₁, w₁, hq, .pass (x := .inLoop c) rfl (fun _ _ => .inl (by simp)) harr⟩
      | ret => exact ⟨_, a₁, w₁, hq, .pass (x := .inLoop c) rfl (fun _ _ => .inl (by simp)) harr⟩
      | panic ch => exact ⟨_, a₁, w₁, hq, .pass (x := .inLoop c) rfl (fun _ _ => .inl (by simp)) harr⟩
      | outgrown => exact ⟨_, a₁, w₁, hq, .pass (x := .inLoop c) rfl (fun _ _ => .inl (by simp)) harr⟩
  obtain ⟨e, a', w', hq, harr⟩ := key _ g a w rfl h
  exact ⟨e, a', w', hq, .of_steps (.one (fenced_calm hb hr rfl) stepR_loop) harr⟩
end

section
variable {F : Fence} {n : Nat} {P : Program} {mb : List Nat} {N : Nat} {ops : Array Oper}

theorem astep_in {base i : Nat} {E : Env} {s s' : ASt} {a : Act} {w : World} {acc : Acc} {Q : Exit → Act → World → Prop} (hF : Plain F) (hI : Inv base E s a.tmps w) (hN : a.tmps.size = N) (h : AStep P mb N ops i s s' acc) {K : Act → World → Prop}
    (hK : ∀ a' w' E', Inv base E' s' a'.tmps w' → a'.tmps.size = N → a'.defers = a.defers → Below base w w' → ExtF base E w E' w' → K a' w') : wpOpIn F n P ops Q i K a w := by
  refine wpOp_in hF (fun o ho hw c hc => ?_) (astep_sound (Q := fun _ _ _ => False) hI hN h hK)
  obtain ⟨o', ho', hd, h⟩ := h
  rw [ho] at ho'; injection ho' with ho'; subst ho'
  rcases h with ⟨hwf, -, -⟩ | ⟨-, r, hs, -, -⟩ | ⟨-, f, args, g, qs, b, r, hcall, -⟩
  · rw [wanted_sound hI hwf] at hw; cases hw
  · rw [hc] at hs; simp [sem] at hs
  · rw [hc] at hcall; simp [isCall] at hcall

theorem arun_in {base : Nat} {s s' : ASt} {L rest : List Nat} {tr : List (Nat × Acc)} {Q : Exit → Act → World → Prop} (hF : Plain F) (h : ARun P mb N ops L s s' tr) : ∀ {E : Env} {a : Act} {w : World}, Inv base E s a.tmps w → a.tmps.size = N →
    (∀ a' w' E', Inv base E' s' a'.tmps w' → a'.tmps.size = N → a'.defers = a.defers → Below base w w' → ExtF base E w E' w' → wpOpsIn F n P ops Q rest a' w') → wpOpsIn F n P ops Q (L ++ rest) a w := by
  induction h with
  | nil s => intro E a w hI hN hQ; exact hQ a w E hI hN rfl (Below.refl _ _) (ExtF.refl _ _ _)
  | cons h k ih =>
    intro E a w hI hN hQ
    rw [List.cons_append, wpOpsIn_cons]
    exact astep_in hF hI hN h (fun a' w' E' h1 h2 h3 h4 h5 => ih h1 h2 (fun a2 w2 E2 g1 g2 g3 g4 g5 => hQ a2 w2 E2 g1 g2 (g3.trans h3) (h4.trans g4) (h5.trans g5)))

theorem any_in {base : Nat} {Q : Exit → Act → World → Prop} (hF : Plain F) (hedge : edgesOk 0 ops.toList = true) : ∀ (fuel : Nat) (R : List Nat) (listed : Array Bool) {E : Env} {s s' : ASt} {a : Act} {w : World} {tr : List (Nat × Acc)}, ARun P mb N ops R s s' tr → R.length = fuel → listed.size = ops.size →
    R.Pairwise (· < ·) → (∀ i, i ∈ R ↔ i < ops.size ∧ listed.getD i true = false) → (∀ k o, ops[k]? = some o → listed.getD k false = true → ∀ e ∈ o.after, Region.binds .any e = true → listed.getD e.on false = true) →
    tr.Pairwise (fun x y => pairOk ops (befs ops.toList []) x y = true) → Inv base E s a.tmps w → a.tmps.size = N →
    (∀ a' w' E', Inv base E' s' a'.tmps w' → a'.tmps.size = N → a'.defers = a.defers → Below base w w' → ExtF base E w E' w' → Q .normal a' w') → wpAnyIn F n P .any ops Q fuel listed a w := by
  intro fuel
  have ready_nil : ∀ (R : List Nat) (listed : Array Bool), R.Pairwise (· < ·) → (∀ i, i ∈ R ↔ i < ops.size ∧ listed.getD i true = false) → listed.size = ops.size → Region.ready .any ops listed = [] → R = [] := by
    intro R listed hsort hmem hsz hr
    cases R with
    | nil => rfl
    | cons i R =>
      exfalso
      have hi := (hmem i).1 (by simp)
      have hin : i ∈ Region.ready .any ops listed := by
        rw [mem_ready]
        refine ⟨hi.2, ops[i]'hi.1, Array.getElem?_eq_getElem hi.1, fun e he hb => ?_⟩
        have hlt := edgesOk_spec _ 0 hedge i (ops[i]'hi.1) (by simp [hi.1]) e he hb
        rw [Nat.zero_add] at hlt
        have hnot : ¬ e.on ∈ (i :: R) := by
          intro hm
          rcases List.mem_cons.1 hm with h | h
          · omega
          · have := List.rel_of_pairwise_cons hsort h; omega
        have hlis : listed.getD e.on true = true := by
          by_cases hx : listed.getD e.on true = true
          · exact hx
          · exact absurd ((hmem e.on).2 ⟨by omega, by simpa using hx⟩) hnot
        have hb2 : e.on < listed.size := by omega
        simpa [Array.getD, hb2] using hlis
      rw [hr] at hin; cases hin
  induction fuel with
  | zero =>
    intro R listed E s s' a w tr hrun hlen hsz hsort hmem hclosed hpair hI hN hQ
    have hR : R = [] := List.eq_nil_of_length_eq_zero hlen
    subst hR
    cases hrun
    refine ⟨?_, hQ a w E hI hN rfl (Below.refl _ _) (ExtF.refl _ _ _)⟩
    cases hr : Region.ready .any ops listed with
    | nil => rfl
    | cons i rs =>
      have hi : i ∈ Region.ready .any ops listed := by rw [hr]; simp
      obtain ⟨h1, o, h2, _⟩ := mem_ready.1 hi
      exact absurd ((hmem i).2 ⟨(Array.getElem?_eq_some_iff.1 h2).1, h1⟩) (by simp)
  | succ fuel ih =>
    intro R listed E s s' a w tr hrun hlen hsz hsort hmem hclosed hpair hI hN hQ
    refine ⟨fun hr => ?_, fun i hi => ?_⟩
    · have := ready_nil R listed hsort hmem hsz hr
      subst this; simp at hlen
    · obtain ⟨hun, o, ho, hdeps⟩ := mem_ready.1 hi
      have hin : i ∈ R := (hmem i).2 ⟨(Array.getElem?_eq_some_iff.1 ho).1, hun⟩
      obtain ⟨R1, R2, rfl⟩ := List.append_of_mem hin
      obtain ⟨acc, tr1, tr2, rfl, h2, h3⟩ := move_front R1 hrun
      -- what lies before i in the text and is not carried out yet does not bind it
      have hlisted : ∀ m, ∀ i o, i < m → ops[i]? = some o → (∀ e ∈ o.after, Region.binds .any e = true → listed.getD e.on false = true) → ∀ k, ((befs ops.toList []).getD i 0).testBit k = true → listed.getD k false = true := by
        intro m
        induction m with
        | zero => intro i o h; omega
        | succ m ihn =>
          intro i o hlt ho hd k hk
          obtain ⟨e, e1, e2, e3⟩ := bef_dep (os := ops.toList) (o := o) (by simpa using ho) hk
          have hon := hd e e1 e2
          rcases e3 with e3 | e3
          · rw [← e3]; exact hon
          · have hlt2 := edgesOk_spec _ 0 hedge i o (by simpa using ho) e e1 e2
            have hsz2 : e.on < ops.size := by have := (Array.getElem?_eq_some_iff.1 ho).1; omega
            exact ihn e.on (ops[e.on]'hsz2) (by omega) (Array.getElem?_eq_getElem hsz2) (hclosed e.on _ (Array.getElem?_eq_getElem hsz2) hon) k e3
      have hall : ∀ x ∈ tr1, apartOp ops x.1 i = true ∧ memApart x.2 acc = true := by
        intro x hx
        have hp := (List.pairwise_append.1 hpair).2.2 x hx (i, acc) (by simp)
        simp only [pairOk, Bool.or_eq_true, Bool.and_eq_true] at hp
        rcases hp with hp | hp
        · exfalso
          have hl := hlisted (i + 1) i o (by omega) ho hdeps x.1 hp
          have hxR : x.1 ∈ R1 ++ i :: R2 := List.mem_append_left _ (by rw [← h2]; exact List.mem_map_of_mem hx)
          have := ((hmem x.1).1 hxR)
          have hb2 : x.1 < listed.size := by omega
          simp [Array.getD, hb2] at this hl
          rw [this.2] at hl; cases hl
        · exact hp
      obtain ⟨s1, g1, g2⟩ := h3 hall
      have hni : i ∉ R1 ++ R2 := by
        intro hm
        have hnd : (R1 ++ i :: R2).Nodup := hsort.imp (fun h => by omega)
        rw [List.nodup_append] at hnd
        rcases List.mem_append.1 hm with hm | hm
        · exact hnd.2.2 i hm i (by simp) rfl
        · exact (List.nodup_cons.1 hnd.2.1).1 hm
      have hilt : i < listed.size := by rw [hsz]; exact (Array.getElem?_eq_some_iff.1 ho).1
      refine astep_in hF hI hN g1 (fun a' w' E' k1 k2 k3 k4 k5 => ?_)
      refine ih (R1 ++ R2) (listed.setIfInBounds i true) g2 (by simp at hlen ⊢; omega) (by simpa using hsz) ?_ (fun j => ?_) (fun k ok hk hkl e he hb => ?_) ?_ k1 k2 (fun a2 w2 E2 q1 q2 q3 q4 q5 => hQ a2 w2 E2 q1 q2 (q3.trans k3) (k4.trans q4) (k5.trans q5))
      · rw [List.pairwise_append] at hsort ⊢
        exact ⟨hsort.1, (List.pairwise_cons.1 hsort.2.1).2, fun x hx y hy => hsort.2.2 x hx y (List.mem_cons_of_mem _ hy)⟩
      · have hj : j ∈ R1 ++ R2 ↔ j ∈ R1 ++ i :: R2 ∧ j ≠ i := by
          constructor
          · intro hm
            refine ⟨?_, fun e => hni (e ▸ hm)⟩
            rcases List.mem_append.1 hm with hm | hm
            · exact List.mem_append_left _ hm
            · exact List.mem_append_right _ (List.mem_cons_of_mem _ hm)
          · rintro ⟨hm, hne⟩
            rcases List.mem_append.1 hm with hm | hm
            · exact List.mem_append_left _ hm
            · exact List.mem_append_right _ ((List.mem_cons.1 hm).resolve_left hne)
        rw [hj, hmem j]
        by_cases hji : j = i
        · subst hji; simp [hilt]
        · rw [getD_set_ne true (Ne.symm hji)]; simp [hji]
      · by_cases hki : k = i
        · subst hki
          rw [ho] at hk; injection hk with hk; subst hk
          exact getD_set_true (hdeps e he hb)
        · rw [getD_set_ne false (Ne.symm hki)] at hkl
          exact getD_set_true (hclosed k ok hk hkl e he hb)
      · rw [List.pairwise_append] at hpair ⊢
        exact ⟨hpair.1, (List.pairwise_cons.1 hpair.2.1).2, fun x hx y hy => hpair.2.2 x hx y (List.mem_cons_of_mem _ hy)⟩

/-- A region, its order drawn or not. -/
theorem region_in {base : Nat} {Q : Exit → Act → World → Prop} (hF : Plain F) (hmix : P.follows .mixedOrders = true) {id : Nat} {draw : Bool} {E : Env} {s s' : ASt} {a : Act} {w : World} {tr : List (Nat × Acc)} (hrun : ARun P mb N ops (List.range ops.size) s s' tr)
    (hok : draw = true → orderOk ops tr = true) (hI : Inv base E s a.tmps w) (hN : a.tmps.size = N)
    (hQ : ∀ a' w' E', Inv base E' s' a'.tmps w' → a'.tmps.size = N → a'.defers = a.defers → Below base w w' → ExtF base E w E' w' → Q .normal a' w') : (Code.region id ops draw).wpIn F n P Q a w := by
  cases draw with
  | false => refine wpIn_region ?_; have := arun_in (n := n) (Q := Q) hF (rest := []) hrun hI hN (fun a' w' E' q1 q2 q3 q4 q5 => (hQ a' w' E' q1 q2 q3 q4 q5 : Q .normal a' w')); simpa using this
  | true =>
    have hk := hok rfl
    simp only [orderOk, Bool.and_eq_true] at hk
    refine wpIn_region_any hmix (any_in hF (base := base) (E := E) hk.1 ops.size (List.range ops.size) (Array.replicate ops.size false) hrun (by simp) (by simp) (range_sorted _) (fun i => ?_) (fun k o hk hkl => ?_) (pairsOk_pairwise hk.2) ?_ hN (fun a' w' E' h1 h2 h3 h4 h5 => hQ a' w' E' h1 h2 h3 ((Below.drew (Below.refl base w)).trans h4) ⟨h5.toExt, h5.toFr.same, h5.toFr.grew, h5.toFr.own⟩))
    · rw [List.mem_range]
      constructor
      · intro h; exact ⟨h, by simp [Array.getD, h]⟩
      · exact fun h => h.1
    · exfalso
      have : (Array.replicate ops.size false).getD k false = false := by simp [Array.getD]
      rw [this] at hkl; cases hkl
    · exact hI.env (Env.le.refl _) rfl rfl (w' := w.drew) hI.phi hI.psi hI.sub (fun a v h => .inl h) (fun _ _ => rfl) (Nat.le_refl _)
theorem awp_in (hF : Plain F) (hmix : P.follows .mixedOrders = true) : ∀ (c : Code) (Q : AExit → ASt → Prop) (s : ASt), AWp P mb N c Q s → ∀ {base : Nat} {E : Env} {a : Act} {w : World}, Inv base E s a.tmps w → a.tmps.size = N → a.defers = [] →
    c.wpIn F n P (PostA base N E w Q) a w
  | .skip, Q, s, h, base, E, a, w, hI, hN, hd => wpIn_skip ⟨.normal, s, E, rfl, h, hI, hN, hd, Below.refl _ _, ExtF.refl _ _ _⟩
  | .exit id, Q, s, h, base, E, a, w, hI, hN, hd => wpIn_exit ⟨.exit id, s, E, rfl, h, hI, hN, hd, Below.refl _ _, ExtF.refl _ _ _⟩
  | .ret, Q, s, h, base, E, a, w, hI, hN, hd => wpIn_ret ⟨.ret, s, E, rfl, h, hI, hN, hd, Below.refl _ _, ExtF.refl _ _ _⟩
  | .region id ops draw, Q, s, h, base, E, a, w, hI, hN, hd => by
    obtain ⟨s', tr', h1, h2, h3⟩ := aops_run ops.toList 0 _ [] _ (by simp) h
    obtain ⟨E1, hI1, hE1⟩ := hI.killL (freshOf mb id)
    simp only [List.nil_append] at h2
    rw [← List.range_eq_range'] at h1
    simp only [Array.length_toList] at h1
    exact region_in hF hmix h1 h2 hI1 hN (fun a' w' E' k1 k2 k3 k4 k5 => ⟨.normal, s', E', rfl, h3, k1, k2, by rw [k3]; exact hd, k4, hE1.trans k5⟩)
  | .seq x y, Q, s, h, base, E, a, w, hI, hN, hd => by
    refine wpIn_seq (wpIn_mono (awp_in hF hmix x _ s h hI hN hd) ?_)
    rintro e a1 w1 ⟨z, s1, E1, rfl, hz, k1, k2, k3, k4, k5⟩
    cases z with
    | normal =>
      refine wpIn_mono (awp_in hF hmix y Q s1 hz k1 k2 k3) ?_
      rintro e a2 w2 ⟨z, s2, E2, rfl, hz2, q1, q2, q3, q4, q5⟩
      exact ⟨z, s2, E2, rfl, hz2, q1, q2, q3, k4.trans q4, k5.trans q5⟩
    | exit id => exact ⟨.exit id, s1, E1, rfl, hz, k1, k2, k3, k4, k5⟩
    | ret => exact ⟨.ret, s1, E1, rfl, hz, k1, k2, k3, k4, k5⟩
  | .cond c x y, Q, s, h, base, E, a, w, hI, hN, hd => by
    simp only [AWp] at h
    have hc := hI.eval c
    split at h
    · rename_i t ht
      rw [ht] at hc
      have hv := rel_bool hc
      refine wpIn_cond hv ?_
      split at h
      · rename_i htt; rw [if_pos htt]; exact awp_in hF hmix x Q s h hI hN hd
      · rename_i htt; rw [if_neg htt]; exact awp_in hF hmix y Q s h hI hN hd
    · exact h.elim
  | .block id c, Q, s, h, base, E, a, w, hI, hN, hd => by
    refine wpIn_block (wpIn_mono (awp_in hF hmix c _ s h hI hN hd) ?_)
    rintro e a1 w1 ⟨z, s1, E1, rfl, hz, k1, k2, k3, k4, k5⟩
    cases z with
    | normal => exact ⟨.normal, s1, E1, rfl, hz, k1, k2, k3, k4, k5⟩
    | exit i =>
      simp only [AExit.toExit, Exit.inBlock]
      simp only [blockK] at hz
      split at hz
      · rename_i hi; rw [if_pos hi]; exact ⟨.normal, s1, E1, rfl, hz, k1, k2, k3, k4, k5⟩
      · rename_i hi; rw [if_neg hi]; exact ⟨.exit i, s1, E1, rfl, hz, k1, k2, k3, k4, k5⟩
    | ret => exact ⟨.ret, s1, E1, rfl, hz, k1, k2, k3, k4, k5⟩
  | .loop c, Q, s, h, base, E, a, w, hI, hN, hd => by
    obtain ⟨I, μ, h0, hround⟩ := h
    refine wpIn_loop_ghost (G := ASt) (fun g a' w' => I g ∧ ∃ E', Inv base E' g a'.tmps w' ∧ a'.tmps.size = N ∧ a'.defers = [] ∧ Below base w w' ∧ ExtF base E w E' w') μ ?_ (g := s) ⟨h0, E, hI, hN, hd, Below.refl _ _, ExtF.refl _ _ _⟩
    rintro g a1 w1 ⟨hg, E1, k1, k2, k3, k4, k5⟩
    refine wpIn_mono (awp_in hF hmix c _ g (hround g hg) k1 k2 k3) ?_
    rintro e a2 w2 ⟨z, s2, E2, rfl, hz, q1, q2, q3, q4, q5⟩
    cases z with
    | normal => exact ⟨s2, ⟨hz.1, E2, q1, q2, q3, k4.trans q4, k5.trans q5⟩, hz.2⟩
    | exit i => exact ⟨.exit i, s2, E2, rfl, hz, q1, q2, q3, k4.trans q4, k5.trans q5⟩
    | ret => exact ⟨.ret, s2, E2, rfl, hz, q1, q2, q3, k4.trans q4, k5.trans q5⟩
  | .rangeFunc _ _ _ _, Q, s, h, _, _, _, _, _, _, _ => h.elim
  | .scope _, Q, s, h, _, _, _, _, _, _, _ => h.elim
  | .label _, Q, s, h, _, _, _, _, _, _, _ => h.elim
  | .goto _, Q, s, h, _, _, _, _, _, _, _ => h.elim
  | .refuse _, Q, s, h, _, _, _, _, _, _, _ => h.elim

end
end Go.Abs

/- The walk inside a round, and which temporaries it keeps. -/
set_option linter.unusedVariables false
set_option linter.unusedSimpArgs false
namespace Go.Abs
open Go Go.RowKit

def keepsD (tks : List Nat) : Option Nat → Bool
  | some d => !tks.contains d
  | none => true
/-- No operation writes a temporary of tks. -/
def keepsC (tks : List Nat) : Code → Bool
  | .region _ ops _ => ops.toList.all fun o => keepsD tks o.dst
  | .seq a b => keepsC tks a && keepsC tks b
  | .cond _ a b => keepsC tks a && keepsC tks b
  | .block _ c => keepsC tks c
  | .loop c => keepsC tks c
  | _ => true
structure ExtT (tks : List Nat) (base : Nat) (E : Env) (tm : Array Value) (w : World) (E' : Env) (tm' : Array Value) (w' : World) : Prop where
  ext : ExtF base E w E' w'
  tmps : ∀ t ∈ tks, tm'.getD t Go.undef = tm.getD t Go.undef
theorem ExtT.refl (tks : List Nat) (base : Nat) (E : Env) (tm : Array Value) (w : World) : ExtT tks base E tm w E tm w := ⟨ExtF.refl _ _ _, fun _ _ => rfl⟩
theorem ExtT.of {tks : List Nat} {base : Nat} {E E' : Env} {tm : Array Value} {w w' : World} (h : ExtF base E w E' w') : ExtT tks base E tm w E' tm w' := ⟨h, fun _ _ => rfl⟩
theorem ExtT.trans {tks : List Nat} {base : Nat} {E E' E'' : Env} {tm tm' tm'' : Array Value} {w w' w'' : World} (h : ExtT tks base E tm w E' tm' w') (k : ExtT tks base E' tm' w' E'' tm'' w'') : ExtT tks base E tm w E'' tm'' w'' :=
  ⟨h.ext.trans k.ext, fun t ht => (k.tmps t ht).trans (h.tmps t ht)⟩
theorem putT_keeps {tks : List Nat} {dst : Option Nat} (h : keepsD tks dst = true) (tm : Array Value) (v : Value) : ∀ t ∈ tks, (putT tm dst v).getD t Go.undef = tm.getD t Go.undef := by
  intro t ht
  cases dst with
  | none => rfl
  | some d =>
    have hne : d ≠ t := by
      intro he; subst he
      simp [keepsD] at h
      exact h ht
    simp only [putT]
    rw [Array.getD_eq_getD_getElem?, Array.getD_eq_getD_getElem?, Array.getElem?_setIfInBounds_ne hne]

section
variable {F : Fence} {n : Nat} {P : Program} {mb : List Nat} {N : Nat} {ops : Array Oper} {tks : List Nat} {ds : List Deferred}
theorem wpOpIn_frame {Q : Exit → Act → World → Prop} {i : Nat} {K : Act → World → Prop} {a : Act} {w : World} (h : wpOpIn F n P ops Q i K a w) : wpOpIn F n P ops Q i (fun a' w' => K a' w' ∧ ∀ o, ops[i]? = some o → ∃ v, a'.tmps = putT a.tmps o.dst v) a w ∨ ops[i]? = none := by
  cases ho : ops[i]? with
  | none => exact .inr rfl
  | some o =>
    left
    unfold wpOpIn at h ⊢
    rw [ho] at h ⊢
    simp only at h ⊢
    split
    · rename_i hw
      rw [if_pos hw] at h
      unfold Oper.wpIn at h ⊢
      refine ⟨h.1, ?_⟩
      have h := h.2
      have key : ∀ v w', K (a.put o.dst v) w' → K (a.put o.dst v) w' ∧ ∀ o', some o = some o' → ∃ v', (a.put o.dst v).tmps = putT a.tmps o'.dst v' := fun v w' hk => ⟨hk, fun o' he => (by injection he with he; subst he; exact ⟨v, put_tmps _ _ _⟩)⟩
      generalize (o.semAt F.round a.eval).run P w = r at h
      cases r with
      | ok x w' =>
        cases x with
        | value v => exact key _ _ h
        | skip => exact key _ _ h
        | defer d => exact ⟨h, fun o' he => (by injection he with he; subst he; exact ⟨Go.undef, by cases o.dst <;> rfl⟩)⟩
        | enter f args => exact ⟨h.1, CallsIn.mono h.2 (fun e w'' he => by cases e with | returned v => exact key _ _ he | panicked ch => exact he | outgrown => exact he)⟩
        | row r args => exact ⟨h.1, RowsIn.mono h.2 (fun v w'' he => key _ _ he)⟩
        | round l f tmps asn bo => exact ⟨h.1, RoundIn.mono h.2 (fun e w'' he => by cases e with | returned v => exact key _ _ he | panicked ch => exact he | outgrown => exact he)⟩
        | _ => exact h
      | halt x w' => cases x <;> exact h
    · rename_i hw
      rw [if_neg hw] at h
      exact ⟨h.1, h.2, fun o' he => (by injection he with he; subst he; exact ⟨Go.undef, put_tmps _ _ _⟩)⟩

theorem astep_inT {base i : Nat} {E : Env} {s s' : ASt} {a : Act} {w : World} {acc : Acc} {Q : Exit → Act → World → Prop} (hF : Plain F) (hav : ∀ (i : Nat) (o : Oper), ops[i]? = some o → keepsD tks o.dst = true) (hI : Inv base E s a.tmps w) (hN : a.tmps.size = N) (h : AStep P mb N ops i s s' acc) {K : Act → World → Prop}
    (hK : ∀ a' w' E', Inv base E' s' a'.tmps w' → a'.tmps.size = N → a'.defers = a.defers → Below base w w' → ExtT tks base E a.tmps w E' a'.tmps w' → K a' w') : wpOpIn F n P ops Q i K a w := by
  have hs : ∃ o, ops[i]? = some o := by obtain ⟨o, ho, _⟩ := h; exact ⟨o, ho⟩
  obtain ⟨o, ho⟩ := hs
  have h1 := astep_in (n := n) (Q := Q) (K := fun a' w' => (∀ t ∈ tks, a'.tmps.getD t Go.undef = a.tmps.getD t Go.undef) → K a' w') hF hI hN h (fun a' w' E' k1 k2 k3 k4 k5 hk => hK a' w' E' k1 k2 k3 k4 ⟨k5, hk⟩)
  rcases wpOpIn_frame h1 with h2 | h2
  · refine wpOpIn_mono (fun a' w' hk => ?_) h2
    obtain ⟨v, hv⟩ := hk.2 o ho
    exact hk.1 (by rw [hv]; exact putT_keeps (hav i o ho) _ _)
  · rw [ho] at h2; cases h2

theorem arun_inT {base : Nat} {s s' : ASt} {L rest : List Nat} {tr : List (Nat × Acc)} {Q : Exit → Act → World → Prop} (hF : Plain F) (hav : ∀ (i : Nat) (o : Oper), ops[i]? = some o → keepsD tks o.dst = true) (h : ARun P mb N ops L s s' tr) : ∀ {E : Env} {a : Act} {w : World}, Inv base E s a.tmps w → a.tmps.size = N →
    (∀ a' w' E', Inv base E' s' a'.tmps w' → a'.tmps.size = N → a'.defers = a.defers → Below base w w' → ExtT tks base E a.tmps w E' a'.tmps w' → wpOpsIn F n P ops Q rest a' w') → wpOpsIn F n P ops Q (L ++ rest) a w := by
  induction h with
  | nil s => intro E a w hI hN hQ; exact hQ a w E hI hN rfl (Below.refl _ _) (ExtT.refl _ _ _ _ _)
  | cons h k ih =>
    intro E a w hI hN hQ
    rw [List.cons_append, wpOpsIn_cons]
    exact astep_inT hF hav hI hN h (fun a' w' E' h1 h2 h3 h4 h5 => ih h1 h2 (fun a2 w2 E2 g1 g2 g3 g4 g5 => hQ a2 w2 E2 g1 g2 (g3.trans h3) (h4.trans g4) (h5.trans g5)))

theorem any_inT {base : Nat} {Q : Exit → Act → World → Prop} (hF : Plain F) (hav : ∀ (i : Nat) (o : Oper), ops[i]? = some o → keepsD tks o.dst = true) (hedge : edgesOk 0 ops.toList = true) : ∀ (fuel : Nat) (R : List Nat) (listed : Array Bool) {E : Env} {s s' : ASt} {a : Act} {w : World} {tr : List (Nat × Acc)}, ARun P mb N ops R s s' tr → R.length = fuel → listed.size = ops.size →
    R.Pairwise (· < ·) → (∀ i, i ∈ R ↔ i < ops.size ∧ listed.getD i true = false) → (∀ k o, ops[k]? = some o → listed.getD k false = true → ∀ e ∈ o.after, Region.binds .any e = true → listed.getD e.on false = true) →
    tr.Pairwise (fun x y => pairOk ops (befs ops.toList []) x y = true) → Inv base E s a.tmps w → a.tmps.size = N →
    (∀ a' w' E', Inv base E' s' a'.tmps w' → a'.tmps.size = N → a'.defers = a.defers → Below base w w' → ExtT tks base E a.tmps w E' a'.tmps w' → Q .normal a' w') → wpAnyIn F n P .any ops Q fuel listed a w := by
  intro fuel
  have ready_nil : ∀ (R : List Nat) (listed : Array Bool), R.Pairwise (· < ·) → (∀ i, i ∈ R ↔ i < ops.size ∧ listed.getD i true = false) → listed.size = ops.size → Region.ready .any ops listed = [] → R = [] := by
    intro R listed hsort hmem hsz hr
    cases R with
    | nil => rfl
    | cons i R =>
      exfalso
      have hi := (hmem i).1 (by simp)
      have hin : i ∈ Region.ready .any ops listed := by
        rw [mem_ready]
        refine ⟨hi.2, ops[i]'hi.1, Array.getElem?_eq_getElem hi.1, fun e he hb => ?_⟩
        have hlt := edgesOk_spec _ 0 hedge i (ops[i]'hi.1) (by simp [hi.1]) e he hb
        rw [Nat.zero_add] at hlt
        have hnot : ¬ e.on ∈ (i :: R) := by
          intro hm
          rcases List.mem_cons.1 hm with h | h
          · omega
          · have := List.rel_of_pairwise_cons hsort h; omega
        have hlis : listed.getD e.on true = true := by
          by_cases hx : listed.getD e.on true = true
          · exact hx
          · exact absurd ((hmem e.on).2 ⟨by omega, by simpa using hx⟩) hnot
        have hb2 : e.on < listed.size := by omega
        simpa [Array.getD, hb2] using hlis
      rw [hr] at hin; cases hin
  induction fuel with
  | zero =>
    intro R listed E s s' a w tr hrun hlen hsz hsort hmem hclosed hpair hI hN hQ
    have hR : R = [] := List.eq_nil_of_length_eq_zero hlen
    subst hR
    cases hrun
    refine ⟨?_, hQ a w E hI hN rfl (Below.refl _ _) (ExtT.refl _ _ _ _ _)⟩
    cases hr : Region.ready .any ops listed with
    | nil => rfl
    | cons i rs =>
      have hi : i ∈ Region.ready .any ops listed := by rw [hr]; simp
      obtain ⟨h1, o, h2, _⟩ := mem_ready.1 hi
      exact absurd ((hmem i).2 ⟨(Array.getElem?_eq_some_iff.1 h2).1, h1⟩) (by simp)
  | succ fuel ih =>
    intro R listed E s s' a w tr hrun hlen hsz hsort hmem hclosed hpair hI hN hQ
    refine ⟨fun hr => ?_, fun i hi => ?_⟩
    · have := ready_nil R listed hsort hmem hsz hr
      subst this; simp at hlen
    · obtain ⟨hun, o, ho, hdeps⟩ := mem_ready.1 hi
      have hin : i ∈ R := (hmem i).2 ⟨(Array.getElem?_eq_some_iff.1 ho).1, hun⟩
      obtain ⟨R1, R2, rfl⟩ := List.append_of_mem hin
      obtain ⟨acc, tr1, tr2, rfl, h2, h3⟩ := move_front R1 hrun
      -- what lies before i in the text and is not carried out yet does not bind it
      have hlisted : ∀ m, ∀ i o, i < m → ops[i]? = some o → (∀ e ∈ o.after, Region.binds .any e = true → listed.getD e.on false = true) → ∀ k, ((befs ops.toList []).getD i 0).testBit k = true → listed.getD k false = true := by
        intro m
        induction m with
        | zero => intro i o h; omega
        | succ m ihn =>
          intro i o hlt ho hd k hk
          obtain ⟨e, e1, e2, e3⟩ := bef_dep (os := ops.toList) (o := o) (by simpa using ho) hk
          have hon := hd e e1 e2
          rcases e3 with e3 | e3
          · rw [← e3]; exact hon
          · have hlt2 := edgesOk_spec _ 0 hedge i o (by simpa using ho) e e1 e2
            have hsz2 : e.on < ops.size := by have := (Array.getElem?_eq_some_iff.1 ho).1; omega
            exact ihn e.on (ops[e.on]'hsz2) (by omega) (Array.getElem?_eq_getElem hsz2) (hclosed e.on _ (Array.getElem?_eq_getElem hsz2) hon) k e3
      have hall : ∀ x ∈ tr1, apartOp ops x.1 i = true ∧ memApart x.2 acc = true := by
        intro x hx
        have hp := (List.pairwise_append.1 hpair).2.2 x hx (i, acc) (by simp)
        simp only [pairOk, Bool.or_eq_true, Bool.and_eq_true] at hp
        rcases hp with hp | hp
        · exfalso
          have hl := hlisted (i + 1) i o (by omega) ho hdeps x.1 hp
          have hxR : x.1 ∈ R1 ++ i :: R2 := List.mem_append_left _ (by rw [← h2]; exact List.mem_map_of_mem hx)
          have := ((hmem x.1).1 hxR)
          have hb2 : x.1 < listed.size := by omega
          simp [Array.getD, hb2] at this hl
          rw [this.2] at hl; cases hl
        · exact hp
      obtain ⟨s1, g1, g2⟩ := h3 hall
      have hni : i ∉ R1 ++ R2 := by
        intro hm
        have hnd : (R1 ++ i :: R2).Nodup := hsort.imp (fun h => by omega)
        rw [List.nodup_append] at hnd
        rcases List.mem_append.1 hm with hm | hm
        · exact hnd.2.2 i hm i (by simp) rfl
        · exact (List.nodup_cons.1 hnd.2.1).1 hm
      have hilt : i < listed.size := by rw [hsz]; exact (Array.getElem?_eq_some_iff.1 ho).1
      refine astep_inT hF hav hI hN g1 (fun a' w' E' k1 k2 k3 k4 k5 => ?_)
      refine ih (R1 ++ R2) (listed.setIfInBounds i true) g2 (by simp at hlen ⊢; omega) (by simpa using hsz) ?_ (fun j => ?_) (fun k ok hk hkl e he hb => ?_) ?_ k1 k2 (fun a2 w2 E2 q1 q2 q3 q4 q5 => hQ a2 w2 E2 q1 q2 (q3.trans k3) (k4.trans q4) (k5.trans q5))
      · rw [List.pairwise_append] at hsort ⊢
        exact ⟨hsort.1, (List.pairwise_cons.1 hsort.2.1).2, fun x hx y hy => hsort.2.2 x hx y (List.mem_cons_of_mem _ hy)⟩
      · have hj : j ∈ R1 ++ R2 ↔ j ∈ R1 ++ i :: R2 ∧ j ≠ i := by
          constructor
          · intro hm
            refine ⟨?_, fun e => hni (e ▸ hm)⟩
            rcases List.mem_append.1 hm with hm | hm
            · exact List.mem_append_left _ hm
            · exact List.mem_append_right _ (List.mem_cons_of_mem _ hm)
          · rintro ⟨hm, hne⟩
            rcases List.mem_append.1 hm with hm | hm
            · exact List.mem_append_left _ hm
            · exact List.mem_append_right _ ((List.mem_cons.1 hm).resolve_left hne)
        rw [hj, hmem j]
        by_cases hji : j = i
        · subst hji; simp [hilt]
        · rw [getD_set_ne true (Ne.symm hji)]; simp [hji]
      · by_cases hki : k = i
        · subst hki
          rw [ho] at hk; injection hk with hk; subst hk
          exact getD_set_true (hdeps e he hb)
        · rw [getD_set_ne false (Ne.symm hki)] at hkl
          exact getD_set_true (hclosed k ok hk hkl e he hb)
      · rw [List.pairwise_append] at hpair ⊢
        exact ⟨hpair.1, (List.pairwise_cons.1 hpair.2.1).2, fun x hx y hy => hpair.2.2 x hx y (List.mem_cons_of_mem _ hy)⟩

/-- A region, its order drawn or not. -/
theorem region_inT {base : Nat} {Q : Exit → Act → World → Prop} (hF : Plain F) (hav : ∀ (i : Nat) (o : Oper), ops[i]? = some o → keepsD tks o.dst = true) (hmix : P.follows .mixedOrders = true) {id : Nat} {draw : Bool} {E : Env} {s s' : ASt} {a : Act} {w : World} {tr : List (Nat × Acc)} (hrun : ARun P mb N ops (List.range ops.size) s s' tr)
    (hok : draw = true → orderOk ops tr = true) (hI : Inv base E s a.tmps w) (hN : a.tmps.size = N)
    (hQ : ∀ a' w' E', Inv base E' s' a'.tmps w' → a'.tmps.size = N → a'.defers = a.defers → Below base w w' → ExtT tks base E a.tmps w E' a'.tmps w' → Q .normal a' w') : (Code.region id ops draw).wpIn F n P Q a w := by
  cases draw with
  | false => refine wpIn_region ?_; have := arun_inT (n := n) (Q := Q) hF hav (rest := []) hrun hI hN (fun a' w' E' q1 q2 q3 q4 q5 => (hQ a' w' E' q1 q2 q3 q4 q5 : Q .normal a' w')); simpa using this
  | true =>
    have hk := hok rfl
    simp only [orderOk, Bool.and_eq_true] at hk
    refine wpIn_region_any hmix (any_inT hF hav (base := base) (E := E) hk.1 ops.size (List.range ops.size) (Array.replicate ops.size false) hrun (by simp) (by simp) (range_sorted _) (fun i => ?_) (fun k o hk hkl => ?_) (pairsOk_pairwise hk.2) ?_ hN (fun a' w' E' h1 h2 h3 h4 h5 => hQ a' w' E' h1 h2 h3 ((Below.drew (Below.refl base w)).trans h4) ⟨⟨h5.ext.toExt, h5.ext.toFr.same, h5.ext.toFr.grew, h5.ext.toFr.own⟩, h5.tmps⟩))
    · rw [List.mem_range]
      constructor
      · intro h; exact ⟨h, by simp [Array.getD, h]⟩
      · exact fun h => h.1
    · exfalso
      have : (Array.replicate ops.size false).getD k false = false := by simp [Array.getD]
      rw [this] at hkl; cases hkl
    · exact hI.env (Env.le.refl _) rfl rfl (w' := w.drew) hI.phi hI.psi hI.sub (fun a v h => .inl h) (fun _ _ => rfl) (Nat.le_refl _)

def PostT (ds : List Deferred) (tks : List Nat) (base N : Nat) (E : Env) (tm : Array Value) (w : World) (Q : AExit → ASt → Prop) : Exit → Act → World → Prop := fun e a' w' =>
  ∃ x s' E', e = AExit.toExit x ∧ Q x s' ∧ Inv base E' s' a'.tmps w' ∧ a'.tmps.size = N ∧ a'.defers = ds ∧ Below base w w' ∧ ExtT tks base E tm w E' a'.tmps w'
theorem keepsC_fst {x y : Bool} (h : (x && y) = true) : x = true := by cases x <;> simp_all
theorem keepsC_snd {x y : Bool} (h : (x && y) = true) : y = true := by cases x <;> simp_all
theorem keepsC_ops {ops : Array Oper} (h : (ops.toList.all fun o => keepsD tks o.dst) = true) : ∀ (i : Nat) (o : Oper), ops[i]? = some o → keepsD tks o.dst = true := by
  intro i o ho
  exact List.all_eq_true.1 h o (List.mem_of_getElem? (i := i) (by simpa using ho))

theorem awp_inT (hF : Plain F) (hmix : P.follows .mixedOrders = true) : ∀ (c : Code) (hav : keepsC tks c = true) (Q : AExit → ASt → Prop) (s : ASt), AWp P mb N c Q s → ∀ {base : Nat} {E : Env} {a : Act} {w : World}, Inv base E s a.tmps w → a.tmps.size = N → a.defers = ds →
    c.wpIn F n P (PostT ds tks base N E a.tmps w Q) a w
  | .skip, hav, Q, s, h, base, E, a, w, hI, hN, hd => wpIn_skip ⟨.normal, s, E, rfl, h, hI, hN, hd, Below.refl _ _, ExtT.refl _ _ _ _ _⟩
  | .exit id, hav, Q, s, h, base, E, a, w, hI, hN, hd => wpIn_exit ⟨.exit id, s, E, rfl, h, hI, hN, hd, Below.refl _ _, ExtT.refl _ _ _ _ _⟩
  | .ret, hav, Q, s, h, base, E, a, w, hI, hN, hd => wpIn_ret ⟨.ret, s, E, rfl, h, hI, hN, hd, Below.refl _ _, ExtT.refl _ _ _ _ _⟩
  | .region id ops draw, hav, Q, s, h, base, E, a, w, hI, hN, hd => by
    obtain ⟨s', tr', h1, h2, h3⟩ := aops_run ops.toList 0 _ [] _ (by simp) h
    obtain ⟨E1, hI1, hE1⟩ := hI.killL (freshOf mb id)
    simp only [List.nil_append] at h2
    rw [← List.range_eq_range'] at h1
    simp only [Array.length_toList] at h1
    exact region_inT hF (keepsC_ops hav) hmix h1 h2 hI1 hN (fun a' w' E' k1 k2 k3 k4 k5 => ⟨.normal, s', E', rfl, h3, k1, k2, by rw [k3]; exact hd, k4, (ExtT.of hE1).trans k5⟩)
  | .seq x y, hav, Q, s, h, base, E, a, w, hI, hN, hd => by
    refine wpIn_seq (wpIn_mono (awp_inT hF hmix x (keepsC_fst hav) _ s h hI hN hd) ?_)
    rintro e a1 w1 ⟨z, s1, E1, rfl, hz, k1, k2, k3, k4, k5⟩
    cases z with
    | normal =>
      refine wpIn_mono (awp_inT hF hmix y (keepsC_snd hav) Q s1 hz k1 k2 k3) ?_
      rintro e a2 w2 ⟨z, s2, E2, rfl, hz2, q1, q2, q3, q4, q5⟩
      exact ⟨z, s2, E2, rfl, hz2, q1, q2, q3, k4.trans q4, k5.trans q5⟩
    | exit id => exact ⟨.exit id, s1, E1, rfl, hz, k1, k2, k3, k4, k5⟩
    | ret => exact ⟨.ret, s1, E1, rfl, hz, k1, k2, k3, k4, k5⟩
  | .cond c x y, hav, Q, s, h, base, E, a, w, hI, hN, hd => by
    simp only [AWp] at h
    have hc := hI.eval c
    split at h
    · rename_i t ht
      rw [ht] at hc
      have hv := rel_bool hc
      refine wpIn_cond hv ?_
      split at h
      · rename_i htt; rw [if_pos htt]; exact awp_inT hF hmix x (keepsC_fst hav) Q s h hI hN hd
      · rename_i htt; rw [if_neg htt]; exact awp_inT hF hmix y (keepsC_snd hav) Q s h hI hN hd
    · exact h.elim
  | .block id c, hav, Q, s, h, base, E, a, w, hI, hN, hd => by
    refine wpIn_block (wpIn_mono (awp_inT hF hmix c hav _ s h hI hN hd) ?_)
    rintro e a1 w1 ⟨z, s1, E1, rfl, hz, k1, k2, k3, k4, k5⟩
    cases z with
    | normal => exact ⟨.normal, s1, E1, rfl, hz, k1, k2, k3, k4, k5⟩
    | exit i =>
      simp only [AExit.toExit, Exit.inBlock]
      simp only [blockK] at hz
      split at hz
      · rename_i hi; rw [if_pos hi]; exact ⟨.normal, s1, E1, rfl, hz, k1, k2, k3, k4, k5⟩
      · rename_i hi; rw [if_neg hi]; exact ⟨.exit i, s1, E1, rfl, hz, k1, k2, k3, k4, k5⟩
    | ret => exact ⟨.ret, s1, E1, rfl, hz, k1, k2, k3, k4, k5⟩
  | .loop c, hav, Q, s, h, base, E, a, w, hI, hN, hd => by
    obtain ⟨I, μ, h0, hround⟩ := h
    refine wpIn_loop_ghost (G := ASt) (fun g a' w' => I g ∧ ∃ E', Inv base E' g a'.tmps w' ∧ a'.tmps.size = N ∧ a'.defers = ds ∧ Below base w w' ∧ ExtT tks base E a.tmps w E' a'.tmps w') μ ?_ (g := s) ⟨h0, E, hI, hN, hd, Below.refl _ _, ExtT.refl _ _ _ _ _⟩
    rintro g a1 w1 ⟨hg, E1, k1, k2, k3, k4, k5⟩
    refine wpIn_mono (awp_inT hF hmix c hav _ g (hround g hg) k1 k2 k3) ?_
    rintro e a2 w2 ⟨z, s2, E2, rfl, hz, q1, q2, q3, q4, q5⟩
    cases z with
    | normal => exact ⟨s2, ⟨hz.1, E2, q1, q2, q3, k4.trans q4, k5.trans q5⟩, hz.2⟩
    | exit i => exact ⟨.exit i, s2, E2, rfl, hz, q1, q2, q3, k4.trans q4, k5.trans q5⟩
    | ret => exact ⟨.ret, s2, E2, rfl, hz, q1, q2, q3, k4.trans q4, k5.trans q5⟩
  | .rangeFunc _ _ _ _, hav, Q, s, h, _, _, _, _, _, _, _ => h.elim
  | .scope _, hav, Q, s, h, _, _, _, _, _, _, _ => h.elim
  | .label _, hav, Q, s, h, _, _, _, _, _, _, _ => h.elim
  | .goto _, hav, Q, s, h, _, _, _, _, _, _, _ => h.elim
  | .refuse _, hav, Q, s, h, _, _, _, _, _, _, _ => h.elim

end
end Go.Abs

/- A function that is ranged over: the walk of its code, with the rounds that it asks for. -/
set_option linter.unusedVariables false
set_option linter.unusedSimpArgs false
namespace Go.Abs
open Go Go.RowKit

/-- At a yield: the boxes are only read from here on. -/
def frz (s : ASt) : ASt := ⟨fun i => (closeP s.h 9 (s.t i)).getD .top, fun _ => none⟩

def AOpsY (P : Program) (G : List Dat → Dat → Prop) (l : Nat) (mb : List Nat) (N : Nat) (ops : Array Oper) : Nat → List Oper → ASt → List Dat → (ASt → List Dat → Prop) → Prop
  | _, [], s, L, K => K s L
  | i, o :: os, s, L, K => dstOk N o.dst = true ∧ match wantedA ops s o.guard with
    | some b => if b = true then match isCall o.op with
        | some (f, args) => (match s.eval f with
          | .yld l' => l' = l ∧ ∃ d, args.toList.map s.eval = [.dat d] ∧ G L d ∧ AOpsY P G l mb N ops (i + 1) os ((frz s).put o.dst (.dat (.bool true))) (L ++ [d]) K
          | _ => match callOf s f args with
            | some (g, qs, b) => ∃ r, (b = true ∨ r.isDat = true) ∧ RCall P g qs r ∧ AOpsY P G l mb N ops (i + 1) os (s.put o.dst r) L K
            | none => False)
        | none => match sem P mb o.dst s o.op with
          | some r => match applyR o.dst s r with
            | some s' => AOpsY P G l mb N ops (i + 1) os s' L K
            | none => False
          | none => False
      else AOpsY P G l mb N ops (i + 1) os (s.put o.dst .undef) L K
    | none => False

def seqKY (next : ASt → List Dat → Prop) (Q : AExit → ASt → List Dat → Prop) : AExit → ASt → List Dat → Prop
  | .normal, s, L => next s L
  | e, s, L => Q e s L
def blockKY (id : Nat) (Q : AExit → ASt → List Dat → Prop) : AExit → ASt → List Dat → Prop
  | .exit i, s, L => if i = id then Q .normal s L else Q (.exit i) s L
  | e, s, L => Q e s L
def loopKY (I : ASt → List Dat → Prop) (μ : ASt → List Dat → Nat) (s0 : ASt) (L0 : List Dat) (Q : AExit → ASt → List Dat → Prop) : AExit → ASt → List Dat → Prop
  | .normal, s, L => I s L ∧ μ s L < μ s0 L0
  | e, s, L => Q e s L

def AWpY (P : Program) (G : List Dat → Dat → Prop) (l : Nat) (mb : List Nat) (N : Nat) : Code → (AExit → ASt → List Dat → Prop) → ASt → List Dat → Prop
  | .skip, Q, s, L => Q .normal s L
  | .region id ops draw, Q, s, L => draw = false ∧ AOpsY P G l mb N ops 0 ops.toList (ASt.killL (freshOf mb id) s) L (Q .normal)
  | .seq a b, Q, s, L => AWpY P G l mb N a (seqKY (AWpY P G l mb N b Q) Q) s L
  | .cond c a b, Q, s, L => match s.eval c with
    | .dat (.bool t) => if t = true then AWpY P G l mb N a Q s L else AWpY P G l mb N b Q s L
    | _ => False
  | .block id c, Q, s, L => AWpY P G l mb N c (blockKY id Q) s L
  | .loop c, Q, s, L => ∃ (I : ASt → List Dat → Prop) (μ : ASt → List Dat → Nat), I (frz s) L ∧ ∀ s' L', I s' L' → AWpY P G l mb N c (loopKY I μ s' L' Q) s' L'
  | .exit id, Q, s, L => Q (.exit id) s L
  | .ret, Q, s, L => Q .ret s L
  | _, _, _, _ => False

/-! ### what the two share -/
/-- J L O w: the rounds so far were of L, the one who ranges may write the blocks of O. -/
abbrev Joint := List Dat → (Nat → Prop) → World → Prop
structure Joint.Ok (J : Joint) (Cn : Addr → Prop) : Prop where
  new : ∀ L O w, J L O w → ∀ a : Addr, w.heap.size ≤ a.block → Cn a
  stable : ∀ L O w w', J L O w → Below w.heap.size w w' → J L O w'
  old : ∀ L O w, J L O w → ∀ k, O k → k < w.heap.size

/-- A round on x. -/
def RoundY (P : Program) (G : List Dat → Dat → Prop) (l : Nat) (J : Joint) (Cn : Addr → Prop) : Prop := ∀ (n : Nat) (L : List Dat) (d : Dat) (x : Value) (O : Nat → Prop) (W : World) (Φ : Mem), G L d → J L O W → (∀ a v, Φ a = some v → W.cell? a = some v ∧ ¬ O a.block ∧ Cn a) → RelD Φ d x →
  ∃ f tmps assign body, (Instr.yield l #[x]).run P W = .ok (.round l f tmps assign body) W ∧ RoundIn Fence.wide n P l f tmps assign body W (fun e W' => e = .returned (.bool true) ∧ ∃ O', J (L ++ [d]) O' W' ∧ W.heap.size ≤ W'.heap.size ∧
    (∀ k, k < W.heap.size → ¬ O k → W'.heap[k]? = W.heap[k]?) ∧ (∀ k, O' k → O k ∨ W.heap.size ≤ k))

def JT (J : Joint) (Cn : Addr → Prop) (N : Nat) (s : ASt) (L : List Dat) (a : Act) (w : World) : Prop :=
  ∃ O W0 E, J L O W0 ∧ (∀ a v, E.Ψ a = some v → ¬ O a.block) ∧ (∀ a v, E.Φ a = some v → Cn a) ∧ Inv W0.heap.size E s a.tmps w ∧ a.tmps.size = N ∧ a.defers = [] ∧ Below W0.heap.size W0 w

theorem cell_same {w w' : World} {a : Addr} (h : w'.heap[a.block]? = w.heap[a.block]?) : w'.cell? a = w.cell? a := by
  unfold World.cell?
  rw [h]

section
variable {P : Program} {G : List Dat → Dat → Prop} {l : Nat} {mb : List Nat} {N n : Nat} {ops : Array Oper} {J : Joint} {Cn : Addr → Prop}

theorem wide_plain : Plain Fence.wide := .inl rfl

/-- An operation that is no yield. -/
theorem stepY {i : Nat} {s s' : ASt} {L : List Dat} {acc : Acc} {Q : Exit → Act → World → Prop} (hJ : J.Ok Cn) (h : AStep P mb N ops i s s' acc) {K : Act → World → Prop} {a : Act} {w : World} (ht : JT J Cn N s L a w)
    (hK : ∀ a' w', JT J Cn N s' L a' w' → K a' w') : wpOpIn Fence.wide n P ops Q i K a w := by
  obtain ⟨O, W0, E, h1, h2, h2c, hI, hN, hd, hB⟩ := ht
  refine astep_in wide_plain hI hN h (fun a' w' E' k1 k2 k3 k4 k5 => hK a' w' ⟨O, W0, E', h1, fun ad v hv ho => ?_, fun ad v hv => (k5.newp ad v hv).elim (h2c ad v) (hJ.new _ _ _ h1 ad), k1, k2, k3.trans hd, hB.trans k4⟩)
  rcases k5.new ad v hv with hv | hv
  · exact h2 ad v hv ho
  · have := hJ.old _ _ _ h1 _ ho; omega

/-- A yield. -/
theorem yieldY {i : Nat} {o : Oper} {s : ASt} {L : List Dat} {Q : Exit → Act → World → Prop} (hJ : J.Ok Cn) (hR : RoundY P G l J Cn) (ho : ops[i]? = some o) (hd : dstOk N o.dst = true) (hw : wantedA ops s o.guard = some true) {f : Operand} {args : Array Operand} (hc : isCall o.op = some (f, args))
    (hf : s.eval f = .yld l) {x : Operand} {d : Dat} (hx : args.toList = [x]) (hxd : s.eval x = .dat d) (hG : G L d) {K : Act → World → Prop} {a : Act} {w : World} (ht : JT J Cn N s L a w)
    (hK : ∀ a' w', JT J Cn N ((frz s).put o.dst (.dat (.bool true))) (L ++ [d]) a' w' → K a' w') : wpOpIn Fence.wide n P ops Q i K a w := by
  obtain ⟨O, W0, E, h1, h2, h2c, hI, hN, hdf, hB⟩ := ht
  have hax : args = #[x] := by apply Array.ext'; simpa using hx
  subst hax
  have hfv := hI.eval f
  rw [hf] at hfv
  have hxv := hI.eval x
  rw [hxd] at hxv
  have hxr : RelD E.Φ d (a.eval x) := by cases hxv; assumption
  have hJw : J L O w := hJ.stable _ _ _ _ h1 hB
  obtain ⟨fn, tmps, assign, body, hy, hround⟩ := hR (n - 1) L d (a.eval x) O w E.Φ hG hJw (fun ad v hv => ⟨hI.phi ad v hv, h2 ad v (hI.sub ad v hv), h2c ad v hv⟩) hxr
  unfold wpOpIn
  rw [ho]
  simp only
  rw [wanted_sound hI hw, if_pos rfl]
  refine ⟨fun _ _ => trivial, ?_⟩
  have hop : ∃ ts, o.op = .call ⟨.value f, #[x], ts⟩ := by
    unfold isCall at hc
    split at hc
    · rename_i f' args' ts hop
      injection hc with hc
      simp only [Prod.mk.injEq] at hc
      obtain ⟨rfl, rfl⟩ := hc
      exact ⟨ts, hop⟩
    · cases hc
  obtain ⟨ts, hop⟩ := hop
  rw [Oper.semAt_eq _ _ _ (by intro c hcc; rw [hop] at hcc; cases hcc)]
  have hexec : (execOp a.eval o).run P w = .ok (.round l fn tmps assign body) w := by
    have hv : a.eval f = .func (.yield l) #[] #[] := by generalize a.eval f = v at hfv; cases hfv; rfl
    simp only [execOp, hop, resolve, hv, Deferred.ofValue, Sem.run_bind, Sem.run_pure, Result.andThen_ok, invoke]
    rw [← hy]
    simp
  rw [hexec, Oper.uponIn_round]
  refine ⟨fun hd => (by cases hd), hround.mono ?_⟩
  rintro e W' ⟨rfl, O', k1, k2, k3, k4⟩
  show K _ _
  refine hK _ _ ?_
  have hlt : ∀ (ad : Addr) (v : Value), w.cell? ad = some v → ad.block < w.heap.size := by
    intro ad v hv
    rcases Nat.lt_or_ge ad.block w.heap.size with h | h
    · exact h
    · unfold World.cell? at hv
      rw [Array.getElem?_eq_none h] at hv
      cases hv
  have hbox : ∀ (f : Mem) (ad : Addr) (v : Value), (∀ a v, f a = some v → E.Ψ a = some v) → boxMem E w s.h f ad = some v → w.cell? ad = some v ∧ ¬ O ad.block := by
    intro f ad v hf hv
    unfold boxMem at hv
    split at hv
    · rename_i hc
      obtain ⟨t, cs, _, hβ⟩ := hc
      refine ⟨hv, fun hO => ?_⟩
      have := (hI.bsep t _ hβ).1
      have := hJ.old _ _ _ h1 _ hO
      omega
    · exact ⟨hI.psi ad v (hf ad v hv), h2 ad v (hf ad v hv)⟩
  have hcell : ∀ (f : Mem) (ad : Addr) (v : Value), (∀ a v, f a = some v → E.Ψ a = some v) → boxMem E w s.h f ad = some v → W'.cell? ad = some v := by
    intro f ad v hf hv
    obtain ⟨q1, q2⟩ := hbox f ad v hf hv
    rw [cell_same (k3 _ (hlt ad v q1) q2)]; exact q1
  have hInv : Inv W'.heap.size (E0 (boxMem E w s.h E.Φ) (boxMem E w s.h E.Ψ)) (frz s) a.tmps W' := by
    refine ⟨fun i => ?_, fun ad v hv => hcell _ ad v hI.sub hv, fun ad v hv => hcell _ ad v (fun _ _ h => h) hv, fun ad v ha => ?_, fun t cs h => by simp [frz] at h, fun t b h => by simp [E0] at h, fun t t' b h => by simp [E0] at h, fun k v e z h => by simp [E0] at h, fun k k' v v' e e' z z' g h => by simp [E0] at h, Nat.le_refl _, fun t _ => rfl⟩
    · simp only [frz]
      cases hc : closeP s.h 9 (s.t i) with
      | none => exact .top _
      | some q => exact close_rel hI (fun _ _ h => h) (fun ad v ha => boxMem_le hI hI.sub ad v ha) (fun _ _ h => h) 9 _ q _ (hI.tm i) hc
    · have ha' : boxMem E w s.h E.Φ ad = some v := ha
      show boxMem E w s.h E.Ψ ad = some v
      unfold boxMem at ha' ⊢
      split at ha'
      · rename_i hc; rw [if_pos hc]; exact ha'
      · rename_i hc; rw [if_neg hc]; exact hI.sub ad v ha'
  have hcn : ∀ (ad : Addr) (v : Value), boxMem E w s.h E.Φ ad = some v → Cn ad := by
    intro ad v hv
    unfold boxMem at hv
    split at hv
    · rename_i hc
      obtain ⟨t, cs, _, hβ⟩ := hc
      exact hJ.new _ _ _ h1 ad (hI.bsep t _ hβ).1
    · exact h2c ad v hv
  refine ⟨O', W', _, k1, fun ad v hv hO => ?_, hcn, by rw [put_tmps]; exact hInv.put o.dst (.dat _ _ (.bool true)) (by rw [hN]; exact hd), by rw [put_tmps, putT_size]; exact hN, (put_defers _ _ _).trans hdf, Below.refl _ _⟩
  obtain ⟨q1, q2⟩ := hbox _ ad v (fun _ _ h => h) hv
  rcases k4 _ hO with h | h
  · exact q2 h
  · have := hlt ad v q1; omega

theorem aopsY_sound (hJ : J.Ok Cn) (hR : RoundY P G l J Cn) {Q : Exit → Act → World → Prop} : ∀ (os : List Oper) (i : Nat) (s : ASt) (L : List Dat) (K : ASt → List Dat → Prop), (∀ j, os[j]? = ops[i + j]?) → AOpsY P G l mb N ops i os s L K →
    ∀ {a : Act} {w : World}, JT J Cn N s L a w → (∀ s' L' a' w', K s' L' → JT J Cn N s' L' a' w' → Q .normal a' w') → wpOpsIn Fence.wide n P ops Q (List.range' i os.length) a w
  | [], i, s, L, K, _, h, a, w, ht, hK => hK s L a w h ht
  | o :: os, i, s, L, K, hos, h, a, w, ht, hK => by
    have ho : ops[i]? = some o := by have := hos 0; simpa using this.symm
    have hos' : ∀ j, os[j]? = ops[i + 1 + j]? := fun j => by have := hos (j + 1); rw [show i + (j + 1) = i + 1 + j by omega] at this; simpa using this
    simp only [AOpsY] at h
    obtain ⟨hd, h⟩ := h
    rw [List.length_cons, List.range'_succ, wpOpsIn_cons]
    have fin : ∀ (s1 : ASt) (acc : Acc), AStep P mb N ops i s s1 acc → AOpsY P G l mb N ops (i + 1) os s1 L K → wpOpIn Fence.wide n P ops Q i (wpOpsIn Fence.wide n P ops Q (List.range' (i + 1) os.length)) a w := by
      intro s1 acc hs hk
      exact stepY hJ hs ht (fun a' w' ht' => aopsY_sound hJ hR os (i + 1) s1 L K hos' hk ht' hK)
    split at h
    · rename_i b hb
      split at h
      · rename_i hbt
        rw [hbt] at hb
        split at h
        · rename_i f args hc
          split at h
          · rename_i l' hf
            obtain ⟨hl, d, hmap, hG, hk⟩ := h
            rw [hl] at hf
            obtain ⟨x, hx, hxd⟩ := List.map_eq_singleton_iff.1 hmap
            exact yieldY hJ hR ho hd hb hc hf hx hxd hG ht (fun a' w' ht' => aopsY_sound hJ hR os (i + 1) _ _ K hos' hk ht' hK)
          · split at h
            · rename_i g qs b' hcall
              obtain ⟨r, h1, h2, h3⟩ := h
              exact fin _ _ ⟨o, ho, hd, .inr (.inr ⟨hb, f, args, g, qs, b', r, hc, hcall, h1, h2, rfl, rfl⟩)⟩ h3
            · exact h.elim
        · split at h
          · rename_i r hs
            split at h
            · rename_i s1 ha
              exact fin _ _ ⟨o, ho, hd, .inr (.inl ⟨hb, r, hs, ha, rfl⟩)⟩ h
            · exact h.elim
          · exact h.elim
      · rename_i hbt
        have : b = false := by simpa using hbt
        rw [this] at hb
        exact fin _ _ ⟨o, ho, hd, .inl ⟨hb, rfl, rfl⟩⟩ h
    · exact h.elim

theorem JT.killL (hJ : J.Ok Cn) {s : ASt} {L : List Dat} {a : Act} {w : World} (h : JT J Cn N s L a w) (ds : List Nat) : JT J Cn N (ASt.killL ds s) L a w := by
  obtain ⟨O, W0, E, h1, h2, h2c, hI, hN, hd, hB⟩ := h
  obtain ⟨E1, hI1, hE1⟩ := hI.killL ds
  refine ⟨O, W0, E1, h1, fun ad v hv ho => ?_, fun ad v hv => (hE1.newp ad v hv).elim (h2c ad v) (hJ.new _ _ _ h1 ad), hI1, hN, hd, hB⟩
  rcases hE1.new ad v hv with hv | hv
  · exact h2 ad v hv ho
  · have := hJ.old _ _ _ h1 _ ho; omega

theorem JT.frz (hJ : J.Ok Cn) {s : ASt} {L : List Dat} {a : Act} {w : World} (h : JT J Cn N s L a w) : JT J Cn N (frz s) L a w := by
  obtain ⟨O, W0, E, h1, h2, h2c, hI, hN, hd, hB⟩ := h
  have hcn : ∀ (ad : Addr) (v : Value), boxMem E w s.h E.Φ ad = some v → Cn ad := by
    intro ad v hv
    unfold boxMem at hv
    split at hv
    · rename_i hc
      obtain ⟨t, cs, _, hβ⟩ := hc
      exact hJ.new _ _ _ h1 ad (hI.bsep t _ hβ).1
    · exact h2c ad v hv
  have hbox : ∀ (f : Mem) (ad : Addr) (v : Value), (∀ a v, f a = some v → E.Ψ a = some v) → boxMem E w s.h f ad = some v → w.cell? ad = some v ∧ ¬ O ad.block := by
    intro f ad v hf hv
    unfold boxMem at hv
    split at hv
    · rename_i hc
      obtain ⟨t, cs, _, hβ⟩ := hc
      refine ⟨hv, fun hO => ?_⟩
      have := (hI.bsep t _ hβ).1
      have := hJ.old _ _ _ h1 _ hO
      omega
    · exact ⟨hI.psi ad v (hf ad v hv), h2 ad v (hf ad v hv)⟩
  refine ⟨O, w, E0 (boxMem E w s.h E.Φ) (boxMem E w s.h E.Ψ), hJ.stable _ _ _ _ h1 hB, fun ad v hv => (hbox _ ad v (fun _ _ h => h) hv).2, hcn, ⟨fun i => ?_, fun ad v hv => (hbox _ ad v hI.sub hv).1, fun ad v hv => (hbox _ ad v (fun _ _ h => h) hv).1, fun ad v ha => ?_, fun t cs h => by simp [Go.Abs.frz] at h, fun t b h => by simp [E0] at h, fun t t' b h => by simp [E0] at h, fun k v e z h => by simp [E0] at h, fun k k' v v' e e' z z' g h => by simp [E0] at h, Nat.le_refl _, fun t _ => rfl⟩, hN, hd, Below.refl _ _⟩
  · simp only [Go.Abs.frz]
    cases hc : closeP s.h 9 (s.t i) with
    | none => exact .top _
    | some q => exact close_rel hI (fun _ _ h => h) (fun ad v ha => boxMem_le hI hI.sub ad v ha) (fun _ _ h => h) 9 _ q _ (hI.tm i) hc
  · have ha' : boxMem E w s.h E.Φ ad = some v := ha
    show boxMem E w s.h E.Ψ ad = some v
    unfold boxMem at ha' ⊢
    split at ha'
    · rename_i hc; rw [if_pos hc]; exact ha'
    · rename_i hc; rw [if_neg hc]; exact hI.sub ad v ha'

def PostY (J : Joint) (Cn : Addr → Prop) (N : Nat) (Q : AExit → ASt → List Dat → Prop) : Exit → Act → World → Prop := fun e a' w' => ∃ x s' L', e = AExit.toExit x ∧ Q x s' L' ∧ JT J Cn N s' L' a' w'

theorem awpY_sound (hJ : J.Ok Cn) (hR : RoundY P G l J Cn) : ∀ (c : Code) (Q : AExit → ASt → List Dat → Prop) (s : ASt) (L : List Dat), AWpY P G l mb N c Q s L → ∀ {a : Act} {w : World}, JT J Cn N s L a w → c.wpIn Fence.wide n P (PostY J Cn N Q) a w
  | .skip, Q, s, L, h, a, w, ht => wpIn_skip ⟨.normal, s, L, rfl, h, ht⟩
  | .exit id, Q, s, L, h, a, w, ht => wpIn_exit ⟨.exit id, s, L, rfl, h, ht⟩
  | .ret, Q, s, L, h, a, w, ht => wpIn_ret ⟨.ret, s, L, rfl, h, ht⟩
  | .region id ops draw, Q, s, L, h, a, w, ht => by
    obtain ⟨rfl, h⟩ := h
    refine wpIn_region ?_
    have := aopsY_sound (n := n) (Q := PostY J Cn N Q) hJ hR ops.toList 0 _ L _ (by simp) h (ht.killL hJ _) (fun s' L' a' w' hk ht' => ⟨.normal, s', L', rfl, hk, ht'⟩)
    rw [← List.range_eq_range'] at this
    simpa using this
  | .seq x y, Q, s, L, h, a, w, ht => by
    refine wpIn_seq (wpIn_mono (awpY_sound hJ hR x _ s L h ht) ?_)
    rintro e a1 w1 ⟨z, s1, L1, rfl, hz, ht1⟩
    cases z with
    | normal => exact awpY_sound hJ hR y Q s1 L1 hz ht1
    | exit id => exact ⟨.exit id, s1, L1, rfl, hz, ht1⟩
    | ret => exact ⟨.ret, s1, L1, rfl, hz, ht1⟩
  | .cond c x y, Q, s, L, h, a, w, ht => by
    simp only [AWpY] at h
    have hc : RelP ht.choose_spec.choose_spec.choose (s.eval c) (a.eval c) := ht.choose_spec.choose_spec.choose_spec.2.2.2.1.eval c
    split at h
    · rename_i t ht'
      rw [ht'] at hc
      have hv := rel_bool hc
      refine wpIn_cond hv ?_
      split at h
      · rename_i htt; rw [if_pos htt]; exact awpY_sound hJ hR x Q s L h ht
      · rename_i htt; rw [if_neg htt]; exact awpY_sound hJ hR y Q s L h ht
    · exact h.elim
  | .block id c, Q, s, L, h, a, w, ht => by
    refine wpIn_block (wpIn_mono (awpY_sound hJ hR c _ s L h ht) ?_)
    rintro e a1 w1 ⟨z, s1, L1, rfl, hz, ht1⟩
    cases z with
    | normal => exact ⟨.normal, s1, L1, rfl, hz, ht1⟩
    | exit i =>
      simp only [AExit.toExit, Exit.inBlock]
      simp only [blockKY] at hz
      split at hz
      · rename_i hi; rw [if_pos hi]; exact ⟨.normal, s1, L1, rfl, hz, ht1⟩
      · rename_i hi; rw [if_neg hi]; exact ⟨.exit i, s1, L1, rfl, hz, ht1⟩
    | ret => exact ⟨.ret, s1, L1, rfl, hz, ht1⟩
  | .loop c, Q, s, L, h, a, w, ht => by
    obtain ⟨I, μ, h0, hround⟩ := h
    refine wpIn_loop_ghost (G := ASt × List Dat) (fun g a' w' => I g.1 g.2 ∧ JT J Cn N g.1 g.2 a' w') (fun g => μ g.1 g.2) ?_ (g := (frz s, L)) ⟨h0, ht.frz hJ⟩
    rintro ⟨g, L1⟩ a1 w1 ⟨hg, ht1⟩
    refine wpIn_mono (awpY_sound hJ hR c _ g L1 (hround g L1 hg) ht1) ?_
    rintro e a2 w2 ⟨z, s2, L2, rfl, hz, ht2⟩
    cases z with
    | normal => exact ⟨(s2, L2), ⟨hz.1, ht2⟩, hz.2⟩
    | exit i => exact ⟨.exit i, s2, L2, rfl, hz, ht2⟩
    | ret => exact ⟨.ret, s2, L2, rfl, hz, ht2⟩
  | .rangeFunc _ _ _ _, Q, s, L, h, _, _, _ => h.elim
  | .scope _, Q, s, L, h, _, _, _ => h.elim
  | .label _, Q, s, L, h, _, _, _ => h.elim
  | .goto _, Q, s, L, h, _, _, _ => h.elim
  | .refuse _, Q, s, L, h, _, _, _ => h.elim

/-! ### the function -/
/-- The function f, ranged over by the loop l, asks for a round for each of 'out' in turn. -/
def ICall (P : Program) (G : List Dat → Dat → Prop) (f l : Nat) (qs : List PVal) (out : List Dat) : Prop :=
  (∀ args w, (callFunc f args).run P w = .ok (.enter f args) w) ∧
  ∀ (J : Joint) (Cn : Addr → Prop), J.Ok Cn → RoundY P G l J Cn → ∀ (O : Nat → Prop) (w : World) (Φ Ψ : Mem) (vs : List Value), J [] O w → (∀ a v, Φ a = some v → w.cell? a = some v ∧ Cn a) → (∀ a v, Ψ a = some v → w.cell? a = some v ∧ ¬ O a.block) → (∀ a v, Φ a = some v → Ψ a = some v) →
    RelArgs (E0 Φ Ψ) qs vs → Calls P f vs.toArray w fun e w' => (∃ v, e = .returned v) ∧ ∃ O', J out O' w'

def retKY (out : List Dat) : AExit → ASt → List Dat → Prop
  | .exit _, _, _ => False
  | _, _, L => L = out

theorem icall_of {f : Nat} {fn : Func} {c : Code} {qs : List PVal} {out : List Dat} (mb : List Nat) (hf : P.funcs[f]? = some fn) (hname : (fn.name == "runtime.NumGoroutine") = false) (hb : fn.body = some c) (hres : fn.results = #[])
    (hn : qs.length ≤ fn.ntmps) (h : AWpY P G l mb fn.ntmps c (retKY out) (argSt qs) []) : ICall P G f l qs out := by
  refine ⟨fun args w => ?_, fun J Cn hJ hR O w Φ Ψ vs hj h1 h2 h3 hr => ?_⟩
  · have h1 : fn.name ≠ "runtime.NumGoroutine" := by simpa using hname
    simp [callFunc, hf, h1, hb]
  · refine (callsIn_wide (n := 0)).1 (callsIn_of_wp hf hb trivial (wpIn_mono (awpY_sound hJ hR c _ _ _ h ⟨O, w, E0 Φ Ψ, hj, fun ad v hv => (h2 ad v hv).2, fun ad v hv => (h1 ad v hv).2, argSt_inv fn.ntmps (fun a v hv => (h1 a v hv).1) (fun a v hv => (h2 a v hv).1) h3 hr, by simp; have := hr.1; omega, rfl, Below.refl _ _⟩) ?_))
    rintro e a' w' ⟨x, s', L', rfl, hx, O', W0, E, k1, k2, k2c, hI, hN, hd, hB⟩
    have fin : L' = out → bodyPost P fn (fun e w' => (∃ v, e = .returned v) ∧ ∃ O', J out O' w') .ret a' w' := by
      intro hL
      subst hL
      refine ⟨hd, .tuple #[], ?_, ⟨_, rfl⟩, O', hJ.stable _ _ _ _ k1 hB⟩
      simp [results, hres]
    cases x with
    | normal => exact fin hx
    | ret => exact fin hx
    | exit id => exact hx.elim
end

/-! ### rules to reckon by -/
section
variable {P : Program} {G : List Dat → Dat → Prop} {l : Nat} {mb : List Nat} {N : Nat} {ops : Array Oper}
def CallY (P : Program) (G : List Dat → Dat → Prop) (l : Nat) (mb : List Nat) (N : Nat) (ops : Array Oper) (i : Nat) (dst : Option Nat) (os : List Oper) (s : ASt) (L : List Dat) (K : ASt → List Dat → Prop) (g : Nat) (qs : List PVal) (b : Bool) : Prop :=
  ∃ r, (b = true ∨ r.isDat = true) ∧ RCall P g qs r ∧ AOpsY P G l mb N ops (i + 1) os (s.put dst r) L K
def YieldA (P : Program) (G : List Dat → Dat → Prop) (l : Nat) (mb : List Nat) (N : Nat) (ops : Array Oper) (i : Nat) (dst : Option Nat) (os : List Oper) (s : ASt) (L : List Dat) (K : ASt → List Dat → Prop) (l' : Nat) (ps : List PVal) : Prop :=
  l' = l ∧ ∃ d, ps = [.dat d] ∧ G L d ∧ AOpsY P G l mb N ops (i + 1) os ((frz s).put dst (.dat (.bool true))) (L ++ [d]) K
def OnYld (p : PVal) (k : Nat → Prop) (X : Prop) (_ : Keep k) (_ : Keep X) : Prop := match p with
  | .yld l => k l
  | _ => X
theorem onYld_yld {l : Nat} {k : Nat → Prop} {X : Prop} {x : Keep k} {y : Keep X} : OnYld (.yld l) k X x y = k l := _root_.id rfl
theorem onYld_fn {f : Nat} {cs : List PVal} {k : Nat → Prop} {X : Prop} {x : Keep k} {y : Keep X} : OnYld (.fn f cs) k X x y = X := _root_.id rfl

theorem aopsY_nil {i : Nat} {s : ASt} {L : List Dat} {K : ASt → List Dat → Prop} : AOpsY P G l mb N ops i [] s L K = K s L := _root_.id rfl
theorem aopsY_cons {i : Nat} {o : Oper} {os : List Oper} {s : ASt} {L : List Dat} {K : ASt → List Dat → Prop} : AOpsY P G l mb N ops i (o :: os) s L K =
    GIf (dstOk N o.dst) (OnSome (wantedA ops s o.guard) (fun b => GIf b
      (OnCase (isCall o.op) (fun fa => OnYld (s.eval fa.1) (fun l' => YieldA P G l mb N ops i o.dst os s L K l' (fa.2.toList.map s.eval)) (OnSome (callOf s fa.1 fa.2) (fun c => CallY P G l mb N ops i o.dst os s L K c.1 c.2.1 c.2.2) .mk) .mk .mk)
        (OnSome (sem P mb o.dst s o.op) (fun r => OnSome (applyR o.dst s r) (fun s' => AOpsY P G l mb N ops (i + 1) os s' L K) .mk) .mk) .mk .mk)
      (AOpsY P G l mb N ops (i + 1) os (s.put o.dst .undef) L K) .mk .mk) .mk) False .mk .mk := by
  simp only [AOpsY, GIf, OnSome, OnCase, OnYld]
  cases dstOk N o.dst
  · simp
  · simp only [true_and, if_true]
    cases wantedA ops s o.guard with
    | none => rfl
    | some b =>
      cases b
      · rfl
      · simp only [if_true]
        cases isCall o.op with
        | none =>
          simp only
          cases sem P mb o.dst s o.op with
          | none => rfl
          | some r =>
            simp only
            cases applyR o.dst s r <;> rfl
        | some fa =>
          simp only
          split
          · rfl
          · cases callOf s fa.1 fa.2 with
            | none => rfl
            | some c => rfl

theorem awpY_skip {Q : AExit → ASt → List Dat → Prop} {s : ASt} {L : List Dat} : AWpY P G l mb N .skip Q s L = Q .normal s L := _root_.id rfl
theorem awpY_region {id : Nat} {Q : AExit → ASt → List Dat → Prop} {s : ASt} {L : List Dat} : AWpY P G l mb N (.region id ops false) Q s L = AOpsY P G l mb N ops 0 ops.toList (ASt.killL (freshOf mb id) s) L (Q .normal) := by simp only [AWpY, true_and]
theorem awpY_seq {a b : Code} {Q : AExit → ASt → List Dat → Prop} {s : ASt} {L : List Dat} : AWpY P G l mb N (.seq a b) Q s L = AWpY P G l mb N a (seqKY (AWpY P G l mb N b Q) Q) s L := _root_.id rfl
theorem awpY_cond {c : Operand} {a b : Code} {Q : AExit → ASt → List Dat → Prop} {s : ASt} {L : List Dat} : AWpY P G l mb N (.cond c a b) Q s L = OnBool (s.eval c) (fun t => GIf t (AWpY P G l mb N a Q s L) (AWpY P G l mb N b Q s L) .mk .mk) .mk := by
  simp only [AWpY, OnBool, GIf]
  generalize s.eval c = p
  cases p with
  | dat d => cases d <;> rfl
  | _ => rfl
theorem awpY_block {id : Nat} {c : Code} {Q : AExit → ASt → List Dat → Prop} {s : ASt} {L : List Dat} : AWpY P G l mb N (.block id c) Q s L = AWpY P G l mb N c (blockKY id Q) s L := _root_.id rfl
theorem awpY_exit {id : Nat} {Q : AExit → ASt → List Dat → Prop} {s : ASt} {L : List Dat} : AWpY P G l mb N (.exit id) Q s L = Q (.exit id) s L := _root_.id rfl
theorem awpY_ret {Q : AExit → ASt → List Dat → Prop} {s : ASt} {L : List Dat} : AWpY P G l mb N .ret Q s L = Q .ret s L := _root_.id rfl
theorem seqKY_normal {next : ASt → List Dat → Prop} {Q : AExit → ASt → List Dat → Prop} {s : ASt} {L : List Dat} : seqKY next Q .normal s L = next s L := _root_.id rfl
theorem seqKY_exit {next : ASt → List Dat → Prop} {Q : AExit → ASt → List Dat → Prop} {s : ASt} {L : List Dat} {i : Nat} : seqKY next Q (.exit i) s L = Q (.exit i) s L := _root_.id rfl
theorem seqKY_ret {next : ASt → List Dat → Prop} {Q : AExit → ASt → List Dat → Prop} {s : ASt} {L : List Dat} : seqKY next Q .ret s L = Q .ret s L := _root_.id rfl
theorem blockKY_normal {id : Nat} {Q : AExit → ASt → List Dat → Prop} {s : ASt} {L : List Dat} : blockKY id Q .normal s L = Q .normal s L := _root_.id rfl
theorem blockKY_exit {id i : Nat} {Q : AExit → ASt → List Dat → Prop} {s : ASt} {L : List Dat} : blockKY id Q (.exit i) s L = if i = id then Q .normal s L else Q (.exit i) s L := _root_.id rfl
theorem blockKY_ret {id : Nat} {Q : AExit → ASt → List Dat → Prop} {s : ASt} {L : List Dat} : blockKY id Q .ret s L = Q .ret s L := _root_.id rfl
def loopNY (I : Nat → ASt → List Dat → Prop) (k n : Nat) (Q : AExit → ASt → List Dat → Prop) : AExit → ASt → List Dat → Prop
  | .normal, s, L => k < n ∧ I (k + 1) s L
  | e, s, L => Q e s L
theorem loopNY_normal {I : Nat → ASt → List Dat → Prop} {k n : Nat} {s : ASt} {L : List Dat} {Q : AExit → ASt → List Dat → Prop} : loopNY I k n Q .normal s L = (k < n ∧ I (k + 1) s L) := _root_.id rfl
theorem loopNY_exit {I : Nat → ASt → List Dat → Prop} {k n : Nat} {s : ASt} {L : List Dat} {Q : AExit → ASt → List Dat → Prop} {i : Nat} : loopNY I k n Q (.exit i) s L = Q (.exit i) s L := _root_.id rfl
theorem loopNY_ret {I : Nat → ASt → List Dat → Prop} {k n : Nat} {s : ASt} {L : List Dat} {Q : AExit → ASt → List Dat → Prop} : loopNY I k n Q .ret s L = Q .ret s L := _root_.id rfl
theorem retKY_normal {out : List Dat} {s : ASt} {L : List Dat} : retKY out .normal s L = (L = out) := _root_.id rfl
theorem retKY_ret {out : List Dat} {s : ASt} {L : List Dat} : retKY out .ret s L = (L = out) := _root_.id rfl
theorem frz_t (s : ASt) (i : Nat) : (frz s).t i = (closeP s.h 9 (s.t i)).getD .top := rfl
theorem frz_h (s : ASt) (i : Nat) : (frz s).h i = none := rfl

theorem callY {i : Nat} {dst : Option Nat} {os : List Oper} {s : ASt} {L : List Dat} {K : ASt → List Dat → Prop} {g : Nat} {qs : List PVal} {b : Bool} {r : PVal} (h : RCall P g qs r)
    (k : AOpsY P G l mb N ops (i + 1) os (s.put dst r) L K) (hb : (b || r.isDat) = true) : CallY P G l mb N ops i dst os s L K g qs b := ⟨r, by simpa using hb, h, k⟩
theorem yieldA {i : Nat} {dst : Option Nat} {os : List Oper} {s : ASt} {L : List Dat} {K : ASt → List Dat → Prop} {d : Dat} (hG : G L d)
    (k : AOpsY P G l mb N ops (i + 1) os ((frz s).put dst (.dat (.bool true))) (L ++ [d]) K) : YieldA P G l mb N ops i dst os s L K l [.dat d] := ⟨rfl, d, rfl, hG, k⟩
theorem yieldA' {i : Nat} {dst : Option Nat} {os : List Oper} {s : ASt} {L : List Dat} {K : ASt → List Dat → Prop} {d : Dat} {ps : List PVal} (hp : ps = [.dat d]) (hG : G L d)
    (k : AOpsY P G l mb N ops (i + 1) os ((frz s).put dst (.dat (.bool true))) (L ++ [d]) K) : YieldA P G l mb N ops i dst os s L K l ps := ⟨rfl, d, hp, hG, k⟩
attribute [simp] onYld_yld onYld_fn aopsY_nil aopsY_cons awpY_skip awpY_region awpY_seq awpY_cond awpY_block awpY_exit awpY_ret seqKY_normal seqKY_exit seqKY_ret blockKY_normal blockKY_exit blockKY_ret loopNY_normal loopNY_exit loopNY_ret retKY_normal retKY_ret frz_t frz_h

theorem AWpY.mono : ∀ (c : Code) {Q Q' : AExit → ASt → List Dat → Prop}, (∀ e s L, Q e s L → Q' e s L) → ∀ (s : ASt) (L : List Dat), AWpY P G l mb N c Q s L → AWpY P G l mb N c Q' s L := by
  have ops_mono : ∀ {ops : Array Oper} (os : List Oper) (i : Nat) {K K' : ASt → List Dat → Prop}, (∀ s L, K s L → K' s L) → ∀ (s : ASt) (L : List Dat), AOpsY P G l mb N ops i os s L K → AOpsY P G l mb N ops i os s L K' := by
    intro ops os
    induction os with
    | nil => intro i K K' hk s L h; exact hk _ _ h
    | cons o os ih =>
      intro i K K' hk s L h
      simp only [AOpsY] at h ⊢
      refine ⟨h.1, ?_⟩
      have h := h.2
      split at h
      · rename_i b hw
        cases b with
        | false => exact ih _ hk _ _ h
        | true =>
          simp only [if_true] at h ⊢
          split at h
          · split at h
            · obtain ⟨h1, d, h2, h3, h4⟩ := h
              exact ⟨h1, d, h2, h3, ih _ hk _ _ h4⟩
            · split at h
              · rename_i hc
                obtain ⟨r, h1, h2, h3⟩ := h
                exact ⟨r, h1, h2, ih _ hk _ _ h3⟩
              · exact h.elim
          · split at h
            · split at h
              · exact ih _ hk _ _ h
              · exact h.elim
            · exact h.elim
      · exact h.elim
  intro c
  induction c with
  | skip => intro Q Q' hq s L h; exact hq _ _ _ h
  | region id ops draw => intro Q Q' hq s L h; exact ⟨h.1, ops_mono _ _ (fun s L => hq _ s L) _ _ h.2⟩
  | seq a b iha ihb =>
    intro Q Q' hq s L h
    refine iha (fun e s L hh => ?_) s L h
    cases e with
    | normal => exact ihb hq s L hh
    | exit i => exact hq _ _ _ hh
    | ret => exact hq _ _ _ hh
  | cond c a b iha ihb =>
    intro Q Q' hq s L h
    simp only [AWpY] at h ⊢
    split at h
    · split at h
      · rename_i ht; simp only [ht, if_true]; exact iha hq s L h
      · rename_i ht; simp only [ht, if_false]; exact ihb hq s L h
    · exact h.elim
  | block id c ih =>
    intro Q Q' hq s L h
    refine ih (fun e s L hh => ?_) s L h
    cases e with
    | normal => exact hq _ _ _ hh
    | exit i => simp only [blockKY] at hh ⊢; split at hh <;> rename_i hi <;> simp only [hi, if_true, if_false] <;> exact hq _ _ _ hh
    | ret => exact hq _ _ _ hh
  | loop c ih =>
    intro Q Q' hq s L h
    obtain ⟨I, μ, h0, hr⟩ := h
    refine ⟨I, μ, h0, fun s' L' hi => ih (fun e s L hh => ?_) s' L' (hr s' L' hi)⟩
    cases e with
    | normal => exact hh
    | exit i => exact hq _ _ _ hh
    | ret => exact hq _ _ _ hh
  | exit id => intro Q Q' hq s L h; exact hq _ _ _ h
  | ret => intro Q Q' hq s L h; exact hq _ _ _ h
  | _ => intro Q Q' hq s L h; exact h.elim

open Classical in
/-- A loop that counts its rounds. -/
theorem awpY_loopN {c : Code} {Q : AExit → ASt → List Dat → Prop} {s : ASt} {L : List Dat} (n : Nat) (I : Nat → ASt → List Dat → Prop) (h0 : I 0 (frz s) L) (h : ∀ k s' L', k ≤ n → I k s' L' → AWpY P G l mb N c (loopNY I k n Q) s' L') : AWpY P G l mb N (.loop c) Q s L := by
  let μ : ASt → List Dat → Nat := fun s L => (List.range (n + 1)).findIdx (fun m => decide (I (n - m) s L))
  have hμ : ∀ k s' L', k ≤ n → I k s' L' → μ s' L' ≤ n - k := by
    intro k s' L' hk hI
    have hle : ¬ (n - k < μ s' L') := by
      intro hlt
      have := List.not_of_lt_findIdx (p := fun m => decide (I (n - m) s' L')) (xs := List.range (n + 1)) hlt
      simp [show n - (n - k) = k by omega, hI] at this
    omega
  have hex : ∀ s' L', (∃ k, k ≤ n ∧ I k s' L') → ∃ k, k ≤ n ∧ I k s' L' ∧ μ s' L' = n - k := by
    rintro s' L' ⟨k, hk, hI⟩
    have hle := hμ k s' L' hk hI
    have hlt : μ s' L' < (List.range (n + 1)).length := by simp; omega
    have := List.findIdx_getElem (p := fun m => decide (I (n - m) s' L')) (w := hlt)
    simp at this
    refine ⟨n - μ s' L', by omega, this, by omega⟩
  refine ⟨fun s' L' => ∃ k, k ≤ n ∧ I k s' L', μ, ⟨0, by omega, h0⟩, ?_⟩
  intro s' L' hs'
  obtain ⟨k, hk, hI, hm⟩ := hex s' L' hs'
  refine AWpY.mono c ?_ _ _ (h k s' L' hk hI)
  intro e s2 L2 h2
  cases e with
  | normal =>
    obtain ⟨h3, h4⟩ := h2
    have := hμ (k + 1) s2 L2 (by omega) h4
    exact ⟨⟨k + 1, by omega, h4⟩, by omega⟩
  | exit i => exact h2
  | ret => exact h2
end
end Go.Abs

/- A range over a function: the statement. -/
set_option linter.unusedVariables false
set_option linter.unusedSimpArgs false
namespace Go.Abs
open Go Go.RowKit

theorem Inv.other {base : Nat} {E : Env} {s : ASt} {tm : Array Value} {w w' : World} {l : Nat} (h : Inv base E s tm w) (hne : ∀ k, k ≠ l → w'.heap[k]? = w.heap[k]?) (hsz : w'.heap.size = w.heap.size) (ho : ¬ OwnB E l) (hΨ : ∀ a v, E.Ψ a = some v → a.block ≠ l) : Inv base E s tm w' := by
  refine ⟨h.tm, fun a v ha => ?_, fun a v ha => ?_, h.sub, fun t cs hc => ?_, fun t b hb => ?_, h.binj, fun k v e z hk => ?_, h.rinj, by rw [hsz]; exact h.hb, h.hn⟩
  · rw [cell_same (hne _ (hΨ a v (h.sub a v ha)))]; exact h.phi a v ha
  · rw [cell_same (hne _ (hΨ a v ha))]; exact h.psi a v ha
  · obtain ⟨b, c, e, h1, h2, h3, h4, h5⟩ := h.box t cs hc
    exact ⟨b, c, e, h1, (hne b (fun he => ho (.inl ⟨t, by rw [← he]; exact h1⟩))).trans h2, h3, h4, h5⟩
  · rw [hsz]; exact h.bsep t b hb
  · obtain ⟨n, inner, hr, hg⟩ := h.row k v e z hk
    refine ⟨n, inner, ?_, hg⟩
    obtain ⟨h1, h2⟩ := hr
    refine ⟨h1, ?_⟩
    rcases h2 with h2 | ⟨g, cap, cur, hv, hb, hh, r⟩
    · exact .inl h2
    · exact .inr ⟨g, cap, cur, hv, hb, (hne g (fun he => ho (.inr ⟨k, v, e, z, hk, by rw [hv, ← he]; rfl⟩))).trans hh, r⟩

/-- The state of one who ranges: a box, and values that stay. -/
def sR (kb : Nat) (ro : Nat → PVal) (c : PVal) : ASt := ⟨fun i => if i = kb then .bptr kb 0 else ro i, fun u => if u = kb then some [c] else none⟩
def ER (E : Env) (kb : Nat) (γ : Nat → Option (Value × Nat × Nat)) : Env := ⟨E.Φ, E.Ψ, fun t => if t = kb then E.β kb else none, γ⟩
def RowV (c : PVal) : Prop := c = .nilS ∨ ∃ k e z xs, c = .ow k e z xs

theorem inv_sR {base : Nat} {E : Env} {s : ASt} {tm T : Array Value} {w : World} (hI : Inv base E s tm w) {kb : Nat} {ro : Nat → PVal} {c : PVal} (h1 : s.t kb = .bptr kb 0) (h2 : s.h kb = some [c]) (hc : RowV c) (hT : T.getD kb Go.undef = tm.getD kb Go.undef)
    (hro : ∀ i, i ≠ kb → RelP (E0 E.Φ E.Ψ) (ro i) (T.getD i Go.undef)) (γ : Nat → Option (Value × Nat × Nat)) (hγ : γ = E.γ ∨ (γ = (fun _ => none) ∧ c = .nilS)) : Inv base (ER E kb γ) (sR kb ro c) T w := by
  have hγ' : ∀ k v, γ k = some v → E.γ k = some v := by
    rcases hγ with rfl | ⟨rfl, _⟩
    · exact fun _ _ h => h
    · intro k v h; cases h
  refine ⟨fun i => ?_, hI.phi, hI.psi, hI.sub, fun t cs hcs => ?_, fun t b hb => ?_, fun t t' b hb hb' => ?_, fun k v e z hk => ?_, fun k k' v v' e e' z z' g hk hk' => hI.rinj k k' v v' e e' z z' g (hγ' _ _ hk) (hγ' _ _ hk'), hI.hb, fun t ht => ?_⟩
  · simp only [sR]
    split
    · rename_i hi
      subst hi
      rw [hT]
      have := hI.tm i
      rw [h1] at this
      generalize tm.getD i Go.undef = v at this
      cases this with
      | bptr _ _ b hb => exact .bptr i 0 b (by simp [ER, hb])
    · rename_i hi
      have hle : (E0 E.Φ E.Ψ).le (ER E kb γ) := ⟨fun _ _ h => h, fun _ _ h => h, fun _ _ h => by simp [E0] at h, fun _ _ h => by simp [E0] at h⟩
      exact (hro i hi).mono hle
  · simp only [sR] at hcs
    split at hcs
    · rename_i ht
      subst ht
      injection hcs with hcs; subst hcs
      obtain ⟨b, cc, e, k1, k2, k3, k4, k5⟩ := hI.box t _ h2
      refine ⟨b, cc, e, by simp [ER, k1], k2, k3, k4, fun i p v hp hv => ⟨?_, (k5 i p v hp hv).2⟩⟩
      have hr := (k5 i p v hp hv).1
      cases i with
      | zero =>
        simp at hp; subst hp
        rcases hc with rfl | ⟨k, e, z, xs, rfl⟩
        · cases hr; exact .nilS
        · cases hr with
          | ow _ _ _ _ _ q1 q2 q3 =>
            rcases hγ with rfl | ⟨rfl, hh⟩
            · exact .ow _ _ _ _ _ q1 q2 q3
            · cases hh
      | succ i => simp at hp
    · cases hcs
  · simp only [ER] at hb
    split at hb
    · exact hI.bsep kb b hb
    · cases hb
  · simp only [ER] at hb hb'
    split at hb
    · split at hb'
      · rename_i h1 h2; rw [h1, h2]
      · cases hb'
    · cases hb
  · obtain ⟨n, inner, ho, hg⟩ := hI.row k v e z (hγ' _ _ hk)
    refine ⟨n, inner, ho, fun g hgb => ⟨(hg g hgb).1, fun t => ?_⟩⟩
    simp only [ER]
    split
    · exact (hg g hgb).2 kb
    · simp
  · simp only [sR] at ht
    split at ht
    · cases ht
    · rename_i hne; simp [ER, hne]

theorem ownB_ER {E : Env} {kb : Nat} {γ : Nat → Option (Value × Nat × Nat)} (hγ : ∀ k v, γ k = some v → E.γ k = some v) {k : Nat} (h : OwnB (ER E kb γ) k) : OwnB E k := by
  rcases h with ⟨t, h⟩ | ⟨κ, v, e, z, h, hv⟩
  · simp only [ER] at h
    split at h
    · exact .inl ⟨kb, h⟩
    · cases h
  · exact .inr ⟨κ, v, e, z, hγ _ _ h, hv⟩

def joinM (f g : Mem) : Mem := fun a => match f a with
  | some v => some v
  | none => g a
theorem joinM_l {f g : Mem} {a : Addr} {v : Value} (h : f a = some v) : joinM f g a = some v := by simp [joinM, h]
theorem joinM_or {f g : Mem} {a : Addr} {v : Value} (h : joinM f g a = some v) : f a = some v ∨ g a = some v := by
  unfold joinM at h
  split at h
  · rename_i hf; left; rw [hf]; exact h
  · exact .inr h
/-- More memory that is only read. -/
theorem Inv.join {base : Nat} {E : Env} {s : ASt} {tm : Array Value} {w : World} (hI : Inv base E s tm w) {Φx : Mem} (hx : ∀ a v, Φx a = some v → w.cell? a = some v) (hn : ∀ a v, Φx a = some v → ¬ OwnB E a.block) :
    Inv base { E with Φ := joinM E.Φ Φx, Ψ := joinM E.Ψ Φx } s tm w ∧ E.le { E with Φ := joinM E.Φ Φx, Ψ := joinM E.Ψ Φx } ∧ ∀ a v, Φx a = some v → joinM E.Φ Φx a = some v := by
  have hle : E.le { E with Φ := joinM E.Φ Φx, Ψ := joinM E.Ψ Φx } := ⟨fun a v h => joinM_l h, fun a v h => joinM_l h, fun _ _ h => h, fun _ _ h => h⟩
  have hp : ∀ a v, joinM E.Ψ Φx a = some v → w.cell? a = some v := fun a v h => (joinM_or h).elim (hI.psi a v) (hx a v)
  have hph : ∀ a v, joinM E.Φ Φx a = some v → w.cell? a = some v := fun a v h => (joinM_or h).elim (hI.phi a v) (hx a v)
  refine ⟨⟨fun i => (hI.tm i).mono hle, hph, hp, fun a v h => ?_, fun t cs hc => ?_, fun t b hb => ?_, hI.binj, fun k v e z hk => ?_, hI.rinj, hI.hb, hI.hn⟩, hle, fun a v h => ?_⟩
  · have h : joinM E.Φ Φx a = some v := h
    show joinM E.Ψ Φx a = some v
    rcases joinM_or h with h1 | h1
    · exact joinM_l (hI.sub a v h1)
    · unfold joinM
      cases hq : E.Ψ a with
      | some u =>
        have := hI.psi a u hq
        rw [hx a v h1] at this
        simp only; exact this.symm
      | none => exact h1
  · obtain ⟨b, c, e, h1, h2, h3, h4, h5⟩ := hI.box t cs hc
    exact ⟨b, c, e, h1, h2, h3, h4, fun i p v hp hv => ⟨(h5 i p v hp hv).1.mono hle, (h5 i p v hp hv).2⟩⟩
  · obtain ⟨h1, h2, h3⟩ := hI.bsep t b hb
    refine ⟨h1, h2, fun a ha => ?_⟩
    cases hq : joinM E.Ψ Φx a with
    | none => exact hq
    | some v => rcases joinM_or hq with h | h
                · rw [h3 a ha] at h; cases h
                · exact absurd (.inl ⟨t, by rw [ha]; exact hb⟩) (hn a v h)
  · obtain ⟨n, inner, ho, hg⟩ := hI.row k v e z hk
    refine ⟨n, inner, ho, fun g hgb => ⟨fun a ha hle => ?_, (hg g hgb).2⟩⟩
    cases hq : joinM E.Ψ Φx a with
    | none => exact hq
    | some u => rcases joinM_or hq with h | h
                · rw [(hg g hgb).1 a ha hle] at h; cases h
                · exact absurd (.inr ⟨k, v, e, z, hk, by rw [ha]; exact hgb⟩) (hn a u h)
  · unfold joinM
    cases hq : E.Φ a with
    | some u =>
      have := hI.phi a u hq
      rw [hx a v h] at this
      simp only; exact this.symm
    | none => exact h

theorem ownB_lt {base : Nat} {E : Env} {s : ASt} {tm : Array Value} {w : World} (hI : Inv base E s tm w) {k : Nat} (h : OwnB E k) : k < w.heap.size := by
  rcases h with ⟨t, h⟩ | ⟨κ, v, e, z, h, hv⟩
  · exact (hI.bsep t k h).2.1
  · obtain ⟨n, inner, ho, _⟩ := hI.row κ v e z h
    rcases ho.2 with ⟨rfl, _⟩ | ⟨g, cap, cur, rfl, _, hh, _⟩
    · simp [Value.ownBlock] at hv
    · have : g = k := by simpa [Value.ownBlock] using hv
      subst this
      exact (Array.getElem?_eq_some_iff.1 hh).1
theorem cell_loop {w : World} {a : Addr} {r : Loop} (h : w.heap[a.block]? = some (.loop r)) : w.cell? a = none := by unfold World.cell?; rw [h]
theorem cell_deferred {w : World} {a : Addr} {r : Option (List Deferred)} (h : w.heap[a.block]? = some (.deferred r)) : w.cell? a = none := by unfold World.cell?; rw [h]
theorem below_putObj {base l : Nat} {o : Obj} {w : World} (h : base ≤ l) : Below base w (w.putObj l o) := ⟨rfl, rfl, rfl, by simp, fun k hk => World.putObj_heap_other (by omega)⟩

def bodyK (kb : Nat) (R : List Dat → PVal → Prop) (L : List Dat) : AExit → ASt → Prop
  | .normal, s => s.t kb = .bptr kb 0 ∧ ∃ c, s.h kb = some [c] ∧ R L c
  | _, _ => False
def onlyK (next : ASt → Prop) : AExit → ASt → Prop
  | .normal, s => next s
  | _, _ => False

section
variable {P : Program} {n : Nat}
theorem wpIn_range (hmix : P.follows .mixedOrders = true) {base N : Nat} {E : Env} {s : ASt} {a : Act} {w : World} {g p kb fI : Nat} {asn bo : Code} {caps qs : List PVal} {out : List Dat} {G : List Dat → Dat → Prop} (R : List Dat → PVal → Prop) (tks : List Nat) (ro : Nat → PVal) {Q : Exit → Act → World → Prop}
    (hI : Inv base E s a.tmps w) (hN : a.tmps.size = N) (hd : a.defers = []) (hg : s.t g = .fn fI caps) (hq : mapO (closeP (fun _ => none) 9) caps = some qs) (hIC : ∀ lp, ICall P G fI lp (.yld lp :: qs) out)
    (h1 : s.t kb = .bptr kb 0) (h2 : s.h kb = some [.nilS]) (hro : ∀ i, i ≠ kb → ro i = .top ∨ (i ∈ tks ∧ s.t i = ro i ∧ closeP (fun _ => none) 9 (ro i) = some (ro i)))
    (hkb : kb ∈ tks) (hp : keepsD tks (some p) = true) (hpN : p < N) (hk1 : keepsC tks asn = true) (hk2 : keepsC tks bo = true) (hR0 : R [] .nilS) (hRc : ∀ L c, R L c → RowV c)
    (hbody : ∀ L d c, R L c → G L d → AWp P [] N asn (onlyK (AWp P [] N bo (bodyK kb R (L ++ [d])))) ((sR kb ro c).put (some p) (.dat d)))
    (hpost : ∀ c E' w' D, R out c → Inv base E' (sR kb ro c) a.tmps w' → w'.heap[D]? = some (.deferred (some [])) → ¬ OwnB E' D → base ≤ D → Below base w w' → Ext base E E' → Q .normal { a with defers := [{ target := .collected D, args := #[] }] } w') :
    (Code.rangeFunc (.tmp g) #[p] asn bo).wpIn Fence.wide n P Q a w := by
  have hroR : ∀ (Φ Ψ : Mem), (∀ a v, E.Φ a = some v → Φ a = some v) → (∀ a v, E.Ψ a = some v → Ψ a = some v) → ∀ i, i ≠ kb → RelP (E0 Φ Ψ) (ro i) (a.tmps.getD i Go.undef) := by
    intro Φ Ψ hΦ hΨ i hi
    rcases hro i hi with h | ⟨-, h2, h3⟩
    · rw [h]; exact .top _
    · have := hI.tm i
      rw [h2] at this
      exact close_rel hI (h := fun _ => none) (by simp) hΦ (by rw [boxMem_none]; exact hΨ) 9 _ _ _ this h3
  have hI0 : Inv base (ER E kb (fun _ => none)) (sR kb ro .nilS) a.tmps w := inv_sR hI h1 h2 (.inl rfl) rfl (hroR E.Φ E.Ψ (fun _ _ h => h) (fun _ _ h => h)) _ (.inr ⟨rfl, rfl⟩)
  have hfe := hI.eval (.tmp g)
  have hgs : s.eval (.tmp g) = .fn fI caps := hg
  rw [hgs] at hfe
  generalize hfv : a.eval (.tmp g) = fv at hfe
  cases hfe with
  | fn _ _ cvs hcl hcr =>
  obtain ⟨m1, m2, m3⟩ := mapO_spec hq
  refine wpIn_rangeFunc (fun fnid _ => ?_)
  let D := w.heap.size
  let lp := w.heap.size + 1
  let rec0 : Loop := { state := .ready, pending := none, fn := fnid, tmps := a.tmps, params := #[p], assign := asn, body := bo, defers := w.heap.size }
  let w1 := (w.alloc (.deferred (some []))).alloc (.loop rec0)
  have hw1s : w1.heap.size = w.heap.size + 2 := by
    show ((w.heap.push (.deferred (some []))).push (.loop rec0)).size = _
    simp
  have hw1k : ∀ k, k < w.heap.size → w1.heap[k]? = w.heap[k]? := by
    intro k hk
    show ((w.heap.push (.deferred (some []))).push (.loop rec0))[k]? = _
    rw [Array.getElem?_push_lt (by simp; omega), Array.getElem_push_lt hk, Array.getElem?_eq_getElem hk]
  have hw1l : w1.heap[lp]? = some (.loop rec0) := by
    have := World.alloc_heap_new (w.alloc (.deferred (some []))) (.loop rec0)
    rw [World.size_alloc] at this
    exact this
  have hw1D : w1.heap[D]? = some (.deferred (some [])) := by
    show ((w.heap.push (.deferred (some []))).push (.loop rec0))[w.heap.size]? = _
    rw [Array.getElem?_push_lt (by simp)]
    simp
  have hB1 : Below w.heap.size w w1 := ⟨rfl, rfl, rfl, by omega, hw1k⟩
  let J : Joint := fun L O W => ∃ E' c, R L c ∧ Inv base E' (sR kb ro c) a.tmps W ∧ (∀ k, O k ↔ (OwnB E' k ∨ k = lp ∨ k = D)) ∧ W.heap[lp]? = some (.loop rec0) ∧ W.heap[D]? = some (.deferred (some [])) ∧ ¬ OwnB E' lp ∧ ¬ OwnB E' D ∧ Below base w W ∧ Ext base E E'
  let Cn : Addr → Prop := fun ad => (∃ v, E.Φ ad = some v) ∨ base ≤ ad.block
  have hJ : J.Ok Cn := by
    refine ⟨?_, ?_, ?_⟩
    · rintro L O W ⟨E', c, j1, j2, j3, j4, j5, j6, j7, j8, j9⟩ ad had
      exact .inr (Nat.le_trans j2.hb had)
    · rintro L O W W' ⟨E', c, j1, j2, j3, j4, j5, j6, j7, j8, j9⟩ hB
      refine ⟨E', c, j1, ?_, j3, (hB.block _ (Array.getElem?_eq_some_iff.1 j4).1).trans j4, (hB.block _ (Array.getElem?_eq_some_iff.1 j5).1).trans j5, j6, j7, j8.trans (hB.mono j2.hb), j9⟩
      have hc : ∀ ad v, E'.Ψ ad = some v → W'.cell? ad = some v := fun ad v hv => by rw [cell_same (hB.block _ (j2.psi_lt hv))]; exact j2.psi ad v hv
      exact j2.env (Env.le.refl _) rfl rfl (fun ad v hv => hc ad v (j2.sub ad v hv)) hc j2.sub (fun ad v h => .inl h) (fun k hk => hB.block k hk) hB.size
    · rintro L O W ⟨E', c, j1, j2, j3, j4, j5, j6, j7, j8, j9⟩ k hk
      rcases (j3 k).1 hk with h | h | h
      · exact ownB_lt j2 h
      · rw [h]; exact (Array.getElem?_eq_some_iff.1 j4).1
      · rw [h]; exact (Array.getElem?_eq_some_iff.1 j5).1
  have hRY : RoundY P G lp J Cn := by
    rintro n' L d x O W Φx hG ⟨E', c, j1, j2, j3, j4, j5, j6, j7, j8, j9⟩ hΦx hxr
    have hlpW : lp < W.heap.size := (Array.getElem?_eq_some_iff.1 j4).1
    have hDW : D < W.heap.size := (Array.getElem?_eq_some_iff.1 j5).1
    have hDl : D ≠ lp := by simp only [D, lp]; omega
    have hbl : base ≤ lp := by have := hI.hb; simp only [lp]; omega
    refine ⟨fnid, a.tmps.setIfInBounds p x, asn, bo, ?_, ?_⟩
    · have := run_yield (P := P) (args := #[x]) j4 rfl
      simpa [rec0] using this
    refine roundIn_of_wpIn (F := Fence.wide) trivial ?_
    have hFp : Plain (Fence.wide.inRound lp) := .inr ⟨lp, rfl⟩
    obtain ⟨i1, i2, i3⟩ := j2.join (Φx := Φx) (fun ad v h => (hΦx ad v h).1) (fun ad v h ho => (hΦx ad v h).2.1 ((j3 _).2 (.inl ho)))
    have hput := i1.put (some p) (.dat d x (hxr.mono i3)) (by simp [dstOk]; rw [hN]; exact hpN)
    have hX2 : Ext base E' { E' with Φ := joinM E'.Φ Φx, Ψ := joinM E'.Ψ Φx } := by
      have hcn : ∀ ad v, Φx ad = some v → E'.Φ ad = some v ∨ base ≤ ad.block := by
        intro ad v hv
        rcases (hΦx ad v hv).2.2 with ⟨u, hu⟩ | h
        · have h3 := j9.phi ad u hu
          have h4 := j2.phi ad u h3
          rw [(hΦx ad v hv).1] at h4
          injection h4 with h4; subst h4
          exact .inl h3
        · exact .inr h
      exact ⟨i2.phi, i2.psi, fun ad v hv => (joinM_or hv).elim .inl (fun h => (hcn ad v h).imp (j2.sub ad v) id), fun ad v hv => (joinM_or hv).elim .inl (hcn ad v)⟩
    generalize hE2 : ({ E' with Φ := joinM E'.Φ Φx, Ψ := joinM E'.Ψ Φx } : Env) = E2 at i1 i2 hput hX2
    have hown2 : ∀ k, OwnB E2 k ↔ OwnB E' k := by intro k; subst hE2; exact Iff.rfl
    have hnl : ¬ OwnB E2 lp := fun h => j6 ((hown2 _).1 h)
    have hnD : ¬ OwnB E2 D := fun h => j7 ((hown2 _).1 h)
    refine wpIn_mono (awp_inT (tks := tks) (ds := []) hFp hmix asn hk1 _ _ (hbody L d c j1 hG) (a := { tmps := a.tmps.setIfInBounds p x, defers := [] }) hput (by simp; exact hN) rfl) ?_
    rintro e a1 W1 ⟨z, s1, E3, rfl, hz, k1, k2, k3, k4, k5⟩
    cases z with
    | exit i => exact hz.elim
    | ret => exact hz.elim
    | normal =>
    have hlp1 : W1.heap[lp]? = some (.loop rec0) := (k5.ext.same lp hlpW hnl).trans j4
    have hD1 : W1.heap[D]? = some (.deferred (some [])) := (k5.ext.same D hDW hnD).trans j5
    refine ⟨_, run_beginRound hlp1 rfl, ?_⟩
    have hl1 : lp < W1.heap.size := (Array.getElem?_eq_some_iff.1 hlp1).1
    have own3 : ∀ k, k < W.heap.size → ¬ OwnB E2 k → ¬ OwnB E3 k := fun k hk hn h => (k5.ext.own k h).elim hn (fun h => by omega)
    have psi3 : ∀ ad v, E3.Ψ ad = some v → ad.block ≠ lp := by
      intro ad v hv he
      have := k1.psi ad v hv
      rw [cell_loop (by rw [he]; exact hlp1)] at this
      cases this
    generalize hW2 : W1.putObj lp (.loop { rec0 with state := .busy }) = W2
    have hW2o : ∀ k, k ≠ lp → W2.heap[k]? = W1.heap[k]? := fun k hk => by rw [← hW2]; exact World.putObj_heap_other hk
    have hW2s : W2.heap.size = W1.heap.size := by rw [← hW2]; simp
    have hW2l : W2.heap[lp]? = some (.loop { rec0 with state := .busy }) := by rw [← hW2]; exact World.putObj_heap_same hl1
    have hB2 : Below base W1 W2 := by rw [← hW2]; exact below_putObj hbl
    have hI3 := k1.other hW2o hW2s (own3 lp hlpW hnl) psi3
    refine wpIn_mono (awp_inT (tks := tks) (ds := []) hFp hmix bo hk2 _ _ hz hI3 k2 k3) ?_
    rintro e a2 W3 ⟨z2, s2, E4, rfl, hz2, q1, q2, q3, q4, q5⟩
    cases z2 with
    | exit i => exact hz2.elim
    | ret => exact hz2.elim
    | normal =>
    obtain ⟨t1, c', t2, t3⟩ := hz2
    have hlp3 : W3.heap[lp]? = some (.loop { rec0 with state := .busy }) := (q5.ext.same lp (by omega) (own3 lp hlpW hnl)).trans hW2l
    have hD3 : W3.heap[D]? = some (.deferred (some [])) := (q5.ext.same D (by have := k5.ext.grew; omega) (own3 D hDW hnD)).trans ((hW2o D hDl).trans hD1)
    have hl3 : lp < W3.heap.size := (Array.getElem?_eq_some_iff.1 hlp3).1
    have hg1 := k5.ext.grew
    have hg2 := q5.ext.grew
    have own4 : ∀ k, k < W.heap.size → ¬ OwnB E2 k → ¬ OwnB E4 k := fun k hk hn h => (q5.ext.own k h).elim (own3 k hk hn) (fun h => by omega)
    have psi4 : ∀ ad v, E4.Ψ ad = some v → ad.block ≠ lp := by
      intro ad v hv he
      have := q1.psi ad v hv
      rw [cell_loop (by rw [he]; exact hlp3)] at this
      cases this
    refine ⟨_, _, run_endRound none hlp3, rfl, ?_⟩
    generalize hW4 : W3.putObj lp (.loop { { rec0 with state := .busy } with state := if (none : Option Code).isNone then .ready else .done, pending := none }) = W4
    have hW4o : ∀ k, k ≠ lp → W4.heap[k]? = W3.heap[k]? := fun k hk => by rw [← hW4]; exact World.putObj_heap_other hk
    have hW4s : W4.heap.size = W3.heap.size := by rw [← hW4]; simp
    have hW4l : W4.heap[lp]? = some (.loop rec0) := by rw [← hW4]; exact World.putObj_heap_same hl3
    have hB4 : Below base W3 W4 := by rw [← hW4]; exact below_putObj hbl
    have hI4 := q1.other hW4o hW4s (own4 lp hlpW hnl) psi4
    have hXall : Ext base E E4 := ((j9.trans hX2).trans k5.ext.toExt).trans q5.ext.toExt
    have hT : a.tmps.getD kb Go.undef = a2.tmps.getD kb Go.undef := by
      rw [q5.tmps kb hkb, k5.tmps kb hkb]
      exact (putT_keeps hp a.tmps x kb hkb).symm
    have hI5 := inv_sR hI4 t1 t2 (hRc _ _ t3) hT (hroR E4.Φ E4.Ψ hXall.phi hXall.psi) E4.γ (.inl rfl)
    have hown5 : ∀ k, OwnB (ER E4 kb E4.γ) k → OwnB E4 k := fun k h => ownB_ER (fun _ _ h => h) h
    refine ⟨fun k => OwnB (ER E4 kb E4.γ) k ∨ k = lp ∨ k = D, ⟨ER E4 kb E4.γ, c', t3, hI5, fun k => Iff.rfl, hW4l, (hW4o D hDl).trans hD3, fun h => own4 lp hlpW hnl (hown5 _ h), fun h => own4 D hDW hnD (hown5 _ h), (((j8.trans k4).trans hB2).trans q4).trans hB4, ⟨hXall.phi, hXall.psi, hXall.new, hXall.newp⟩⟩, by omega, fun k hk hn => ?_, fun k hk => ?_⟩
    · have hO : ¬ OwnB E' k ∧ k ≠ lp ∧ k ≠ D := by
        refine ⟨fun h => hn ((j3 k).2 (.inl h)), fun h => hn ((j3 k).2 (.inr (.inl h))), fun h => hn ((j3 k).2 (.inr (.inr h)))⟩
      have hn2 : ¬ OwnB E2 k := fun h => hO.1 ((hown2 k).1 h)
      rw [hW4o k hO.2.1, q5.ext.same k (by omega) (own3 k hk hn2), hW2o k hO.2.1, k5.ext.same k hk hn2]
    · rcases hk with h | h | h
      · rcases q5.ext.own k (hown5 k h) with h | h
        · rcases k5.ext.own k h with h | h
          · exact .inl ((j3 k).2 (.inl ((hown2 k).1 h)))
          · exact .inr h
        · right; omega
      · exact .inl ((j3 k).2 (.inr (.inl h)))
      · exact .inl ((j3 k).2 (.inr (.inr h)))
  have hIw1 : Inv base (ER E kb (fun _ => none)) (sR kb ro .nilS) a.tmps w1 := by
    have hc : ∀ ad v, (ER E kb (fun _ => none)).Ψ ad = some v → w1.cell? ad = some v := fun ad v hv => by rw [cell_same (hB1.block _ (hI0.psi_lt hv))]; exact hI0.psi ad v hv
    exact hI0.env (Env.le.refl _) rfl rfl (fun ad v hv => hc ad v (hI0.sub ad v hv)) hc hI0.sub (fun ad v h => .inl h) hw1k (by omega)
  have hJ0 : J [] (fun k => OwnB (ER E kb (fun _ => none)) k ∨ k = lp ∨ k = D) w1 :=
    ⟨ER E kb (fun _ => none), .nilS, hR0, hIw1, fun _ => Iff.rfl, hw1l, hw1D, fun h => by have := ownB_lt hI0 h; simp only [lp] at this; omega, fun h => by have := ownB_lt hI0 h; simp only [D] at this; omega, hB1.mono hI.hb, ⟨fun _ _ h => h, fun _ _ h => h, fun _ _ h => .inl h, fun _ _ h => .inl h⟩⟩
  have hrel : RelArgs (E0 E.Φ E.Ψ) (.yld lp :: qs) (Value.func (.yield lp) #[] #[] :: cvs) := by
    refine ⟨by simp; omega, fun i q v hq' hv => ?_⟩
    cases i with
    | zero => simp at hq' hv; subst hq' hv; exact .yld lp
    | succ i =>
      simp at hq' hv
      obtain ⟨pp, hpp, hpq⟩ := m3 i q hq'
      exact close_rel hI (h := fun _ => none) (by simp) (fun _ _ h => h) (by rw [boxMem_none]; exact fun _ _ h => h) 9 pp q v (hcr i pp v hpp hv) hpq
  have hcalls := (hIC lp).2 J Cn hJ hRY _ w1 E.Φ E.Ψ _ hJ0 (fun ad v hv => ⟨hIw1.phi ad v hv, .inl ⟨v, hv⟩⟩) (fun ad v hv => ⟨hIw1.psi ad v hv, fun hO => ?_⟩) hI.sub hrel
  · refine ⟨lp, [{ target := .collected D, args := #[] }], w1, { target := .fn (.func fI) cvs.toArray, args := #[] ++ #[Value.func (.yield lp) #[] #[]] }, w1, fI, (Value.func (.yield lp) #[] #[] :: cvs).toArray, w1, run_enterLoop_outer _ _ _ _ _, ?_, fun _ _ => trivial, ?_, fun h => (by cases h), callsIn_wide.2 (hcalls.mono ?_)⟩
    · show (Deferred.ofValue (a.eval (.tmp g)) _).run P w1 = _
      rw [hfv]
      have hc : a.eval (.const (Value.func (.yield lp) #[] #[])) = .func (.yield lp) #[] #[] := rfl
      simp [Deferred.ofValue, hc]
    · have := (hIC lp).1 (Value.func (.yield lp) #[] #[] :: cvs).toArray w1
      simp only [invoke]
      rw [← this]
      simp
    · rintro e W ⟨⟨v, rfl⟩, O', E', c, j1, j2, j3, j4, j5, j6, j7, j8, j9⟩
      show ∃ jump w₄, _
      refine ⟨_, _, run_endLoop j4 (by simp [rec0]), ?_⟩
      have psi : ∀ ad v, E'.Ψ ad = some v → ad.block ≠ lp := by
        intro ad v hv he
        have := j2.psi ad v hv
        rw [cell_loop (by rw [he]; exact j4)] at this
        cases this
      have hbl : base ≤ lp := by have := hI.hb; simp only [lp]; omega
      have hDl : D ≠ lp := by simp only [D, lp]; omega
      have := hpost c E' (W.putObj lp (.loop { rec0 with state := .exhausted })) D j1 (j2.other (fun k hk => World.putObj_heap_other hk) (by simp) j6 psi) ((World.putObj_heap_other hDl).trans j5) j7 hI.hb (j8.trans (below_putObj hbl)) j9
      simp only [rec0]
      rw [hd]
      exact this
  · rcases hO with h | h | h
    · rcases h with ⟨t, h⟩ | ⟨κ, v, e, z, h, _⟩
      · have := (hI0.bsep t _ h).2.2 ad rfl
        have hv' : (ER E kb (fun _ => none)).Ψ ad = some v := hv
        rw [this] at hv'; cases hv'
      · simp [ER] at h
    · have := hI.psi_lt hv; simp only [lp] at h; omega
    · have := hI.psi_lt hv; simp only [D] at h; omega
end
end Go.Abs

/- A function that ranges over a function. -/
set_option linter.unusedVariables false
set_option linter.unusedSimpArgs false
namespace Go.Abs
open Go Go.RowKit
theorem keepsC_nil : ∀ c : Code, keepsC [] c = true
  | .skip | .exit _ | .ret | .label _ | .goto _ | .refuse _ | .scope _ | .rangeFunc _ _ _ _ => rfl
  | .region _ ops _ => by
    simp only [keepsC, List.all_eq_true]
    intro o _
    cases o.dst <;> rfl
  | .seq a b => by simp only [keepsC, keepsC_nil a, keepsC_nil b]; rfl
  | .cond _ a b => by simp only [keepsC, keepsC_nil a, keepsC_nil b]; rfl
  | .block _ c => by simp only [keepsC]; exact keepsC_nil c
  | .loop c => by simp only [keepsC]; exact keepsC_nil c
section
variable {P : Program}
theorem results_fin {fn : Func} {w w' : World} {Φ Ψ : Mem} {E' : Env} {s' : ASt} {tm : Array Value} {r : PVal} (hI : Inv w.heap.size E' s' tm w') (hB : Below w.heap.size w w') (hE : Ext w.heap.size (E0 Φ Ψ) E') (hres : resultsA P fn.results.toList s' = some r) :
    ∃ v, (results fn tm).run P w' = .ok v w' ∧ ∃ v' Φ' Ψ', Ending.returned v = .returned v' ∧ Below w.heap.size w w' ∧ (∀ a v, Φ a = some v → Φ' a = some v) ∧ (∀ a v, Ψ a = some v → Ψ' a = some v) ∧ (∀ a v, Φ' a = some v → Ψ' a = some v) ∧
        (∀ a v, Ψ' a = some v → w'.cell? a = some v) ∧ (∀ a v, Φ' a = some v → Φ a = some v ∨ w.heap.size ≤ a.block) ∧ (∀ a v, Ψ' a = some v → Ψ a = some v ∨ w.heap.size ≤ a.block) ∧ RelP (E0 Φ' Ψ') r v' := by
  have hboxnew : ∀ (f : Mem) (a : Addr) (v : Value), boxMem E' w' s'.h f a = some v → f a = some v ∨ w.heap.size ≤ a.block := by
    intro f a v ha
    unfold boxMem at ha
    split at ha
    · rename_i hc
      obtain ⟨t, cs, _, hβ⟩ := hc
      exact .inr (hI.bsep t _ hβ).1
    · exact .inl ha
  have common : ∀ {q : PVal} {v : Value}, RelP (E0 (boxMem E' w' s'.h E'.Φ) (boxMem E' w' s'.h E'.Ψ)) q v → (∃ v' Φ' Ψ', Ending.returned v = .returned v' ∧ Below w.heap.size w w' ∧ (∀ a v, Φ a = some v → Φ' a = some v) ∧ (∀ a v, Ψ a = some v → Ψ' a = some v) ∧ (∀ a v, Φ' a = some v → Ψ' a = some v) ∧
      (∀ a v, Ψ' a = some v → w'.cell? a = some v) ∧ (∀ a v, Φ' a = some v → Φ a = some v ∨ w.heap.size ≤ a.block) ∧ (∀ a v, Ψ' a = some v → Ψ a = some v ∨ w.heap.size ≤ a.block) ∧ RelP (E0 Φ' Ψ') q v') := by
    intro q v hq
    refine ⟨v, boxMem E' w' s'.h E'.Φ, boxMem E' w' s'.h E'.Ψ, rfl, hB, fun a v ha => boxMem_le hI hI.sub a v (hE.phi a v ha), fun a v ha => boxMem_le hI (fun _ _ h => h) a v (hE.psi a v ha), fun a v ha => ?_, boxMem_sound hI.psi, fun a v ha => ?_, fun a v ha => ?_, hq⟩
    · unfold boxMem at ha ⊢
      split at ha
      · rename_i hc; rw [if_pos hc]; exact ha
      · rename_i hc; rw [if_neg hc]; exact hI.sub a v ha
    · rcases hboxnew _ a v ha with h | h
      · exact hE.newp a v h
      · exact .inr h
    · rcases hboxnew _ a v ha with h | h
      · exact hE.new a v h
      · exact .inr h
  unfold resultsA at hres
  have hm : ∀ vs : List Value, (fn.results.toList.mapM (resOne tm) : Sem (List Value)).run P w' = .ok vs w' →
      (results fn tm).run P w' = .ok (if h : vs.toArray.size = 1 then vs.toArray[0] else .tuple vs.toArray) w' := by
    intro vs hvs
    rw [results_eq, Sem.run_bind, Array.mapM_eq_mapM_toList]
    simp only [Sem.run_map]
    rw [hvs]
    rfl
  split at hres
  · rename_i p hrs
    injection hres with hres; subst hres
    obtain ⟨us, g1, g2, g3⟩ := resAs_sound (P := P) hI (fun _ _ h => h) (fun _ _ h => h) _ _ hrs
    obtain ⟨u, rfl⟩ : ∃ u, us = [u] := by
      cases us with
      | nil => simp at g2
      | cons u t => cases t with
        | nil => exact ⟨u, rfl⟩
        | cons _ _ => simp at g2
    refine ⟨u, ?_, common (g3 0 p u rfl rfl)⟩
    have := hm [u] g1
    simpa using this
  · rename_i qs hne hrs
    injection hres with hres; subst hres
    obtain ⟨us, g1, g2, g3⟩ := resAs_sound (P := P) hI (fun _ _ h => h) (fun _ _ h => h) _ _ hrs
    have hl : us.toArray.size ≠ 1 := by
      intro h1
      have : qs.length = 1 := by rw [← g2]; simpa using h1
      obtain ⟨p, hp⟩ := List.length_eq_one_iff.1 this
      exact hne p (by rw [hp])
    refine ⟨.tuple us.toArray, ?_, common (.tup qs us g2 g3)⟩
    have := hm us g1
    rw [dif_neg hl] at this
    exact this
  · cases hres

theorem rcall_range (hmix : P.follows .mixedOrders = true) {f : Nat} {fn : Func} {pre1 pre2 pre3 post asn bo : Code} {id g p kb fI : Nat} {ps caps qs : List PVal} {r : PVal} {out : List Dat} {G : List Dat → Dat → Prop} (R : List Dat → PVal → Prop) (tks : List Nat) (ro : Nat → PVal)
    (hf : P.funcs[f]? = some fn) (hname : (fn.name == "runtime.NumGoroutine") = false) (hb : fn.body = some (pre1.seq (pre2.seq ((pre3.seq (.block id (.rangeFunc (.tmp g) #[p] asn bo))).seq post)))) (hn : ps.length ≤ fn.ntmps)
    (hpre : AWp P [] fn.ntmps pre1 (onlyK (AWp P [] fn.ntmps pre2 (onlyK (AWp P [] fn.ntmps pre3 (onlyK fun s => s.t g = .fn fI caps ∧ s.t kb = .bptr kb 0 ∧ s.h kb = some [.nilS] ∧ ∀ i, i ≠ kb → ro i = .top ∨ (i ∈ tks ∧ s.t i = ro i ∧ closeP (fun _ => none) 9 (ro i) = some (ro i))))))) (argSt ps))
    (hq : mapO (closeP (fun _ => none) 9) caps = some qs) (hIC : ∀ lp, ICall P G fI lp (.yld lp :: qs) out)
    (hkb : kb ∈ tks) (hp : keepsD tks (some p) = true) (hpN : p < fn.ntmps) (hk1 : keepsC tks asn = true) (hk2 : keepsC tks bo = true) (hR0 : R [] .nilS) (hRc : ∀ L c, R L c → RowV c)
    (hbody : ∀ L d c, R L c → G L d → AWp P [] fn.ntmps asn (onlyK (AWp P [] fn.ntmps bo (bodyK kb R (L ++ [d])))) ((sR kb ro c).put (some p) (.dat d)))
    (hpost : ∀ c, R out c → AWp P [] fn.ntmps post (retK P fn.results.toList r) (sR kb ro c)) : RCall P f ps r := by
  refine ⟨fun args w => ?_, fun Φ Ψ vs w h1 h2 h3 hr => ?_⟩
  · have h1 : fn.name ≠ "runtime.NumGoroutine" := by simpa using hname
    simp [callFunc, hf, h1, hb]
  · refine (callsIn_wide (n := 0)).1 (callsIn_of_wp_marks hf hb trivial ?_)
    have hI0 := argSt_inv fn.ntmps h1 h2 h3 hr
    refine wpIn_seq (wpIn_mono (awp_in wide_plain hmix pre1 _ _ hpre hI0 (by simp; have := hr.1; omega) rfl) ?_)
    rintro e a1 w1 ⟨z, s1, E1, rfl, hz, k1, k2, k3, k4, k5⟩
    cases z with
    | exit i => exact hz.elim
    | ret => exact hz.elim
    | normal =>
    refine wpIn_seq (wpIn_mono (awp_in wide_plain hmix pre2 _ _ hz k1 k2 k3) ?_)
    rintro e a2 w2 ⟨z, s2, E2, rfl, hz, l1, l2, l3, l4, l5⟩
    cases z with
    | exit i => exact hz.elim
    | ret => exact hz.elim
    | normal =>
    refine wpIn_seq (wpIn_seq (wpIn_mono (awp_in wide_plain hmix pre3 _ _ hz l1 l2 l3) ?_))
    rintro e a3 w3 ⟨z, s3, E3, rfl, hz, m1, m2, m3, m4, m5⟩
    cases z with
    | exit i => exact hz.elim
    | ret => exact hz.elim
    | normal =>
    obtain ⟨n1, n2, n3, n4⟩ := hz
    refine wpIn_block ?_
    refine wpIn_range hmix R tks ro m1 m2 m3 n1 hq hIC n2 n3 n4 hkb hp hpN hk1 hk2 hR0 hRc hbody ?_
    intro c E4 w4 D hRo hI4 hD4 hnD hbD hB4 hX4
    show post.wpIn _ _ _ _ _ _
    refine wpIn_mono (awp_inT (tks := []) (ds := [{ target := .collected D, args := #[] }]) wide_plain hmix post (keepsC_nil post) _ _ (hpost c hRo) (a := { a3 with defers := [{ target := .collected D, args := #[] }] }) hI4 m2 rfl) ?_
    rintro e a5 w5 ⟨z, s5, E5, rfl, hz, q1, q2, q3, q4, q5⟩
    have hD5 : w5.heap[D]? = some (.deferred (some [])) := (q5.ext.same D (Array.getElem?_eq_some_iff.1 hD4).1 hnD).trans hD4
    have hnD5 : ¬ OwnB E5 D := fun h => (q5.ext.own D h).elim hnD (fun h => by have := (Array.getElem?_eq_some_iff.1 hD4).1; omega)
    have psi : ∀ ad v, E5.Ψ ad = some v → ad.block ≠ D := by
      intro ad v hv he
      have := q1.psi ad v hv
      rw [cell_deferred (by rw [he]; exact hD5)] at this
      cases this
    have hfin : resultsA P fn.results.toList s5 = some r → LeavesInM Fence.wide 0 P fn a5.tmps (fun e w' => ∃ v' Φ' Ψ', e = .returned v' ∧ Below w.heap.size w w' ∧ (∀ a v, Φ a = some v → Φ' a = some v) ∧ (∀ a v, Ψ a = some v → Ψ' a = some v) ∧ (∀ a v, Φ' a = some v → Ψ' a = some v) ∧
        (∀ a v, Ψ' a = some v → w'.cell? a = some v) ∧ (∀ a v, Φ' a = some v → Φ a = some v ∨ w.heap.size ≤ a.block) ∧ (∀ a v, Ψ' a = some v → Ψ a = some v ∨ w.heap.size ≤ a.block) ∧ RelP (E0 Φ' Ψ') r v') a5.defers .returning w5 := by
      intro hres
      rw [q3]
      refine ⟨by simp, .inl ⟨D, _, rfl, run_takeDeferred hD5, ?_⟩⟩
      have hB5 : Below w.heap.size w (w5.putObj D (.deferred none)) := (((((k4.trans l4).trans m4).trans hB4).trans q4).trans (below_putObj hbD))
      have hX5 : Ext w.heap.size (E0 Φ Ψ) E5 := (((k5.toExt.trans l5.toExt).trans m5.toExt).trans hX4).trans q5.ext.toExt
      exact results_fin (q1.other (fun k hk => World.putObj_heap_other hk) (by simp) hnD5 psi) hB5 hX5 hres
    cases z with
    | normal => exact hfin hz
    | ret => exact hfin hz
    | exit i => exact hz.elim
end
end Go.Abs

/- Copies: the sites that are wanted, the rows that are made of them. -/
set_option linter.unusedVariables false
set_option linter.unusedSimpArgs false
namespace Go.Abs
open Go

def siteD (y : Loaded) (m : Import) (i e : Int) : Dat := .agg (y.enc.cells ++ m.enc.cells ++ [.int .i64 i, .int .i64 e])
def threadAt (l : List Loaded) (i e : Int) : Bool := match l[i.toNat]? with
  | some y => match y.image.exports[e.toNat]? with
    | some x => x.thread
    | none => true
  | none => true
/-- Where an import is copied from. -/
def copyOf (l : List Loaded) (im : Int) (m : Import) : Option (Int × Int) := if m.copy < 0 then none else if (foundAt l im m).2.2 = true ∧ threadAt l (foundAt l im m).1 (foundAt l im m).2.1 = false then some ((foundAt l im m).1, (foundAt l im m).2.1) else none
def sitesIn (l : List Loaded) (im : Int) (y : Loaded) : List Import → List Dat
  | [] => []
  | m :: ms => (match copyOf l im m with
    | some p => [siteD y m p.1 p.2]
    | none => []) ++ sitesIn l im y ms
def sitesFrom (l : List Loaded) : Nat → List Loaded → List Dat
  | _, [] => []
  | k, y :: ys => sitesIn l k y y.image.imports ++ sitesFrom l (k + 1) ys
def sites (l : List Loaded) : List Dat := sitesFrom l 0 l
/-- A site that leads to an export. -/
def SiteG (l : List Loaded) (d : Dat) : Prop := ∃ y m i e y2 x, d = siteD y m i e ∧ 0 ≤ i ∧ 0 ≤ e ∧ l[i.toNat]? = some y2 ∧ y2.image.exports[e.toNat]? = some x

/-- The same, and where it stands among the sites. -/
def SiteA (l : List Loaded) (L : List Dat) (d : Dat) : Prop := (∃ rest, L ++ d :: rest = sites l) ∧ SiteG l d

theorem loaded_cells (y : Loaded) : y.enc.cells = y.image.cells ++ [.int .i64 y.bias, .int .i64 y.thread, .int .i64 y.uses] := rfl

/-! ### the rows -/
structure CopyR where
  to : Int
  source : Int
  size : Int
  deriving DecidableEq
def CopyR.enc (c : CopyR) : Dat := .agg [.int .i64 c.to, .int .i64 c.source, .int .i64 c.size]
def dInt (d : Option Dat) : Int := match d with
  | some (.int _ n) => n
  | _ => 0
def fromOf (l : List Loaded) (i e : Int) : Int := match l[i.toNat]? with
  | some y => match y.image.exports[e.toNat]? with
    | some x => W (x.address + y.bias)
    | none => 0
  | none => 0
def rowOf (l : List Loaded) (d : Dat) : CopyR := ⟨W (dInt d.cells[26]? + dInt d.cells[19]?), fromOf l (dInt d.cells[28]?) (dInt d.cells[29]?), dInt d.cells[27]?⟩
theorem rowOf_site (l : List Loaded) (y : Loaded) (m : Import) (i e : Int) : rowOf l (siteD y m i e) = ⟨W (m.copy + y.bias), fromOf l i e, m.size⟩ := rfl
def copiesOf (l : List Loaded) : List CopyR := (sites l).map (rowOf l)

theorem sitesIn_len (l : List Loaded) (im : Int) (y : Loaded) : ∀ ms, (sitesIn l im y ms).length ≤ ms.length
  | [] => by simp [sitesIn]
  | m :: ms => by
    have := sitesIn_len l im y ms
    simp only [sitesIn, List.length_append, List.length_cons]
    split <;> simp <;> omega
theorem sitesFrom_len (l : List Loaded) : ∀ (k : Nat) (ys : List Loaded), (∀ y ∈ ys, y.image.imports.length ≤ 80) → (sitesFrom l k ys).length ≤ 80 * ys.length
  | _, [], _ => by simp [sitesFrom]
  | k, y :: ys, h => by
    have h1 := sitesFrom_len l (k + 1) ys (fun z hz => h z (List.mem_cons_of_mem _ hz))
    have h2 := sitesIn_len l k y y.image.imports
    have h3 := h y (by simp)
    simp only [sitesFrom, List.length_append, List.length_cons]
    omega
theorem imports_le {l : List Loaded} (h : loadedF l = Fault.ok) : ∀ y ∈ l, y.image.imports.length ≤ 80 := by
  intro y hy
  obtain ⟨hc, -, -⟩ := loaded_all h
  obtain ⟨-, -, hc3⟩ := check_all hc
  obtain ⟨j, hj, rfl⟩ := List.getElem_of_mem hy
  have := (hc3 j l[j].image (by unfold imagesOf; rw [List.getElem?_map, List.getElem?_eq_getElem hj]; rfl)).1
  exact (image_imports this).1
theorem sites_len {l : List Loaded} (h : loadedF l = Fault.ok) : (sites l).length ≤ 400 := by
  have h1 := sitesFrom_len l 0 l (imports_le h)
  obtain ⟨hc, -, -⟩ := loaded_all h
  obtain ⟨-, hc2, -⟩ := check_all hc
  rw [imagesOf_len] at hc2
  unfold sites
  omega

/-- The list as it grows. -/
def GrowsC (l : List Loaded) (e : Nat) (L : List Dat) (c : PVal) : Prop := (L = [] ∧ c = .nilS) ∨ c = .ow 42 e 3 (L.map fun d => (rowOf l d).enc)
theorem GrowsC.row {l : List Loaded} {e : Nat} {L : List Dat} {c : PVal} (h : GrowsC l e L c) : RowV c := by
  rcases h with ⟨_, rfl⟩ | rfl
  · exact .inl rfl
  · exact .inr ⟨_, _, _, _, rfl⟩
/-- What stays while one ranges. -/
def roC (d : Dat) (i : Nat) : PVal := if i = 1 then .cptr [.dat d] else .top

theorem siteD_ag (y : Loaded) (m : Import) (i e : Int) : AggN 30 (siteD y m i e) := ⟨_, rfl, rfl, by simp [Loaded.enc, Image.cells, Import.enc, Dat.cells, Dat.flat]⟩
theorem site_19 (y : Loaded) (m : Import) (i e : Int) : (siteD y m i e).cells[19]? = some (.int .i64 y.bias) := rfl
theorem site_26 (y : Loaded) (m : Import) (i e : Int) : (siteD y m i e).cells[26]? = some (.int .i64 m.copy) := rfl
theorem site_27 (y : Loaded) (m : Import) (i e : Int) : (siteD y m i e).cells[27]? = some (.int .i64 m.size) := rfl
theorem site_28 (y : Loaded) (m : Import) (i e : Int) : (siteD y m i e).cells[28]? = some (.int .i64 i) := rfl
theorem site_29 (y : Loaded) (m : Import) (i e : Int) : (siteD y m i e).cells[29]? = some (.int .i64 e) := rfl
theorem site_19' (y : Loaded) (m : Import) (i e : Int) (h : 19 < (siteD y m i e).cells.length) : (siteD y m i e).cells[19] = .int .i64 y.bias := rfl
theorem site_26' (y : Loaded) (m : Import) (i e : Int) (h : 26 < (siteD y m i e).cells.length) : (siteD y m i e).cells[26] = .int .i64 m.copy := rfl
theorem site_27' (y : Loaded) (m : Import) (i e : Int) (h : 27 < (siteD y m i e).cells.length) : (siteD y m i e).cells[27] = .int .i64 m.size := rfl
theorem site_28' (y : Loaded) (m : Import) (i e : Int) (h : 28 < (siteD y m i e).cells.length) : (siteD y m i e).cells[28] = .int .i64 i := rfl
theorem site_29' (y : Loaded) (m : Import) (i e : Int) (h : 29 < (siteD y m i e).cells.length) : (siteD y m i e).cells[29] = .int .i64 e := rfl
end Go.Abs

/- Copies: what List and Target compute. -/
set_option linter.unusedVariables false
namespace Go.Abs
open Go
def listF (l : List Loaded) : List CopyR × Fault := if loadedF l = Fault.ok then (copiesOf l, Fault.ok) else ([], loadedF l)
def listP (r : List CopyR × Fault) : PVal := .tup [.dat (.sl (r.1.map CopyR.enc)), .dat r.2.enc]
/-- Where a symbol of an image leads. -/
def tgtC (l : List Loaded) (im : Int) (y : Loaded) (m : Import) : Int × Bool := if (foundAt l im m).2.2 = true ∧ threadAt l (foundAt l im m).1 (foundAt l im m).2.1 = false then (if 0 ≤ m.copy then W (m.copy + y.bias) else fromOf l (foundAt l im m).1 (foundAt l im m).2.1, true) else (0, false)
def targetC (l : List Loaded) (im k : Int) : (Int × Bool) × Fault := if ¬ loadedF l = Fault.ok then ((0, false), loadedF l) else if im < 0 ∨ (l.length : Int) ≤ im then ((0, false), ⟨3, -9⟩) else match l[im.toNat]? with
  | none => ((0, false), ⟨3, -9⟩)
  | some y => if k < 0 ∨ (y.image.imports.length : Int) ≤ k then ((0, false), ⟨3, -9⟩) else match y.image.imports[k.toNat]? with
    | none => ((0, false), ⟨3, -9⟩)
    | some m => (tgtC l im y m, Fault.ok)
def tgtP (r : (Int × Bool) × Fault) : PVal := .tup [.dat (.int .i64 r.1.1), .dat (.bool r.1.2), .dat r.2.enc]
theorem both_list : listF bothI = ([], Fault.ok) := by decide +kernel
theorem both_target : targetC bothI 0 0 = ((4608, true), Fault.ok) := by decide +kernel

/-! ### where a row comes from -/
/-- An address at which an image has an export of its own memory. -/
def Defined (l : List Loaded) (a : Int) : Prop := ∃ (j k : Nat) (y : Loaded) (x : Export), l[j]? = some y ∧ y.image.exports[k]? = some x ∧ x.thread = false ∧ W (x.address + y.bias) = a
theorem threadAt_false {l : List Loaded} {i e : Int} (h : threadAt l i e = false) : Defined l (fromOf l i e) := by
  unfold threadAt at h
  split at h
  · rename_i y hy
    split at h
    · rename_i x hx
      exact ⟨_, _, y, x, hy, hx, h, by unfold fromOf; simp only [hy, hx]⟩
    · cases h
  · cases h
theorem sitesIn_def {l : List Loaded} {im : Int} {y : Loaded} {d : Dat} : ∀ {ms : List Import}, d ∈ sitesIn l im y ms → Defined l (rowOf l d).source
  | [], h => by simp [sitesIn] at h
  | m :: ms, h => by
    simp only [sitesIn, List.mem_append] at h
    rcases h with h | h
    · split at h
      · rename_i p hp
        simp only [List.mem_singleton] at h
        subst h
        rw [rowOf_site]
        unfold copyOf at hp
        split at hp
        · cases hp
        · split at hp
          · rename_i hc
            injection hp with hp
            subst hp
            exact threadAt_false hc.2
          · cases hp
      · simp at h
    · exact sitesIn_def h
theorem sitesFrom_def {l : List Loaded} {d : Dat} : ∀ {k : Nat} {ys : List Loaded}, d ∈ sitesFrom l k ys → Defined l (rowOf l d).source
  | _, [], h => by simp [sitesFrom] at h
  | k, y :: ys, h => by
    simp only [sitesFrom, List.mem_append] at h
    rcases h with h | h
    · exact sitesIn_def h
    · exact sitesFrom_def h
theorem listF_def (l : List Loaded) : ∀ r ∈ (listF l).1, Defined l r.source := by
  intro r hr
  unfold listF at hr
  split at hr
  · obtain ⟨d, hd, rfl⟩ := List.mem_map.1 hr
    exact sitesFrom_def hd
  · simp at hr
theorem listF_len (l : List Loaded) : (listF l).1.length ≤ 400 := by
  unfold listF
  split
  · rename_i h; simp [copiesOf]; exact sites_len h
  · simp
theorem CopyR.ag (c : CopyR) : AggN 3 c.enc := ⟨_, rfl, rfl, by simp [Dat.flat]⟩
end Go.Abs

/- Copies, as the specification has them: grown image by image. -/
set_option linter.unusedVariables false
namespace Go.Abs
open Go
/-- The rows of one image's symbols. -/
def rowsIn (l : List Loaded) (im : Int) (y : Loaded) (ms : List Import) : List CopyR := (sitesIn l im y ms).map (rowOf l)
def rowsFrom (l : List Loaded) (k : Nat) (ys : List Loaded) : List CopyR := (sitesFrom l k ys).map (rowOf l)
theorem rowsIn_nil (l : List Loaded) (im : Int) (y : Loaded) : rowsIn l im y [] = [] := rfl
theorem rowsIn_cons (l : List Loaded) (im : Int) (y : Loaded) (m : Import) (ms : List Import) : rowsIn l im y (m :: ms) = (match copyOf l im m with
  | some p => [⟨W (m.copy + y.bias), fromOf l p.1 p.2, m.size⟩]
  | none => []) ++ rowsIn l im y ms := by
  unfold rowsIn
  simp only [sitesIn, List.map_append]
  cases copyOf l im m <;> rfl
theorem rowsFrom_nil (l : List Loaded) (k : Nat) : rowsFrom l k [] = [] := rfl
theorem rowsFrom_cons (l : List Loaded) (k : Nat) (y : Loaded) (ys : List Loaded) : rowsFrom l k (y :: ys) = rowsIn l k y y.image.imports ++ rowsFrom l (k + 1) ys := by
  simp [rowsFrom, rowsIn, sitesFrom]
theorem copiesOf_rows (l : List Loaded) : copiesOf l = rowsFrom l 0 l := rfl
theorem copiesOf_len {l : List Loaded} (h : loadedF l = Fault.ok) : (copiesOf l).length ≤ 400 := by
  unfold copiesOf; rw [List.length_map]; exact sites_len h
end Go.Abs
