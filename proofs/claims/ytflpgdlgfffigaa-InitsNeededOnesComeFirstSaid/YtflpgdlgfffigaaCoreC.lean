/- An abstract interpreter of the program's code, and that what it says holds: part CoreC. -/
import Derived.Test.YtflpgdlgfffigaaCoreB
import Derived.Shelf.GgClosure.Gives
import Derived.Sort.Row
import Derived.Sort.Grow
import Derived.JoinedOf
/- The order of initialization: plain facts. -/
set_option linter.unusedVariables false
set_option linter.unusedSimpArgs false
namespace Go.Abs
open Go
theorem sortedFrom_succ (needs : List (List Int)) : ∀ (k : Nat) (out : List Int), sortedFrom needs (k + 1) out = sortedFrom needs k out ++ [pick needs (sortedFrom needs k out)]
  | 0, out => rfl
  | k + 1, out => by
    have := sortedFrom_succ needs k (out ++ [pick needs out])
    conv => lhs; unfold sortedFrom
    rw [this]
    conv => rhs; unfold sortedFrom
theorem sortedFrom_len (needs : List (List Int)) : ∀ (k : Nat) (out : List Int), (sortedFrom needs k out).length = out.length + k
  | 0, out => rfl
  | k + 1, out => by
    unfold sortedFrom
    rw [sortedFrom_len needs k]
    simp; omega
theorem pick_step_done {needs : List (List Int)} {out : List Int} {n i : Nat} {w : Int} (h : hasI out i = true) : pickFrom needs out (n + 1) i w = pickFrom needs out n (i + 1) w := by
  conv => lhs; unfold pickFrom
  rw [if_pos (by unfold doneB; exact h)]
theorem pick_step_ready {needs : List (List Int)} {out : List Int} {n i : Nat} {w : Int} (h : hasI out i = false) (hr : readyB needs out i = true) : pickFrom needs out (n + 1) i w = i := by
  conv => lhs; unfold pickFrom
  rw [if_neg (by unfold doneB; simp [h]), if_pos hr]
theorem pick_step_not {needs : List (List Int)} {out : List Int} {n i : Nat} {w : Int} (h : hasI out i = false) (hr : readyB needs out i = false) : pickFrom needs out (n + 1) i w = pickFrom needs out n (i + 1) (if w < 0 then (i : Int) else w) := by
  conv => lhs; unfold pickFrom
  rw [if_neg (by unfold doneB; simp [h]), if_neg (by simp [hr])]
end Go.Abs

/- Loaded images: what the checks and the calls compute. -/
set_option linter.unusedVariables false
set_option linter.unusedSimpArgs false
namespace Go.Abs
open Go
def imagesOf (l : List Loaded) : List Image := l.map (·.image)
def badLoaded (x : Loaded) : Prop := ¬ x.bias.tmod 256 = 0 ∨ x.bias < 0 ∨ 1048576 ≤ x.bias ∨ ¬ x.thread.tmod 16 = 0 ∨ x.thread < 0 ∨ 1024 < x.thread ∨ x.uses < 0 ∨ 1000000 < x.uses
instance (x : Loaded) : Decidable (badLoaded x) := by unfold badLoaded; infer_instance
def loadedFrom : Nat → List Loaded → Fault
  | _, [] => Fault.ok
  | k, x :: xs => if badLoaded x then ⟨3, k⟩ else loadedFrom (k + 1) xs
def needsFault (l : List Image) : Fault := match missing l with
  | some i => ⟨6, i⟩
  | none => Fault.ok
def loadedF (l : List Loaded) : Fault := if ¬ checkF (imagesOf l) = Fault.ok then checkF (imagesOf l) else if ¬ loadedFrom 0 l = Fault.ok then loadedFrom 0 l else needsFault (imagesOf l)
def initsAt (l : List Loaded) (i : Int) : List Int := match l[i.toNat]? with
  | some x => x.image.inits.map fun a => W (a + x.bias)
  | none => []
def callsOf (l : List Loaded) (order : List Int) : List Int := order.flatMap (initsAt l)
def allF (l : List Loaded) : List Int := callsOf l (sortedF (needRows (imagesOf l)))
def callsF (l : List Loaded) : List Int × Fault := if loadedF l = Fault.ok then (allF l, Fault.ok) else ([], loadedF l)
theorem good_loadedFrom : ∀ (k : Nat) (l : List Loaded), Good (loadedFrom k l)
  | _, [] => good_ok
  | k, x :: xs => by
    unfold loadedFrom
    split
    · exact good_mk (by omega)
    · exact good_loadedFrom (k + 1) xs
theorem good_needs (l : List Image) : Good (needsFault l) := by
  unfold needsFault
  split
  · exact good_mk (by omega)
  · exact good_ok
theorem good_loaded (l : List Loaded) : Good (loadedF l) := by
  unfold loadedF
  repeat' split
  · exact good_check _
  · exact good_loadedFrom _ _
  · exact good_needs _
theorem imagesOf_len (l : List Loaded) : (imagesOf l).length = l.length := by simp [imagesOf]
theorem imagesOf_wf {l : List Loaded} (hl : Short l ∧ ∀ x ∈ l, x.WF) : Short (imagesOf l) ∧ ∀ x ∈ imagesOf l, x.WF := by
  refine ⟨by have := hl.1; unfold Short at *; rw [imagesOf_len]; exact this, ?_⟩
  intro x hx
  simp only [imagesOf, List.mem_map] at hx
  obtain ⟨y, hy, rfl⟩ := hx
  exact (hl.2 y hy).1
theorem loadedFrom_all : ∀ (k : Nat) (l : List Loaded), loadedFrom k l = Fault.ok → ∀ x ∈ l, ¬ badLoaded x
  | _, [], _, x, hx => by simp at hx
  | k, y :: ys, h, x, hx => by
    unfold loadedFrom at h
    split at h
    · rw [fault_ok] at h; have := h.1; simp at this
    · rename_i hb
      rcases List.mem_cons.1 hx with rfl | hx
      · exact hb
      · exact loadedFrom_all (k + 1) ys h x hx
theorem loaded_all {l : List Loaded} (h : loadedF l = Fault.ok) : checkF (imagesOf l) = Fault.ok ∧ (∀ x ∈ l, ¬ badLoaded x) ∧ missing (imagesOf l) = none := by
  unfold loadedF at h
  split at h
  · rename_i h1; exact absurd h h1
  · rename_i h1
    split at h
    · rename_i h2; exact absurd h h2
    · rename_i h2
      refine ⟨by simpa using h1, loadedFrom_all 0 l (by simpa using h2), ?_⟩
      unfold needsFault at h
      split at h
      · rw [fault_ok] at h; have := h.1; simp at this
      · assumption
theorem image_inits {x : Image} (h : imageF x = Fault.ok) : x.inits.length ≤ 60 := by
  have := (each_all ((image_all h).2 (each 60 14 (x.inits.map (funcCode x))) (by simp [bodyF]))).1
  simp at this; omega
theorem needsR_ok {l : List Image} (h : missing l = none) : needsR l = .tup [.dat (rowsD (needRows l)), .dat (.int .i64 0), .dat (.bool true)] := by unfold needsR; rw [h]
theorem needsR_bad {l : List Image} {i : Nat} (h : missing l = some i) : needsR l = .tup [.dat (.sl []), .dat (.int .i64 i), .dat (.bool false)] := by unfold needsR; rw [h]
/-- A list of structs that grows. -/
def GrowsR (ds : List Nat) (e z : Nat) (p : PVal) (xs : List Dat) : Prop := (xs = [] ∧ p = .nilS) ∨ ∃ d, d ∈ ds ∧ p = .ow d e z xs
theorem loaded_take (x : Loaded) : mkAgg (List.take 19 (List.map PVal.dat x.enc.cells)) = .dat x.image.enc := by
  have : List.take 19 (List.map PVal.dat x.enc.cells) = x.image.enc.cells.map PVal.dat := rfl
  rw [this, (Image.ag x.image).mk]
theorem loaded_19 (x : Loaded) : x.enc.cells[19]? = some (.int .i64 x.bias) := rfl
theorem loaded_20 (x : Loaded) : x.enc.cells[20]? = some (.int .i64 x.thread) := rfl
theorem loaded_21 (x : Loaded) : x.enc.cells[21]? = some (.int .i64 x.uses) := rfl
theorem loaded_9 (x : Loaded) : x.enc.cells[9]? = some (.sl (x.image.inits.map (.int .i64))) := rfl
theorem loaded_19' (x : Loaded) (h : 19 < x.enc.cells.length) : x.enc.cells[19]'h = .int .i64 x.bias := rfl
theorem loaded_20' (x : Loaded) (h : 20 < x.enc.cells.length) : x.enc.cells[20]'h = .int .i64 x.thread := rfl
theorem loaded_21' (x : Loaded) (h : 21 < x.enc.cells.length) : x.enc.cells[21]'h = .int .i64 x.uses := rfl
theorem loaded_9' (x : Loaded) (h : 9 < x.enc.cells.length) : x.enc.cells[9]'h = .sl (x.image.inits.map (.int .i64)) := rfl
theorem bothI_wf : Short bothI ∧ ∀ x ∈ bothI, x.WF := by
  refine ⟨by simp [bothI, Short], ?_⟩
  intro x hx
  simp only [bothI, List.mem_cons, List.not_mem_nil, or_false] at hx
  rcases hx with rfl | rfl
  · exact ⟨mainI_wf, by simp [I64]⟩
  · exact ⟨libI_wf, by simp [I64]⟩
theorem both_loaded : loadedF bothI = Fault.ok := by decide +kernel
theorem both_calls : callsF bothI = ([4608], Fault.ok) := by
  have h : allF bothI = [4608] := by decide +kernel
  unfold callsF; rw [if_pos both_loaded, h]
end Go.Abs

/- The calls at the start: plain facts. -/
set_option linter.unusedVariables false
set_option linter.unusedSimpArgs false
namespace Go.Abs
open Go
theorem pick_spec {needs : List (List Int)} {out : List Int} {N : Nat} : ∀ (m i : Nat) (w : Int), i + m = N → (w = -1 ∧ (∃ j : Nat, i ≤ j ∧ j < N ∧ hasI out j = false)) ∨ (0 ≤ w ∧ w < N ∧ hasI out w = false) →
    0 ≤ pickFrom needs out m i w ∧ pickFrom needs out m i w < N ∧ hasI out (pickFrom needs out m i w) = false
  | 0, i, w, hi, h => by
    rcases h with ⟨_, j, h1, h2, _⟩ | h
    · omega
    · exact h
  | m + 1, i, w, hi, h => by
    cases hd : hasI out (i : Int)
    · cases hr : readyB needs out i
      · rw [pick_step_not hd hr]
        refine pick_spec m (i + 1) _ (by omega) (.inr ?_)
        rcases h with ⟨rfl, _⟩ | h
        · rw [if_pos (by omega)]; exact ⟨by omega, by omega, hd⟩
        · rw [if_neg (by omega)]; exact h
      · rw [pick_step_ready hd hr]; exact ⟨by omega, by omega, hd⟩
    · rw [pick_step_done hd]
      refine pick_spec m (i + 1) w (by omega) ?_
      rcases h with ⟨h1, j, h2, h3, h4⟩ | h
      · refine .inl ⟨h1, j, ?_, h3, h4⟩
        by_cases e : j = i
        · subst e; rw [hd] at h4; cases h4
        · omega
      · exact .inr h
theorem sorted_nice (needs : List (List Int)) : ∀ k, k ≤ needs.length → Nice needs.length (sortedFrom needs k [])
  | 0, _ => nice_nil _
  | k + 1, hk => by
    have ih := sorted_nice needs k (by omega)
    have hlen := sortedFrom_len needs k []
    rw [sortedFrom_succ]
    generalize sortedFrom needs k [] = out at *
    simp only [List.length_nil, Nat.zero_add] at hlen
    have hex : ∃ j : Nat, 0 ≤ j ∧ j < needs.length ∧ hasI out j = false := by
      refine Classical.byContradiction fun hno => ?_
      have := cover_len needs.length out (fun r hr => by
        rw [← hasI_iff]
        cases hh : hasI out (r : Int)
        · exact absurd ⟨r, Nat.zero_le _, hr, hh⟩ hno
        · rfl)
      omega
    have := pick_spec (needs := needs) (out := out) (N := needs.length) needs.length 0 (-1) (by omega) (.inl ⟨rfl, hex⟩)
    exact ih.add ⟨this.1, this.2.1⟩ this.2.2
theorem sortedF_nice (needs : List (List Int)) : Nice needs.length (sortedF needs) ∧ (sortedF needs).length = needs.length := ⟨sorted_nice needs _ (Nat.le_refl _), by have := sortedFrom_len needs needs.length []; rw [List.length_nil, Nat.zero_add] at this; exact this⟩
theorem nice_full {n : Nat} {out : List Int} (h : Nice n out) (hl : out.length = n) : ∀ r : Nat, r < n → (r : Int) ∈ out := by
  intro r hr
  refine Classical.byContradiction fun hno => ?_
  have h2 : Nice n (out ++ [(r : Int)]) := h.add ⟨by omega, by omega⟩ (hasI_false.2 hno)
  have := h2.length
  simp at this; omega
theorem initsAt_len {l : List Loaded} (h : loadedF l = Fault.ok) (i : Int) : (initsAt l i).length ≤ 60 := by
  unfold initsAt
  cases hx : l[i.toNat]? with
  | none => simp
  | some x =>
    have : imageF x.image = Fault.ok := check_img (loaded_all h).1 (by simp only [imagesOf, List.mem_map]; exact ⟨x, List.mem_of_getElem? hx, rfl⟩)
    have := image_inits this
    simpa using this
theorem callsOf_take {l : List Loaded} {order : List Int} {m : Nat} {i : Int} (h : order[m]? = some i) : callsOf l (order.take (m + 1)) = callsOf l (order.take m) ++ initsAt l i := by
  obtain ⟨hm, rfl⟩ := List.getElem?_eq_some_iff.1 h
  unfold callsOf
  rw [List.take_succ_eq_append_getElem hm, List.flatMap_append]
  simp
theorem callsOf_len {l : List Loaded} (h : loadedF l = Fault.ok) : ∀ order : List Int, (callsOf l order).length ≤ 60 * order.length
  | [] => by simp [callsOf]
  | i :: is => by
    have h1 := callsOf_len h is
    have h2 := initsAt_len h i
    have h3 : callsOf l (i :: is) = initsAt l i ++ callsOf l is := by simp [callsOf]
    rw [h3]
    simp; omega

/-! ### all of them, and in order -/
def greedy (s : List Int) : List Int → Nat → Nat
  | [], a => a
  | c :: cs, a => greedy s cs (if s[a]? = some c then a + 1 else a)
theorem greedy_mono (s : List Int) : ∀ (c : List Int) (a : Nat), a ≤ greedy s c a
  | [], a => Nat.le_refl _
  | c :: cs, a => by
    unfold greedy
    refine Nat.le_trans ?_ (greedy_mono s cs _)
    split <;> omega
theorem greedy_le (s : List Int) : ∀ (c : List Int) (a : Nat), a ≤ s.length → greedy s c a ≤ s.length
  | [], a, h => h
  | c :: cs, a, h => by
    unfold greedy
    refine greedy_le s cs _ ?_
    split
    · rename_i hs; have := (List.getElem?_eq_some_iff.1 hs).1; omega
    · exact h
theorem greedy_append (s : List Int) : ∀ (c d : List Int) (a : Nat), greedy s (c ++ d) a = greedy s d (greedy s c a)
  | [], d, a => rfl
  | c :: cs, d, a => by simp only [List.cons_append, greedy]; exact greedy_append s cs d _
theorem greedy_block (s : List Int) : ∀ (t : List Int) (j a : Nat), s.drop j = t → j ≤ a → j ≤ s.length → s.length ≤ greedy s t a
  | [], j, a, h, ha, hj => by
    rw [List.drop_eq_nil_iff] at h
    have := greedy_mono s [] a
    unfold greedy; omega
  | x :: t, j, a, h, ha, hj => by
    have hjl : j < s.length := by
      refine Classical.byContradiction fun hn => ?_
      rw [List.drop_eq_nil_of_le (by omega)] at h; cases h
    rw [List.drop_eq_getElem_cons hjl] at h
    injection h with h1 h2
    unfold greedy
    refine greedy_block s t (j + 1) _ h2 ?_ (by omega)
    by_cases e : a = j
    · subst e; rw [List.getElem?_eq_getElem hjl, h1, if_pos rfl]; exact Nat.le_refl _
    · split <;> omega
theorem greedy_all {l : List Loaded} {order : List Int} {i : Int} (hi : i ∈ order) : greedy (initsAt l i) (callsOf l order) 0 = (initsAt l i).length := by
  obtain ⟨a, b, rfl⟩ := List.append_of_mem hi
  have h1 : callsOf l (a ++ i :: b) = callsOf l a ++ (initsAt l i ++ callsOf l b) := by simp [callsOf]
  rw [h1, greedy_append, greedy_append]
  have h2 := greedy_block (initsAt l i) (initsAt l i) 0 (greedy (initsAt l i) (callsOf l a) 0) rfl (Nat.zero_le _) (Nat.zero_le _)
  have h3 := greedy_mono (initsAt l i) (callsOf l b) (greedy (initsAt l i) (initsAt l i) (greedy (initsAt l i) (callsOf l a) 0))
  have h4 := greedy_le (initsAt l i) (callsOf l b) (greedy (initsAt l i) (initsAt l i) (greedy (initsAt l i) (callsOf l a) 0)) (greedy_le _ _ _ (greedy_le _ _ _ (Nat.zero_le _)))
  omega
theorem sum_out (f : Int → Nat) (a : Int) : ∀ (l : List Int), l.Nodup → a ∈ l → (l.map f).sum = f a + ((l.filter fun v => decide (v ≠ a)).map f).sum
  | [], _, h => by simp at h
  | x :: l, hn, h => by
    rw [List.nodup_cons] at hn
    by_cases e : x = a
    · subst e
      have : (l.filter fun v => decide (v ≠ x)) = l := by
        rw [List.filter_eq_self]
        intro v hv
        simp only [decide_eq_true_eq]
        intro e2; subst e2; exact hn.1 hv
      simp only [List.map_cons, List.sum_cons, List.filter_cons, ne_eq, not_true_eq_false, decide_false, Bool.false_eq_true, if_false]
      have h5 : (l.filter fun v => decide (¬ v = x)) = l := this
      rw [h5]
    · have hm : a ∈ l := by
        rcases List.mem_cons.1 h with h | h
        · exact absurd h.symm e
        · exact h
      have ih := sum_out f a l hn.2 hm
      simp only [ne_eq] at ih
      simp only [List.map_cons, List.sum_cons, List.filter_cons, ne_eq, e, not_false_eq_true, decide_true, if_true]
      omega
theorem sum_full (f : Int → Nat) : ∀ (n : Nat) (out : List Int), Nice n out → out.length = n → (out.map f).sum = ((List.range n).map fun r : Nat => f (r : Int)).sum
  | 0, out, _, hl => by rw [List.length_eq_zero_iff.1 hl]; rfl
  | n + 1, out, h, hl => by
    have hm := nice_full h hl n (by omega)
    rw [sum_out f n out h.1 hm, List.range_succ, List.map_append, List.sum_append]
    have h2 : Nice n (out.filter fun v => decide (v ≠ (n : Int))) := by
      refine ⟨h.1.filter _, fun v hv => ?_⟩
      simp only [List.mem_filter, decide_eq_true_eq] at hv
      have := h.2 v hv.1
      omega
    have h3 : n ≤ (out.filter fun v => decide (v ≠ (n : Int))).length := cover_len n _ (fun r hr => by
      rw [List.mem_filter]; exact ⟨nice_full h hl r (by omega), by simp; omega⟩)
    have h4 := h2.length
    rw [sum_full f n _ h2 (by omega)]
    simp; omega
theorem callsOf_sum (l : List Loaded) : ∀ order : List Int, (callsOf l order).length = (order.map fun i => (initsAt l i).length).sum
  | [] => rfl
  | i :: is => by
    have := callsOf_sum l is
    simp only [callsOf, List.flatMap_cons, List.length_append, List.map_cons, List.sum_cons] at this ⊢
    omega
def initsTo (l : List Loaded) (k : Nat) : Nat := ((List.range k).map fun r : Nat => (initsAt l (r : Int)).length).sum
theorem initsTo_succ (l : List Loaded) (k : Nat) : initsTo l (k + 1) = initsTo l k + (initsAt l (k : Int)).length := by
  unfold initsTo; rw [List.range_succ, List.map_append, List.sum_append]; simp
theorem initsTo_le {l : List Loaded} (h : loadedF l = Fault.ok) : ∀ k, initsTo l k ≤ 60 * k
  | 0 => by simp [initsTo]
  | k + 1 => by
    have := initsTo_le h k
    have := initsAt_len h (k : Int)
    rw [initsTo_succ]; omega
theorem allF_len (l : List Loaded) : (allF l).length = initsTo l l.length := by
  have h := sortedF_nice (needRows (imagesOf l))
  rw [needRows_len, imagesOf_len] at h
  unfold allF initsTo
  rw [callsOf_sum, sum_full (fun i => (initsAt l i).length) l.length _ h.1 h.2]
theorem allF_greedy (l : List Loaded) (k : Nat) (hk : k < l.length) : greedy (initsAt l (k : Int)) (allF l) 0 = (initsAt l (k : Int)).length := by
  have h := sortedF_nice (needRows (imagesOf l))
  rw [needRows_len, imagesOf_len] at h
  exact greedy_all (nice_full h.1 h.2 k hk)
end Go.Abs

/- A function of which a part is walked by hand. -/
set_option linter.unusedVariables false
set_option linter.unusedSimpArgs false
namespace Go.Abs
open Go Go.RowKit
section
variable {P : Program}
/-- A function's contract, where a part of its code was walked by hand. -/
theorem rcall_of_wp {f : Nat} {fn : Func} {c : Code} {ps : List PVal} {r : PVal} (hf : P.funcs[f]? = some fn) (hname : (fn.name == "runtime.NumGoroutine") = false) (hb : fn.body = some c)
    (hn : ps.length ≤ fn.ntmps) (h : ∀ {base : Nat} {E : Env} {a : Act} {w : World}, Inv base E (argSt ps) a.tmps w → a.tmps.size = fn.ntmps → a.defers = [] → c.wp P (PostA base fn.ntmps E w (retK P fn.results.toList r)) a w) : RCall P f ps r := by
  refine ⟨fun args w => ?_, fun Φ Ψ vs w h1 h2 h3 hr => ?_⟩
  · have h1 : fn.name ≠ "runtime.NumGoroutine" := by simpa using hname
    simp [callFunc, hf, h1, hb]
  · refine calls_of_wp hf hb (wp_mono (h (argSt_inv fn.ntmps h1 h2 h3 hr) (by simp; have := hr.1; omega) rfl) ?_)
    rintro e a' w' ⟨x, s', E', rfl, hx, hI, hN, hd, hB, hE⟩
    have fin : resultsA P fn.results.toList s' = some r → a'.defers = [] ∧ ∃ v, (results fn a'.tmps).run P w' = .ok v w' ∧ ∃ v' Φ' Ψ', Ending.returned v = .returned v' ∧ Below w.heap.size w w' ∧ (∀ a v, Φ a = some v → Φ' a = some v) ∧ (∀ a v, Ψ a = some v → Ψ' a = some v) ∧ (∀ a v, Φ' a = some v → Ψ' a = some v) ∧
        (∀ a v, Ψ' a = some v → w'.cell? a = some v) ∧ (∀ a v, Φ' a = some v → Φ a = some v ∨ w.heap.size ≤ a.block) ∧ (∀ a v, Ψ' a = some v → Ψ a = some v ∨ w.heap.size ≤ a.block) ∧ RelP (E0 Φ' Ψ') r v' := by
      intro hres
      have hboxnew : ∀ (f : Mem) (a : Addr) (v : Value), boxMem E' w' s'.h f a = some v → f a = some v ∨ w.heap.size ≤ a.block := by
        intro f a v ha
        unfold boxMem at ha
        split at ha
        · rename_i hc
          obtain ⟨t, cs, _, hβ⟩ := hc
          exact .inr (hI.bsep t _ hβ).1
        · exact .inl ha
      have common : ∀ {q : PVal} {v : Value}, RelP (E0 (boxMem E' w' s'.h E'.Φ) (boxMem E' w' s'.h E'.Ψ)) q v → (∃ v' Φ' Ψ', Ending.returned v = .returned v' ∧ Below w.heap.size w w' ∧ (∀ a v, Φ a = some v → Φ' a = some v) ∧ (∀ a v, Ψ a = some v → Ψ' a = some v) ∧ (∀ a v, Φ' a = some v → Ψ' a = some v) ∧
          (∀ a v, Ψ' a = some v → w'.cell? a = some v) ∧ (∀ a v, Φ' a = some v → Φ a = some v ∨ w.heap.size ≤ a.block) ∧ (∀ a v, Ψ' a = some v → Ψ a = some v ∨ w.heap.size ≤ a.block) ∧ RelP (E0 Φ' Ψ') q v') := by
        intro q v hq
        refine ⟨v, boxMem E' w' s'.h E'.Φ, boxMem E' w' s'.h E'.Ψ, rfl, hB, fun a v ha => boxMem_le hI hI.sub a v (hE.phi a v ha), fun a v ha => boxMem_le hI (fun _ _ h => h) a v (hE.psi a v ha), fun a v ha => ?_, boxMem_sound hI.psi, fun a v ha => ?_, fun a v ha => ?_, hq⟩
        · unfold boxMem at ha ⊢
          split at ha
          · rename_i hc; rw [if_pos hc]; exact ha
          · rename_i hc; rw [if_neg hc]; exact hI.sub a v ha
        · rcases hboxnew _ a v ha with h | h
          · exact hE.newp a v h
          · exact .inr h
        · rcases hboxnew _ a v ha with h | h
          · exact hE.new a v h
          · exact .inr h
      refine ⟨hd, ?_⟩
      unfold resultsA at hres
      have hm : ∀ vs : List Value, (fn.results.toList.mapM (resOne a'.tmps) : Sem (List Value)).run P w' = .ok vs w' →
          (results fn a'.tmps).run P w' = .ok (if h : vs.toArray.size = 1 then vs.toArray[0] else .tuple vs.toArray) w' := by
        intro vs hvs
        rw [results_eq, Sem.run_bind, Array.mapM_eq_mapM_toList]
        simp only [Sem.run_map]
        rw [hvs]
        rfl
      split at hres
      · rename_i p hrs
        injection hres with hres; subst hres
        obtain ⟨us, g1, g2, g3⟩ := resAs_sound (P := P) hI (fun _ _ h => h) (fun _ _ h => h) _ _ hrs
        obtain ⟨u, rfl⟩ : ∃ u, us = [u] := by
          cases us with
          | nil => simp at g2
          | cons u t => cases t with
            | nil => exact ⟨u, rfl⟩
            | cons _ _ => simp at g2
        refine ⟨u, ?_, common (g3 0 p u rfl rfl)⟩
        have := hm [u] g1
        simpa using this
      · rename_i qs hne hrs
        injection hres with hres; subst hres
        obtain ⟨us, g1, g2, g3⟩ := resAs_sound (P := P) hI (fun _ _ h => h) (fun _ _ h => h) _ _ hrs
        have hl : us.toArray.size ≠ 1 := by
          intro h1
          have : qs.length = 1 := by rw [← g2]; simpa using h1
          obtain ⟨p, hp⟩ := List.length_eq_one_iff.1 this
          exact hne p (by rw [hp])
        refine ⟨.tuple us.toArray, ?_, common (.tup qs us g2 g3)⟩
        have := hm us g1
        rw [dif_neg hl] at this
        exact this
      · cases hres
    cases x with
    | normal => exact fin hx
    | ret => exact fin hx
    | exit id => exact hx.elim

/-- A piece walked by hand, then the rest. -/
theorem postA_seq {base N : Nat} {E : Env} {a : Act} {w : World} {Q : AExit → ASt → Prop} {x y : Code} (s' : ASt) (hx : x.wp P (PostA base N E w (fun e s => e = .normal ∧ s = s')) a w)
    (hy : ∀ {E1 : Env} {a1 : Act} {w1 : World}, Inv base E1 s' a1.tmps w1 → a1.tmps.size = N → a1.defers = [] → y.wp P (PostA base N E1 w1 Q) a1 w1) : (Code.seq x y).wp P (PostA base N E w Q) a w := by
  refine wp_seq (wp_mono hx ?_)
  rintro e a1 w1 ⟨z, s1, E1, rfl, ⟨rfl, rfl⟩, k1, k2, k3, k4, k5⟩
  refine wp_mono (hy k1 k2 k3) ?_
  rintro e a2 w2 ⟨z, s2, E2, rfl, hz2, q1, q2, q3, q4, q5⟩
  exact ⟨z, s2, E2, rfl, hz2, q1, q2, q3, k4.trans q4, k5.trans q5⟩
/-- The same, of which only facts are known behind it. -/
theorem postA_cut {base N : Nat} {E : Env} {a : Act} {w : World} {Q : AExit → ASt → Prop} {x y : Code} (J : ASt → Prop) (hx : x.wp P (PostA base N E w (leaves J)) a w)
    (hy : ∀ (s' : ASt), J s' → ∀ {E1 : Env} {a1 : Act} {w1 : World}, Inv base E1 s' a1.tmps w1 → a1.tmps.size = N → a1.defers = [] → y.wp P (PostA base N E1 w1 Q) a1 w1) : (Code.seq x y).wp P (PostA base N E w Q) a w := by
  refine wp_seq (wp_mono hx ?_)
  rintro e a1 w1 ⟨z, s1, E1, rfl, hz, k1, k2, k3, k4, k5⟩
  cases z with
  | normal =>
    refine wp_mono (hy s1 hz k1 k2 k3) ?_
    rintro e a2 w2 ⟨z, s2, E2, rfl, hz2, q1, q2, q3, q4, q5⟩
    exact ⟨z, s2, E2, rfl, hz2, q1, q2, q3, k4.trans q4, k5.trans q5⟩
  | exit i => exact hz.elim
  | ret => exact hz.elim
end
end Go.Abs

/- A clone from which some numbers are struck: walked by hand. -/
set_option linter.unusedVariables false
set_option linter.unusedSimpArgs false
namespace Go.Abs
open Go Go.RowKit Go.Proofs Go.Sort

section
variable {P : Program} {ops : Array Oper} {Q : Exit → Act → World → Prop}
theorem wpOp_val {i : Nat} {o : Oper} {K : Act → World → Prop} {a : Act} {w w1 : World} {v : Value} (ho : ops[i]? = some o) (hg : o.guard = none) (hrun : (execOp a.eval o).run P w = .ok (.value v) w1) (hK : K (a.put o.dst v) w1) : wpOp P ops Q i K a w := by
  unfold wpOp
  rw [ho]
  simp only
  rw [if_pos (by unfold Region.wanted; rw [hg])]
  left
  unfold Oper.wp
  rw [hrun]
  exact hK
theorem wpOp_call {i g : Nat} {o : Oper} {K : Act → World → Prop} {a : Act} {w : World} {args : Array Value} (ho : ops[i]? = some o) (hg : o.guard = none) (hrun : (execOp a.eval o).run P w = .ok (.enter g args) w)
    (hc : Calls P g args w fun e w' => ∃ v, e = .returned v ∧ K (a.put o.dst v) w') : wpOp P ops Q i K a w := by
  unfold wpOp
  rw [ho]
  simp only
  rw [if_pos (by unfold Region.wanted; rw [hg])]
  left
  unfold Oper.wp
  rw [hrun]
  show Calls P g args w _
  refine hc.mono ?_
  rintro e w' ⟨v, rfl, hk⟩
  exact hk
theorem eval_put {a : Act} {d t : Nat} {v : Value} (hd : d < a.tmps.size) : (a.put (some d) v).eval (.tmp t) = if t = d then v else a.eval (.tmp t) := by
  show (a.put (some d) v).tmps.getD t Go.undef = _
  rw [put_tmps]
  simp only [putT]
  rw [Array.getD_eq_getD_getElem?, Array.getElem?_setIfInBounds]
  by_cases e : t = d
  · subst e; simp [hd]
  · rw [if_neg (fun h => e h.symm), if_neg e]
    show _ = a.tmps.getD t Go.undef
    rw [Array.getD_eq_getD_getElem?]
theorem size_put {a : Act} {d : Nat} {v : Value} : (a.put (some d) v).tmps.size = a.tmps.size := by rw [put_tmps, putT_size]

/-- What the two library functions and the closure do. -/
structure DefLaws (P : Program) (fc fd fg eT : Nat) : Prop where
  cE : ∀ args w, (callFunc fc args).run P w = .ok (.enter fc args) w
  dE : ∀ args w, (callFunc fd args).run P w = .ok (.enter fd args) w
  clone : ∀ (b off n c : Nat) (zs : List Int) (w : World), n ≤ zs.length → n * 8 ≤ 140737488355328 → (∀ j, j < zs.length → w.cell? ⟨b, off + j, none⟩ = some (.int .i64 (zs.getD j 0))) →
     Calls P fc #[.slice (some ⟨b, off, none⟩) n c] w fun e w' => ∃ v', e = .returned v' ∧ w'.ownsRow w.heap.size eT 1 v' n ((zs.take n).map (Value.int .i64)) ∧ v' ≠ .slice none 0 0 ∧ Below w.heap.size w w'
  del : ∀ (p : Int → Bool) (lb : Array Value) (blk off cap : Nat) (d : Array Int) (w : World), PredAt P fg lb (Value.int .i64) p w → PredOver P fg lb (Value.int .i64) p blk off d.size w → Holds (Value.int .i64) w blk off d → d.size ≤ 9223372036854775807 → d.size ≤ cap →
     Calls P fd #[.slice (some ⟨blk, off, none⟩) d.size cap, .func (.func fg) #[] lb] w fun e w' => e = .returned (.slice (some ⟨blk, off, none⟩) (d.toList.filter fun x => !p x).length cap) ∧ ∃ q, w' = putRow (Value.int .i64) (Sort.ahead w q) blk off ((d.toList.filter fun x => !p x) ++ List.replicate (d.size - (d.toList.filter fun x => !p x).length) 0).toArray
  gives : ∀ (im x : Int) (ad : Addr) (W : World), W.cell? ad = some (.int .i64 im) → FnGives P fg #[.pointer (some ad)] #[.int .i64 x] (.bool (decide (x = im))) W

theorem def_region {fc fd fg eT : Nat} (L : DefLaws P fc fd fg eT) {o0 o1 o2 o3 o4 : Oper} {ts1 ts3 : Array TypeId} (hops : ops = #[o0, o1, o2, o3, o4])
    (h0 : o0.op = .move (.tmp 1)) (d0 : o0.dst = some 12) (g0 : o0.guard = none) (h1 : o1.op = .call ⟨.value (.func fc), #[.tmp 12], ts1⟩) (d1 : o1.dst = some 13) (g1 : o1.guard = none)
    (h2 : o2.op = .makeFunc (.func fg) #[] #[.tmp 6]) (d2 : o2.dst = some 14) (g2 : o2.guard = none) (h3 : o3.op = .call ⟨.value (.func fd), #[.tmp 13, .tmp 14], ts3⟩) (d3 : o3.dst = some 15) (g3 : o3.guard = none)
    (h4 : o4.op = .assign (.tmp 15)) (d4 : o4.dst = some 11) (g4 : o4.guard = none)
    {base rid : Nat} {E : Env} {s : ASt} {a : Act} {w : World} (hI : Inv base E s a.tmps w) (hN : a.tmps.size = 27) (hd : a.defers = [])
    (order : List Int) (hne : order ≠ []) (hlen : order.length ≤ 1000) (im : Int) (ht1 : s.t 1 = .dat (intsD order)) (ht6 : s.t 6 = .cptr [.dat (.int .i64 im)]) :
    (Code.region rid ops false).wp P (PostA base 27 E w (leaves fun s' => s'.t 0 = s.t 0 ∧ s'.t 7 = s.t 7 ∧ s'.t 11 = .dat (intsD (order.filter fun k => !decide (k = im))))) a w := by
  have hv1 := hI.tm 1
  have hv6 := hI.tm 6
  rw [ht1] at hv1
  rw [ht6] at hv6
  generalize hw1 : a.tmps.getD 1 Go.undef = v1 at hv1
  generalize hw6 : a.tmps.getD 6 Go.undef = v6 at hv6
  have hlen0 : 0 < order.length := List.length_pos_iff.2 hne
  cases hv6 with
  | cptr cs ad6 vals6 hΨ6 hf6 h16 hr6 =>
  have hcell6 : w.cell? ad6 = some (.int .i64 im) := by
    have h1 := hI.psi _ _ (hΨ6 0 (by simp))
    have h2 := hr6 0 _ rfl
    have h3 : vals6 0 = .int .i64 im := by
      generalize vals6 0 = u at h2
      cases h2 with | dat _ _ h => cases h; rfl
    rw [h3] at h1
    have h4 : ad6.add 0 = ad6 := by simp [Addr.add]
    rw [h4] at h1
    exact h1
  have hb6 : ad6.block < w.heap.size := World.block_lt_of_cell? w ad6 hcell6
  cases hv1 with
  | dat _ _ hv1 =>
  unfold intsD at hv1
  cases hv1 with
  | sl _ A ad c sz vals hc hm hA hsz hf hΦ hr =>
  simp only [List.length_map] at *
  obtain rfl := hA hlen0
  have hsz1 : sz = 1 := by
    have := hsz (.int .i64 (order[0]'hlen0)) (by simp)
    simpa [Dat.cells] using this.symm
  subst hsz1
  have hcellsA : ∀ j, (hj : j < order.length) → w.cell? (ad.add j) = some (.int .i64 (order[j])) := by
    intro j hj
    have h1 := hI.phi _ _ (hΦ j 0 hj (by omega))
    have h2 := hr j 0 (.int .i64 order[j]) (.int .i64 order[j]) (by simp [hj]) rfl
    have h3 : vals j 0 = .int .i64 order[j] := by
      generalize vals j 0 = u at h2
      cases h2; rfl
    rw [h3] at h1
    simpa using h1
  obtain ⟨ab, ao, asp⟩ := ad
  have hspot : asp = none := by simpa [Addr.add] using World.cell?_spot (hcellsA 0 hlen0)
  subst hspot
  have hcells : ∀ j, j < order.length → w.cell? ⟨ab, ao + j, none⟩ = some (.int .i64 (order.getD j 0)) := by
    intro j hj
    have := hcellsA j hj
    rw [List.getD_eq_getElem?_getD, List.getElem?_eq_getElem hj]
    simp only [addr_mk_add] at this
    exact this
  have e1 : a.eval (.tmp 1) = .slice (some ⟨ab, ao, none⟩) order.length c := hw1
  have e6 : a.eval (.tmp 6) = .pointer (some ad6) := hw6
  refine wp_region ?_
  subst hops
  show wpOps P _ _ [0, 1, 2, 3, 4] a w
  rw [wpOps_cons]
  refine wpOp_val (o := o0) (v := .slice (some ⟨ab, ao, none⟩) order.length c) (w1 := w) rfl g0 (by simp [execOp, h0, e1]) ?_
  rw [d0, wpOps_cons]
  have s0 : (12 : Nat) < a.tmps.size := by omega
  generalize ha1 : a.put (some 12) (.slice (some ⟨ab, ao, none⟩) order.length c) = a1
  have z1 : a1.tmps.size = 27 := by rw [← ha1, size_put]; exact hN
  have q12 : a1.eval (.tmp 12) = .slice (some ⟨ab, ao, none⟩) order.length c := by rw [← ha1, eval_put s0, if_pos rfl]
  have q6 : a1.eval (.tmp 6) = .pointer (some ad6) := by rw [← ha1, eval_put s0, if_neg (by decide)]; exact e6
  refine wpOp_call (o := o1) (g := fc) (args := #[.slice (some ⟨ab, ao, none⟩) order.length c]) rfl g1 ?_ ?_
  · have hfv : a1.eval (.func fc) = .func (.func fc) #[] #[] := rfl
    simp only [execOp, h1, resolve, hfv, Deferred.ofValue, Sem.run_bind, Sem.run_pure, Result.andThen_ok, invoke]
    simp only [List.map_toArray, List.map_cons, List.map_nil, Array.append_empty, Array.empty_append, q12]
    exact L.cE _ _
  refine (L.clone ab ao order.length c order w (Nat.le_refl _) (by omega) hcells).mono ?_
  rintro e w1 ⟨v', rfl, hown, hnn, hB1⟩
  refine ⟨v', rfl, ?_⟩
  obtain ⟨hol, hov⟩ := hown
  rcases hov with ⟨hv0, _⟩ | ⟨g, cap, cur, hvg, hbase, hblk, hnc, hcm, hcs, hcur⟩
  · exact absurd hv0 hnn
  subst hvg
  rw [List.take_length] at hcur
  have hgw : w.heap.size ≤ g := hbase
  have hg1 : g < w1.heap.size := by
    have := (Array.getElem?_eq_some_iff.1 hblk).1
    exact this
  rw [d1, wpOps_cons]
  have s1 : (13 : Nat) < a1.tmps.size := by omega
  generalize ha2 : a1.put (some 13) (.slice (some ⟨g, 0, none⟩) order.length cap) = a2
  have z2 : a2.tmps.size = 27 := by rw [← ha2, size_put]; exact z1
  have q13 : a2.eval (.tmp 13) = .slice (some ⟨g, 0, none⟩) order.length cap := by rw [← ha2, eval_put s1, if_pos rfl]
  have q62 : a2.eval (.tmp 6) = .pointer (some ad6) := by rw [← ha2, eval_put s1, if_neg (by decide)]; exact q6
  refine wpOp_val (o := o2) (v := .func (.func fg) #[] #[.pointer (some ad6)]) (w1 := w1) rfl g2 (by simp [execOp, h2, q62, Instr.makeFunc]) ?_
  rw [d2, wpOps_cons]
  have s2 : (14 : Nat) < a2.tmps.size := by omega
  generalize ha3 : a2.put (some 14) (.func (.func fg) #[] #[.pointer (some ad6)]) = a3
  have z3 : a3.tmps.size = 27 := by rw [← ha3, size_put]; exact z2
  have q133 : a3.eval (.tmp 13) = .slice (some ⟨g, 0, none⟩) order.length cap := by rw [← ha3, eval_put s2, if_neg (by decide)]; exact q13
  have q14 : a3.eval (.tmp 14) = .func (.func fg) #[] #[.pointer (some ad6)] := by rw [← ha3, eval_put s2, if_pos rfl]
  have hcell1 : w1.cell? ad6 = some (.int .i64 im) := (hB1.cell hb6).trans hcell6
  have hb61 : ad6.block < w1.heap.size := Nat.lt_of_lt_of_le hb6 hB1.size
  have hne6 : ad6.block ≠ g := by omega
  have hholds : Holds (Value.int .i64) w1 g 0 order.toArray := by
    intro j hj
    have hj' : j < order.length := by simpa using hj
    refine ⟨?_, by simp [World.frozen?, hblk]⟩
    have h1 : cur[j]? = some (.int .i64 order[j]) := by
      have h2 : (cur.toList.take (order.length * 1))[j]? = some (.int .i64 order[j]) := by rw [hcur]; simp [hj']
      rw [List.getElem?_take_of_lt (by omega)] at h2
      simpa using h2
    rw [Nat.zero_add, cell_of_row w1 g j cur eT (0, 0) hblk, h1]
    simp [hj']
  refine wpOp_call (o := o3) (g := fd) (args := #[.slice (some ⟨g, 0, none⟩) order.length cap, .func (.func fg) #[] #[.pointer (some ad6)]]) rfl g3 ?_ ?_
  · have hfv : a3.eval (.func fd) = .func (.func fd) #[] #[] := rfl
    simp only [execOp, h3, resolve, hfv, Deferred.ofValue, Sem.run_bind, Sem.run_pure, Result.andThen_ok, invoke]
    simp only [List.map_toArray, List.map_cons, List.map_nil, Array.append_empty, Array.empty_append, q133, q14]
    exact L.dE _ _
  have hpat : PredAt P fg #[.pointer (some ad6)] (Value.int .i64) (fun x => decide (x = im)) w1 := fun W x hb => L.gives im x ad6 W ((hb.cell hb61).trans hcell1)
  have hpov : PredOver P fg #[.pointer (some ad6)] (Value.int .i64) (fun x => decide (x = im)) g 0 order.toArray.size w1 := fun n os dk x _ => L.gives im x ad6 _ (by
    unfold sortWorld
    rw [cell?_grow _ _ _ (by show _ < (putRow _ _ _ _ _).heap.size; rw [size_putRow]; exact hb61), cell?_putRow_other _ _ g 0 _ _ (Or.inl hne6)]
    exact hcell1)
  have hdel := L.del (fun x => decide (x = im)) #[.pointer (some ad6)] g 0 cap order.toArray w1 hpat hpov hholds (by simp; omega) (by simpa using hnc)
  simp only [List.size_toArray] at hdel
  refine hdel.mono ?_
  rintro e w2 ⟨rfl, q, hw2⟩
  refine ⟨_, rfl, ?_⟩
  have hlenf : (order.filter fun x => !decide (x = im)).length ≤ order.length := List.length_filter_le _ _
  generalize hys : (order.filter fun x => !decide (x = im)) = ys at *
  -- the world at the end
  have hw2cell : ∀ j, j < ys.length → w2.cell? ⟨g, j, none⟩ = some (.int .i64 (ys.getD j 0)) := by
    intro j hj
    have hh : Holds (Value.int .i64) (Sort.ahead w1 q) g 0 order.toArray := holds_ahead _ _ _ _ _ _ hholds
    have := cell?_putRow (Value.int .i64) (Sort.ahead w1 q) g 0 order.toArray (ys ++ List.replicate (order.length - ys.length) 0).toArray hh (by simp; omega) j (by simp; omega)
    rw [hw2, show j = 0 + j by omega, this]
    congr 2
    rw [getElem!_pos _ j (by simp; omega)]
    simp [hj]
  have hw2heap : ∀ k, k ≠ g → w2.heap[k]? = w1.heap[k]? := by
    intro k hk
    rw [hw2]
    simp [putRow, mapBlock, Sort.ahead, Array.getElem?_modify, Ne.symm hk]
  have hw2size : w2.heap.size = w1.heap.size := by rw [hw2, size_putRow]; rfl
  have hold : ∀ k, k < w.heap.size → w2.heap[k]? = w.heap[k]? := fun k hk => (hw2heap k (by omega)).trans (hB1.block k hk)
  have hcellold : ∀ x v, w.cell? x = some v → w2.cell? x = some v := by
    intro x v hx
    have hlt := World.block_lt_of_cell? w x hx
    rw [World.cell?_of_block (hold x.block hlt)]
    exact hx
  let New : Mem := fun x => if x.block = g ∧ x.spot = none ∧ x.off < ys.length then w2.cell? x else none
  have hNew : ∀ x v, New x = some v → w2.cell? x = some v := by
    intro x v hx
    have hx' : (if x.block = g ∧ x.spot = none ∧ x.off < ys.length then w2.cell? x else none) = some v := hx
    split at hx'
    · exact hx'
    · cases hx'
  have hNewb : ∀ x v, New x = some v → x.block = g := by
    intro x v hx
    have hx' : (if x.block = g ∧ x.spot = none ∧ x.off < ys.length then w2.cell? x else none) = some v := hx
    split at hx'
    · rename_i h; exact h.1
    · cases hx'
  let Φ' : Mem := fun x => match E.Φ x with | some v => some v | none => New x
  let Ψ' : Mem := fun x => match E.Ψ x with | some v => some v | none => New x
  have hPhi : ∀ x v, Φ' x = some v → E.Φ x = some v ∨ New x = some v := by
    intro x v hx
    have hx' : (match E.Φ x with | some v => some v | none => New x) = some v := hx
    split at hx'
    · rename_i u hu; left; rw [hu]; exact hx'
    · exact .inr hx'
  have hPsi : ∀ x v, Ψ' x = some v → E.Ψ x = some v ∨ New x = some v := by
    intro x v hx
    have hx' : (match E.Ψ x with | some v => some v | none => New x) = some v := hx
    split at hx'
    · rename_i u hu; left; rw [hu]; exact hx'
    · exact .inr hx'
  have hPhi0 : ∀ x v, E.Φ x = some v → Φ' x = some v := by
    intro x v hx
    show (match E.Φ x with | some v => some v | none => New x) = some v
    rw [hx]
  have hPsi0 : ∀ x v, E.Ψ x = some v → Ψ' x = some v := by
    intro x v hx
    show (match E.Ψ x with | some v => some v | none => New x) = some v
    rw [hx]
  have hPsig : ∀ x : Addr, x.block = g → E.Ψ x = none := by
    intro x hx
    cases h : E.Ψ x with
    | none => rfl
    | some v => have := hI.psi_lt h; omega
  have hPhig : ∀ x : Addr, x.block = g → E.Φ x = none := by
    intro x hx
    cases h : E.Φ x with
    | none => rfl
    | some v => have := hPsig x hx; rw [hI.sub x v h] at this; cases this
  let E'' : Env := { E with Φ := Φ', Ψ := Ψ' }
  have hle : E.le E'' := ⟨hPhi0, hPsi0, fun _ _ h => h, fun _ _ h => h⟩
  have hI2 : Inv base E'' s a.tmps w2 := hI.env hle rfl rfl (fun x v h => (hPhi x v h).elim (fun h => hcellold x v (hI.phi x v h)) (hNew x v)) (fun x v h => (hPsi x v h).elim (fun h => hcellold x v (hI.psi x v h)) (hNew x v))
    (fun x v h => by
      rcases hPhi x v h with h | h
      · exact hPsi0 x v (hI.sub x v h)
      · show (match E.Ψ x with | some v => some v | none => New x) = some v
        rw [hPsig x (hNewb x v h)]; exact h) (fun x v h => (hPsi x v h).imp id (fun h => by rw [hNewb x v h]; exact hgw)) hold (by rw [hw2size]; exact hB1.size)
  have hfin : RelP E'' (.dat (intsD ys)) (.slice (some ⟨g, 0, none⟩) ys.length cap) := by
    have := RelD.sl (Φ := Φ') (ys.map (Dat.int .i64)) (some ⟨g, 0, none⟩) ⟨g, 0, none⟩ cap 1 (fun j _ => .int .i64 (ys.getD j 0)) (by simp; omega) (by simp; unfold maxLen; omega) (fun _ => rfl) (by simp [Dat.cells]) (by simp [Dat.cells, Dat.flat]) (fun j i hj hi => by
        have hj' : j < ys.length := by simpa using hj
        have hi' : i = 0 := by omega
        subst hi'
        have hfalse := hPhig ⟨g, 0 + (j * 1 + 0), none⟩ rfl
        rw [addr_mk_add]
        show (match E.Φ _ with | some v => some v | none => New _) = _
        rw [hfalse]
        show (if _ ∧ _ ∧ _ then _ else _) = _
        rw [if_pos ⟨rfl, rfl, by simp; omega⟩]
        have := hw2cell j hj'
        simpa using this) (fun j i d c' hj hc' => by
        have hj' : j < ys.length := by have := (List.getElem?_eq_some_iff.1 hj).1; simpa using this
        simp only [List.getElem?_map, List.getElem?_eq_getElem hj', Option.map_some, Option.some.injEq] at hj
        subst hj
        cases i with
        | zero =>
          simp [Dat.cells] at hc'
          subst hc'
          rw [List.getD_eq_getElem?_getD, List.getElem?_eq_getElem hj']
          exact .int _ _
        | succ i => simp [Dat.cells] at hc')
    rw [List.length_map] at this
    exact .dat _ _ this
  rw [d3, wpOps_cons]
  have s3 : (15 : Nat) < a3.tmps.size := by omega
  generalize ha4 : a3.put (some 15) (.slice (some ⟨g, 0, none⟩) ys.length cap) = a4
  have q15 : a4.eval (.tmp 15) = .slice (some ⟨g, 0, none⟩) ys.length cap := by rw [← ha4, eval_put s3, if_pos rfl]
  refine wpOp_val (o := o4) (v := .slice (some ⟨g, 0, none⟩) ys.length cap) (w1 := w2) rfl g4 (by simp [execOp, h4, q15]) ?_
  rw [d4]
  have i12 := hI2.put (some 12) (p := .top) (v := .slice (some ⟨ab, ao, none⟩) order.length c) (.top _) (by simp [dstOk, hN])
  have i13 := i12.put (some 13) (p := .top) (v := .slice (some ⟨g, 0, none⟩) order.length cap) (.top _) (by rw [putT_size]; simp [dstOk, hN])
  have i14 := i13.put (some 14) (p := .top) (v := .func (.func fg) #[] #[.pointer (some ad6)]) (.top _) (by rw [putT_size, putT_size]; simp [dstOk, hN])
  have i15 := i14.put (some 15) (p := .top) (v := .slice (some ⟨g, 0, none⟩) ys.length cap) (.top _) (by rw [putT_size, putT_size, putT_size]; simp [dstOk, hN])
  have i11 := i15.put (some 11) hfin (by rw [putT_size, putT_size, putT_size, putT_size]; simp [dstOk, hN])
  have htm : (a4.put (some 11) (.slice (some ⟨g, 0, none⟩) ys.length cap)).tmps = putT (putT (putT (putT (putT a.tmps (some 12) (.slice (some ⟨ab, ao, none⟩) order.length c)) (some 13) (.slice (some ⟨g, 0, none⟩) order.length cap)) (some 14) (.func (.func fg) #[] #[.pointer (some ad6)])) (some 15) (.slice (some ⟨g, 0, none⟩) ys.length cap)) (some 11) (.slice (some ⟨g, 0, none⟩) ys.length cap) := by
    rw [put_tmps, ← ha4, put_tmps, ← ha3, put_tmps, ← ha2, put_tmps, ← ha1, put_tmps]
  refine ⟨.normal, _, E'', rfl, ?_, by rw [htm]; exact i11, by rw [htm, putT_size, putT_size, putT_size, putT_size, putT_size]; exact hN, ?_, ?_, ?_⟩
  · exact ⟨by simp [ASt.put, upd], by simp [ASt.put, upd], by simp [ASt.put, upd]⟩
  · rw [put_defers, ← ha4, put_defers, ← ha3, put_defers, ← ha2, put_defers, ← ha1, put_defers]; exact hd
  · refine ⟨?_, ?_, ?_, by rw [hw2size]; exact hB1.size, fun k hk => hold k (Nat.lt_of_lt_of_le hk hI.hb)⟩
    · rw [hw2]; exact hB1.os
    · rw [hw2]; exact hB1.tape
    · rw [hw2]; exact hB1.output
  · exact ⟨hPhi0, hPsi0, fun x v h => (hPsi x v h).imp id (fun h => by rw [hNewb x v h]; exact Nat.le_trans hI.hb hgw), fun x v h => (hPhi x v h).imp id (fun h => by rw [hNewb x v h]; exact Nat.le_trans hI.hb hgw)⟩
end
end Go.Abs

/- The words that the loader writes: what the functions of bind compute, in plain Lean. -/
set_option linter.unusedVariables false
set_option linter.unusedSimpArgs false
namespace Go.Abs
open Go
structure Tgt where
  found : Bool
  thread : Bool
  code : Bool
  value : Int
def Tgt.enc (t : Tgt) : Dat := .agg [.bool t.found, .bool t.thread, .bool t.code, .int .i64 t.value]
def Tgt.none : Tgt := ⟨false, false, false, 0⟩
def wrapU (n : Int) : Int := IntKind.u32.wrap n
def orderOf (l : List Loaded) : List Int := walkF (needRows (imagesOf l))
def binderD (l : List Loaded) : Dat := .agg [.sl (l.map Loaded.enc), .sl ((imagesOf l).map Image.enc), intsD (orderOf l)]
def othersOf (order : List Int) (im : Int) : List Int := order.filter fun k => !decide (k = im)
def inRange (a : Int) (s : Segment) : Bool := decide (s.address ≤ a) && decide (a < W (s.address + s.size))
def execFrom (a : Int) : List Segment → Bool
  | [] => false
  | s :: ss => if inRange a s = true then !decide (andI s.rights 4 = 0) else execFrom a ss
def executableB (x : Image) (a : Int) : Bool := execFrom a x.segments
def foundAt (l : List Loaded) (im : Int) (m : Import) : Int × Int × Bool := lookupF (imagesOf l) m.name m.version (othersOf (orderOf l) im)
def targetAt (l : List Loaded) (bias : Int) (m : Import) (i e : Int) : Tgt := match l[i.toNat]? with
  | .none => Tgt.none
  | some y => match y.image.exports[e.toNat]? with
    | .none => Tgt.none
    | some x => if x.thread = true then ⟨true, true, false, W (y.thread + x.address)⟩ else if 0 ≤ m.copy then ⟨true, false, false, W (m.copy + bias)⟩ else ⟨true, false, executableB y.image x.address, W (x.address + y.bias)⟩
/-- y: the image im itself. -/
def targetOf (l : List Loaded) (im : Int) (y : Loaded) (m : Import) : Tgt := if (foundAt l im m).2.2 = true then targetAt l y.bias m (foundAt l im m).1 (foundAt l im m).2.1 else Tgt.none
def codeOf (im k : Int) : Int := W (983040 + W (4 * W (W (80 * im) + k)))
def shlU (x n : Int) : Int := IntKind.u32.wrap (x * 2 ^ min n.toNat 32)
def byteStep (a : Int) (i : Nat) (w : Int) (s : Segment) : Int := if 0 ≤ W (W (a + i) - s.address) ∧ W (W (a + i) - s.address) < s.data.length then orK .u32 w (shlU (wrapU (s.data.getD (W (W (a + i) - s.address)).toNat 0)) (W (8 * (i : Int)))) else w
def wordRow (x : Image) (a : Int) (w : Int) (i : Nat) : Int := x.segments.foldl (byteStep a i) w
def wordOf (x : Image) (a : Int) : Int := (List.range 4).foldl (wordRow x a) 0
def importAt (y : Loaded) (k : Int) : Import := match y.image.imports[k.toNat]? with
  | some m => m
  | .none => ⟨⟨#[]⟩, ⟨#[]⟩, false, 0, 0, 0⟩
def boundOf (y : Loaded) (f : Fixup) (word : Int) : Bound × Int := (⟨W (f.address + y.bias), word⟩, 0)
def fixOf (l : List Loaded) (im : Int) (y : Loaded) (f : Fixup) : Bound × Int :=
  if f.kind = 1 then boundOf y f (wrapU (wordOf y.image f.address + wrapU y.bias))
  else if f.kind = 4 then boundOf y f (wrapU (wordOf y.image f.address + wrapU y.thread))
  else if (targetOf l im y (importAt y f.imp)).found = false ∧ (importAt y f.imp).weak = false then (⟨0, 0⟩, 15)
  else if (targetOf l im y (importAt y f.imp)).found = true ∧ ¬ (targetOf l im y (importAt y f.imp)).thread = decide (f.kind = 3) then (⟨0, 0⟩, 8)
  else boundOf y f (wrapU (W ((targetOf l im y (importAt y f.imp)).value + f.addend)))
def slotOf (l : List Loaded) (im : Int) (y : Loaded) (k : Int) (m : Import) (lz : Bool) : Bound × Int :=
  if (targetOf l im y m).found = false ∧ m.weak = false then (⟨0, 0⟩, 15)
  else if (targetOf l im y m).thread = true then (⟨0, 0⟩, 8)
  else (⟨W (m.slot + y.bias), wrapU (if lz = true ∧ (targetOf l im y m).code = true then codeOf im k else (targetOf l im y m).value)⟩, 0)
def runSlot (l : List Loaded) (im : Int) (y : Loaded) (lz : Bool) : Nat → List Import → List Bound → List Bound × Fault
  | _, [], acc => (acc, Fault.ok)
  | k, m :: ms, acc => if m.slot < 0 then runSlot l im y lz (k + 1) ms acc else if (slotOf l im y k m lz).2 = 0 then runSlot l im y lz (k + 1) ms (acc ++ [(slotOf l im y k m lz).1]) else ([], ⟨(slotOf l im y k m lz).2, W (-20 - (k : Int))⟩)
def runFix (l : List Loaded) (im : Int) (y : Loaded) (lz : Bool) : Nat → List Fixup → List Bound → List Bound × Fault
  | _, [], acc => runSlot l im y lz 0 y.image.imports acc
  | k, f :: fs, acc => if (fixOf l im y f).2 = 0 then runFix l im y lz (k + 1) fs (acc ++ [(fixOf l im y f).1]) else ([], ⟨(fixOf l im y f).2, k⟩)
def allOf (l : List Loaded) (im : Int) (y : Loaded) (lz : Bool) : List Bound × Fault := runFix l im y lz 0 y.image.fixups []
def wordsF (l : List Loaded) (im : Int) (lz : Bool) : List Bound × Fault :=
  if ¬ loadedF l = Fault.ok then ([], loadedF l) else if im < 0 ∨ (l.length : Int) ≤ im then ([], ⟨3, -9⟩) else match l[im.toNat]? with
    | some y => allOf l im y lz
    | .none => ([], Fault.ok)
def oneF (l : List Loaded) (im k : Int) : Bound × Fault :=
  if ¬ loadedF l = Fault.ok then (⟨0, 0⟩, loadedF l) else if im < 0 ∨ (l.length : Int) ≤ im then (⟨0, 0⟩, ⟨3, -9⟩) else match l[im.toNat]? with
    | .none => (⟨0, 0⟩, ⟨3, -9⟩)
    | some y => if k < 0 ∨ (y.image.imports.length : Int) ≤ k then (⟨0, 0⟩, ⟨3, -9⟩) else if (importAt y k).slot < 0 then (⟨0, 0⟩, ⟨6, -2⟩) else if (slotOf l im y k (importAt y k) false).2 = 0 then ((slotOf l im y k (importAt y k) false).1, Fault.ok) else (⟨0, 0⟩, ⟨(slotOf l im y k (importAt y k) false).2, W (-20 - k)⟩)
theorem orderOf_facts {l : List Loaded} (h : loadedF l = Fault.ok) : orderOf l ≠ [] ∧ (orderOf l).length = l.length ∧ ∀ i ∈ orderOf l, 0 ≤ i ∧ i < l.length := by
  obtain ⟨hc, hbad, hm⟩ := loaded_all h
  obtain ⟨hc1, hc2, hc3⟩ := check_all hc
  rw [imagesOf_len] at hc1 hc2
  have hrow := needRows_ok hm
  have hlen := walk_len hrow
  have hn := walk_nice hrow _ (Nat.le_refl _)
  rw [needRows_len, imagesOf_len] at hlen
  refine ⟨?_, hlen, ?_⟩
  · intro e
    unfold orderOf at e
    rw [e] at hlen; simp at hlen; omega
  · intro i hi
    have := hn.2 i hi
    rw [needRows_len, imagesOf_len] at this
    exact this
end Go.Abs

/- What is found lies where it is said to lie. -/
set_option linter.unusedVariables false
set_option linter.unusedSimpArgs false
namespace Go.Abs
open Go
theorem exportOf_lt (x : Image) (nm v : Str) : exportOf x nm v < x.exports.length := by
  unfold exportOf
  split
  · exact (idx_lt _ _).2
  · exact (idx_lt _ _).2
theorem lookup_true {l : List Image} {nm v : Str} : ∀ {order : List Int} {i e : Int}, lookupF l nm v order = (i, e, true) → i ∈ order ∧ 0 ≤ e ∧ e = exportAt l i nm v
  | [], i, e, h => by simp [lookupF] at h
  | o :: os, i, e, h => by
    unfold lookupF at h
    split at h
    · rename_i h0
      simp only [Prod.mk.injEq] at h
      obtain ⟨rfl, rfl, _⟩ := h
      exact ⟨by simp, h0, rfl⟩
    · obtain ⟨h1, h2⟩ := lookup_true h
      exact ⟨List.mem_cons_of_mem _ h1, h2⟩
theorem found_at {l : List Loaded} (h : loadedF l = Fault.ok) {im : Int} {m : Import} {i e : Int} (hf : foundAt l im m = (i, e, true)) :
    0 ≤ i ∧ i < l.length ∧ 0 ≤ e ∧ ¬ i = im ∧ ∃ y x, l[i.toNat]? = some y ∧ y.image.exports[e.toNat]? = some x := by
  unfold foundAt at hf
  obtain ⟨h1, h2, h3⟩ := lookup_true hf
  have hmem := List.mem_filter.1 h1
  obtain ⟨g1, g2⟩ := (orderOf_facts h).2.2 i hmem.1
  have hy : i.toNat < l.length := by omega
  have hne : ¬ i = im := by have := hmem.2; simpa using this
  have hat : exportAt (imagesOf l) i m.name m.version = exportOf (l[i.toNat]'hy).image m.name m.version := by
    unfold exportAt imagesOf
    rw [List.getElem?_map, List.getElem?_eq_getElem hy]; rfl
  have hlt := exportOf_lt (l[i.toNat]'hy).image m.name m.version
  rw [← hat, ← h3] at hlt
  exact ⟨g1, g2, h2, hne, _, _, List.getElem?_eq_getElem hy, List.getElem?_eq_getElem (by omega)⟩
end Go.Abs

/- What checked images say of fixups and slots. -/
set_option linter.unusedVariables false
set_option linter.unusedSimpArgs false
namespace Go.Abs
open Go
theorem rangeMap_zero {α : Type} {l : List α} {f : Nat → Int} (h : ∀ c ∈ rangeMap l f, c = 0) : ∀ k, k < l.length → f k = 0 := by
  intro k hk
  exact h _ (by unfold rangeMap; simp only [List.mem_map, List.mem_range]; exact ⟨k, hk, rfl⟩)
theorem image_fixups {x : Image} (h : imageF x = Fault.ok) : x.fixups.length ≤ 600 ∧ ∀ k f, x.fixups[k]? = some f → fixupOne x (prev x.fixups k) f = 0 := by
  have h1 := each_all ((image_all h).2 (each 600 13 (rangeMap x.fixups (fixupCode x))) (by simp [bodyF]))
  refine ⟨by have := h1.1; simp [rangeMap] at this; omega, fun k f hk => ?_⟩
  have := rangeMap_zero h1.2 k (List.getElem?_eq_some_iff.1 hk).1
  unfold fixupCode at this
  rw [hk] at this
  exact this
theorem image_imports {x : Image} (h : imageF x = Fault.ok) : x.imports.length ≤ 80 ∧ ∀ (k : Nat) (m : Import), x.imports[k]? = some m → importOne x m = 0 := by
  have h1 := each_all ((image_all h).2 (each 80 12 (rangeMap x.imports (importCode x))) (by simp [bodyF]))
  refine ⟨by have := h1.1; simp [rangeMap] at this; omega, fun k m hk => ?_⟩
  have := rangeMap_zero h1.2 k (List.getElem?_eq_some_iff.1 hk).1
  unfold importCode at this
  rw [hk] at this
  exact this
theorem fixup_ok {x : Image} {p : Option Fixup} {f : Fixup} (h : fixupOne x p f = 0) : (f.kind = 1 ∨ f.kind = 4 ∨ 0 ≤ f.imp ∧ f.imp < x.imports.length) ∧ within x f.address 4 0 = true := by
  unfold fixupOne at h
  split at h
  · omega
  · rename_i h1
    split at h
    · omega
    · rename_i h2
      split at h
      · omega
      · rename_i h3
        refine ⟨by omega, ?_⟩
        cases hw : within x f.address 4 0
        · exact absurd (.inr (.inr hw)) h3
        · rfl
theorem import_ok {x : Image} {m : Import} (h : importOne x m = 0) (hs : 0 ≤ m.slot) : within x m.slot 4 2 = true := by
  unfold importOne at h
  split at h
  · omega
  · split at h
    · omega
    · split at h
      · omega
      · rename_i h3
        cases hw : within x m.slot 4 2
        · exact absurd ⟨hs, .inr hw⟩ h3
        · rfl
theorem loaded_image {l : List Loaded} (h : loadedF l = Fault.ok) {y : Loaded} (hy : y ∈ l) : imageF y.image = Fault.ok :=
  check_img (loaded_all h).1 (by simp only [imagesOf, List.mem_map]; exact ⟨y, hy, rfl⟩)
end Go.Abs

/- The laws of the words: plain facts. -/
set_option linter.unusedVariables false
set_option linter.unusedSimpArgs false
namespace Go.Abs
open Go
theorem both_words : wordsF bothI 0 false = ([⟨1024, 4608⟩], Fault.ok) := by decide +kernel
theorem both_words_lazy : wordsF bothI 0 true = ([⟨1024, 983040⟩], Fault.ok) := by decide +kernel
theorem both_one : oneF bothI 0 0 = (⟨1024, 4608⟩, Fault.ok) := by decide +kernel
theorem W_in {n : Int} (h1 : -9223372036854775808 ≤ n) (h2 : n ≤ 9223372036854775807) : W n = n := wrap_in h1 h2

/-! ### segments of a checked image -/
def SegIn (s : Segment) : Prop := 0 ≤ s.address ∧ 1 ≤ s.size ∧ s.address + s.size ≤ 1048576
theorem segsFrom_in : ∀ (e : Int) (k : Nat) (l : List Segment), segsFrom e k l = Fault.ok → ∀ s ∈ l, SegIn s
  | _, _, [], _, s, hs => by simp at hs
  | e, k, t :: ts, h, s, hs => by
    unfold segsFrom at h
    split at h
    · rename_i hc
      rcases List.mem_cons.1 hs with rfl | hs
      · unfold segCode at hc
        split at hc
        · omega
        · rename_i h1
          unfold SegIn; omega
      · exact segsFrom_in _ _ ts h s hs
    · rename_i hc
      rw [fault_ok] at h
      exact absurd h.1 hc
theorem image_segs {x : Image} (h : imageF x = Fault.ok) : ∀ s ∈ x.segments, SegIn s := by
  have hh := (image_all h).1
  have : segments x.segments = Fault.ok := by
    unfold headF at hh
    split at hh
    · rw [fault_ok] at hh; have := hh.1; simp at this
    · split at hh
      · rename_i h1; exact absurd hh h1
      · rename_i h1; simpa using h1
  unfold segments at this
  split at this
  · rw [fault_ok] at this; have := this.1; simp at this
  · exact segsFrom_in _ _ _ this
theorem within_mem {x : Image} {a z r : Int} (h : within x a z r = true) : ∃ s ∈ x.segments, inSeg a z r s = true := by
  unfold within at h
  rw [List.any_eq_true] at h
  exact h
/-- A word of four bytes in a segment. -/
def Lies (y : Loaded) (b : Bound) : Prop := ∃ s ∈ y.image.segments, s.address ≤ W (b.address - y.bias) ∧ W (b.address - y.bias) ≤ W (W (s.address + s.size) - 4)
theorem lies_of {y : Loaded} (hi : imageF y.image = Fault.ok) (hb : 0 ≤ y.bias ∧ y.bias < 1048576) {a r : Int} (h : within y.image a 4 r = true) (v : Int) : Lies y ⟨W (a + y.bias), v⟩ := by
  obtain ⟨s, hs, h1⟩ := within_mem h
  have hsi := image_segs hi s hs
  unfold SegIn at hsi
  unfold inSeg at h1
  simp only [Bool.and_eq_true, decide_eq_true_eq] at h1
  obtain ⟨⟨⟨_, h2⟩, h3⟩, h4⟩ := h1
  have e1 : W (s.address + s.size) = s.address + s.size := W_in (by omega) (by omega)
  have e2 : W (s.address + s.size - 4) = s.address + s.size - 4 := W_in (by omega) (by omega)
  rw [e1, e2] at h4
  have e3 : W (a + y.bias) = a + y.bias := W_in (by omega) (by omega)
  refine ⟨s, hs, ?_⟩
  rw [e1, e2]
  show s.address ≤ W (W (a + y.bias) - y.bias) ∧ W (W (a + y.bias) - y.bias) ≤ _
  rw [e3, show a + y.bias - y.bias = a by omega, W_in (by omega) (by omega)]
  exact ⟨h2, h4⟩
theorem fix_address {l : List Loaded} {im : Int} {y : Loaded} {f : Fixup} (h : (fixOf l im y f).2 = 0) : (fixOf l im y f).1.address = W (f.address + y.bias) := by
  unfold fixOf at *
  repeat' split at h
  all_goals first | (simp [*, boundOf]; done) | (simp at h; done)
theorem slot_address {l : List Loaded} {im : Int} {y : Loaded} {k : Int} {m : Import} {lz : Bool} (h : (slotOf l im y k m lz).2 = 0) : (slotOf l im y k m lz).1.address = W (m.slot + y.bias) := by
  unfold slotOf at *
  repeat' split at h
  all_goals first | (simp [*]; done) | (simp at h; done)
theorem runSlot_lies {l : List Loaded} {im : Int} {y : Loaded} {lz : Bool} (hi : imageF y.image = Fault.ok) (hb : 0 ≤ y.bias ∧ y.bias < 1048576) : ∀ (ms : List Import) (k : Nat) (acc : List Bound), (∀ m ∈ ms, importOne y.image m = 0) → (∀ b ∈ acc, Lies y b) → ∀ b ∈ (runSlot l im y lz k ms acc).1, Lies y b
  | [], k, acc, hm, ha => ha
  | m :: ms, k, acc, hm, ha => by
    unfold runSlot
    split
    · exact runSlot_lies hi hb ms (k + 1) acc (fun x hx => hm x (List.mem_cons_of_mem _ hx)) ha
    · rename_i hs
      split
      · rename_i hc
        refine runSlot_lies hi hb ms (k + 1) _ (fun x hx => hm x (List.mem_cons_of_mem _ hx)) ?_
        intro b hb'
        rcases List.mem_append.1 hb' with h | h
        · exact ha b h
        · simp only [List.mem_singleton] at h
          have hadr := slot_address hc
          have := lies_of hi hb (import_ok (hm m (by simp)) (by omega)) (slotOf l im y k m lz).1.value
          rw [← hadr] at this
          rw [h]; exact this
      · simp
theorem runFix_lies {l : List Loaded} {im : Int} {y : Loaded} {lz : Bool} (hi : imageF y.image = Fault.ok) (hb : 0 ≤ y.bias ∧ y.bias < 1048576) : ∀ (fs : List Fixup) (k : Nat) (acc : List Bound), (∀ f ∈ fs, within y.image f.address 4 0 = true) → (∀ b ∈ acc, Lies y b) → ∀ b ∈ (runFix l im y lz k fs acc).1, Lies y b
  | [], k, acc, hm, ha => by
    unfold runFix
    refine runSlot_lies hi hb _ _ _ (fun m hm => ?_) ha
    obtain ⟨j, hj⟩ := List.getElem?_of_mem hm
    exact (image_imports hi).2 j m hj
  | f :: fs, k, acc, hm, ha => by
    unfold runFix
    split
    · rename_i hc
      refine runFix_lies hi hb fs (k + 1) _ (fun x hx => hm x (List.mem_cons_of_mem _ hx)) ?_
      intro b hb'
      rcases List.mem_append.1 hb' with h | h
      · exact ha b h
      · simp only [List.mem_singleton] at h
        have hadr := fix_address hc
        have := lies_of hi hb (hm f (by simp)) (fixOf l im y f).1.value
        rw [← hadr] at this
        rw [h]; exact this
    · simp
theorem loaded_bias {l : List Loaded} (h : loadedF l = Fault.ok) {y : Loaded} (hy : y ∈ l) : 0 ≤ y.bias ∧ y.bias < 1048576 := by
  have := (loaded_all h).2.1 y hy
  unfold badLoaded at this
  omega
theorem allOf_lies {l : List Loaded} (h : loadedF l = Fault.ok) {im : Int} {y : Loaded} (hy : y ∈ l) (lz : Bool) : ∀ b ∈ (allOf l im y lz).1, Lies y b := by
  have hi := loaded_image h hy
  refine runFix_lies hi (loaded_bias h hy) _ _ _ (fun f hf => ?_) (by simp)
  obtain ⟨j, hj⟩ := List.getElem?_of_mem hf
  exact (fixup_ok ((image_fixups hi).2 j f hj)).2

/-! ### lazy and eager -/
/-- The eager word a and the lazy word b of one place. -/
def Pair (l : List Loaded) (im : Int) (y : Loaded) (a b : Bound) : Prop := a.address = b.address ∧ (a.value = b.value ∨ ∃ (k : Nat) (m : Import), y.image.imports[k]? = some m ∧ ¬ m.slot < 0 ∧ slotOf l im y k m false = (a, 0) ∧ b.value = wrapU (codeOf im k))
def Pairs (l : List Loaded) (im : Int) (y : Loaded) (us bs : List Bound) : Prop := us.length = bs.length ∧ ∀ (i : Nat) (a b : Bound), us[i]? = some a → bs[i]? = some b → Pair l im y a b
theorem Pairs.snoc {l : List Loaded} {im : Int} {y : Loaded} {us bs : List Bound} (h : Pairs l im y us bs) {a b : Bound} (hp : Pair l im y a b) : Pairs l im y (us ++ [a]) (bs ++ [b]) := by
  refine ⟨by simp [h.1], fun i x z hx hz => ?_⟩
  by_cases hi : i < us.length
  · rw [List.getElem?_append_left hi] at hx
    rw [List.getElem?_append_left (by rw [← h.1]; exact hi)] at hz
    exact h.2 i x z hx hz
  · rw [List.getElem?_append_right (by omega)] at hx
    rw [List.getElem?_append_right (by rw [← h.1]; omega), ← h.1] at hz
    have hi0 : i - us.length = 0 := by
      have := (List.getElem?_eq_some_iff.1 hx).1; simp at this; omega
    rw [hi0] at hx hz
    simp at hx hz
    subst hx; subst hz; exact hp
theorem runSlot_pairs {l : List Loaded} {im : Int} {y : Loaded} : ∀ (ms : List Import) (k : Nat) (us bs : List Bound), (∀ (j : Nat) (m : Import), ms[j]? = some m → y.image.imports[k + j]? = some m) → Pairs l im y us bs →
    (runSlot l im y false k ms us).2 = (runSlot l im y true k ms bs).2 ∧ Pairs l im y (runSlot l im y false k ms us).1 (runSlot l im y true k ms bs).1
  | [], k, us, bs, hm, hp => ⟨rfl, hp⟩
  | m :: ms, k, us, bs, hm, hp => by
    have hm' : ∀ (j : Nat) (x : Import), ms[j]? = some x → y.image.imports[k + 1 + j]? = some x := fun j x hx => by
      have := hm (j + 1) x (by simpa using hx)
      rw [show k + 1 + j = k + (j + 1) by omega]; exact this
    have hcode : (slotOf l im y k m true).2 = (slotOf l im y k m false).2 := by
      unfold slotOf; repeat' split
      all_goals rfl
    unfold runSlot
    by_cases hs : m.slot < 0
    · rw [if_pos hs, if_pos hs]
      exact runSlot_pairs ms (k + 1) us bs hm' hp
    · rw [if_neg hs, if_neg hs, hcode]
      by_cases hc : (slotOf l im y k m false).2 = 0
      · rw [if_pos hc, if_pos hc]
        refine runSlot_pairs ms (k + 1) _ _ hm' (hp.snoc ⟨?_, ?_⟩)
        · rw [slot_address hc, slot_address (by rw [hcode]; exact hc)]
        · have h0 := hm 0 m rfl
          by_cases hv : (targetOf l im y m).code = true
          · right
            refine ⟨k, m, by simpa using h0, hs, by rw [← hc], ?_⟩
            have hc2 : (slotOf l im y k m true).2 = 0 := by rw [hcode]; exact hc
            unfold slotOf at hc2 ⊢
            repeat' split at hc2
            all_goals first | (simp [*]; done) | (simp at hc2; done)
          · left
            unfold slotOf
            repeat' split
            all_goals first | rfl | (simp [hv]; done) | simp_all
      · rw [if_neg hc, if_neg hc]
        exact ⟨rfl, rfl, by simp⟩
theorem runFix_pairs {l : List Loaded} {im : Int} {y : Loaded} : ∀ (fs : List Fixup) (k : Nat) (us bs : List Bound), Pairs l im y us bs →
    (runFix l im y false k fs us).2 = (runFix l im y true k fs bs).2 ∧ Pairs l im y (runFix l im y false k fs us).1 (runFix l im y true k fs bs).1
  | [], k, us, bs, hp => by
    unfold runFix
    exact runSlot_pairs _ 0 us bs (fun j m h => by simpa using h) hp
  | f :: fs, k, us, bs, hp => by
    unfold runFix
    by_cases hc : (fixOf l im y f).2 = 0
    · rw [if_pos hc, if_pos hc]
      exact runFix_pairs fs (k + 1) _ _ (hp.snoc ⟨rfl, .inl rfl⟩)
    · rw [if_neg hc, if_neg hc]
      exact ⟨rfl, rfl, by simp⟩
theorem allOf_pairs (l : List Loaded) (im : Int) (y : Loaded) : (allOf l im y false).2 = (allOf l im y true).2 ∧ Pairs l im y (allOf l im y false).1 (allOf l im y true).1 := runFix_pairs _ 0 [] [] ⟨rfl, by simp⟩
theorem codeOf_in {im k : Nat} (h1 : im < 5) (h2 : k < 80) : codeOf im k = 983040 + 4 * (80 * im + k) := by
  unfold codeOf
  rw [W_in (n := 80 * (im : Int)) (by omega) (by omega), W_in (n := 80 * (im : Int) + k) (by omega) (by omega), W_in (n := 4 * (80 * (im : Int) + k)) (by omega) (by omega), W_in (by omega) (by omega)]
theorem wrapU_in {n : Int} (h1 : 0 ≤ n) (h2 : n < 4294967296) : wrapU n = n := by
  unfold wrapU IntKind.wrap; simp [IntKind.bits, IntKind.signed]; omega
theorem runSlot_good {l : List Loaded} {im : Int} {y : Loaded} {lz : Bool} : ∀ (ms : List Import) (k : Nat) (acc : List Bound), Good (runSlot l im y lz k ms acc).2
  | [], k, acc => good_ok
  | m :: ms, k, acc => by
    unfold runSlot
    repeat' split
    · exact runSlot_good ms _ _
    · exact runSlot_good ms _ _
    · rename_i h; exact good_mk h
theorem runFix_good {l : List Loaded} {im : Int} {y : Loaded} {lz : Bool} : ∀ (fs : List Fixup) (k : Nat) (acc : List Bound), Good (runFix l im y lz k fs acc).2
  | [], k, acc => runSlot_good _ _ _
  | f :: fs, k, acc => by
    unfold runFix
    repeat' split
    · exact runFix_good fs _ _
    · rename_i h; exact good_mk h
theorem runSlot_fail {l : List Loaded} {im : Int} {y : Loaded} {lz : Bool} : ∀ (ms : List Import) (k : Nat) (acc : List Bound), (runSlot l im y lz k ms acc).2 = Fault.ok ∨ (runSlot l im y lz k ms acc).1 = []
  | [], k, acc => .inl rfl
  | m :: ms, k, acc => by
    unfold runSlot
    repeat' split
    · exact runSlot_fail ms _ _
    · exact runSlot_fail ms _ _
    · exact .inr rfl
theorem runFix_fail {l : List Loaded} {im : Int} {y : Loaded} {lz : Bool} : ∀ (fs : List Fixup) (k : Nat) (acc : List Bound), (runFix l im y lz k fs acc).2 = Fault.ok ∨ (runFix l im y lz k fs acc).1 = []
  | [], k, acc => runSlot_fail _ _ _
  | f :: fs, k, acc => by
    unfold runFix
    repeat' split
    · exact runFix_fail fs _ _
    · exact .inr rfl
/-- What Words comes to. -/
theorem words_cases (l : List Loaded) (im : Int) : (∃ f : Fault, ¬ f.code = 0 ∧ ∀ lz, wordsF l im lz = ([], f)) ∨ (loadedF l = Fault.ok ∧ ∃ (ik : Nat) (y : Loaded), im = ik ∧ l[ik]? = some y ∧ ∀ lz, wordsF l im lz = allOf l im y lz) := by
  unfold wordsF
  by_cases h : loadedF l = Fault.ok
  · by_cases hin : im < 0 ∨ (l.length : Int) ≤ im
    · refine .inl ⟨⟨3, -9⟩, by simp, fun lz => ?_⟩
      rw [if_neg (by simp [h]), if_pos hin]
    · refine .inr ⟨h, im.toNat, l[im.toNat]'(by omega), by omega, List.getElem?_eq_getElem (by omega), fun lz => ?_⟩
      rw [if_neg (by simp [h]), if_neg hin, List.getElem?_eq_getElem (by omega)]
  · refine .inl ⟨loadedF l, ?_, fun lz => by rw [if_pos h]⟩
    rcases good_loaded l with g | g
    · exact absurd g h
    · exact g
theorem runSlot_len {l : List Loaded} {im : Int} {y : Loaded} {lz : Bool} : ∀ (ms : List Import) (k : Nat) (acc : List Bound), (runSlot l im y lz k ms acc).1.length ≤ acc.length + ms.length
  | [], k, acc => by simp [runSlot]
  | m :: ms, k, acc => by
    unfold runSlot
    repeat' split
    · have := runSlot_len (l := l) (im := im) (y := y) (lz := lz) ms (k + 1) acc; simp; omega
    · have := runSlot_len (l := l) (im := im) (y := y) (lz := lz) ms (k + 1) (acc ++ [(slotOf l im y k m lz).1]); simp at this ⊢; omega
    · simp
theorem runFix_len {l : List Loaded} {im : Int} {y : Loaded} {lz : Bool} : ∀ (fs : List Fixup) (k : Nat) (acc : List Bound), (runFix l im y lz k fs acc).1.length ≤ acc.length + fs.length + y.image.imports.length
  | [], k, acc => by
    have := runSlot_len (l := l) (im := im) (y := y) (lz := lz) y.image.imports 0 acc
    unfold runFix; simp; omega
  | f :: fs, k, acc => by
    unfold runFix
    repeat' split
    · have := runFix_len (l := l) (im := im) (y := y) (lz := lz) fs (k + 1) (acc ++ [(fixOf l im y f).1]); simp at this ⊢; omega
    · simp
theorem allOf_len {l : List Loaded} (h : loadedF l = Fault.ok) {im : Int} {y : Loaded} (hy : y ∈ l) (lz : Bool) : (allOf l im y lz).1.length ≤ 680 := by
  have hi := loaded_image h hy
  have h1 := (image_fixups hi).1
  have h2 := (image_imports hi).1
  have := runFix_len (l := l) (im := im) (y := y) (lz := lz) y.image.fixups 0 []
  unfold allOf
  simp at this
  omega
end Go.Abs

/- Helps for the references. -/
set_option linter.unusedVariables false
set_option linter.unusedSimpArgs false
namespace Go.Abs
open Go
def inB (n lo hi : Int) : Bool := decide (lo ≤ n) && decide (n ≤ hi)
theorem inB_true {n lo hi : Int} : inB n lo hi = true ↔ lo ≤ n ∧ n ≤ hi := by simp [inB]
theorem inB_false {n lo hi : Int} : inB n lo hi = false ↔ n < lo ∨ hi < n := by simp [inB]; omega
theorem within_in {i : Image} {a z r : Int} (hs : ∀ s ∈ i.segments, SegIn s) (hz : 0 ≤ z) (h : within i a z r = true) : 0 ≤ a ∧ a + z ≤ 1048576 := by
  obtain ⟨s, hm, h1⟩ := within_mem h
  have hsi := hs s hm
  unfold SegIn at hsi
  unfold inSeg at h1
  simp only [Bool.and_eq_true, decide_eq_true_eq] at h1
  obtain ⟨⟨⟨_, h2⟩, h3⟩, h4⟩ := h1
  rw [W_in (n := s.address + s.size) (by omega) (by omega), W_in (by omega) (by omega)] at h4
  omega
theorem bytesLess_self : ∀ l : List UInt8, Op.bytesLess l l = false
  | [] => rfl
  | c :: cs => by simp [Op.bytesLess, bytesLess_self cs]
theorem lessS_self (s : Str) : lessS s s = false := bytesLess_self _
theorem cmpExports_nn (a b : Export) : 0 ≤ cmpExports a b ↔ lessS a.name b.name = false ∧ (¬ a.name = b.name ∨ lessS a.version b.version = false) := by
  unfold cmpExports cmpS
  cases h1 : lessS a.name b.name <;> by_cases h2 : a.name = b.name <;> cases h3 : lessS a.version b.version <;> by_cases h4 : a.version = b.version <;> simp [orI, h1, h2, h3, h4]
theorem cmpVariables_lt (a b : Variable) : cmpVariables a b < 0 ↔ if ¬ a.address = b.address then a.address < b.address else if ¬ a.name = b.name then lessS a.name b.name = true else a.type < b.type := by
  unfold cmpVariables cmpS cmpI
  by_cases e1 : a.address < b.address
  · have : ¬ a.address = b.address := by omega
    simp [orI, e1, this]
  · by_cases e2 : b.address < a.address
    · have : ¬ a.address = b.address := by omega
      simp [orI, e1, e2, this]
    · have e3 : a.address = b.address := by omega
      by_cases h2 : a.name = b.name
      · by_cases e4 : a.type < b.type <;> by_cases e5 : b.type < a.type <;> simp [orI, e3, h2, e4, e5, lessS_self] <;> omega
      · cases h1 : lessS a.name b.name <;> simp [orI, e3, h1, h2]
end Go.Abs

/- The references: the lists of an image. -/
set_option linter.unusedVariables false
set_option linter.unusedSimpArgs false
namespace Go.Abs
open Go
def codeAt {α : Type} (l : List α) (f : α → Int) (k : Nat) : Int := match l[k]? with
  | some a => f a
  | none => 0
theorem map_range {α : Type} (l : List α) (f : α → Int) : l.map f = (List.range l.length).map (codeAt l f) := by
  apply List.ext_getElem
  · simp
  · intro k h1 h2
    simp at h1 h2
    simp [codeAt, h1]
def lenAt (i : Image) : Nat → Nat
  | 0 => i.exports.length
  | 1 => i.imports.length
  | 2 => i.fixups.length
  | 3 => i.inits.length
  | 4 => i.finis.length
  | 5 => i.needs.length
  | 6 => i.files.length
  | 7 => i.lines.length
  | 8 => i.unwind.length
  | 10 => i.variables.length
  | _ => i.places.length
def mostAt : Nat → Int
  | 0 => 200
  | 1 => 80
  | 2 => 600
  | 3 => 60
  | 4 => 60
  | 5 => 5
  | 6 => 64
  | 7 => 2000
  | 8 => 2000
  | 10 => 500
  | _ => 200
def elemAt (i : Image) : Nat → Nat → Int
  | 0 => exportCode i
  | 1 => importCode i
  | 2 => fixupCode i
  | 3 => codeAt i.inits (funcCode i)
  | 4 => codeAt i.finis (funcCode i)
  | 5 => codeAt i.needs nameCode
  | 6 => codeAt i.files nameCode
  | 7 => lineCode i
  | 8 => unwindCode i
  | 10 => variableCode i
  | _ => placeCode i
def listAt (i : Image) (m : Nat) : Fault := if m = 9 then typesIn i.types else each (mostAt m) (11 + m) ((List.range (lenAt i m)).map (elemAt i m))
theorem bodyF_eq (i : Image) : bodyF i = (List.range 12).map (listAt i) := by
  have e : List.range 12 = [0, 1, 2, 3, 4, 5, 6, 7, 8, 9, 10, 11] := by decide
  unfold bodyF
  rw [e, map_range i.inits, map_range i.finis, map_range i.needs, map_range i.files]
  simp [listAt, rangeMap, lenAt, mostAt, elemAt]
theorem most_le (m : Nat) : mostAt m ≤ 2000 := by
  unfold mostAt; split <;> omega
theorem places_ok {x : Image} {p : Option PlaceR} {v : PlaceR} (h : placeOne x p v = 0) : 1 ≤ v.size ∧ within x v.address v.size 0 = true := by
  unfold placeOne at h
  split at h
  · omega
  · split at h
    · omega
    · rename_i h1
      refine ⟨by omega, ?_⟩
      cases hw : within x v.address v.size 0
      · exact absurd (Or.inr hw) h1
      · rfl
theorem fixup_prev {x : Image} (hs : ∀ s ∈ x.segments, SegIn s) {k : Nat} (h : ∀ j, j < k → fixupCode x j = 0) : ∀ b, prev x.fixups k = some b → 0 ≤ b.address ∧ b.address ≤ 1048576 := by
  intro b hb
  obtain ⟨j, rfl, hj⟩ := prev_some hb
  have := h j (by omega)
  unfold fixupCode at this
  rw [hj] at this
  have := within_in hs (by omega) (fixup_ok this).2
  omega
theorem place_prev {x : Image} (hs : ∀ s ∈ x.segments, SegIn s) {k : Nat} (h : ∀ j, j < k → placeCode x j = 0) : ∀ b, prev x.places k = some b → 0 ≤ b.address ∧ 1 ≤ b.size ∧ b.address + b.size ≤ 1048576 := by
  intro b hb
  obtain ⟨j, rfl, hj⟩ := prev_some hb
  have := h j (by omega)
  unfold placeCode at this
  rw [hj] at this
  have h1 := places_ok this
  have := within_in hs (by omega) h1.2
  omega
end Go.Abs

/- The references: exports that fit, the order of initialization: plain facts. -/
set_option linter.unusedVariables false
set_option linter.unusedSimpArgs false
namespace Go.Abs
open Go
/-! ### exports -/
def fitN (nm v : Str) (e : Export) : Int := if fitExact nm v e then 2 else if fitLoose nm v e then 1 else 0
/-- b is the best among the exports from place k on. -/
def BestAt (nm v : Str) (xs : List Export) (k : Nat) (b : Int) : Prop :=
  (b = -1 ∧ ∀ (j : Nat) y, k ≤ j → xs[j]? = some y → fitN nm v y = 0) ∨
  (∃ (j : Nat) (y : Export), b = j ∧ k ≤ j ∧ xs[j]? = some y ∧ fitN nm v y = 2 ∧ ∀ (i : Nat) z, k ≤ i → i < j → xs[i]? = some z → ¬ fitN nm v z = 2) ∨
  (∃ (j : Nat) (y : Export), b = j ∧ k ≤ j ∧ xs[j]? = some y ∧ fitN nm v y = 1 ∧ (∀ (i : Nat) z, k ≤ i → i < j → xs[i]? = some z → fitN nm v z = 0) ∧ ∀ (i : Nat) z, k ≤ i → xs[i]? = some z → ¬ fitN nm v z = 2)
theorem fitN_cases (nm v : Str) (e : Export) : fitN nm v e = 0 ∨ fitN nm v e = 1 ∨ fitN nm v e = 2 := by
  unfold fitN; split
  · simp
  · split <;> simp
theorem fitN_two {nm v : Str} {e : Export} : fitN nm v e = 2 ↔ fitExact nm v e = true := by
  unfold fitN; split
  · simp_all
  · split <;> simp_all
theorem best_end (nm v : Str) (xs : List Export) {k : Nat} (hk : xs.length ≤ k) : BestAt nm v xs k (-1) := by
  refine .inl ⟨rfl, fun j y hj hy => ?_⟩
  have := (List.getElem?_eq_some_iff.1 hy).1
  omega
theorem best_keep {nm v : Str} {xs : List Export} {k : Nat} {b : Int} {x : Export} (h : BestAt nm v xs (k + 1) b) (hx : xs[k]? = some x) (h0 : fitN nm v x = 0) : BestAt nm v xs k b := by
  have at_ : ∀ (i : Nat) z, k ≤ i → xs[i]? = some z → (i = k ∧ z = x) ∨ k + 1 ≤ i := by
    intro i z hi hz
    by_cases e : i = k
    · subst e; rw [hx] at hz; injection hz with hz; exact .inl ⟨rfl, hz.symm⟩
    · exact .inr (by omega)
  rcases h with ⟨hb, h⟩ | ⟨j, y, hb, hj, hy, h2, h⟩ | ⟨j, y, hb, hj, hy, h1, h, h3⟩
  · refine .inl ⟨hb, fun i z hi hz => ?_⟩
    rcases at_ i z hi hz with ⟨_, rfl⟩ | hi2
    · exact h0
    · exact h i z hi2 hz
  · refine .inr (.inl ⟨j, y, hb, by omega, hy, h2, fun i z hi hij hz => ?_⟩)
    rcases at_ i z hi hz with ⟨_, rfl⟩ | hi2
    · omega
    · exact h i z hi2 hij hz
  · refine .inr (.inr ⟨j, y, hb, by omega, hy, h1, fun i z hi hij hz => ?_, fun i z hi hz => ?_⟩)
    · rcases at_ i z hi hz with ⟨_, rfl⟩ | hi2
      · exact h0
      · exact h i z hi2 hij hz
    · rcases at_ i z hi hz with ⟨_, rfl⟩ | hi2
      · omega
      · exact h3 i z hi2 hz
theorem best_get {nm v : Str} {xs : List Export} {k : Nat} {b : Int} (h : BestAt nm v xs k b) (hb : ¬ b < 0) : ∃ (j : Nat) (y : Export), b = j ∧ k ≤ j ∧ xs[j]? = some y ∧ 0 < fitN nm v y := by
  rcases h with ⟨hb2, h⟩ | ⟨j, y, hb2, hj, hy, h2, h⟩ | ⟨j, y, hb2, hj, hy, h1, h, h3⟩
  · omega
  · exact ⟨j, y, hb2, hj, hy, by omega⟩
  · exact ⟨j, y, hb2, hj, hy, by omega⟩
/-- The export at k takes the place. -/
theorem best_take {nm v : Str} {xs : List Export} {k : Nat} {b : Int} {x : Export} (h : BestAt nm v xs (k + 1) b) (hx : xs[k]? = some x) (h0 : ¬ fitN nm v x = 0)
    (hb : b < 0 ∨ ∃ (j : Nat) (y : Export), b = j ∧ xs[j]? = some y ∧ fitN nm v y ≤ fitN nm v x) : BestAt nm v xs k k := by
  rcases fitN_cases nm v x with g | g | g
  · exact absurd g h0
  · refine .inr (.inr ⟨k, x, rfl, Nat.le_refl _, hx, g, fun i z hi hik => by omega, fun i z hi hz => ?_⟩)
    by_cases e : i = k
    · subst e; rw [hx] at hz; injection hz with hz; subst hz; omega
    · rcases h with ⟨hb2, h⟩ | ⟨j, y, hb2, hj, hy, h2, h⟩ | ⟨j, y, hb2, hj, hy, h1, h, h3⟩
      · have := h i z (by omega) hz; omega
      · exfalso
        rcases hb with hb | ⟨j', y', hb3, hy', hle⟩
        · omega
        · have : j' = j := by omega
          subst this
          rw [hy] at hy'; injection hy' with hy'; subst hy'; omega
      · exact h3 i z (by omega) hz
  · exact .inr (.inl ⟨k, x, rfl, Nat.le_refl _, hx, g, fun i z hi hik => by omega⟩)
/-- The one that stood fits better. -/
theorem best_stay {nm v : Str} {xs : List Export} {k j : Nat} {b : Int} {x y : Export} (h : BestAt nm v xs (k + 1) b) (hx : xs[k]? = some x) (hb : b = j) (hy : xs[j]? = some y) (hlt : fitN nm v x < fitN nm v y) : BestAt nm v xs k b := by
  by_cases h0 : fitN nm v x = 0
  · exact best_keep h hx h0
  · have hx1 : fitN nm v x = 1 := by rcases fitN_cases nm v x with g | g | g <;> rcases fitN_cases nm v y with g' | g' | g' <;> omega
    have hy2 : fitN nm v y = 2 := by rcases fitN_cases nm v y with g' | g' | g' <;> omega
    rcases h with ⟨hb2, h⟩ | ⟨j2, y2, hb2, hj, hy', h2, h⟩ | ⟨j2, y2, hb2, hj, hy', h1, h, h3⟩
    · omega
    · refine .inr (.inl ⟨j2, y2, hb2, by omega, hy', h2, fun i z hi hij hz => ?_⟩)
      by_cases e : i = k
      · subst e; rw [hx] at hz; injection hz with hz; subst hz; omega
      · exact h i z (by omega) hij hz
    · exfalso
      have : j2 = j := by omega
      subst this
      exact h3 j2 y hj hy hy2
theorem best_zero {nm v : Str} {x : Image} {b : Int} (h : BestAt nm v x.exports 0 b) : b = exportOf x nm v := by
  have e2 : ∀ y : Export, ¬ fitN nm v y = 2 → fitExact nm v y = false := fun y hy => by
    cases hh : fitExact nm v y
    · rfl
    · exact absurd (fitN_two.2 hh) hy
  unfold exportOf
  rcases h with ⟨hb, h⟩ | ⟨j, y, hb, hj, hy, h2, h⟩ | ⟨j, y, hb, hj, hy, h1, h, h3⟩
  · have q1 : idx (fitExact nm v) x.exports = -1 := idx_none fun j y hy => e2 y (by rw [h j y (by omega) hy]; omega)
    have q2 : idx (fitLoose nm v) x.exports = -1 := idx_none fun j y hy => by
      have h4 := h j y (by omega) hy
      have h5 := e2 y (by omega)
      unfold fitN at h4
      rw [h5] at h4
      cases hl : fitLoose nm v y
      · rfl
      · rw [hl] at h4; simp at h4
    rw [q1, q2, hb]; simp
  · have q1 : idx (fitExact nm v) x.exports = j := idx_some hy (fitN_two.1 h2) (fun i z hi hz => e2 z (h i z (by omega) hi hz))
    rw [q1, if_pos (by omega)]; exact hb
  · have q1 : idx (fitExact nm v) x.exports = -1 := idx_none fun i z hz => e2 z (h3 i z (by omega) hz)
    have q2 : idx (fitLoose nm v) x.exports = j := idx_some hy (by
      unfold fitN at h1
      rw [e2 y (by unfold fitN; omega)] at h1
      cases hl : fitLoose nm v y
      · rw [hl] at h1; simp at h1
      · rfl) (fun i z hi hz => by
      have h4 := h i z (by omega) hi hz
      have h5 := e2 z (by omega)
      unfold fitN at h4
      rw [h5] at h4
      cases hl : fitLoose nm v z
      · rfl
      · rw [hl] at h4; simp at h4)
    rw [q1, q2, if_neg (by omega)]; exact hb

/-! ### the order of initialization -/
theorem pick_ready {needs : List (List Int)} {out : List Int} {j : Nat} (hd : hasI out j = false) (hr : readyB needs out j = true) : ∀ (n i : Nat) (w : Int), i ≤ j → j < i + n → (∀ m : Nat, i ≤ m → m < j → hasI out m = true ∨ readyB needs out m = false) → pickFrom needs out n i w = j
  | 0, i, w, h1, h2, _ => by omega
  | n + 1, i, w, h1, h2, h => by
    by_cases e : i = j
    · subst e; exact pick_step_ready hd hr
    · have ih := fun w => pick_ready hd hr n (i + 1) w (by omega) (by omega) (fun m h3 h4 => h m (by omega) h4)
      cases hdi : hasI out (i : Int)
      · have hri : readyB needs out i = false := (h i (Nat.le_refl _) (by omega)).resolve_left (by simp [hdi])
        rw [pick_step_not hdi hri]; exact ih _
      · rw [pick_step_done hdi]; exact ih _
theorem pick_none {needs : List (List Int)} {out : List Int} : ∀ (n i : Nat) (w : Int), 0 ≤ w → (∀ m : Nat, i ≤ m → m < i + n → hasI out m = true ∨ readyB needs out m = false) → pickFrom needs out n i w = w
  | 0, i, w, h1, _ => rfl
  | n + 1, i, w, h1, h => by
    have ih := pick_none n (i + 1) w h1 (fun m h3 h4 => h m (by omega) (by omega))
    cases hdi : hasI out (i : Int)
    · have hri : readyB needs out i = false := (h i (Nat.le_refl _) (by omega)).resolve_left (by simp [hdi])
      rw [pick_step_not hdi hri, if_neg (by omega)]; exact ih
    · rw [pick_step_done hdi]; exact ih
theorem pick_first {needs : List (List Int)} {out : List Int} {j : Nat} (hd : hasI out j = false) : ∀ (n i : Nat) (w : Int), w < 0 → i ≤ j → j < i + n → (∀ m : Nat, i ≤ m → m < j → hasI out m = true) → (∀ m : Nat, i ≤ m → m < i + n → hasI out m = true ∨ readyB needs out m = false) → pickFrom needs out n i w = j
  | 0, i, w, _, h1, h2, _, _ => by omega
  | n + 1, i, w, hw, h1, h2, h, hn => by
    by_cases e : i = j
    · subst e
      have hri : readyB needs out i = false := (hn i (Nat.le_refl _) (by omega)).resolve_left (by simp [hd])
      rw [pick_step_not hd hri, if_pos hw]
      exact pick_none n (i + 1) i (by omega) (fun m h3 h4 => hn m (by omega) (by omega))
    · rw [pick_step_done (h i (Nat.le_refl _) (by omega))]
      exact pick_first hd n (i + 1) w hw (by omega) (by omega) (fun m h3 h4 => h m (by omega) h4) (fun m h3 h4 => hn m (by omega) (by omega))

/-! ### the order of search -/
def walkUp (needs : List (List Int)) (k : Nat) : List Int := (List.range k).foldl (walkRoot needs) []
theorem walkUp_succ (needs : List (List Int)) (k : Nat) : walkUp needs (k + 1) = walkRoot needs (walkUp needs k) k := by unfold walkUp; rw [List.range_succ, List.foldl_append]; rfl
theorem walkUp_mem (needs : List (List Int)) : ∀ (k j : Nat), j < k → (j : Int) ∈ walkUp needs k
  | 0, j, h => by omega
  | k + 1, j, h => by
    rw [walkUp_succ]
    by_cases e : j = k
    · subst e; exact walkRoot_mem needs _ _
    · exact (walkRoot_pre needs _ _).subset (walkUp_mem needs k j (by omega))
theorem walkUp_skip (needs : List (List Int)) {out : List Int} : ∀ (m r : Nat), out = walkUp needs r → (∀ j : Nat, r ≤ j → j < r + m → (j : Int) ∈ out) → walkUp needs (r + m) = out
  | 0, r, h, _ => h.symm
  | m + 1, r, h, hj => by
    have ih := walkUp_skip needs m r h (fun j h1 h2 => hj j h1 (by omega))
    rw [show r + (m + 1) = r + m + 1 by omega, walkUp_succ, ih]
    unfold walkRoot
    rw [if_pos (hasI_iff.2 (hj (r + m) (by omega) (by omega)))]
/-- The first root that is missing. -/
theorem walkUp_root (needs : List (List Int)) {out : List Int} {r root : Nat} (h : out = walkUp needs r) (hp : ∀ j : Nat, j < root → (j : Int) ∈ out) (hn : hasI out root = false) : walkUp needs root = out := by
  have hle : r ≤ root := by
    refine Classical.byContradiction fun hlt => ?_
    have := walkUp_mem needs r root (by omega)
    rw [← h] at this
    exact (hasI_false.1 hn) this
  have := walkUp_skip needs (root - r) r h (fun j h1 h2 => hp j (by omega))
  rwa [show r + (root - r) = root by omega] at this
theorem walkUp_next (needs : List (List Int)) {out : List Int} {root : Nat} (h : walkUp needs root = out) (hn : hasI out root = false) : walkUp needs (root + 1) = bfs needs (needs.length + 1) out.length (out ++ [(root : Int)]) := by
  rw [walkUp_succ, h]; unfold walkRoot; rw [if_neg (by simp [hn])]
theorem walkUp_end {needs : List (List Int)} (hrow : ∀ row ∈ needs, ∀ v ∈ row, 0 ≤ v ∧ v < needs.length) {out : List Int} {r : Nat} (h : out = walkUp needs r) (hr : r ≤ needs.length) (hl : needs.length ≤ out.length) : out = walkF needs := by
  have h1 := walk_pre needs (needs.length - r) r
  rw [show r + (needs.length - r) = needs.length by omega] at h1
  have h2 : out <+: walkF needs := by rw [h]; exact h1
  have h3 := walk_len hrow
  exact h2.eq_of_length (by have := h2.length_le; omega)
theorem nice_missing {n : Nat} {out : List Int} (h : out.length < n) : ∃ r : Nat, r < n ∧ hasI out r = false := by
  refine Classical.byContradiction fun hno => ?_
  have := cover_len n out (fun r hr => by
    rw [← hasI_iff]
    cases hh : hasI out (r : Int)
    · exact absurd ⟨r, hr, hh⟩ hno
    · rfl)
  omega
/-! ### the order of initialization, by passes -/
def rowOk (out : List Int) (i : Int) (row : List Int) : Bool := row.all fun k => decide (k = i) || hasI out k
theorem ready_rowOk {needs : List (List Int)} {out row : List Int} {i : Nat} (h : needs[i]? = some row) : readyB needs out i = rowOk out i row := by
  unfold readyB rowOk
  rw [h]
  simp only
  clear h
  induction row with
  | nil => rfl
  | cons a t ih => simp only [List.any_cons, List.all_cons, Bool.not_or, ih]; simp
def passB (needs : List (List Int)) (out : List Int) (p : Nat) (i : Nat) : Bool := !hasI out i && (decide (p ≠ 0) || readyB needs out i)
/-- b is the first place from k on where R holds, or -1. -/
def FirstAt (R : Nat → Bool) (n k : Nat) (b : Int) : Prop :=
  (b = -1 ∧ ∀ j, k ≤ j → j < n → R j = false) ∨ ∃ j : Nat, b = j ∧ k ≤ j ∧ j < n ∧ R j = true ∧ ∀ i, k ≤ i → i < j → R i = false
theorem firstAt_end (R : Nat → Bool) (n : Nat) : FirstAt R n n (-1) := .inl ⟨rfl, fun j h1 h2 => by omega⟩
theorem firstAt_yes {R : Nat → Bool} {n k : Nat} (hk : k < n) (h : R k = true) : FirstAt R n k k := .inr ⟨k, rfl, Nat.le_refl _, hk, h, fun i h1 h2 => by omega⟩
theorem firstAt_no {R : Nat → Bool} {n k : Nat} {b : Int} (hb : FirstAt R n (k + 1) b) (h : R k = false) : FirstAt R n k b := by
  have key : ∀ j, k ≤ j → j = k ∨ k + 1 ≤ j := fun j hj => by omega
  rcases hb with ⟨rfl, g⟩ | ⟨j, rfl, h1, h2, h3, h4⟩
  · refine .inl ⟨rfl, fun j h1 h2 => ?_⟩
    rcases key j h1 with rfl | h3
    · exact h
    · exact g j h3 h2
  · refine .inr ⟨j, rfl, by omega, h2, h3, fun i h5 h6 => ?_⟩
    rcases key i h5 with rfl | h7
    · exact h
    · exact h4 i h7 h6
theorem pass_zero {needs : List (List Int)} {out : List Int} {b : Int} (h : FirstAt (passB needs out 0) needs.length 0 b) (hb : ¬ b < 0) : b = pick needs out := by
  rcases h with ⟨rfl, _⟩ | ⟨j, rfl, _, h2, h3, h4⟩
  · omega
  · unfold passB at h3 h4
    simp at h3 h4
    unfold pick
    rw [pick_ready h3.1 h3.2 needs.length 0 (-1) (by omega) (by omega) (fun m _ h6 => ?_)]
    have := h4 m h6
    cases hh : hasI out (m : Int)
    · exact .inr (this hh)
    · exact .inl rfl
theorem pass_one {needs : List (List Int)} {out : List Int} {b c : Int} (h0 : FirstAt (passB needs out 0) needs.length 0 c) (hc : c < 0) (h : FirstAt (passB needs out 1) needs.length 0 b) (hm : ∃ r : Nat, r < needs.length ∧ hasI out r = false) : b = pick needs out := by
  obtain ⟨r, hr1, hr2⟩ := hm
  have hn : ∀ m : Nat, 0 ≤ m → m < 0 + needs.length → hasI out m = true ∨ readyB needs out m = false := by
    rcases h0 with ⟨_, g⟩ | ⟨j, rfl, _, _, _, _⟩
    · intro m _ hm
      have := g m (by omega) (by omega)
      unfold passB at this
      simp at this
      cases hh : hasI out (m : Int)
      · exact .inr (this hh)
      · exact .inl rfl
    · omega
  rcases h with ⟨rfl, g⟩ | ⟨j, rfl, _, h2, h3, h4⟩
  · have := g r (by omega) hr1
    unfold passB at this
    simp [hr2] at this
  · unfold passB at h3 h4
    simp at h3 h4
    unfold pick
    rw [pick_first h3 needs.length 0 (-1) (by omega) (by omega) (by omega) (fun m _ h6 => by simpa using h4 m h6) hn]
end Go.Abs

/- The references: bytes and words of an image, code: plain facts. -/
set_option linter.unusedVariables false
set_option linter.unusedSimpArgs false
namespace Go.Abs
open Go
def SegOk (s : Segment) : Prop := SegIn s ∧ 1 ≤ s.rights ∧ s.rights ≤ 7 ∧ (s.data.length : Int) ≤ s.size
theorem up256_le {n : Int} (h : 0 ≤ n) : n ≤ up256 n := by unfold up256; omega
theorem segsFrom_ok : ∀ (e : Int) (k : Nat) (l : List Segment), segsFrom e k l = Fault.ok → (∀ s ∈ l, SegOk s ∧ e ≤ s.address) ∧ l.Pairwise (fun a b => a.address + a.size ≤ b.address)
  | _, _, [], _ => ⟨by simp, List.Pairwise.nil⟩
  | e, k, t :: ts, h => by
    unfold segsFrom at h
    split at h
    · rename_i hc
      have ht : SegOk t ∧ e ≤ t.address := by
        unfold segCode at hc
        repeat' split at hc
        all_goals first | omega | (unfold SegOk SegIn; omega)
      obtain ⟨i1, i2⟩ := segsFrom_ok _ _ ts h
      have hup : t.address + t.size ≤ up256 (t.address + t.size) := up256_le (by have := ht.1.1; unfold SegIn at this; omega)
      refine ⟨fun s hs => ?_, List.Pairwise.cons (fun s hs => by have := (i1 s hs).2; omega) i2⟩
      rcases List.mem_cons.1 hs with rfl | hs
      · exact ht
      · have := i1 s hs
        refine ⟨this.1, ?_⟩
        have hsi := ht.1.1; unfold SegIn at hsi
        omega
    · rename_i hc
      rw [fault_ok] at h
      exact absurd h.1 hc
theorem image_segOk {x : Image} (h : imageF x = Fault.ok) : (∀ s ∈ x.segments, SegOk s) ∧ x.segments.Pairwise (fun a b => a.address + a.size ≤ b.address) := by
  have hh := (image_all h).1
  have : segments x.segments = Fault.ok := by
    unfold headF at hh
    split at hh
    · rw [fault_ok] at hh; have := hh.1; simp at this
    · split at hh
      · rename_i h1; exact absurd hh h1
      · rename_i h1; simpa using h1
  unfold segments at this
  split at this
  · rw [fault_ok] at this; have := this.1; simp at this
  · have := segsFrom_ok _ _ _ this
    exact ⟨fun s hs => (this.1 s hs).1, this.2⟩

/-! ### code -/
def execRef (a : Int) : List Segment → Bool
  | [] => false
  | s :: ss => if inB a s.address (W (W (s.address + s.size) - 1)) = true then decide ((s.rights.tdiv 4).tmod 2 = 1) else execRef a ss
theorem rights_exec {r : Int} (h1 : 1 ≤ r) (h2 : r ≤ 7) : decide ((r.tdiv 4).tmod 2 = 1) = !decide (andI r 4 = 0) := by
  have : r = 1 ∨ r = 2 ∨ r = 3 ∨ r = 4 ∨ r = 5 ∨ r = 6 ∨ r = 7 := by omega
  rcases this with rfl | rfl | rfl | rfl | rfl | rfl | rfl <;> decide +kernel
theorem execRef_eq (a : Int) : ∀ (l : List Segment), (∀ s ∈ l, SegOk s) → execRef a l = execFrom a l
  | [], _ => rfl
  | s :: ss, h => by
    have hs := h s (by simp)
    obtain ⟨h1, h2, h3, h4⟩ := hs
    unfold SegIn at h1
    have e1 : W (s.address + s.size) = s.address + s.size := W_in (by omega) (by omega)
    have e2 : W (s.address + s.size - 1) = s.address + s.size - 1 := W_in (by omega) (by omega)
    have ih := execRef_eq a ss (fun t ht => h t (List.mem_cons_of_mem _ ht))
    unfold execRef execFrom
    have hin : inB a s.address (W (W (s.address + s.size) - 1)) = inRange a s := by
      unfold inB inRange
      rw [e1, e2, Bool.eq_iff_iff]; simp; omega
    rw [hin, ih, rights_exec h2 h3]

/-! ### bytes -/
def storedIn (a : Int) (s : Segment) : Prop := 0 ≤ W (a - s.address) ∧ W (a - s.address) < s.data.length
instance (a : Int) (s : Segment) : Decidable (storedIn a s) := by unfold storedIn; infer_instance
def storedF (a : Int) : List Segment → Int
  | [] => 0
  | s :: ss => if storedIn a s then s.data.getD (W (a - s.address)).toNat 0 else storedF a ss
theorem storedIn_iff {a : Int} {s : Segment} (h : SegOk s) (h1 : 0 ≤ a) (h2 : a ≤ 1048576) : storedIn a s ↔ s.address ≤ a ∧ a < s.address + s.data.length := by
  obtain ⟨g1, g2, g3, g4⟩ := h
  unfold SegIn at g1
  unfold storedIn
  rw [W_in (n := a - s.address) (by omega) (by omega)]
  omega
theorem storedF_byte {a : Int} : ∀ (l : List Segment), (∀ s ∈ l, ∀ b ∈ s.data, 0 ≤ b ∧ b ≤ 255) → 0 ≤ storedF a l ∧ storedF a l ≤ 255
  | [], _ => by simp [storedF]
  | s :: ss, h => by
    unfold storedF
    split
    · rename_i hi
      unfold storedIn at hi
      have hlt : (W (a - s.address)).toNat < s.data.length := by omega
      rw [List.getD_eq_getElem?_getD, List.getElem?_eq_getElem hlt]
      exact h s (by simp) _ (List.getElem_mem hlt)
    · exact storedF_byte ss (fun t ht => h t (List.mem_cons_of_mem _ ht))

theorem ofInt_toNat (n : Nat) (h : n < 4294967296) : (BitVec.ofInt 32 (n : Int)).toNat = n := by
  rw [BitVec.ofInt_natCast, BitVec.toNat_ofNat]
  exact Nat.mod_eq_of_lt h
theorem orK_add {X Y n : Nat} (hX : X < 2 ^ n) (h : X + Y * 2 ^ n < 4294967296) : orK .u32 (X : Int) ((Y * 2 ^ n : Nat) : Int) = ((X + Y * 2 ^ n : Nat) : Int) := by
  unfold orK
  have e1 : IntKind.u32.bits = 32 := rfl
  rw [e1, BitVec.toNat_or, ofInt_toNat X (by omega), ofInt_toNat _ (by omega)]
  have e2 : X ||| Y * 2 ^ n = X + Y * 2 ^ n := by
    have := Nat.shiftLeft_add_eq_or_of_lt hX Y
    rw [Nat.shiftLeft_eq] at this
    rw [Nat.or_comm, ← this, Nat.add_comm]
  rw [e2]
  clear e2
  generalize Y * 2 ^ n = Z at *
  unfold IntKind.wrap
  simp [IntKind.bits, IntKind.signed]
  omega
theorem orK_zero {X : Nat} (h : X < 4294967296) : orK .u32 (X : Int) 0 = X := by
  have := orK_add (X := X) (Y := 0) (n := 32) (by omega) (by omega)
  simpa using this
theorem shlU_byte {b : Int} (h1 : 0 ≤ b) (h2 : b ≤ 255) {i : Nat} (hi : i < 4) : shlU (wrapU b) (W (8 * (i : Int))) = ((b.toNat * 2 ^ (8 * i) : Nat) : Int) := by
  obtain ⟨n, rfl⟩ : ∃ n : Nat, b = n := ⟨b.toNat, by omega⟩
  unfold shlU
  rw [wrapU_in h1 (by omega), W_in (by omega) (by omega)]
  have : i = 0 ∨ i = 1 ∨ i = 2 ∨ i = 3 := by omega
  unfold IntKind.wrap
  rcases this with rfl | rfl | rfl | rfl <;> (simp [IntKind.bits, IntKind.signed]; omega)
/-- The segments' bytes at one place: at most one of them has it. -/
theorem row_byte {a : Int} {i : Nat} (hi : i < 4) (h0 : 0 ≤ a) (h1 : a + 4 ≤ 1048576) : ∀ (l : List Segment), (∀ s ∈ l, SegOk s) → l.Pairwise (fun a b => a.address + a.size ≤ b.address) → (∀ s ∈ l, ∀ b ∈ s.data, 0 ≤ b ∧ b ≤ 255) → ∀ (X : Nat), X < 2 ^ (8 * i) →
    l.foldl (byteStep a i) (X : Int) = ((X + (storedF (W (a + i)) l).toNat * 2 ^ (8 * i) : Nat) : Int)
  | [], _, _, _, X, hX => by simp [storedF]
  | s :: ss, hok, hp, hb, X, hX => by
    have ha : W (a + i) = a + i := W_in (by omega) (by omega)
    have hp8 : 2 ^ (8 * i) ≤ 16777216 := by
      have : i = 0 ∨ i = 1 ∨ i = 2 ∨ i = 3 := by omega
      rcases this with rfl | rfl | rfl | rfl <;> decide
    have hso := hok s (by simp)
    have hsi := hso.1
    unfold SegIn at hsi
    have hsub : W (a + i - s.address) = a + i - s.address := W_in (by omega) (by omega)
    have none : ∀ (l : List Segment) (w : Int), (∀ t ∈ l, SegOk t ∧ a + i < t.address) → l.foldl (byteStep a i) w = w := by
      intro l
      induction l with
      | nil => intro w _; rfl
      | cons t ts ih =>
        intro w ht
        have h2 := ht t (by simp)
        have h3 := h2.1.1
        unfold SegIn at h3
        rw [List.foldl_cons]
        have : byteStep a i w t = w := by
          unfold byteStep
          rw [ha, W_in (n := a + i - t.address) (by omega) (by omega), if_neg (by omega)]
        rw [this]
        exact ih w (fun u hu => ht u (List.mem_cons_of_mem _ hu))
    rw [List.foldl_cons]
    by_cases hin : storedIn (a + i) s
    · have hin2 := (storedIn_iff hso (by omega) (by omega)).1 hin
      have hlt : (a + i - s.address).toNat < s.data.length := by omega
      have hst : storedF (W (a + i)) (s :: ss) = s.data.getD (a + i - s.address).toNat 0 := by
        rw [ha]; unfold storedF; rw [if_pos hin, hsub]
      have hbyte : 0 ≤ s.data.getD (a + i - s.address).toNat 0 ∧ s.data.getD (a + i - s.address).toNat 0 ≤ 255 := by
        rw [List.getD_eq_getElem?_getD, List.getElem?_eq_getElem hlt]
        exact hb s (by simp) _ (List.getElem_mem hlt)
      have hstep : byteStep a i (X : Int) s = ((X + (storedF (W (a + i)) (s :: ss)).toNat * 2 ^ (8 * i) : Nat) : Int) := by
        unfold byteStep
        rw [ha, hsub, if_pos (by omega), ← ha] 
        rw [ha] at hst ⊢
        rw [hst]
        generalize s.data.getD (a + i - s.address).toNat 0 = b at *
        rw [shlU_byte hbyte.1 hbyte.2 hi]
        refine orK_add hX ?_
        have : b.toNat ≤ 255 := by omega
        have h5 : b.toNat * 2 ^ (8 * i) ≤ 255 * 2 ^ (8 * i) := Nat.mul_le_mul_right _ this
        omega
      rw [hstep]
      refine none ss _ (fun t ht => ⟨hok t (List.mem_cons_of_mem _ ht), ?_⟩)
      have h6 := (List.pairwise_cons.1 hp).1 t ht
      have h7 := hso.2.2.2
      omega
    · have hstep : byteStep a i (X : Int) s = X := by
        unfold byteStep
        rw [ha]
        unfold storedIn at hin
        rw [if_neg hin]
      have hst : storedF (W (a + i)) (s :: ss) = storedF (W (a + i)) ss := by
        rw [ha]; conv => lhs; unfold storedF
        rw [if_neg hin]
      rw [hstep, hst]
      exact row_byte hi h0 h1 ss (fun t ht => hok t (List.mem_cons_of_mem _ ht)) (List.pairwise_cons.1 hp).2 (fun t ht => hb t (List.mem_cons_of_mem _ ht)) X hX

def storedB (x : Image) (a : Int) : Int := storedF a x.segments
/-- The word of four bytes, summed as the reference does. -/
def storedW (x : Image) (a : Int) : Int := W (W (W (storedB x a + W (256 * storedB x (W (a + 1)))) + W (65536 * storedB x (W (a + 2)))) + W (16777216 * storedB x (W (a + 3))))
theorem word_stored {x : Image} (hx : x.WF) (h : imageF x = Fault.ok) {a : Int} (h0 : 0 ≤ a) (h1 : a + 4 ≤ 1048576) : wordOf x a = storedW x a ∧ 0 ≤ storedW x a ∧ storedW x a < 4294967296 := by
  obtain ⟨hok, hp⟩ := image_segOk h
  have hb : ∀ s ∈ x.segments, ∀ b ∈ s.data, 0 ≤ b ∧ b ≤ 255 := fun s hs => (hx.segments.2 s hs).2.2.2.2
  have hbyte : ∀ c, 0 ≤ storedB x c ∧ storedB x c ≤ 255 := fun c => storedF_byte x.segments hb
  have ea : W (a + (0 : Nat)) = a := by rw [W_in] <;> simp <;> omega
  have row : ∀ (i : Nat), i < 4 → ∀ X : Nat, X < 2 ^ (8 * i) → wordRow x a (X : Int) i = ((X + (storedB x (W (a + i))).toNat * 2 ^ (8 * i) : Nat) : Int) := fun i hi X hX => row_byte hi h0 h1 x.segments hok hp hb X hX
  have b0 := hbyte a
  have b1 := hbyte (W (a + 1))
  have b2 := hbyte (W (a + 2))
  have b3 := hbyte (W (a + 3))
  have r0 := row 0 (by omega) 0 (by decide)
  rw [ea] at r0
  have hw : wordOf x a = wordRow x a (wordRow x a (wordRow x a (wordRow x a 0 0) 1) 2) 3 := rfl
  have r1 := row 1 (by omega) ((storedB x a).toNat) (by omega)
  have r2 := row 2 (by omega) ((storedB x a).toNat + (storedB x (W (a + 1))).toNat * 256) (by omega)
  have r3 := row 3 (by omega) ((storedB x a).toNat + (storedB x (W (a + 1))).toNat * 256 + (storedB x (W (a + 2))).toNat * 65536) (by omega)
  have q0 : wordRow x a 0 0 = ((storedB x a).toNat : Int) := by simpa using r0
  have q1 : wordRow x a ((storedB x a).toNat : Int) 1 = (((storedB x a).toNat + (storedB x (W (a + 1))).toNat * 256 : Nat) : Int) := by simpa using r1
  have q2 : wordRow x a (((storedB x a).toNat + (storedB x (W (a + 1))).toNat * 256 : Nat) : Int) 2 = (((storedB x a).toNat + (storedB x (W (a + 1))).toNat * 256 + (storedB x (W (a + 2))).toNat * 65536 : Nat) : Int) := by simpa using r2
  have q3 : wordRow x a (((storedB x a).toNat + (storedB x (W (a + 1))).toNat * 256 + (storedB x (W (a + 2))).toNat * 65536 : Nat) : Int) 3 = (((storedB x a).toNat + (storedB x (W (a + 1))).toNat * 256 + (storedB x (W (a + 2))).toNat * 65536 + (storedB x (W (a + 3))).toNat * 16777216 : Nat) : Int) := by simpa using r3
  rw [hw, q0, q1, q2, q3]
  unfold storedW
  generalize storedB x a = c0 at *
  generalize storedB x (W (a + 1)) = c1 at *
  generalize storedB x (W (a + 2)) = c2 at *
  generalize storedB x (W (a + 3)) = c3 at *
  rw [W_in (n := 256 * c1) (by omega) (by omega), W_in (n := c0 + 256 * c1) (by omega) (by omega), W_in (n := 65536 * c2) (by omega) (by omega), W_in (n := c0 + 256 * c1 + 65536 * c2) (by omega) (by omega), W_in (n := 16777216 * c3) (by omega) (by omega), W_in (by omega) (by omega)]
  omega
/-- A number as the reference makes a word of it. -/
theorem word_wrap {n : Int} (h : I64 n) : IntKind.u32.wrap ((W (n.tmod 4294967296 + 4294967296)).tmod 4294967296) = wrapU n := by
  have h1 := Int.mul_tdiv_add_tmod n 4294967296
  have h2 := Int.tmod_lt_of_pos n (b := 4294967296) (by omega)
  have h3 : -4294967296 < n.tmod 4294967296 := by
    have := Int.tmod_lt_of_pos (-n) (b := 4294967296) (by omega)
    rw [Int.neg_tmod] at this
    omega
  rw [W_in (by omega) (by omega), Int.tmod_eq_emod_of_nonneg (by omega)]
  unfold wrapU IntKind.wrap
  simp [IntKind.bits, IntKind.signed]
  generalize n.tdiv 4294967296 = q at *
  omega
theorem kills_dats (d : Nat) : ∀ cs : List Dat, kills d (cs.map PVal.dat) = cs.map PVal.dat
  | [] => rfl
  | c :: cs => by simp only [List.map_cons, kills, PVal.kill, kills_dats d cs]
/-- The reference's word of a fixup that adds a bias. -/
theorem fix_sum {w b : Int} (h1 : 0 ≤ w) (h2 : w < 4294967296) (h3 : 0 ≤ b) (h4 : b < 4294967296) : wrapU (W (w + b)) = wrapU (w + wrapU b) := by
  rw [W_in (by omega) (by omega), wrapU_in h3 h4]
end Go.Abs

/- Who reaches whom: the closure by rounds, cycles of needs: plain facts. -/
set_option linter.unusedVariables false
set_option linter.unusedSimpArgs false
namespace Go.Abs
open Go
abbrev Mat := Nat → Nat → Bool
def upd2 (M : Mat) (a b : Nat) (v : Bool) : Mat := fun x y => if x = a ∧ y = b then v else M x y
theorem upd2_at (M : Mat) (a b : Nat) (v : Bool) : upd2 M a b v a b = v := by simp [upd2]
theorem upd2_ne {M : Mat} {a b x y : Nat} {v : Bool} (h : ¬ (x = a ∧ y = b)) : upd2 M a b v x y = M x y := by simp [upd2, h]
def stepM (k a : Nat) (M : Mat) (b : Nat) : Mat := upd2 M a b (M a b || (M a k && M k b))
def rowM (n k : Nat) (M : Mat) (a : Nat) (m : Nat) : Mat := (List.range m).foldl (stepM k a) M
def roundM (n : Nat) (M : Mat) (k : Nat) (m : Nat) : Mat := (List.range m).foldl (fun M a => rowM n k M a n) M
def closeM (n : Nat) (M : Mat) (m : Nat) : Mat := (List.range m).foldl (fun M k => roundM n M k n) M
theorem rowM_succ (n k : Nat) (M : Mat) (a m : Nat) : rowM n k M a (m + 1) = stepM k a (rowM n k M a m) m := by unfold rowM; rw [List.range_succ, List.foldl_append]; rfl
theorem roundM_succ (n : Nat) (M : Mat) (k m : Nat) : roundM n M k (m + 1) = rowM n k (roundM n M k m) m n := by unfold roundM; rw [List.range_succ, List.foldl_append]; rfl
theorem closeM_succ (n : Nat) (M : Mat) (m : Nat) : closeM n M (m + 1) = roundM n (closeM n M m) m n := by unfold closeM; rw [List.range_succ, List.foldl_append]; rfl
def LeM (M N : Mat) : Prop := ∀ x y, M x y = true → N x y = true
theorem LeM.refl (M : Mat) : LeM M M := fun _ _ h => h
theorem LeM.trans {M N O : Mat} (h : LeM M N) (k : LeM N O) : LeM M O := fun x y z => k x y (h x y z)
theorem stepM_le (k a : Nat) (M : Mat) (b : Nat) : LeM M (stepM k a M b) := fun x y h => by
  unfold stepM
  by_cases e : x = a ∧ y = b
  · obtain ⟨rfl, rfl⟩ := e; rw [upd2_at, h]; rfl
  · rw [upd2_ne e]; exact h
theorem rowM_le (n k : Nat) (M : Mat) (a : Nat) : ∀ m, LeM M (rowM n k M a m)
  | 0 => LeM.refl M
  | m + 1 => by rw [rowM_succ]; exact (rowM_le n k M a m).trans (stepM_le _ _ _ _)
theorem roundM_le (n : Nat) (M : Mat) (k : Nat) : ∀ m, LeM M (roundM n M k m)
  | 0 => LeM.refl M
  | m + 1 => by rw [roundM_succ]; exact (roundM_le n M k m).trans (rowM_le _ _ _ _ _)
theorem rowM_at {n k : Nat} {M : Mat} {a : Nat} : ∀ (m b : Nat), b < m → (M a b = true ∨ M a k = true ∧ M k b = true) → rowM n k M a m a b = true
  | 0, b, h, _ => by omega
  | m + 1, b, h, hm => by
    rw [rowM_succ]
    by_cases e : b = m
    · subst e
      unfold stepM
      rw [upd2_at]
      have hle := rowM_le n k M a b
      rcases hm with hm | ⟨h1, h2⟩
      · rw [hle _ _ hm]; rfl
      · rw [hle _ _ h1, hle _ _ h2]; simp
    · exact stepM_le _ _ _ _ _ _ (rowM_at m b (by omega) hm)
theorem roundM_at {n k : Nat} {M : Mat} : ∀ (m a b : Nat), a < m → b < n → (M a b = true ∨ M a k = true ∧ M k b = true) → roundM n M k m a b = true
  | 0, a, b, h, _, _ => by omega
  | m + 1, a, b, h, hb, hm => by
    rw [roundM_succ]
    have hle := roundM_le n M k m
    by_cases e : a = m
    · subst e
      exact rowM_at n b hb (hm.imp (hle _ _) (fun ⟨h1, h2⟩ => ⟨hle _ _ h1, hle _ _ h2⟩))
    · exact rowM_le _ _ _ _ _ _ _ (roundM_at m a b (by omega) hb hm)

inductive PathB (E : Nat → Nat → Prop) : Nat → Nat → Nat → Prop
  | edge {k a b : Nat} (h : E a b) : PathB E k a b
  | thru {k a b c : Nat} (hc : c < k) (h1 : PathB E k a c) (h2 : PathB E k c b) : PathB E k a b
theorem PathB.split {E : Nat → Nat → Prop} {k a b : Nat} (h : PathB E (k + 1) a b) : PathB E k a b ∨ (PathB E k a k ∧ PathB E k k b) := by
  generalize hk : k + 1 = k' at h
  induction h with
  | edge h => exact .inl (.edge h)
  | thru hc h1 h2 ih1 ih2 =>
    subst hk
    rename_i a b c
    have i1 := ih1
    have i2 := ih2
    by_cases e : c = k
    · subst e
      refine .inr ⟨?_, ?_⟩
      · rcases i1 with h | ⟨h, _⟩ <;> exact h
      · rcases i2 with h | ⟨_, h⟩ <;> exact h
    · have hck : c < k := by omega
      rcases i1 with p1 | ⟨p1, p1'⟩ <;> rcases i2 with p2 | ⟨p2, p2'⟩
      · exact .inl (.thru hck p1 p2)
      · exact .inr ⟨.thru hck p1 p2, p2'⟩
      · exact .inr ⟨p1, .thru hck p1' p2⟩
      · exact .inr ⟨p1, p2'⟩
theorem closeM_path {E : Nat → Nat → Prop} {n : Nat} {M : Mat} (h0 : ∀ a b, a < n → b < n → E a b → M a b = true) : ∀ m, m ≤ n → ∀ a b, a < n → b < n → (PathB E m a b → closeM n M m a b = true)
  | 0, _, a, b, ha, hb, hp => by
    cases hp with
    | edge h => exact h0 a b ha hb h
    | thru hc => omega
  | m + 1, hm, a, b, ha, hb, hp => by
    have ih := closeM_path h0 m (by omega)
    rw [closeM_succ]
    refine roundM_at n a b ha hb ?_
    rcases hp.split with h | ⟨h1, h2⟩
    · exact .inl (ih a b ha hb h)
    · exact .inr ⟨ih a m ha (by omega) h1, ih m b (by omega) hb h2⟩

/-! ### needs that are not met -/
theorem exists_first {p : Nat → Prop} : ∀ (n : Nat), p n → ∃ j, j ≤ n ∧ p j ∧ ∀ m, m < j → ¬ p m := by
  intro n
  induction n using Nat.strongRecOn with
  | _ n ih =>
    intro hn
    by_cases h : ∃ m, m < n ∧ p m
    · obtain ⟨m, hm, hp⟩ := h
      obtain ⟨j, h1, h2, h3⟩ := ih m hm hp
      exact ⟨j, by omega, h2, h3⟩
    · exact ⟨n, Nat.le_refl _, hn, fun m hm hp => h ⟨m, hm, hp⟩⟩
/-- If the one that is picked is not ready, no other one is. -/
theorem pick_stuck {needs : List (List Int)} {out : List Int} {i : Nat} (hp : pick needs out = i) (hr : readyB needs out i = false) : ∀ j : Nat, j < needs.length → hasI out j = false → readyB needs out j = false := by
  intro j hj hd
  cases hrj : readyB needs out j
  · rfl
  · exfalso
    obtain ⟨m, hm, ⟨hm1, hm2⟩, hmin⟩ := exists_first (p := fun m => hasI out (m : Int) = false ∧ readyB needs out m = true) j ⟨hd, hrj⟩
    have := pick_ready hm1 hm2 needs.length 0 (-1) (by omega) (by omega) (fun q _ hq => by
      have h1 := hmin q hq
      cases h2 : hasI out (q : Int)
      · cases h3 : readyB needs out q
        · exact .inr rfl
        · exact absurd ⟨h2, h3⟩ h1
      · exact .inl rfl)
    unfold pick at hp
    rw [this] at hp
    have : m = i := by omega
    subst this
    rw [hm2] at hr; cases hr
def EdgeN (needs : List (List Int)) (a b : Nat) : Prop := ∃ row, needs[a]? = some row ∧ (b : Int) ∈ row ∧ a ≠ b
/-- One that waits has a successor that waits. -/
theorem stuck_next {needs : List (List Int)} (hok : ∀ row ∈ needs, ∀ v ∈ row, 0 ≤ v ∧ v < needs.length) {out : List Int} {j : Nat} (hj : j < needs.length) (hr : readyB needs out j = false) :
    ∃ k : Nat, k < needs.length ∧ hasI out k = false ∧ EdgeN needs j k := by
  have hrow : needs[j]? = some needs[j] := List.getElem?_eq_getElem hj
  rw [ready_rowOk hrow] at hr
  unfold rowOk at hr
  rw [List.all_eq_false] at hr
  obtain ⟨v, hv, hne⟩ := hr
  have hin := hok _ (List.getElem_mem hj) v hv
  obtain ⟨k, rfl⟩ : ∃ k : Nat, v = k := ⟨v.toNat, by omega⟩
  simp only [Bool.or_eq_true, decide_eq_true_eq, not_or, Bool.not_eq_true] at hne
  refine ⟨k, by omega, hne.2, _, hrow, hv, fun e => hne.1 (by rw [e])⟩
theorem stuck_cycle {needs : List (List Int)} (hok : ∀ row ∈ needs, ∀ v ∈ row, 0 ≤ v ∧ v < needs.length) {out : List Int} (hall : ∀ j : Nat, j < needs.length → hasI out j = false → readyB needs out j = false) {i : Nat} (hi : i < needs.length) (hd : hasI out i = false) :
    ∃ a, a < needs.length ∧ (a = i ∨ PathB (EdgeN needs) needs.length i a) ∧ PathB (EdgeN needs) needs.length a a := by
  -- a walk among those that wait
  have hstep : ∀ j : Nat, ∃ k : Nat, (j < needs.length ∧ hasI out j = false) → (k < needs.length ∧ hasI out k = false ∧ EdgeN needs j k) := by
    intro j
    by_cases h : j < needs.length ∧ hasI out j = false
    · obtain ⟨k, hk⟩ := stuck_next hok h.1 (hall j h.1 h.2)
      exact ⟨k, fun _ => hk⟩
    · exact ⟨0, fun h' => absurd h' h⟩
  obtain ⟨f, hf⟩ := Classical.axiomOfChoice hstep
  obtain ⟨u, hu0, hus⟩ : ∃ u : Nat → Nat, u 0 = i ∧ ∀ t, u (t + 1) = f (u t) := ⟨fun t => Nat.rec i (fun _ x => f x) t, rfl, fun _ => rfl⟩
  have hw : ∀ t, u t < needs.length ∧ hasI out ((u t : Nat) : Int) = false := by
    intro t
    induction t with
    | zero => rw [hu0]; exact ⟨hi, hd⟩
    | succ t ih => rw [hus]; have := hf (u t) ih; exact ⟨this.1, this.2.1⟩
  have he : ∀ t, EdgeN needs (u t) (u (t + 1)) := fun t => by rw [hus]; exact (hf (u t) (hw t)).2.2
  have hpath : ∀ d s, PathB (EdgeN needs) needs.length (u s) (u (s + d + 1)) := by
    intro d
    induction d with
    | zero => intro s; exact .edge (he s)
    | succ d ih => intro s; exact .thru (hw (s + d + 1)).1 (ih s) (by have := PathB.edge (k := needs.length) (he (s + d + 1)); rw [show s + (d + 1) + 1 = s + d + 1 + 1 by omega]; exact this)
  -- two of its places are the same
  have hdup : ∃ s t, s < t ∧ u s = u t := by
    refine Classical.byContradiction fun hno => ?_
    have hnice : Nice needs.length ((List.range (needs.length + 1)).map fun t => ((u t : Nat) : Int)) := by
      refine ⟨?_, fun v hv => ?_⟩
      · rw [List.nodup_iff_pairwise_ne, List.pairwise_map]
        refine List.Pairwise.imp ?_ (List.pairwise_lt_range (n := needs.length + 1))
        intro a b hab e
        exact hno ⟨a, b, hab, by omega⟩
      · obtain ⟨t, _, rfl⟩ := List.mem_map.1 hv
        have := (hw t).1
        omega
    have := hnice.length
    simp at this
    omega
  obtain ⟨s, t, hst, heq⟩ := hdup
  refine ⟨u s, (hw s).1, ?_, ?_⟩
  · cases s with
    | zero => exact .inl hu0
    | succ s => right; have := hpath s 0; rw [hu0] at this; simpa using this
  · have := hpath (t - s - 1) s
    rw [show s + (t - s - 1) + 1 = t by omega, ← heq] at this
    exact this
/-- What the function that looks for cycles computes. -/
def edgeM (needs : List (List Int)) : Mat := fun a b => match needs[a]? with
  | some row => row.any fun v => decide (v = (b : Int)) && !decide (v = (a : Int))
  | none => false
def cyclicF (needs : List (List Int)) (i : Nat) : Bool := (List.range needs.length).any fun a => (decide (a = i) || closeM needs.length (edgeM needs) needs.length i a) && closeM needs.length (edgeM needs) needs.length a a
theorem cyclicF_true {needs : List (List Int)} {i a : Nat} (ha : a < needs.length) (hi : i < needs.length) (h1 : a = i ∨ PathB (EdgeN needs) needs.length i a) (h2 : PathB (EdgeN needs) needs.length a a) : cyclicF needs i = true := by
  have h0 : ∀ a b, a < needs.length → b < needs.length → EdgeN needs a b → edgeM needs a b = true := by
    rintro a b _ _ ⟨row, hr, hb, hne⟩
    unfold edgeM
    rw [hr]
    simp only [List.any_eq_true, Bool.and_eq_true, decide_eq_true_eq, Bool.not_eq_true', decide_eq_false_iff_not]
    exact ⟨b, hb, rfl, fun e => hne (by omega)⟩
  have key := closeM_path h0 needs.length (Nat.le_refl _)
  unfold cyclicF
  rw [List.any_eq_true]
  refine ⟨a, by simpa using ha, ?_⟩
  rw [key a a ha ha h2, Bool.and_true, Bool.or_eq_true]
  rcases h1 with h1 | h1
  · left; simpa using h1
  · exact .inr (key i a hi ha h1)
theorem sortedFrom_take (needs : List (List Int)) : ∀ (m k : Nat), (sortedFrom needs (k + m) []).take k = sortedFrom needs k []
  | 0, k => by
    have := sortedFrom_len needs k []
    rw [List.take_of_length_le (by rw [Nat.add_zero, this]; simp)]; rfl
  | m + 1, k => by
    have h := sortedFrom_succ needs (k + m) []
    rw [show k + (m + 1) = k + m + 1 by omega, h, List.take_append_of_le_length (by rw [sortedFrom_len]; simp), sortedFrom_take needs m k]
/-- The law: one that comes before what it needs leads to a cycle. -/
theorem needed_first {needs : List (List Int)} (hok : ∀ row ∈ needs, ∀ v ∈ row, 0 ≤ v ∧ v < needs.length) {p : Nat} {i : Nat} (hi : (sortedF needs)[p]? = some (i : Int)) {row : List Int} (hrow : needs[i]? = some row) {v : Int} (hv : v ∈ row) (hne : ¬ v = i) (hn : hasI ((sortedF needs).take p) v = false) : cyclicF needs i = true := by
  have hlen := (sortedF_nice needs).2
  have hpl := (List.getElem?_eq_some_iff.1 hi).1
  have hil := (List.getElem?_eq_some_iff.1 hrow).1
  have htake : (sortedF needs).take p = sortedFrom needs p [] := by
    have := sortedFrom_take needs (needs.length - p) p
    rw [show p + (needs.length - p) = needs.length by omega] at this
    exact this
  have htake2 : (sortedF needs).take (p + 1) = sortedFrom needs (p + 1) [] := by
    have := sortedFrom_take needs (needs.length - (p + 1)) (p + 1)
    rw [show p + 1 + (needs.length - (p + 1)) = needs.length by omega] at this
    exact this
  have hpick : pick needs (sortedFrom needs p []) = i := by
    have h1 := sortedFrom_succ needs p []
    rw [← htake2, ← htake, List.take_succ_eq_append_getElem hpl] at h1
    have h2 := List.append_cancel_left h1
    rw [(List.getElem?_eq_some_iff.1 hi).2] at h2
    rw [← htake]
    injection h2 with h2
    exact h2.symm
  rw [htake] at hn
  have hnice := sorted_nice needs (p + 1) (by omega)
  have hund : hasI (sortedFrom needs p []) i = false := by
    rw [sortedFrom_succ, hpick] at hnice
    rw [hasI_false]
    intro hm
    have := hnice.1
    rw [List.nodup_append] at this
    exact this.2.2 _ hm _ (by simp) rfl
  have hr : readyB needs (sortedFrom needs p []) i = false := by
    rw [ready_rowOk hrow]
    unfold rowOk
    rw [List.all_eq_false]
    exact ⟨v, hv, by simp [hne, hn]⟩
  obtain ⟨a, ha, h1, h2⟩ := stuck_cycle hok (pick_stuck hpick hr) hil hund
  exact cyclicF_true ha hil h1 h2
end Go.Abs

/- The closed facts of a row, one by one: together they are too great for the kernel's memory at a great seat. -/
set_option linter.unusedVariables false
namespace Go.Abs
open Go
theorem and2 {a b : Bool} (h : a = true) (k : b = true) : (a && b) = true := by rw [h, k]; rfl
theorem joined_of {P : Program} {f : FuncId} {fn : Func} {s : ChangeSpec} {c : OpenClaim}
    (a1 : c.wf (OpenSpec.ofChange s) = true) (a2 : laidOutB P = true) (a3 : mapsRowed P = true) (a4 : fn.params.all (P.readableRec ·) = true) (a5 : namedTie P c.named s.vars = true)
    (a6 : (c.stops == []) = true) (a7 : (P.stops == []) = true) (a8 : (c.knobs == []) = true) (a9 : (P.stopKnobs == []) = true)
    (b1 : (c.inPlace == P.inPlace f) = true) (b2 : (c.unfollowed == P.unfollowed f) = true) (b3 : (c.recurses == P.recurses f) = true) (b4 : (c.named == P.varsNamed f) = true)
    (b5 : (c.maps == (fn.params.toList ++ s.plain.varTypes P).any (P.mapsRec ·)) = true) (b6 : (c.ifaces == (fn.params.toList ++ s.plain.varTypes P).any (P.ifacesRec ·)) = true) (b7 : (c.mapsOut == P.mapsAmong fn.resultTypes.toList) = true)
    (b8 : (c.loops == (fn.params.toList ++ s.plain.varTypes P).any (P.loopsFrom ·)) = true) (b9 : (c.wideKeys == (fn.params.toList ++ s.plain.varTypes P ++ fn.resultTypes.toList).any (P.wideKeysFrom ·)) = true)
    (c1 : s.vars.all (P.varReadable ·) = true) (c2 : fn.resultTypes.all (fun t => P.readableRec t && decide (t < P.types.size)) = true) (c3 : (c.ifacesOut == fn.resultTypes.toList.any (P.ifacesRec ·)) = true) (c4 : (c.loopsOut == fn.resultTypes.toList.any (P.loopsFrom ·)) = true)
    (c5 : (c.plainKeys == P.plainKeys) = true) (c6 : c.shortTexts.isNone = true) (c7 : P.stopsHeard = true) (c8 : P.mayEnter = true) (c9 : (c.lifted == P.liftsFinal) = true) (d1 : (P.make == some c.make) = true)
    (d2 : (c.kinds == (if c.domain.isEmpty then [] else fn.params.toList.map fun t => match P.underlying t with | some (.int k) => some k | _ => none)) = true) (d3 : (c.pinned == c.pinnedBy) = true)
    (d4 : (c.veiled == (fn.params.toList ++ s.plain.varTypes P ++ fn.resultTypes.toList).any (P.veiledRec ·)) = true) (d5 : c.veiledFits P fn.params.toList (fn.params.toList ++ s.plain.varTypes P ++ fn.resultTypes.toList) = true) : joinedFacts P f fn s c = true := by
  exact (and2 (and2 (and2 (and2 (and2 (and2 (and2 (and2 (and2 (and2 (and2 (and2 (and2 (and2 (and2 (and2 (and2 (and2 (and2 (and2 (and2 (and2 (and2 (and2 (and2 (and2 (and2 (and2 (and2 (and2 (and2 a1 a2) a3) a4) a5) a6) a7) a8) a9) b1) b2) b3) b4) b5) b6) b7) b8) b9) c1) c2) c3) c4) c5) c6) c7) c8) c9) d1) d2) d3) d4) d5)
end Go.Abs
