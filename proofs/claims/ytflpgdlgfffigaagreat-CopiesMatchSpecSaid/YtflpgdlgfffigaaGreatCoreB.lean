/- An abstract interpreter of the program's code, and that what it says holds: part CoreB. -/
import Derived.Test.YtflpgdlgfffigaaGreatCoreA
import Derived.ChangeArms
import Derived.ChangeSlices
import Derived.OpenShut
import Derived.ShutString
import Derived.ChangeOld
import Derived.SizedLaws
import Derived.JoinedOf
/- The rules by which the weakest precondition is reckoned; lists in memory; how loops and calls are met. -/
set_option linter.unusedVariables false
set_option linter.unusedSimpArgs false
namespace Go.Abs
open Go Go.RowKit

section
variable {P : Program} {mb : List Nat} {N : Nat} {ops : Array Oper}

/-- A call that is to be met by its contract. -/
def CallA (P : Program) (mb : List Nat) (N : Nat) (ops : Array Oper) (i : Nat) (dst : Option Nat) (os : List Oper) (s : ASt) (tr : List (Nat × Acc)) (K : ASt → List (Nat × Acc) → Prop) (g : Nat) (qs : List PVal) (b : Bool) : Prop :=
  ∃ r, (b = true ∨ r.isDat = true) ∧ RCall P g qs r ∧ AOps P mb N ops (i + 1) os (s.put dst r) (tr ++ [(i, callAcc b)]) K

/-- What is kept as it is: the rules do not look into it. -/
inductive Keep {α : Sort _} (A : α) : Type
  | mk
/-- A choice: reckoned no further until it is known. -/
def GIf (b : Bool) (A B : Prop) (_ : Keep A) (_ : Keep B) : Prop := if b = true then A else B
theorem gif_true {A B : Prop} {x : Keep A} {y : Keep B} : GIf true A B x y = A := by simp [GIf]
theorem gif_false {A B : Prop} {x : Keep A} {y : Keep B} : GIf false A B x y = B := by simp [GIf]
theorem gif {b : Bool} {A B : Prop} {x : Keep A} {y : Keep B} (h1 : b = true → A) (h2 : b = false → B) : GIf b A B x y := by cases b <;> simp_all [GIf]
attribute [simp] gif_true gif_false
/-- A value that may be missing: what follows is reckoned when it is known. -/
def OnSome {α : Type} (o : Option α) (k : α → Prop) (_ : Keep k) : Prop := match o with
  | some a => k a
  | none => False
theorem onSome_some {α : Type} {a : α} {k : α → Prop} {x : Keep k} : OnSome (some a) k x = k a := _root_.id rfl
theorem onSome_none {α : Type} {k : α → Prop} {x : Keep k} : OnSome none k x = False := _root_.id rfl
def OnCase {α : Type} (o : Option α) (k : α → Prop) (X : Prop) (_ : Keep k) (_ : Keep X) : Prop := match o with
  | some a => k a
  | none => X
theorem onCase_some {α : Type} {a : α} {k : α → Prop} {X : Prop} {x : Keep k} {y : Keep X} : OnCase (some a) k X x y = k a := _root_.id rfl
theorem onCase_none {α : Type} {k : α → Prop} {X : Prop} {x : Keep k} {y : Keep X} : OnCase none k X x y = X := _root_.id rfl
def OnBool (p : PVal) (k : Bool → Prop) (_ : Keep k) : Prop := match p with
  | .dat (.bool t) => k t
  | _ => False
theorem onBool_bool {t : Bool} {k : Bool → Prop} {x : Keep k} : OnBool (.dat (.bool t)) k x = k t := _root_.id rfl
attribute [simp] onSome_some onSome_none onCase_some onCase_none onBool_bool

theorem aops_nil {i : Nat} {s : ASt} {tr : List (Nat × Acc)} {K : ASt → List (Nat × Acc) → Prop} : AOps P mb N ops i [] s tr K = K s tr := _root_.id rfl
theorem aops_cons {i : Nat} {o : Oper} {os : List Oper} {s : ASt} {tr : List (Nat × Acc)} {K : ASt → List (Nat × Acc) → Prop} : AOps P mb N ops i (o :: os) s tr K =
    GIf (dstOk N o.dst) (OnSome (wantedA ops s o.guard) (fun b => GIf b
      (OnCase (isCall o.op) (fun fa => OnSome (callOf s fa.1 fa.2) (fun c => CallA P mb N ops i o.dst os s tr K c.1 c.2.1 c.2.2) .mk)
        (OnSome (sem P mb o.dst s o.op) (fun r => OnSome (applyR o.dst s r) (fun s' => AOps P mb N ops (i + 1) os s' (tr ++ [(i, accOf s o.op r)]) K) .mk) .mk) .mk .mk)
      (AOps P mb N ops (i + 1) os (s.put o.dst .undef) (tr ++ [(i, .no)]) K) .mk .mk) .mk) False .mk .mk := by
  simp only [AOps, GIf, OnSome, OnCase]
  cases dstOk N o.dst
  · simp
  · simp only [true_and, if_true]
    cases wantedA ops s o.guard with
    | none => rfl
    | some b =>
      cases b
      · rfl
      · simp only [if_true]
        cases isCall o.op with
        | none =>
          simp only
          cases sem P mb o.dst s o.op with
          | none => rfl
          | some r =>
            simp only
            cases applyR o.dst s r <;> rfl
        | some fa =>
          simp only
          cases callOf s fa.1 fa.2 with
          | none => rfl
          | some c => rfl

/-- What follows a region. -/
def regK (draw : Bool) (ops : Array Oper) (Q : AExit → ASt → Prop) (s : ASt) (tr : List (Nat × Acc)) : Prop := (draw = true → orderOk ops tr = true) ∧ Q .normal s
theorem regK_true {ops : Array Oper} {Q : AExit → ASt → Prop} {s : ASt} {tr : List (Nat × Acc)} : regK true ops Q s tr = (orderOk ops tr = true ∧ Q .normal s) := by simp [regK]
theorem regK_false {ops : Array Oper} {Q : AExit → ASt → Prop} {s : ASt} {tr : List (Nat × Acc)} : regK false ops Q s tr = Q .normal s := by simp [regK]
theorem awp_skip {Q : AExit → ASt → Prop} {s : ASt} : AWp P mb N .skip Q s = Q .normal s := _root_.id rfl
theorem awp_region {id : Nat} {draw : Bool} {Q : AExit → ASt → Prop} {s : ASt} : AWp P mb N (.region id ops draw) Q s = AOps P mb N ops 0 ops.toList (ASt.killL (freshOf mb id) s) [] (regK draw ops Q) := _root_.id rfl
theorem awp_seq {a b : Code} {Q : AExit → ASt → Prop} {s : ASt} : AWp P mb N (.seq a b) Q s = AWp P mb N a (seqK (AWp P mb N b Q) Q) s := _root_.id rfl
theorem awp_cond {c : Operand} {a b : Code} {Q : AExit → ASt → Prop} {s : ASt} : AWp P mb N (.cond c a b) Q s = OnBool (s.eval c) (fun t => GIf t (AWp P mb N a Q s) (AWp P mb N b Q s) .mk .mk) .mk := by
  simp only [AWp, OnBool, GIf]
  generalize s.eval c = p
  cases p with
  | dat d => cases d <;> rfl
  | _ => rfl
theorem awp_block {id : Nat} {c : Code} {Q : AExit → ASt → Prop} {s : ASt} : AWp P mb N (.block id c) Q s = AWp P mb N c (blockK id Q) s := _root_.id rfl
theorem awp_exit {id : Nat} {Q : AExit → ASt → Prop} {s : ASt} : AWp P mb N (.exit id) Q s = Q (.exit id) s := _root_.id rfl
theorem awp_ret {Q : AExit → ASt → Prop} {s : ASt} : AWp P mb N .ret Q s = Q .ret s := _root_.id rfl
theorem seqK_normal {next : ASt → Prop} {Q : AExit → ASt → Prop} {s : ASt} : seqK next Q .normal s = next s := _root_.id rfl
theorem seqK_exit {next : ASt → Prop} {Q : AExit → ASt → Prop} {s : ASt} {i : Nat} : seqK next Q (.exit i) s = Q (.exit i) s := _root_.id rfl
theorem seqK_ret {next : ASt → Prop} {Q : AExit → ASt → Prop} {s : ASt} : seqK next Q .ret s = Q .ret s := _root_.id rfl
theorem blockK_normal {id : Nat} {Q : AExit → ASt → Prop} {s : ASt} : blockK id Q .normal s = Q .normal s := _root_.id rfl
theorem blockK_exit {id i : Nat} {Q : AExit → ASt → Prop} {s : ASt} : blockK id Q (.exit i) s = if i = id then Q .normal s else Q (.exit i) s := _root_.id rfl
theorem blockK_ret {id : Nat} {Q : AExit → ASt → Prop} {s : ASt} : blockK id Q .ret s = Q .ret s := _root_.id rfl
theorem loopK_normal {I : ASt → Prop} {μ : ASt → Nat} {s0 s : ASt} {Q : AExit → ASt → Prop} : loopK I μ s0 Q .normal s = (I s ∧ μ s < μ s0) := _root_.id rfl
theorem loopK_exit {I : ASt → Prop} {μ : ASt → Nat} {s0 s : ASt} {Q : AExit → ASt → Prop} {i : Nat} : loopK I μ s0 Q (.exit i) s = Q (.exit i) s := _root_.id rfl
theorem loopK_ret {I : ASt → Prop} {μ : ASt → Nat} {s0 s : ASt} {Q : AExit → ASt → Prop} : loopK I μ s0 Q .ret s = Q .ret s := _root_.id rfl
theorem awp_loop {c : Code} {Q : AExit → ASt → Prop} {s : ASt} (I : ASt → Prop) (μ : ASt → Nat) (h0 : I s) (h : ∀ s', I s' → AWp P mb N c (loopK I μ s' Q) s') : AWp P mb N (.loop c) Q s := ⟨I, μ, h0, h⟩

theorem callA {i : Nat} {dst : Option Nat} {os : List Oper} {s : ASt} {tr : List (Nat × Acc)} {K : ASt → List (Nat × Acc) → Prop} {g : Nat} {qs : List PVal} {b : Bool} {r : PVal} (h : RCall P g qs r)
    (k : AOps P mb N ops (i + 1) os (s.put dst r) (tr ++ [(i, callAcc b)]) K) (hb : (b || r.isDat) = true) : CallA P mb N ops i dst os s tr K g qs b := ⟨r, by simpa using hb, h, k⟩

end

/-- Values that are handed on as they are. -/
def Closed (ps : List PVal) : Prop := mapO (closeP (fun _ => none) 9) ps = some ps ∧ mapO (closeP (fun _ => none) 8) ps = some ps ∧ mapO (closeP (fun _ => none) 7) ps = some ps

/-- A struct of n cells. -/
def AggN (n : Nat) (d : Dat) : Prop := ∃ cs, d = .agg cs ∧ cs.length = n ∧ ∀ c ∈ cs, c.flat = true
theorem AggN.len {n : Nat} {d : Dat} (h : AggN n d) : d.cells.length = n := by obtain ⟨cs, rfl, h1, _⟩ := h; exact h1
theorem flatsOf_dat : ∀ {cs : List Dat}, (∀ c ∈ cs, c.flat = true) → flatsOf (cs.map PVal.dat) = some cs
  | [], _ => rfl
  | c :: cs, h => by simp [flatsOf, datOf, flatsOf_dat (fun c hc => h c (List.mem_cons_of_mem _ hc)), h c (by simp)]
theorem AggN.mk {n : Nat} {d : Dat} (h : AggN n d) : mkAgg (d.cells.map PVal.dat) = .dat d := by
  obtain ⟨cs, rfl, h1, h2⟩ := h
  simp [mkAgg, Dat.cells, flatsOf_dat h2]
theorem AggN.ld {n : Nat} {d : Dat} (h : AggN n d) : ldAt (some n) (d.cells.map PVal.dat) 0 = some (.dat d) := by
  have hl := h.len
  simp only [ldAt, List.length_map, hl, Nat.zero_add, Nat.le_refl, if_true, List.drop_zero]
  rw [List.take_of_length_le (by simp [hl]), h.mk]
theorem AggN.mkT {n : Nat} {d : Dat} (h : AggN n d) : mkAgg (List.take n (d.cells.map PVal.dat)) = .dat d := by
  rw [List.take_of_length_le (by simp [h.len]), h.mk]
theorem AggN.flats {n : Nat} {d : Dat} (h : AggN n d) : (d.cells.map PVal.dat).all PVal.flat = true := by
  obtain ⟨cs, rfl, h1, h2⟩ := h
  simp only [Dat.cells, List.all_eq_true, List.mem_map]
  rintro p ⟨c, hc, rfl⟩
  exact h2 c hc

theorem isDat_dat (d : Dat) : (PVal.dat d).isDat = true := rfl

/-- The first place at which p holds, or -1. -/
def idx {α : Type} (p : α → Bool) (xs : List α) : Int := match xs.findIdx? p with
  | some i => i
  | none => -1
theorem idx_some {α : Type} {p : α → Bool} {xs : List α} {k : Nat} {x : α} (hx : xs[k]? = some x) (hp : p x = true) (h : ∀ (j : Nat) (y : α), j < k → xs[j]? = some y → p y = false) : idx p xs = k := by
  have : xs.findIdx? p = some k := by
    rw [List.findIdx?_eq_some_iff_getElem]
    obtain ⟨hk, hk2⟩ := (List.getElem?_eq_some_iff.1 hx)
    refine ⟨hk, by rw [hk2]; exact hp, fun j hj => ?_⟩
    have := h j (xs[j]'(by omega)) hj (List.getElem?_eq_getElem (by omega))
    simp [this]
  simp [idx, this]
theorem idx_none {α : Type} {p : α → Bool} {xs : List α} (h : ∀ (j : Nat) (y : α), xs[j]? = some y → p y = false) : idx p xs = -1 := by
  have : xs.findIdx? p = none := by
    rw [List.findIdx?_eq_none_iff]
    intro x hx
    obtain ⟨j, hj, rfl⟩ := List.getElem_of_mem hx
    exact h j _ (List.getElem?_eq_getElem hj)
  simp [idx, this]

theorem natOf_int (k : IntKind) (n : Int) : natOf (.dat (.int k n)) = n.toNat := rfl
theorem wrap_in {n : Int} (h1 : -9223372036854775808 ≤ n) (h2 : n ≤ 9223372036854775807) : IntKind.i64.wrap n = n := by
  unfold IntKind.wrap; simp [IntKind.bits, IntKind.signed]; omega

theorem cellsD_agg (cs : List Dat) : (Dat.agg cs).cells = cs := rfl
theorem cellsD_bool (b : Bool) : (Dat.bool b).cells = [.bool b] := rfl
theorem cellsD_int (k : IntKind) (n : Int) : (Dat.int k n).cells = [.int k n] := rfl
theorem cellsD_str (b : ByteArray) : (Dat.str b).cells = [.str b] := rfl
theorem cellsD_sl (xs : List Dat) : (Dat.sl xs).cells = [.sl xs] := rfl
theorem flatD_agg (cs : List Dat) : (Dat.agg cs).flat = false := rfl
theorem flatD_bool (b : Bool) : (Dat.bool b).flat = true := rfl
theorem flatD_int (k : IntKind) (n : Int) : (Dat.int k n).flat = true := rfl
theorem flatD_str (b : ByteArray) : (Dat.str b).flat = true := rfl
theorem flatD_sl (xs : List Dat) : (Dat.sl xs).flat = true := rfl
theorem cellsP_dat (d : Dat) : (PVal.dat d).cells = d.cells.map .dat := rfl
theorem cellsP_agg (cs : List PVal) : (PVal.agg cs).cells = cs := rfl
theorem cellsP_nil : PVal.nilS.cells = [.nilS] := rfl
theorem cellsP_ow (k e z : Nat) (xs : List Dat) : (PVal.ow k e z xs).cells = [.ow k e z xs] := rfl
theorem cellsP_cptr (cs : List PVal) : (PVal.cptr cs).cells = [.cptr cs] := rfl
theorem cellsP_bptr (t o : Nat) : (PVal.bptr t o).cells = [.bptr t o] := rfl
theorem cellsP_msl (t n : Nat) : (PVal.msl t n).cells = [.msl t n] := rfl
theorem cellsP_fn (f : Nat) (cs : List PVal) : (PVal.fn f cs).cells = [.fn f cs] := rfl
theorem cellsP_yld (l : Nat) : (PVal.yld l).cells = [.yld l] := rfl
theorem cellsP_fsl (cs : List PVal) : (PVal.fsl cs).cells = [.fsl cs] := rfl
theorem flatP_dat (d : Dat) : (PVal.dat d).flat = d.flat := rfl
theorem flatP_nil : PVal.nilS.flat = true := rfl
theorem flatP_ow (k e z : Nat) (xs : List Dat) : (PVal.ow k e z xs).flat = true := rfl
theorem flatP_cptr (cs : List PVal) : (PVal.cptr cs).flat = true := rfl
theorem flatP_bptr (t o : Nat) : (PVal.bptr t o).flat = true := rfl
theorem flatP_msl (t n : Nat) : (PVal.msl t n).flat = true := rfl
theorem flatP_fn (f : Nat) (cs : List PVal) : (PVal.fn f cs).flat = true := rfl
theorem flatP_yld (l : Nat) : (PVal.yld l).flat = true := rfl
theorem flatP_fsl (cs : List PVal) : (PVal.fsl cs).flat = true := rfl

attribute [simp] awp_skip awp_region awp_seq awp_cond awp_block awp_exit awp_ret aops_nil aops_cons seqK_normal seqK_exit seqK_ret blockK_normal blockK_exit blockK_ret loopK_normal loopK_exit loopK_ret retK wantedA isCall callOf sem applyR accOf callAcc ASt.killL freshOf freshIn nameOf ASt.put ASt.kill ASt.eval upd argSt
  cellsD_agg cellsD_bool cellsD_int cellsD_str cellsD_sl flatD_agg flatD_bool flatD_int flatD_str flatD_sl cellsP_dat cellsP_agg cellsP_nil cellsP_ow cellsP_cptr cellsP_bptr cellsP_msl cellsP_fn cellsP_fsl cellsP_yld
  flatP_dat flatP_nil flatP_ow flatP_cptr flatP_bptr flatP_msl flatP_fn flatP_fsl flatP_yld dstOk constP constC semBin semUn strBin semIdx semLen semSlice listOf intOf? datOf datsOf flatsOf mapO closeP closeR PVal.kill kills resultsA resAs resA
  fillA inOrder eqD eqDs SK.ok skAll isDat_dat natOf_int
/-- The bits of both. -/
def andK (k : IntKind) (x y : Int) : Int := k.wrap ((BitVec.ofInt k.bits x &&& BitVec.ofInt k.bits y).toNat : Int)
def orK (k : IntKind) (x y : Int) : Int := k.wrap ((BitVec.ofInt k.bits x ||| BitVec.ofInt k.bits y).toNat : Int)
theorem intBin_and (k : IntKind) (x y : Int) : intBin .and k x y = some (.dat (.int k (andK k x y))) := _root_.id rfl
theorem intBin_or (k : IntKind) (x y : Int) : intBin .or k x y = some (.dat (.int k (orK k x y))) := _root_.id rfl
theorem intBin_add (k : IntKind) (x y : Int) : intBin .add k x y = some (.dat (.int k (k.wrap (x + y)))) := rfl
theorem intBin_sub (k : IntKind) (x y : Int) : intBin .sub k x y = some (.dat (.int k (k.wrap (x - y)))) := rfl
theorem intBin_mul (k : IntKind) (x y : Int) : intBin .mul k x y = some (.dat (.int k (k.wrap (x * y)))) := rfl
theorem intBin_quo (k : IntKind) (x y : Int) : intBin .quo k x y = if y = 0 then none else some (.dat (.int k (k.wrap (x.tdiv y)))) := rfl
theorem intBin_rem (k : IntKind) (x y : Int) : intBin .rem k x y = if y = 0 then none else some (.dat (.int k (x.tmod y))) := rfl
theorem intBin_eql (k : IntKind) (x y : Int) : intBin .eql k x y = some (.dat (.bool (decide (x = y)))) := rfl
theorem intBin_neq (k : IntKind) (x y : Int) : intBin .neq k x y = some (.dat (.bool (!decide (x = y)))) := rfl
theorem intBin_lss (k : IntKind) (x y : Int) : intBin .lss k x y = some (.dat (.bool (x < y))) := rfl
theorem intBin_leq (k : IntKind) (x y : Int) : intBin .leq k x y = some (.dat (.bool (x ≤ y))) := rfl
theorem intBin_gtr (k : IntKind) (x y : Int) : intBin .gtr k x y = some (.dat (.bool (x > y))) := rfl
theorem intBin_geq (k : IntKind) (x y : Int) : intBin .geq k x y = some (.dat (.bool (x ≥ y))) := rfl
attribute [simp] intBin_and intBin_or intBin_add intBin_sub intBin_mul intBin_quo intBin_rem intBin_eql intBin_neq intBin_lss intBin_leq intBin_gtr intBin_geq
theorem ldAt_none (cs : List PVal) (o : Nat) : ldAt none cs o = cs[o]? := rfl
theorem ldAt_some (n : Nat) (cs : List PVal) (o : Nat) : ldAt (some n) cs o = if o + n ≤ cs.length then some (mkAgg ((cs.drop o).take n)) else none := rfl
theorem mkAgg_def (cs : List PVal) : mkAgg cs = match flatsOf cs with | some ds => .dat (.agg ds) | none => .agg cs := rfl
theorem stAt_def (cs : List PVal) (off : Nat) (vs : List PVal) : stAt cs off vs = if off + vs.length ≤ cs.length then some (cs.take off ++ vs ++ cs.drop (off + vs.length)) else none := rfl
attribute [simp 500] ldAt_none ldAt_some mkAgg_def stAt_def
attribute [simp] regK_true regK_false
end Go.Abs

/- From a claim's reading of an argument to a datum and what is told of its memory. -/
set_option linter.unusedVariables false
set_option linter.unusedSimpArgs false
namespace Go.Abs
open Go Go.RowKit

def isStruct (P : Program) (t : Nat) : Bool := match P.underlying t with
  | some (.struct _) => true
  | _ => false

/-- The cells of a value of type t, by the type alone. -/
def FitsN (P : Program) : Nat → Nat → List Dat → Prop
  | 0, _, _ => False
  | n + 1, t, cs => match P.underlying t with
    | some .bool => ∃ b, cs = [.bool b]
    | some (.int k) => ∃ m, cs = [.int k m] ∧ (Lit.int k m).wf = true
    | some .string => ∃ s, cs = [.str s] ∧ s.size ≤ maxLen
    | some (.slice e) => ∃ xs, cs = [.sl xs] ∧ xs.length ≤ maxLen ∧ ∀ x ∈ xs, (if isStruct P e then ∃ as, x = .agg as else x.flat = true) ∧ FitsN P n e x.cells
    | some (.struct fs) => cs.length = P.cellsOf t ∧ ∀ (i : Nat) (f : Field), fs[i]? = some f → FitsN P n f.type ((cs.drop f.offset).take (P.cellsOf f.type))
    | _ => False

/-- The fields of a struct lie one behind the other. -/
def laidFs (P : Program) : Nat → List Field → Option Nat
  | o, [] => some o
  | o, f :: fs => if f.offset = o then laidFs P (o + P.cellsOf f.type) fs else none

/-- The types of which arguments are read here. -/
def okTy (P : Program) : Nat → Nat → Bool
  | 0, _ => false
  | n + 1, t => match P.underlying t with
    | some .bool | some (.int _) | some .string => P.cellsOf t == 1
    | some (.slice e) => P.cellsOf t == 1 && okTy P n e
    | some (.struct fs) => laidFs P 0 fs.toList == some (P.cellsOf t) && fs.toList.all fun f => okTy P n f.type
    | _ => false

theorem exists_list {α : Type} (n : Nat) (Q : Nat → α → Prop) (h : ∀ j, j < n → ∃ x, Q j x) : ∃ xs : List α, xs.length = n ∧ ∀ j x, xs[j]? = some x → Q j x := by
  induction n with
  | zero => exact ⟨[], rfl, by simp⟩
  | succ n ih =>
    obtain ⟨xs, hl, hx⟩ := ih (fun j hj => h j (by omega))
    obtain ⟨y, hy⟩ := h n (by omega)
    refine ⟨xs ++ [y], by simp [hl], fun j x hjx => ?_⟩
    rcases Nat.lt_or_ge j n with hj | hj
    · rw [List.getElem?_append_left (by omega)] at hjx; exact hx j x hjx
    · rw [List.getElem?_append_right (by omega)] at hjx
      have : j = n := by
        have := (List.getElem?_eq_some_iff.1 hjx).1
        simp at this; omega
      subst this
      simp [hl] at hjx; subst hjx; exact hy

/-- Cells, one by one. -/
def RelCs (Φ : Mem) (ds : List Dat) (cs : List Value) : Prop := ds.length = cs.length ∧ (∀ d ∈ ds, d.flat = true) ∧ ∀ (i : Nat) (d : Dat) (v : Value), ds[i]? = some d → cs[i]? = some v → RelD Φ d v

theorem relCs_one {Φ : Mem} {d : Dat} {v : Value} (hf : d.flat = true) (h : RelD Φ d v) : RelCs Φ [d] [v] :=
  ⟨rfl, by simpa using hf, fun i d' v' h1 h2 => by
    cases i with
    | zero => simp at h1 h2; subst h1; subst h2; exact h
    | succ i => simp at h1⟩

section
variable {H : Type} {enc : TypeId × Value → H} {P : Program} {w : World} {spare : Nat → Bool} {held : Bool}

/-- The fields' cells, put together. -/
theorem glue {n : Nat} {cs : List Value} (T : Nat) (hcs : cs.length = T) : ∀ (fs : List Field) (o : Nat), laidFs P o fs = some T →
    (∀ f ∈ fs, ∃ ds, RelCs w.cell? ds ((cs.drop f.offset).take (P.cellsOf f.type)) ∧ FitsN P n f.type ds) →
    o ≤ T ∧ ∃ ds, RelCs w.cell? ds (cs.drop o) ∧ ∀ f ∈ fs, o ≤ f.offset ∧ FitsN P n f.type ((ds.drop (f.offset - o)).take (P.cellsOf f.type))
  | [], o, h, _ => by
    simp only [laidFs, Option.some.injEq] at h
    subst h
    refine ⟨Nat.le_refl _, [], ⟨by simp [hcs], by simp, by simp⟩, by simp⟩
  | f :: fs, o, h, hf => by
    simp only [laidFs] at h
    split at h
    · rename_i ho
      obtain ⟨hle, ds, ⟨h1, h2, h3⟩, h4⟩ := glue T hcs fs _ h (fun g hg => hf g (List.mem_cons_of_mem _ hg))
      obtain ⟨d0, ⟨k1, k2, k3⟩, k4⟩ := hf f (by simp)
      rw [ho] at k1 k3
      have kl : d0.length = P.cellsOf f.type := by rw [k1]; simp [hcs]; omega
      refine ⟨by omega, d0 ++ ds, ⟨?_, ?_, ?_⟩, ?_⟩
      · simp [kl, h1, hcs]; omega
      · intro d hd
        rcases List.mem_append.1 hd with hd | hd
        · exact k2 d hd
        · exact h2 d hd
      · intro i d v hd hv
        rcases Nat.lt_or_ge i (P.cellsOf f.type) with hi | hi
        · rw [List.getElem?_append_left (by omega)] at hd
          refine k3 i d v hd ?_
          rw [List.getElem?_take_of_lt hi]; exact hv
        · rw [List.getElem?_append_right (by omega), kl] at hd
          refine h3 _ d v hd ?_
          rw [List.getElem?_drop] at hv ⊢
          rw [← hv]; congr 1; omega
      · intro g hg
        rcases List.mem_cons.1 hg with rfl | hg
        · refine ⟨by omega, ?_⟩
          rw [ho, Nat.sub_self, List.drop_zero, List.take_append_of_le_length (by omega), List.take_of_length_le (by omega)]
          exact k4
        · obtain ⟨q1, q2⟩ := h4 g hg
          refine ⟨by omega, ?_⟩
          have e : g.offset - o = d0.length + (g.offset - (o + P.cellsOf f.type)) := by omega
          rw [e, List.drop_append, List.drop_eq_nil_of_le (by omega), List.nil_append, show d0.length + (g.offset - (o + P.cellsOf f.type)) - d0.length = g.offset - (o + P.cellsOf f.type) by omega]
          exact q2
    · cases h

theorem trod_fits : ∀ (n fuel t : Nat) (cs : List Value) (x : DataW H × List MemPlace), okTy P n t = true → DataW.trod enc P w 0 spare held fuel t cs = some x → ∃ ds, RelCs w.cell? ds cs ∧ FitsN P n t ds
  | 0, _, _, _, _, h, _ => by simp [okTy] at h
  | n + 1, fuel, t, cs, x, hok, h => by
    unfold okTy at hok
    split at hok
    · rename_i hu
      obtain ⟨b, rfl, _⟩ := DataW.trod_bool hu h
      exact ⟨[.bool b], relCs_one rfl (.bool b), by unfold FitsN; rw [hu]; exact ⟨b, rfl⟩⟩
    · rename_i k hu
      obtain ⟨m, rfl, _, hw⟩ := DataW.trod_int hu h
      exact ⟨[.int k m], relCs_one rfl (.int k m), by unfold FitsN; rw [hu]; exact ⟨m, rfl, hw⟩⟩
    · rename_i hu
      obtain ⟨s, rfl, _, hs⟩ := DataW.trod_string hu h
      exact ⟨[.str s], relCs_one rfl (.str s), by unfold FitsN; rw [hu]; exact ⟨s, rfl, hs⟩⟩
    · rename_i e hu
      simp only [Bool.and_eq_true] at hok
      rcases DataW.trod_slice hu h with ⟨rfl, _⟩ | ⟨a, len, cap, elems, rest, m, _, rfl, _, _, hl, hm, hlen, hel, _, _⟩
      · refine ⟨[.sl []], relCs_one rfl ?_, by unfold FitsN; rw [hu]; exact ⟨[], rfl, by simp, by simp⟩⟩
        exact .sl [] none ⟨0, 0, none⟩ 0 0 (fun _ _ => Go.undef) (Nat.le_refl _) (by simp) (by simp) (by simp) (by simp) (by simp) (by simp)
      · have each : ∀ j, j < len → ∃ x : Dat, x.cells.length = P.cellsOf e ∧ (if isStruct P e then ∃ as, x = .agg as else x.flat = true) ∧ (∀ c ∈ x.cells, c.flat = true) ∧ FitsN P n e x.cells ∧
            ∀ i, i < P.cellsOf e → ∃ v, w.cell? (a.add (j * P.cellsOf e + i)) = some v ∧ ∀ c, x.cells[i]? = some c → RelD w.cell? c v := by
          intro j hj
          have hj2 := hel j hj
          have he : ∃ y, elems[j]? = some y := ⟨_, List.getElem?_eq_getElem (by omega)⟩
          obtain ⟨y, hy⟩ := he
          rw [hy, Option.bind_eq_some_iff] at hj2
          obtain ⟨cs', hc1, hc2⟩ := hj2
          obtain ⟨_, hcl, hcg⟩ := World.cells?_some hc1
          obtain ⟨ds, ⟨d1, d2, d3⟩, d4⟩ := trod_fits n m e cs' y hok.2 hc2
          have fin : ∀ x : Dat, x.cells = ds → (if isStruct P e then ∃ as, x = .agg as else x.flat = true) → ∃ x : Dat, x.cells.length = P.cellsOf e ∧ (if isStruct P e then ∃ as, x = .agg as else x.flat = true) ∧ (∀ c ∈ x.cells, c.flat = true) ∧ FitsN P n e x.cells ∧
            ∀ i, i < P.cellsOf e → ∃ v, w.cell? (a.add (j * P.cellsOf e + i)) = some v ∧ ∀ c, x.cells[i]? = some c → RelD w.cell? c v := by
            rintro x rfl hx
            refine ⟨x, by omega, hx, d2, d4, fun i hi => ?_⟩
            have h1 := hcg i hi
            rw [addr_add_add] at h1
            refine ⟨cs'[i]'(by omega), by rw [h1]; exact List.getElem?_eq_getElem (by omega), fun c hc => d3 i c _ hc (List.getElem?_eq_getElem (by omega))⟩
          by_cases hs : isStruct P e = true
          · exact fin (.agg ds) rfl (by simp [hs])
          · have hs : isStruct P e = false := by simpa using hs
            have h1 : ds.length = 1 := by
              cases n with
              | zero => simp [okTy] at hok
              | succ n =>
                have := hok.2
                unfold okTy at this
                have hc : P.cellsOf e = 1 := by
                  split at this
                  · simpa using this
                  · simpa using this
                  · simpa using this
                  · simp only [Bool.and_eq_true] at this; simpa using this.1
                  · rename_i hu2; simp [isStruct, hu2] at hs
                  · cases this
                omega
            match ds, h1 with
            | [d], _ =>
              have hf : d.flat = true := d2 d (by simp)
              exact fin d (by cases d <;> simp_all [Dat.cells, Dat.flat]) (by simp [hs, hf])
        obtain ⟨xs, hxl, hx⟩ := exists_list len _ each
        have hmem : ∀ d ∈ xs, ∃ j : Nat, xs[j]? = some d := fun d hd => List.getElem?_of_mem hd
        refine ⟨[.sl xs], relCs_one rfl ?_, ?_⟩
        · subst hxl
          refine .sl xs (some a) a cap (P.cellsOf e) (fun j i => (w.cell? (a.add (j * P.cellsOf e + i))).getD Go.undef) hl (by omega) (fun _ => rfl) ?_ ?_ ?_ ?_
          · intro d hd; obtain ⟨j, hj⟩ := hmem d hd; exact (hx j d hj).1
          · intro d hd; obtain ⟨j, hj⟩ := hmem d hd; exact (hx j d hj).2.2.1
          · intro j i hj hi
            obtain ⟨v, hv, _⟩ := (hx j _ (List.getElem?_eq_getElem hj)).2.2.2.2 i hi
            simp [hv]
          · intro j i d c hd hc
            have hi : i < P.cellsOf e := by have := (List.getElem?_eq_some_iff.1 hc).1; rw [(hx j d hd).1] at this; exact this
            obtain ⟨v, hv, hr⟩ := (hx j d hd).2.2.2.2 i hi
            simp only [hv, Option.getD_some]
            exact hr c hc
        · unfold FitsN; rw [hu]
          refine ⟨xs, rfl, by omega, fun x hx' => ?_⟩
          obtain ⟨j, hj⟩ := hmem x hx'
          exact ⟨(hx j x hj).2.1, (hx j x hj).2.2.2.1⟩
    · rename_i fs hu
      simp only [Bool.and_eq_true, beq_iff_eq, List.all_eq_true] at hok
      obtain ⟨xs, m, rfl, _, hl, hxl, hf⟩ := DataW.trod_struct hu h
      obtain ⟨_, ds, hr, hds⟩ := glue (w := w) (n := n) (cs := cs) (P.cellsOf t) hl fs.toList 0 hok.1 (by
        intro f hfm
        obtain ⟨i, hi⟩ := List.getElem?_of_mem hfm
        have hi' : fs[i]? = some f := by simpa using hi
        have hi2 : i < xs.length := by have := (List.getElem?_eq_some_iff.1 hi).1; simp at this; omega
        have := hf i f hi'
        rw [List.getElem?_eq_getElem hi2] at this
        exact trod_fits n m f.type _ _ (hok.2 f hfm) this)
      simp only [List.drop_zero] at hr
      refine ⟨ds, hr, ?_⟩
      unfold FitsN; rw [hu]
      refine ⟨by rw [hr.1, hl], fun i f hif => ?_⟩
      have := (hds f (by rw [List.mem_iff_getElem?]; exact ⟨i, by simpa using hif⟩)).2
      simpa using this
    · cases hok

/-- A slice that is an argument. -/
theorem open_sl {n t e : Nat} {a : Option Addr} {len cap : Nat} {d : DataW H} {ps : List MemPlace} (hu : P.underlying t = some (.slice e)) (hok : okTy P (n + 1) t = true) (h : DataW.Trod enc P w 0 spare held t (.slice a len cap) d ps) :
    ∃ xs : List Dat, xs.length = len ∧ RelD w.cell? (.sl xs) (.slice a len cap) ∧ xs.length ≤ maxLen ∧
      (∀ x ∈ xs, (if isStruct P e then ∃ as, x = .agg as else x.flat = true) ∧ FitsN P n e x.cells) ∧ (d = .nil ∧ len = 0 ∨ ∃ es sp, d = .slice es sp ∧ es.length = len) := by
  obtain ⟨fuel, h⟩ := h
  obtain ⟨ds, hr, hf⟩ := trod_fits (n + 1) fuel t _ _ hok h
  unfold FitsN at hf
  rw [hu] at hf
  obtain ⟨xs, rfl, hm, hx⟩ := hf
  have hr' := hr.2.2 0 (.sl xs) (.slice a len cap) rfl (by simp [Value.cells])
  refine ⟨xs, ?_, hr', hm, hx, ?_⟩
  · cases hr'; rfl
  · rcases DataW.trod_slice hu h with ⟨h1, h2⟩ | ⟨a', len', cap', elems, rest, m, _, h1, h2, _, _, _, hlen, _⟩
    · simp [Value.cells] at h1 h2
      exact .inl ⟨h2.1, h1.2.1⟩
    · simp [Value.cells] at h1
      obtain ⟨_, rfl, _⟩ := h1
      exact .inr ⟨elems.map (·.1), rest.map (·.1), by simpa using congrArg Prod.fst h2, by simpa using hlen⟩
end
end Go.Abs

/- The records of the program as plain Lean structures, and how they are laid as data. -/
set_option linter.unusedVariables false
namespace Go.Abs
open Go

abbrev Str := ByteArray
def dI (n : Int) : Dat := .int .i64 n
/-- A whole number of the machine. -/
def I64 (n : Int) : Prop := -9223372036854775808 ≤ n ∧ n ≤ 9223372036854775807
def Short {α : Type} (l : List α) : Prop := l.length ≤ 9223372036854775807
def ShortS (s : Str) : Prop := s.size ≤ 9223372036854775807

structure Fault where
  code : Int
  index : Int
  deriving DecidableEq
def Fault.enc (f : Fault) : Dat := .agg [.int .i64 f.code, .int .i64 f.index]
def Fault.ok : Fault := ⟨0, 0⟩

structure Segment where
  address : Int
  size : Int
  rights : Int
  data : List Int
def Segment.enc (x : Segment) : Dat := .agg [.int .i64 x.address, .int .i64 x.size, .int .i64 x.rights, .sl (x.data.map (.int .u8))]
def Segment.WF (x : Segment) : Prop := I64 x.address ∧ I64 x.size ∧ I64 x.rights ∧ Short x.data ∧ ∀ b ∈ x.data, 0 ≤ b ∧ b ≤ 255

structure Export where
  name : Str
  version : Str
  deflt : Bool
  weak : Bool
  thread : Bool
  address : Int
  size : Int
def Export.enc (x : Export) : Dat := .agg [.str x.name, .str x.version, .bool x.deflt, .bool x.weak, .bool x.thread, .int .i64 x.address, .int .i64 x.size]
def Export.WF (x : Export) : Prop := ShortS x.name ∧ ShortS x.version ∧ I64 x.address ∧ I64 x.size

structure Import where
  name : Str
  version : Str
  weak : Bool
  slot : Int
  copy : Int
  size : Int
def Import.enc (x : Import) : Dat := .agg [.str x.name, .str x.version, .bool x.weak, .int .i64 x.slot, .int .i64 x.copy, .int .i64 x.size]
def Import.WF (x : Import) : Prop := ShortS x.name ∧ ShortS x.version ∧ I64 x.slot ∧ I64 x.copy ∧ I64 x.size

structure Fixup where
  address : Int
  kind : Int
  imp : Int
  addend : Int
def Fixup.enc (x : Fixup) : Dat := .agg [.int .i64 x.address, .int .i64 x.kind, .int .i64 x.imp, .int .i64 x.addend]
def Fixup.WF (x : Fixup) : Prop := I64 x.address ∧ I64 x.kind ∧ I64 x.imp ∧ I64 x.addend

structure LineRow where
  offset : Int
  file : Int
  line : Int
def LineRow.enc (x : LineRow) : Dat := .agg [.int .i64 x.offset, .int .i64 x.file, .int .i64 x.line]
def LineRow.WF (x : LineRow) : Prop := I64 x.offset ∧ I64 x.file ∧ I64 x.line

structure UnwindRow where
  offset : Int
  register : Int
  add : Int
  saved : Int
def UnwindRow.enc (x : UnwindRow) : Dat := .agg [.int .i64 x.offset, .int .i64 x.register, .int .i64 x.add, .int .i64 x.saved]
def UnwindRow.WF (x : UnwindRow) : Prop := I64 x.offset ∧ I64 x.register ∧ I64 x.add ∧ I64 x.saved

structure FieldR where
  name : Str
  type : Int
  offset : Int
def FieldR.enc (x : FieldR) : Dat := .agg [.str x.name, .int .i64 x.type, .int .i64 x.offset]
def FieldR.WF (x : FieldR) : Prop := ShortS x.name ∧ I64 x.type ∧ I64 x.offset

structure TypeR where
  kind : Int
  name : Str
  size : Int
  elem : Int
  count : Int
  fields : List FieldR
def TypeR.enc (x : TypeR) : Dat := .agg [.int .i64 x.kind, .str x.name, .int .i64 x.size, .int .i64 x.elem, .int .i64 x.count, .sl (x.fields.map FieldR.enc)]
def TypeR.WF (x : TypeR) : Prop := I64 x.kind ∧ ShortS x.name ∧ I64 x.size ∧ I64 x.elem ∧ I64 x.count ∧ Short x.fields ∧ ∀ f ∈ x.fields, f.WF

structure Variable where
  name : Str
  address : Int
  type : Int
def Variable.enc (x : Variable) : Dat := .agg [.str x.name, .int .i64 x.address, .int .i64 x.type]
def Variable.WF (x : Variable) : Prop := ShortS x.name ∧ I64 x.address ∧ I64 x.type

structure PlaceR where
  address : Int
  size : Int
  module : Int
  section_ : Int
  offset : Int
def PlaceR.enc (x : PlaceR) : Dat := .agg [.int .i64 x.address, .int .i64 x.size, .int .i64 x.module, .int .i64 x.section_, .int .i64 x.offset]
def PlaceR.WF (x : PlaceR) : Prop := I64 x.address ∧ I64 x.size ∧ I64 x.module ∧ I64 x.section_ ∧ I64 x.offset

structure Image where
  name : Str
  shared : Bool
  segments : List Segment
  entry : Int
  exports : List Export
  imports : List Import
  fixups : List Fixup
  thread : List Int
  threadSize : Int
  inits : List Int
  finis : List Int
  needs : List Str
  id : Int
  lines : List LineRow
  unwind : List UnwindRow
  files : List Str
  types : List TypeR
  variables : List Variable
  places : List PlaceR
def Image.cells (x : Image) : List Dat := [.str x.name, .bool x.shared, .sl (x.segments.map Segment.enc), .int .i64 x.entry, .sl (x.exports.map Export.enc), .sl (x.imports.map Import.enc), .sl (x.fixups.map Fixup.enc), .sl (x.thread.map (.int .u8)),
  .int .i64 x.threadSize, .sl (x.inits.map (.int .i64)), .sl (x.finis.map (.int .i64)), .sl (x.needs.map .str), .int .i64 x.id, .sl (x.lines.map LineRow.enc), .sl (x.unwind.map UnwindRow.enc), .sl (x.files.map .str), .sl (x.types.map TypeR.enc), .sl (x.variables.map Variable.enc), .sl (x.places.map PlaceR.enc)]
def Image.enc (x : Image) : Dat := .agg x.cells
structure Image.WF (x : Image) : Prop where
  name : ShortS x.name
  segments : Short x.segments ∧ ∀ s ∈ x.segments, s.WF
  entry : I64 x.entry
  exports : Short x.exports ∧ ∀ s ∈ x.exports, s.WF
  imports : Short x.imports ∧ ∀ s ∈ x.imports, s.WF
  fixups : Short x.fixups ∧ ∀ s ∈ x.fixups, s.WF
  thread : Short x.thread ∧ ∀ b ∈ x.thread, 0 ≤ b ∧ b ≤ 255
  threadSize : I64 x.threadSize
  inits : Short x.inits ∧ ∀ n ∈ x.inits, I64 n
  finis : Short x.finis ∧ ∀ n ∈ x.finis, I64 n
  needs : Short x.needs ∧ ∀ n ∈ x.needs, ShortS n
  id : I64 x.id
  lines : Short x.lines ∧ ∀ s ∈ x.lines, s.WF
  unwind : Short x.unwind ∧ ∀ s ∈ x.unwind, s.WF
  files : Short x.files ∧ ∀ n ∈ x.files, ShortS n
  types : Short x.types ∧ ∀ s ∈ x.types, s.WF
  variables : Short x.variables ∧ ∀ s ∈ x.variables, s.WF
  places : Short x.places ∧ ∀ s ∈ x.places, s.WF

structure Loaded where
  image : Image
  bias : Int
  thread : Int
  uses : Int
def Loaded.enc (x : Loaded) : Dat := .agg (x.image.cells ++ [.int .i64 x.bias, .int .i64 x.thread, .int .i64 x.uses])
def Loaded.WF (x : Loaded) : Prop := x.image.WF ∧ I64 x.bias ∧ I64 x.thread ∧ I64 x.uses

structure CopyOf where
  to : Int
  from_ : Int
  size : Int
  deriving DecidableEq
def CopyOf.enc (x : CopyOf) : Dat := .agg [.int .i64 x.to, .int .i64 x.from_, .int .i64 x.size]
structure Bound where
  address : Int
  value : Int
  deriving DecidableEq
def Bound.enc (x : Bound) : Dat := .agg [.int .i64 x.address, .int .u32 x.value]

theorem Segment.ag (x : Segment) : AggN 4 x.enc := ⟨_, rfl, rfl, by simp [Dat.flat]⟩
theorem Export.ag (x : Export) : AggN 7 x.enc := ⟨_, rfl, rfl, by simp [Dat.flat]⟩
theorem Import.ag (x : Import) : AggN 6 x.enc := ⟨_, rfl, rfl, by simp [Dat.flat]⟩
theorem Fixup.ag (x : Fixup) : AggN 4 x.enc := ⟨_, rfl, rfl, by simp [Dat.flat]⟩
theorem LineRow.ag (x : LineRow) : AggN 3 x.enc := ⟨_, rfl, rfl, by simp [Dat.flat]⟩
theorem UnwindRow.ag (x : UnwindRow) : AggN 4 x.enc := ⟨_, rfl, rfl, by simp [Dat.flat]⟩
theorem FieldR.ag (x : FieldR) : AggN 3 x.enc := ⟨_, rfl, rfl, by simp [Dat.flat]⟩
theorem TypeR.ag (x : TypeR) : AggN 6 x.enc := ⟨_, rfl, rfl, by simp [Dat.flat]⟩
theorem Variable.ag (x : Variable) : AggN 3 x.enc := ⟨_, rfl, rfl, by simp [Dat.flat]⟩
theorem PlaceR.ag (x : PlaceR) : AggN 5 x.enc := ⟨_, rfl, rfl, by simp [Dat.flat]⟩
theorem Image.ag (x : Image) : AggN 19 x.enc := ⟨_, rfl, rfl, by simp [Image.cells, Dat.flat]⟩
theorem Loaded.ag (x : Loaded) : AggN 22 x.enc := ⟨_, rfl, rfl, by simp [Image.cells, Dat.flat]⟩
theorem CopyOf.ag (x : CopyOf) : AggN 3 x.enc := ⟨_, rfl, rfl, by simp [Dat.flat]⟩
theorem Bound.ag (x : Bound) : AggN 2 x.enc := ⟨_, rfl, rfl, by simp [Dat.flat]⟩
theorem Fault.ag (x : Fault) : AggN 2 x.enc := ⟨_, rfl, rfl, by simp [Dat.flat]⟩

theorem exists_map {α β : Type} (f : α → β) (Q : α → Prop) : ∀ (xs : List β), (∀ x ∈ xs, ∃ a, x = f a ∧ Q a) → ∃ as : List α, xs = as.map f ∧ ∀ a ∈ as, Q a
  | [], _ => ⟨[], rfl, by simp⟩
  | x :: xs, h => by
    obtain ⟨a, rfl, ha⟩ := h x (by simp)
    obtain ⟨zs, rfl, has⟩ := exists_map f Q xs (fun y hy => h y (List.mem_cons_of_mem _ hy))
    exact ⟨a :: zs, rfl, by simpa using ⟨ha, has⟩⟩

theorem fits_bool {P : Program} {n t : Nat} {cs : List Dat} (hu : P.underlying t = some .bool) (h : FitsN P n t cs) : ∃ b, cs = [.bool b] := by
  cases n with
  | zero => exact h.elim
  | succ n => unfold FitsN at h; rw [hu] at h; exact h
theorem fits_i64 {P : Program} {n t : Nat} {cs : List Dat} (hu : P.underlying t = some (.int .i64)) (h : FitsN P n t cs) : ∃ m, cs = [.int .i64 m] ∧ I64 m := by
  cases n with
  | zero => exact h.elim
  | succ n =>
    unfold FitsN at h; rw [hu] at h
    obtain ⟨m, h1, h2⟩ := h
    refine ⟨m, h1, ?_⟩
    simpa [Lit.wf, IntKind.min, IntKind.max, IntKind.signed, IntKind.bits, I64] using h2
theorem fits_u8 {P : Program} {n t : Nat} {cs : List Dat} (hu : P.underlying t = some (.int .u8)) (h : FitsN P n t cs) : ∃ m, cs = [.int .u8 m] ∧ 0 ≤ m ∧ m ≤ 255 := by
  cases n with
  | zero => exact h.elim
  | succ n =>
    unfold FitsN at h; rw [hu] at h
    obtain ⟨m, h1, h2⟩ := h
    refine ⟨m, h1, ?_⟩
    simpa [Lit.wf, IntKind.min, IntKind.max, IntKind.signed, IntKind.bits, I64] using h2
theorem fits_str {P : Program} {n t : Nat} {cs : List Dat} (hu : P.underlying t = some .string) (h : FitsN P n t cs) : ∃ s, cs = [.str s] ∧ ShortS s := by
  cases n with
  | zero => exact h.elim
  | succ n =>
    unfold FitsN at h; rw [hu] at h
    obtain ⟨s, h1, h2⟩ := h
    exact ⟨s, h1, by unfold ShortS; unfold maxLen at h2; omega⟩
/-- A list of records. -/
theorem fits_sl {P : Program} {n t e : Nat} {cs : List Dat} {α : Type} (f : α → Dat) (Q : α → Prop) (hu : P.underlying t = some (.slice e)) (hs : isStruct P e = true) (hq : ∀ as, FitsN P (n - 1) e as → ∃ a, Dat.agg as = f a ∧ Q a) (h : FitsN P n t cs) :
    ∃ as : List α, cs = [.sl (as.map f)] ∧ Short as ∧ ∀ a ∈ as, Q a := by
  cases n with
  | zero => exact h.elim
  | succ n =>
    unfold FitsN at h; rw [hu] at h
    obtain ⟨xs, rfl, h1, h2⟩ := h
    obtain ⟨zs, rfl, h3⟩ := exists_map f Q xs (by
      intro x hx
      obtain ⟨k1, k2⟩ := h2 x hx
      rw [if_pos hs] at k1
      obtain ⟨zs, rfl⟩ := k1
      exact hq zs k2)
    exact ⟨zs, rfl, by unfold Short; unfold maxLen at h1; simp at h1; omega, h3⟩
/-- A list of scalars. -/
theorem fits_sc {P : Program} {n t e : Nat} {cs : List Dat} {α : Type} (f : α → Dat) (Q : α → Prop) (hu : P.underlying t = some (.slice e)) (hs : isStruct P e = false) (hq : ∀ as, FitsN P (n - 1) e as → ∃ a, as = [f a] ∧ Q a) (h : FitsN P n t cs) :
    ∃ as : List α, cs = [.sl (as.map f)] ∧ Short as ∧ ∀ a ∈ as, Q a := by
  cases n with
  | zero => exact h.elim
  | succ n =>
    unfold FitsN at h; rw [hu] at h
    obtain ⟨xs, rfl, h1, h2⟩ := h
    obtain ⟨zs, rfl, h3⟩ := exists_map f Q xs (by
      intro x hx
      obtain ⟨k1, k2⟩ := h2 x hx
      rw [if_neg (by simp [hs])] at k1
      obtain ⟨a, ha, hQ⟩ := hq x.cells k2
      refine ⟨a, ?_, hQ⟩
      cases x <;> simp_all [Dat.flat, Dat.cells])
    exact ⟨zs, rfl, by unfold Short; unfold maxLen at h1; simp at h1; omega, h3⟩
theorem fits_struct {P : Program} {n t N : Nat} {fs : Array Field} {cs : List Dat} (hu : P.underlying t = some (.struct fs)) (hN : P.cellsOf t = N) (h : FitsN P n t cs) :
    cs.length = N ∧ ∀ f ∈ fs.toList, FitsN P (n - 1) f.type ((cs.drop f.offset).take (P.cellsOf f.type)) := by
  cases n with
  | zero => exact h.elim
  | succ n =>
    unfold FitsN at h; rw [hu] at h
    refine ⟨by rw [h.1, hN], fun f hf => ?_⟩
    obtain ⟨i, hi⟩ := List.getElem?_of_mem hf
    exact h.2 i f (by simpa using hi)
end Go.Abs

/- Cuts: a piece of code by what it leaves; and small helps for the reckoning. -/
set_option linter.unusedVariables false
set_option linter.unusedSimpArgs false
namespace Go.Abs
open Go Go.RowKit

section
variable {P : Program} {mb : List Nat} {N : Nat} {ops : Array Oper}

theorem AOps.mono {K K' : ASt → List (Nat × Acc) → Prop} (h : ∀ s tr, K s tr → K' s tr) : ∀ (os : List Oper) (i : Nat) (s : ASt) (tr : List (Nat × Acc)), AOps P mb N ops i os s tr K → AOps P mb N ops i os s tr K'
  | [], i, s, tr, k => h _ _ k
  | o :: os, i, s, tr, k => by
    simp only [AOps] at k ⊢
    refine ⟨k.1, ?_⟩
    have k := k.2
    split at k
    · rename_i b hb
      split at k
      · rename_i hbt
        simp only [hbt, if_true]
        split at k
        · rename_i f args hc
          split at k
          · rename_i g qs b' hcall
            obtain ⟨r, h1, h2, h3⟩ := k
            exact ⟨r, h1, h2, AOps.mono h os _ _ _ h3⟩
          · exact k.elim
        · rename_i hc
          split at k
          · rename_i r hs
            split at k
            · rename_i s' ha
              exact AOps.mono h os _ _ _ k
            · exact k.elim
          · exact k.elim
      · rename_i hbt
        simp only [hbt, if_false]
        simp only [Bool.not_eq_true] at hbt
        simp only [hbt, Bool.false_eq_true, if_false]
        exact AOps.mono h os _ _ _ k
    · exact k.elim

theorem AWp.mono : ∀ (c : Code) {Q Q' : AExit → ASt → Prop} (h : ∀ e s, Q e s → Q' e s) (s : ASt), AWp P mb N c Q s → AWp P mb N c Q' s
  | .skip, _, _, h, s, k => h _ _ k
  | .exit _, _, _, h, s, k => h _ _ k
  | .ret, _, _, h, s, k => h _ _ k
  | .region _ ops draw, _, _, h, s, k => AOps.mono (fun s tr k => ⟨k.1, h _ _ k.2⟩) _ _ _ _ k
  | .seq a b, _, _, h, s, k => AWp.mono a (fun e s k => by
      cases e with
      | normal => exact AWp.mono b h s k
      | exit _ => exact h _ _ k
      | ret => exact h _ _ k) s k
  | .cond c a b, _, _, h, s, k => by
    simp only [AWp] at k ⊢
    split at k
    · rename_i t ht
      split at k
      · rename_i hb; simp only [hb, if_true]; exact AWp.mono a h s k
      · rename_i hb; rw [if_neg hb]; exact AWp.mono b h s k
    · exact k.elim
  | .block id c, _, _, h, s, k => AWp.mono c (fun e s k => by
      cases e with
      | normal => exact h _ _ k
      | exit i =>
        simp only [blockK] at k ⊢
        split at k
        · rename_i hi; rw [if_pos hi]; exact h _ _ k
        · rename_i hi; rw [if_neg hi]; exact h _ _ k
      | ret => exact h _ _ k) s k
  | .loop c, _, _, h, s, k => by
    obtain ⟨I, μ, h0, hr⟩ := k
    exact ⟨I, μ, h0, fun s' hs' => AWp.mono c (fun e s k => by
      cases e with
      | normal => exact k
      | exit _ => exact h _ _ k
      | ret => exact h _ _ k) s' (hr s' hs')⟩
  | .rangeFunc _ _ _ _, _, _, h, s, k => k.elim
  | .scope _, _, _, h, s, k => k.elim
  | .label _, _, _, h, s, k => k.elim
  | .goto _, _, _, h, s, k => k.elim
  | .refuse _, _, _, h, s, k => k.elim

/-- What a piece leaves: that alone is known behind it. -/
def leaves (J : ASt → Prop) : AExit → ASt → Prop
  | .normal, s => J s
  | _, _ => False
theorem awp_cut {a b : Code} {Q : AExit → ASt → Prop} {s : ASt} (J : ASt → Prop) (h : AWp P mb N a (leaves J) s) (k : ∀ s', J s' → AWp P mb N b Q s') : AWp P mb N (.seq a b) Q s :=
  AWp.mono a (fun e s h => by
    cases e with
    | normal => exact k s h
    | exit _ => exact h.elim
    | ret => exact h.elim) s h
/-- The same with pieces that may also leave the code otherwise. -/
theorem awp_cutQ {a b : Code} {Q : AExit → ASt → Prop} {s : ASt} (J : ASt → Prop) (h : AWp P mb N a (seqK J Q) s) (k : ∀ s', J s' → AWp P mb N b Q s') : AWp P mb N (.seq a b) Q s :=
  AWp.mono a (fun e s h => by
    cases e with
    | normal => exact k s h
    | exit _ => exact h
    | ret => exact h) s h
end
end Go.Abs

/- What the program's functions compute, in plain Lean. -/
set_option linter.unusedVariables false
namespace Go.Abs
open Go

def isDigitB (c : Int) : Bool := decide (48 ≤ c) && decide (c ≤ 57)
def isNameByteB (c : Int) : Bool := (decide (97 ≤ c) && decide (c ≤ 122)) || (decide (65 ≤ c) && decide (c ≤ 90)) || isDigitB c || decide (c = 46) || decide (c = 95) || decide (c = 36)
/-- Letter i of a name is fine. -/
def nameAt (s : Str) (i : Nat) : Bool := match s[i]? with
  | some b => isNameByteB b.toNat && !(decide (i = 0) && isDigitB b.toNat)
  | none => true
def isName (s : Str) : Bool := decide ((1 : Int) ≤ s.size) && decide ((s.size : Int) ≤ 16) && (List.range s.size).all (nameAt s)
theorem isName_false {s : Str} {i : Nat} (hi : i < s.size) (h : nameAt s i = false) : isName s = false := by
  unfold isName
  rw [Bool.and_eq_false_iff]; right
  rw [List.all_eq_false]
  exact ⟨i, by simpa using hi, by simp [h]⟩
theorem isName_true {s : Str} (h : ∀ i, i < s.size → nameAt s i = true) : isName s = (decide ((1 : Int) ≤ s.size) && decide ((s.size : Int) ≤ 16)) := by
  have : (List.range s.size).all (nameAt s) = true := by
    rw [List.all_eq_true]; intro i hi; exact h i (by simpa using hi)
  unfold isName; rw [this, Bool.and_true]
end Go.Abs
namespace Go.Abs
open Go
def cmpI (a b : Int) : Int := if a < b then -1 else if b < a then 1 else 0
def lessS (a b : Str) : Bool := Op.bytesLess a.toList b.toList
def cmpS (a b : Str) : Int := if lessS a b then -1 else if a = b then 0 else 1
def orI : List Int → Int
  | [] => 0
  | x :: xs => if x = 0 then orI xs else x
theorem idx_nonneg {α : Type} (p : α → Bool) (xs : List α) : decide (0 ≤ idx p xs) = xs.any p := by
  unfold idx
  cases h : xs.findIdx? p with
  | none =>
    rw [List.findIdx?_eq_none_iff] at h
    have : xs.any p = false := by rw [List.any_eq_false]; intro x hx; simp [h x hx]
    simp [this]
  | some i =>
    rw [List.findIdx?_eq_some_iff_getElem] at h
    obtain ⟨hi, h1, _⟩ := h
    have : xs.any p = true := by rw [List.any_eq_true]; exact ⟨_, List.getElem_mem hi, h1⟩
    simp [this]
theorem idx_lt {α : Type} (p : α → Bool) (xs : List α) : -1 ≤ idx p xs ∧ idx p xs < xs.length := by
  unfold idx
  cases h : xs.findIdx? p with
  | none => simp; omega
  | some i =>
    rw [List.findIdx?_eq_some_iff_getElem] at h
    obtain ⟨hi, h1, _⟩ := h
    simp; omega
end Go.Abs
namespace Go.Abs
open Go
/-- The machine's own number. -/
def W (n : Int) : Int := IntKind.i64.wrap n
def andI (x y : Int) : Int := andK .i64 x y
def inSeg (address size rights : Int) (s : Segment) : Bool := decide (andI s.rights rights = rights) && decide (s.address ≤ address) && decide (size ≤ s.size) && decide (address ≤ W (W (s.address + s.size) - size))
def within (i : Image) (address size rights : Int) : Bool := i.segments.any (inSeg address size rights)
def whenI (bad : Bool) (code : Int) : Int := if bad then code else 0
/-- The first fault of the elements of a list, from place k on. -/
def eachFrom (list : Int) : Nat → List Int → Fault
  | _, [] => Fault.ok
  | k, c :: cs => if c ≠ 0 then ⟨c, 1000 * list + k⟩ else eachFrom list (k + 1) cs
def each (most list : Int) (codes : List Int) : Fault := if (codes.length : Int) > most then ⟨2, -list⟩ else eachFrom list 0 codes
end Go.Abs
namespace Go.Abs
open Go
def segCode (e : Int) (s : Segment) : Int :=
  if s.address < 0 ∨ s.size < 1 ∨ s.size > 1048576 ∨ s.address > 1048576 - s.size ∨ s.rights < 1 ∨ s.rights > 7 then 3
  else if ¬ s.address.tmod 256 = 0 then 5 else if (s.data.length : Int) > s.size then 9 else if s.address < e then 13 else 0
def up256 (n : Int) : Int := (n + 256 - 1) / 256 * 256
def segsFrom : Int → Nat → List Segment → Fault
  | _, _, [] => Fault.ok
  | e, k, s :: ss => if segCode e s = 0 then segsFrom (up256 (s.address + s.size)) (k + 1) ss else ⟨segCode e s, 100 + k⟩
def segments (l : List Segment) : Fault := if (l.length : Int) > 40 then ⟨2, -10⟩ else segsFrom 0 0 l
end Go.Abs

/- A rule for loops that count. -/
set_option linter.unusedVariables false
set_option linter.unusedSimpArgs false
namespace Go.Abs
open Go Go.RowKit

section
variable {P : Program} {mb : List Nat} {N : Nat} {ops : Array Oper}
def loopN (I : Nat → ASt → Prop) (k n : Nat) (Q : AExit → ASt → Prop) : AExit → ASt → Prop
  | .normal, s => k < n ∧ I (k + 1) s
  | e, s => Q e s
theorem loopN_normal {I : Nat → ASt → Prop} {k n : Nat} {s : ASt} {Q : AExit → ASt → Prop} : loopN I k n Q .normal s = (k < n ∧ I (k + 1) s) := _root_.id rfl
theorem loopN_exit {I : Nat → ASt → Prop} {k n : Nat} {s : ASt} {Q : AExit → ASt → Prop} {i : Nat} : loopN I k n Q (.exit i) s = Q (.exit i) s := _root_.id rfl
theorem loopN_ret {I : Nat → ASt → Prop} {k n : Nat} {s : ASt} {Q : AExit → ASt → Prop} : loopN I k n Q .ret s = Q .ret s := _root_.id rfl
attribute [simp] loopN_normal loopN_exit loopN_ret

open Classical in
/-- A loop that counts its rounds: I k holds at the head of round k, and there are at most n rounds. -/
theorem awp_loopN {c : Code} {Q : AExit → ASt → Prop} {s : ASt} (n : Nat) (I : Nat → ASt → Prop) (h0 : I 0 s) (h : ∀ k s', k ≤ n → I k s' → AWp P mb N c (loopN I k n Q) s') : AWp P mb N (.loop c) Q s := by
  let μ : ASt → Nat := fun s => (List.range (n + 1)).findIdx (fun m => decide (I (n - m) s))
  have hμ : ∀ k s', k ≤ n → I k s' → μ s' ≤ n - k := by
    intro k s' hk hI
    have hle : ¬ (n - k < μ s') := by
      intro hlt
      have := List.not_of_lt_findIdx (p := fun m => decide (I (n - m) s')) (xs := List.range (n + 1)) hlt
      simp [show n - (n - k) = k by omega, hI] at this
    omega
  have hex : ∀ s', (∃ k, k ≤ n ∧ I k s') → ∃ k, k ≤ n ∧ I k s' ∧ μ s' = n - k := by
    rintro s' ⟨k, hk, hI⟩
    have hle := hμ k s' hk hI
    have hlt : μ s' < (List.range (n + 1)).length := by simp; omega
    have := List.findIdx_getElem (p := fun m => decide (I (n - m) s')) (w := hlt)
    simp at this
    refine ⟨n - μ s', by omega, this, by omega⟩
  refine awp_loop (fun s' => ∃ k, k ≤ n ∧ I k s') μ ⟨0, by omega, h0⟩ ?_
  intro s' hs'
  obtain ⟨k, hk, hI, hm⟩ := hex s' hs'
  refine AWp.mono c ?_ _ (h k s' hk hI)
  intro e s2 h2
  cases e with
  | normal =>
    obtain ⟨h3, h4⟩ := h2
    have := hμ (k + 1) s2 (by omega) h4
    exact ⟨⟨k + 1, by omega, h4⟩, by omega⟩
  | exit i => exact h2
  | ret => exact h2
end

/-- What is closed is killed by nothing. -/
theorem close_kill (d : Nat) : ∀ (n : Nat) (p : PVal), closeP (fun _ => none) n p = some p → p.kill d = p := by
  intro n
  induction n with
  | zero => intro p h; simp [closeP] at h
  | succ n ih =>
    have lst : ∀ cs : List PVal, mapO (closeP (fun _ => none) n) cs = some cs → kills d cs = cs := by
      intro cs
      induction cs with
      | nil => intro _; rfl
      | cons c cs ih2 =>
        intro h
        simp only [mapO] at h
        split at h
        · rename_i q qs h1 h2
          injection h with h
          injection h with h3 h4
          subst h3; subst h4
          simp only [kills, ih _ h1, ih2 h2]
        · cases h
    intro p h
    cases p <;> simp only [closeP] at h
    case top => rfl
    case undef => rfl
    case dat x => rfl
    case yld l => rfl
    case nilS => rfl
    case ow => injection h with h; cases h
    case cptr cs =>
      obtain ⟨qs, h1, h2⟩ := Option.map_eq_some_iff.1 h
      injection h2 with h2; subst h2
      simp [PVal.kill, lst _ h1]
    case bptr => cases h
    case msl => cases h
    case fn f cs =>
      obtain ⟨qs, h1, h2⟩ := Option.map_eq_some_iff.1 h
      injection h2 with h2 h3; subst h3
      simp [PVal.kill, lst _ h1]
    case agg cs =>
      obtain ⟨qs, h1, h2⟩ := Option.map_eq_some_iff.1 h
      unfold mkAgg at h2
      split at h2
      · cases h2
      · injection h2 with h2; subst h2
        simp [PVal.kill, lst _ h1]
    case tup cs =>
      obtain ⟨qs, h1, h2⟩ := Option.map_eq_some_iff.1 h
      injection h2 with h2; subst h2
      simp [PVal.kill, lst _ h1]
    case fsl cs =>
      obtain ⟨qs, h1, h2⟩ := Option.map_eq_some_iff.1 h
      injection h2 with h2; subst h2
      simp [PVal.kill, lst _ h1]
theorem kills_closed {cs : List PVal} (h : Closed cs) (d : Nat) : kills d cs = cs := by
  obtain ⟨h, -⟩ := h
  induction cs with
  | nil => rfl
  | cons c cs ih =>
    simp only [mapO] at h
    split at h
    · rename_i q qs h1 h2
      injection h with h
      injection h with h3 h4
      subst h3; subst h4
      simp only [kills, close_kill d _ _ h1, ih h2]
    · cases h
end Go.Abs

/- What the checks of images compute, in plain Lean. -/
set_option linter.unusedVariables false
namespace Go.Abs
open Go

def firstF : List Fault → Fault
  | [] => Fault.ok
  | f :: fs => if f = Fault.ok then firstF fs else f
def firstC : List Int → Int
  | [] => 0
  | c :: cs => if c = 0 then firstC cs else c
def prev {α : Type} (l : List α) (k : Nat) : Option α := if k = 0 then none else l[k - 1]?
theorem prev_zero {α : Type} (l : List α) : prev l 0 = none := rfl
theorem prev_succ {α : Type} (l : List α) (k : Nat) : prev l (k + 1) = l[k]? := rfl

def emptyS : Str := ⟨#[]⟩
def versionOk (s : Str) : Bool := decide (s = ⟨#[]⟩) || isName s
def cmpExports (a b : Export) : Int := orI [cmpS a.name b.name, cmpS a.version b.version]
def cmpVariables (a b : Variable) : Int := orI [cmpI a.address b.address, cmpS a.name b.name, cmpI a.type b.type]
def exportOne (i : Image) (p : Option Export) (e : Export) : Int :=
  if isName e.name = false ∨ versionOk e.version = false then 12
  else if e.deflt = true ∧ e.version = ⟨#[]⟩ then 5
  else if e.size < 0 ∨ 1000000 < e.size then 3
  else if e.thread = true ∧ (e.address < 0 ∨ i.threadSize < e.address) then 3
  else if e.thread = false ∧ within i e.address 0 0 = false then 3
  else match p with
    | some b => if 0 ≤ cmpExports b e then 5 else 0
    | none => 0
def exportCode (i : Image) (k : Nat) : Int := match i.exports[k]? with
  | some e => exportOne i (prev i.exports k) e
  | none => 0
def importOne (i : Image) (m : Import) : Int :=
  if isName m.name = false ∨ versionOk m.version = false then 12
  else if m.size < 0 ∨ 1000000 < m.size ∨ m.slot < -1 ∨ m.copy < -1 then 3
  else if 0 ≤ m.slot ∧ (¬ m.slot.tmod 4 = 0 ∨ within i m.slot 4 2 = false) then 5
  else if m.copy < 0 ∧ 0 < m.size ∨ 0 ≤ m.copy ∧ within i m.copy m.size 2 = false then 5
  else 0
def importCode (i : Image) (k : Nat) : Int := match i.imports[k]? with
  | some m => importOne i m
  | none => 0
def fixupOne (i : Image) (p : Option Fixup) (f : Fixup) : Int :=
  if f.kind < 1 ∨ 4 < f.kind then 4
  else if f.addend < -1048576 ∨ 1048576 < f.addend ∨ f.imp < -1 ∨ (i.imports.length : Int) ≤ f.imp then 3
  else if ¬ ((f.kind = 2 ∨ f.kind = 3) ↔ 0 ≤ f.imp) ∨ ¬ (f.kind = 2 ∨ f.kind = 3) ∧ ¬ f.addend = 0 ∨ within i f.address 4 0 = false then 5
  else match p with
    | some b => if f.address < W (b.address + 4) then 5 else 0
    | none => 0
def fixupCode (i : Image) (k : Nat) : Int := match i.fixups[k]? with
  | some f => fixupOne i (prev i.fixups k) f
  | none => 0
def lineOne (i : Image) (p : Option LineRow) (r : LineRow) : Int :=
  if r.line < 0 ∨ 1000000 < r.line ∨ r.offset < 0 ∨ 1048576 < r.offset then 3
  else if r.line = 0 ∧ ¬ r.file = 0 ∨ 0 < r.line ∧ (r.file < 0 ∨ (i.files.length : Int) ≤ r.file) then 3
  else match p with
    | some b => if r.offset ≤ b.offset then 5 else 0
    | none => 0
def lineCode (i : Image) (k : Nat) : Int := match i.lines[k]? with
  | some r => lineOne i (prev i.lines k) r
  | none => 0
def unwindOne (i : Image) (p : Option UnwindRow) (r : UnwindRow) : Int :=
  if r.register < -1 ∨ 7 < r.register ∨ r.offset < 0 ∨ 1048576 < r.offset then 3
  else if r.add < -1048576 ∨ 1048576 < r.add ∨ r.saved < -1048576 ∨ 0 < r.saved then 3
  else match p with
    | some b => if r.offset ≤ b.offset then 5 else 0
    | none => 0
def unwindCode (i : Image) (k : Nat) : Int := match i.unwind[k]? with
  | some r => unwindOne i (prev i.unwind k) r
  | none => 0
def variableOne (i : Image) (p : Option Variable) (v : Variable) : Int :=
  if isName v.name = false then 12
  else if v.type < 0 ∨ (i.types.length : Int) ≤ v.type ∨ within i v.address 0 0 = false then 3
  else match p with
    | some b => if 0 ≤ cmpVariables b v then 5 else 0
    | none => 0
def variableCode (i : Image) (k : Nat) : Int := match i.variables[k]? with
  | some v => variableOne i (prev i.variables k) v
  | none => 0
def placeOne (i : Image) (p : Option PlaceR) (v : PlaceR) : Int :=
  if v.module < 0 ∨ v.section_ < 0 ∨ v.offset < 0 ∨ 1000000 < v.module ∨ 1000000 < v.section_ ∨ 1000000 < v.offset then 3
  else if v.size < 1 ∨ within i v.address v.size 0 = false then 3
  else match p with
    | some b => if v.address < W (b.address + b.size) then 5 else 0
    | none => 0
def placeCode (i : Image) (k : Nat) : Int := match i.places[k]? with
  | some v => placeOne i (prev i.places k) v
  | none => 0
def headF (i : Image) : Fault :=
  if isName i.name = false then ⟨12, -1⟩
  else if ¬ segments i.segments = Fault.ok then segments i.segments
  else if i.entry < -1 ∨ 0 ≤ i.entry ∧ within i i.entry 0 4 = false then ⟨3, -2⟩
  else if i.threadSize < 0 ∨ 8000 < i.threadSize then ⟨3, -3⟩
  else if i.threadSize < (i.thread.length : Int) then ⟨9, -3⟩
  else if i.id < 0 ∨ 4294967295 < i.id then ⟨3, -4⟩
  else Fault.ok

/-! ### types -/
def sizeAt (l : List TypeR) (n : Int) : Int := match l[n.toNat]? with
  | some t => t.size
  | none => 0
def fieldEnd (l : List TypeR) : Option FieldR → Int
  | none => 0
  | some b => W (b.offset + sizeAt l b.type)
def fieldOne (l : List TypeR) (i : Nat) (t : TypeR) (k : Nat) (x : FieldR) : Int :=
  if isName x.name = false then 12
  else if (t.fields.take k).any (fun y => decide (y.name = x.name)) = true then 7
  else if x.type < 0 ∨ (i : Int) ≤ x.type then 3
  else if x.offset < fieldEnd l (prev t.fields k) ∨ t.size < x.offset ∨ t.size < W (x.offset + sizeAt l x.type) then 5
  else 0
def fieldCode (l : List TypeR) (i : Nat) (t : TypeR) (k : Nat) : Int := match t.fields[k]? with
  | some x => fieldOne l i t k x
  | none => 0
def typeOne (l : List TypeR) (i : Nat) (t : TypeR) : Int :=
  if t.kind < 1 ∨ 4 < t.kind then 4
  else if ¬ t.name = ⟨#[]⟩ ∧ isName t.name = false then 12
  else if t.size < 0 ∨ 1000000 < t.size ∨ t.count < 0 ∨ 1000000 < t.count ∨ t.elem < 0 ∨ (l.length : Int) ≤ t.elem then 3
  else if (¬ t.kind = 3 ∧ ¬ t.count = 0) ∨ (¬ t.kind = 4 ∧ 0 < (t.fields.length : Int)) ∨ ((t.kind = 1 ∨ t.kind = 4) ∧ ¬ t.elem = 0) then 5
  else if (t.kind = 1 ∧ ¬ t.size = 1 ∧ ¬ t.size = 4) ∨ (t.kind = 2 ∧ ¬ t.size = 4) then 9
  else if t.kind = 3 ∧ (i : Int) ≤ t.elem then 3
  else if t.kind = 3 ∧ ¬ t.size = W (t.count * sizeAt l t.elem) then 9
  else if 8 < (t.fields.length : Int) then 2
  else firstC ((List.range t.fields.length).map (fieldCode l i t))
def typeCode (l : List TypeR) (i : Nat) : Int := match l[i]? with
  | some t => typeOne l i t
  | none => 0
def typesF (l : List TypeR) : Fault :=
  if 30 < (l.length : Int) then ⟨2, -1⟩ else firstF ((List.range l.length).map fun i => if typeCode l i = 0 then Fault.ok else ⟨typeCode l i, i⟩)
def typesIn (l : List TypeR) : Fault := if typesF l = Fault.ok then Fault.ok else ⟨(typesF l).code, -20⟩

/-! ### an image -/
def funcCode (i : Image) (a : Int) : Int := whenI (!within i a 0 4) 3
def nameCode (s : Str) : Int := whenI (!isName s) 12
def rangeMap {α : Type} (l : List α) (f : Nat → Int) : List Int := (List.range l.length).map f
def bodyF (i : Image) : List Fault := [
  each 200 11 (rangeMap i.exports (exportCode i)), each 80 12 (rangeMap i.imports (importCode i)), each 600 13 (rangeMap i.fixups (fixupCode i)),
  each 60 14 (i.inits.map (funcCode i)), each 60 15 (i.finis.map (funcCode i)), each 5 16 (i.needs.map nameCode), each 64 17 (i.files.map nameCode),
  each 2000 18 (rangeMap i.lines (lineCode i)), each 2000 19 (rangeMap i.unwind (unwindCode i)), typesIn i.types,
  each 500 21 (rangeMap i.variables (variableCode i)), each 200 22 (rangeMap i.places (placeCode i))]
def imageF (i : Image) : Fault := if headF i = Fault.ok then firstF (bodyF i) else headF i

/-! ### the scope -/
def named (l : List Image) (name : Str) : Int := idx (fun x => decide (x.name = name)) l
def checkOne (l : List Image) (k : Nat) (x : Image) : Fault :=
  if ¬ imageF x = Fault.ok then ⟨(imageF x).code, k⟩ else if 0 ≤ named (l.take k) x.name then ⟨7, k⟩ else Fault.ok
def checkFrom (l : List Image) : Nat → List Image → Fault
  | _, [] => Fault.ok
  | k, x :: xs => if checkOne l k x = Fault.ok then checkFrom l (k + 1) xs else checkOne l k x
def checkF (l : List Image) : Fault := if l.length = 0 ∨ 5 < (l.length : Int) then ⟨2, -1⟩ else checkFrom l 0 l
end Go.Abs

/- What the functions of scope, inits and copies compute, in plain Lean. -/
set_option linter.unusedVariables false
namespace Go.Abs
open Go

/-- The first image with one of the needed names missing. -/
def missing (l : List Image) : Option Nat := l.findIdx? fun x => x.needs.any fun nm => decide (named l nm < 0)
def needRow (l : List Image) (x : Image) : List Int := x.needs.map (named l)
def needRows (l : List Image) : List (List Int) := l.map (needRow l)
def intsD (l : List Int) : Dat := .sl (l.map (.int .i64))
def rowsD (rows : List (List Int)) : Dat := .sl (rows.map intsD)
def needsR (l : List Image) : PVal := match missing l with
  | some i => .tup [.dat (.sl []), .dat (.int .i64 i), .dat (.bool false)]
  | none => .tup [.dat (rowsD (needRows l)), .dat (.int .i64 0), .dat (.bool true)]

def hasI (out : List Int) (k : Int) : Bool := out.any fun y => decide (k = y)
def addOne (out : List Int) (k : Int) : List Int := if hasI out k then out else out ++ [k]
def addAll (out : List Int) (row : List Int) : List Int := row.foldl addOne out
def bfs (needs : List (List Int)) : Nat → Nat → List Int → List Int
  | 0, _, out => out
  | fuel + 1, at_, out => match out[at_]? with
    | none => out
    | some i => bfs needs fuel (at_ + 1) (addAll out (needs.getD i.toNat []))
def walkRoot (needs : List (List Int)) (out : List Int) (r : Nat) : List Int := if hasI out r then out else bfs needs (needs.length + 1) out.length (out ++ [(r : Int)])
def walkF (needs : List (List Int)) : List Int := (List.range needs.length).foldl (walkRoot needs) []

/-- Order: the list, and the fault. -/
def orderF (l : List Image) : List Int × Fault := if checkF l = Fault.ok then match missing l with
    | some i => ([], ⟨6, i⟩)
    | none => (walkF (needRows l), Fault.ok)
  else ([], checkF l)

def fitExact (name version : Str) (e : Export) : Bool := decide (e.name = name) && decide (e.version = version)
def fitLoose (name version : Str) (e : Export) : Bool := decide (e.name = name) && ((!decide (version = ⟨#[]⟩) && decide (e.version = ⟨#[]⟩)) || (decide (version = ⟨#[]⟩) && e.deflt))
def exportOf (x : Image) (name version : Str) : Int := if 0 ≤ idx (fitExact name version) x.exports then idx (fitExact name version) x.exports else idx (fitLoose name version) x.exports
def exportAt (l : List Image) (i : Int) (name version : Str) : Int := match l[i.toNat]? with
  | some x => exportOf x name version
  | none => -1
def lookupF (l : List Image) (name version : Str) : List Int → Int × Int × Bool
  | [] => (0, 0, false)
  | i :: is => if 0 ≤ exportAt l i name version then (i, exportAt l i name version, true) else lookupF l name version is
def outside (n : Nat) (i : Int) : Bool := decide (i < 0) || decide ((n : Int) ≤ i)
def findF (l : List Image) (order : List Int) (name version : Str) : (Int × Int × Bool) × Fault :=
  if ¬ checkF l = Fault.ok then ((0, 0, false), checkF l) else if order.any (outside l.length) then ((0, 0, false), ⟨3, -2⟩) else (lookupF l name version order, Fault.ok)

/-! ### inits -/
def readyB (needs : List (List Int)) (out : List Int) (i : Nat) : Bool := match needs[i]? with
  | some row => !(row.any fun k => !decide (k = i) && !hasI out k)
  | none => false
def doneB (out : List Int) (i : Nat) : Bool := hasI out i
/-- The next image, from place i on; w: the first that is not done. -/
def pickFrom (needs : List (List Int)) (out : List Int) : Nat → Nat → Int → Int
  | 0, _, w => w
  | n + 1, i, w => if doneB out i then pickFrom needs out n (i + 1) w else if readyB needs out i then i else pickFrom needs out n (i + 1) (if w < 0 then i else w)
def pick (needs : List (List Int)) (out : List Int) : Int := pickFrom needs out needs.length 0 (-1)
def sortedFrom (needs : List (List Int)) : Nat → List Int → List Int
  | 0, out => out
  | n + 1, out => sortedFrom needs n (out ++ [pick needs out])
def sortedF (needs : List (List Int)) : List Int := sortedFrom needs needs.length []
end Go.Abs

/- Small helps. -/
set_option linter.unusedVariables false
namespace Go.Abs
open Go
theorem drop_rangeMap {α : Type} (f : Nat → α) {n k : Nat} (h : k < n) : ((List.range n).map f).drop k = f k :: ((List.range n).map f).drop (k + 1) := by
  have : k < ((List.range n).map f).length := by simpa using h
  rw [List.drop_eq_getElem_cons this]; simp
theorem drop_rangeMap_end {α : Type} (f : Nat → α) (n : Nat) : ((List.range n).map f).drop n = [] := by
  rw [List.drop_eq_nil_iff]; simp
theorem firstC_zero {c : Int} {cs : List Int} (h : c = 0) : firstC (c :: cs) = firstC cs := by simp [firstC, h]
theorem firstC_ne {c : Int} {cs : List Int} (h : ¬ c = 0) : firstC (c :: cs) = c := by simp [firstC, h]
theorem firstF_ok {c : Fault} {cs : List Fault} (h : c = Fault.ok) : firstF (c :: cs) = firstF cs := by simp [firstF, h]
theorem firstF_ne {c : Fault} {cs : List Fault} (h : ¬ c = Fault.ok) : firstF (c :: cs) = c := by simp [firstF, h]
theorem prev_some {α : Type} {l : List α} {k : Nat} {b : α} (h : prev l k = some b) : ∃ j, k = j + 1 ∧ l[j]? = some b := by
  unfold prev at h
  split at h
  · cases h
  · exact ⟨k - 1, by omega, h⟩
theorem fieldOne_zero {l : List TypeR} {i k : Nat} {t : TypeR} {x : FieldR} (h : fieldOne l i t k x = 0) : 0 ≤ x.type ∧ x.type < i := by
  unfold fieldOne at h
  repeat' split at h
  all_goals first | omega | (simp at h; done)
theorem fault_ok {f : Fault} : f = Fault.ok ↔ f.code = 0 ∧ f.index = 0 := by
  cases f; simp [Fault.ok]
end Go.Abs

/- Small helps for structs as a whole and for faults. -/
set_option linter.unusedVariables false
namespace Go.Abs
open Go
theorem killsD (d : Nat) : ∀ xs : List Dat, kills d (xs.map PVal.dat) = xs.map PVal.dat
  | [] => rfl
  | x :: xs => by simp [kills, PVal.kill, killsD d xs]
theorem mapO_dats (h : Nat → Option (List PVal)) (n : Nat) : ∀ xs : List Dat, mapO (closeP h (n + 1)) (xs.map PVal.dat) = some (xs.map PVal.dat)
  | [] => rfl
  | x :: xs => by simp [mapO, closeP, mapO_dats h n xs]
attribute [simp] killsD mapO_dats
/-- A fault that is none: how the code asks it. -/
theorem fault_cases (f : Fault) : f = Fault.ok ∨ ∃ c n, f = ⟨c, n⟩ ∧ ¬ f = Fault.ok ∧ (decide (c = 0) && decide (n = 0)) = false := by
  by_cases h : f = Fault.ok
  · exact .inl h
  · obtain ⟨c, n⟩ := f
    refine .inr ⟨c, n, rfl, h, ?_⟩
    rw [fault_ok] at h
    simpa using h
end Go.Abs

/- A fault that is one has a code. -/
set_option linter.unusedVariables false
namespace Go.Abs
open Go
def Good (f : Fault) : Prop := f = Fault.ok ∨ ¬ f.code = 0
theorem good_ok : Good Fault.ok := .inl rfl
theorem good_mk {c n : Int} (h : ¬ c = 0) : Good ⟨c, n⟩ := .inr h
theorem good_firstF : ∀ l : List Fault, (∀ f ∈ l, Good f) → Good (firstF l)
  | [], _ => good_ok
  | f :: fs, h => by
    unfold firstF
    split
    · exact good_firstF fs (fun g hg => h g (List.mem_cons_of_mem _ hg))
    · exact h f (by simp)
theorem good_eachFrom (list : Int) : ∀ (k : Nat) (cs : List Int), Good (eachFrom list k cs)
  | _, [] => good_ok
  | k, c :: cs => by
    unfold eachFrom
    split
    · rename_i h; exact good_mk h
    · exact good_eachFrom list (k + 1) cs
theorem good_each (most list : Int) (cs : List Int) : Good (each most list cs) := by
  unfold each
  split
  · exact good_mk (by omega)
  · exact good_eachFrom _ _ _
theorem good_segsFrom : ∀ (e : Int) (k : Nat) (l : List Segment), Good (segsFrom e k l)
  | _, _, [] => good_ok
  | e, k, s :: ss => by
    unfold segsFrom
    split
    · exact good_segsFrom _ _ ss
    · rename_i h; exact good_mk h
theorem good_segments (l : List Segment) : Good (segments l) := by
  unfold segments
  split
  · exact good_mk (by omega)
  · exact good_segsFrom _ _ _
theorem good_head (i : Image) : Good (headF i) := by
  unfold headF
  repeat' split
  all_goals first | exact good_ok | exact good_segments _ | exact good_mk (by omega)
theorem good_types (l : List TypeR) : Good (typesF l) := by
  unfold typesF
  split
  · exact good_mk (by omega)
  · refine good_firstF _ ?_
    intro f hf
    simp only [List.mem_map] at hf
    obtain ⟨i, _, rfl⟩ := hf
    split
    · exact good_ok
    · rename_i h; exact good_mk h
theorem good_typesIn (l : List TypeR) : Good (typesIn l) := by
  unfold typesIn
  split
  · exact good_ok
  · rename_i h
    rcases good_types l with h1 | h1
    · exact absurd h1 h
    · exact good_mk h1
theorem good_image (i : Image) : Good (imageF i) := by
  unfold imageF
  split
  · refine good_firstF _ ?_
    intro f hf
    simp only [bodyF, List.mem_cons, List.not_mem_nil, or_false] at hf
    rcases hf with rfl | rfl | rfl | rfl | rfl | rfl | rfl | rfl | rfl | rfl | rfl | rfl
    all_goals first | exact good_each _ _ _ | exact good_typesIn _
  · exact good_head i
theorem image_code {i : Image} {c n : Int} (h : imageF i = ⟨c, n⟩) (hne : ¬ imageF i = Fault.ok) : ¬ c = 0 := by
  rcases good_image i with g | g
  · exact absurd g hne
  · rw [h] at g; exact g
theorem good_checkFrom (l : List Image) : ∀ (k : Nat) (xs : List Image), Good (checkFrom l k xs)
  | _, [] => good_ok
  | k, x :: xs => by
    unfold checkFrom
    split
    · exact good_checkFrom l (k + 1) xs
    · unfold checkOne
      split
      · rename_i h; rcases good_image x with g | g
        · exact absurd g h
        · exact good_mk g
      · split
        · exact good_mk (by omega)
        · exact good_ok
theorem good_check (l : List Image) : Good (checkF l) := by
  unfold checkF
  split
  · exact good_mk (by omega)
  · exact good_checkFrom _ _ _
end Go.Abs

/- Rows that are being filled, and lists that grow. -/
set_option linter.unusedVariables false
set_option linter.unusedSimpArgs false
namespace Go.Abs
open Go
theorem datOf_kill {d : Nat} {p : PVal} {x : Dat} (h : datOf p = some x) : datOf (p.kill d) = some x := by
  cases p <;> simp [datOf] at h
  · simpa [PVal.kill, datOf] using h
  · simpa [PVal.kill, datOf] using h
  · rename_i k e z xs
    simp only [PVal.kill]
    split
    · simpa [datOf] using h
    · simpa [datOf] using h
theorem kget (d : Nat) (cs : List PVal) (i : Nat) : (kills d cs)[i]? = (cs[i]?).map (PVal.kill d) := by rw [kills_map, List.getElem?_map]
/-- Rows 0 .. k-1 are there; the others are empty. -/
def OutC (cs : List PVal) (n k : Nat) (rows : Nat → List Int) : Prop := cs.length = n ∧ (∀ j, j < k → ∃ q, cs[j]? = some q ∧ datOf q = some (intsD (rows j))) ∧ ∀ j, k ≤ j → j < n → cs[j]? = some .nilS
/-- The same while row k is being filled: it holds p. -/
def InC (cs : List PVal) (n k : Nat) (rows : Nat → List Int) (p : PVal) : Prop := cs.length = n ∧ cs[k]? = some p ∧ (∀ j, j < k → ∃ q, cs[j]? = some q ∧ datOf q = some (intsD (rows j))) ∧ ∀ j, k < j → j < n → cs[j]? = some .nilS
theorem OutC.kills {cs : List PVal} {n k : Nat} {rows : Nat → List Int} (h : OutC cs n k rows) (d : Nat) : OutC (kills d cs) n k rows := by
  obtain ⟨h1, h2, h3⟩ := h
  refine ⟨by rw [kills_length]; exact h1, fun j hj => ?_, fun j hj hn => ?_⟩
  · obtain ⟨q, hq, hd⟩ := h2 j hj
    exact ⟨q.kill d, by rw [kget, hq]; rfl, datOf_kill hd⟩
  · rw [kget, h3 j hj hn]; rfl
theorem OutC.inC {cs : List PVal} {n k : Nat} {rows : Nat → List Int} (h : OutC cs n k rows) (hk : k < n) : InC cs n k rows .nilS := ⟨h.1, h.2.2 k (Nat.le_refl _) hk, h.2.1, fun j hj hn => h.2.2 j (by omega) hn⟩
theorem InC.out {cs : List PVal} {n k : Nat} {rows : Nat → List Int} {p : PVal} (h : InC cs n k rows p) (hp : datOf p = some (intsD (rows k))) : OutC cs n (k + 1) rows := by
  obtain ⟨h1, h2, h3, h4⟩ := h
  refine ⟨h1, fun j hj => ?_, fun j hj hn => h4 j (by omega) hn⟩
  by_cases e : j = k
  · subst e; exact ⟨p, h2, hp⟩
  · exact h3 j (by omega)
theorem InC.put {cs : List PVal} {n k : Nat} {rows : Nat → List Int} {p : PVal} (h : InC cs n k rows p) (hk : k < n) (d : Nat) (v : PVal) : InC (List.take k (kills d cs) ++ v :: List.drop (k + 1) (kills d cs)) n k rows v := by
  obtain ⟨h1, h2, h3, h4⟩ := h
  have hl : (kills d cs).length = n := by rw [kills_length]; exact h1
  have hs : List.take k (kills d cs) ++ v :: List.drop (k + 1) (kills d cs) = (kills d cs).set k v := by rw [List.set_eq_take_append_cons_drop, if_pos (by omega)]
  rw [hs]
  refine ⟨by simp [hl], by simp [List.getElem?_set, hl, hk], fun j hj => ?_, fun j hj hn => ?_⟩
  · obtain ⟨q, hq, hd⟩ := h3 j hj
    exact ⟨q.kill d, by rw [List.getElem?_set_ne (by omega), kget, hq]; rfl, datOf_kill hd⟩
  · rw [List.getElem?_set_ne (by omega), kget, h4 j hj hn]; rfl
theorem datsOf_all : ∀ {cs : List PVal} {f : Nat → Dat}, (∀ j p, cs[j]? = some p → datOf p = some (f j)) → datsOf cs = some ((List.range cs.length).map f)
  | [], f, _ => rfl
  | c :: cs, f, h => by
    have h0 := h 0 c rfl
    have ht := datsOf_all (cs := cs) (f := fun j => f (j + 1)) (fun j p hp => h (j + 1) p (by simpa using hp))
    simp only [datsOf, h0, ht, List.length_cons, List.range_succ_eq_map, List.map_cons, List.map_map]
    rfl
theorem OutC.dats {cs : List PVal} {n : Nat} {rows : Nat → List Int} (h : OutC cs n n rows) : datsOf cs = some ((List.range n).map fun j => intsD (rows j)) := by
  have := datsOf_all (cs := cs) (f := fun j => intsD (rows j)) (fun j p hp => by
    have hj : j < n := by have := (List.getElem?_eq_some_iff.1 hp).1; rw [h.1] at this; exact this
    obtain ⟨q, hq, hd⟩ := h.2.1 j hj
    rw [hq] at hp; injection hp with hp; subst hp; exact hd)
  rw [h.1] at this
  exact this
theorem rows_range {l : List Image} : ((List.range l.length).map fun j => intsD (match l[j]? with | some x => needRow l x | none => [])) = (needRows l).map intsD := by
  apply List.ext_getElem?
  intro j
  simp only [List.getElem?_map, needRows]
  by_cases hj : j < l.length
  · simp [hj]
  · simp [hj, List.getElem?_eq_none (Nat.not_lt.1 hj)]
theorem missing_some {l : List Image} {k : Nat} {x : Image} {nm : Str} (hx : l[k]? = some x) (hpre : ∀ j y, j < k → l[j]? = some y → ∀ nm ∈ y.needs, 0 ≤ named l nm) (hm : nm ∈ x.needs) (hn : named l nm < 0) : missing l = some k := by
  unfold missing
  rw [List.findIdx?_eq_some_iff_getElem]
  obtain ⟨hk, hk'⟩ := List.getElem?_eq_some_iff.1 hx
  refine ⟨hk, ?_, fun j hj => ?_⟩
  · rw [hk', List.any_eq_true]; exact ⟨nm, hm, by simpa using hn⟩
  · have hp := hpre j (l[j]'(by omega)) hj (List.getElem?_eq_getElem (by omega))
    simp only [Bool.not_eq_true]
    rw [List.any_eq_false]
    intro a ha
    have := hp a ha
    simp; omega
theorem missing_none {l : List Image} (hpre : ∀ j y, j < l.length → l[j]? = some y → ∀ nm ∈ y.needs, 0 ≤ named l nm) : missing l = none := by
  unfold missing
  rw [List.findIdx?_eq_none_iff]
  intro x hx
  obtain ⟨j, hj, rfl⟩ := List.getElem_of_mem hx
  rw [List.any_eq_false]
  intro a ha
  have := hpre j _ hj (List.getElem?_eq_getElem hj) a ha
  simp; omega
/-- A list of numbers that grows: nil, or a row of the function's own. -/
def Grows (ds : List Nat) (e : Nat) (p : PVal) (xs : List Int) : Prop := (xs = [] ∧ p = .nilS) ∨ ∃ d, d ∈ ds ∧ p = .ow d e 1 (xs.map (.int .i64))
theorem Grows.datOf {ds : List Nat} {e : Nat} {p : PVal} {xs : List Int} (h : Grows ds e p xs) : datOf p = some (intsD xs) := by
  rcases h with ⟨rfl, rfl⟩ | ⟨d, _, rfl⟩ <;> rfl
theorem kills_nils (d n : Nat) : kills d (List.replicate n PVal.nilS) = List.replicate n PVal.nilS := by
  rw [kills_map, List.map_replicate]; rfl
theorem InC.kills {cs : List PVal} {n k : Nat} {rows : Nat → List Int} {p : PVal} (h : InC cs n k rows p) (d : Nat) : InC (kills d cs) n k rows (p.kill d) := by
  obtain ⟨h1, h2, h3, h4⟩ := h
  refine ⟨by rw [kills_length]; exact h1, by rw [kget, h2]; rfl, fun j hj => ?_, fun j hj hn => ?_⟩
  · obtain ⟨q, hq, hd⟩ := h3 j hj
    exact ⟨q.kill d, by rw [kget, hq]; rfl, datOf_kill hd⟩
  · rw [kget, h4 j hj hn]; rfl
end Go.Abs

/- Breadth-first search: plain facts. -/
set_option linter.unusedVariables false
set_option linter.unusedSimpArgs false
namespace Go.Abs
open Go
theorem hasI_iff {out : List Int} {v : Int} : hasI out v = true ↔ v ∈ out := by
  unfold hasI
  rw [List.any_eq_true]
  constructor
  · rintro ⟨y, hy, h⟩; simp at h; subst h; exact hy
  · intro h; exact ⟨v, h, by simp⟩
theorem hasI_false {out : List Int} {v : Int} : hasI out v = false ↔ ¬ v ∈ out := by
  rw [← hasI_iff]; simp
/-- Numbers below n, each once. -/
def Nice (n : Nat) (out : List Int) : Prop := out.Nodup ∧ ∀ v ∈ out, 0 ≤ v ∧ v < n
theorem nice_nil (n : Nat) : Nice n [] := ⟨List.nodup_nil, by simp⟩
theorem Nice.length : ∀ {n : Nat} {out : List Int}, Nice n out → out.length ≤ n := by
  intro n
  induction n with
  | zero =>
    intro out h
    cases out with
    | nil => simp
    | cons a t => have := h.2 a (by simp); omega
  | succ n ih =>
    intro out h
    have h2 : Nice n (out.filter fun v => decide (v ≠ (n : Int))) := by
      refine ⟨h.1.filter _, fun v hv => ?_⟩
      simp only [List.mem_filter, decide_eq_true_eq] at hv
      have := h.2 v hv.1
      omega
    have h3 := ih h2
    have h4 : ∀ l : List Int, l.Nodup → l.length ≤ (l.filter fun v => decide (v ≠ (n : Int))).length + 1 := by
      intro l hl
      induction l with
      | nil => simp
      | cons a t iht =>
        rw [List.nodup_cons] at hl
        by_cases e : a = n
        · subst e
          have : (t.filter fun v => decide (v ≠ (n : Int))) = t := by
            rw [List.filter_eq_self]
            intro v hv
            simp only [decide_eq_true_eq]
            intro e2; subst e2; exact hl.1 hv
          simp only [List.filter_cons, ne_eq, not_true_eq_false, decide_false, Bool.false_eq_true, if_false, List.length_cons]
          have h5 : (t.filter fun v => decide (¬ v = (n : Int))) = t := this
          rw [h5]; omega
        · have := iht hl.2
          simp only [List.filter_cons, ne_eq, e, not_false_eq_true, decide_true, if_true, List.length_cons] at this ⊢
          omega
    have := h4 out h.1
    omega
theorem Nice.add {n : Nat} {out : List Int} (h : Nice n out) {v : Int} (hv : 0 ≤ v ∧ v < n) (hn : hasI out v = false) : Nice n (out ++ [v]) := by
  rw [hasI_false] at hn
  refine ⟨?_, fun x hx => ?_⟩
  · rw [List.nodup_append]
    refine ⟨h.1, by simp, ?_⟩
    intro a ha b hb
    simp at hb; subst hb
    intro e; subst e; exact hn ha
  · rcases List.mem_append.1 hx with hx | hx
    · exact h.2 x hx
    · simp at hx; subst hx; exact hv
theorem addOne_nice {n : Nat} {out : List Int} (h : Nice n out) {v : Int} (hv : 0 ≤ v ∧ v < n) : Nice n (addOne out v) := by
  unfold addOne
  split
  · exact h
  · rename_i hn; exact h.add hv (by simpa using hn)
theorem addAll_take {out row : List Int} {i : Nat} {v : Int} (h : row[i]? = some v) : addAll out (row.take (i + 1)) = addOne (addAll out (row.take i)) v := by
  have hi := (List.getElem?_eq_some_iff.1 h)
  obtain ⟨hi, rfl⟩ := hi
  unfold addAll
  rw [List.take_succ_eq_append_getElem hi, List.foldl_append]
  rfl
theorem addAll_nice {n : Nat} : ∀ {row out : List Int}, Nice n out → (∀ v ∈ row, 0 ≤ v ∧ v < n) → Nice n (addAll out row)
  | [], out, h, _ => h
  | v :: row, out, h, hr => by
    have := addAll_nice (row := row) (addOne_nice h (hr v (by simp))) (fun w hw => hr w (List.mem_cons_of_mem _ hw))
    exact this
theorem addOne_len (out : List Int) (v : Int) : out.length ≤ (addOne out v).length := by
  unfold addOne; split <;> simp
theorem addAll_len : ∀ (row out : List Int), out.length ≤ (addAll out row).length
  | [], out => Nat.le_refl _
  | v :: row, out => Nat.le_trans (addOne_len out v) (addAll_len row (addOne out v))
theorem bfs_stop {needs : List (List Int)} {fuel at_ : Nat} {out : List Int} (h : out.length ≤ at_) : bfs needs fuel at_ out = out := by
  cases fuel with
  | zero => rfl
  | succ f => unfold bfs; rw [List.getElem?_eq_none h]
theorem bfs_step {needs : List (List Int)} {fuel at_ : Nat} {out : List Int} {i : Int} (h : out[at_]? = some i) : bfs needs (fuel + 1) at_ out = bfs needs fuel (at_ + 1) (addAll out (needs.getD i.toNat [])) := by
  conv => lhs; unfold bfs
  rw [h]
end Go.Abs

/- The order of search visits each image once; what checked images keep to. -/
set_option linter.unusedVariables false
set_option linter.unusedSimpArgs false
namespace Go.Abs
open Go
theorem addOne_pre (out : List Int) (v : Int) : out <+: addOne out v := by
  unfold addOne; split
  · exact List.prefix_refl _
  · exact List.prefix_append _ _
theorem addAll_pre : ∀ (row out : List Int), out <+: addAll out row
  | [], out => List.prefix_refl _
  | v :: row, out => (addOne_pre out v).trans (addAll_pre row (addOne out v))
theorem bfs_pre (needs : List (List Int)) : ∀ (fuel at_ : Nat) (out : List Int), out <+: bfs needs fuel at_ out
  | 0, _, out => List.prefix_refl _
  | f + 1, at_, out => by
    unfold bfs
    split
    · exact List.prefix_refl _
    · exact (addAll_pre _ _).trans (bfs_pre needs f _ _)
theorem walkRoot_pre (needs : List (List Int)) (out : List Int) (r : Nat) : out <+: walkRoot needs out r := by
  unfold walkRoot; split
  · exact List.prefix_refl _
  · exact (List.prefix_append _ _).trans (bfs_pre needs _ _ _)
theorem walkRoot_mem (needs : List (List Int)) (out : List Int) (r : Nat) : (r : Int) ∈ walkRoot needs out r := by
  unfold walkRoot; split
  · rename_i h; exact hasI_iff.1 h
  · exact (bfs_pre needs _ _ _).subset (by simp)
theorem walk_pre (needs : List (List Int)) : ∀ (m k : Nat), (List.range k).foldl (walkRoot needs) [] <+: (List.range (k + m)).foldl (walkRoot needs) []
  | 0, k => List.prefix_refl _
  | m + 1, k => by
    refine (walk_pre needs m k).trans ?_
    rw [show k + (m + 1) = k + m + 1 by omega, List.range_succ, List.foldl_append]
    exact walkRoot_pre needs _ _
theorem walk_mem (needs : List (List Int)) {r : Nat} (hr : r < needs.length) : (r : Int) ∈ walkF needs := by
  have h1 : (r : Int) ∈ (List.range (r + 1)).foldl (walkRoot needs) [] := by
    rw [List.range_succ, List.foldl_append]; exact walkRoot_mem needs _ _
  have h2 := walk_pre needs (needs.length - (r + 1)) (r + 1)
  rw [show r + 1 + (needs.length - (r + 1)) = needs.length by omega] at h2
  exact h2.subset h1
theorem bfs_nice {needs : List (List Int)} (hrow : ∀ row ∈ needs, ∀ v ∈ row, 0 ≤ v ∧ v < needs.length) : ∀ (fuel at_ : Nat) (out : List Int), Nice needs.length out → Nice needs.length (bfs needs fuel at_ out)
  | 0, _, _, h => h
  | f + 1, at_, out, h => by
    unfold bfs
    split
    · exact h
    · rename_i i hi
      refine bfs_nice hrow f _ _ (addAll_nice h ?_)
      rw [List.getD_eq_getElem?_getD]
      cases hr : needs[i.toNat]? with
      | none => simp
      | some row => exact hrow row (List.mem_of_getElem? hr)
theorem walk_nice {needs : List (List Int)} (hrow : ∀ row ∈ needs, ∀ v ∈ row, 0 ≤ v ∧ v < needs.length) : ∀ k, k ≤ needs.length → Nice needs.length ((List.range k).foldl (walkRoot needs) [])
  | 0, _ => nice_nil _
  | k + 1, hk => by
    have ih := walk_nice hrow k (by omega)
    rw [List.range_succ, List.foldl_append]
    show Nice needs.length (walkRoot needs _ k)
    generalize (List.range k).foldl (walkRoot needs) [] = out at ih
    unfold walkRoot
    split
    · exact ih
    · rename_i hh
      exact bfs_nice hrow _ _ _ (ih.add ⟨by omega, by omega⟩ (by simpa using hh))
theorem cover_len : ∀ (n : Nat) (out : List Int), (∀ r : Nat, r < n → (r : Int) ∈ out) → n ≤ out.length
  | 0, _, _ => Nat.zero_le _
  | n + 1, out, h => by
    have h1 := cover_len n (out.filter fun v => decide (v ≠ (n : Int))) (fun r hr => by
      rw [List.mem_filter]; exact ⟨h r (by omega), by simp; omega⟩)
    have hm := h n (by omega)
    have : (out.filter fun v => decide (v ≠ (n : Int))).length < out.length := by
      rw [List.length_filter_lt_length_iff_exists]
      exact ⟨_, hm, by simp⟩
    omega
theorem walk_len {needs : List (List Int)} (hrow : ∀ row ∈ needs, ∀ v ∈ row, 0 ≤ v ∧ v < needs.length) : (walkF needs).length = needs.length := by
  have h1 : (walkF needs).length ≤ needs.length := (walk_nice hrow needs.length (Nat.le_refl _)).length
  have h2 := cover_len needs.length (walkF needs) (fun r hr => walk_mem needs hr)
  omega
theorem walk_head {needs : List (List Int)} (h : 0 < needs.length) : (walkF needs)[0]? = some 0 := by
  have h2 := walk_pre needs (needs.length - 1) 1
  rw [show 1 + (needs.length - 1) = needs.length by omega] at h2
  have h1 : [(0 : Int)] <+: (List.range 1).foldl (walkRoot needs) [] := by
    show [(0 : Int)] <+: walkRoot needs [] 0
    unfold walkRoot
    rw [if_neg (by simp [hasI])]
    exact bfs_pre needs _ _ [((0 : Nat) : Int)]
  obtain ⟨t, ht⟩ := h1.trans h2
  show (walkF needs)[0]? = some 0
  have : walkF needs = [0] ++ t := ht.symm
  rw [this]; rfl

/-! ### checked images -/
theorem firstF_all : ∀ {l : List Fault}, firstF l = Fault.ok → ∀ f ∈ l, f = Fault.ok
  | [], _, f, hf => by simp at hf
  | g :: gs, h, f, hf => by
    unfold firstF at h
    split at h
    · rename_i hg
      rcases List.mem_cons.1 hf with rfl | hf
      · exact hg
      · exact firstF_all h f hf
    · rename_i hg; exact absurd h hg
theorem eachFrom_all (list : Int) : ∀ (k : Nat) (cs : List Int), eachFrom list k cs = Fault.ok → ∀ c ∈ cs, c = 0
  | _, [], _, c, hc => by simp at hc
  | k, d :: ds, h, c, hc => by
    unfold eachFrom at h
    split at h
    · rename_i hd
      rw [fault_ok] at h
      exact absurd h.1 hd
    · rename_i hd
      rcases List.mem_cons.1 hc with rfl | hc
      · simpa using hd
      · exact eachFrom_all list (k + 1) ds h c hc
theorem each_all {most list : Int} {cs : List Int} (h : each most list cs = Fault.ok) : (cs.length : Int) ≤ most ∧ ∀ c ∈ cs, c = 0 := by
  unfold each at h
  split at h
  · rw [fault_ok] at h; have := h.1; simp at this
  · rename_i hl; exact ⟨by omega, eachFrom_all list 0 cs h⟩
theorem image_all {x : Image} (h : imageF x = Fault.ok) : headF x = Fault.ok ∧ ∀ f ∈ bodyF x, f = Fault.ok := by
  unfold imageF at h
  split at h
  · rename_i hh; exact ⟨hh, firstF_all h⟩
  · rename_i hh; exact absurd h hh
theorem image_needs {x : Image} (h : imageF x = Fault.ok) : x.needs.length ≤ 5 := by
  have := (each_all ((image_all h).2 (each 5 16 (x.needs.map nameCode)) (by simp [bodyF]))).1
  simp at this; omega
theorem checkFrom_all (l : List Image) : ∀ (k : Nat) (xs : List Image), checkFrom l k xs = Fault.ok → ∀ j x, xs[j]? = some x → checkOne l (k + j) x = Fault.ok
  | _, [], _, j, x, hx => by simp at hx
  | k, y :: ys, h, j, x, hx => by
    unfold checkFrom at h
    split at h
    · rename_i hy
      cases j with
      | zero => simp at hx; subst hx; exact hy
      | succ j =>
        have := checkFrom_all l (k + 1) ys h j x (by simpa using hx)
        rw [show k + (j + 1) = k + 1 + j by omega]; exact this
    · rename_i hy; exact absurd h hy
theorem checkOne_ok {l : List Image} {k : Nat} {x : Image} (h : checkOne l k x = Fault.ok) : imageF x = Fault.ok ∧ named (l.take k) x.name < 0 := by
  unfold checkOne at h
  split at h
  · rename_i hi
    exfalso
    rcases good_image x with g | g
    · exact hi g
    · rw [fault_ok] at h; exact g h.1
  · rename_i hi
    split at h
    · rw [fault_ok] at h; have := h.1; simp at this
    · rename_i hn; exact ⟨by simpa using hi, by omega⟩
theorem check_all {l : List Image} (h : checkF l = Fault.ok) : 1 ≤ l.length ∧ l.length ≤ 5 ∧ ∀ j x, l[j]? = some x → imageF x = Fault.ok ∧ named (l.take j) x.name < 0 := by
  unfold checkF at h
  split at h
  · rw [fault_ok] at h; have := h.1; simp at this
  · rename_i hl
    refine ⟨by omega, by omega, fun j x hx => ?_⟩
    have := checkFrom_all l 0 l h j x hx
    rw [Nat.zero_add] at this
    exact checkOne_ok this
theorem check_img {l : List Image} (h : checkF l = Fault.ok) {x : Image} (hx : x ∈ l) : imageF x = Fault.ok := by
  obtain ⟨j, hj⟩ := List.getElem?_of_mem hx
  exact ((check_all h).2.2 j x hj).1
theorem needRows_ok {l : List Image} (hm : missing l = none) : ∀ row ∈ needRows l, ∀ v ∈ row, 0 ≤ v ∧ v < (needRows l).length := by
  intro row hrow v hv
  unfold missing at hm
  rw [List.findIdx?_eq_none_iff] at hm
  simp only [needRows, List.mem_map] at hrow
  obtain ⟨x, hx, rfl⟩ := hrow
  simp only [needRow, List.mem_map] at hv
  obtain ⟨nm, hnm, rfl⟩ := hv
  have h1 := hm x hx
  rw [List.any_eq_false] at h1
  have h2 := h1 nm hnm
  simp at h2
  have h3 := idx_lt (fun x : Image => decide (x.name = nm)) l
  unfold named at h2 ⊢
  simp [needRows]
  omega
theorem needRows_short {l : List Image} (h : checkF l = Fault.ok) : ∀ row ∈ needRows l, row.length ≤ 1000 := by
  intro row hrow
  simp only [needRows, List.mem_map] at hrow
  obtain ⟨x, hx, rfl⟩ := hrow
  have := image_needs (check_img h hx)
  simp [needRow]; omega
theorem needRows_len (l : List Image) : (needRows l).length = l.length := by simp [needRows]
end Go.Abs

/- The examples of the laws, as records. -/
set_option linter.unusedVariables false
namespace Go.Abs
open Go
def mainI : Image := { name := ⟨#[97]⟩, shared := false, segments := [⟨512, 256, 5, []⟩, ⟨1024, 4, 3, []⟩], entry := 512, exports := [], imports := [⟨⟨#[102]⟩, ⟨#[]⟩, false, 1024, -1, 0⟩], fixups := [], thread := [], threadSize := 0, inits := [], finis := [], needs := [⟨#[98]⟩], id := 0, lines := [], unwind := [], files := [], types := [], variables := [], places := [] }
def libI : Image := { name := ⟨#[98]⟩, shared := true, segments := [⟨512, 256, 5, []⟩], entry := -1, exports := [⟨⟨#[102]⟩, ⟨#[]⟩, false, false, false, 512, 0⟩], imports := [], fixups := [], thread := [], threadSize := 0, inits := [512], finis := [513], needs := [], id := 0, lines := [], unwind := [], files := [], types := [], variables := [], places := [] }
def pairI : List Image := [mainI, libI]
def bothI : List Loaded := [⟨mainI, 0, 0, 1⟩, ⟨libI, 4096, 0, 1⟩]
theorem mainI_wf : mainI.WF := by
  constructor <;> simp [mainI, ShortS, Short, I64, Segment.WF, Export.WF, Import.WF]
  all_goals decide
theorem libI_wf : libI.WF := by
  constructor <;> simp [libI, ShortS, Short, I64, Segment.WF, Export.WF, Import.WF]
  all_goals decide
theorem pairI_wf : Short pairI ∧ ∀ x ∈ pairI, x.WF := by
  refine ⟨by simp [pairI, Short], ?_⟩
  intro x hx
  simp only [pairI, List.mem_cons, List.not_mem_nil, or_false] at hx
  rcases hx with rfl | rfl
  · exact mainI_wf
  · exact libI_wf
theorem pair_check : checkF pairI = Fault.ok := by decide +kernel
theorem pair_order : orderF pairI = ([0, 1], Fault.ok) := by
  have h1 := pair_check
  have h2 : missing pairI = none := by decide +kernel
  have h3 : walkF (needRows pairI) = [0, 1] := by decide +kernel
  unfold orderF; rw [if_pos h1, h2]; simp [h3]
theorem pair_find : findF pairI [0, 1] ⟨#[102]⟩ ⟨#[]⟩ = ((1, 0, true), Fault.ok) := by
  have h3 : lookupF pairI ⟨#[102]⟩ ⟨#[]⟩ [0, 1] = (1, 0, true) := by decide +kernel
  unfold findF
  rw [if_neg (by rw [pair_check]; simp), if_neg (by decide), h3]
theorem pair_sorted : sortedF (needRows pairI) = [1, 0] := by decide +kernel
end Go.Abs

/- A claim's arguments as lists of records. -/
set_option linter.unusedVariables false
namespace Go.Abs
open Go
theorem recs_of {P : Program} {n e : Nat} {α : Type} (f : α → Dat) (Q : α → Prop) {xs : List Dat} (hs : isStruct P e = true) (hq : ∀ cs, FitsN P n e cs → ∃ a, Dat.agg cs = f a ∧ Q a) (hm : xs.length ≤ maxLen)
    (hx : ∀ x ∈ xs, (if isStruct P e then ∃ z, x = .agg z else x.flat = true) ∧ FitsN P n e x.cells) : ∃ l : List α, xs = l.map f ∧ Short l ∧ ∀ a ∈ l, Q a := by
  obtain ⟨zs, rfl, h3⟩ := exists_map f Q xs (by
    intro x hx'
    obtain ⟨k1, k2⟩ := hx x hx'
    rw [if_pos hs] at k1
    obtain ⟨zs, rfl⟩ := k1
    exact hq zs k2)
  exact ⟨zs, rfl, by unfold Short; unfold maxLen at hm; simp at hm; omega, h3⟩
theorem ints_of {P : Program} {n e : Nat} {xs : List Dat} (hs : isStruct P e = false) (hu : P.underlying e = some (.int .i64)) (hm : xs.length ≤ maxLen)
    (hx : ∀ x ∈ xs, (if isStruct P e then ∃ z, x = .agg z else x.flat = true) ∧ FitsN P n e x.cells) : ∃ l : List Int, xs = l.map (.int .i64) ∧ Short l ∧ ∀ a ∈ l, I64 a := by
  obtain ⟨zs, rfl, h3⟩ := exists_map (Dat.int .i64) I64 xs (by
    intro x hx'
    obtain ⟨k1, k2⟩ := hx x hx'
    rw [if_neg (by simp [hs])] at k1
    obtain ⟨m, h1, h2⟩ := fits_i64 hu k2
    refine ⟨m, ?_, h2⟩
    cases x <;> simp_all [Dat.flat, Dat.cells])
  exact ⟨zs, rfl, by unfold Short; unfold maxLen at hm; simp at hm; omega, h3⟩
end Go.Abs
