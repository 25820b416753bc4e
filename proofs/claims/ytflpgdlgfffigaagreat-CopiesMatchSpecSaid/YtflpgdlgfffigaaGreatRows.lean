/-
  No cell of these rows narrows 'for every input' (looked for: loops, veiled, ifaces, maps, wideKeys, modest, calm, conditions, laid).
  DERIVED. THE GIVEN ROWS OF THIS SEAT. 9 by the template 'for every input the law returns true; each argument reads behind the call as it read before'; 0 by the template 'total and deterministic' (their statements: YtflpgdlgfffigaaGreatTotals.lean).
  GIVEN WITH THE SEED: the statements are not yours to turn. If you find one false, say at which input.
  Laid BY PROGRAM, IN A SANDBOX (cutbox-rows.mjs): the forced cells as the released guide's own fill.sh prints them over the translation 637d55976b6647f3… (all of the seat's roots in one cut). By AI agents, Wed Nov 11 2026. No macro, syntax, notation, axiom, sorry.
-/
import Derived.Test.YtflpgdlgfffigaaGreatChecked
import GoSem.Claim
import GoSem.ClaimJoined
import GoSem.ClaimMapViews
import Derived.JoinedTies
import Derived.KernelRfl
namespace Go.Proofs.YtflpgdlgfffigaaGreat
/- THE CELL 'sum', in the pinned program and in every row, IS THE sha256 OF THE DUMP (.gsa) THAT YtflpgdlgfffigaaGreatProg.lean LOADS. Nothing in Lean hashes anything: it is a label: what it is worth is what the hold of that sum in a sandbox is worth. -/
noncomputable def Tryz.pinned : Pinned := { name := "ytflpgdlgfffigaagreat", sum := "637d55976b6647f373113984061b759ece4630cb70ef312c5bb38f12d4f97205", checked := Tryz.checked }
namespace Rows
def none {H : Type} : Left H := { results := [], args := [] }

/-- 'linkhouselaw6.ScopeMatchesSpec': WHATEVER THE INPUT: true; the input reads as it did. -/
def scopeMatchesSpecSpec : ChangeSpec := { name := "scopeMatchesSpec", fn := fun _ => fun
  | [d1, d2, d3, d4] => { results := [.lit (.bool true)], args := [d1, d2, d3, d4] }
  | _ => none }
def scopeMatchesSpecRow : OpenClaim := { program := "ytflpgdlgfffigaagreat", sum := "637d55976b6647f373113984061b759ece4630cb70ef312c5bb38f12d4f97205", func := "linkhouse/linkhouselaw6.ScopeMatchesSpec", spec := "scopeMatchesSpec", unfollowed := true, recurses := true, apart := false }
def ScopeMatchesSpecSaid : Prop := scopeMatchesSpecRow.holds Tryz.pinned (OpenSpec.ofChange scopeMatchesSpecSpec)

/-- ITS FALSE NEIGHBOUR: 'it returns false'. Refute it at one input. -/
def scopeMatchesSpecWrong : ChangeSpec := { name := "scopeMatchesSpec", fn := fun _ => fun
  | [d1, d2, d3, d4] => { results := [.lit (.bool false)], args := [d1, d2, d3, d4] }
  | _ => none }
def ScopeMatchesSpecWrongFalsely : Prop := scopeMatchesSpecRow.holds Tryz.pinned (OpenSpec.ofChange scopeMatchesSpecWrong)

/-- 'linkhouselaw6.InitsMatchSpec': WHATEVER THE INPUT: true; the input reads as it did. -/
def initsMatchSpecSpec : ChangeSpec := { name := "initsMatchSpec", fn := fun _ => fun
  | [d1, d2] => { results := [.lit (.bool true)], args := [d1, d2] }
  | _ => none }
def initsMatchSpecRow : OpenClaim := { program := "ytflpgdlgfffigaagreat", sum := "637d55976b6647f373113984061b759ece4630cb70ef312c5bb38f12d4f97205", func := "linkhouse/linkhouselaw6.InitsMatchSpec", spec := "initsMatchSpec", unfollowed := true, recurses := true, apart := false }
def InitsMatchSpecSaid : Prop := initsMatchSpecRow.holds Tryz.pinned (OpenSpec.ofChange initsMatchSpecSpec)

/-- ITS FALSE NEIGHBOUR: 'it returns false'. Refute it at one input. -/
def initsMatchSpecWrong : ChangeSpec := { name := "initsMatchSpec", fn := fun _ => fun
  | [d1, d2] => { results := [.lit (.bool false)], args := [d1, d2] }
  | _ => none }
def InitsMatchSpecWrongFalsely : Prop := initsMatchSpecRow.holds Tryz.pinned (OpenSpec.ofChange initsMatchSpecWrong)

/-- 'linkhouselaw6.CopiesMatchSpec': WHATEVER THE INPUT: true; the input reads as it did. -/
def copiesMatchSpecSpec : ChangeSpec := { name := "copiesMatchSpec", fn := fun _ => fun
  | [d1, d2, d3] => { results := [.lit (.bool true)], args := [d1, d2, d3] }
  | _ => none }
def copiesMatchSpecRow : OpenClaim := { program := "ytflpgdlgfffigaagreat", sum := "637d55976b6647f373113984061b759ece4630cb70ef312c5bb38f12d4f97205", func := "linkhouse/linkhouselaw6.CopiesMatchSpec", spec := "copiesMatchSpec", unfollowed := true, recurses := true, apart := false }
def CopiesMatchSpecSaid : Prop := copiesMatchSpecRow.holds Tryz.pinned (OpenSpec.ofChange copiesMatchSpecSpec)

/-- ITS FALSE NEIGHBOUR: 'it returns false'. Refute it at one input. -/
def copiesMatchSpecWrong : ChangeSpec := { name := "copiesMatchSpec", fn := fun _ => fun
  | [d1, d2, d3] => { results := [.lit (.bool false)], args := [d1, d2, d3] }
  | _ => none }
def CopiesMatchSpecWrongFalsely : Prop := copiesMatchSpecRow.holds Tryz.pinned (OpenSpec.ofChange copiesMatchSpecWrong)

/-- 'linkhouselaw6.BindWordsMatchSpec': WHATEVER THE INPUT: true; the input reads as it did. -/
def bindWordsMatchSpecSpec : ChangeSpec := { name := "bindWordsMatchSpec", fn := fun _ => fun
  | [d1, d2, d3] => { results := [.lit (.bool true)], args := [d1, d2, d3] }
  | _ => none }
def bindWordsMatchSpecRow : OpenClaim := { program := "ytflpgdlgfffigaagreat", sum := "637d55976b6647f373113984061b759ece4630cb70ef312c5bb38f12d4f97205", func := "linkhouse/linkhouselaw6.BindWordsMatchSpec", spec := "bindWordsMatchSpec", unfollowed := true, recurses := true, apart := false }
def BindWordsMatchSpecSaid : Prop := bindWordsMatchSpecRow.holds Tryz.pinned (OpenSpec.ofChange bindWordsMatchSpecSpec)

/-- ITS FALSE NEIGHBOUR: 'it returns false'. Refute it at one input. -/
def bindWordsMatchSpecWrong : ChangeSpec := { name := "bindWordsMatchSpec", fn := fun _ => fun
  | [d1, d2, d3] => { results := [.lit (.bool false)], args := [d1, d2, d3] }
  | _ => none }
def BindWordsMatchSpecWrongFalsely : Prop := bindWordsMatchSpecRow.holds Tryz.pinned (OpenSpec.ofChange bindWordsMatchSpecWrong)

/-- 'linkhouselaw6.BindOneMatchesSpec': WHATEVER THE INPUT: true; the input reads as it did. -/
def bindOneMatchesSpecSpec : ChangeSpec := { name := "bindOneMatchesSpec", fn := fun _ => fun
  | [d1, d2, d3] => { results := [.lit (.bool true)], args := [d1, d2, d3] }
  | _ => none }
def bindOneMatchesSpecRow : OpenClaim := { program := "ytflpgdlgfffigaagreat", sum := "637d55976b6647f373113984061b759ece4630cb70ef312c5bb38f12d4f97205", func := "linkhouse/linkhouselaw6.BindOneMatchesSpec", spec := "bindOneMatchesSpec", unfollowed := true, recurses := true, apart := false }
def BindOneMatchesSpecSaid : Prop := bindOneMatchesSpecRow.holds Tryz.pinned (OpenSpec.ofChange bindOneMatchesSpecSpec)

/-- ITS FALSE NEIGHBOUR: 'it returns false'. Refute it at one input. -/
def bindOneMatchesSpecWrong : ChangeSpec := { name := "bindOneMatchesSpec", fn := fun _ => fun
  | [d1, d2, d3] => { results := [.lit (.bool false)], args := [d1, d2, d3] }
  | _ => none }
def BindOneMatchesSpecWrongFalsely : Prop := bindOneMatchesSpecRow.holds Tryz.pinned (OpenSpec.ofChange bindOneMatchesSpecWrong)

/-- 'linkhouselaw6.LoadStartMatchesSpec': WHATEVER THE INPUT: true; the input reads as it did. -/
def loadStartMatchesSpecSpec : ChangeSpec := { name := "loadStartMatchesSpec", fn := fun _ => fun
  | [d1, d2, d3, d4] => { results := [.lit (.bool true)], args := [d1, d2, d3, d4] }
  | _ => none }
def loadStartMatchesSpecRow : OpenClaim := { program := "ytflpgdlgfffigaagreat", sum := "637d55976b6647f373113984061b759ece4630cb70ef312c5bb38f12d4f97205", func := "linkhouse/linkhouselaw6.LoadStartMatchesSpec", spec := "loadStartMatchesSpec", inPlace := ["slices.overlaps[linkhouse/api.Page]"], unfollowed := true, recurses := true, apart := false }
def LoadStartMatchesSpecSaid : Prop := loadStartMatchesSpecRow.holds Tryz.pinned (OpenSpec.ofChange loadStartMatchesSpecSpec)

/-- ITS FALSE NEIGHBOUR: 'it returns false'. Refute it at one input. -/
def loadStartMatchesSpecWrong : ChangeSpec := { name := "loadStartMatchesSpec", fn := fun _ => fun
  | [d1, d2, d3, d4] => { results := [.lit (.bool false)], args := [d1, d2, d3, d4] }
  | _ => none }
def LoadStartMatchesSpecWrongFalsely : Prop := loadStartMatchesSpecRow.holds Tryz.pinned (OpenSpec.ofChange loadStartMatchesSpecWrong)

/-- 'linkhouselaw6.LoadValidateMatchesSpec': WHATEVER THE INPUT: true; the input reads as it did. -/
def loadValidateMatchesSpecSpec : ChangeSpec := { name := "loadValidateMatchesSpec", fn := fun _ => fun
  | [d] => { results := [.lit (.bool true)], args := [d] }
  | _ => none }
def loadValidateMatchesSpecRow : OpenClaim := { program := "ytflpgdlgfffigaagreat", sum := "637d55976b6647f373113984061b759ece4630cb70ef312c5bb38f12d4f97205", func := "linkhouse/linkhouselaw6.LoadValidateMatchesSpec", spec := "loadValidateMatchesSpec", inPlace := ["slices.overlaps[linkhouse/api.Page]"], unfollowed := true, recurses := true, apart := false }
def LoadValidateMatchesSpecSaid : Prop := loadValidateMatchesSpecRow.holds Tryz.pinned (OpenSpec.ofChange loadValidateMatchesSpecSpec)

/-- ITS FALSE NEIGHBOUR: 'it returns false'. Refute it at one input. -/
def loadValidateMatchesSpecWrong : ChangeSpec := { name := "loadValidateMatchesSpec", fn := fun _ => fun
  | [d] => { results := [.lit (.bool false)], args := [d] }
  | _ => none }
def LoadValidateMatchesSpecWrongFalsely : Prop := loadValidateMatchesSpecRow.holds Tryz.pinned (OpenSpec.ofChange loadValidateMatchesSpecWrong)

/-- 'linkhouselaw6.LoadOpenMatchesSpec': WHATEVER THE INPUT: true; the input reads as it did. -/
def loadOpenMatchesSpecSpec : ChangeSpec := { name := "loadOpenMatchesSpec", fn := fun _ => fun
  | [d1, d2, d3] => { results := [.lit (.bool true)], args := [d1, d2, d3] }
  | _ => none }
def loadOpenMatchesSpecRow : OpenClaim := { program := "ytflpgdlgfffigaagreat", sum := "637d55976b6647f373113984061b759ece4630cb70ef312c5bb38f12d4f97205", func := "linkhouse/linkhouselaw6.LoadOpenMatchesSpec", spec := "loadOpenMatchesSpec", inPlace := ["slices.overlaps[linkhouse/api.Page]"], unfollowed := true, recurses := true, apart := false }
def LoadOpenMatchesSpecSaid : Prop := loadOpenMatchesSpecRow.holds Tryz.pinned (OpenSpec.ofChange loadOpenMatchesSpecSpec)

/-- ITS FALSE NEIGHBOUR: 'it returns false'. Refute it at one input. -/
def loadOpenMatchesSpecWrong : ChangeSpec := { name := "loadOpenMatchesSpec", fn := fun _ => fun
  | [d1, d2, d3] => { results := [.lit (.bool false)], args := [d1, d2, d3] }
  | _ => none }
def LoadOpenMatchesSpecWrongFalsely : Prop := loadOpenMatchesSpecRow.holds Tryz.pinned (OpenSpec.ofChange loadOpenMatchesSpecWrong)

/-- 'linkhouselaw6.LoadBindMatchesSpec': WHATEVER THE INPUT: true; the input reads as it did. -/
def loadBindMatchesSpecSpec : ChangeSpec := { name := "loadBindMatchesSpec", fn := fun _ => fun
  | [d1, d2, d3] => { results := [.lit (.bool true)], args := [d1, d2, d3] }
  | _ => none }
def loadBindMatchesSpecRow : OpenClaim := { program := "ytflpgdlgfffigaagreat", sum := "637d55976b6647f373113984061b759ece4630cb70ef312c5bb38f12d4f97205", func := "linkhouse/linkhouselaw6.LoadBindMatchesSpec", spec := "loadBindMatchesSpec", inPlace := ["slices.overlaps[linkhouse/api.Page]"], unfollowed := true, recurses := true, apart := false }
def LoadBindMatchesSpecSaid : Prop := loadBindMatchesSpecRow.holds Tryz.pinned (OpenSpec.ofChange loadBindMatchesSpecSpec)

/-- ITS FALSE NEIGHBOUR: 'it returns false'. Refute it at one input. -/
def loadBindMatchesSpecWrong : ChangeSpec := { name := "loadBindMatchesSpec", fn := fun _ => fun
  | [d1, d2, d3] => { results := [.lit (.bool false)], args := [d1, d2, d3] }
  | _ => none }
def LoadBindMatchesSpecWrongFalsely : Prop := loadBindMatchesSpecRow.holds Tryz.pinned (OpenSpec.ofChange loadBindMatchesSpecWrong)

/- THE SECOND FORM. 'bulk': how many values and letters a reading holds, each counted each time it is reached (what is shared counts as often as it is met; a slice's spare places count too). A statement '..UptoSaid' is the law's where the arguments, and the package variables that the reading takes, are together of bulk at most 1048576: NARROWER than '..Said'. Prove '..Said' where nothing that the law and all that it calls make is longer than what came in: it says more and counts as full. Else prove '..UptoSaid'. A law counts once. -/
mutual
def uptoBulk {H : Type} : DataW H → Nat
  | .lit (.string bytes) => bytes.length + 1
  | .lit _ => 1
  | .nil => 1
  | .ptr d => uptoBulk d + 1
  | .slice elems spare => uptoBulkAll elems + uptoBulkAll spare + 1
  | .agg parts => uptoBulkAll parts + 1
  | .iface _ d => uptoBulk d + 1
  | .map entries => uptoBulkEntries entries + 1
  | .held _ => 1
def uptoBulkAll {H : Type} : List (DataW H) → Nat
  | [] => 0
  | d :: r => uptoBulk d + uptoBulkAll r
def uptoBulkEntries {H : Type} : List (Lit × DataW H) → Nat
  | [] => 0
  | x :: r => uptoBulkEntry x + uptoBulkEntries r
def uptoBulkEntry {H : Type} : Lit × DataW H → Nat
  | (.string bytes, d) => bytes.length + uptoBulk d + 1
  | (_, d) => uptoBulk d + 1
 end
def uptoSmall : (H : Type) → List (DataW H) → Bool := fun _ ds => decide (uptoBulkAll ds ≤ 1048576)
def OpenSpec.upto (s : _root_.Go.ChangeSpec) : _root_.Go.OpenSpec := { _root_.Go.OpenSpec.ofChange s with cond := some uptoSmall }

/-- 'linkhouselaw6.ScopeMatchesSpec', WHERE WHAT IT READS IS OF BULK AT MOST 1048576: true; the input reads as it did. -/
def scopeMatchesSpecUptoRow : OpenClaim := { program := "ytflpgdlgfffigaagreat", sum := "637d55976b6647f373113984061b759ece4630cb70ef312c5bb38f12d4f97205", func := "linkhouse/linkhouselaw6.ScopeMatchesSpec", spec := "scopeMatchesSpec", unfollowed := true, recurses := true, apart := false, narrowed := true }
def ScopeMatchesSpecUptoSaid : Prop := scopeMatchesSpecUptoRow.holds Tryz.pinned (OpenSpec.upto scopeMatchesSpecSpec)

/-- 'linkhouselaw6.InitsMatchSpec', WHERE WHAT IT READS IS OF BULK AT MOST 1048576: true; the input reads as it did. -/
def initsMatchSpecUptoRow : OpenClaim := { program := "ytflpgdlgfffigaagreat", sum := "637d55976b6647f373113984061b759ece4630cb70ef312c5bb38f12d4f97205", func := "linkhouse/linkhouselaw6.InitsMatchSpec", spec := "initsMatchSpec", unfollowed := true, recurses := true, apart := false, narrowed := true }
def InitsMatchSpecUptoSaid : Prop := initsMatchSpecUptoRow.holds Tryz.pinned (OpenSpec.upto initsMatchSpecSpec)

/-- 'linkhouselaw6.CopiesMatchSpec', WHERE WHAT IT READS IS OF BULK AT MOST 1048576: true; the input reads as it did. -/
def copiesMatchSpecUptoRow : OpenClaim := { program := "ytflpgdlgfffigaagreat", sum := "637d55976b6647f373113984061b759ece4630cb70ef312c5bb38f12d4f97205", func := "linkhouse/linkhouselaw6.CopiesMatchSpec", spec := "copiesMatchSpec", unfollowed := true, recurses := true, apart := false, narrowed := true }
def CopiesMatchSpecUptoSaid : Prop := copiesMatchSpecUptoRow.holds Tryz.pinned (OpenSpec.upto copiesMatchSpecSpec)

/-- 'linkhouselaw6.BindWordsMatchSpec', WHERE WHAT IT READS IS OF BULK AT MOST 1048576: true; the input reads as it did. -/
def bindWordsMatchSpecUptoRow : OpenClaim := { program := "ytflpgdlgfffigaagreat", sum := "637d55976b6647f373113984061b759ece4630cb70ef312c5bb38f12d4f97205", func := "linkhouse/linkhouselaw6.BindWordsMatchSpec", spec := "bindWordsMatchSpec", unfollowed := true, recurses := true, apart := false, narrowed := true }
def BindWordsMatchSpecUptoSaid : Prop := bindWordsMatchSpecUptoRow.holds Tryz.pinned (OpenSpec.upto bindWordsMatchSpecSpec)

/-- 'linkhouselaw6.BindOneMatchesSpec', WHERE WHAT IT READS IS OF BULK AT MOST 1048576: true; the input reads as it did. -/
def bindOneMatchesSpecUptoRow : OpenClaim := { program := "ytflpgdlgfffigaagreat", sum := "637d55976b6647f373113984061b759ece4630cb70ef312c5bb38f12d4f97205", func := "linkhouse/linkhouselaw6.BindOneMatchesSpec", spec := "bindOneMatchesSpec", unfollowed := true, recurses := true, apart := false, narrowed := true }
def BindOneMatchesSpecUptoSaid : Prop := bindOneMatchesSpecUptoRow.holds Tryz.pinned (OpenSpec.upto bindOneMatchesSpecSpec)

/-- 'linkhouselaw6.LoadStartMatchesSpec', WHERE WHAT IT READS IS OF BULK AT MOST 1048576: true; the input reads as it did. -/
def loadStartMatchesSpecUptoRow : OpenClaim := { program := "ytflpgdlgfffigaagreat", sum := "637d55976b6647f373113984061b759ece4630cb70ef312c5bb38f12d4f97205", func := "linkhouse/linkhouselaw6.LoadStartMatchesSpec", spec := "loadStartMatchesSpec", inPlace := ["slices.overlaps[linkhouse/api.Page]"], unfollowed := true, recurses := true, apart := false, narrowed := true }
def LoadStartMatchesSpecUptoSaid : Prop := loadStartMatchesSpecUptoRow.holds Tryz.pinned (OpenSpec.upto loadStartMatchesSpecSpec)

/-- 'linkhouselaw6.LoadValidateMatchesSpec', WHERE WHAT IT READS IS OF BULK AT MOST 1048576: true; the input reads as it did. -/
def loadValidateMatchesSpecUptoRow : OpenClaim := { program := "ytflpgdlgfffigaagreat", sum := "637d55976b6647f373113984061b759ece4630cb70ef312c5bb38f12d4f97205", func := "linkhouse/linkhouselaw6.LoadValidateMatchesSpec", spec := "loadValidateMatchesSpec", inPlace := ["slices.overlaps[linkhouse/api.Page]"], unfollowed := true, recurses := true, apart := false, narrowed := true }
def LoadValidateMatchesSpecUptoSaid : Prop := loadValidateMatchesSpecUptoRow.holds Tryz.pinned (OpenSpec.upto loadValidateMatchesSpecSpec)

/-- 'linkhouselaw6.LoadOpenMatchesSpec', WHERE WHAT IT READS IS OF BULK AT MOST 1048576: true; the input reads as it did. -/
def loadOpenMatchesSpecUptoRow : OpenClaim := { program := "ytflpgdlgfffigaagreat", sum := "637d55976b6647f373113984061b759ece4630cb70ef312c5bb38f12d4f97205", func := "linkhouse/linkhouselaw6.LoadOpenMatchesSpec", spec := "loadOpenMatchesSpec", inPlace := ["slices.overlaps[linkhouse/api.Page]"], unfollowed := true, recurses := true, apart := false, narrowed := true }
def LoadOpenMatchesSpecUptoSaid : Prop := loadOpenMatchesSpecUptoRow.holds Tryz.pinned (OpenSpec.upto loadOpenMatchesSpecSpec)

/-- 'linkhouselaw6.LoadBindMatchesSpec', WHERE WHAT IT READS IS OF BULK AT MOST 1048576: true; the input reads as it did. -/
def loadBindMatchesSpecUptoRow : OpenClaim := { program := "ytflpgdlgfffigaagreat", sum := "637d55976b6647f373113984061b759ece4630cb70ef312c5bb38f12d4f97205", func := "linkhouse/linkhouselaw6.LoadBindMatchesSpec", spec := "loadBindMatchesSpec", inPlace := ["slices.overlaps[linkhouse/api.Page]"], unfollowed := true, recurses := true, apart := false, narrowed := true }
def LoadBindMatchesSpecUptoSaid : Prop := loadBindMatchesSpecUptoRow.holds Tryz.pinned (OpenSpec.upto loadBindMatchesSpecSpec)

end Rows
end Go.Proofs.YtflpgdlgfffigaaGreat
