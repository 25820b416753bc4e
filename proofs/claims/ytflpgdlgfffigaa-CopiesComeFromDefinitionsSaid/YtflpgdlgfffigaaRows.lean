/-
  No cell of these rows narrows 'for every input' (looked for: loops, veiled, ifaces, maps, wideKeys, modest, calm, conditions, laid).
  DERIVED. THE GIVEN ROWS OF THIS SEAT. 8 by the template 'for every input the law returns true; each argument reads behind the call as it read before'; 0 by the template 'total and deterministic' (their statements: YtflpgdlgfffigaaTotals.lean).
  GIVEN WITH THE SEED: the statements are not yours to turn. If you find one false, say at which input.
  Laid BY PROGRAM, IN A SANDBOX (cutbox-rows.mjs): the forced cells as the released guide's own fill.sh prints them over the translation ce4119cd8b6c86fc… (all of the seat's roots in one cut). By AI agents, Wed Nov 11 2026. No macro, syntax, notation, axiom, sorry.
-/
import Derived.Test.YtflpgdlgfffigaaChecked
import GoSem.Claim
import GoSem.ClaimJoined
import GoSem.ClaimMapViews
import Derived.JoinedTies
import Derived.KernelRfl
namespace Go.Proofs.Ytflpgdlgfffigaa
/- THE CELL 'sum', in the pinned program and in every row, IS THE sha256 OF THE DUMP (.gsa) THAT YtflpgdlgfffigaaProg.lean LOADS. Nothing in Lean hashes anything: it is a label: what it is worth is what the hold of that sum in a sandbox is worth. -/
noncomputable def Try.pinned : Pinned := { name := "ytflpgdlgfffigaa", sum := "ce4119cd8b6c86fc5ad4debc9188d65ce3db9493d49e955cfc1c4feafbcf2048", checked := Try.checked }
namespace Rows
def none {H : Type} : Left H := { results := [], args := [] }

/-- 'linkhouselaw6.ScopeOrderVisitsEachImageOnce': WHATEVER THE INPUT: true; the input reads as it did. -/
def scopeOrderVisitsEachImageOnceSpec : ChangeSpec := { name := "scopeOrderVisitsEachImageOnce", fn := fun _ => fun
  | [d] => { results := [.lit (.bool true)], args := [d] }
  | _ => none }
def scopeOrderVisitsEachImageOnceRow : OpenClaim := { program := "ytflpgdlgfffigaa", sum := "ce4119cd8b6c86fc5ad4debc9188d65ce3db9493d49e955cfc1c4feafbcf2048", func := "linkhouse/linkhouselaw6.ScopeOrderVisitsEachImageOnce", spec := "scopeOrderVisitsEachImageOnce", unfollowed := true, recurses := true, apart := false }
def ScopeOrderVisitsEachImageOnceSaid : Prop := scopeOrderVisitsEachImageOnceRow.holds Try.pinned (OpenSpec.ofChange scopeOrderVisitsEachImageOnceSpec)

/-- ITS FALSE NEIGHBOUR: 'it returns false'. Refute it at one input. -/
def scopeOrderVisitsEachImageOnceWrong : ChangeSpec := { name := "scopeOrderVisitsEachImageOnce", fn := fun _ => fun
  | [d] => { results := [.lit (.bool false)], args := [d] }
  | _ => none }
def ScopeOrderVisitsEachImageOnceWrongFalsely : Prop := scopeOrderVisitsEachImageOnceRow.holds Try.pinned (OpenSpec.ofChange scopeOrderVisitsEachImageOnceWrong)

/-- 'linkhouselaw6.ScopeFirstOneInterposes': WHATEVER THE INPUT: true; the input reads as it did. -/
def scopeFirstOneInterposesSpec : ChangeSpec := { name := "scopeFirstOneInterposes", fn := fun _ => fun
  | [d1, d2, d3, d4] => { results := [.lit (.bool true)], args := [d1, d2, d3, d4] }
  | _ => none }
def scopeFirstOneInterposesRow : OpenClaim := { program := "ytflpgdlgfffigaa", sum := "ce4119cd8b6c86fc5ad4debc9188d65ce3db9493d49e955cfc1c4feafbcf2048", func := "linkhouse/linkhouselaw6.ScopeFirstOneInterposes", spec := "scopeFirstOneInterposes", unfollowed := true, recurses := true, apart := false }
def ScopeFirstOneInterposesSaid : Prop := scopeFirstOneInterposesRow.holds Try.pinned (OpenSpec.ofChange scopeFirstOneInterposesSpec)

/-- ITS FALSE NEIGHBOUR: 'it returns false'. Refute it at one input. -/
def scopeFirstOneInterposesWrong : ChangeSpec := { name := "scopeFirstOneInterposes", fn := fun _ => fun
  | [d1, d2, d3, d4] => { results := [.lit (.bool false)], args := [d1, d2, d3, d4] }
  | _ => none }
def ScopeFirstOneInterposesWrongFalsely : Prop := scopeFirstOneInterposesRow.holds Try.pinned (OpenSpec.ofChange scopeFirstOneInterposesWrong)

/-- 'linkhouselaw6.InitsNeededOnesComeFirst': WHATEVER THE INPUT: true; the input reads as it did. -/
def initsNeededOnesComeFirstSpec : ChangeSpec := { name := "initsNeededOnesComeFirst", fn := fun _ => fun
  | [d] => { results := [.lit (.bool true)], args := [d] }
  | _ => none }
def initsNeededOnesComeFirstRow : OpenClaim := { program := "ytflpgdlgfffigaa", sum := "ce4119cd8b6c86fc5ad4debc9188d65ce3db9493d49e955cfc1c4feafbcf2048", func := "linkhouse/linkhouselaw6.InitsNeededOnesComeFirst", spec := "initsNeededOnesComeFirst", unfollowed := true, recurses := true, apart := false }
def InitsNeededOnesComeFirstSaid : Prop := initsNeededOnesComeFirstRow.holds Try.pinned (OpenSpec.ofChange initsNeededOnesComeFirstSpec)

/-- ITS FALSE NEIGHBOUR: 'it returns false'. Refute it at one input. -/
def initsNeededOnesComeFirstWrong : ChangeSpec := { name := "initsNeededOnesComeFirst", fn := fun _ => fun
  | [d] => { results := [.lit (.bool false)], args := [d] }
  | _ => none }
def InitsNeededOnesComeFirstWrongFalsely : Prop := initsNeededOnesComeFirstRow.holds Try.pinned (OpenSpec.ofChange initsNeededOnesComeFirstWrong)

/-- 'linkhouselaw6.InitsCallsAreAllInits': WHATEVER THE INPUT: true; the input reads as it did. -/
def initsCallsAreAllInitsSpec : ChangeSpec := { name := "initsCallsAreAllInits", fn := fun _ => fun
  | [d] => { results := [.lit (.bool true)], args := [d] }
  | _ => none }
def initsCallsAreAllInitsRow : OpenClaim := { program := "ytflpgdlgfffigaa", sum := "ce4119cd8b6c86fc5ad4debc9188d65ce3db9493d49e955cfc1c4feafbcf2048", func := "linkhouse/linkhouselaw6.InitsCallsAreAllInits", spec := "initsCallsAreAllInits", unfollowed := true, recurses := true, apart := false }
def InitsCallsAreAllInitsSaid : Prop := initsCallsAreAllInitsRow.holds Try.pinned (OpenSpec.ofChange initsCallsAreAllInitsSpec)

/-- ITS FALSE NEIGHBOUR: 'it returns false'. Refute it at one input. -/
def initsCallsAreAllInitsWrong : ChangeSpec := { name := "initsCallsAreAllInits", fn := fun _ => fun
  | [d] => { results := [.lit (.bool false)], args := [d] }
  | _ => none }
def InitsCallsAreAllInitsWrongFalsely : Prop := initsCallsAreAllInitsRow.holds Try.pinned (OpenSpec.ofChange initsCallsAreAllInitsWrong)

/-- 'linkhouselaw6.CopiesComeFromDefinitions': WHATEVER THE INPUT: true; the input reads as it did. -/
def copiesComeFromDefinitionsSpec : ChangeSpec := { name := "copiesComeFromDefinitions", fn := fun _ => fun
  | [d] => { results := [.lit (.bool true)], args := [d] }
  | _ => none }
def copiesComeFromDefinitionsRow : OpenClaim := { program := "ytflpgdlgfffigaa", sum := "ce4119cd8b6c86fc5ad4debc9188d65ce3db9493d49e955cfc1c4feafbcf2048", func := "linkhouse/linkhouselaw6.CopiesComeFromDefinitions", spec := "copiesComeFromDefinitions", unfollowed := true, recurses := true, apart := false }
def CopiesComeFromDefinitionsSaid : Prop := copiesComeFromDefinitionsRow.holds Try.pinned (OpenSpec.ofChange copiesComeFromDefinitionsSpec)

/-- ITS FALSE NEIGHBOUR: 'it returns false'. Refute it at one input. -/
def copiesComeFromDefinitionsWrong : ChangeSpec := { name := "copiesComeFromDefinitions", fn := fun _ => fun
  | [d] => { results := [.lit (.bool false)], args := [d] }
  | _ => none }
def CopiesComeFromDefinitionsWrongFalsely : Prop := copiesComeFromDefinitionsRow.holds Try.pinned (OpenSpec.ofChange copiesComeFromDefinitionsWrong)

/-- 'linkhouselaw6.CopiesBiasMovesTargets': WHATEVER THE INPUT: true; the input reads as it did. -/
def copiesBiasMovesTargetsSpec : ChangeSpec := { name := "copiesBiasMovesTargets", fn := fun _ => fun
  | [d1, d2, d3, d4] => { results := [.lit (.bool true)], args := [d1, d2, d3, d4] }
  | _ => none }
def copiesBiasMovesTargetsRow : OpenClaim := { program := "ytflpgdlgfffigaa", sum := "ce4119cd8b6c86fc5ad4debc9188d65ce3db9493d49e955cfc1c4feafbcf2048", func := "linkhouse/linkhouselaw6.CopiesBiasMovesTargets", spec := "copiesBiasMovesTargets", unfollowed := true, recurses := true, apart := false }
def CopiesBiasMovesTargetsSaid : Prop := copiesBiasMovesTargetsRow.holds Try.pinned (OpenSpec.ofChange copiesBiasMovesTargetsSpec)

/-- ITS FALSE NEIGHBOUR: 'it returns false'. Refute it at one input. -/
def copiesBiasMovesTargetsWrong : ChangeSpec := { name := "copiesBiasMovesTargets", fn := fun _ => fun
  | [d1, d2, d3, d4] => { results := [.lit (.bool false)], args := [d1, d2, d3, d4] }
  | _ => none }
def CopiesBiasMovesTargetsWrongFalsely : Prop := copiesBiasMovesTargetsRow.holds Try.pinned (OpenSpec.ofChange copiesBiasMovesTargetsWrong)

/-- 'linkhouselaw6.BindLazyAndEagerAgree': WHATEVER THE INPUT: true; the input reads as it did. -/
def bindLazyAndEagerAgreeSpec : ChangeSpec := { name := "bindLazyAndEagerAgree", fn := fun _ => fun
  | [d1, d2] => { results := [.lit (.bool true)], args := [d1, d2] }
  | _ => none }
def bindLazyAndEagerAgreeRow : OpenClaim := { program := "ytflpgdlgfffigaa", sum := "ce4119cd8b6c86fc5ad4debc9188d65ce3db9493d49e955cfc1c4feafbcf2048", func := "linkhouse/linkhouselaw6.BindLazyAndEagerAgree", spec := "bindLazyAndEagerAgree", unfollowed := true, recurses := true, apart := false }
def BindLazyAndEagerAgreeSaid : Prop := bindLazyAndEagerAgreeRow.holds Try.pinned (OpenSpec.ofChange bindLazyAndEagerAgreeSpec)

/-- ITS FALSE NEIGHBOUR: 'it returns false'. Refute it at one input. -/
def bindLazyAndEagerAgreeWrong : ChangeSpec := { name := "bindLazyAndEagerAgree", fn := fun _ => fun
  | [d1, d2] => { results := [.lit (.bool false)], args := [d1, d2] }
  | _ => none }
def BindLazyAndEagerAgreeWrongFalsely : Prop := bindLazyAndEagerAgreeRow.holds Try.pinned (OpenSpec.ofChange bindLazyAndEagerAgreeWrong)

/-- 'linkhouselaw6.BindWordsLieInSegments': WHATEVER THE INPUT: true; the input reads as it did. -/
def bindWordsLieInSegmentsSpec : ChangeSpec := { name := "bindWordsLieInSegments", fn := fun _ => fun
  | [d1, d2, d3] => { results := [.lit (.bool true)], args := [d1, d2, d3] }
  | _ => none }
def bindWordsLieInSegmentsRow : OpenClaim := { program := "ytflpgdlgfffigaa", sum := "ce4119cd8b6c86fc5ad4debc9188d65ce3db9493d49e955cfc1c4feafbcf2048", func := "linkhouse/linkhouselaw6.BindWordsLieInSegments", spec := "bindWordsLieInSegments", unfollowed := true, recurses := true, apart := false }
def BindWordsLieInSegmentsSaid : Prop := bindWordsLieInSegmentsRow.holds Try.pinned (OpenSpec.ofChange bindWordsLieInSegmentsSpec)

/-- ITS FALSE NEIGHBOUR: 'it returns false'. Refute it at one input. -/
def bindWordsLieInSegmentsWrong : ChangeSpec := { name := "bindWordsLieInSegments", fn := fun _ => fun
  | [d1, d2, d3] => { results := [.lit (.bool false)], args := [d1, d2, d3] }
  | _ => none }
def BindWordsLieInSegmentsWrongFalsely : Prop := bindWordsLieInSegmentsRow.holds Try.pinned (OpenSpec.ofChange bindWordsLieInSegmentsWrong)

/- THE SECOND FORM. 'bulk': how many values and letters a reading holds, each counted each time it is reached (what is shared counts as often as it is met; a slice's spare places count too). A statement '..UptoSaid' is the law's where the arguments, and the package variables that the reading takes, are together of bulk at most 1048576: NARROWER than '..Said'. Prove '..Said' where nothing that the law and all that it calls make is longer than what came in: it says more and counts as full. Else prove '..UptoSaid'. A law counts once. -/
mutual
def uptoBulk {H : Type} : DataW H → Nat
  | .lit (.string bytes) => bytes.length + 1
  | .lit _ => 1
  | .nil => 1
  | .ptr d => uptoBulk d + 1
  | .slice elems spare => uptoBulkAll elems + uptoBulkAll spare + 1
  | .agg parts => uptoBulkAll parts + 1
  | .iface _ d => uptoBulk d + 1
  | .map entries => uptoBulkEntries entries + 1
  | .held _ => 1
def uptoBulkAll {H : Type} : List (DataW H) → Nat
  | [] => 0
  | d :: r => uptoBulk d + uptoBulkAll r
def uptoBulkEntries {H : Type} : List (Lit × DataW H) → Nat
  | [] => 0
  | x :: r => uptoBulkEntry x + uptoBulkEntries r
def uptoBulkEntry {H : Type} : Lit × DataW H → Nat
  | (.string bytes, d) => bytes.length + uptoBulk d + 1
  | (_, d) => uptoBulk d + 1
 end
def uptoSmall : (H : Type) → List (DataW H) → Bool := fun _ ds => decide (uptoBulkAll ds ≤ 1048576)
def OpenSpec.upto (s : _root_.Go.ChangeSpec) : _root_.Go.OpenSpec := { _root_.Go.OpenSpec.ofChange s with cond := some uptoSmall }

/-- 'linkhouselaw6.ScopeOrderVisitsEachImageOnce', WHERE WHAT IT READS IS OF BULK AT MOST 1048576: true; the input reads as it did. -/
def scopeOrderVisitsEachImageOnceUptoRow : OpenClaim := { program := "ytflpgdlgfffigaa", sum := "ce4119cd8b6c86fc5ad4debc9188d65ce3db9493d49e955cfc1c4feafbcf2048", func := "linkhouse/linkhouselaw6.ScopeOrderVisitsEachImageOnce", spec := "scopeOrderVisitsEachImageOnce", unfollowed := true, recurses := true, apart := false, narrowed := true }
def ScopeOrderVisitsEachImageOnceUptoSaid : Prop := scopeOrderVisitsEachImageOnceUptoRow.holds Try.pinned (OpenSpec.upto scopeOrderVisitsEachImageOnceSpec)

/-- 'linkhouselaw6.ScopeFirstOneInterposes', WHERE WHAT IT READS IS OF BULK AT MOST 1048576: true; the input reads as it did. -/
def scopeFirstOneInterposesUptoRow : OpenClaim := { program := "ytflpgdlgfffigaa", sum := "ce4119cd8b6c86fc5ad4debc9188d65ce3db9493d49e955cfc1c4feafbcf2048", func := "linkhouse/linkhouselaw6.ScopeFirstOneInterposes", spec := "scopeFirstOneInterposes", unfollowed := true, recurses := true, apart := false, narrowed := true }
def ScopeFirstOneInterposesUptoSaid : Prop := scopeFirstOneInterposesUptoRow.holds Try.pinned (OpenSpec.upto scopeFirstOneInterposesSpec)

/-- 'linkhouselaw6.InitsNeededOnesComeFirst', WHERE WHAT IT READS IS OF BULK AT MOST 1048576: true; the input reads as it did. -/
def initsNeededOnesComeFirstUptoRow : OpenClaim := { program := "ytflpgdlgfffigaa", sum := "ce4119cd8b6c86fc5ad4debc9188d65ce3db9493d49e955cfc1c4feafbcf2048", func := "linkhouse/linkhouselaw6.InitsNeededOnesComeFirst", spec := "initsNeededOnesComeFirst", unfollowed := true, recurses := true, apart := false, narrowed := true }
def InitsNeededOnesComeFirstUptoSaid : Prop := initsNeededOnesComeFirstUptoRow.holds Try.pinned (OpenSpec.upto initsNeededOnesComeFirstSpec)

/-- 'linkhouselaw6.InitsCallsAreAllInits', WHERE WHAT IT READS IS OF BULK AT MOST 1048576: true; the input reads as it did. -/
def initsCallsAreAllInitsUptoRow : OpenClaim := { program := "ytflpgdlgfffigaa", sum := "ce4119cd8b6c86fc5ad4debc9188d65ce3db9493d49e955cfc1c4feafbcf2048", func := "linkhouse/linkhouselaw6.InitsCallsAreAllInits", spec := "initsCallsAreAllInits", unfollowed := true, recurses := true, apart := false, narrowed := true }
def InitsCallsAreAllInitsUptoSaid : Prop := initsCallsAreAllInitsUptoRow.holds Try.pinned (OpenSpec.upto initsCallsAreAllInitsSpec)

/-- 'linkhouselaw6.CopiesComeFromDefinitions', WHERE WHAT IT READS IS OF BULK AT MOST 1048576: true; the input reads as it did. -/
def copiesComeFromDefinitionsUptoRow : OpenClaim := { program := "ytflpgdlgfffigaa", sum := "ce4119cd8b6c86fc5ad4debc9188d65ce3db9493d49e955cfc1c4feafbcf2048", func := "linkhouse/linkhouselaw6.CopiesComeFromDefinitions", spec := "copiesComeFromDefinitions", unfollowed := true, recurses := true, apart := false, narrowed := true }
def CopiesComeFromDefinitionsUptoSaid : Prop := copiesComeFromDefinitionsUptoRow.holds Try.pinned (OpenSpec.upto copiesComeFromDefinitionsSpec)

/-- 'linkhouselaw6.CopiesBiasMovesTargets', WHERE WHAT IT READS IS OF BULK AT MOST 1048576: true; the input reads as it did. -/
def copiesBiasMovesTargetsUptoRow : OpenClaim := { program := "ytflpgdlgfffigaa", sum := "ce4119cd8b6c86fc5ad4debc9188d65ce3db9493d49e955cfc1c4feafbcf2048", func := "linkhouse/linkhouselaw6.CopiesBiasMovesTargets", spec := "copiesBiasMovesTargets", unfollowed := true, recurses := true, apart := false, narrowed := true }
def CopiesBiasMovesTargetsUptoSaid : Prop := copiesBiasMovesTargetsUptoRow.holds Try.pinned (OpenSpec.upto copiesBiasMovesTargetsSpec)

/-- 'linkhouselaw6.BindLazyAndEagerAgree', WHERE WHAT IT READS IS OF BULK AT MOST 1048576: true; the input reads as it did. -/
def bindLazyAndEagerAgreeUptoRow : OpenClaim := { program := "ytflpgdlgfffigaa", sum := "ce4119cd8b6c86fc5ad4debc9188d65ce3db9493d49e955cfc1c4feafbcf2048", func := "linkhouse/linkhouselaw6.BindLazyAndEagerAgree", spec := "bindLazyAndEagerAgree", unfollowed := true, recurses := true, apart := false, narrowed := true }
def BindLazyAndEagerAgreeUptoSaid : Prop := bindLazyAndEagerAgreeUptoRow.holds Try.pinned (OpenSpec.upto bindLazyAndEagerAgreeSpec)

/-- 'linkhouselaw6.BindWordsLieInSegments', WHERE WHAT IT READS IS OF BULK AT MOST 1048576: true; the input reads as it did. -/
def bindWordsLieInSegmentsUptoRow : OpenClaim := { program := "ytflpgdlgfffigaa", sum := "ce4119cd8b6c86fc5ad4debc9188d65ce3db9493d49e955cfc1c4feafbcf2048", func := "linkhouse/linkhouselaw6.BindWordsLieInSegments", spec := "bindWordsLieInSegments", unfollowed := true, recurses := true, apart := false, narrowed := true }
def BindWordsLieInSegmentsUptoSaid : Prop := bindWordsLieInSegmentsUptoRow.holds Try.pinned (OpenSpec.upto bindWordsLieInSegmentsSpec)

end Rows
end Go.Proofs.Ytflpgdlgfffigaa
