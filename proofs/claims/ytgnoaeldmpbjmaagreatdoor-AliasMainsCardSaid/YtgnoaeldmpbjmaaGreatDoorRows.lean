/-
  NARROWER THAN 'FOR EVERY INPUT', by the rows' own cells (each row's printed sentence says how): AliasMains: loops, laid · AliasPlays: laid · AliasParts: laid.
  DERIVED. THE GIVEN ROWS OF THIS SEAT. 3 by the template 'for every input the law returns true; each argument reads behind the call as it read before'; 0 by the template 'total and deterministic' (their statements: YtgnoaeldmpbjmaaGreatDoorTotals.lean).
  GIVEN WITH THE SEED: the statements are not yours to turn. If you find one false, say at which input.
  Laid BY PROGRAM, IN A SANDBOX (cutbox-rows.mjs): the forced cells as the released guide's own fill.sh prints them over the translation 24f216664dc77d87… (all of the seat's roots in one cut). By AI agents, Wed Nov 11 2026. No macro, syntax, notation, axiom, sorry.
-/
import Derived.Test.YtgnoaeldmpbjmaaGreatDoorChecked
import GoSem.Claim
import GoSem.ClaimJoined
import GoSem.ClaimMapViews
import Derived.JoinedTies
import Derived.KernelRfl
namespace Go.Proofs.YtgnoaeldmpbjmaaGreatDoor
/- THE CELL 'sum', in the pinned program and in every row, IS THE sha256 OF THE DUMP (.gsa) THAT YtgnoaeldmpbjmaaGreatDoorProg.lean LOADS. Nothing in Lean hashes anything: it is a label: what it is worth is what the hold of that sum in a sandbox is worth. -/
noncomputable def Tryz.pinned : Pinned := { name := "ytgnoaeldmpbjmaagreatdoor", sum := "24f216664dc77d87c0d8dbf507671a3bd65a9501d53869792ca86d1a37d1eeac", checked := Tryz.checked }
namespace Rows
def none {H : Type} : Left H := { results := [], args := [] }

/- WHAT THE LISTED PACKAGE-LEVEL VARIABLES READ AS WHEN THE CALL BEGINS. Each datum BY PROGRAM (the guide's laid-datum.mjs) off the statement by which the dump's own 'gosem.cut.vars' lays the variable. In a bare row this is a premise. The card (YtgnoaeldmpbjmaaGreatDoorCards.lean) ties it to the program's text. -/
def laid_errors_errorType {H : Type} : DataW H := .iface "internal/reflectlite.rtype" (.agg [.ptr (.lit (.string [101, 114, 114, 111, 114]))])

/-- 'enfiladelaw17.AliasMains': WHATEVER THE INPUT: true; the input reads as it did. -/
def aliasMainsSpec : ChangeSpec := { name := "aliasMains", fn := fun _ => fun
  | [d1, d2, d3] => { results := [.lit (.bool true)], args := [d1, d2, d3] }
  | _ => none }
def aliasMainsRow : OpenClaim := { program := "ytgnoaeldmpbjmaagreatdoor", sum := "24f216664dc77d87c0d8dbf507671a3bd65a9501d53869792ca86d1a37d1eeac", func := "enfilade/enfiladelaw17.AliasMains", spec := "aliasMains", inPlace := ["internal/bytealg.IndexByteString", "internal/bytealg.IndexString", "internal/reflectlite.TypeOf", "internal/reflectlite.ValueOf", "(internal/reflectlite.Value).Type", "(internal/reflectlite.Value).IsNil", "(internal/reflectlite.Value).Elem", "(internal/reflectlite.Value).Set"], unfollowed := true, recurses := true, named := ["internal/bytealg.MaxLen", "errors.errorType"], loops := true, plainKeys := false, apart := false, laid := [("errors.errorType", laid_errors_errorType)] }
def AliasMainsSaid : Prop := aliasMainsRow.holds Tryz.pinned (OpenSpec.ofChange aliasMainsSpec)

/-- ITS FALSE NEIGHBOUR: 'it returns false'. Refute it at one input. -/
def aliasMainsWrong : ChangeSpec := { name := "aliasMains", fn := fun _ => fun
  | [d1, d2, d3] => { results := [.lit (.bool false)], args := [d1, d2, d3] }
  | _ => none }
def AliasMainsWrongFalsely : Prop := aliasMainsRow.holds Tryz.pinned (OpenSpec.ofChange aliasMainsWrong)

/-- 'enfiladelaw17.AliasPlays': WHATEVER THE INPUT: true; the input reads as it did. -/
def aliasPlaysSpec : ChangeSpec := { name := "aliasPlays", fn := fun _ => fun
  | [d1, d2, d3] => { results := [.lit (.bool true)], args := [d1, d2, d3] }
  | _ => none }
def aliasPlaysRow : OpenClaim := { program := "ytgnoaeldmpbjmaagreatdoor", sum := "24f216664dc77d87c0d8dbf507671a3bd65a9501d53869792ca86d1a37d1eeac", func := "enfilade/enfiladelaw17.AliasPlays", spec := "aliasPlays", inPlace := ["internal/bytealg.IndexByteString", "internal/bytealg.IndexString", "internal/reflectlite.TypeOf", "internal/reflectlite.ValueOf", "(internal/reflectlite.Value).Type", "(internal/reflectlite.Value).IsNil", "(internal/reflectlite.Value).Elem", "(internal/reflectlite.Value).Set", "internal/bytealg.abigen_runtime_cmpstring"], unfollowed := true, recurses := true, named := ["internal/bytealg.MaxLen", "errors.errorType"], plainKeys := false, apart := false, laid := [("errors.errorType", laid_errors_errorType)] }
def AliasPlaysSaid : Prop := aliasPlaysRow.holds Tryz.pinned (OpenSpec.ofChange aliasPlaysSpec)

/-- ITS FALSE NEIGHBOUR: 'it returns false'. Refute it at one input. -/
def aliasPlaysWrong : ChangeSpec := { name := "aliasPlays", fn := fun _ => fun
  | [d1, d2, d3] => { results := [.lit (.bool false)], args := [d1, d2, d3] }
  | _ => none }
def AliasPlaysWrongFalsely : Prop := aliasPlaysRow.holds Tryz.pinned (OpenSpec.ofChange aliasPlaysWrong)

/-- 'enfiladelaw17.AliasParts': WHATEVER THE INPUT: true; the input reads as it did. -/
def aliasPartsSpec : ChangeSpec := { name := "aliasParts", fn := fun _ => fun
  | [d] => { results := [.lit (.bool true)], args := [d] }
  | _ => none }
def aliasPartsRow : OpenClaim := { program := "ytgnoaeldmpbjmaagreatdoor", sum := "24f216664dc77d87c0d8dbf507671a3bd65a9501d53869792ca86d1a37d1eeac", func := "enfilade/enfiladelaw17.AliasParts", spec := "aliasParts", inPlace := ["internal/bytealg.IndexByteString", "internal/bytealg.IndexString", "internal/reflectlite.TypeOf", "internal/reflectlite.ValueOf", "(internal/reflectlite.Value).Type", "(internal/reflectlite.Value).IsNil", "(internal/reflectlite.Value).Elem", "(internal/reflectlite.Value).Set", "internal/bytealg.abigen_runtime_cmpstring"], unfollowed := true, recurses := true, named := ["internal/bytealg.MaxLen", "errors.errorType"], plainKeys := false, apart := false, laid := [("errors.errorType", laid_errors_errorType)] }
def AliasPartsSaid : Prop := aliasPartsRow.holds Tryz.pinned (OpenSpec.ofChange aliasPartsSpec)

/-- ITS FALSE NEIGHBOUR: 'it returns false'. Refute it at one input. -/
def aliasPartsWrong : ChangeSpec := { name := "aliasParts", fn := fun _ => fun
  | [d] => { results := [.lit (.bool false)], args := [d] }
  | _ => none }
def AliasPartsWrongFalsely : Prop := aliasPartsRow.holds Tryz.pinned (OpenSpec.ofChange aliasPartsWrong)

/- THE SECOND FORM. 'bulk': how many values and letters a reading holds, each counted each time it is reached (what is shared counts as often as it is met; a slice's spare places count too). A statement '..UptoSaid' is the law's where the arguments, and the package variables that the reading takes, are together of bulk at most 1048576: NARROWER than '..Said'. Prove '..Said' where nothing that the law and all that it calls make is longer than what came in: it says more and counts as full. Else prove '..UptoSaid'. A law counts once. -/
mutual
def uptoBulk {H : Type} : DataW H → Nat
  | .lit (.string bytes) => bytes.length + 1
  | .lit _ => 1
  | .nil => 1
  | .ptr d => uptoBulk d + 1
  | .slice elems spare => uptoBulkAll elems + uptoBulkAll spare + 1
  | .agg parts => uptoBulkAll parts + 1
  | .iface _ d => uptoBulk d + 1
  | .map entries => uptoBulkEntries entries + 1
  | .held _ => 1
def uptoBulkAll {H : Type} : List (DataW H) → Nat
  | [] => 0
  | d :: r => uptoBulk d + uptoBulkAll r
def uptoBulkEntries {H : Type} : List (Lit × DataW H) → Nat
  | [] => 0
  | x :: r => uptoBulkEntry x + uptoBulkEntries r
def uptoBulkEntry {H : Type} : Lit × DataW H → Nat
  | (.string bytes, d) => bytes.length + uptoBulk d + 1
  | (_, d) => uptoBulk d + 1
 end
def uptoSmall : (H : Type) → List (DataW H) → Bool := fun _ ds => decide (uptoBulkAll ds ≤ 1048576)
def OpenSpec.upto (s : _root_.Go.ChangeSpec) : _root_.Go.OpenSpec := { _root_.Go.OpenSpec.ofChange s with cond := some uptoSmall }

/-- 'enfiladelaw17.AliasMains', WHERE WHAT IT READS IS OF BULK AT MOST 1048576: true; the input reads as it did. -/
def aliasMainsUptoRow : OpenClaim := { program := "ytgnoaeldmpbjmaagreatdoor", sum := "24f216664dc77d87c0d8dbf507671a3bd65a9501d53869792ca86d1a37d1eeac", func := "enfilade/enfiladelaw17.AliasMains", spec := "aliasMains", inPlace := ["internal/bytealg.IndexByteString", "internal/bytealg.IndexString", "internal/reflectlite.TypeOf", "internal/reflectlite.ValueOf", "(internal/reflectlite.Value).Type", "(internal/reflectlite.Value).IsNil", "(internal/reflectlite.Value).Elem", "(internal/reflectlite.Value).Set"], unfollowed := true, recurses := true, named := ["internal/bytealg.MaxLen", "errors.errorType"], loops := true, plainKeys := false, apart := false, laid := [("errors.errorType", laid_errors_errorType)], narrowed := true }
def AliasMainsUptoSaid : Prop := aliasMainsUptoRow.holds Tryz.pinned (OpenSpec.upto aliasMainsSpec)

/-- 'enfiladelaw17.AliasPlays', WHERE WHAT IT READS IS OF BULK AT MOST 1048576: true; the input reads as it did. -/
def aliasPlaysUptoRow : OpenClaim := { program := "ytgnoaeldmpbjmaagreatdoor", sum := "24f216664dc77d87c0d8dbf507671a3bd65a9501d53869792ca86d1a37d1eeac", func := "enfilade/enfiladelaw17.AliasPlays", spec := "aliasPlays", inPlace := ["internal/bytealg.IndexByteString", "internal/bytealg.IndexString", "internal/reflectlite.TypeOf", "internal/reflectlite.ValueOf", "(internal/reflectlite.Value).Type", "(internal/reflectlite.Value).IsNil", "(internal/reflectlite.Value).Elem", "(internal/reflectlite.Value).Set", "internal/bytealg.abigen_runtime_cmpstring"], unfollowed := true, recurses := true, named := ["internal/bytealg.MaxLen", "errors.errorType"], plainKeys := false, apart := false, laid := [("errors.errorType", laid_errors_errorType)], narrowed := true }
def AliasPlaysUptoSaid : Prop := aliasPlaysUptoRow.holds Tryz.pinned (OpenSpec.upto aliasPlaysSpec)

/-- 'enfiladelaw17.AliasParts', WHERE WHAT IT READS IS OF BULK AT MOST 1048576: true; the input reads as it did. -/
def aliasPartsUptoRow : OpenClaim := { program := "ytgnoaeldmpbjmaagreatdoor", sum := "24f216664dc77d87c0d8dbf507671a3bd65a9501d53869792ca86d1a37d1eeac", func := "enfilade/enfiladelaw17.AliasParts", spec := "aliasParts", inPlace := ["internal/bytealg.IndexByteString", "internal/bytealg.IndexString", "internal/reflectlite.TypeOf", "internal/reflectlite.ValueOf", "(internal/reflectlite.Value).Type", "(internal/reflectlite.Value).IsNil", "(internal/reflectlite.Value).Elem", "(internal/reflectlite.Value).Set", "internal/bytealg.abigen_runtime_cmpstring"], unfollowed := true, recurses := true, named := ["internal/bytealg.MaxLen", "errors.errorType"], plainKeys := false, apart := false, laid := [("errors.errorType", laid_errors_errorType)], narrowed := true }
def AliasPartsUptoSaid : Prop := aliasPartsUptoRow.holds Tryz.pinned (OpenSpec.upto aliasPartsSpec)

end Rows
end Go.Proofs.YtgnoaeldmpbjmaaGreatDoor
