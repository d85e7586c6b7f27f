/-
  No cell of these rows narrows 'for every input' (looked for: loops, veiled, ifaces, maps, wideKeys, modest, calm, conditions, laid).
  DERIVED. THE GIVEN ROWS OF THIS SEAT. 3 by the template 'for every input the law returns true; each argument reads behind the call as it read before'; 0 by the template 'total and deterministic' (their statements: YtiehdfokcnphdaaTotals.lean).
  GIVEN WITH THE SEED: the statements are not yours to turn. If you find one false, say at which input.
  Laid BY PROGRAM, IN A SANDBOX (cutbox-rows.mjs): the forced cells as the released guide's own fill.sh prints them over the translation 924683013b7cea5b… (all of the seat's roots in one cut). By AI agents, Wed Nov 11 2026. No macro, syntax, notation, axiom, sorry.
-/
import Derived.Test.YtiehdfokcnphdaaChecked
import GoSem.Claim
import GoSem.ClaimJoined
import GoSem.ClaimMapViews
import Derived.JoinedTies
import Derived.KernelRfl
namespace Go.Proofs.Ytiehdfokcnphdaa
/- THE CELL 'sum', in the pinned program and in every row, IS THE sha256 OF THE DUMP (.gsa) THAT YtiehdfokcnphdaaProg.lean LOADS. Nothing in Lean hashes anything: it is a label: what it is worth is what the hold of that sum in a sandbox is worth. -/
noncomputable def Try.pinned : Pinned := { name := "ytiehdfokcnphdaa", sum := "924683013b7cea5b5f50aec0ab14555b444bf60bd4848bfd670f870e523a38ff", checked := Try.checked }
namespace Rows
def none {H : Type} : Left H := { results := [], args := [] }

/-- 'enfiladelaw09.PowerAsks': WHATEVER THE INPUT: true; the input reads as it did. -/
def powerAsksSpec : ChangeSpec := { name := "powerAsks", fn := fun _ => fun
  | [d1, d2, d3] => { results := [.lit (.bool true)], args := [d1, d2, d3] }
  | _ => none }
def powerAsksRow : OpenClaim := { program := "ytiehdfokcnphdaa", sum := "924683013b7cea5b5f50aec0ab14555b444bf60bd4848bfd670f870e523a38ff", func := "enfilade/enfiladelaw09.PowerAsks", spec := "powerAsks", inPlace := ["internal/bytealg.abigen_runtime_cmpstring", "internal/bytealg.IndexByteString", "internal/bytealg.IndexString"], unfollowed := true, recurses := true, named := ["internal/bytealg.MaxLen"], apart := false }
def PowerAsksSaid : Prop := powerAsksRow.holds Try.pinned (OpenSpec.ofChange powerAsksSpec)

/-- ITS FALSE NEIGHBOUR: 'it returns false'. Refute it at one input. -/
def powerAsksWrong : ChangeSpec := { name := "powerAsks", fn := fun _ => fun
  | [d1, d2, d3] => { results := [.lit (.bool false)], args := [d1, d2, d3] }
  | _ => none }
def PowerAsksWrongFalsely : Prop := powerAsksRow.holds Try.pinned (OpenSpec.ofChange powerAsksWrong)

/-- 'enfiladelaw09.PowerDefaults': WHATEVER THE INPUT: true; the input reads as it did. -/
def powerDefaultsSpec : ChangeSpec := { name := "powerDefaults", fn := fun _ => fun
  | [d1, d2] => { results := [.lit (.bool true)], args := [d1, d2] }
  | _ => none }
def powerDefaultsRow : OpenClaim := { program := "ytiehdfokcnphdaa", sum := "924683013b7cea5b5f50aec0ab14555b444bf60bd4848bfd670f870e523a38ff", func := "enfilade/enfiladelaw09.PowerDefaults", spec := "powerDefaults", inPlace := ["internal/bytealg.abigen_runtime_cmpstring", "internal/bytealg.IndexByteString", "internal/bytealg.IndexString"], unfollowed := true, recurses := true, named := ["internal/bytealg.MaxLen"], apart := false }
def PowerDefaultsSaid : Prop := powerDefaultsRow.holds Try.pinned (OpenSpec.ofChange powerDefaultsSpec)

/-- ITS FALSE NEIGHBOUR: 'it returns false'. Refute it at one input. -/
def powerDefaultsWrong : ChangeSpec := { name := "powerDefaults", fn := fun _ => fun
  | [d1, d2] => { results := [.lit (.bool false)], args := [d1, d2] }
  | _ => none }
def PowerDefaultsWrongFalsely : Prop := powerDefaultsRow.holds Try.pinned (OpenSpec.ofChange powerDefaultsWrong)

/-- 'enfiladelaw09.PowerBounds': WHATEVER THE INPUT: true; the input reads as it did. -/
def powerBoundsSpec : ChangeSpec := { name := "powerBounds", fn := fun _ => fun
  | [d1, d2, d3] => { results := [.lit (.bool true)], args := [d1, d2, d3] }
  | _ => none }
def powerBoundsRow : OpenClaim := { program := "ytiehdfokcnphdaa", sum := "924683013b7cea5b5f50aec0ab14555b444bf60bd4848bfd670f870e523a38ff", func := "enfilade/enfiladelaw09.PowerBounds", spec := "powerBounds", inPlace := ["internal/bytealg.abigen_runtime_cmpstring", "internal/bytealg.IndexByteString", "internal/bytealg.IndexString"], unfollowed := true, recurses := true, named := ["internal/bytealg.MaxLen"], apart := false }
def PowerBoundsSaid : Prop := powerBoundsRow.holds Try.pinned (OpenSpec.ofChange powerBoundsSpec)

/-- ITS FALSE NEIGHBOUR: 'it returns false'. Refute it at one input. -/
def powerBoundsWrong : ChangeSpec := { name := "powerBounds", fn := fun _ => fun
  | [d1, d2, d3] => { results := [.lit (.bool false)], args := [d1, d2, d3] }
  | _ => none }
def PowerBoundsWrongFalsely : Prop := powerBoundsRow.holds Try.pinned (OpenSpec.ofChange powerBoundsWrong)

/- THE SECOND FORM. 'bulk': how many values and letters a reading holds, each counted each time it is reached (what is shared counts as often as it is met; a slice's spare places count too). A statement '..UptoSaid' is the law's where the arguments, and the package variables that the reading takes, are together of bulk at most 1048576: NARROWER than '..Said'. Prove '..Said' where nothing that the law and all that it calls make is longer than what came in: it says more and counts as full. Else prove '..UptoSaid'. A law counts once. -/
mutual
def uptoBulk {H : Type} : DataW H → Nat
  | .lit (.string bytes) => bytes.length + 1
  | .lit _ => 1
  | .nil => 1
  | .ptr d => uptoBulk d + 1
  | .slice elems spare => uptoBulkAll elems + uptoBulkAll spare + 1
  | .agg parts => uptoBulkAll parts + 1
  | .iface _ d => uptoBulk d + 1
  | .map entries => uptoBulkEntries entries + 1
  | .held _ => 1
def uptoBulkAll {H : Type} : List (DataW H) → Nat
  | [] => 0
  | d :: r => uptoBulk d + uptoBulkAll r
def uptoBulkEntries {H : Type} : List (Lit × DataW H) → Nat
  | [] => 0
  | x :: r => uptoBulkEntry x + uptoBulkEntries r
def uptoBulkEntry {H : Type} : Lit × DataW H → Nat
  | (.string bytes, d) => bytes.length + uptoBulk d + 1
  | (_, d) => uptoBulk d + 1
 end
def uptoSmall : (H : Type) → List (DataW H) → Bool := fun _ ds => decide (uptoBulkAll ds ≤ 1048576)
def OpenSpec.upto (s : _root_.Go.ChangeSpec) : _root_.Go.OpenSpec := { _root_.Go.OpenSpec.ofChange s with cond := some uptoSmall }

/-- 'enfiladelaw09.PowerAsks', WHERE WHAT IT READS IS OF BULK AT MOST 1048576: true; the input reads as it did. -/
def powerAsksUptoRow : OpenClaim := { program := "ytiehdfokcnphdaa", sum := "924683013b7cea5b5f50aec0ab14555b444bf60bd4848bfd670f870e523a38ff", func := "enfilade/enfiladelaw09.PowerAsks", spec := "powerAsks", inPlace := ["internal/bytealg.abigen_runtime_cmpstring", "internal/bytealg.IndexByteString", "internal/bytealg.IndexString"], unfollowed := true, recurses := true, named := ["internal/bytealg.MaxLen"], apart := false, narrowed := true }
def PowerAsksUptoSaid : Prop := powerAsksUptoRow.holds Try.pinned (OpenSpec.upto powerAsksSpec)

/-- 'enfiladelaw09.PowerDefaults', WHERE WHAT IT READS IS OF BULK AT MOST 1048576: true; the input reads as it did. -/
def powerDefaultsUptoRow : OpenClaim := { program := "ytiehdfokcnphdaa", sum := "924683013b7cea5b5f50aec0ab14555b444bf60bd4848bfd670f870e523a38ff", func := "enfilade/enfiladelaw09.PowerDefaults", spec := "powerDefaults", inPlace := ["internal/bytealg.abigen_runtime_cmpstring", "internal/bytealg.IndexByteString", "internal/bytealg.IndexString"], unfollowed := true, recurses := true, named := ["internal/bytealg.MaxLen"], apart := false, narrowed := true }
def PowerDefaultsUptoSaid : Prop := powerDefaultsUptoRow.holds Try.pinned (OpenSpec.upto powerDefaultsSpec)

/-- 'enfiladelaw09.PowerBounds', WHERE WHAT IT READS IS OF BULK AT MOST 1048576: true; the input reads as it did. -/
def powerBoundsUptoRow : OpenClaim := { program := "ytiehdfokcnphdaa", sum := "924683013b7cea5b5f50aec0ab14555b444bf60bd4848bfd670f870e523a38ff", func := "enfilade/enfiladelaw09.PowerBounds", spec := "powerBounds", inPlace := ["internal/bytealg.abigen_runtime_cmpstring", "internal/bytealg.IndexByteString", "internal/bytealg.IndexString"], unfollowed := true, recurses := true, named := ["internal/bytealg.MaxLen"], apart := false, narrowed := true }
def PowerBoundsUptoSaid : Prop := powerBoundsUptoRow.holds Try.pinned (OpenSpec.upto powerBoundsSpec)

end Rows
end Go.Proofs.Ytiehdfokcnphdaa
