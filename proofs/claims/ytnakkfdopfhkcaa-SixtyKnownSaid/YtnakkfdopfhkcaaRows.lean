/-
  No cell of these rows narrows 'for every input' (looked for: loops, veiled, ifaces, maps, wideKeys, modest, calm, conditions, laid).
  DERIVED. THE GIVEN ROWS OF THIS SEAT. 4 by the template 'for every input the law returns true; each argument reads behind the call as it read before'; 0 by the template 'total and deterministic' (their statements: YtnakkfdopfhkcaaTotals.lean).
  GIVEN WITH THE SEED: the statements are not yours to turn. If you find one false, say at which input.
  Laid BY PROGRAM, IN A SANDBOX (cutbox-rows.mjs): the forced cells as the released guide's own fill.sh prints them over the translation 6abb06d1439c1b4e… (all of the seat's roots in one cut). By AI agents, Wed Nov 11 2026. No macro, syntax, notation, axiom, sorry.
-/
import Derived.Test.YtnakkfdopfhkcaaChecked
import GoSem.Claim
import GoSem.ClaimJoined
import GoSem.ClaimMapViews
import Derived.JoinedTies
import Derived.KernelRfl
namespace Go.Proofs.Ytnakkfdopfhkcaa
/- THE CELL 'sum', in the pinned program and in every row, IS THE sha256 OF THE DUMP (.gsa) THAT YtnakkfdopfhkcaaProg.lean LOADS. Nothing in Lean hashes anything: it is a label: what it is worth is what the hold of that sum in a sandbox is worth. -/
noncomputable def Try.pinned : Pinned := { name := "ytnakkfdopfhkcaa", sum := "6abb06d1439c1b4e32e7ae7ff768028b78e836cfc2cd5d89a5ed25818efecbb6", checked := Try.checked }
namespace Rows
def none {H : Type} : Left H := { results := [], args := [] }

/-- 'gripsacklaw3.SixtyAll': WHATEVER THE INPUT: true; the input reads as it did. -/
def sixtyAllSpec : ChangeSpec := { name := "sixtyAll", fn := fun _ => fun
  | [d1, d2] => { results := [.lit (.bool true)], args := [d1, d2] }
  | _ => none }
def sixtyAllRow : OpenClaim := { program := "ytnakkfdopfhkcaa", sum := "6abb06d1439c1b4e32e7ae7ff768028b78e836cfc2cd5d89a5ed25818efecbb6", func := "gripsack/gripsacklaw3.SixtyAll", spec := "sixtyAll", inPlace := ["internal/bytealg.IndexByteString", "internal/abi.NoEscape"], unfollowed := true, recurses := true, apart := false }
def SixtyAllSaid : Prop := sixtyAllRow.holds Try.pinned (OpenSpec.ofChange sixtyAllSpec)

/-- ITS FALSE NEIGHBOUR: 'it returns false'. Refute it at one input. -/
def sixtyAllWrong : ChangeSpec := { name := "sixtyAll", fn := fun _ => fun
  | [d1, d2] => { results := [.lit (.bool false)], args := [d1, d2] }
  | _ => none }
def SixtyAllWrongFalsely : Prop := sixtyAllRow.holds Try.pinned (OpenSpec.ofChange sixtyAllWrong)

/-- 'gripsacklaw3.SixtyBack': WHATEVER THE INPUT: true; the input reads as it did. -/
def sixtyBackSpec : ChangeSpec := { name := "sixtyBack", fn := fun _ => fun
  | [d1, d2, d3] => { results := [.lit (.bool true)], args := [d1, d2, d3] }
  | _ => none }
def sixtyBackRow : OpenClaim := { program := "ytnakkfdopfhkcaa", sum := "6abb06d1439c1b4e32e7ae7ff768028b78e836cfc2cd5d89a5ed25818efecbb6", func := "gripsack/gripsacklaw3.SixtyBack", spec := "sixtyBack", inPlace := ["internal/bytealg.IndexByteString", "internal/abi.NoEscape"], unfollowed := true, recurses := true, apart := false }
def SixtyBackSaid : Prop := sixtyBackRow.holds Try.pinned (OpenSpec.ofChange sixtyBackSpec)

/-- ITS FALSE NEIGHBOUR: 'it returns false'. Refute it at one input. -/
def sixtyBackWrong : ChangeSpec := { name := "sixtyBack", fn := fun _ => fun
  | [d1, d2, d3] => { results := [.lit (.bool false)], args := [d1, d2, d3] }
  | _ => none }
def SixtyBackWrongFalsely : Prop := sixtyBackRow.holds Try.pinned (OpenSpec.ofChange sixtyBackWrong)

/-- 'gripsacklaw3.SixtyJoins': WHATEVER THE INPUT: true; the input reads as it did. -/
def sixtyJoinsSpec : ChangeSpec := { name := "sixtyJoins", fn := fun _ => fun
  | [d1, d2] => { results := [.lit (.bool true)], args := [d1, d2] }
  | _ => none }
def sixtyJoinsRow : OpenClaim := { program := "ytnakkfdopfhkcaa", sum := "6abb06d1439c1b4e32e7ae7ff768028b78e836cfc2cd5d89a5ed25818efecbb6", func := "gripsack/gripsacklaw3.SixtyJoins", spec := "sixtyJoins", inPlace := ["internal/bytealg.IndexByteString", "internal/abi.NoEscape"], unfollowed := true, recurses := true, apart := false }
def SixtyJoinsSaid : Prop := sixtyJoinsRow.holds Try.pinned (OpenSpec.ofChange sixtyJoinsSpec)

/-- ITS FALSE NEIGHBOUR: 'it returns false'. Refute it at one input. -/
def sixtyJoinsWrong : ChangeSpec := { name := "sixtyJoins", fn := fun _ => fun
  | [d1, d2] => { results := [.lit (.bool false)], args := [d1, d2] }
  | _ => none }
def SixtyJoinsWrongFalsely : Prop := sixtyJoinsRow.holds Try.pinned (OpenSpec.ofChange sixtyJoinsWrong)

/-- 'gripsacklaw3.SixtyKnown': WHATEVER THE INPUT: true; the input reads as it did. -/
def sixtyKnownSpec : ChangeSpec := { name := "sixtyKnown", fn := fun _ => fun
  | [d] => { results := [.lit (.bool true)], args := [d] }
  | _ => none }
def sixtyKnownRow : OpenClaim := { program := "ytnakkfdopfhkcaa", sum := "6abb06d1439c1b4e32e7ae7ff768028b78e836cfc2cd5d89a5ed25818efecbb6", func := "gripsack/gripsacklaw3.SixtyKnown", spec := "sixtyKnown", inPlace := ["internal/bytealg.IndexByteString", "internal/abi.NoEscape"], unfollowed := true, recurses := true, apart := false }
def SixtyKnownSaid : Prop := sixtyKnownRow.holds Try.pinned (OpenSpec.ofChange sixtyKnownSpec)

/-- ITS FALSE NEIGHBOUR: 'it returns false'. Refute it at one input. -/
def sixtyKnownWrong : ChangeSpec := { name := "sixtyKnown", fn := fun _ => fun
  | [d] => { results := [.lit (.bool false)], args := [d] }
  | _ => none }
def SixtyKnownWrongFalsely : Prop := sixtyKnownRow.holds Try.pinned (OpenSpec.ofChange sixtyKnownWrong)

/- THE SECOND FORM. 'bulk': how many values and letters a reading holds, each counted each time it is reached (what is shared counts as often as it is met; a slice's spare places count too). A statement '..UptoSaid' is the law's where the arguments, and the package variables that the reading takes, are together of bulk at most 1048576: NARROWER than '..Said'. Prove '..Said' where nothing that the law and all that it calls make is longer than what came in: it says more and counts as full. Else prove '..UptoSaid'. A law counts once. -/
mutual
def uptoBulk {H : Type} : DataW H → Nat
  | .lit (.string bytes) => bytes.length + 1
  | .lit _ => 1
  | .nil => 1
  | .ptr d => uptoBulk d + 1
  | .slice elems spare => uptoBulkAll elems + uptoBulkAll spare + 1
  | .agg parts => uptoBulkAll parts + 1
  | .iface _ d => uptoBulk d + 1
  | .map entries => uptoBulkEntries entries + 1
  | .held _ => 1
def uptoBulkAll {H : Type} : List (DataW H) → Nat
  | [] => 0
  | d :: r => uptoBulk d + uptoBulkAll r
def uptoBulkEntries {H : Type} : List (Lit × DataW H) → Nat
  | [] => 0
  | x :: r => uptoBulkEntry x + uptoBulkEntries r
def uptoBulkEntry {H : Type} : Lit × DataW H → Nat
  | (.string bytes, d) => bytes.length + uptoBulk d + 1
  | (_, d) => uptoBulk d + 1
 end
def uptoSmall : (H : Type) → List (DataW H) → Bool := fun _ ds => decide (uptoBulkAll ds ≤ 1048576)
def OpenSpec.upto (s : _root_.Go.ChangeSpec) : _root_.Go.OpenSpec := { _root_.Go.OpenSpec.ofChange s with cond := some uptoSmall }

/-- 'gripsacklaw3.SixtyAll', WHERE WHAT IT READS IS OF BULK AT MOST 1048576: true; the input reads as it did. -/
def sixtyAllUptoRow : OpenClaim := { program := "ytnakkfdopfhkcaa", sum := "6abb06d1439c1b4e32e7ae7ff768028b78e836cfc2cd5d89a5ed25818efecbb6", func := "gripsack/gripsacklaw3.SixtyAll", spec := "sixtyAll", inPlace := ["internal/bytealg.IndexByteString", "internal/abi.NoEscape"], unfollowed := true, recurses := true, apart := false, narrowed := true }
def SixtyAllUptoSaid : Prop := sixtyAllUptoRow.holds Try.pinned (OpenSpec.upto sixtyAllSpec)

/-- 'gripsacklaw3.SixtyBack', WHERE WHAT IT READS IS OF BULK AT MOST 1048576: true; the input reads as it did. -/
def sixtyBackUptoRow : OpenClaim := { program := "ytnakkfdopfhkcaa", sum := "6abb06d1439c1b4e32e7ae7ff768028b78e836cfc2cd5d89a5ed25818efecbb6", func := "gripsack/gripsacklaw3.SixtyBack", spec := "sixtyBack", inPlace := ["internal/bytealg.IndexByteString", "internal/abi.NoEscape"], unfollowed := true, recurses := true, apart := false, narrowed := true }
def SixtyBackUptoSaid : Prop := sixtyBackUptoRow.holds Try.pinned (OpenSpec.upto sixtyBackSpec)

/-- 'gripsacklaw3.SixtyJoins', WHERE WHAT IT READS IS OF BULK AT MOST 1048576: true; the input reads as it did. -/
def sixtyJoinsUptoRow : OpenClaim := { program := "ytnakkfdopfhkcaa", sum := "6abb06d1439c1b4e32e7ae7ff768028b78e836cfc2cd5d89a5ed25818efecbb6", func := "gripsack/gripsacklaw3.SixtyJoins", spec := "sixtyJoins", inPlace := ["internal/bytealg.IndexByteString", "internal/abi.NoEscape"], unfollowed := true, recurses := true, apart := false, narrowed := true }
def SixtyJoinsUptoSaid : Prop := sixtyJoinsUptoRow.holds Try.pinned (OpenSpec.upto sixtyJoinsSpec)

/-- 'gripsacklaw3.SixtyKnown', WHERE WHAT IT READS IS OF BULK AT MOST 1048576: true; the input reads as it did. -/
def sixtyKnownUptoRow : OpenClaim := { program := "ytnakkfdopfhkcaa", sum := "6abb06d1439c1b4e32e7ae7ff768028b78e836cfc2cd5d89a5ed25818efecbb6", func := "gripsack/gripsacklaw3.SixtyKnown", spec := "sixtyKnown", inPlace := ["internal/bytealg.IndexByteString", "internal/abi.NoEscape"], unfollowed := true, recurses := true, apart := false, narrowed := true }
def SixtyKnownUptoSaid : Prop := sixtyKnownUptoRow.holds Try.pinned (OpenSpec.upto sixtyKnownSpec)

end Rows
end Go.Proofs.Ytnakkfdopfhkcaa
