/-
  No cell of these rows narrows 'for every input' (looked for: loops, veiled, ifaces, maps, wideKeys, modest, calm, conditions, laid).
  DERIVED. THE GIVEN ROWS OF THIS SEAT. 3 by the template 'for every input the law returns true; each argument reads behind the call as it read before'; 0 by the template 'total and deterministic' (their statements: YtkojlnjhndnfkaaTotals.lean).
  GIVEN WITH THE SEED: the statements are not yours to turn. If you find one false, say at which input.
  Laid BY PROGRAM, IN A SANDBOX (cutbox-rows.mjs): the forced cells as the released guide's own fill.sh prints them over the translation 005af270dab11e97… (all of the seat's roots in one cut). By AI agents, Wed Nov 11 2026. No macro, syntax, notation, axiom, sorry.
-/
import Derived.Test.YtkojlnjhndnfkaaChecked
import GoSem.Claim
import GoSem.ClaimJoined
import GoSem.ClaimMapViews
import Derived.JoinedTies
import Derived.KernelRfl
namespace Go.Proofs.Ytkojlnjhndnfkaa
/- THE CELL 'sum', in the pinned program and in every row, IS THE sha256 OF THE DUMP (.gsa) THAT YtkojlnjhndnfkaaProg.lean LOADS. Nothing in Lean hashes anything: it is a label: what it is worth is what the hold of that sum in a sandbox is worth. -/
noncomputable def Try.pinned : Pinned := { name := "ytkojlnjhndnfkaa", sum := "005af270dab11e97a300c661f87617ba3cd0a134727a702bfca3f3125a49869a", checked := Try.checked }
namespace Rows
def none {H : Type} : Left H := { results := [], args := [] }

/-- 'gripsacklaw4.EscapeAll': WHATEVER THE INPUT: true; the input reads as it did. -/
def escapeAllSpec : ChangeSpec := { name := "escapeAll", fn := fun _ => fun
  | [d1, d2] => { results := [.lit (.bool true)], args := [d1, d2] }
  | _ => none }
def escapeAllRow : OpenClaim := { program := "ytkojlnjhndnfkaa", sum := "005af270dab11e97a300c661f87617ba3cd0a134727a702bfca3f3125a49869a", func := "gripsack/gripsacklaw4.EscapeAll", spec := "escapeAll", inPlace := ["internal/bytealg.IndexByteString", "internal/abi.NoEscape"], unfollowed := true, recurses := true, apart := false }
def EscapeAllSaid : Prop := escapeAllRow.holds Try.pinned (OpenSpec.ofChange escapeAllSpec)

/-- ITS FALSE NEIGHBOUR: 'it returns false'. Refute it at one input. -/
def escapeAllWrong : ChangeSpec := { name := "escapeAll", fn := fun _ => fun
  | [d1, d2] => { results := [.lit (.bool false)], args := [d1, d2] }
  | _ => none }
def EscapeAllWrongFalsely : Prop := escapeAllRow.holds Try.pinned (OpenSpec.ofChange escapeAllWrong)

/-- 'gripsacklaw4.EscapeBack': WHATEVER THE INPUT: true; the input reads as it did. -/
def escapeBackSpec : ChangeSpec := { name := "escapeBack", fn := fun _ => fun
  | [d1, d2] => { results := [.lit (.bool true)], args := [d1, d2] }
  | _ => none }
def escapeBackRow : OpenClaim := { program := "ytkojlnjhndnfkaa", sum := "005af270dab11e97a300c661f87617ba3cd0a134727a702bfca3f3125a49869a", func := "gripsack/gripsacklaw4.EscapeBack", spec := "escapeBack", inPlace := ["internal/bytealg.IndexByteString", "internal/abi.NoEscape"], unfollowed := true, recurses := true, apart := false }
def EscapeBackSaid : Prop := escapeBackRow.holds Try.pinned (OpenSpec.ofChange escapeBackSpec)

/-- ITS FALSE NEIGHBOUR: 'it returns false'. Refute it at one input. -/
def escapeBackWrong : ChangeSpec := { name := "escapeBack", fn := fun _ => fun
  | [d1, d2] => { results := [.lit (.bool false)], args := [d1, d2] }
  | _ => none }
def EscapeBackWrongFalsely : Prop := escapeBackRow.holds Try.pinned (OpenSpec.ofChange escapeBackWrong)

/-- 'gripsacklaw4.EscapeBytes': WHATEVER THE INPUT: true; the input reads as it did. -/
def escapeBytesSpec : ChangeSpec := { name := "escapeBytes", fn := fun _ => fun
  | [d] => { results := [.lit (.bool true)], args := [d] }
  | _ => none }
def escapeBytesRow : OpenClaim := { program := "ytkojlnjhndnfkaa", sum := "005af270dab11e97a300c661f87617ba3cd0a134727a702bfca3f3125a49869a", func := "gripsack/gripsacklaw4.EscapeBytes", spec := "escapeBytes", inPlace := ["internal/abi.NoEscape", "internal/bytealg.IndexByteString"], unfollowed := true, recurses := true, apart := false }
def EscapeBytesSaid : Prop := escapeBytesRow.holds Try.pinned (OpenSpec.ofChange escapeBytesSpec)

/-- ITS FALSE NEIGHBOUR: 'it returns false'. Refute it at one input. -/
def escapeBytesWrong : ChangeSpec := { name := "escapeBytes", fn := fun _ => fun
  | [d] => { results := [.lit (.bool false)], args := [d] }
  | _ => none }
def EscapeBytesWrongFalsely : Prop := escapeBytesRow.holds Try.pinned (OpenSpec.ofChange escapeBytesWrong)

/- THE SECOND FORM. 'bulk': how many values and letters a reading holds, each counted each time it is reached (what is shared counts as often as it is met; a slice's spare places count too). A statement '..UptoSaid' is the law's where the arguments, and the package variables that the reading takes, are together of bulk at most 1048576: NARROWER than '..Said'. Prove '..Said' where nothing that the law and all that it calls make is longer than what came in: it says more and counts as full. Else prove '..UptoSaid'. A law counts once. -/
mutual
def uptoBulk {H : Type} : DataW H → Nat
  | .lit (.string bytes) => bytes.length + 1
  | .lit _ => 1
  | .nil => 1
  | .ptr d => uptoBulk d + 1
  | .slice elems spare => uptoBulkAll elems + uptoBulkAll spare + 1
  | .agg parts => uptoBulkAll parts + 1
  | .iface _ d => uptoBulk d + 1
  | .map entries => uptoBulkEntries entries + 1
  | .held _ => 1
def uptoBulkAll {H : Type} : List (DataW H) → Nat
  | [] => 0
  | d :: r => uptoBulk d + uptoBulkAll r
def uptoBulkEntries {H : Type} : List (Lit × DataW H) → Nat
  | [] => 0
  | x :: r => uptoBulkEntry x + uptoBulkEntries r
def uptoBulkEntry {H : Type} : Lit × DataW H → Nat
  | (.string bytes, d) => bytes.length + uptoBulk d + 1
  | (_, d) => uptoBulk d + 1
 end
def uptoSmall : (H : Type) → List (DataW H) → Bool := fun _ ds => decide (uptoBulkAll ds ≤ 1048576)
def OpenSpec.upto (s : _root_.Go.ChangeSpec) : _root_.Go.OpenSpec := { _root_.Go.OpenSpec.ofChange s with cond := some uptoSmall }

/-- 'gripsacklaw4.EscapeAll', WHERE WHAT IT READS IS OF BULK AT MOST 1048576: true; the input reads as it did. -/
def escapeAllUptoRow : OpenClaim := { program := "ytkojlnjhndnfkaa", sum := "005af270dab11e97a300c661f87617ba3cd0a134727a702bfca3f3125a49869a", func := "gripsack/gripsacklaw4.EscapeAll", spec := "escapeAll", inPlace := ["internal/bytealg.IndexByteString", "internal/abi.NoEscape"], unfollowed := true, recurses := true, apart := false, narrowed := true }
def EscapeAllUptoSaid : Prop := escapeAllUptoRow.holds Try.pinned (OpenSpec.upto escapeAllSpec)

/-- 'gripsacklaw4.EscapeBack', WHERE WHAT IT READS IS OF BULK AT MOST 1048576: true; the input reads as it did. -/
def escapeBackUptoRow : OpenClaim := { program := "ytkojlnjhndnfkaa", sum := "005af270dab11e97a300c661f87617ba3cd0a134727a702bfca3f3125a49869a", func := "gripsack/gripsacklaw4.EscapeBack", spec := "escapeBack", inPlace := ["internal/bytealg.IndexByteString", "internal/abi.NoEscape"], unfollowed := true, recurses := true, apart := false, narrowed := true }
def EscapeBackUptoSaid : Prop := escapeBackUptoRow.holds Try.pinned (OpenSpec.upto escapeBackSpec)

/-- 'gripsacklaw4.EscapeBytes', WHERE WHAT IT READS IS OF BULK AT MOST 1048576: true; the input reads as it did. -/
def escapeBytesUptoRow : OpenClaim := { program := "ytkojlnjhndnfkaa", sum := "005af270dab11e97a300c661f87617ba3cd0a134727a702bfca3f3125a49869a", func := "gripsack/gripsacklaw4.EscapeBytes", spec := "escapeBytes", inPlace := ["internal/abi.NoEscape", "internal/bytealg.IndexByteString"], unfollowed := true, recurses := true, apart := false, narrowed := true }
def EscapeBytesUptoSaid : Prop := escapeBytesUptoRow.holds Try.pinned (OpenSpec.upto escapeBytesSpec)

end Rows
end Go.Proofs.Ytkojlnjhndnfkaa
