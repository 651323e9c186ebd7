/-
  No cell of these rows narrows 'for every input' (looked for: loops, veiled, ifaces, maps, wideKeys, modest, calm, conditions, laid).
  DERIVED. THE GIVEN ROWS OF THIS SEAT. 4 by the template 'for every input the law returns true; each argument reads behind the call as it read before'; 0 by the template 'total and deterministic' (their statements: YtljodbbmcgpcnaaTotals.lean).
  GIVEN WITH THE SEED: the statements are not yours to turn. If you find one false, say at which input.
  Laid BY PROGRAM, IN A SANDBOX (cutbox-rows.mjs): the forced cells as the released guide's own fill.sh prints them over the translation 6953c8af2f1d6383… (all of the seat's roots in one cut). By AI agents, Wed Nov 11 2026. No macro, syntax, notation, axiom, sorry.
-/
import Derived.Test.YtljodbbmcgpcnaaChecked
import GoSem.Claim
import GoSem.ClaimJoined
import GoSem.ClaimMapViews
import Derived.JoinedTies
import Derived.KernelRfl
namespace Go.Proofs.Ytljodbbmcgpcnaa
/- THE CELL 'sum', in the pinned program and in every row, IS THE sha256 OF THE DUMP (.gsa) THAT YtljodbbmcgpcnaaProg.lean LOADS. Nothing in Lean hashes anything: it is a label: what it is worth is what the hold of that sum in a sandbox is worth. -/
noncomputable def Try.pinned : Pinned := { name := "ytljodbbmcgpcnaa", sum := "6953c8af2f1d638307106adc23077c615e182c77cfbf9430ed93df7e0580af64", checked := Try.checked }
namespace Rows
def none {H : Type} : Left H := { results := [], args := [] }

/-- 'gripsacklaw5.TextAll': WHATEVER THE INPUT: true; the input reads as it did. -/
def textAllSpec : ChangeSpec := { name := "textAll", fn := fun _ => fun
  | [d] => { results := [.lit (.bool true)], args := [d] }
  | _ => none }
def textAllRow : OpenClaim := { program := "ytljodbbmcgpcnaa", sum := "6953c8af2f1d638307106adc23077c615e182c77cfbf9430ed93df7e0580af64", func := "gripsack/gripsacklaw5.TextAll", spec := "textAll", unfollowed := true, recurses := true, apart := false }
def TextAllSaid : Prop := textAllRow.holds Try.pinned (OpenSpec.ofChange textAllSpec)

/-- ITS FALSE NEIGHBOUR: 'it returns false'. Refute it at one input. -/
def textAllWrong : ChangeSpec := { name := "textAll", fn := fun _ => fun
  | [d] => { results := [.lit (.bool false)], args := [d] }
  | _ => none }
def TextAllWrongFalsely : Prop := textAllRow.holds Try.pinned (OpenSpec.ofChange textAllWrong)

/-- 'gripsacklaw5.TextSigns': WHATEVER THE INPUT: true; the input reads as it did. -/
def textSignsSpec : ChangeSpec := { name := "textSigns", fn := fun _ => fun
  | [d] => { results := [.lit (.bool true)], args := [d] }
  | _ => none }
def textSignsRow : OpenClaim := { program := "ytljodbbmcgpcnaa", sum := "6953c8af2f1d638307106adc23077c615e182c77cfbf9430ed93df7e0580af64", func := "gripsack/gripsacklaw5.TextSigns", spec := "textSigns", unfollowed := true, recurses := true, apart := false }
def TextSignsSaid : Prop := textSignsRow.holds Try.pinned (OpenSpec.ofChange textSignsSpec)

/-- ITS FALSE NEIGHBOUR: 'it returns false'. Refute it at one input. -/
def textSignsWrong : ChangeSpec := { name := "textSigns", fn := fun _ => fun
  | [d] => { results := [.lit (.bool false)], args := [d] }
  | _ => none }
def TextSignsWrongFalsely : Prop := textSignsRow.holds Try.pinned (OpenSpec.ofChange textSignsWrong)

/-- 'gripsacklaw5.TextJoins': WHATEVER THE INPUT: true; the input reads as it did. -/
def textJoinsSpec : ChangeSpec := { name := "textJoins", fn := fun _ => fun
  | [d1, d2, d3] => { results := [.lit (.bool true)], args := [d1, d2, d3] }
  | _ => none }
def textJoinsRow : OpenClaim := { program := "ytljodbbmcgpcnaa", sum := "6953c8af2f1d638307106adc23077c615e182c77cfbf9430ed93df7e0580af64", func := "gripsack/gripsacklaw5.TextJoins", spec := "textJoins", unfollowed := true, recurses := true, apart := false }
def TextJoinsSaid : Prop := textJoinsRow.holds Try.pinned (OpenSpec.ofChange textJoinsSpec)

/-- ITS FALSE NEIGHBOUR: 'it returns false'. Refute it at one input. -/
def textJoinsWrong : ChangeSpec := { name := "textJoins", fn := fun _ => fun
  | [d1, d2, d3] => { results := [.lit (.bool false)], args := [d1, d2, d3] }
  | _ => none }
def TextJoinsWrongFalsely : Prop := textJoinsRow.holds Try.pinned (OpenSpec.ofChange textJoinsWrong)

/-- 'gripsacklaw5.TextKnown': WHATEVER THE INPUT: true; the input reads as it did. -/
def textKnownSpec : ChangeSpec := { name := "textKnown", fn := fun _ => fun
  | [d] => { results := [.lit (.bool true)], args := [d] }
  | _ => none }
def textKnownRow : OpenClaim := { program := "ytljodbbmcgpcnaa", sum := "6953c8af2f1d638307106adc23077c615e182c77cfbf9430ed93df7e0580af64", func := "gripsack/gripsacklaw5.TextKnown", spec := "textKnown", unfollowed := true, recurses := true, apart := false }
def TextKnownSaid : Prop := textKnownRow.holds Try.pinned (OpenSpec.ofChange textKnownSpec)

/-- ITS FALSE NEIGHBOUR: 'it returns false'. Refute it at one input. -/
def textKnownWrong : ChangeSpec := { name := "textKnown", fn := fun _ => fun
  | [d] => { results := [.lit (.bool false)], args := [d] }
  | _ => none }
def TextKnownWrongFalsely : Prop := textKnownRow.holds Try.pinned (OpenSpec.ofChange textKnownWrong)

/- THE SECOND FORM. 'bulk': how many values and letters a reading holds, each counted each time it is reached (what is shared counts as often as it is met; a slice's spare places count too). A statement '..UptoSaid' is the law's where the arguments, and the package variables that the reading takes, are together of bulk at most 1048576: NARROWER than '..Said'. Prove '..Said' where nothing that the law and all that it calls make is longer than what came in: it says more and counts as full. Else prove '..UptoSaid'. A law counts once. -/
mutual
def uptoBulk {H : Type} : DataW H → Nat
  | .lit (.string bytes) => bytes.length + 1
  | .lit _ => 1
  | .nil => 1
  | .ptr d => uptoBulk d + 1
  | .slice elems spare => uptoBulkAll elems + uptoBulkAll spare + 1
  | .agg parts => uptoBulkAll parts + 1
  | .iface _ d => uptoBulk d + 1
  | .map entries => uptoBulkEntries entries + 1
  | .held _ => 1
def uptoBulkAll {H : Type} : List (DataW H) → Nat
  | [] => 0
  | d :: r => uptoBulk d + uptoBulkAll r
def uptoBulkEntries {H : Type} : List (Lit × DataW H) → Nat
  | [] => 0
  | x :: r => uptoBulkEntry x + uptoBulkEntries r
def uptoBulkEntry {H : Type} : Lit × DataW H → Nat
  | (.string bytes, d) => bytes.length + uptoBulk d + 1
  | (_, d) => uptoBulk d + 1
 end
def uptoSmall : (H : Type) → List (DataW H) → Bool := fun _ ds => decide (uptoBulkAll ds ≤ 1048576)
def OpenSpec.upto (s : _root_.Go.ChangeSpec) : _root_.Go.OpenSpec := { _root_.Go.OpenSpec.ofChange s with cond := some uptoSmall }

/-- 'gripsacklaw5.TextAll', WHERE WHAT IT READS IS OF BULK AT MOST 1048576: true; the input reads as it did. -/
def textAllUptoRow : OpenClaim := { program := "ytljodbbmcgpcnaa", sum := "6953c8af2f1d638307106adc23077c615e182c77cfbf9430ed93df7e0580af64", func := "gripsack/gripsacklaw5.TextAll", spec := "textAll", unfollowed := true, recurses := true, apart := false, narrowed := true }
def TextAllUptoSaid : Prop := textAllUptoRow.holds Try.pinned (OpenSpec.upto textAllSpec)

/-- 'gripsacklaw5.TextSigns', WHERE WHAT IT READS IS OF BULK AT MOST 1048576: true; the input reads as it did. -/
def textSignsUptoRow : OpenClaim := { program := "ytljodbbmcgpcnaa", sum := "6953c8af2f1d638307106adc23077c615e182c77cfbf9430ed93df7e0580af64", func := "gripsack/gripsacklaw5.TextSigns", spec := "textSigns", unfollowed := true, recurses := true, apart := false, narrowed := true }
def TextSignsUptoSaid : Prop := textSignsUptoRow.holds Try.pinned (OpenSpec.upto textSignsSpec)

/-- 'gripsacklaw5.TextJoins', WHERE WHAT IT READS IS OF BULK AT MOST 1048576: true; the input reads as it did. -/
def textJoinsUptoRow : OpenClaim := { program := "ytljodbbmcgpcnaa", sum := "6953c8af2f1d638307106adc23077c615e182c77cfbf9430ed93df7e0580af64", func := "gripsack/gripsacklaw5.TextJoins", spec := "textJoins", unfollowed := true, recurses := true, apart := false, narrowed := true }
def TextJoinsUptoSaid : Prop := textJoinsUptoRow.holds Try.pinned (OpenSpec.upto textJoinsSpec)

/-- 'gripsacklaw5.TextKnown', WHERE WHAT IT READS IS OF BULK AT MOST 1048576: true; the input reads as it did. -/
def textKnownUptoRow : OpenClaim := { program := "ytljodbbmcgpcnaa", sum := "6953c8af2f1d638307106adc23077c615e182c77cfbf9430ed93df7e0580af64", func := "gripsack/gripsacklaw5.TextKnown", spec := "textKnown", unfollowed := true, recurses := true, apart := false, narrowed := true }
def TextKnownUptoSaid : Prop := textKnownUptoRow.holds Try.pinned (OpenSpec.upto textKnownSpec)

end Rows
end Go.Proofs.Ytljodbbmcgpcnaa
