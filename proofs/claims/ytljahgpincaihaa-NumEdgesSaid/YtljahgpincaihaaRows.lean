/-
  No cell of these rows narrows 'for every input' (looked for: loops, veiled, ifaces, maps, wideKeys, modest, calm, conditions, laid).
  DERIVED. THE GIVEN ROWS OF THIS SEAT. 5 by the template 'for every input the law returns true; each argument reads behind the call as it read before'; 0 by the template 'total and deterministic' (their statements: YtljahgpincaihaaTotals.lean).
  GIVEN WITH THE SEED: the statements are not yours to turn. If you find one false, say at which input.
  Laid BY PROGRAM, IN A SANDBOX (cutbox-rows.mjs): the forced cells as the released guide's own fill.sh prints them over the translation 5b97f9fc63bcf20e… (all of the seat's roots in one cut). By AI agents, Wed Nov 11 2026. No macro, syntax, notation, axiom, sorry.
-/
import Derived.Test.YtljahgpincaihaaChecked
import GoSem.Claim
import GoSem.ClaimJoined
import GoSem.ClaimMapViews
import Derived.JoinedTies
import Derived.KernelRfl
namespace Go.Proofs.Ytljahgpincaihaa
/- THE CELL 'sum', in the pinned program and in every row, IS THE sha256 OF THE DUMP (.gsa) THAT YtljahgpincaihaaProg.lean LOADS. Nothing in Lean hashes anything: it is a label: what it is worth is what the hold of that sum in a sandbox is worth. -/
noncomputable def Try.pinned : Pinned := { name := "ytljahgpincaihaa", sum := "5b97f9fc63bcf20efb959e11fa03df372bd0a982bb69362c84927deeadf9b03e", checked := Try.checked }
namespace Rows
def none {H : Type} : Left H := { results := [], args := [] }

/-- 'gripsacklaw1.NumAll': WHATEVER THE INPUT: true; the input reads as it did. -/
def numAllSpec : ChangeSpec := { name := "numAll", fn := fun _ => fun
  | [d1, d2, d3] => { results := [.lit (.bool true)], args := [d1, d2, d3] }
  | _ => none }
def numAllRow : OpenClaim := { program := "ytljahgpincaihaa", sum := "5b97f9fc63bcf20efb959e11fa03df372bd0a982bb69362c84927deeadf9b03e", func := "gripsack/gripsacklaw1.NumAll", spec := "numAll", unfollowed := true, recurses := true, apart := false }
def NumAllSaid : Prop := numAllRow.holds Try.pinned (OpenSpec.ofChange numAllSpec)

/-- ITS FALSE NEIGHBOUR: 'it returns false'. Refute it at one input. -/
def numAllWrong : ChangeSpec := { name := "numAll", fn := fun _ => fun
  | [d1, d2, d3] => { results := [.lit (.bool false)], args := [d1, d2, d3] }
  | _ => none }
def NumAllWrongFalsely : Prop := numAllRow.holds Try.pinned (OpenSpec.ofChange numAllWrong)

/-- 'gripsacklaw1.NumBack': WHATEVER THE INPUT: true; the input reads as it did. -/
def numBackSpec : ChangeSpec := { name := "numBack", fn := fun _ => fun
  | [d1, d2, d3, d4] => { results := [.lit (.bool true)], args := [d1, d2, d3, d4] }
  | _ => none }
def numBackRow : OpenClaim := { program := "ytljahgpincaihaa", sum := "5b97f9fc63bcf20efb959e11fa03df372bd0a982bb69362c84927deeadf9b03e", func := "gripsack/gripsacklaw1.NumBack", spec := "numBack", unfollowed := true, recurses := true, apart := false }
def NumBackSaid : Prop := numBackRow.holds Try.pinned (OpenSpec.ofChange numBackSpec)

/-- ITS FALSE NEIGHBOUR: 'it returns false'. Refute it at one input. -/
def numBackWrong : ChangeSpec := { name := "numBack", fn := fun _ => fun
  | [d1, d2, d3, d4] => { results := [.lit (.bool false)], args := [d1, d2, d3, d4] }
  | _ => none }
def NumBackWrongFalsely : Prop := numBackRow.holds Try.pinned (OpenSpec.ofChange numBackWrong)

/-- 'gripsacklaw1.NumKinds': WHATEVER THE INPUT: true; the input reads as it did. -/
def numKindsSpec : ChangeSpec := { name := "numKinds", fn := fun _ => fun
  | [d1, d2] => { results := [.lit (.bool true)], args := [d1, d2] }
  | _ => none }
def numKindsRow : OpenClaim := { program := "ytljahgpincaihaa", sum := "5b97f9fc63bcf20efb959e11fa03df372bd0a982bb69362c84927deeadf9b03e", func := "gripsack/gripsacklaw1.NumKinds", spec := "numKinds", unfollowed := true, recurses := true, apart := false }
def NumKindsSaid : Prop := numKindsRow.holds Try.pinned (OpenSpec.ofChange numKindsSpec)

/-- ITS FALSE NEIGHBOUR: 'it returns false'. Refute it at one input. -/
def numKindsWrong : ChangeSpec := { name := "numKinds", fn := fun _ => fun
  | [d1, d2] => { results := [.lit (.bool false)], args := [d1, d2] }
  | _ => none }
def NumKindsWrongFalsely : Prop := numKindsRow.holds Try.pinned (OpenSpec.ofChange numKindsWrong)

/-- 'gripsacklaw1.NumOrder': WHATEVER THE INPUT: true; the input reads as it did. -/
def numOrderSpec : ChangeSpec := { name := "numOrder", fn := fun _ => fun
  | [d1, d2, d3] => { results := [.lit (.bool true)], args := [d1, d2, d3] }
  | _ => none }
def numOrderRow : OpenClaim := { program := "ytljahgpincaihaa", sum := "5b97f9fc63bcf20efb959e11fa03df372bd0a982bb69362c84927deeadf9b03e", func := "gripsack/gripsacklaw1.NumOrder", spec := "numOrder", unfollowed := true, recurses := true, apart := false }
def NumOrderSaid : Prop := numOrderRow.holds Try.pinned (OpenSpec.ofChange numOrderSpec)

/-- ITS FALSE NEIGHBOUR: 'it returns false'. Refute it at one input. -/
def numOrderWrong : ChangeSpec := { name := "numOrder", fn := fun _ => fun
  | [d1, d2, d3] => { results := [.lit (.bool false)], args := [d1, d2, d3] }
  | _ => none }
def NumOrderWrongFalsely : Prop := numOrderRow.holds Try.pinned (OpenSpec.ofChange numOrderWrong)

/-- 'gripsacklaw1.NumEdges': WHATEVER THE INPUT: true; the input reads as it did. -/
def numEdgesSpec : ChangeSpec := { name := "numEdges", fn := fun _ => fun
  | [d1, d2] => { results := [.lit (.bool true)], args := [d1, d2] }
  | _ => none }
def numEdgesRow : OpenClaim := { program := "ytljahgpincaihaa", sum := "5b97f9fc63bcf20efb959e11fa03df372bd0a982bb69362c84927deeadf9b03e", func := "gripsack/gripsacklaw1.NumEdges", spec := "numEdges", unfollowed := true, recurses := true, apart := false }
def NumEdgesSaid : Prop := numEdgesRow.holds Try.pinned (OpenSpec.ofChange numEdgesSpec)

/-- ITS FALSE NEIGHBOUR: 'it returns false'. Refute it at one input. -/
def numEdgesWrong : ChangeSpec := { name := "numEdges", fn := fun _ => fun
  | [d1, d2] => { results := [.lit (.bool false)], args := [d1, d2] }
  | _ => none }
def NumEdgesWrongFalsely : Prop := numEdgesRow.holds Try.pinned (OpenSpec.ofChange numEdgesWrong)

/- THE SECOND FORM. 'bulk': how many values and letters a reading holds, each counted each time it is reached (what is shared counts as often as it is met; a slice's spare places count too). A statement '..UptoSaid' is the law's where the arguments, and the package variables that the reading takes, are together of bulk at most 1048576: NARROWER than '..Said'. Prove '..Said' where nothing that the law and all that it calls make is longer than what came in: it says more and counts as full. Else prove '..UptoSaid'. A law counts once. -/
mutual
def uptoBulk {H : Type} : DataW H → Nat
  | .lit (.string bytes) => bytes.length + 1
  | .lit _ => 1
  | .nil => 1
  | .ptr d => uptoBulk d + 1
  | .slice elems spare => uptoBulkAll elems + uptoBulkAll spare + 1
  | .agg parts => uptoBulkAll parts + 1
  | .iface _ d => uptoBulk d + 1
  | .map entries => uptoBulkEntries entries + 1
  | .held _ => 1
def uptoBulkAll {H : Type} : List (DataW H) → Nat
  | [] => 0
  | d :: r => uptoBulk d + uptoBulkAll r
def uptoBulkEntries {H : Type} : List (Lit × DataW H) → Nat
  | [] => 0
  | x :: r => uptoBulkEntry x + uptoBulkEntries r
def uptoBulkEntry {H : Type} : Lit × DataW H → Nat
  | (.string bytes, d) => bytes.length + uptoBulk d + 1
  | (_, d) => uptoBulk d + 1
 end
def uptoSmall : (H : Type) → List (DataW H) → Bool := fun _ ds => decide (uptoBulkAll ds ≤ 1048576)
def OpenSpec.upto (s : _root_.Go.ChangeSpec) : _root_.Go.OpenSpec := { _root_.Go.OpenSpec.ofChange s with cond := some uptoSmall }

/-- 'gripsacklaw1.NumAll', WHERE WHAT IT READS IS OF BULK AT MOST 1048576: true; the input reads as it did. -/
def numAllUptoRow : OpenClaim := { program := "ytljahgpincaihaa", sum := "5b97f9fc63bcf20efb959e11fa03df372bd0a982bb69362c84927deeadf9b03e", func := "gripsack/gripsacklaw1.NumAll", spec := "numAll", unfollowed := true, recurses := true, apart := false, narrowed := true }
def NumAllUptoSaid : Prop := numAllUptoRow.holds Try.pinned (OpenSpec.upto numAllSpec)

/-- 'gripsacklaw1.NumBack', WHERE WHAT IT READS IS OF BULK AT MOST 1048576: true; the input reads as it did. -/
def numBackUptoRow : OpenClaim := { program := "ytljahgpincaihaa", sum := "5b97f9fc63bcf20efb959e11fa03df372bd0a982bb69362c84927deeadf9b03e", func := "gripsack/gripsacklaw1.NumBack", spec := "numBack", unfollowed := true, recurses := true, apart := false, narrowed := true }
def NumBackUptoSaid : Prop := numBackUptoRow.holds Try.pinned (OpenSpec.upto numBackSpec)

/-- 'gripsacklaw1.NumKinds', WHERE WHAT IT READS IS OF BULK AT MOST 1048576: true; the input reads as it did. -/
def numKindsUptoRow : OpenClaim := { program := "ytljahgpincaihaa", sum := "5b97f9fc63bcf20efb959e11fa03df372bd0a982bb69362c84927deeadf9b03e", func := "gripsack/gripsacklaw1.NumKinds", spec := "numKinds", unfollowed := true, recurses := true, apart := false, narrowed := true }
def NumKindsUptoSaid : Prop := numKindsUptoRow.holds Try.pinned (OpenSpec.upto numKindsSpec)

/-- 'gripsacklaw1.NumOrder', WHERE WHAT IT READS IS OF BULK AT MOST 1048576: true; the input reads as it did. -/
def numOrderUptoRow : OpenClaim := { program := "ytljahgpincaihaa", sum := "5b97f9fc63bcf20efb959e11fa03df372bd0a982bb69362c84927deeadf9b03e", func := "gripsack/gripsacklaw1.NumOrder", spec := "numOrder", unfollowed := true, recurses := true, apart := false, narrowed := true }
def NumOrderUptoSaid : Prop := numOrderUptoRow.holds Try.pinned (OpenSpec.upto numOrderSpec)

/-- 'gripsacklaw1.NumEdges', WHERE WHAT IT READS IS OF BULK AT MOST 1048576: true; the input reads as it did. -/
def numEdgesUptoRow : OpenClaim := { program := "ytljahgpincaihaa", sum := "5b97f9fc63bcf20efb959e11fa03df372bd0a982bb69362c84927deeadf9b03e", func := "gripsack/gripsacklaw1.NumEdges", spec := "numEdges", unfollowed := true, recurses := true, apart := false, narrowed := true }
def NumEdgesUptoSaid : Prop := numEdgesUptoRow.holds Try.pinned (OpenSpec.upto numEdgesSpec)

end Rows
end Go.Proofs.Ytljahgpincaihaa
