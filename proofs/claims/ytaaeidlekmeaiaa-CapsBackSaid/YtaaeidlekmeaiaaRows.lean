/-
  No cell of these rows narrows 'for every input' (looked for: loops, veiled, ifaces, maps, wideKeys, modest, calm, conditions, laid).
  DERIVED. THE GIVEN ROWS OF THIS SEAT. 4 by the template 'for every input the law returns true; each argument reads behind the call as it read before'; 0 by the template 'total and deterministic' (their statements: YtaaeidlekmeaiaaTotals.lean).
  GIVEN WITH THE SEED: the statements are not yours to turn. If you find one false, say at which input.
  Laid BY PROGRAM, IN A SANDBOX (cutbox-rows.mjs): the forced cells as the released guide's own fill.sh prints them over the translation 95c1dde68db5f69f… (all of the seat's roots in one cut). By AI agents, Wed Nov 11 2026. No macro, syntax, notation, axiom, sorry.
-/
import Derived.Test.YtaaeidlekmeaiaaChecked
import GoSem.Claim
import GoSem.ClaimJoined
import GoSem.ClaimMapViews
import Derived.JoinedTies
import Derived.KernelRfl
namespace Go.Proofs.Ytaaeidlekmeaiaa
/- THE CELL 'sum', in the pinned program and in every row, IS THE sha256 OF THE DUMP (.gsa) THAT YtaaeidlekmeaiaaProg.lean LOADS. Nothing in Lean hashes anything: it is a label: what it is worth is what the hold of that sum in a sandbox is worth. -/
noncomputable def Try.pinned : Pinned := { name := "ytaaeidlekmeaiaa", sum := "95c1dde68db5f69fc3f45af1f64546669df089150b57d82203049beb9f248a59", checked := Try.checked }
namespace Rows
def none {H : Type} : Left H := { results := [], args := [] }

/-- 'gripsacklaw11.CapsAll': WHATEVER THE INPUT: true; the input reads as it did. -/
def capsAllSpec : ChangeSpec := { name := "capsAll", fn := fun _ => fun
  | [d1, d2] => { results := [.lit (.bool true)], args := [d1, d2] }
  | _ => none }
def capsAllRow : OpenClaim := { program := "ytaaeidlekmeaiaa", sum := "95c1dde68db5f69fc3f45af1f64546669df089150b57d82203049beb9f248a59", func := "gripsack/gripsacklaw11.CapsAll", spec := "capsAll", unfollowed := true, recurses := true, apart := false }
def CapsAllSaid : Prop := capsAllRow.holds Try.pinned (OpenSpec.ofChange capsAllSpec)

/-- ITS FALSE NEIGHBOUR: 'it returns false'. Refute it at one input. -/
def capsAllWrong : ChangeSpec := { name := "capsAll", fn := fun _ => fun
  | [d1, d2] => { results := [.lit (.bool false)], args := [d1, d2] }
  | _ => none }
def CapsAllWrongFalsely : Prop := capsAllRow.holds Try.pinned (OpenSpec.ofChange capsAllWrong)

/-- 'gripsacklaw11.CapsBack': WHATEVER THE INPUT: true; the input reads as it did. -/
def capsBackSpec : ChangeSpec := { name := "capsBack", fn := fun _ => fun
  | [d1, d2, d3, d4, d5, d6, d7] => { results := [.lit (.bool true)], args := [d1, d2, d3, d4, d5, d6, d7] }
  | _ => none }
def capsBackRow : OpenClaim := { program := "ytaaeidlekmeaiaa", sum := "95c1dde68db5f69fc3f45af1f64546669df089150b57d82203049beb9f248a59", func := "gripsack/gripsacklaw11.CapsBack", spec := "capsBack", unfollowed := true, recurses := true, apart := false }
def CapsBackSaid : Prop := capsBackRow.holds Try.pinned (OpenSpec.ofChange capsBackSpec)

/-- ITS FALSE NEIGHBOUR: 'it returns false'. Refute it at one input. -/
def capsBackWrong : ChangeSpec := { name := "capsBack", fn := fun _ => fun
  | [d1, d2, d3, d4, d5, d6, d7] => { results := [.lit (.bool false)], args := [d1, d2, d3, d4, d5, d6, d7] }
  | _ => none }
def CapsBackWrongFalsely : Prop := capsBackRow.holds Try.pinned (OpenSpec.ofChange capsBackWrong)

/-- 'gripsacklaw11.CapsBits': WHATEVER THE INPUT: true; the input reads as it did. -/
def capsBitsSpec : ChangeSpec := { name := "capsBits", fn := fun _ => fun
  | [d1, d2] => { results := [.lit (.bool true)], args := [d1, d2] }
  | _ => none }
def capsBitsRow : OpenClaim := { program := "ytaaeidlekmeaiaa", sum := "95c1dde68db5f69fc3f45af1f64546669df089150b57d82203049beb9f248a59", func := "gripsack/gripsacklaw11.CapsBits", spec := "capsBits", unfollowed := true, recurses := true, apart := false }
def CapsBitsSaid : Prop := capsBitsRow.holds Try.pinned (OpenSpec.ofChange capsBitsSpec)

/-- ITS FALSE NEIGHBOUR: 'it returns false'. Refute it at one input. -/
def capsBitsWrong : ChangeSpec := { name := "capsBits", fn := fun _ => fun
  | [d1, d2] => { results := [.lit (.bool false)], args := [d1, d2] }
  | _ => none }
def CapsBitsWrongFalsely : Prop := capsBitsRow.holds Try.pinned (OpenSpec.ofChange capsBitsWrong)

/-- 'gripsacklaw11.CapsOther': WHATEVER THE INPUT: true; the input reads as it did. -/
def capsOtherSpec : ChangeSpec := { name := "capsOther", fn := fun _ => fun
  | [d1, d2] => { results := [.lit (.bool true)], args := [d1, d2] }
  | _ => none }
def capsOtherRow : OpenClaim := { program := "ytaaeidlekmeaiaa", sum := "95c1dde68db5f69fc3f45af1f64546669df089150b57d82203049beb9f248a59", func := "gripsack/gripsacklaw11.CapsOther", spec := "capsOther", unfollowed := true, recurses := true, apart := false }
def CapsOtherSaid : Prop := capsOtherRow.holds Try.pinned (OpenSpec.ofChange capsOtherSpec)

/-- ITS FALSE NEIGHBOUR: 'it returns false'. Refute it at one input. -/
def capsOtherWrong : ChangeSpec := { name := "capsOther", fn := fun _ => fun
  | [d1, d2] => { results := [.lit (.bool false)], args := [d1, d2] }
  | _ => none }
def CapsOtherWrongFalsely : Prop := capsOtherRow.holds Try.pinned (OpenSpec.ofChange capsOtherWrong)

/- THE SECOND FORM. 'bulk': how many values and letters a reading holds, each counted each time it is reached (what is shared counts as often as it is met; a slice's spare places count too). A statement '..UptoSaid' is the law's where the arguments, and the package variables that the reading takes, are together of bulk at most 1048576: NARROWER than '..Said'. Prove '..Said' where nothing that the law and all that it calls make is longer than what came in: it says more and counts as full. Else prove '..UptoSaid'. A law counts once. -/
mutual
def uptoBulk {H : Type} : DataW H → Nat
  | .lit (.string bytes) => bytes.length + 1
  | .lit _ => 1
  | .nil => 1
  | .ptr d => uptoBulk d + 1
  | .slice elems spare => uptoBulkAll elems + uptoBulkAll spare + 1
  | .agg parts => uptoBulkAll parts + 1
  | .iface _ d => uptoBulk d + 1
  | .map entries => uptoBulkEntries entries + 1
  | .held _ => 1
def uptoBulkAll {H : Type} : List (DataW H) → Nat
  | [] => 0
  | d :: r => uptoBulk d + uptoBulkAll r
def uptoBulkEntries {H : Type} : List (Lit × DataW H) → Nat
  | [] => 0
  | x :: r => uptoBulkEntry x + uptoBulkEntries r
def uptoBulkEntry {H : Type} : Lit × DataW H → Nat
  | (.string bytes, d) => bytes.length + uptoBulk d + 1
  | (_, d) => uptoBulk d + 1
 end
def uptoSmall : (H : Type) → List (DataW H) → Bool := fun _ ds => decide (uptoBulkAll ds ≤ 1048576)
def OpenSpec.upto (s : _root_.Go.ChangeSpec) : _root_.Go.OpenSpec := { _root_.Go.OpenSpec.ofChange s with cond := some uptoSmall }

/-- 'gripsacklaw11.CapsAll', WHERE WHAT IT READS IS OF BULK AT MOST 1048576: true; the input reads as it did. -/
def capsAllUptoRow : OpenClaim := { program := "ytaaeidlekmeaiaa", sum := "95c1dde68db5f69fc3f45af1f64546669df089150b57d82203049beb9f248a59", func := "gripsack/gripsacklaw11.CapsAll", spec := "capsAll", unfollowed := true, recurses := true, apart := false, narrowed := true }
def CapsAllUptoSaid : Prop := capsAllUptoRow.holds Try.pinned (OpenSpec.upto capsAllSpec)

/-- 'gripsacklaw11.CapsBack', WHERE WHAT IT READS IS OF BULK AT MOST 1048576: true; the input reads as it did. -/
def capsBackUptoRow : OpenClaim := { program := "ytaaeidlekmeaiaa", sum := "95c1dde68db5f69fc3f45af1f64546669df089150b57d82203049beb9f248a59", func := "gripsack/gripsacklaw11.CapsBack", spec := "capsBack", unfollowed := true, recurses := true, apart := false, narrowed := true }
def CapsBackUptoSaid : Prop := capsBackUptoRow.holds Try.pinned (OpenSpec.upto capsBackSpec)

/-- 'gripsacklaw11.CapsBits', WHERE WHAT IT READS IS OF BULK AT MOST 1048576: true; the input reads as it did. -/
def capsBitsUptoRow : OpenClaim := { program := "ytaaeidlekmeaiaa", sum := "95c1dde68db5f69fc3f45af1f64546669df089150b57d82203049beb9f248a59", func := "gripsack/gripsacklaw11.CapsBits", spec := "capsBits", unfollowed := true, recurses := true, apart := false, narrowed := true }
def CapsBitsUptoSaid : Prop := capsBitsUptoRow.holds Try.pinned (OpenSpec.upto capsBitsSpec)

/-- 'gripsacklaw11.CapsOther', WHERE WHAT IT READS IS OF BULK AT MOST 1048576: true; the input reads as it did. -/
def capsOtherUptoRow : OpenClaim := { program := "ytaaeidlekmeaiaa", sum := "95c1dde68db5f69fc3f45af1f64546669df089150b57d82203049beb9f248a59", func := "gripsack/gripsacklaw11.CapsOther", spec := "capsOther", unfollowed := true, recurses := true, apart := false, narrowed := true }
def CapsOtherUptoSaid : Prop := capsOtherUptoRow.holds Try.pinned (OpenSpec.upto capsOtherSpec)

end Rows
end Go.Proofs.Ytaaeidlekmeaiaa
