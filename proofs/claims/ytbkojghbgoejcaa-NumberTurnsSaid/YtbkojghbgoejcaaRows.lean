/-
  No cell of these rows narrows 'for every input' (looked for: loops, veiled, ifaces, maps, wideKeys, modest, calm, conditions, laid).
  DERIVED. THE GIVEN ROWS OF THIS SEAT. 6 by the template 'for every input the law returns true; each argument reads behind the call as it read before'; 0 by the template 'total and deterministic' (their statements: YtbkojghbgoejcaaTotals.lean).
  GIVEN WITH THE SEED: the statements are not yours to turn. If you find one false, say at which input.
  Laid BY PROGRAM, IN A SANDBOX (cutbox-rows.mjs): the forced cells as the released guide's own fill.sh prints them over the translation 4b966ba88b5edec1… (all of the seat's roots in one cut). By AI agents, Wed Nov 11 2026. No macro, syntax, notation, axiom, sorry.
-/
import Derived.Test.YtbkojghbgoejcaaChecked
import GoSem.Claim
import GoSem.ClaimJoined
import GoSem.ClaimMapViews
import Derived.JoinedTies
import Derived.KernelRfl
namespace Go.Proofs.Ytbkojghbgoejcaa
/- THE CELL 'sum', in the pinned program and in every row, IS THE sha256 OF THE DUMP (.gsa) THAT YtbkojghbgoejcaaProg.lean LOADS. Nothing in Lean hashes anything: it is a label: what it is worth is what the hold of that sum in a sandbox is worth. -/
noncomputable def Try.pinned : Pinned := { name := "ytbkojghbgoejcaa", sum := "4b966ba88b5edec1f0473c127e378429a8697f5e7271e005d557dc0113e8e8df", checked := Try.checked }
namespace Rows
def none {H : Type} : Left H := { results := [], args := [] }

/-- 'elenchuslaw1.NumberWhole': WHATEVER THE INPUT: true; the input reads as it did. -/
def numberWholeSpec : ChangeSpec := { name := "numberWhole", fn := fun _ => fun
  | [d1, d2, d3, d4] => { results := [.lit (.bool true)], args := [d1, d2, d3, d4] }
  | _ => none }
def numberWholeRow : OpenClaim := { program := "ytbkojghbgoejcaa", sum := "4b966ba88b5edec1f0473c127e378429a8697f5e7271e005d557dc0113e8e8df", func := "elenchus/elenchuslaw1.NumberWhole", spec := "numberWhole", inPlace := ["math.Float64frombits", "math.Float64bits"], apart := false }
def NumberWholeSaid : Prop := numberWholeRow.holds Try.pinned (OpenSpec.ofChange numberWholeSpec)

/-- ITS FALSE NEIGHBOUR: 'it returns false'. Refute it at one input. -/
def numberWholeWrong : ChangeSpec := { name := "numberWhole", fn := fun _ => fun
  | [d1, d2, d3, d4] => { results := [.lit (.bool false)], args := [d1, d2, d3, d4] }
  | _ => none }
def NumberWholeWrongFalsely : Prop := numberWholeRow.holds Try.pinned (OpenSpec.ofChange numberWholeWrong)

/-- 'elenchuslaw1.NumberTurns': WHATEVER THE INPUT: true; the input reads as it did. -/
def numberTurnsSpec : ChangeSpec := { name := "numberTurns", fn := fun _ => fun
  | [d1, d2, d3, d4] => { results := [.lit (.bool true)], args := [d1, d2, d3, d4] }
  | _ => none }
def numberTurnsRow : OpenClaim := { program := "ytbkojghbgoejcaa", sum := "4b966ba88b5edec1f0473c127e378429a8697f5e7271e005d557dc0113e8e8df", func := "elenchus/elenchuslaw1.NumberTurns", spec := "numberTurns", inPlace := ["math.Float64frombits", "math.Float64bits"], apart := false }
def NumberTurnsSaid : Prop := numberTurnsRow.holds Try.pinned (OpenSpec.ofChange numberTurnsSpec)

/-- ITS FALSE NEIGHBOUR: 'it returns false'. Refute it at one input. -/
def numberTurnsWrong : ChangeSpec := { name := "numberTurns", fn := fun _ => fun
  | [d1, d2, d3, d4] => { results := [.lit (.bool false)], args := [d1, d2, d3, d4] }
  | _ => none }
def NumberTurnsWrongFalsely : Prop := numberTurnsRow.holds Try.pinned (OpenSpec.ofChange numberTurnsWrong)

/-- 'elenchuslaw1.NumberOrder': WHATEVER THE INPUT: true; the input reads as it did. -/
def numberOrderSpec : ChangeSpec := { name := "numberOrder", fn := fun _ => fun
  | [d1, d2, d3, d4, d5, d6] => { results := [.lit (.bool true)], args := [d1, d2, d3, d4, d5, d6] }
  | _ => none }
def numberOrderRow : OpenClaim := { program := "ytbkojghbgoejcaa", sum := "4b966ba88b5edec1f0473c127e378429a8697f5e7271e005d557dc0113e8e8df", func := "elenchus/elenchuslaw1.NumberOrder", spec := "numberOrder", apart := false }
def NumberOrderSaid : Prop := numberOrderRow.holds Try.pinned (OpenSpec.ofChange numberOrderSpec)

/-- ITS FALSE NEIGHBOUR: 'it returns false'. Refute it at one input. -/
def numberOrderWrong : ChangeSpec := { name := "numberOrder", fn := fun _ => fun
  | [d1, d2, d3, d4, d5, d6] => { results := [.lit (.bool false)], args := [d1, d2, d3, d4, d5, d6] }
  | _ => none }
def NumberOrderWrongFalsely : Prop := numberOrderRow.holds Try.pinned (OpenSpec.ofChange numberOrderWrong)

/-- 'elenchuslaw1.NumberReckons': WHATEVER THE INPUT: true; the input reads as it did. -/
def numberReckonsSpec : ChangeSpec := { name := "numberReckons", fn := fun _ => fun
  | [d1, d2] => { results := [.lit (.bool true)], args := [d1, d2] }
  | _ => none }
def numberReckonsRow : OpenClaim := { program := "ytbkojghbgoejcaa", sum := "4b966ba88b5edec1f0473c127e378429a8697f5e7271e005d557dc0113e8e8df", func := "elenchus/elenchuslaw1.NumberReckons", spec := "numberReckons", unfollowed := true, recurses := true, apart := false }
def NumberReckonsSaid : Prop := numberReckonsRow.holds Try.pinned (OpenSpec.ofChange numberReckonsSpec)

/-- ITS FALSE NEIGHBOUR: 'it returns false'. Refute it at one input. -/
def numberReckonsWrong : ChangeSpec := { name := "numberReckons", fn := fun _ => fun
  | [d1, d2] => { results := [.lit (.bool false)], args := [d1, d2] }
  | _ => none }
def NumberReckonsWrongFalsely : Prop := numberReckonsRow.holds Try.pinned (OpenSpec.ofChange numberReckonsWrong)

/-- 'elenchuslaw1.NumberRange': WHATEVER THE INPUT: true; the input reads as it did. -/
def numberRangeSpec : ChangeSpec := { name := "numberRange", fn := fun _ => fun
  | [d1, d2] => { results := [.lit (.bool true)], args := [d1, d2] }
  | _ => none }
def numberRangeRow : OpenClaim := { program := "ytbkojghbgoejcaa", sum := "4b966ba88b5edec1f0473c127e378429a8697f5e7271e005d557dc0113e8e8df", func := "elenchus/elenchuslaw1.NumberRange", spec := "numberRange", apart := false }
def NumberRangeSaid : Prop := numberRangeRow.holds Try.pinned (OpenSpec.ofChange numberRangeSpec)

/-- ITS FALSE NEIGHBOUR: 'it returns false'. Refute it at one input. -/
def numberRangeWrong : ChangeSpec := { name := "numberRange", fn := fun _ => fun
  | [d1, d2] => { results := [.lit (.bool false)], args := [d1, d2] }
  | _ => none }
def NumberRangeWrongFalsely : Prop := numberRangeRow.holds Try.pinned (OpenSpec.ofChange numberRangeWrong)

/-- 'elenchuslaw1.NumberMany': WHATEVER THE INPUT: true; the input reads as it did. -/
def numberManySpec : ChangeSpec := { name := "numberMany", fn := fun _ => fun
  | [d1, d2, d3] => { results := [.lit (.bool true)], args := [d1, d2, d3] }
  | _ => none }
def numberManyRow : OpenClaim := { program := "ytbkojghbgoejcaa", sum := "4b966ba88b5edec1f0473c127e378429a8697f5e7271e005d557dc0113e8e8df", func := "elenchus/elenchuslaw1.NumberMany", spec := "numberMany", apart := false }
def NumberManySaid : Prop := numberManyRow.holds Try.pinned (OpenSpec.ofChange numberManySpec)

/-- ITS FALSE NEIGHBOUR: 'it returns false'. Refute it at one input. -/
def numberManyWrong : ChangeSpec := { name := "numberMany", fn := fun _ => fun
  | [d1, d2, d3] => { results := [.lit (.bool false)], args := [d1, d2, d3] }
  | _ => none }
def NumberManyWrongFalsely : Prop := numberManyRow.holds Try.pinned (OpenSpec.ofChange numberManyWrong)

/- THE SECOND FORM. 'bulk': how many values and letters a reading holds, each counted each time it is reached (what is shared counts as often as it is met; a slice's spare places count too). A statement '..UptoSaid' is the law's where the arguments, and the package variables that the reading takes, are together of bulk at most 1048576: NARROWER than '..Said'. Prove '..Said' where nothing that the law and all that it calls make is longer than what came in: it says more and counts as full. Else prove '..UptoSaid'. A law counts once. -/
mutual
def uptoBulk {H : Type} : DataW H → Nat
  | .lit (.string bytes) => bytes.length + 1
  | .lit _ => 1
  | .nil => 1
  | .ptr d => uptoBulk d + 1
  | .slice elems spare => uptoBulkAll elems + uptoBulkAll spare + 1
  | .agg parts => uptoBulkAll parts + 1
  | .iface _ d => uptoBulk d + 1
  | .map entries => uptoBulkEntries entries + 1
  | .held _ => 1
def uptoBulkAll {H : Type} : List (DataW H) → Nat
  | [] => 0
  | d :: r => uptoBulk d + uptoBulkAll r
def uptoBulkEntries {H : Type} : List (Lit × DataW H) → Nat
  | [] => 0
  | x :: r => uptoBulkEntry x + uptoBulkEntries r
def uptoBulkEntry {H : Type} : Lit × DataW H → Nat
  | (.string bytes, d) => bytes.length + uptoBulk d + 1
  | (_, d) => uptoBulk d + 1
 end
def uptoSmall : (H : Type) → List (DataW H) → Bool := fun _ ds => decide (uptoBulkAll ds ≤ 1048576)
def OpenSpec.upto (s : _root_.Go.ChangeSpec) : _root_.Go.OpenSpec := { _root_.Go.OpenSpec.ofChange s with cond := some uptoSmall }

/-- 'elenchuslaw1.NumberWhole', WHERE WHAT IT READS IS OF BULK AT MOST 1048576: true; the input reads as it did. -/
def numberWholeUptoRow : OpenClaim := { program := "ytbkojghbgoejcaa", sum := "4b966ba88b5edec1f0473c127e378429a8697f5e7271e005d557dc0113e8e8df", func := "elenchus/elenchuslaw1.NumberWhole", spec := "numberWhole", inPlace := ["math.Float64frombits", "math.Float64bits"], apart := false, narrowed := true }
def NumberWholeUptoSaid : Prop := numberWholeUptoRow.holds Try.pinned (OpenSpec.upto numberWholeSpec)

/-- 'elenchuslaw1.NumberTurns', WHERE WHAT IT READS IS OF BULK AT MOST 1048576: true; the input reads as it did. -/
def numberTurnsUptoRow : OpenClaim := { program := "ytbkojghbgoejcaa", sum := "4b966ba88b5edec1f0473c127e378429a8697f5e7271e005d557dc0113e8e8df", func := "elenchus/elenchuslaw1.NumberTurns", spec := "numberTurns", inPlace := ["math.Float64frombits", "math.Float64bits"], apart := false, narrowed := true }
def NumberTurnsUptoSaid : Prop := numberTurnsUptoRow.holds Try.pinned (OpenSpec.upto numberTurnsSpec)

/-- 'elenchuslaw1.NumberOrder', WHERE WHAT IT READS IS OF BULK AT MOST 1048576: true; the input reads as it did. -/
def numberOrderUptoRow : OpenClaim := { program := "ytbkojghbgoejcaa", sum := "4b966ba88b5edec1f0473c127e378429a8697f5e7271e005d557dc0113e8e8df", func := "elenchus/elenchuslaw1.NumberOrder", spec := "numberOrder", apart := false, narrowed := true }
def NumberOrderUptoSaid : Prop := numberOrderUptoRow.holds Try.pinned (OpenSpec.upto numberOrderSpec)

/-- 'elenchuslaw1.NumberReckons', WHERE WHAT IT READS IS OF BULK AT MOST 1048576: true; the input reads as it did. -/
def numberReckonsUptoRow : OpenClaim := { program := "ytbkojghbgoejcaa", sum := "4b966ba88b5edec1f0473c127e378429a8697f5e7271e005d557dc0113e8e8df", func := "elenchus/elenchuslaw1.NumberReckons", spec := "numberReckons", unfollowed := true, recurses := true, apart := false, narrowed := true }
def NumberReckonsUptoSaid : Prop := numberReckonsUptoRow.holds Try.pinned (OpenSpec.upto numberReckonsSpec)

/-- 'elenchuslaw1.NumberRange', WHERE WHAT IT READS IS OF BULK AT MOST 1048576: true; the input reads as it did. -/
def numberRangeUptoRow : OpenClaim := { program := "ytbkojghbgoejcaa", sum := "4b966ba88b5edec1f0473c127e378429a8697f5e7271e005d557dc0113e8e8df", func := "elenchus/elenchuslaw1.NumberRange", spec := "numberRange", apart := false, narrowed := true }
def NumberRangeUptoSaid : Prop := numberRangeUptoRow.holds Try.pinned (OpenSpec.upto numberRangeSpec)

/-- 'elenchuslaw1.NumberMany', WHERE WHAT IT READS IS OF BULK AT MOST 1048576: true; the input reads as it did. -/
def numberManyUptoRow : OpenClaim := { program := "ytbkojghbgoejcaa", sum := "4b966ba88b5edec1f0473c127e378429a8697f5e7271e005d557dc0113e8e8df", func := "elenchus/elenchuslaw1.NumberMany", spec := "numberMany", apart := false, narrowed := true }
def NumberManyUptoSaid : Prop := numberManyUptoRow.holds Try.pinned (OpenSpec.upto numberManySpec)

end Rows
end Go.Proofs.Ytbkojghbgoejcaa
