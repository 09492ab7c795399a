/-
  No cell of these rows narrows 'for every input' (looked for: loops, veiled, ifaces, maps, wideKeys, modest, calm, conditions, laid).
  DERIVED. THE GIVEN ROWS OF THIS SEAT. 7 by the template 'for every input the law returns true; each argument reads behind the call as it read before'; 0 by the template 'total and deterministic' (their statements: YtfepnokgadacnaaTotals.lean).
  GIVEN WITH THE SEED: the statements are not yours to turn. If you find one false, say at which input.
  Laid BY PROGRAM, IN A SANDBOX (cutbox-rows.mjs): the forced cells as the released guide's own fill.sh prints them over the translation 59433864e039bc2d… (all of the seat's roots in one cut). By AI agents, Wed Nov 11 2026. No macro, syntax, notation, axiom, sorry.
-/
import Derived.Test.YtfepnokgadacnaaChecked
import GoSem.Claim
import GoSem.ClaimJoined
import GoSem.ClaimMapViews
import Derived.JoinedTies
import Derived.KernelRfl
namespace Go.Proofs.Ytfepnokgadacnaa
/- THE CELL 'sum', in the pinned program and in every row, IS THE sha256 OF THE DUMP (.gsa) THAT YtfepnokgadacnaaProg.lean LOADS. Nothing in Lean hashes anything: it is a label: what it is worth is what the hold of that sum in a sandbox is worth. -/
noncomputable def Try.pinned : Pinned := { name := "ytfepnokgadacnaa", sum := "59433864e039bc2d968d9cfb8491c6c8937d4cfac707651533389d531d32f8e1", checked := Try.checked }
namespace Rows
def none {H : Type} : Left H := { results := [], args := [] }

/-- 'stratumlaw01.CellBounds': WHATEVER THE INPUT: true; the input reads as it did. -/
def cellBoundsSpec : ChangeSpec := { name := "cellBounds", fn := fun _ => fun
  | [d] => { results := [.lit (.bool true)], args := [d] }
  | _ => none }
def cellBoundsRow : OpenClaim := { program := "ytfepnokgadacnaa", sum := "59433864e039bc2d968d9cfb8491c6c8937d4cfac707651533389d531d32f8e1", func := "stratum/stratumlaw01.CellBounds", spec := "cellBounds", apart := false }
def CellBoundsSaid : Prop := cellBoundsRow.holds Try.pinned (OpenSpec.ofChange cellBoundsSpec)

/-- ITS FALSE NEIGHBOUR: 'it returns false'. Refute it at one input. -/
def cellBoundsWrong : ChangeSpec := { name := "cellBounds", fn := fun _ => fun
  | [d] => { results := [.lit (.bool false)], args := [d] }
  | _ => none }
def CellBoundsWrongFalsely : Prop := cellBoundsRow.holds Try.pinned (OpenSpec.ofChange cellBoundsWrong)

/-- 'stratumlaw01.CellAll': WHATEVER THE INPUT: true; the input reads as it did. -/
def cellAllSpec : ChangeSpec := { name := "cellAll", fn := fun _ => fun
  | [d] => { results := [.lit (.bool true)], args := [d] }
  | _ => none }
def cellAllRow : OpenClaim := { program := "ytfepnokgadacnaa", sum := "59433864e039bc2d968d9cfb8491c6c8937d4cfac707651533389d531d32f8e1", func := "stratum/stratumlaw01.CellAll", spec := "cellAll", apart := false }
def CellAllSaid : Prop := cellAllRow.holds Try.pinned (OpenSpec.ofChange cellAllSpec)

/-- ITS FALSE NEIGHBOUR: 'it returns false'. Refute it at one input. -/
def cellAllWrong : ChangeSpec := { name := "cellAll", fn := fun _ => fun
  | [d] => { results := [.lit (.bool false)], args := [d] }
  | _ => none }
def CellAllWrongFalsely : Prop := cellAllRow.holds Try.pinned (OpenSpec.ofChange cellAllWrong)

/-- 'stratumlaw01.CellTells': WHATEVER THE INPUT: true; the input reads as it did. -/
def cellTellsSpec : ChangeSpec := { name := "cellTells", fn := fun _ => fun
  | [d] => { results := [.lit (.bool true)], args := [d] }
  | _ => none }
def cellTellsRow : OpenClaim := { program := "ytfepnokgadacnaa", sum := "59433864e039bc2d968d9cfb8491c6c8937d4cfac707651533389d531d32f8e1", func := "stratum/stratumlaw01.CellTells", spec := "cellTells", apart := false }
def CellTellsSaid : Prop := cellTellsRow.holds Try.pinned (OpenSpec.ofChange cellTellsSpec)

/-- ITS FALSE NEIGHBOUR: 'it returns false'. Refute it at one input. -/
def cellTellsWrong : ChangeSpec := { name := "cellTells", fn := fun _ => fun
  | [d] => { results := [.lit (.bool false)], args := [d] }
  | _ => none }
def CellTellsWrongFalsely : Prop := cellTellsRow.holds Try.pinned (OpenSpec.ofChange cellTellsWrong)

/-- 'stratumlaw01.CellOne': WHATEVER THE INPUT: true; the input reads as it did. -/
def cellOneSpec : ChangeSpec := { name := "cellOne", fn := fun _ => fun
  | [d] => { results := [.lit (.bool true)], args := [d] }
  | _ => none }
def cellOneRow : OpenClaim := { program := "ytfepnokgadacnaa", sum := "59433864e039bc2d968d9cfb8491c6c8937d4cfac707651533389d531d32f8e1", func := "stratum/stratumlaw01.CellOne", spec := "cellOne", apart := false }
def CellOneSaid : Prop := cellOneRow.holds Try.pinned (OpenSpec.ofChange cellOneSpec)

/-- ITS FALSE NEIGHBOUR: 'it returns false'. Refute it at one input. -/
def cellOneWrong : ChangeSpec := { name := "cellOne", fn := fun _ => fun
  | [d] => { results := [.lit (.bool false)], args := [d] }
  | _ => none }
def CellOneWrongFalsely : Prop := cellOneRow.holds Try.pinned (OpenSpec.ofChange cellOneWrong)

/-- 'stratumlaw01.CellMerges': WHATEVER THE INPUT: true; the input reads as it did. -/
def cellMergesSpec : ChangeSpec := { name := "cellMerges", fn := fun _ => fun
  | [d1, d2] => { results := [.lit (.bool true)], args := [d1, d2] }
  | _ => none }
def cellMergesRow : OpenClaim := { program := "ytfepnokgadacnaa", sum := "59433864e039bc2d968d9cfb8491c6c8937d4cfac707651533389d531d32f8e1", func := "stratum/stratumlaw01.CellMerges", spec := "cellMerges", apart := false }
def CellMergesSaid : Prop := cellMergesRow.holds Try.pinned (OpenSpec.ofChange cellMergesSpec)

/-- ITS FALSE NEIGHBOUR: 'it returns false'. Refute it at one input. -/
def cellMergesWrong : ChangeSpec := { name := "cellMerges", fn := fun _ => fun
  | [d1, d2] => { results := [.lit (.bool false)], args := [d1, d2] }
  | _ => none }
def CellMergesWrongFalsely : Prop := cellMergesRow.holds Try.pinned (OpenSpec.ofChange cellMergesWrong)

/-- 'stratumlaw01.CellOrder': WHATEVER THE INPUT: true; the input reads as it did. -/
def cellOrderSpec : ChangeSpec := { name := "cellOrder", fn := fun _ => fun
  | [d1, d2] => { results := [.lit (.bool true)], args := [d1, d2] }
  | _ => none }
def cellOrderRow : OpenClaim := { program := "ytfepnokgadacnaa", sum := "59433864e039bc2d968d9cfb8491c6c8937d4cfac707651533389d531d32f8e1", func := "stratum/stratumlaw01.CellOrder", spec := "cellOrder", apart := false }
def CellOrderSaid : Prop := cellOrderRow.holds Try.pinned (OpenSpec.ofChange cellOrderSpec)

/-- ITS FALSE NEIGHBOUR: 'it returns false'. Refute it at one input. -/
def cellOrderWrong : ChangeSpec := { name := "cellOrder", fn := fun _ => fun
  | [d1, d2] => { results := [.lit (.bool false)], args := [d1, d2] }
  | _ => none }
def CellOrderWrongFalsely : Prop := cellOrderRow.holds Try.pinned (OpenSpec.ofChange cellOrderWrong)

/-- 'stratumlaw01.CellThree': WHATEVER THE INPUT: true; the input reads as it did. -/
def cellThreeSpec : ChangeSpec := { name := "cellThree", fn := fun _ => fun
  | [d1, d2, d3] => { results := [.lit (.bool true)], args := [d1, d2, d3] }
  | _ => none }
def cellThreeRow : OpenClaim := { program := "ytfepnokgadacnaa", sum := "59433864e039bc2d968d9cfb8491c6c8937d4cfac707651533389d531d32f8e1", func := "stratum/stratumlaw01.CellThree", spec := "cellThree", apart := false }
def CellThreeSaid : Prop := cellThreeRow.holds Try.pinned (OpenSpec.ofChange cellThreeSpec)

/-- ITS FALSE NEIGHBOUR: 'it returns false'. Refute it at one input. -/
def cellThreeWrong : ChangeSpec := { name := "cellThree", fn := fun _ => fun
  | [d1, d2, d3] => { results := [.lit (.bool false)], args := [d1, d2, d3] }
  | _ => none }
def CellThreeWrongFalsely : Prop := cellThreeRow.holds Try.pinned (OpenSpec.ofChange cellThreeWrong)

/- THE SECOND FORM. 'bulk': how many values and letters a reading holds, each counted each time it is reached (what is shared counts as often as it is met; a slice's spare places count too). A statement '..UptoSaid' is the law's where the arguments, and the package variables that the reading takes, are together of bulk at most 1048576: NARROWER than '..Said'. Prove '..Said' where nothing that the law and all that it calls make is longer than what came in: it says more and counts as full. Else prove '..UptoSaid'. A law counts once. -/
mutual
def uptoBulk {H : Type} : DataW H → Nat
  | .lit (.string bytes) => bytes.length + 1
  | .lit _ => 1
  | .nil => 1
  | .ptr d => uptoBulk d + 1
  | .slice elems spare => uptoBulkAll elems + uptoBulkAll spare + 1
  | .agg parts => uptoBulkAll parts + 1
  | .iface _ d => uptoBulk d + 1
  | .map entries => uptoBulkEntries entries + 1
  | .held _ => 1
def uptoBulkAll {H : Type} : List (DataW H) → Nat
  | [] => 0
  | d :: r => uptoBulk d + uptoBulkAll r
def uptoBulkEntries {H : Type} : List (Lit × DataW H) → Nat
  | [] => 0
  | x :: r => uptoBulkEntry x + uptoBulkEntries r
def uptoBulkEntry {H : Type} : Lit × DataW H → Nat
  | (.string bytes, d) => bytes.length + uptoBulk d + 1
  | (_, d) => uptoBulk d + 1
 end
def uptoSmall : (H : Type) → List (DataW H) → Bool := fun _ ds => decide (uptoBulkAll ds ≤ 1048576)
def OpenSpec.upto (s : _root_.Go.ChangeSpec) : _root_.Go.OpenSpec := { _root_.Go.OpenSpec.ofChange s with cond := some uptoSmall }

/-- 'stratumlaw01.CellBounds', WHERE WHAT IT READS IS OF BULK AT MOST 1048576: true; the input reads as it did. -/
def cellBoundsUptoRow : OpenClaim := { program := "ytfepnokgadacnaa", sum := "59433864e039bc2d968d9cfb8491c6c8937d4cfac707651533389d531d32f8e1", func := "stratum/stratumlaw01.CellBounds", spec := "cellBounds", apart := false, narrowed := true }
def CellBoundsUptoSaid : Prop := cellBoundsUptoRow.holds Try.pinned (OpenSpec.upto cellBoundsSpec)

/-- 'stratumlaw01.CellAll', WHERE WHAT IT READS IS OF BULK AT MOST 1048576: true; the input reads as it did. -/
def cellAllUptoRow : OpenClaim := { program := "ytfepnokgadacnaa", sum := "59433864e039bc2d968d9cfb8491c6c8937d4cfac707651533389d531d32f8e1", func := "stratum/stratumlaw01.CellAll", spec := "cellAll", apart := false, narrowed := true }
def CellAllUptoSaid : Prop := cellAllUptoRow.holds Try.pinned (OpenSpec.upto cellAllSpec)

/-- 'stratumlaw01.CellTells', WHERE WHAT IT READS IS OF BULK AT MOST 1048576: true; the input reads as it did. -/
def cellTellsUptoRow : OpenClaim := { program := "ytfepnokgadacnaa", sum := "59433864e039bc2d968d9cfb8491c6c8937d4cfac707651533389d531d32f8e1", func := "stratum/stratumlaw01.CellTells", spec := "cellTells", apart := false, narrowed := true }
def CellTellsUptoSaid : Prop := cellTellsUptoRow.holds Try.pinned (OpenSpec.upto cellTellsSpec)

/-- 'stratumlaw01.CellOne', WHERE WHAT IT READS IS OF BULK AT MOST 1048576: true; the input reads as it did. -/
def cellOneUptoRow : OpenClaim := { program := "ytfepnokgadacnaa", sum := "59433864e039bc2d968d9cfb8491c6c8937d4cfac707651533389d531d32f8e1", func := "stratum/stratumlaw01.CellOne", spec := "cellOne", apart := false, narrowed := true }
def CellOneUptoSaid : Prop := cellOneUptoRow.holds Try.pinned (OpenSpec.upto cellOneSpec)

/-- 'stratumlaw01.CellMerges', WHERE WHAT IT READS IS OF BULK AT MOST 1048576: true; the input reads as it did. -/
def cellMergesUptoRow : OpenClaim := { program := "ytfepnokgadacnaa", sum := "59433864e039bc2d968d9cfb8491c6c8937d4cfac707651533389d531d32f8e1", func := "stratum/stratumlaw01.CellMerges", spec := "cellMerges", apart := false, narrowed := true }
def CellMergesUptoSaid : Prop := cellMergesUptoRow.holds Try.pinned (OpenSpec.upto cellMergesSpec)

/-- 'stratumlaw01.CellOrder', WHERE WHAT IT READS IS OF BULK AT MOST 1048576: true; the input reads as it did. -/
def cellOrderUptoRow : OpenClaim := { program := "ytfepnokgadacnaa", sum := "59433864e039bc2d968d9cfb8491c6c8937d4cfac707651533389d531d32f8e1", func := "stratum/stratumlaw01.CellOrder", spec := "cellOrder", apart := false, narrowed := true }
def CellOrderUptoSaid : Prop := cellOrderUptoRow.holds Try.pinned (OpenSpec.upto cellOrderSpec)

/-- 'stratumlaw01.CellThree', WHERE WHAT IT READS IS OF BULK AT MOST 1048576: true; the input reads as it did. -/
def cellThreeUptoRow : OpenClaim := { program := "ytfepnokgadacnaa", sum := "59433864e039bc2d968d9cfb8491c6c8937d4cfac707651533389d531d32f8e1", func := "stratum/stratumlaw01.CellThree", spec := "cellThree", apart := false, narrowed := true }
def CellThreeUptoSaid : Prop := cellThreeUptoRow.holds Try.pinned (OpenSpec.upto cellThreeSpec)

end Rows
end Go.Proofs.Ytfepnokgadacnaa
