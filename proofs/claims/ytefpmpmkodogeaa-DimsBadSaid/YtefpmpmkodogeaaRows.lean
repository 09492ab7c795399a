/-
  No cell of these rows narrows 'for every input' (looked for: loops, veiled, ifaces, maps, wideKeys, modest, calm, conditions, laid).
  DERIVED. THE GIVEN ROWS OF THIS SEAT. 8 by the template 'for every input the law returns true; each argument reads behind the call as it read before'; 0 by the template 'total and deterministic' (their statements: YtefpmpmkodogeaaTotals.lean).
  GIVEN WITH THE SEED: the statements are not yours to turn. If you find one false, say at which input.
  Laid BY PROGRAM, IN A SANDBOX (cutbox-rows.mjs): the forced cells as the released guide's own fill.sh prints them over the translation b8aa574d1fd57082… (all of the seat's roots in one cut). By AI agents, Wed Nov 11 2026. No macro, syntax, notation, axiom, sorry.
-/
import Derived.Test.YtefpmpmkodogeaaChecked
import GoSem.Claim
import GoSem.ClaimJoined
import GoSem.ClaimMapViews
import Derived.JoinedTies
import Derived.KernelRfl
namespace Go.Proofs.Ytefpmpmkodogeaa
/- THE CELL 'sum', in the pinned program and in every row, IS THE sha256 OF THE DUMP (.gsa) THAT YtefpmpmkodogeaaProg.lean LOADS. Nothing in Lean hashes anything: it is a label: what it is worth is what the hold of that sum in a sandbox is worth. -/
noncomputable def Try.pinned : Pinned := { name := "ytefpmpmkodogeaa", sum := "b8aa574d1fd57082b38c4ba25c0adb65ec9d5de4bcc93519fc116c1ad9f47e43", checked := Try.checked }
namespace Rows
def none {H : Type} : Left H := { results := [], args := [] }

/-- 'stratumlaw03.DimsBad': WHATEVER THE INPUT: true; the input reads as it did. -/
def dimsBadSpec : ChangeSpec := { name := "dimsBad", fn := fun _ => fun
  | [d1, d2] => { results := [.lit (.bool true)], args := [d1, d2] }
  | _ => none }
def dimsBadRow : OpenClaim := { program := "ytefpmpmkodogeaa", sum := "b8aa574d1fd57082b38c4ba25c0adb65ec9d5de4bcc93519fc116c1ad9f47e43", func := "stratum/stratumlaw03.DimsBad", spec := "dimsBad", unfollowed := true, recurses := true, apart := false }
def DimsBadSaid : Prop := dimsBadRow.holds Try.pinned (OpenSpec.ofChange dimsBadSpec)

/-- ITS FALSE NEIGHBOUR: 'it returns false'. Refute it at one input. -/
def dimsBadWrong : ChangeSpec := { name := "dimsBad", fn := fun _ => fun
  | [d1, d2] => { results := [.lit (.bool false)], args := [d1, d2] }
  | _ => none }
def DimsBadWrongFalsely : Prop := dimsBadRow.holds Try.pinned (OpenSpec.ofChange dimsBadWrong)

/-- 'stratumlaw03.DimsSound': WHATEVER THE INPUT: true; the input reads as it did. -/
def dimsSoundSpec : ChangeSpec := { name := "dimsSound", fn := fun _ => fun
  | [d1, d2] => { results := [.lit (.bool true)], args := [d1, d2] }
  | _ => none }
def dimsSoundRow : OpenClaim := { program := "ytefpmpmkodogeaa", sum := "b8aa574d1fd57082b38c4ba25c0adb65ec9d5de4bcc93519fc116c1ad9f47e43", func := "stratum/stratumlaw03.DimsSound", spec := "dimsSound", unfollowed := true, recurses := true, apart := false }
def DimsSoundSaid : Prop := dimsSoundRow.holds Try.pinned (OpenSpec.ofChange dimsSoundSpec)

/-- ITS FALSE NEIGHBOUR: 'it returns false'. Refute it at one input. -/
def dimsSoundWrong : ChangeSpec := { name := "dimsSound", fn := fun _ => fun
  | [d1, d2] => { results := [.lit (.bool false)], args := [d1, d2] }
  | _ => none }
def DimsSoundWrongFalsely : Prop := dimsSoundRow.holds Try.pinned (OpenSpec.ofChange dimsSoundWrong)

/-- 'stratumlaw03.DimsUp': WHATEVER THE INPUT: true; the input reads as it did. -/
def dimsUpSpec : ChangeSpec := { name := "dimsUp", fn := fun _ => fun
  | [d1, d2, d3, d4, d5] => { results := [.lit (.bool true)], args := [d1, d2, d3, d4, d5] }
  | _ => none }
def dimsUpRow : OpenClaim := { program := "ytefpmpmkodogeaa", sum := "b8aa574d1fd57082b38c4ba25c0adb65ec9d5de4bcc93519fc116c1ad9f47e43", func := "stratum/stratumlaw03.DimsUp", spec := "dimsUp", unfollowed := true, recurses := true, apart := false }
def DimsUpSaid : Prop := dimsUpRow.holds Try.pinned (OpenSpec.ofChange dimsUpSpec)

/-- ITS FALSE NEIGHBOUR: 'it returns false'. Refute it at one input. -/
def dimsUpWrong : ChangeSpec := { name := "dimsUp", fn := fun _ => fun
  | [d1, d2, d3, d4, d5] => { results := [.lit (.bool false)], args := [d1, d2, d3, d4, d5] }
  | _ => none }
def DimsUpWrongFalsely : Prop := dimsUpRow.holds Try.pinned (OpenSpec.ofChange dimsUpWrong)

/-- 'stratumlaw03.DimsCompares': WHATEVER THE INPUT: true; the input reads as it did. -/
def dimsComparesSpec : ChangeSpec := { name := "dimsCompares", fn := fun _ => fun
  | [d1, d2] => { results := [.lit (.bool true)], args := [d1, d2] }
  | _ => none }
def dimsComparesRow : OpenClaim := { program := "ytefpmpmkodogeaa", sum := "b8aa574d1fd57082b38c4ba25c0adb65ec9d5de4bcc93519fc116c1ad9f47e43", func := "stratum/stratumlaw03.DimsCompares", spec := "dimsCompares", unfollowed := true, recurses := true, apart := false }
def DimsComparesSaid : Prop := dimsComparesRow.holds Try.pinned (OpenSpec.ofChange dimsComparesSpec)

/-- ITS FALSE NEIGHBOUR: 'it returns false'. Refute it at one input. -/
def dimsComparesWrong : ChangeSpec := { name := "dimsCompares", fn := fun _ => fun
  | [d1, d2] => { results := [.lit (.bool false)], args := [d1, d2] }
  | _ => none }
def DimsComparesWrongFalsely : Prop := dimsComparesRow.holds Try.pinned (OpenSpec.ofChange dimsComparesWrong)

/-- 'stratumlaw03.DimsRise': WHATEVER THE INPUT: true; the input reads as it did. -/
def dimsRiseSpec : ChangeSpec := { name := "dimsRise", fn := fun _ => fun
  | [d1, d2, d3, d4] => { results := [.lit (.bool true)], args := [d1, d2, d3, d4] }
  | _ => none }
def dimsRiseRow : OpenClaim := { program := "ytefpmpmkodogeaa", sum := "b8aa574d1fd57082b38c4ba25c0adb65ec9d5de4bcc93519fc116c1ad9f47e43", func := "stratum/stratumlaw03.DimsRise", spec := "dimsRise", unfollowed := true, recurses := true, apart := false }
def DimsRiseSaid : Prop := dimsRiseRow.holds Try.pinned (OpenSpec.ofChange dimsRiseSpec)

/-- ITS FALSE NEIGHBOUR: 'it returns false'. Refute it at one input. -/
def dimsRiseWrong : ChangeSpec := { name := "dimsRise", fn := fun _ => fun
  | [d1, d2, d3, d4] => { results := [.lit (.bool false)], args := [d1, d2, d3, d4] }
  | _ => none }
def DimsRiseWrongFalsely : Prop := dimsRiseRow.holds Try.pinned (OpenSpec.ofChange dimsRiseWrong)

/-- 'stratumlaw03.DimsSteps': WHATEVER THE INPUT: true; the input reads as it did. -/
def dimsStepsSpec : ChangeSpec := { name := "dimsSteps", fn := fun _ => fun
  | [d1, d2, d3, d4] => { results := [.lit (.bool true)], args := [d1, d2, d3, d4] }
  | _ => none }
def dimsStepsRow : OpenClaim := { program := "ytefpmpmkodogeaa", sum := "b8aa574d1fd57082b38c4ba25c0adb65ec9d5de4bcc93519fc116c1ad9f47e43", func := "stratum/stratumlaw03.DimsSteps", spec := "dimsSteps", unfollowed := true, recurses := true, apart := false }
def DimsStepsSaid : Prop := dimsStepsRow.holds Try.pinned (OpenSpec.ofChange dimsStepsSpec)

/-- ITS FALSE NEIGHBOUR: 'it returns false'. Refute it at one input. -/
def dimsStepsWrong : ChangeSpec := { name := "dimsSteps", fn := fun _ => fun
  | [d1, d2, d3, d4] => { results := [.lit (.bool false)], args := [d1, d2, d3, d4] }
  | _ => none }
def DimsStepsWrongFalsely : Prop := dimsStepsRow.holds Try.pinned (OpenSpec.ofChange dimsStepsWrong)

/-- 'stratumlaw03.DimsIn': WHATEVER THE INPUT: true; the input reads as it did. -/
def dimsInSpec : ChangeSpec := { name := "dimsIn", fn := fun _ => fun
  | [d1, d2, d3, d4] => { results := [.lit (.bool true)], args := [d1, d2, d3, d4] }
  | _ => none }
def dimsInRow : OpenClaim := { program := "ytefpmpmkodogeaa", sum := "b8aa574d1fd57082b38c4ba25c0adb65ec9d5de4bcc93519fc116c1ad9f47e43", func := "stratum/stratumlaw03.DimsIn", spec := "dimsIn", unfollowed := true, recurses := true, apart := false }
def DimsInSaid : Prop := dimsInRow.holds Try.pinned (OpenSpec.ofChange dimsInSpec)

/-- ITS FALSE NEIGHBOUR: 'it returns false'. Refute it at one input. -/
def dimsInWrong : ChangeSpec := { name := "dimsIn", fn := fun _ => fun
  | [d1, d2, d3, d4] => { results := [.lit (.bool false)], args := [d1, d2, d3, d4] }
  | _ => none }
def DimsInWrongFalsely : Prop := dimsInRow.holds Try.pinned (OpenSpec.ofChange dimsInWrong)

/-- 'stratumlaw03.DimsAt': WHATEVER THE INPUT: true; the input reads as it did. -/
def dimsAtSpec : ChangeSpec := { name := "dimsAt", fn := fun _ => fun
  | [d1, d2, d3, d4, d5] => { results := [.lit (.bool true)], args := [d1, d2, d3, d4, d5] }
  | _ => none }
def dimsAtRow : OpenClaim := { program := "ytefpmpmkodogeaa", sum := "b8aa574d1fd57082b38c4ba25c0adb65ec9d5de4bcc93519fc116c1ad9f47e43", func := "stratum/stratumlaw03.DimsAt", spec := "dimsAt", unfollowed := true, recurses := true, apart := false }
def DimsAtSaid : Prop := dimsAtRow.holds Try.pinned (OpenSpec.ofChange dimsAtSpec)

/-- ITS FALSE NEIGHBOUR: 'it returns false'. Refute it at one input. -/
def dimsAtWrong : ChangeSpec := { name := "dimsAt", fn := fun _ => fun
  | [d1, d2, d3, d4, d5] => { results := [.lit (.bool false)], args := [d1, d2, d3, d4, d5] }
  | _ => none }
def DimsAtWrongFalsely : Prop := dimsAtRow.holds Try.pinned (OpenSpec.ofChange dimsAtWrong)

/- THE SECOND FORM. 'bulk': how many values and letters a reading holds, each counted each time it is reached (what is shared counts as often as it is met; a slice's spare places count too). A statement '..UptoSaid' is the law's where the arguments, and the package variables that the reading takes, are together of bulk at most 1048576: NARROWER than '..Said'. Prove '..Said' where nothing that the law and all that it calls make is longer than what came in: it says more and counts as full. Else prove '..UptoSaid'. A law counts once. -/
mutual
def uptoBulk {H : Type} : DataW H → Nat
  | .lit (.string bytes) => bytes.length + 1
  | .lit _ => 1
  | .nil => 1
  | .ptr d => uptoBulk d + 1
  | .slice elems spare => uptoBulkAll elems + uptoBulkAll spare + 1
  | .agg parts => uptoBulkAll parts + 1
  | .iface _ d => uptoBulk d + 1
  | .map entries => uptoBulkEntries entries + 1
  | .held _ => 1
def uptoBulkAll {H : Type} : List (DataW H) → Nat
  | [] => 0
  | d :: r => uptoBulk d + uptoBulkAll r
def uptoBulkEntries {H : Type} : List (Lit × DataW H) → Nat
  | [] => 0
  | x :: r => uptoBulkEntry x + uptoBulkEntries r
def uptoBulkEntry {H : Type} : Lit × DataW H → Nat
  | (.string bytes, d) => bytes.length + uptoBulk d + 1
  | (_, d) => uptoBulk d + 1
 end
def uptoSmall : (H : Type) → List (DataW H) → Bool := fun _ ds => decide (uptoBulkAll ds ≤ 1048576)
def OpenSpec.upto (s : _root_.Go.ChangeSpec) : _root_.Go.OpenSpec := { _root_.Go.OpenSpec.ofChange s with cond := some uptoSmall }

/-- 'stratumlaw03.DimsBad', WHERE WHAT IT READS IS OF BULK AT MOST 1048576: true; the input reads as it did. -/
def dimsBadUptoRow : OpenClaim := { program := "ytefpmpmkodogeaa", sum := "b8aa574d1fd57082b38c4ba25c0adb65ec9d5de4bcc93519fc116c1ad9f47e43", func := "stratum/stratumlaw03.DimsBad", spec := "dimsBad", unfollowed := true, recurses := true, apart := false, narrowed := true }
def DimsBadUptoSaid : Prop := dimsBadUptoRow.holds Try.pinned (OpenSpec.upto dimsBadSpec)

/-- 'stratumlaw03.DimsSound', WHERE WHAT IT READS IS OF BULK AT MOST 1048576: true; the input reads as it did. -/
def dimsSoundUptoRow : OpenClaim := { program := "ytefpmpmkodogeaa", sum := "b8aa574d1fd57082b38c4ba25c0adb65ec9d5de4bcc93519fc116c1ad9f47e43", func := "stratum/stratumlaw03.DimsSound", spec := "dimsSound", unfollowed := true, recurses := true, apart := false, narrowed := true }
def DimsSoundUptoSaid : Prop := dimsSoundUptoRow.holds Try.pinned (OpenSpec.upto dimsSoundSpec)

/-- 'stratumlaw03.DimsUp', WHERE WHAT IT READS IS OF BULK AT MOST 1048576: true; the input reads as it did. -/
def dimsUpUptoRow : OpenClaim := { program := "ytefpmpmkodogeaa", sum := "b8aa574d1fd57082b38c4ba25c0adb65ec9d5de4bcc93519fc116c1ad9f47e43", func := "stratum/stratumlaw03.DimsUp", spec := "dimsUp", unfollowed := true, recurses := true, apart := false, narrowed := true }
def DimsUpUptoSaid : Prop := dimsUpUptoRow.holds Try.pinned (OpenSpec.upto dimsUpSpec)

/-- 'stratumlaw03.DimsCompares', WHERE WHAT IT READS IS OF BULK AT MOST 1048576: true; the input reads as it did. -/
def dimsComparesUptoRow : OpenClaim := { program := "ytefpmpmkodogeaa", sum := "b8aa574d1fd57082b38c4ba25c0adb65ec9d5de4bcc93519fc116c1ad9f47e43", func := "stratum/stratumlaw03.DimsCompares", spec := "dimsCompares", unfollowed := true, recurses := true, apart := false, narrowed := true }
def DimsComparesUptoSaid : Prop := dimsComparesUptoRow.holds Try.pinned (OpenSpec.upto dimsComparesSpec)

/-- 'stratumlaw03.DimsRise', WHERE WHAT IT READS IS OF BULK AT MOST 1048576: true; the input reads as it did. -/
def dimsRiseUptoRow : OpenClaim := { program := "ytefpmpmkodogeaa", sum := "b8aa574d1fd57082b38c4ba25c0adb65ec9d5de4bcc93519fc116c1ad9f47e43", func := "stratum/stratumlaw03.DimsRise", spec := "dimsRise", unfollowed := true, recurses := true, apart := false, narrowed := true }
def DimsRiseUptoSaid : Prop := dimsRiseUptoRow.holds Try.pinned (OpenSpec.upto dimsRiseSpec)

/-- 'stratumlaw03.DimsSteps', WHERE WHAT IT READS IS OF BULK AT MOST 1048576: true; the input reads as it did. -/
def dimsStepsUptoRow : OpenClaim := { program := "ytefpmpmkodogeaa", sum := "b8aa574d1fd57082b38c4ba25c0adb65ec9d5de4bcc93519fc116c1ad9f47e43", func := "stratum/stratumlaw03.DimsSteps", spec := "dimsSteps", unfollowed := true, recurses := true, apart := false, narrowed := true }
def DimsStepsUptoSaid : Prop := dimsStepsUptoRow.holds Try.pinned (OpenSpec.upto dimsStepsSpec)

/-- 'stratumlaw03.DimsIn', WHERE WHAT IT READS IS OF BULK AT MOST 1048576: true; the input reads as it did. -/
def dimsInUptoRow : OpenClaim := { program := "ytefpmpmkodogeaa", sum := "b8aa574d1fd57082b38c4ba25c0adb65ec9d5de4bcc93519fc116c1ad9f47e43", func := "stratum/stratumlaw03.DimsIn", spec := "dimsIn", unfollowed := true, recurses := true, apart := false, narrowed := true }
def DimsInUptoSaid : Prop := dimsInUptoRow.holds Try.pinned (OpenSpec.upto dimsInSpec)

/-- 'stratumlaw03.DimsAt', WHERE WHAT IT READS IS OF BULK AT MOST 1048576: true; the input reads as it did. -/
def dimsAtUptoRow : OpenClaim := { program := "ytefpmpmkodogeaa", sum := "b8aa574d1fd57082b38c4ba25c0adb65ec9d5de4bcc93519fc116c1ad9f47e43", func := "stratum/stratumlaw03.DimsAt", spec := "dimsAt", unfollowed := true, recurses := true, apart := false, narrowed := true }
def DimsAtUptoSaid : Prop := dimsAtUptoRow.holds Try.pinned (OpenSpec.upto dimsAtSpec)

end Rows
end Go.Proofs.Ytefpmpmkodogeaa
