/-
  No cell of these rows narrows 'for every input' (looked for: loops, veiled, ifaces, maps, wideKeys, modest, calm, conditions, laid).
  DERIVED. THE GIVEN ROWS OF THIS SEAT. 8 by the template 'for every input the law returns true; each argument reads behind the call as it read before'; 0 by the template 'total and deterministic' (their statements: YtmgocfcbkejgdaaTotals.lean).
  GIVEN WITH THE SEED: the statements are not yours to turn. If you find one false, say at which input.
  Laid BY PROGRAM, IN A SANDBOX (cutbox-rows.mjs): the forced cells as the released guide's own fill.sh prints them over the translation 62e9dd3a4b8ff71d… (all of the seat's roots in one cut). By AI agents, Wed Nov 11 2026. No macro, syntax, notation, axiom, sorry.
-/
import Derived.Test.YtmgocfcbkejgdaaChecked
import GoSem.Claim
import GoSem.ClaimJoined
import GoSem.ClaimMapViews
import Derived.JoinedTies
import Derived.KernelRfl
namespace Go.Proofs.Ytmgocfcbkejgdaa
/- THE CELL 'sum', in the pinned program and in every row, IS THE sha256 OF THE DUMP (.gsa) THAT YtmgocfcbkejgdaaProg.lean LOADS. Nothing in Lean hashes anything: it is a label: what it is worth is what the hold of that sum in a sandbox is worth. -/
noncomputable def Try.pinned : Pinned := { name := "ytmgocfcbkejgdaa", sum := "62e9dd3a4b8ff71d594fbaff197a5f4ccb0e719ce5ac68b238f14869606de921", checked := Try.checked }
namespace Rows
def none {H : Type} : Left H := { results := [], args := [] }

/-- 'stratumlaw02.RankTwice': WHATEVER THE INPUT: true; the input reads as it did. -/
def rankTwiceSpec : ChangeSpec := { name := "rankTwice", fn := fun _ => fun
  | [d1, d2] => { results := [.lit (.bool true)], args := [d1, d2] }
  | _ => none }
def rankTwiceRow : OpenClaim := { program := "ytmgocfcbkejgdaa", sum := "62e9dd3a4b8ff71d594fbaff197a5f4ccb0e719ce5ac68b238f14869606de921", func := "stratum/stratumlaw02.RankTwice", spec := "rankTwice", inPlace := ["math.Float64bits", "math.Float64frombits"], unfollowed := true, recurses := true, apart := false }
def RankTwiceSaid : Prop := rankTwiceRow.holds Try.pinned (OpenSpec.ofChange rankTwiceSpec)

/-- ITS FALSE NEIGHBOUR: 'it returns false'. Refute it at one input. -/
def rankTwiceWrong : ChangeSpec := { name := "rankTwice", fn := fun _ => fun
  | [d1, d2] => { results := [.lit (.bool false)], args := [d1, d2] }
  | _ => none }
def RankTwiceWrongFalsely : Prop := rankTwiceRow.holds Try.pinned (OpenSpec.ofChange rankTwiceWrong)

/-- 'stratumlaw02.RankSigns': WHATEVER THE INPUT: true; the input reads as it did. -/
def rankSignsSpec : ChangeSpec := { name := "rankSigns", fn := fun _ => fun
  | [d1, d2, d3] => { results := [.lit (.bool true)], args := [d1, d2, d3] }
  | _ => none }
def rankSignsRow : OpenClaim := { program := "ytmgocfcbkejgdaa", sum := "62e9dd3a4b8ff71d594fbaff197a5f4ccb0e719ce5ac68b238f14869606de921", func := "stratum/stratumlaw02.RankSigns", spec := "rankSigns", inPlace := ["math.Float64bits", "math.Float64frombits"], unfollowed := true, recurses := true, apart := false }
def RankSignsSaid : Prop := rankSignsRow.holds Try.pinned (OpenSpec.ofChange rankSignsSpec)

/-- ITS FALSE NEIGHBOUR: 'it returns false'. Refute it at one input. -/
def rankSignsWrong : ChangeSpec := { name := "rankSigns", fn := fun _ => fun
  | [d1, d2, d3] => { results := [.lit (.bool false)], args := [d1, d2, d3] }
  | _ => none }
def RankSignsWrongFalsely : Prop := rankSignsRow.holds Try.pinned (OpenSpec.ofChange rankSignsWrong)

/-- 'stratumlaw02.RankTotal': WHATEVER THE INPUT: true; the input reads as it did. -/
def rankTotalSpec : ChangeSpec := { name := "rankTotal", fn := fun _ => fun
  | [d1, d2, d3] => { results := [.lit (.bool true)], args := [d1, d2, d3] }
  | _ => none }
def rankTotalRow : OpenClaim := { program := "ytmgocfcbkejgdaa", sum := "62e9dd3a4b8ff71d594fbaff197a5f4ccb0e719ce5ac68b238f14869606de921", func := "stratum/stratumlaw02.RankTotal", spec := "rankTotal", inPlace := ["math.Float64frombits", "math.Float64bits"], unfollowed := true, recurses := true, apart := false }
def RankTotalSaid : Prop := rankTotalRow.holds Try.pinned (OpenSpec.ofChange rankTotalSpec)

/-- ITS FALSE NEIGHBOUR: 'it returns false'. Refute it at one input. -/
def rankTotalWrong : ChangeSpec := { name := "rankTotal", fn := fun _ => fun
  | [d1, d2, d3] => { results := [.lit (.bool false)], args := [d1, d2, d3] }
  | _ => none }
def RankTotalWrongFalsely : Prop := rankTotalRow.holds Try.pinned (OpenSpec.ofChange rankTotalWrong)

/-- 'stratumlaw02.RankPlaces': WHATEVER THE INPUT: true; the input reads as it did. -/
def rankPlacesSpec : ChangeSpec := { name := "rankPlaces", fn := fun _ => fun
  | [d] => { results := [.lit (.bool true)], args := [d] }
  | _ => none }
def rankPlacesRow : OpenClaim := { program := "ytmgocfcbkejgdaa", sum := "62e9dd3a4b8ff71d594fbaff197a5f4ccb0e719ce5ac68b238f14869606de921", func := "stratum/stratumlaw02.RankPlaces", spec := "rankPlaces", inPlace := ["math.Float64bits", "math.Float64frombits"], unfollowed := true, recurses := true, apart := false }
def RankPlacesSaid : Prop := rankPlacesRow.holds Try.pinned (OpenSpec.ofChange rankPlacesSpec)

/-- ITS FALSE NEIGHBOUR: 'it returns false'. Refute it at one input. -/
def rankPlacesWrong : ChangeSpec := { name := "rankPlaces", fn := fun _ => fun
  | [d] => { results := [.lit (.bool false)], args := [d] }
  | _ => none }
def RankPlacesWrongFalsely : Prop := rankPlacesRow.holds Try.pinned (OpenSpec.ofChange rankPlacesWrong)

/-- 'stratumlaw02.RankMeans': WHATEVER THE INPUT: true; the input reads as it did. -/
def rankMeansSpec : ChangeSpec := { name := "rankMeans", fn := fun _ => fun
  | [d] => { results := [.lit (.bool true)], args := [d] }
  | _ => none }
def rankMeansRow : OpenClaim := { program := "ytmgocfcbkejgdaa", sum := "62e9dd3a4b8ff71d594fbaff197a5f4ccb0e719ce5ac68b238f14869606de921", func := "stratum/stratumlaw02.RankMeans", spec := "rankMeans", inPlace := ["math.Float64bits", "math.Float64frombits"], unfollowed := true, recurses := true, apart := false }
def RankMeansSaid : Prop := rankMeansRow.holds Try.pinned (OpenSpec.ofChange rankMeansSpec)

/-- ITS FALSE NEIGHBOUR: 'it returns false'. Refute it at one input. -/
def rankMeansWrong : ChangeSpec := { name := "rankMeans", fn := fun _ => fun
  | [d] => { results := [.lit (.bool false)], args := [d] }
  | _ => none }
def RankMeansWrongFalsely : Prop := rankMeansRow.holds Try.pinned (OpenSpec.ofChange rankMeansWrong)

/-- 'stratumlaw02.RankEdges': WHATEVER THE INPUT: true; the input reads as it did. -/
def rankEdgesSpec : ChangeSpec := { name := "rankEdges", fn := fun _ => fun
  | [d] => { results := [.lit (.bool true)], args := [d] }
  | _ => none }
def rankEdgesRow : OpenClaim := { program := "ytmgocfcbkejgdaa", sum := "62e9dd3a4b8ff71d594fbaff197a5f4ccb0e719ce5ac68b238f14869606de921", func := "stratum/stratumlaw02.RankEdges", spec := "rankEdges", inPlace := ["math.Float64frombits", "math.Float64bits"], unfollowed := true, recurses := true, apart := false }
def RankEdgesSaid : Prop := rankEdgesRow.holds Try.pinned (OpenSpec.ofChange rankEdgesSpec)

/-- ITS FALSE NEIGHBOUR: 'it returns false'. Refute it at one input. -/
def rankEdgesWrong : ChangeSpec := { name := "rankEdges", fn := fun _ => fun
  | [d] => { results := [.lit (.bool false)], args := [d] }
  | _ => none }
def RankEdgesWrongFalsely : Prop := rankEdgesRow.holds Try.pinned (OpenSpec.ofChange rankEdgesWrong)

/-- 'stratumlaw02.RankCompares': WHATEVER THE INPUT: true; the input reads as it did. -/
def rankComparesSpec : ChangeSpec := { name := "rankCompares", fn := fun _ => fun
  | [d1, d2] => { results := [.lit (.bool true)], args := [d1, d2] }
  | _ => none }
def rankComparesRow : OpenClaim := { program := "ytmgocfcbkejgdaa", sum := "62e9dd3a4b8ff71d594fbaff197a5f4ccb0e719ce5ac68b238f14869606de921", func := "stratum/stratumlaw02.RankCompares", spec := "rankCompares", inPlace := ["math.Float64frombits", "math.Float64bits"], unfollowed := true, recurses := true, apart := false }
def RankComparesSaid : Prop := rankComparesRow.holds Try.pinned (OpenSpec.ofChange rankComparesSpec)

/-- ITS FALSE NEIGHBOUR: 'it returns false'. Refute it at one input. -/
def rankComparesWrong : ChangeSpec := { name := "rankCompares", fn := fun _ => fun
  | [d1, d2] => { results := [.lit (.bool false)], args := [d1, d2] }
  | _ => none }
def RankComparesWrongFalsely : Prop := rankComparesRow.holds Try.pinned (OpenSpec.ofChange rankComparesWrong)

/-- 'stratumlaw02.RankOrders': WHATEVER THE INPUT: true; the input reads as it did. -/
def rankOrdersSpec : ChangeSpec := { name := "rankOrders", fn := fun _ => fun
  | [d] => { results := [.lit (.bool true)], args := [d] }
  | _ => none }
def rankOrdersRow : OpenClaim := { program := "ytmgocfcbkejgdaa", sum := "62e9dd3a4b8ff71d594fbaff197a5f4ccb0e719ce5ac68b238f14869606de921", func := "stratum/stratumlaw02.RankOrders", spec := "rankOrders", inPlace := ["math.Float64bits", "math.Float64frombits"], unfollowed := true, recurses := true, apart := false }
def RankOrdersSaid : Prop := rankOrdersRow.holds Try.pinned (OpenSpec.ofChange rankOrdersSpec)

/-- ITS FALSE NEIGHBOUR: 'it returns false'. Refute it at one input. -/
def rankOrdersWrong : ChangeSpec := { name := "rankOrders", fn := fun _ => fun
  | [d] => { results := [.lit (.bool false)], args := [d] }
  | _ => none }
def RankOrdersWrongFalsely : Prop := rankOrdersRow.holds Try.pinned (OpenSpec.ofChange rankOrdersWrong)

/- THE SECOND FORM. 'bulk': how many values and letters a reading holds, each counted each time it is reached (what is shared counts as often as it is met; a slice's spare places count too). A statement '..UptoSaid' is the law's where the arguments, and the package variables that the reading takes, are together of bulk at most 1048576: NARROWER than '..Said'. Prove '..Said' where nothing that the law and all that it calls make is longer than what came in: it says more and counts as full. Else prove '..UptoSaid'. A law counts once. -/
mutual
def uptoBulk {H : Type} : DataW H → Nat
  | .lit (.string bytes) => bytes.length + 1
  | .lit _ => 1
  | .nil => 1
  | .ptr d => uptoBulk d + 1
  | .slice elems spare => uptoBulkAll elems + uptoBulkAll spare + 1
  | .agg parts => uptoBulkAll parts + 1
  | .iface _ d => uptoBulk d + 1
  | .map entries => uptoBulkEntries entries + 1
  | .held _ => 1
def uptoBulkAll {H : Type} : List (DataW H) → Nat
  | [] => 0
  | d :: r => uptoBulk d + uptoBulkAll r
def uptoBulkEntries {H : Type} : List (Lit × DataW H) → Nat
  | [] => 0
  | x :: r => uptoBulkEntry x + uptoBulkEntries r
def uptoBulkEntry {H : Type} : Lit × DataW H → Nat
  | (.string bytes, d) => bytes.length + uptoBulk d + 1
  | (_, d) => uptoBulk d + 1
 end
def uptoSmall : (H : Type) → List (DataW H) → Bool := fun _ ds => decide (uptoBulkAll ds ≤ 1048576)
def OpenSpec.upto (s : _root_.Go.ChangeSpec) : _root_.Go.OpenSpec := { _root_.Go.OpenSpec.ofChange s with cond := some uptoSmall }

/-- 'stratumlaw02.RankTwice', WHERE WHAT IT READS IS OF BULK AT MOST 1048576: true; the input reads as it did. -/
def rankTwiceUptoRow : OpenClaim := { program := "ytmgocfcbkejgdaa", sum := "62e9dd3a4b8ff71d594fbaff197a5f4ccb0e719ce5ac68b238f14869606de921", func := "stratum/stratumlaw02.RankTwice", spec := "rankTwice", inPlace := ["math.Float64bits", "math.Float64frombits"], unfollowed := true, recurses := true, apart := false, narrowed := true }
def RankTwiceUptoSaid : Prop := rankTwiceUptoRow.holds Try.pinned (OpenSpec.upto rankTwiceSpec)

/-- 'stratumlaw02.RankSigns', WHERE WHAT IT READS IS OF BULK AT MOST 1048576: true; the input reads as it did. -/
def rankSignsUptoRow : OpenClaim := { program := "ytmgocfcbkejgdaa", sum := "62e9dd3a4b8ff71d594fbaff197a5f4ccb0e719ce5ac68b238f14869606de921", func := "stratum/stratumlaw02.RankSigns", spec := "rankSigns", inPlace := ["math.Float64bits", "math.Float64frombits"], unfollowed := true, recurses := true, apart := false, narrowed := true }
def RankSignsUptoSaid : Prop := rankSignsUptoRow.holds Try.pinned (OpenSpec.upto rankSignsSpec)

/-- 'stratumlaw02.RankTotal', WHERE WHAT IT READS IS OF BULK AT MOST 1048576: true; the input reads as it did. -/
def rankTotalUptoRow : OpenClaim := { program := "ytmgocfcbkejgdaa", sum := "62e9dd3a4b8ff71d594fbaff197a5f4ccb0e719ce5ac68b238f14869606de921", func := "stratum/stratumlaw02.RankTotal", spec := "rankTotal", inPlace := ["math.Float64frombits", "math.Float64bits"], unfollowed := true, recurses := true, apart := false, narrowed := true }
def RankTotalUptoSaid : Prop := rankTotalUptoRow.holds Try.pinned (OpenSpec.upto rankTotalSpec)

/-- 'stratumlaw02.RankPlaces', WHERE WHAT IT READS IS OF BULK AT MOST 1048576: true; the input reads as it did. -/
def rankPlacesUptoRow : OpenClaim := { program := "ytmgocfcbkejgdaa", sum := "62e9dd3a4b8ff71d594fbaff197a5f4ccb0e719ce5ac68b238f14869606de921", func := "stratum/stratumlaw02.RankPlaces", spec := "rankPlaces", inPlace := ["math.Float64bits", "math.Float64frombits"], unfollowed := true, recurses := true, apart := false, narrowed := true }
def RankPlacesUptoSaid : Prop := rankPlacesUptoRow.holds Try.pinned (OpenSpec.upto rankPlacesSpec)

/-- 'stratumlaw02.RankMeans', WHERE WHAT IT READS IS OF BULK AT MOST 1048576: true; the input reads as it did. -/
def rankMeansUptoRow : OpenClaim := { program := "ytmgocfcbkejgdaa", sum := "62e9dd3a4b8ff71d594fbaff197a5f4ccb0e719ce5ac68b238f14869606de921", func := "stratum/stratumlaw02.RankMeans", spec := "rankMeans", inPlace := ["math.Float64bits", "math.Float64frombits"], unfollowed := true, recurses := true, apart := false, narrowed := true }
def RankMeansUptoSaid : Prop := rankMeansUptoRow.holds Try.pinned (OpenSpec.upto rankMeansSpec)

/-- 'stratumlaw02.RankEdges', WHERE WHAT IT READS IS OF BULK AT MOST 1048576: true; the input reads as it did. -/
def rankEdgesUptoRow : OpenClaim := { program := "ytmgocfcbkejgdaa", sum := "62e9dd3a4b8ff71d594fbaff197a5f4ccb0e719ce5ac68b238f14869606de921", func := "stratum/stratumlaw02.RankEdges", spec := "rankEdges", inPlace := ["math.Float64frombits", "math.Float64bits"], unfollowed := true, recurses := true, apart := false, narrowed := true }
def RankEdgesUptoSaid : Prop := rankEdgesUptoRow.holds Try.pinned (OpenSpec.upto rankEdgesSpec)

/-- 'stratumlaw02.RankCompares', WHERE WHAT IT READS IS OF BULK AT MOST 1048576: true; the input reads as it did. -/
def rankComparesUptoRow : OpenClaim := { program := "ytmgocfcbkejgdaa", sum := "62e9dd3a4b8ff71d594fbaff197a5f4ccb0e719ce5ac68b238f14869606de921", func := "stratum/stratumlaw02.RankCompares", spec := "rankCompares", inPlace := ["math.Float64frombits", "math.Float64bits"], unfollowed := true, recurses := true, apart := false, narrowed := true }
def RankComparesUptoSaid : Prop := rankComparesUptoRow.holds Try.pinned (OpenSpec.upto rankComparesSpec)

/-- 'stratumlaw02.RankOrders', WHERE WHAT IT READS IS OF BULK AT MOST 1048576: true; the input reads as it did. -/
def rankOrdersUptoRow : OpenClaim := { program := "ytmgocfcbkejgdaa", sum := "62e9dd3a4b8ff71d594fbaff197a5f4ccb0e719ce5ac68b238f14869606de921", func := "stratum/stratumlaw02.RankOrders", spec := "rankOrders", inPlace := ["math.Float64bits", "math.Float64frombits"], unfollowed := true, recurses := true, apart := false, narrowed := true }
def RankOrdersUptoSaid : Prop := rankOrdersUptoRow.holds Try.pinned (OpenSpec.upto rankOrdersSpec)

end Rows
end Go.Proofs.Ytmgocfcbkejgdaa
