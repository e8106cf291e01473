/-
  No cell of these rows narrows 'for every input' (looked for: loops, veiled, ifaces, maps, wideKeys, modest, calm, conditions, laid).
  DERIVED. THE GIVEN ROWS OF THIS SEAT. 10 by the template 'for every input the law returns true; each argument reads behind the call as it read before'; 0 by the template 'total and deterministic' (their statements: YtkcilpkcjhnkaaaTotals.lean).
  GIVEN WITH THE SEED: the statements are not yours to turn. If you find one false, say at which input.
  Laid BY PROGRAM, IN A SANDBOX (cutbox-rows.mjs): the forced cells as the released guide's own fill.sh prints them over the translation 237ab3e89b558db6… (all of the seat's roots in one cut). By AI agents, Wed Nov 11 2026. No macro, syntax, notation, axiom, sorry.
-/
import Derived.Test.YtkcilpkcjhnkaaaChecked
import GoSem.Claim
import GoSem.ClaimJoined
import GoSem.ClaimMapViews
import Derived.JoinedTies
import Derived.KernelRfl
namespace Go.Proofs.Ytkcilpkcjhnkaaa
/- THE CELL 'sum', in the pinned program and in every row, IS THE sha256 OF THE DUMP (.gsa) THAT YtkcilpkcjhnkaaaProg.lean LOADS. Nothing in Lean hashes anything: it is a label: what it is worth is what the hold of that sum in a sandbox is worth. -/
noncomputable def Try.pinned : Pinned := { name := "ytkcilpkcjhnkaaa", sum := "237ab3e89b558db6466b20689ba48da946d0c9c2e7d8c329f8943cfcf162b0dc", checked := Try.checked }
namespace Rows
def none {H : Type} : Left H := { results := [], args := [] }

/-- 'filigreelaw26.DelayArrives': WHATEVER THE INPUT: true; the input reads as it did. -/
def delayArrivesSpec : ChangeSpec := { name := "delayArrives", fn := fun _ => fun
  | [d1, d2] => { results := [.lit (.bool true)], args := [d1, d2] }
  | _ => none }
def delayArrivesRow : OpenClaim := { program := "ytkcilpkcjhnkaaa", sum := "237ab3e89b558db6466b20689ba48da946d0c9c2e7d8c329f8943cfcf162b0dc", func := "filigree/filigreelaw26.DelayArrives", spec := "delayArrives", unfollowed := true, recurses := true, apart := false }
def DelayArrivesSaid : Prop := delayArrivesRow.holds Try.pinned (OpenSpec.ofChange delayArrivesSpec)

/-- ITS FALSE NEIGHBOUR: 'it returns false'. Refute it at one input. -/
def delayArrivesWrong : ChangeSpec := { name := "delayArrives", fn := fun _ => fun
  | [d1, d2] => { results := [.lit (.bool false)], args := [d1, d2] }
  | _ => none }
def DelayArrivesWrongFalsely : Prop := delayArrivesRow.holds Try.pinned (OpenSpec.ofChange delayArrivesWrong)

/-- 'filigreelaw26.DelayMore': WHATEVER THE INPUT: true; the input reads as it did. -/
def delayMoreSpec : ChangeSpec := { name := "delayMore", fn := fun _ => fun
  | [d1, d2, d3, d4] => { results := [.lit (.bool true)], args := [d1, d2, d3, d4] }
  | _ => none }
def delayMoreRow : OpenClaim := { program := "ytkcilpkcjhnkaaa", sum := "237ab3e89b558db6466b20689ba48da946d0c9c2e7d8c329f8943cfcf162b0dc", func := "filigree/filigreelaw26.DelayMore", spec := "delayMore", unfollowed := true, recurses := true, apart := false }
def DelayMoreSaid : Prop := delayMoreRow.holds Try.pinned (OpenSpec.ofChange delayMoreSpec)

/-- ITS FALSE NEIGHBOUR: 'it returns false'. Refute it at one input. -/
def delayMoreWrong : ChangeSpec := { name := "delayMore", fn := fun _ => fun
  | [d1, d2, d3, d4] => { results := [.lit (.bool false)], args := [d1, d2, d3, d4] }
  | _ => none }
def DelayMoreWrongFalsely : Prop := delayMoreRow.holds Try.pinned (OpenSpec.ofChange delayMoreWrong)

/-- 'filigreelaw26.DelayDeep': WHATEVER THE INPUT: true; the input reads as it did. -/
def delayDeepSpec : ChangeSpec := { name := "delayDeep", fn := fun _ => fun
  | [d] => { results := [.lit (.bool true)], args := [d] }
  | _ => none }
def delayDeepRow : OpenClaim := { program := "ytkcilpkcjhnkaaa", sum := "237ab3e89b558db6466b20689ba48da946d0c9c2e7d8c329f8943cfcf162b0dc", func := "filigree/filigreelaw26.DelayDeep", spec := "delayDeep", unfollowed := true, recurses := true, apart := false }
def DelayDeepSaid : Prop := delayDeepRow.holds Try.pinned (OpenSpec.ofChange delayDeepSpec)

/-- ITS FALSE NEIGHBOUR: 'it returns false'. Refute it at one input. -/
def delayDeepWrong : ChangeSpec := { name := "delayDeep", fn := fun _ => fun
  | [d] => { results := [.lit (.bool false)], args := [d] }
  | _ => none }
def DelayDeepWrongFalsely : Prop := delayDeepRow.holds Try.pinned (OpenSpec.ofChange delayDeepWrong)

/-- 'filigreelaw26.DelaySlacks': WHATEVER THE INPUT: true; the input reads as it did. -/
def delaySlacksSpec : ChangeSpec := { name := "delaySlacks", fn := fun _ => fun
  | [d1, d2, d3] => { results := [.lit (.bool true)], args := [d1, d2, d3] }
  | _ => none }
def delaySlacksRow : OpenClaim := { program := "ytkcilpkcjhnkaaa", sum := "237ab3e89b558db6466b20689ba48da946d0c9c2e7d8c329f8943cfcf162b0dc", func := "filigree/filigreelaw26.DelaySlacks", spec := "delaySlacks", unfollowed := true, recurses := true, apart := false }
def DelaySlacksSaid : Prop := delaySlacksRow.holds Try.pinned (OpenSpec.ofChange delaySlacksSpec)

/-- ITS FALSE NEIGHBOUR: 'it returns false'. Refute it at one input. -/
def delaySlacksWrong : ChangeSpec := { name := "delaySlacks", fn := fun _ => fun
  | [d1, d2, d3] => { results := [.lit (.bool false)], args := [d1, d2, d3] }
  | _ => none }
def DelaySlacksWrongFalsely : Prop := delaySlacksRow.holds Try.pinned (OpenSpec.ofChange delaySlacksWrong)

/-- 'filigreelaw26.DelayWaits': WHATEVER THE INPUT: true; the input reads as it did. -/
def delayWaitsSpec : ChangeSpec := { name := "delayWaits", fn := fun _ => fun
  | [d1, d2, d3, d4] => { results := [.lit (.bool true)], args := [d1, d2, d3, d4] }
  | _ => none }
def delayWaitsRow : OpenClaim := { program := "ytkcilpkcjhnkaaa", sum := "237ab3e89b558db6466b20689ba48da946d0c9c2e7d8c329f8943cfcf162b0dc", func := "filigree/filigreelaw26.DelayWaits", spec := "delayWaits", unfollowed := true, recurses := true, apart := false }
def DelayWaitsSaid : Prop := delayWaitsRow.holds Try.pinned (OpenSpec.ofChange delayWaitsSpec)

/-- ITS FALSE NEIGHBOUR: 'it returns false'. Refute it at one input. -/
def delayWaitsWrong : ChangeSpec := { name := "delayWaits", fn := fun _ => fun
  | [d1, d2, d3, d4] => { results := [.lit (.bool false)], args := [d1, d2, d3, d4] }
  | _ => none }
def DelayWaitsWrongFalsely : Prop := delayWaitsRow.holds Try.pinned (OpenSpec.ofChange delayWaitsWrong)

/-- 'filigreelaw26.DelayPaths': WHATEVER THE INPUT: true; the input reads as it did. -/
def delayPathsSpec : ChangeSpec := { name := "delayPaths", fn := fun _ => fun
  | [d1, d2] => { results := [.lit (.bool true)], args := [d1, d2] }
  | _ => none }
def delayPathsRow : OpenClaim := { program := "ytkcilpkcjhnkaaa", sum := "237ab3e89b558db6466b20689ba48da946d0c9c2e7d8c329f8943cfcf162b0dc", func := "filigree/filigreelaw26.DelayPaths", spec := "delayPaths", unfollowed := true, recurses := true, apart := false }
def DelayPathsSaid : Prop := delayPathsRow.holds Try.pinned (OpenSpec.ofChange delayPathsSpec)

/-- ITS FALSE NEIGHBOUR: 'it returns false'. Refute it at one input. -/
def delayPathsWrong : ChangeSpec := { name := "delayPaths", fn := fun _ => fun
  | [d1, d2] => { results := [.lit (.bool false)], args := [d1, d2] }
  | _ => none }
def DelayPathsWrongFalsely : Prop := delayPathsRow.holds Try.pinned (OpenSpec.ofChange delayPathsWrong)

/-- 'filigreelaw26.DelayWay': WHATEVER THE INPUT: true; the input reads as it did. -/
def delayWaySpec : ChangeSpec := { name := "delayWay", fn := fun _ => fun
  | [d1, d2] => { results := [.lit (.bool true)], args := [d1, d2] }
  | _ => none }
def delayWayRow : OpenClaim := { program := "ytkcilpkcjhnkaaa", sum := "237ab3e89b558db6466b20689ba48da946d0c9c2e7d8c329f8943cfcf162b0dc", func := "filigree/filigreelaw26.DelayWay", spec := "delayWay", unfollowed := true, recurses := true, apart := false }
def DelayWaySaid : Prop := delayWayRow.holds Try.pinned (OpenSpec.ofChange delayWaySpec)

/-- ITS FALSE NEIGHBOUR: 'it returns false'. Refute it at one input. -/
def delayWayWrong : ChangeSpec := { name := "delayWay", fn := fun _ => fun
  | [d1, d2] => { results := [.lit (.bool false)], args := [d1, d2] }
  | _ => none }
def DelayWayWrongFalsely : Prop := delayWayRow.holds Try.pinned (OpenSpec.ofChange delayWayWrong)

/-- 'filigreelaw26.DelayRests': WHATEVER THE INPUT: true; the input reads as it did. -/
def delayRestsSpec : ChangeSpec := { name := "delayRests", fn := fun _ => fun
  | [d1, d2, d3, d4] => { results := [.lit (.bool true)], args := [d1, d2, d3, d4] }
  | _ => none }
def delayRestsRow : OpenClaim := { program := "ytkcilpkcjhnkaaa", sum := "237ab3e89b558db6466b20689ba48da946d0c9c2e7d8c329f8943cfcf162b0dc", func := "filigree/filigreelaw26.DelayRests", spec := "delayRests", unfollowed := true, recurses := true, apart := false }
def DelayRestsSaid : Prop := delayRestsRow.holds Try.pinned (OpenSpec.ofChange delayRestsSpec)

/-- ITS FALSE NEIGHBOUR: 'it returns false'. Refute it at one input. -/
def delayRestsWrong : ChangeSpec := { name := "delayRests", fn := fun _ => fun
  | [d1, d2, d3, d4] => { results := [.lit (.bool false)], args := [d1, d2, d3, d4] }
  | _ => none }
def DelayRestsWrongFalsely : Prop := delayRestsRow.holds Try.pinned (OpenSpec.ofChange delayRestsWrong)

/-- 'filigreelaw26.DelayStill': WHATEVER THE INPUT: true; the input reads as it did. -/
def delayStillSpec : ChangeSpec := { name := "delayStill", fn := fun _ => fun
  | [d1, d2, d3] => { results := [.lit (.bool true)], args := [d1, d2, d3] }
  | _ => none }
def delayStillRow : OpenClaim := { program := "ytkcilpkcjhnkaaa", sum := "237ab3e89b558db6466b20689ba48da946d0c9c2e7d8c329f8943cfcf162b0dc", func := "filigree/filigreelaw26.DelayStill", spec := "delayStill", unfollowed := true, recurses := true, apart := false }
def DelayStillSaid : Prop := delayStillRow.holds Try.pinned (OpenSpec.ofChange delayStillSpec)

/-- ITS FALSE NEIGHBOUR: 'it returns false'. Refute it at one input. -/
def delayStillWrong : ChangeSpec := { name := "delayStill", fn := fun _ => fun
  | [d1, d2, d3] => { results := [.lit (.bool false)], args := [d1, d2, d3] }
  | _ => none }
def DelayStillWrongFalsely : Prop := delayStillRow.holds Try.pinned (OpenSpec.ofChange delayStillWrong)

/-- 'filigreelaw26.DelayLeast': WHATEVER THE INPUT: true; the input reads as it did. -/
def delayLeastSpec : ChangeSpec := { name := "delayLeast", fn := fun _ => fun
  | [d1, d2, d3] => { results := [.lit (.bool true)], args := [d1, d2, d3] }
  | _ => none }
def delayLeastRow : OpenClaim := { program := "ytkcilpkcjhnkaaa", sum := "237ab3e89b558db6466b20689ba48da946d0c9c2e7d8c329f8943cfcf162b0dc", func := "filigree/filigreelaw26.DelayLeast", spec := "delayLeast", unfollowed := true, recurses := true, apart := false }
def DelayLeastSaid : Prop := delayLeastRow.holds Try.pinned (OpenSpec.ofChange delayLeastSpec)

/-- ITS FALSE NEIGHBOUR: 'it returns false'. Refute it at one input. -/
def delayLeastWrong : ChangeSpec := { name := "delayLeast", fn := fun _ => fun
  | [d1, d2, d3] => { results := [.lit (.bool false)], args := [d1, d2, d3] }
  | _ => none }
def DelayLeastWrongFalsely : Prop := delayLeastRow.holds Try.pinned (OpenSpec.ofChange delayLeastWrong)

/- THE SECOND FORM. 'bulk': how many values and letters a reading holds, each counted each time it is reached (what is shared counts as often as it is met; a slice's spare places count too). A statement '..UptoSaid' is the law's where the arguments, and the package variables that the reading takes, are together of bulk at most 1048576: NARROWER than '..Said'. Prove '..Said' where nothing that the law and all that it calls make is longer than what came in: it says more and counts as full. Else prove '..UptoSaid'. A law counts once. -/
mutual
def uptoBulk {H : Type} : DataW H → Nat
  | .lit (.string bytes) => bytes.length + 1
  | .lit _ => 1
  | .nil => 1
  | .ptr d => uptoBulk d + 1
  | .slice elems spare => uptoBulkAll elems + uptoBulkAll spare + 1
  | .agg parts => uptoBulkAll parts + 1
  | .iface _ d => uptoBulk d + 1
  | .map entries => uptoBulkEntries entries + 1
  | .held _ => 1
def uptoBulkAll {H : Type} : List (DataW H) → Nat
  | [] => 0
  | d :: r => uptoBulk d + uptoBulkAll r
def uptoBulkEntries {H : Type} : List (Lit × DataW H) → Nat
  | [] => 0
  | x :: r => uptoBulkEntry x + uptoBulkEntries r
def uptoBulkEntry {H : Type} : Lit × DataW H → Nat
  | (.string bytes, d) => bytes.length + uptoBulk d + 1
  | (_, d) => uptoBulk d + 1
 end
def uptoSmall : (H : Type) → List (DataW H) → Bool := fun _ ds => decide (uptoBulkAll ds ≤ 1048576)
def OpenSpec.upto (s : _root_.Go.ChangeSpec) : _root_.Go.OpenSpec := { _root_.Go.OpenSpec.ofChange s with cond := some uptoSmall }

/-- 'filigreelaw26.DelayArrives', WHERE WHAT IT READS IS OF BULK AT MOST 1048576: true; the input reads as it did. -/
def delayArrivesUptoRow : OpenClaim := { program := "ytkcilpkcjhnkaaa", sum := "237ab3e89b558db6466b20689ba48da946d0c9c2e7d8c329f8943cfcf162b0dc", func := "filigree/filigreelaw26.DelayArrives", spec := "delayArrives", unfollowed := true, recurses := true, apart := false, narrowed := true }
def DelayArrivesUptoSaid : Prop := delayArrivesUptoRow.holds Try.pinned (OpenSpec.upto delayArrivesSpec)

/-- 'filigreelaw26.DelayMore', WHERE WHAT IT READS IS OF BULK AT MOST 1048576: true; the input reads as it did. -/
def delayMoreUptoRow : OpenClaim := { program := "ytkcilpkcjhnkaaa", sum := "237ab3e89b558db6466b20689ba48da946d0c9c2e7d8c329f8943cfcf162b0dc", func := "filigree/filigreelaw26.DelayMore", spec := "delayMore", unfollowed := true, recurses := true, apart := false, narrowed := true }
def DelayMoreUptoSaid : Prop := delayMoreUptoRow.holds Try.pinned (OpenSpec.upto delayMoreSpec)

/-- 'filigreelaw26.DelayDeep', WHERE WHAT IT READS IS OF BULK AT MOST 1048576: true; the input reads as it did. -/
def delayDeepUptoRow : OpenClaim := { program := "ytkcilpkcjhnkaaa", sum := "237ab3e89b558db6466b20689ba48da946d0c9c2e7d8c329f8943cfcf162b0dc", func := "filigree/filigreelaw26.DelayDeep", spec := "delayDeep", unfollowed := true, recurses := true, apart := false, narrowed := true }
def DelayDeepUptoSaid : Prop := delayDeepUptoRow.holds Try.pinned (OpenSpec.upto delayDeepSpec)

/-- 'filigreelaw26.DelaySlacks', WHERE WHAT IT READS IS OF BULK AT MOST 1048576: true; the input reads as it did. -/
def delaySlacksUptoRow : OpenClaim := { program := "ytkcilpkcjhnkaaa", sum := "237ab3e89b558db6466b20689ba48da946d0c9c2e7d8c329f8943cfcf162b0dc", func := "filigree/filigreelaw26.DelaySlacks", spec := "delaySlacks", unfollowed := true, recurses := true, apart := false, narrowed := true }
def DelaySlacksUptoSaid : Prop := delaySlacksUptoRow.holds Try.pinned (OpenSpec.upto delaySlacksSpec)

/-- 'filigreelaw26.DelayWaits', WHERE WHAT IT READS IS OF BULK AT MOST 1048576: true; the input reads as it did. -/
def delayWaitsUptoRow : OpenClaim := { program := "ytkcilpkcjhnkaaa", sum := "237ab3e89b558db6466b20689ba48da946d0c9c2e7d8c329f8943cfcf162b0dc", func := "filigree/filigreelaw26.DelayWaits", spec := "delayWaits", unfollowed := true, recurses := true, apart := false, narrowed := true }
def DelayWaitsUptoSaid : Prop := delayWaitsUptoRow.holds Try.pinned (OpenSpec.upto delayWaitsSpec)

/-- 'filigreelaw26.DelayPaths', WHERE WHAT IT READS IS OF BULK AT MOST 1048576: true; the input reads as it did. -/
def delayPathsUptoRow : OpenClaim := { program := "ytkcilpkcjhnkaaa", sum := "237ab3e89b558db6466b20689ba48da946d0c9c2e7d8c329f8943cfcf162b0dc", func := "filigree/filigreelaw26.DelayPaths", spec := "delayPaths", unfollowed := true, recurses := true, apart := false, narrowed := true }
def DelayPathsUptoSaid : Prop := delayPathsUptoRow.holds Try.pinned (OpenSpec.upto delayPathsSpec)

/-- 'filigreelaw26.DelayWay', WHERE WHAT IT READS IS OF BULK AT MOST 1048576: true; the input reads as it did. -/
def delayWayUptoRow : OpenClaim := { program := "ytkcilpkcjhnkaaa", sum := "237ab3e89b558db6466b20689ba48da946d0c9c2e7d8c329f8943cfcf162b0dc", func := "filigree/filigreelaw26.DelayWay", spec := "delayWay", unfollowed := true, recurses := true, apart := false, narrowed := true }
def DelayWayUptoSaid : Prop := delayWayUptoRow.holds Try.pinned (OpenSpec.upto delayWaySpec)

/-- 'filigreelaw26.DelayRests', WHERE WHAT IT READS IS OF BULK AT MOST 1048576: true; the input reads as it did. -/
def delayRestsUptoRow : OpenClaim := { program := "ytkcilpkcjhnkaaa", sum := "237ab3e89b558db6466b20689ba48da946d0c9c2e7d8c329f8943cfcf162b0dc", func := "filigree/filigreelaw26.DelayRests", spec := "delayRests", unfollowed := true, recurses := true, apart := false, narrowed := true }
def DelayRestsUptoSaid : Prop := delayRestsUptoRow.holds Try.pinned (OpenSpec.upto delayRestsSpec)

/-- 'filigreelaw26.DelayStill', WHERE WHAT IT READS IS OF BULK AT MOST 1048576: true; the input reads as it did. -/
def delayStillUptoRow : OpenClaim := { program := "ytkcilpkcjhnkaaa", sum := "237ab3e89b558db6466b20689ba48da946d0c9c2e7d8c329f8943cfcf162b0dc", func := "filigree/filigreelaw26.DelayStill", spec := "delayStill", unfollowed := true, recurses := true, apart := false, narrowed := true }
def DelayStillUptoSaid : Prop := delayStillUptoRow.holds Try.pinned (OpenSpec.upto delayStillSpec)

/-- 'filigreelaw26.DelayLeast', WHERE WHAT IT READS IS OF BULK AT MOST 1048576: true; the input reads as it did. -/
def delayLeastUptoRow : OpenClaim := { program := "ytkcilpkcjhnkaaa", sum := "237ab3e89b558db6466b20689ba48da946d0c9c2e7d8c329f8943cfcf162b0dc", func := "filigree/filigreelaw26.DelayLeast", spec := "delayLeast", unfollowed := true, recurses := true, apart := false, narrowed := true }
def DelayLeastUptoSaid : Prop := delayLeastUptoRow.holds Try.pinned (OpenSpec.upto delayLeastSpec)

end Rows
end Go.Proofs.Ytkcilpkcjhnkaaa
