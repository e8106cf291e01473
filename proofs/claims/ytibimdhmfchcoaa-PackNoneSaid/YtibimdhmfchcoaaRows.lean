/-
  No cell of these rows narrows 'for every input' (looked for: loops, veiled, ifaces, maps, wideKeys, modest, calm, conditions, laid).
  DERIVED. THE GIVEN ROWS OF THIS SEAT. 11 by the template 'for every input the law returns true; each argument reads behind the call as it read before'; 0 by the template 'total and deterministic' (their statements: YtibimdhmfchcoaaTotals.lean).
  GIVEN WITH THE SEED: the statements are not yours to turn. If you find one false, say at which input.
  Laid BY PROGRAM, IN A SANDBOX (cutbox-rows.mjs): the forced cells as the released guide's own fill.sh prints them over the translation deb37426459c3aa6… (all of the seat's roots in one cut). By AI agents, Wed Nov 11 2026. No macro, syntax, notation, axiom, sorry.
-/
import Derived.Test.YtibimdhmfchcoaaChecked
import GoSem.Claim
import GoSem.ClaimJoined
import GoSem.ClaimMapViews
import Derived.JoinedTies
import Derived.KernelRfl
namespace Go.Proofs.Ytibimdhmfchcoaa
/- THE CELL 'sum', in the pinned program and in every row, IS THE sha256 OF THE DUMP (.gsa) THAT YtibimdhmfchcoaaProg.lean LOADS. Nothing in Lean hashes anything: it is a label: what it is worth is what the hold of that sum in a sandbox is worth. -/
noncomputable def Try.pinned : Pinned := { name := "ytibimdhmfchcoaa", sum := "deb37426459c3aa6dddbc9fd2d61b6a65c858ac64c27332e2045f3aa04d1093a", checked := Try.checked }
namespace Rows
def none {H : Type} : Left H := { results := [], args := [] }

/-- 'filigreelaw27.PackMakes': WHATEVER THE INPUT: true; the input reads as it did. -/
def packMakesSpec : ChangeSpec := { name := "packMakes", fn := fun _ => fun
  | [d] => { results := [.lit (.bool true)], args := [d] }
  | _ => none }
def packMakesRow : OpenClaim := { program := "ytibimdhmfchcoaa", sum := "deb37426459c3aa6dddbc9fd2d61b6a65c858ac64c27332e2045f3aa04d1093a", func := "filigree/filigreelaw27.PackMakes", spec := "packMakes", unfollowed := true, recurses := true, apart := false }
def PackMakesSaid : Prop := packMakesRow.holds Try.pinned (OpenSpec.ofChange packMakesSpec)

/-- ITS FALSE NEIGHBOUR: 'it returns false'. Refute it at one input. -/
def packMakesWrong : ChangeSpec := { name := "packMakes", fn := fun _ => fun
  | [d] => { results := [.lit (.bool false)], args := [d] }
  | _ => none }
def PackMakesWrongFalsely : Prop := packMakesRow.holds Try.pinned (OpenSpec.ofChange packMakesWrong)

/-- 'filigreelaw27.PackFew': WHATEVER THE INPUT: true; the input reads as it did. -/
def packFewSpec : ChangeSpec := { name := "packFew", fn := fun _ => fun
  | [d] => { results := [.lit (.bool true)], args := [d] }
  | _ => none }
def packFewRow : OpenClaim := { program := "ytibimdhmfchcoaa", sum := "deb37426459c3aa6dddbc9fd2d61b6a65c858ac64c27332e2045f3aa04d1093a", func := "filigree/filigreelaw27.PackFew", spec := "packFew", unfollowed := true, recurses := true, apart := false }
def PackFewSaid : Prop := packFewRow.holds Try.pinned (OpenSpec.ofChange packFewSpec)

/-- ITS FALSE NEIGHBOUR: 'it returns false'. Refute it at one input. -/
def packFewWrong : ChangeSpec := { name := "packFew", fn := fun _ => fun
  | [d] => { results := [.lit (.bool false)], args := [d] }
  | _ => none }
def PackFewWrongFalsely : Prop := packFewRow.holds Try.pinned (OpenSpec.ofChange packFewWrong)

/-- 'filigreelaw27.PackNone': WHATEVER THE INPUT: true; the input reads as it did. -/
def packNoneSpec : ChangeSpec := { name := "packNone", fn := fun _ => fun
  | [d1, d2, d3] => { results := [.lit (.bool true)], args := [d1, d2, d3] }
  | _ => none }
def packNoneRow : OpenClaim := { program := "ytibimdhmfchcoaa", sum := "deb37426459c3aa6dddbc9fd2d61b6a65c858ac64c27332e2045f3aa04d1093a", func := "filigree/filigreelaw27.PackNone", spec := "packNone", unfollowed := true, recurses := true, apart := false }
def PackNoneSaid : Prop := packNoneRow.holds Try.pinned (OpenSpec.ofChange packNoneSpec)

/-- ITS FALSE NEIGHBOUR: 'it returns false'. Refute it at one input. -/
def packNoneWrong : ChangeSpec := { name := "packNone", fn := fun _ => fun
  | [d1, d2, d3] => { results := [.lit (.bool false)], args := [d1, d2, d3] }
  | _ => none }
def PackNoneWrongFalsely : Prop := packNoneRow.holds Try.pinned (OpenSpec.ofChange packNoneWrong)

/-- 'filigreelaw27.PackRuns': WHATEVER THE INPUT: true; the input reads as it did. -/
def packRunsSpec : ChangeSpec := { name := "packRuns", fn := fun _ => fun
  | [d1, d2] => { results := [.lit (.bool true)], args := [d1, d2] }
  | _ => none }
def packRunsRow : OpenClaim := { program := "ytibimdhmfchcoaa", sum := "deb37426459c3aa6dddbc9fd2d61b6a65c858ac64c27332e2045f3aa04d1093a", func := "filigree/filigreelaw27.PackRuns", spec := "packRuns", unfollowed := true, recurses := true, apart := false }
def PackRunsSaid : Prop := packRunsRow.holds Try.pinned (OpenSpec.ofChange packRunsSpec)

/-- ITS FALSE NEIGHBOUR: 'it returns false'. Refute it at one input. -/
def packRunsWrong : ChangeSpec := { name := "packRuns", fn := fun _ => fun
  | [d1, d2] => { results := [.lit (.bool false)], args := [d1, d2] }
  | _ => none }
def PackRunsWrongFalsely : Prop := packRunsRow.holds Try.pinned (OpenSpec.ofChange packRunsWrong)

/-- 'filigreelaw27.PackOrder': WHATEVER THE INPUT: true; the input reads as it did. -/
def packOrderSpec : ChangeSpec := { name := "packOrder", fn := fun _ => fun
  | [d] => { results := [.lit (.bool true)], args := [d] }
  | _ => none }
def packOrderRow : OpenClaim := { program := "ytibimdhmfchcoaa", sum := "deb37426459c3aa6dddbc9fd2d61b6a65c858ac64c27332e2045f3aa04d1093a", func := "filigree/filigreelaw27.PackOrder", spec := "packOrder", unfollowed := true, recurses := true, apart := false }
def PackOrderSaid : Prop := packOrderRow.holds Try.pinned (OpenSpec.ofChange packOrderSpec)

/-- ITS FALSE NEIGHBOUR: 'it returns false'. Refute it at one input. -/
def packOrderWrong : ChangeSpec := { name := "packOrder", fn := fun _ => fun
  | [d] => { results := [.lit (.bool false)], args := [d] }
  | _ => none }
def PackOrderWrongFalsely : Prop := packOrderRow.holds Try.pinned (OpenSpec.ofChange packOrderWrong)

/-- 'filigreelaw27.PackLooks': WHATEVER THE INPUT: true; the input reads as it did. -/
def packLooksSpec : ChangeSpec := { name := "packLooks", fn := fun _ => fun
  | [d] => { results := [.lit (.bool true)], args := [d] }
  | _ => none }
def packLooksRow : OpenClaim := { program := "ytibimdhmfchcoaa", sum := "deb37426459c3aa6dddbc9fd2d61b6a65c858ac64c27332e2045f3aa04d1093a", func := "filigree/filigreelaw27.PackLooks", spec := "packLooks", unfollowed := true, recurses := true, apart := false }
def PackLooksSaid : Prop := packLooksRow.holds Try.pinned (OpenSpec.ofChange packLooksSpec)

/-- ITS FALSE NEIGHBOUR: 'it returns false'. Refute it at one input. -/
def packLooksWrong : ChangeSpec := { name := "packLooks", fn := fun _ => fun
  | [d] => { results := [.lit (.bool false)], args := [d] }
  | _ => none }
def PackLooksWrongFalsely : Prop := packLooksRow.holds Try.pinned (OpenSpec.ofChange packLooksWrong)

/-- 'filigreelaw27.PackKeeps': WHATEVER THE INPUT: true; the input reads as it did. -/
def packKeepsSpec : ChangeSpec := { name := "packKeeps", fn := fun _ => fun
  | [d] => { results := [.lit (.bool true)], args := [d] }
  | _ => none }
def packKeepsRow : OpenClaim := { program := "ytibimdhmfchcoaa", sum := "deb37426459c3aa6dddbc9fd2d61b6a65c858ac64c27332e2045f3aa04d1093a", func := "filigree/filigreelaw27.PackKeeps", spec := "packKeeps", unfollowed := true, recurses := true, apart := false }
def PackKeepsSaid : Prop := packKeepsRow.holds Try.pinned (OpenSpec.ofChange packKeepsSpec)

/-- ITS FALSE NEIGHBOUR: 'it returns false'. Refute it at one input. -/
def packKeepsWrong : ChangeSpec := { name := "packKeeps", fn := fun _ => fun
  | [d] => { results := [.lit (.bool false)], args := [d] }
  | _ => none }
def PackKeepsWrongFalsely : Prop := packKeepsRow.holds Try.pinned (OpenSpec.ofChange packKeepsWrong)

/-- 'filigreelaw27.PackRing': WHATEVER THE INPUT: true; the input reads as it did. -/
def packRingSpec : ChangeSpec := { name := "packRing", fn := fun _ => fun
  | [d1, d2, d3] => { results := [.lit (.bool true)], args := [d1, d2, d3] }
  | _ => none }
def packRingRow : OpenClaim := { program := "ytibimdhmfchcoaa", sum := "deb37426459c3aa6dddbc9fd2d61b6a65c858ac64c27332e2045f3aa04d1093a", func := "filigree/filigreelaw27.PackRing", spec := "packRing", unfollowed := true, recurses := true, apart := false }
def PackRingSaid : Prop := packRingRow.holds Try.pinned (OpenSpec.ofChange packRingSpec)

/-- ITS FALSE NEIGHBOUR: 'it returns false'. Refute it at one input. -/
def packRingWrong : ChangeSpec := { name := "packRing", fn := fun _ => fun
  | [d1, d2, d3] => { results := [.lit (.bool false)], args := [d1, d2, d3] }
  | _ => none }
def PackRingWrongFalsely : Prop := packRingRow.holds Try.pinned (OpenSpec.ofChange packRingWrong)

/-- 'filigreelaw27.PackEvals': WHATEVER THE INPUT: true; the input reads as it did. -/
def packEvalsSpec : ChangeSpec := { name := "packEvals", fn := fun _ => fun
  | [d1, d2, d3] => { results := [.lit (.bool true)], args := [d1, d2, d3] }
  | _ => none }
def packEvalsRow : OpenClaim := { program := "ytibimdhmfchcoaa", sum := "deb37426459c3aa6dddbc9fd2d61b6a65c858ac64c27332e2045f3aa04d1093a", func := "filigree/filigreelaw27.PackEvals", spec := "packEvals", unfollowed := true, recurses := true, apart := false }
def PackEvalsSaid : Prop := packEvalsRow.holds Try.pinned (OpenSpec.ofChange packEvalsSpec)

/-- ITS FALSE NEIGHBOUR: 'it returns false'. Refute it at one input. -/
def packEvalsWrong : ChangeSpec := { name := "packEvals", fn := fun _ => fun
  | [d1, d2, d3] => { results := [.lit (.bool false)], args := [d1, d2, d3] }
  | _ => none }
def PackEvalsWrongFalsely : Prop := packEvalsRow.holds Try.pinned (OpenSpec.ofChange packEvalsWrong)

/-- 'filigreelaw27.PackPlays': WHATEVER THE INPUT: true; the input reads as it did. -/
def packPlaysSpec : ChangeSpec := { name := "packPlays", fn := fun _ => fun
  | [d1, d2] => { results := [.lit (.bool true)], args := [d1, d2] }
  | _ => none }
def packPlaysRow : OpenClaim := { program := "ytibimdhmfchcoaa", sum := "deb37426459c3aa6dddbc9fd2d61b6a65c858ac64c27332e2045f3aa04d1093a", func := "filigree/filigreelaw27.PackPlays", spec := "packPlays", unfollowed := true, recurses := true, apart := false }
def PackPlaysSaid : Prop := packPlaysRow.holds Try.pinned (OpenSpec.ofChange packPlaysSpec)

/-- ITS FALSE NEIGHBOUR: 'it returns false'. Refute it at one input. -/
def packPlaysWrong : ChangeSpec := { name := "packPlays", fn := fun _ => fun
  | [d1, d2] => { results := [.lit (.bool false)], args := [d1, d2] }
  | _ => none }
def PackPlaysWrongFalsely : Prop := packPlaysRow.holds Try.pinned (OpenSpec.ofChange packPlaysWrong)

/-- 'filigreelaw27.PackSteps': WHATEVER THE INPUT: true; the input reads as it did. -/
def packStepsSpec : ChangeSpec := { name := "packSteps", fn := fun _ => fun
  | [d1, d2] => { results := [.lit (.bool true)], args := [d1, d2] }
  | _ => none }
def packStepsRow : OpenClaim := { program := "ytibimdhmfchcoaa", sum := "deb37426459c3aa6dddbc9fd2d61b6a65c858ac64c27332e2045f3aa04d1093a", func := "filigree/filigreelaw27.PackSteps", spec := "packSteps", unfollowed := true, recurses := true, apart := false }
def PackStepsSaid : Prop := packStepsRow.holds Try.pinned (OpenSpec.ofChange packStepsSpec)

/-- ITS FALSE NEIGHBOUR: 'it returns false'. Refute it at one input. -/
def packStepsWrong : ChangeSpec := { name := "packSteps", fn := fun _ => fun
  | [d1, d2] => { results := [.lit (.bool false)], args := [d1, d2] }
  | _ => none }
def PackStepsWrongFalsely : Prop := packStepsRow.holds Try.pinned (OpenSpec.ofChange packStepsWrong)

/- THE SECOND FORM. 'bulk': how many values and letters a reading holds, each counted each time it is reached (what is shared counts as often as it is met; a slice's spare places count too). A statement '..UptoSaid' is the law's where the arguments, and the package variables that the reading takes, are together of bulk at most 1048576: NARROWER than '..Said'. Prove '..Said' where nothing that the law and all that it calls make is longer than what came in: it says more and counts as full. Else prove '..UptoSaid'. A law counts once. -/
mutual
def uptoBulk {H : Type} : DataW H → Nat
  | .lit (.string bytes) => bytes.length + 1
  | .lit _ => 1
  | .nil => 1
  | .ptr d => uptoBulk d + 1
  | .slice elems spare => uptoBulkAll elems + uptoBulkAll spare + 1
  | .agg parts => uptoBulkAll parts + 1
  | .iface _ d => uptoBulk d + 1
  | .map entries => uptoBulkEntries entries + 1
  | .held _ => 1
def uptoBulkAll {H : Type} : List (DataW H) → Nat
  | [] => 0
  | d :: r => uptoBulk d + uptoBulkAll r
def uptoBulkEntries {H : Type} : List (Lit × DataW H) → Nat
  | [] => 0
  | x :: r => uptoBulkEntry x + uptoBulkEntries r
def uptoBulkEntry {H : Type} : Lit × DataW H → Nat
  | (.string bytes, d) => bytes.length + uptoBulk d + 1
  | (_, d) => uptoBulk d + 1
 end
def uptoSmall : (H : Type) → List (DataW H) → Bool := fun _ ds => decide (uptoBulkAll ds ≤ 1048576)
def OpenSpec.upto (s : _root_.Go.ChangeSpec) : _root_.Go.OpenSpec := { _root_.Go.OpenSpec.ofChange s with cond := some uptoSmall }

/-- 'filigreelaw27.PackMakes', WHERE WHAT IT READS IS OF BULK AT MOST 1048576: true; the input reads as it did. -/
def packMakesUptoRow : OpenClaim := { program := "ytibimdhmfchcoaa", sum := "deb37426459c3aa6dddbc9fd2d61b6a65c858ac64c27332e2045f3aa04d1093a", func := "filigree/filigreelaw27.PackMakes", spec := "packMakes", unfollowed := true, recurses := true, apart := false, narrowed := true }
def PackMakesUptoSaid : Prop := packMakesUptoRow.holds Try.pinned (OpenSpec.upto packMakesSpec)

/-- 'filigreelaw27.PackFew', WHERE WHAT IT READS IS OF BULK AT MOST 1048576: true; the input reads as it did. -/
def packFewUptoRow : OpenClaim := { program := "ytibimdhmfchcoaa", sum := "deb37426459c3aa6dddbc9fd2d61b6a65c858ac64c27332e2045f3aa04d1093a", func := "filigree/filigreelaw27.PackFew", spec := "packFew", unfollowed := true, recurses := true, apart := false, narrowed := true }
def PackFewUptoSaid : Prop := packFewUptoRow.holds Try.pinned (OpenSpec.upto packFewSpec)

/-- 'filigreelaw27.PackNone', WHERE WHAT IT READS IS OF BULK AT MOST 1048576: true; the input reads as it did. -/
def packNoneUptoRow : OpenClaim := { program := "ytibimdhmfchcoaa", sum := "deb37426459c3aa6dddbc9fd2d61b6a65c858ac64c27332e2045f3aa04d1093a", func := "filigree/filigreelaw27.PackNone", spec := "packNone", unfollowed := true, recurses := true, apart := false, narrowed := true }
def PackNoneUptoSaid : Prop := packNoneUptoRow.holds Try.pinned (OpenSpec.upto packNoneSpec)

/-- 'filigreelaw27.PackRuns', WHERE WHAT IT READS IS OF BULK AT MOST 1048576: true; the input reads as it did. -/
def packRunsUptoRow : OpenClaim := { program := "ytibimdhmfchcoaa", sum := "deb37426459c3aa6dddbc9fd2d61b6a65c858ac64c27332e2045f3aa04d1093a", func := "filigree/filigreelaw27.PackRuns", spec := "packRuns", unfollowed := true, recurses := true, apart := false, narrowed := true }
def PackRunsUptoSaid : Prop := packRunsUptoRow.holds Try.pinned (OpenSpec.upto packRunsSpec)

/-- 'filigreelaw27.PackOrder', WHERE WHAT IT READS IS OF BULK AT MOST 1048576: true; the input reads as it did. -/
def packOrderUptoRow : OpenClaim := { program := "ytibimdhmfchcoaa", sum := "deb37426459c3aa6dddbc9fd2d61b6a65c858ac64c27332e2045f3aa04d1093a", func := "filigree/filigreelaw27.PackOrder", spec := "packOrder", unfollowed := true, recurses := true, apart := false, narrowed := true }
def PackOrderUptoSaid : Prop := packOrderUptoRow.holds Try.pinned (OpenSpec.upto packOrderSpec)

/-- 'filigreelaw27.PackLooks', WHERE WHAT IT READS IS OF BULK AT MOST 1048576: true; the input reads as it did. -/
def packLooksUptoRow : OpenClaim := { program := "ytibimdhmfchcoaa", sum := "deb37426459c3aa6dddbc9fd2d61b6a65c858ac64c27332e2045f3aa04d1093a", func := "filigree/filigreelaw27.PackLooks", spec := "packLooks", unfollowed := true, recurses := true, apart := false, narrowed := true }
def PackLooksUptoSaid : Prop := packLooksUptoRow.holds Try.pinned (OpenSpec.upto packLooksSpec)

/-- 'filigreelaw27.PackKeeps', WHERE WHAT IT READS IS OF BULK AT MOST 1048576: true; the input reads as it did. -/
def packKeepsUptoRow : OpenClaim := { program := "ytibimdhmfchcoaa", sum := "deb37426459c3aa6dddbc9fd2d61b6a65c858ac64c27332e2045f3aa04d1093a", func := "filigree/filigreelaw27.PackKeeps", spec := "packKeeps", unfollowed := true, recurses := true, apart := false, narrowed := true }
def PackKeepsUptoSaid : Prop := packKeepsUptoRow.holds Try.pinned (OpenSpec.upto packKeepsSpec)

/-- 'filigreelaw27.PackRing', WHERE WHAT IT READS IS OF BULK AT MOST 1048576: true; the input reads as it did. -/
def packRingUptoRow : OpenClaim := { program := "ytibimdhmfchcoaa", sum := "deb37426459c3aa6dddbc9fd2d61b6a65c858ac64c27332e2045f3aa04d1093a", func := "filigree/filigreelaw27.PackRing", spec := "packRing", unfollowed := true, recurses := true, apart := false, narrowed := true }
def PackRingUptoSaid : Prop := packRingUptoRow.holds Try.pinned (OpenSpec.upto packRingSpec)

/-- 'filigreelaw27.PackEvals', WHERE WHAT IT READS IS OF BULK AT MOST 1048576: true; the input reads as it did. -/
def packEvalsUptoRow : OpenClaim := { program := "ytibimdhmfchcoaa", sum := "deb37426459c3aa6dddbc9fd2d61b6a65c858ac64c27332e2045f3aa04d1093a", func := "filigree/filigreelaw27.PackEvals", spec := "packEvals", unfollowed := true, recurses := true, apart := false, narrowed := true }
def PackEvalsUptoSaid : Prop := packEvalsUptoRow.holds Try.pinned (OpenSpec.upto packEvalsSpec)

/-- 'filigreelaw27.PackPlays', WHERE WHAT IT READS IS OF BULK AT MOST 1048576: true; the input reads as it did. -/
def packPlaysUptoRow : OpenClaim := { program := "ytibimdhmfchcoaa", sum := "deb37426459c3aa6dddbc9fd2d61b6a65c858ac64c27332e2045f3aa04d1093a", func := "filigree/filigreelaw27.PackPlays", spec := "packPlays", unfollowed := true, recurses := true, apart := false, narrowed := true }
def PackPlaysUptoSaid : Prop := packPlaysUptoRow.holds Try.pinned (OpenSpec.upto packPlaysSpec)

/-- 'filigreelaw27.PackSteps', WHERE WHAT IT READS IS OF BULK AT MOST 1048576: true; the input reads as it did. -/
def packStepsUptoRow : OpenClaim := { program := "ytibimdhmfchcoaa", sum := "deb37426459c3aa6dddbc9fd2d61b6a65c858ac64c27332e2045f3aa04d1093a", func := "filigree/filigreelaw27.PackSteps", spec := "packSteps", unfollowed := true, recurses := true, apart := false, narrowed := true }
def PackStepsUptoSaid : Prop := packStepsUptoRow.holds Try.pinned (OpenSpec.upto packStepsSpec)

end Rows
end Go.Proofs.Ytibimdhmfchcoaa
