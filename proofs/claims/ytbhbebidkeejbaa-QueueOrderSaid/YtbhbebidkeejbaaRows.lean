/-
  No cell of these rows narrows 'for every input' (looked for: loops, veiled, ifaces, maps, wideKeys, modest, calm, conditions, laid).
  DERIVED. THE GIVEN ROWS OF THIS SEAT. 6 by the template 'for every input the law returns true; each argument reads behind the call as it read before'; 0 by the template 'total and deterministic' (their statements: YtbhbebidkeejbaaTotals.lean).
  GIVEN WITH THE SEED: the statements are not yours to turn. If you find one false, say at which input.
  Laid BY PROGRAM, IN A SANDBOX (cutbox-rows.mjs): the forced cells as the released guide's own fill.sh prints them over the translation 5a1205279fd5e968… (all of the seat's roots in one cut). By AI agents, Wed Nov 11 2026. No macro, syntax, notation, axiom, sorry.
-/
import Derived.Test.YtbhbebidkeejbaaChecked
import GoSem.Claim
import GoSem.ClaimJoined
import GoSem.ClaimMapViews
import Derived.JoinedTies
import Derived.KernelRfl
namespace Go.Proofs.Ytbhbebidkeejbaa
/- THE CELL 'sum', in the pinned program and in every row, IS THE sha256 OF THE DUMP (.gsa) THAT YtbhbebidkeejbaaProg.lean LOADS. Nothing in Lean hashes anything: it is a label: what it is worth is what the hold of that sum in a sandbox is worth. -/
noncomputable def Try.pinned : Pinned := { name := "ytbhbebidkeejbaa", sum := "5a1205279fd5e968b51a6ff4b5332344e999b90eb32a1bbad02a6390a5ef5e48", checked := Try.checked }
namespace Rows
def none {H : Type} : Left H := { results := [], args := [] }

/-- 'filigreelaw14.QueueTells': WHATEVER THE INPUT: true; the input reads as it did. -/
def queueTellsSpec : ChangeSpec := { name := "queueTells", fn := fun _ => fun
  | [d1, d2, d3, d4, d5] => { results := [.lit (.bool true)], args := [d1, d2, d3, d4, d5] }
  | _ => none }
def queueTellsRow : OpenClaim := { program := "ytbhbebidkeejbaa", sum := "5a1205279fd5e968b51a6ff4b5332344e999b90eb32a1bbad02a6390a5ef5e48", func := "filigree/filigreelaw14.QueueTells", spec := "queueTells", inPlace := ["slices.overlaps[filigree/api.Ev]"], unfollowed := true, recurses := true, apart := false }
def QueueTellsSaid : Prop := queueTellsRow.holds Try.pinned (OpenSpec.ofChange queueTellsSpec)

/-- ITS FALSE NEIGHBOUR: 'it returns false'. Refute it at one input. -/
def queueTellsWrong : ChangeSpec := { name := "queueTells", fn := fun _ => fun
  | [d1, d2, d3, d4, d5] => { results := [.lit (.bool false)], args := [d1, d2, d3, d4, d5] }
  | _ => none }
def QueueTellsWrongFalsely : Prop := queueTellsRow.holds Try.pinned (OpenSpec.ofChange queueTellsWrong)

/-- 'filigreelaw14.QueueGoes': WHATEVER THE INPUT: true; the input reads as it did. -/
def queueGoesSpec : ChangeSpec := { name := "queueGoes", fn := fun _ => fun
  | [d] => { results := [.lit (.bool true)], args := [d] }
  | _ => none }
def queueGoesRow : OpenClaim := { program := "ytbhbebidkeejbaa", sum := "5a1205279fd5e968b51a6ff4b5332344e999b90eb32a1bbad02a6390a5ef5e48", func := "filigree/filigreelaw14.QueueGoes", spec := "queueGoes", inPlace := ["slices.overlaps[filigree/api.Ev]"], unfollowed := true, recurses := true, apart := false }
def QueueGoesSaid : Prop := queueGoesRow.holds Try.pinned (OpenSpec.ofChange queueGoesSpec)

/-- ITS FALSE NEIGHBOUR: 'it returns false'. Refute it at one input. -/
def queueGoesWrong : ChangeSpec := { name := "queueGoes", fn := fun _ => fun
  | [d] => { results := [.lit (.bool false)], args := [d] }
  | _ => none }
def QueueGoesWrongFalsely : Prop := queueGoesRow.holds Try.pinned (OpenSpec.ofChange queueGoesWrong)

/-- 'filigreelaw14.QueueOrder': WHATEVER THE INPUT: true; the input reads as it did. -/
def queueOrderSpec : ChangeSpec := { name := "queueOrder", fn := fun _ => fun
  | [d] => { results := [.lit (.bool true)], args := [d] }
  | _ => none }
def queueOrderRow : OpenClaim := { program := "ytbhbebidkeejbaa", sum := "5a1205279fd5e968b51a6ff4b5332344e999b90eb32a1bbad02a6390a5ef5e48", func := "filigree/filigreelaw14.QueueOrder", spec := "queueOrder", inPlace := ["slices.overlaps[filigree/api.Ev]"], unfollowed := true, recurses := true, apart := false }
def QueueOrderSaid : Prop := queueOrderRow.holds Try.pinned (OpenSpec.ofChange queueOrderSpec)

/-- ITS FALSE NEIGHBOUR: 'it returns false'. Refute it at one input. -/
def queueOrderWrong : ChangeSpec := { name := "queueOrder", fn := fun _ => fun
  | [d] => { results := [.lit (.bool false)], args := [d] }
  | _ => none }
def QueueOrderWrongFalsely : Prop := queueOrderRow.holds Try.pinned (OpenSpec.ofChange queueOrderWrong)

/-- 'filigreelaw14.QueueStays': WHATEVER THE INPUT: true; the input reads as it did. -/
def queueStaysSpec : ChangeSpec := { name := "queueStays", fn := fun _ => fun
  | [d1, d2] => { results := [.lit (.bool true)], args := [d1, d2] }
  | _ => none }
def queueStaysRow : OpenClaim := { program := "ytbhbebidkeejbaa", sum := "5a1205279fd5e968b51a6ff4b5332344e999b90eb32a1bbad02a6390a5ef5e48", func := "filigree/filigreelaw14.QueueStays", spec := "queueStays", inPlace := ["slices.overlaps[filigree/api.Ev]"], unfollowed := true, recurses := true, apart := false }
def QueueStaysSaid : Prop := queueStaysRow.holds Try.pinned (OpenSpec.ofChange queueStaysSpec)

/-- ITS FALSE NEIGHBOUR: 'it returns false'. Refute it at one input. -/
def queueStaysWrong : ChangeSpec := { name := "queueStays", fn := fun _ => fun
  | [d1, d2] => { results := [.lit (.bool false)], args := [d1, d2] }
  | _ => none }
def QueueStaysWrongFalsely : Prop := queueStaysRow.holds Try.pinned (OpenSpec.ofChange queueStaysWrong)

/-- 'filigreelaw14.QueuePast': WHATEVER THE INPUT: true; the input reads as it did. -/
def queuePastSpec : ChangeSpec := { name := "queuePast", fn := fun _ => fun
  | [d1, d2, d3, d4] => { results := [.lit (.bool true)], args := [d1, d2, d3, d4] }
  | _ => none }
def queuePastRow : OpenClaim := { program := "ytbhbebidkeejbaa", sum := "5a1205279fd5e968b51a6ff4b5332344e999b90eb32a1bbad02a6390a5ef5e48", func := "filigree/filigreelaw14.QueuePast", spec := "queuePast", inPlace := ["slices.overlaps[filigree/api.Ev]"], unfollowed := true, recurses := true, apart := false }
def QueuePastSaid : Prop := queuePastRow.holds Try.pinned (OpenSpec.ofChange queuePastSpec)

/-- ITS FALSE NEIGHBOUR: 'it returns false'. Refute it at one input. -/
def queuePastWrong : ChangeSpec := { name := "queuePast", fn := fun _ => fun
  | [d1, d2, d3, d4] => { results := [.lit (.bool false)], args := [d1, d2, d3, d4] }
  | _ => none }
def QueuePastWrongFalsely : Prop := queuePastRow.holds Try.pinned (OpenSpec.ofChange queuePastWrong)

/-- 'filigreelaw14.QueueApart': WHATEVER THE INPUT: true; the input reads as it did. -/
def queueApartSpec : ChangeSpec := { name := "queueApart", fn := fun _ => fun
  | [d1, d2, d3] => { results := [.lit (.bool true)], args := [d1, d2, d3] }
  | _ => none }
def queueApartRow : OpenClaim := { program := "ytbhbebidkeejbaa", sum := "5a1205279fd5e968b51a6ff4b5332344e999b90eb32a1bbad02a6390a5ef5e48", func := "filigree/filigreelaw14.QueueApart", spec := "queueApart", inPlace := ["slices.overlaps[filigree/api.Ev]"], unfollowed := true, recurses := true, apart := false }
def QueueApartSaid : Prop := queueApartRow.holds Try.pinned (OpenSpec.ofChange queueApartSpec)

/-- ITS FALSE NEIGHBOUR: 'it returns false'. Refute it at one input. -/
def queueApartWrong : ChangeSpec := { name := "queueApart", fn := fun _ => fun
  | [d1, d2, d3] => { results := [.lit (.bool false)], args := [d1, d2, d3] }
  | _ => none }
def QueueApartWrongFalsely : Prop := queueApartRow.holds Try.pinned (OpenSpec.ofChange queueApartWrong)

/- THE SECOND FORM. 'bulk': how many values and letters a reading holds, each counted each time it is reached (what is shared counts as often as it is met; a slice's spare places count too). A statement '..UptoSaid' is the law's where the arguments, and the package variables that the reading takes, are together of bulk at most 1048576: NARROWER than '..Said'. Prove '..Said' where nothing that the law and all that it calls make is longer than what came in: it says more and counts as full. Else prove '..UptoSaid'. A law counts once. -/
mutual
def uptoBulk {H : Type} : DataW H → Nat
  | .lit (.string bytes) => bytes.length + 1
  | .lit _ => 1
  | .nil => 1
  | .ptr d => uptoBulk d + 1
  | .slice elems spare => uptoBulkAll elems + uptoBulkAll spare + 1
  | .agg parts => uptoBulkAll parts + 1
  | .iface _ d => uptoBulk d + 1
  | .map entries => uptoBulkEntries entries + 1
  | .held _ => 1
def uptoBulkAll {H : Type} : List (DataW H) → Nat
  | [] => 0
  | d :: r => uptoBulk d + uptoBulkAll r
def uptoBulkEntries {H : Type} : List (Lit × DataW H) → Nat
  | [] => 0
  | x :: r => uptoBulkEntry x + uptoBulkEntries r
def uptoBulkEntry {H : Type} : Lit × DataW H → Nat
  | (.string bytes, d) => bytes.length + uptoBulk d + 1
  | (_, d) => uptoBulk d + 1
 end
def uptoSmall : (H : Type) → List (DataW H) → Bool := fun _ ds => decide (uptoBulkAll ds ≤ 1048576)
def OpenSpec.upto (s : _root_.Go.ChangeSpec) : _root_.Go.OpenSpec := { _root_.Go.OpenSpec.ofChange s with cond := some uptoSmall }

/-- 'filigreelaw14.QueueTells', WHERE WHAT IT READS IS OF BULK AT MOST 1048576: true; the input reads as it did. -/
def queueTellsUptoRow : OpenClaim := { program := "ytbhbebidkeejbaa", sum := "5a1205279fd5e968b51a6ff4b5332344e999b90eb32a1bbad02a6390a5ef5e48", func := "filigree/filigreelaw14.QueueTells", spec := "queueTells", inPlace := ["slices.overlaps[filigree/api.Ev]"], unfollowed := true, recurses := true, apart := false, narrowed := true }
def QueueTellsUptoSaid : Prop := queueTellsUptoRow.holds Try.pinned (OpenSpec.upto queueTellsSpec)

/-- 'filigreelaw14.QueueGoes', WHERE WHAT IT READS IS OF BULK AT MOST 1048576: true; the input reads as it did. -/
def queueGoesUptoRow : OpenClaim := { program := "ytbhbebidkeejbaa", sum := "5a1205279fd5e968b51a6ff4b5332344e999b90eb32a1bbad02a6390a5ef5e48", func := "filigree/filigreelaw14.QueueGoes", spec := "queueGoes", inPlace := ["slices.overlaps[filigree/api.Ev]"], unfollowed := true, recurses := true, apart := false, narrowed := true }
def QueueGoesUptoSaid : Prop := queueGoesUptoRow.holds Try.pinned (OpenSpec.upto queueGoesSpec)

/-- 'filigreelaw14.QueueOrder', WHERE WHAT IT READS IS OF BULK AT MOST 1048576: true; the input reads as it did. -/
def queueOrderUptoRow : OpenClaim := { program := "ytbhbebidkeejbaa", sum := "5a1205279fd5e968b51a6ff4b5332344e999b90eb32a1bbad02a6390a5ef5e48", func := "filigree/filigreelaw14.QueueOrder", spec := "queueOrder", inPlace := ["slices.overlaps[filigree/api.Ev]"], unfollowed := true, recurses := true, apart := false, narrowed := true }
def QueueOrderUptoSaid : Prop := queueOrderUptoRow.holds Try.pinned (OpenSpec.upto queueOrderSpec)

/-- 'filigreelaw14.QueueStays', WHERE WHAT IT READS IS OF BULK AT MOST 1048576: true; the input reads as it did. -/
def queueStaysUptoRow : OpenClaim := { program := "ytbhbebidkeejbaa", sum := "5a1205279fd5e968b51a6ff4b5332344e999b90eb32a1bbad02a6390a5ef5e48", func := "filigree/filigreelaw14.QueueStays", spec := "queueStays", inPlace := ["slices.overlaps[filigree/api.Ev]"], unfollowed := true, recurses := true, apart := false, narrowed := true }
def QueueStaysUptoSaid : Prop := queueStaysUptoRow.holds Try.pinned (OpenSpec.upto queueStaysSpec)

/-- 'filigreelaw14.QueuePast', WHERE WHAT IT READS IS OF BULK AT MOST 1048576: true; the input reads as it did. -/
def queuePastUptoRow : OpenClaim := { program := "ytbhbebidkeejbaa", sum := "5a1205279fd5e968b51a6ff4b5332344e999b90eb32a1bbad02a6390a5ef5e48", func := "filigree/filigreelaw14.QueuePast", spec := "queuePast", inPlace := ["slices.overlaps[filigree/api.Ev]"], unfollowed := true, recurses := true, apart := false, narrowed := true }
def QueuePastUptoSaid : Prop := queuePastUptoRow.holds Try.pinned (OpenSpec.upto queuePastSpec)

/-- 'filigreelaw14.QueueApart', WHERE WHAT IT READS IS OF BULK AT MOST 1048576: true; the input reads as it did. -/
def queueApartUptoRow : OpenClaim := { program := "ytbhbebidkeejbaa", sum := "5a1205279fd5e968b51a6ff4b5332344e999b90eb32a1bbad02a6390a5ef5e48", func := "filigree/filigreelaw14.QueueApart", spec := "queueApart", inPlace := ["slices.overlaps[filigree/api.Ev]"], unfollowed := true, recurses := true, apart := false, narrowed := true }
def QueueApartUptoSaid : Prop := queueApartUptoRow.holds Try.pinned (OpenSpec.upto queueApartSpec)

end Rows
end Go.Proofs.Ytbhbebidkeejbaa
