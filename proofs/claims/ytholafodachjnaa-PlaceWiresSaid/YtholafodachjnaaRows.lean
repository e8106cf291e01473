/-
  No cell of these rows narrows 'for every input' (looked for: loops, veiled, ifaces, maps, wideKeys, modest, calm, conditions, laid).
  DERIVED. THE GIVEN ROWS OF THIS SEAT. 8 by the template 'for every input the law returns true; each argument reads behind the call as it read before'; 0 by the template 'total and deterministic' (their statements: YtholafodachjnaaTotals.lean).
  GIVEN WITH THE SEED: the statements are not yours to turn. If you find one false, say at which input.
  Laid BY PROGRAM, IN A SANDBOX (cutbox-rows.mjs): the forced cells as the released guide's own fill.sh prints them over the translation d92cf26827c62988… (all of the seat's roots in one cut). By AI agents, Wed Nov 11 2026. No macro, syntax, notation, axiom, sorry.
-/
import Derived.Test.YtholafodachjnaaChecked
import GoSem.Claim
import GoSem.ClaimJoined
import GoSem.ClaimMapViews
import Derived.JoinedTies
import Derived.KernelRfl
namespace Go.Proofs.Ytholafodachjnaa
/- THE CELL 'sum', in the pinned program and in every row, IS THE sha256 OF THE DUMP (.gsa) THAT YtholafodachjnaaProg.lean LOADS. Nothing in Lean hashes anything: it is a label: what it is worth is what the hold of that sum in a sandbox is worth. -/
noncomputable def Try.pinned : Pinned := { name := "ytholafodachjnaa", sum := "d92cf26827c62988455525f9d0c3445a1847763d93f3cdb391f17f00ddab5167", checked := Try.checked }
namespace Rows
def none {H : Type} : Left H := { results := [], args := [] }

/-- 'filigreelaw29.PlaceCost': WHATEVER THE INPUT: true; the input reads as it did. -/
def placeCostSpec : ChangeSpec := { name := "placeCost", fn := fun _ => fun
  | [d1, d2, d3] => { results := [.lit (.bool true)], args := [d1, d2, d3] }
  | _ => none }
def placeCostRow : OpenClaim := { program := "ytholafodachjnaa", sum := "d92cf26827c62988455525f9d0c3445a1847763d93f3cdb391f17f00ddab5167", func := "filigree/filigreelaw29.PlaceCost", spec := "placeCost", unfollowed := true, recurses := true, apart := false }
def PlaceCostSaid : Prop := placeCostRow.holds Try.pinned (OpenSpec.ofChange placeCostSpec)

/-- ITS FALSE NEIGHBOUR: 'it returns false'. Refute it at one input. -/
def placeCostWrong : ChangeSpec := { name := "placeCost", fn := fun _ => fun
  | [d1, d2, d3] => { results := [.lit (.bool false)], args := [d1, d2, d3] }
  | _ => none }
def PlaceCostWrongFalsely : Prop := placeCostRow.holds Try.pinned (OpenSpec.ofChange placeCostWrong)

/-- 'filigreelaw29.PlaceChange': WHATEVER THE INPUT: true; the input reads as it did. -/
def placeChangeSpec : ChangeSpec := { name := "placeChange", fn := fun _ => fun
  | [d1, d2, d3, d4, d5] => { results := [.lit (.bool true)], args := [d1, d2, d3, d4, d5] }
  | _ => none }
def placeChangeRow : OpenClaim := { program := "ytholafodachjnaa", sum := "d92cf26827c62988455525f9d0c3445a1847763d93f3cdb391f17f00ddab5167", func := "filigree/filigreelaw29.PlaceChange", spec := "placeChange", unfollowed := true, recurses := true, apart := false }
def PlaceChangeSaid : Prop := placeChangeRow.holds Try.pinned (OpenSpec.ofChange placeChangeSpec)

/-- ITS FALSE NEIGHBOUR: 'it returns false'. Refute it at one input. -/
def placeChangeWrong : ChangeSpec := { name := "placeChange", fn := fun _ => fun
  | [d1, d2, d3, d4, d5] => { results := [.lit (.bool false)], args := [d1, d2, d3, d4, d5] }
  | _ => none }
def PlaceChangeWrongFalsely : Prop := placeChangeRow.holds Try.pinned (OpenSpec.ofChange placeChangeWrong)

/-- 'filigreelaw29.PlaceDraws': WHATEVER THE INPUT: true; the input reads as it did. -/
def placeDrawsSpec : ChangeSpec := { name := "placeDraws", fn := fun _ => fun
  | [d1, d2, d3] => { results := [.lit (.bool true)], args := [d1, d2, d3] }
  | _ => none }
def placeDrawsRow : OpenClaim := { program := "ytholafodachjnaa", sum := "d92cf26827c62988455525f9d0c3445a1847763d93f3cdb391f17f00ddab5167", func := "filigree/filigreelaw29.PlaceDraws", spec := "placeDraws", unfollowed := true, recurses := true, apart := false }
def PlaceDrawsSaid : Prop := placeDrawsRow.holds Try.pinned (OpenSpec.ofChange placeDrawsSpec)

/-- ITS FALSE NEIGHBOUR: 'it returns false'. Refute it at one input. -/
def placeDrawsWrong : ChangeSpec := { name := "placeDraws", fn := fun _ => fun
  | [d1, d2, d3] => { results := [.lit (.bool false)], args := [d1, d2, d3] }
  | _ => none }
def PlaceDrawsWrongFalsely : Prop := placeDrawsRow.holds Try.pinned (OpenSpec.ofChange placeDrawsWrong)

/-- 'filigreelaw29.PlaceBetter': WHATEVER THE INPUT: true; the input reads as it did. -/
def placeBetterSpec : ChangeSpec := { name := "placeBetter", fn := fun _ => fun
  | [d1, d2, d3, d4, d5] => { results := [.lit (.bool true)], args := [d1, d2, d3, d4, d5] }
  | _ => none }
def placeBetterRow : OpenClaim := { program := "ytholafodachjnaa", sum := "d92cf26827c62988455525f9d0c3445a1847763d93f3cdb391f17f00ddab5167", func := "filigree/filigreelaw29.PlaceBetter", spec := "placeBetter", unfollowed := true, recurses := true, apart := false }
def PlaceBetterSaid : Prop := placeBetterRow.holds Try.pinned (OpenSpec.ofChange placeBetterSpec)

/-- ITS FALSE NEIGHBOUR: 'it returns false'. Refute it at one input. -/
def placeBetterWrong : ChangeSpec := { name := "placeBetter", fn := fun _ => fun
  | [d1, d2, d3, d4, d5] => { results := [.lit (.bool false)], args := [d1, d2, d3, d4, d5] }
  | _ => none }
def PlaceBetterWrongFalsely : Prop := placeBetterRow.holds Try.pinned (OpenSpec.ofChange placeBetterWrong)

/-- 'filigreelaw29.PlaceMore': WHATEVER THE INPUT: true; the input reads as it did. -/
def placeMoreSpec : ChangeSpec := { name := "placeMore", fn := fun _ => fun
  | [d1, d2, d3, d4] => { results := [.lit (.bool true)], args := [d1, d2, d3, d4] }
  | _ => none }
def placeMoreRow : OpenClaim := { program := "ytholafodachjnaa", sum := "d92cf26827c62988455525f9d0c3445a1847763d93f3cdb391f17f00ddab5167", func := "filigree/filigreelaw29.PlaceMore", spec := "placeMore", unfollowed := true, recurses := true, apart := false }
def PlaceMoreSaid : Prop := placeMoreRow.holds Try.pinned (OpenSpec.ofChange placeMoreSpec)

/-- ITS FALSE NEIGHBOUR: 'it returns false'. Refute it at one input. -/
def placeMoreWrong : ChangeSpec := { name := "placeMore", fn := fun _ => fun
  | [d1, d2, d3, d4] => { results := [.lit (.bool false)], args := [d1, d2, d3, d4] }
  | _ => none }
def PlaceMoreWrongFalsely : Prop := placeMoreRow.holds Try.pinned (OpenSpec.ofChange placeMoreWrong)

/-- 'filigreelaw29.PlaceSame': WHATEVER THE INPUT: true; the input reads as it did. -/
def placeSameSpec : ChangeSpec := { name := "placeSame", fn := fun _ => fun
  | [d1, d2, d3, d4, d5] => { results := [.lit (.bool true)], args := [d1, d2, d3, d4, d5] }
  | _ => none }
def placeSameRow : OpenClaim := { program := "ytholafodachjnaa", sum := "d92cf26827c62988455525f9d0c3445a1847763d93f3cdb391f17f00ddab5167", func := "filigree/filigreelaw29.PlaceSame", spec := "placeSame", unfollowed := true, recurses := true, apart := false }
def PlaceSameSaid : Prop := placeSameRow.holds Try.pinned (OpenSpec.ofChange placeSameSpec)

/-- ITS FALSE NEIGHBOUR: 'it returns false'. Refute it at one input. -/
def placeSameWrong : ChangeSpec := { name := "placeSame", fn := fun _ => fun
  | [d1, d2, d3, d4, d5] => { results := [.lit (.bool false)], args := [d1, d2, d3, d4, d5] }
  | _ => none }
def PlaceSameWrongFalsely : Prop := placeSameRow.holds Try.pinned (OpenSpec.ofChange placeSameWrong)

/-- 'filigreelaw29.PlaceWires': WHATEVER THE INPUT: true; the input reads as it did. -/
def placeWiresSpec : ChangeSpec := { name := "placeWires", fn := fun _ => fun
  | [d1, d2, d3] => { results := [.lit (.bool true)], args := [d1, d2, d3] }
  | _ => none }
def placeWiresRow : OpenClaim := { program := "ytholafodachjnaa", sum := "d92cf26827c62988455525f9d0c3445a1847763d93f3cdb391f17f00ddab5167", func := "filigree/filigreelaw29.PlaceWires", spec := "placeWires", unfollowed := true, recurses := true, apart := false }
def PlaceWiresSaid : Prop := placeWiresRow.holds Try.pinned (OpenSpec.ofChange placeWiresSpec)

/-- ITS FALSE NEIGHBOUR: 'it returns false'. Refute it at one input. -/
def placeWiresWrong : ChangeSpec := { name := "placeWires", fn := fun _ => fun
  | [d1, d2, d3] => { results := [.lit (.bool false)], args := [d1, d2, d3] }
  | _ => none }
def PlaceWiresWrongFalsely : Prop := placeWiresRow.holds Try.pinned (OpenSpec.ofChange placeWiresWrong)

/-- 'filigreelaw29.PlaceAlone': WHATEVER THE INPUT: true; the input reads as it did. -/
def placeAloneSpec : ChangeSpec := { name := "placeAlone", fn := fun _ => fun
  | [d1, d2, d3] => { results := [.lit (.bool true)], args := [d1, d2, d3] }
  | _ => none }
def placeAloneRow : OpenClaim := { program := "ytholafodachjnaa", sum := "d92cf26827c62988455525f9d0c3445a1847763d93f3cdb391f17f00ddab5167", func := "filigree/filigreelaw29.PlaceAlone", spec := "placeAlone", unfollowed := true, recurses := true, apart := false }
def PlaceAloneSaid : Prop := placeAloneRow.holds Try.pinned (OpenSpec.ofChange placeAloneSpec)

/-- ITS FALSE NEIGHBOUR: 'it returns false'. Refute it at one input. -/
def placeAloneWrong : ChangeSpec := { name := "placeAlone", fn := fun _ => fun
  | [d1, d2, d3] => { results := [.lit (.bool false)], args := [d1, d2, d3] }
  | _ => none }
def PlaceAloneWrongFalsely : Prop := placeAloneRow.holds Try.pinned (OpenSpec.ofChange placeAloneWrong)

/- THE SECOND FORM. 'bulk': how many values and letters a reading holds, each counted each time it is reached (what is shared counts as often as it is met; a slice's spare places count too). A statement '..UptoSaid' is the law's where the arguments, and the package variables that the reading takes, are together of bulk at most 1048576: NARROWER than '..Said'. Prove '..Said' where nothing that the law and all that it calls make is longer than what came in: it says more and counts as full. Else prove '..UptoSaid'. A law counts once. -/
mutual
def uptoBulk {H : Type} : DataW H → Nat
  | .lit (.string bytes) => bytes.length + 1
  | .lit _ => 1
  | .nil => 1
  | .ptr d => uptoBulk d + 1
  | .slice elems spare => uptoBulkAll elems + uptoBulkAll spare + 1
  | .agg parts => uptoBulkAll parts + 1
  | .iface _ d => uptoBulk d + 1
  | .map entries => uptoBulkEntries entries + 1
  | .held _ => 1
def uptoBulkAll {H : Type} : List (DataW H) → Nat
  | [] => 0
  | d :: r => uptoBulk d + uptoBulkAll r
def uptoBulkEntries {H : Type} : List (Lit × DataW H) → Nat
  | [] => 0
  | x :: r => uptoBulkEntry x + uptoBulkEntries r
def uptoBulkEntry {H : Type} : Lit × DataW H → Nat
  | (.string bytes, d) => bytes.length + uptoBulk d + 1
  | (_, d) => uptoBulk d + 1
 end
def uptoSmall : (H : Type) → List (DataW H) → Bool := fun _ ds => decide (uptoBulkAll ds ≤ 1048576)
def OpenSpec.upto (s : _root_.Go.ChangeSpec) : _root_.Go.OpenSpec := { _root_.Go.OpenSpec.ofChange s with cond := some uptoSmall }

/-- 'filigreelaw29.PlaceCost', WHERE WHAT IT READS IS OF BULK AT MOST 1048576: true; the input reads as it did. -/
def placeCostUptoRow : OpenClaim := { program := "ytholafodachjnaa", sum := "d92cf26827c62988455525f9d0c3445a1847763d93f3cdb391f17f00ddab5167", func := "filigree/filigreelaw29.PlaceCost", spec := "placeCost", unfollowed := true, recurses := true, apart := false, narrowed := true }
def PlaceCostUptoSaid : Prop := placeCostUptoRow.holds Try.pinned (OpenSpec.upto placeCostSpec)

/-- 'filigreelaw29.PlaceChange', WHERE WHAT IT READS IS OF BULK AT MOST 1048576: true; the input reads as it did. -/
def placeChangeUptoRow : OpenClaim := { program := "ytholafodachjnaa", sum := "d92cf26827c62988455525f9d0c3445a1847763d93f3cdb391f17f00ddab5167", func := "filigree/filigreelaw29.PlaceChange", spec := "placeChange", unfollowed := true, recurses := true, apart := false, narrowed := true }
def PlaceChangeUptoSaid : Prop := placeChangeUptoRow.holds Try.pinned (OpenSpec.upto placeChangeSpec)

/-- 'filigreelaw29.PlaceDraws', WHERE WHAT IT READS IS OF BULK AT MOST 1048576: true; the input reads as it did. -/
def placeDrawsUptoRow : OpenClaim := { program := "ytholafodachjnaa", sum := "d92cf26827c62988455525f9d0c3445a1847763d93f3cdb391f17f00ddab5167", func := "filigree/filigreelaw29.PlaceDraws", spec := "placeDraws", unfollowed := true, recurses := true, apart := false, narrowed := true }
def PlaceDrawsUptoSaid : Prop := placeDrawsUptoRow.holds Try.pinned (OpenSpec.upto placeDrawsSpec)

/-- 'filigreelaw29.PlaceBetter', WHERE WHAT IT READS IS OF BULK AT MOST 1048576: true; the input reads as it did. -/
def placeBetterUptoRow : OpenClaim := { program := "ytholafodachjnaa", sum := "d92cf26827c62988455525f9d0c3445a1847763d93f3cdb391f17f00ddab5167", func := "filigree/filigreelaw29.PlaceBetter", spec := "placeBetter", unfollowed := true, recurses := true, apart := false, narrowed := true }
def PlaceBetterUptoSaid : Prop := placeBetterUptoRow.holds Try.pinned (OpenSpec.upto placeBetterSpec)

/-- 'filigreelaw29.PlaceMore', WHERE WHAT IT READS IS OF BULK AT MOST 1048576: true; the input reads as it did. -/
def placeMoreUptoRow : OpenClaim := { program := "ytholafodachjnaa", sum := "d92cf26827c62988455525f9d0c3445a1847763d93f3cdb391f17f00ddab5167", func := "filigree/filigreelaw29.PlaceMore", spec := "placeMore", unfollowed := true, recurses := true, apart := false, narrowed := true }
def PlaceMoreUptoSaid : Prop := placeMoreUptoRow.holds Try.pinned (OpenSpec.upto placeMoreSpec)

/-- 'filigreelaw29.PlaceSame', WHERE WHAT IT READS IS OF BULK AT MOST 1048576: true; the input reads as it did. -/
def placeSameUptoRow : OpenClaim := { program := "ytholafodachjnaa", sum := "d92cf26827c62988455525f9d0c3445a1847763d93f3cdb391f17f00ddab5167", func := "filigree/filigreelaw29.PlaceSame", spec := "placeSame", unfollowed := true, recurses := true, apart := false, narrowed := true }
def PlaceSameUptoSaid : Prop := placeSameUptoRow.holds Try.pinned (OpenSpec.upto placeSameSpec)

/-- 'filigreelaw29.PlaceWires', WHERE WHAT IT READS IS OF BULK AT MOST 1048576: true; the input reads as it did. -/
def placeWiresUptoRow : OpenClaim := { program := "ytholafodachjnaa", sum := "d92cf26827c62988455525f9d0c3445a1847763d93f3cdb391f17f00ddab5167", func := "filigree/filigreelaw29.PlaceWires", spec := "placeWires", unfollowed := true, recurses := true, apart := false, narrowed := true }
def PlaceWiresUptoSaid : Prop := placeWiresUptoRow.holds Try.pinned (OpenSpec.upto placeWiresSpec)

/-- 'filigreelaw29.PlaceAlone', WHERE WHAT IT READS IS OF BULK AT MOST 1048576: true; the input reads as it did. -/
def placeAloneUptoRow : OpenClaim := { program := "ytholafodachjnaa", sum := "d92cf26827c62988455525f9d0c3445a1847763d93f3cdb391f17f00ddab5167", func := "filigree/filigreelaw29.PlaceAlone", spec := "placeAlone", unfollowed := true, recurses := true, apart := false, narrowed := true }
def PlaceAloneUptoSaid : Prop := placeAloneUptoRow.holds Try.pinned (OpenSpec.upto placeAloneSpec)

end Rows
end Go.Proofs.Ytholafodachjnaa
