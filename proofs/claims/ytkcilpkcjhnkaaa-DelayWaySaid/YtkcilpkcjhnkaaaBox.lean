import Derived.Test.YtkcilpkcjhnkaaaT4
namespace Go.Proofs.Ytkcilpkcjhnkaaa
open Go.RowKit

/-- A net's box (a parameter's) at block B; below B nothing has turned since w. -/
structure Box (B : Nat) (w : World) (N : NetV) (wr : World) : Prop where
  below : Below B w wr
  size : B + 1 ≤ wr.heap.size
  c0 : wr.cell? ⟨B, 0, none⟩ = some (.int .i64 N.ins)
  c1 : wr.cell? ⟨B, 1, none⟩ = some (Value.slice N.ha N.holds.length N.hc)
  c2 : wr.cell? ⟨B, 2, none⟩ = some (Value.slice N.la N.luts.length N.lc)
  c3 : wr.cell? ⟨B, 3, none⟩ = some (Value.slice N.oa N.outs.length N.oc)

abbrev NetV.obj (N : NetV) : Obj := .cells #[Value.int IntKind.i64 N.ins, Value.slice N.ha N.holds.length N.hc, Value.slice N.la N.luts.length N.lc, Value.slice N.oa N.outs.length N.oc] 26

theorem Box.start (w : World) (N : NetV) : Box w.heap.size w N (w.alloc N.obj) :=
  ⟨(Below.refl _ _).alloc (Nat.le_refl _) _, by simp, by simp, by simp, by simp, by simp⟩

theorem Box.step {B C : Nat} {w wr w' : World} {N : NetV} (h : Box B w N wr) (hb : Below C wr w') (hC : B + 1 ≤ C) : Box B w N w' :=
  ⟨h.below.trans (hb.mono (by omega)), Nat.le_trans h.size hb.size, (hb.cell (p := ⟨B, 0, none⟩) (by simp; omega)).trans h.c0, (hb.cell (p := ⟨B, 1, none⟩) (by simp; omega)).trans h.c1,
    (hb.cell (p := ⟨B, 2, none⟩) (by simp; omega)).trans h.c2, (hb.cell (p := ⟨B, 3, none⟩) (by simp; omega)).trans h.c3⟩

end Go.Proofs.Ytkcilpkcjhnkaaa
