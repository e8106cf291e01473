/- Boxes side by side, as the cost makes them. -/
import Derived.Test.YtholafodachjnaaZ20
namespace Go.Proofs.Ytholafodachjnaa
open Go.RowKit Go.Shelf
set_option linter.unusedVariables false
set_option linter.unusedSimpArgs false

theorem info80 : (Try.prog.info? 80).map (fun i => (i.zero, i.size, i.bytes)) = some (some (.agg #[.bool false, .int .i64 0, .int .i64 0, .bool false, .int .i64 0, .int .i64 0]), 6, 48) := by kernel_rfl
abbrev zeroBox : Array Value := #[.bool false, .int .i64 0, .int .i64 0, .bool false, .int .i64 0, .int .i64 0]
theorem run_make_box (n : Nat) (hn : n ≤ 1000000) (w : World) : (Instr.makeSlice 74 (.int .i64 (n : Int)) (.int .i64 (n : Int))).run Try.prog w = .ok (.slice (some ⟨w.heap.size, 0, none⟩) n n) (w.alloc (.cells (madeCells zeroBox (n * 6)) 80)) := by
  obtain ⟨i, hi, hzz⟩ := Option.map_eq_some_iff.1 info80
  simp only [Prod.mk.injEq] at hzz
  obtain ⟨hz, hs, hb⟩ := hzz
  have hr := run_make (P := Try.prog) w 74 80 i _ Try.underlying74 hi hz .i64 .i64 n n (by omega) (Int.le_refl _) (by rw [hb]; omega) (by omega)
  simp only [Int.toNat_natCast, hs] at hr
  exact hr
def spanCell (sx sy : SpanV) (r : Nat) : Value := if r = 0 then .bool sx.some else if r = 1 then .int .i64 sx.low else if r = 2 then .int .i64 sx.high else if r = 3 then .bool sy.some else if r = 4 then .int .i64 sy.low else .int .i64 sy.high
def boxCell (E : List Ev) (j : Nat) : Value := spanCell (spanL (xsOf E ((j / 6 : Nat) : Int))) (spanL (ysOf E ((j / 6 : Nat) : Int))) (j % 6)
theorem boxCell_at (E : List Ev) (k r : Nat) (hr : r < 6) : boxCell E (k * 6 + r) = spanCell (spanL (xsOf E (k : Int))) (spanL (ysOf E (k : Int))) r := by
  unfold boxCell
  rw [show (k * 6 + r) / 6 = k by omega, show (k * 6 + r) % 6 = r by omega]
theorem boxCell_spans (E : List Ev) (k : Nat) : SpansAt (boxCell E) (k * 6) (spanL (xsOf E (k : Int))) (spanL (ysOf E (k : Int))) := by
  refine ⟨?_, ?_, ?_, ?_, ?_, ?_⟩
  · rw [show k * 6 = k * 6 + 0 by omega, boxCell_at _ _ _ (by omega)]; rfl
  · rw [boxCell_at _ _ _ (by omega)]; rfl
  · rw [boxCell_at _ _ _ (by omega)]; rfl
  · rw [boxCell_at _ _ _ (by omega)]; rfl
  · rw [Nat.add_assoc, boxCell_at _ _ _ (by omega)]; rfl
  · rw [Nat.add_assoc, boxCell_at _ _ _ (by omega)]; rfl
theorem boxCell_met (E : List Ev) (k : Nat) (x y : Int) (i : Nat) : upd6 (boxCell E) (k * 6) ((spanL (xsOf E (k : Int))).meet x) ((spanL (ysOf E (k : Int))).meet y) i = boxCell (E ++ [((k : Int), x, y)]) i := by
  by_cases h : i / 6 = k
  · obtain ⟨r, hr, rfl⟩ : ∃ r, r < 6 ∧ i = k * 6 + r := ⟨i % 6, by omega, by omega⟩
    rw [boxCell_at _ _ _ hr, xsOf_same, ysOf_same, spanL_snoc, spanL_snoc]
    unfold upd6 upd3 spanCell
    match r, hr with
    | 0, _ => rw [if_neg (by omega), if_neg (by omega), if_neg (by omega)]; simp
    | 1, _ => rw [if_neg (by omega), if_neg (by omega), if_neg (by omega)]; simp
    | 2, _ => rw [if_neg (by omega), if_neg (by omega), if_neg (by omega)]; simp
    | 3, _ => simp
    | 4, _ => simp
    | 5, _ => simp
  · unfold upd6 upd3
    rw [if_neg (by omega), if_neg (by omega), if_neg (by omega), if_neg (by omega), if_neg (by omega), if_neg (by omega)]
    unfold boxCell
    rw [xsOf_other _ _ _ (by omega), ysOf_other _ _ _ (by omega)]
/-- The boxes behind some things. -/
structure BoxS (w1 : World) (B N : Nat) (E : List Ev) (wr : World) : Prop where
  below : Below w1.heap.size w1 wr
  ge : w1.heap.size ≤ B
  row : wr.rowIs B 80 (N * 6) (boxCell E)
theorem BoxS.start (w1 : World) (N : Nat) : BoxS w1 w1.heap.size N [] (w1.alloc (.cells (madeCells zeroBox (N * 6)) 80)) := by
  refine ⟨(Below.refl _ _).alloc (Nat.le_refl _) _, Nat.le_refl _, ?_⟩
  have h := World.rowIs_alloc w1 (madeCells zeroBox (N * 6)) 80 (boxCell []) (fun i hi => by
    rw [size_madeCells] at hi
    have e : (madeCells zeroBox (N * 6))[i]? = some (zeroBox[i % 6]!) := by simp [madeCells, hi]
    rw [e]
    unfold boxCell
    have hs : spanL (xsOf [] ((i / 6 : Nat) : Int)) = SpanV.none := rfl
    have ht : spanL (ysOf [] ((i / 6 : Nat) : Int)) = SpanV.none := rfl
    rw [hs, ht]
    have h6 : i % 6 < 6 := Nat.mod_lt _ (by omega)
    generalize i % 6 = r at h6
    match r, h6 with
    | 0, _ => rfl
    | 1, _ => rfl
    | 2, _ => rfl
    | 3, _ => rfl
    | 4, _ => rfl
    | 5, _ => rfl)
  rw [size_madeCells] at h
  exact h
theorem BoxS.later {w1 wr W : World} {B N : Nat} {E : List Ev} (h : BoxS w1 B N E wr) (hb : Below wr.heap.size wr W) : BoxS w1 B N E W :=
  ⟨h.below.trans (hb.mono h.below.size), h.ge, h.row.of_block (hb.block B h.row.lt)⟩
theorem BoxS.drew {w1 wr : World} {B N : Nat} {E : List Ev} (h : BoxS w1 B N E wr) : BoxS w1 B N E wr.drew := h.later (Below.refl _ _).drew
theorem BoxS.met {w1 wr w' : World} {B N : Nat} {E : List Ev} {k : Nat} {x y : Int} (h : BoxS w1 B N E wr) (hm : Met wr B (N * 6) (k * 6) 80 (boxCell E) ((spanL (xsOf E (k : Int))).meet x) ((spanL (ysOf E (k : Int))).meet y) w') : BoxS w1 B N (E ++ [((k : Int), x, y)]) w' := by
  have hg := h.ge
  refine ⟨h.below.grown hm.2 h.below.size (fun k e => by injection e with e; omega), hg, hm.1.congr fun i _ => boxCell_met E k x y i⟩
/-- A box as it is read. -/
theorem BoxS.box {w1 wr : World} {B N : Nat} {E : List Ev} (h : BoxS w1 B N E wr) (k : Nat) (hk : k < N) :
    wr.cell? ⟨B, k * 6, none⟩ = some (.bool (spanL (xsOf E (k : Int))).some) ∧ wr.cell? ⟨B, k * 6 + 1, none⟩ = some (.int .i64 (spanL (xsOf E (k : Int))).low) ∧ wr.cell? ⟨B, k * 6 + 2, none⟩ = some (.int .i64 (spanL (xsOf E (k : Int))).high) ∧
    wr.cell? ⟨B, k * 6 + 3, none⟩ = some (.bool (spanL (ysOf E (k : Int))).some) ∧ wr.cell? ⟨B, k * 6 + 4, none⟩ = some (.int .i64 (spanL (ysOf E (k : Int))).low) ∧ wr.cell? ⟨B, k * 6 + 5, none⟩ = some (.int .i64 (spanL (ysOf E (k : Int))).high) := by
  have hs := boxCell_spans E k
  refine ⟨?_, ?_, ?_, ?_, ?_, ?_⟩
  · rw [h.row.cell (by omega), hs.x0]
  · rw [h.row.cell (by omega), hs.x1]
  · rw [h.row.cell (by omega), hs.x2]
  · rw [h.row.cell (by omega), hs.y0]
  · rw [h.row.cell (by omega), hs.y1]
  · rw [h.row.cell (by omega), hs.y2]
end Go.Proofs.Ytholafodachjnaa
