/- A span reaches to one more. -/
import Derived.BigRegion
import Derived.Test.YtholafodachjnaaZ13
import Derived.Test.YtholafodachjnaaLX
namespace Go.Proofs.Ytholafodachjnaa
open Go.RowKit Go.Shelf
set_option linter.unusedVariables false
set_option linter.unusedSimpArgs false

theorem grown_trans {a w w' : World} {row : Option Nat} (h : a.grownBy w row) (k : w.grownBy w' row) : a.grownBy w' row :=
  ⟨k.os.trans h.os, k.tape.trans h.tape, k.output.trans h.output, Nat.le_trans h.size k.size, fun i hi hr => (k.block i (Nat.lt_of_lt_of_le hi h.size) hr).trans (h.block i hi hr)⟩
theorem grown_set (w : World) (b i : Nat) (v : Value) : w.grownBy (w.setCell ⟨b, i, none⟩ v) (some b) :=
  ⟨rfl, rfl, rfl, by simp [World.setCell], fun k _ hk => Below.heap_setCell _ _ _ _ (fun e => hk (by simp [e]))⟩
theorem grown_setB {a w : World} {b : Nat} (h : a.grownBy w (some b)) (i : Nat) (v : Value) : a.grownBy (w.setCell ⟨b, i, none⟩ v) (some b) := grown_trans h (grown_set w b i v)
theorem grown_alloc {a w : World} {row : Option Nat} (h : a.grownBy w row) (o : Obj) : a.grownBy (w.alloc o) row := grown_trans h (World.grownBy_alloc w o row)
theorem grown_below {a w w' : World} {row : Option Nat} (h : a.grownBy w row) (hb : Below w.heap.size w w') : a.grownBy w' row :=
  grown_trans h ⟨hb.os, hb.tape, hb.output, hb.size, fun i hi _ => hb.block i hi⟩
theorem grown_drew {w w' : World} {row : Option Nat} (h : w.grownBy w' row) : w.grownBy w'.drew row := ⟨h.os, h.tape, h.output, h.size, h.block⟩
def upd3 (f : Nat → Value) (o : Nat) (s : SpanV) : Nat → Value := fun j => if j = o then .bool s.some else if j = o + 1 then .int .i64 s.low else if j = o + 2 then .int .i64 s.high else f j
theorem row_upd3 {w w' : World} {B n o : Nat} {t : TypeId} {f : Nat → Value} {s : SpanV} (hr : w.rowIs B t n f)
    (hw : w' = ((w.setCell ⟨B, o, none⟩ (.bool s.some)).setCell ⟨B, o + 1, none⟩ (.int .i64 s.low)).setCell ⟨B, o + 2, none⟩ (.int .i64 s.high)) : w'.rowIs B t n (upd3 f o s) ∧ w.grownBy w' (some B) := by
  subst hw
  refine ⟨(((hr.set o _).set (o + 1) _).set (o + 2) _).congr fun i hi => ?_, grown_setB (grown_setB (grown_set _ _ _ _) _ _) _ _⟩
  unfold upd3
  by_cases e0 : i = o
  · subst e0; simp
  · by_cases e1 : i = o + 1
    · subst e1; simp
    · by_cases e2 : i = o + 2
      · subst e2; simp
      · simp [e0, e1, e2]
theorem row_updB {w w' : World} {B n o : Nat} {t : TypeId} {f : Nat → Value} {lo hi : Int} (hr : w.rowIs B t n f) (h0 : f o = .bool true)
    (hw : w' = ((w.setCell ⟨B, o + 1, none⟩ (.int .i64 lo)).setCell ⟨B, o + 2, none⟩ (.int .i64 hi)).drew) : w'.rowIs B t n (upd3 f o ⟨true, lo, hi⟩) ∧ w.grownBy w' (some B) := by
  subst hw
  refine ⟨(((hr.set (o + 1) _).set (o + 2) _).drew).congr fun i hi => ?_, grown_drew (grown_setB (grown_set _ _ _ _) _ _)⟩
  unfold upd3
  by_cases e0 : i = o
  · subst e0; simp [h0]
  · by_cases e1 : i = o + 1
    · subst e1; simp
    · by_cases e2 : i = o + 2
      · subst e2; simp
      · simp [e0, e1, e2]
set_option maxRecDepth 100000 in
set_option maxHeartbeats 2000000 in
theorem meet63 (w : World) (B n o : Nat) (t : TypeId) (f : Nat → Value) (s : SpanV) (x : Int) (hr : w.rowIs B t n f) (ho : o + 3 ≤ n) (h0 : f o = .bool s.some) (h1 : f (o + 1) = .int .i64 s.low) (h2 : f (o + 2) = .int .i64 s.high) :
    Calls Try.prog 63 #[.pointer (some ⟨B, o, none⟩), .int .i64 x] w fun e w' => e = .returned (.tuple #[]) ∧ w'.rowIs B t n (upd3 f o (s.meet x)) ∧ w.grownBy w' (some B) := by
  have c0 := hr.cell (i := o) (by omega)
  have c1 := hr.cell (i := o + 1) (by omega)
  have c2 := hr.cell (i := o + 2) (by omega)
  have f0 := hr.frozen o
  have f1 := hr.frozen (o + 1)
  have f2 := hr.frozen (o + 2)
  rw [h0] at c0
  rw [h1] at c1
  rw [h2] at c2
  obtain ⟨so, lo, hi⟩ := s
  dsimp only at c0 c1 c2
  have HR := Lib.hid hr
  have M3 := @run_min2 Try.prog
  have M2 := @run_maxB Try.prog
  have HF := Lib.hid h0
  clear hr h0 h1 h2
  cases so
  · go_enter Try.func63, Try.ntmps63
    go_wp2_with fail
    (try simp only [Exit.inBlock, Exit.then])
    refine bodyPost_ret (results_none rfl _ _ _) rfl ?_
    exact ⟨rfl, row_upd3 HR.out rfl⟩
  · go_enter Try.func63, Try.ntmps63
    go_wp2_with fail
    go_region
    all_goals (try go_wp2)
    all_goals go_end0
    all_goals exact ⟨rfl, row_updB HR.out HF.out rfl⟩
end Go.Proofs.Ytholafodachjnaa
