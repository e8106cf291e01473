/- A queue's box that is written anew. -/
import Derived.Test.YtbhbebidkeejbaaQ21
import Derived.Test.YtbhbebidkeejbaaP1
import Derived.Test.YtbhbebidkeejbaaOpen
namespace Go.Proofs.Ytbhbebidkeejbaa
open Go.RowKit Go.Shelf
set_option linter.unusedVariables false
set_option linter.unusedSimpArgs false

theorem LAt.setne {w : World} {a : Option Addr} {l : List EvV} (h : LAt w a l) {b i : Nat} {u : Value} (hne : 0 < l.length → ∀ p, a = some p → p.block ≠ b) : LAt (w.setCell ⟨b, i, none⟩ u) a l := by
  refine ⟨?_, h.each⟩
  rcases h.list with h0 | ⟨g, off, rfl, hc⟩
  · exact .inl h0
  · by_cases hl : 0 < l.length
    · exact .inr ⟨g, off, rfl, fun j hj => far (hc j hj) (hne hl _ rfl)⟩
    · exact .inl (by omega)
/-- A queue's box, and what it holds. -/
structure QSt (w wx : World) (H m : Nat) (a : Option Addr) (n c : Nat) (now delta next : Int) (l : List EvV) : Prop where
  c0 : wx.cell? ⟨H, 0, none⟩ = some (.slice a n c)
  c1 : wx.cell? ⟨H, 1, none⟩ = some (.int .i64 now)
  c2 : wx.cell? ⟨H, 2, none⟩ = some (.int .i64 delta)
  c3 : wx.cell? ⟨H, 3, none⟩ = some (.int .i64 next)
  fz : ∀ i, wx.frozen? ⟨H, i, none⟩ = false
  len : l.length = n
  lat : LAt wx a l
  ne : 0 < l.length → ∀ p, a = some p → p.block ≠ H
  cap : n ≤ c
  few : n ≤ m
  ok : QOk now delta next l
  nx : I64 next
  bel : Below w.heap.size w wx
theorem QSt.lt {w wx : World} {H m n c : Nat} {a : Option Addr} {now delta next : Int} {l : List EvV} (h : QSt w wx H m a n c now delta next l) : H < wx.heap.size := World.block_lt_of_cell? wx _ h.c0
theorem QSt.below {w wx wy : World} {H m n c : Nat} {a : Option Addr} {now delta next : Int} {l : List EvV} (h : QSt w wx H m a n c now delta next l) (hb : Below wx.heap.size wx wy) : QSt w wy H m a n c now delta next l :=
  ⟨(hb.cell (p := ⟨_, _, none⟩) h.lt).trans h.c0, (hb.cell (p := ⟨_, _, none⟩) h.lt).trans h.c1, (hb.cell (p := ⟨_, _, none⟩) h.lt).trans h.c2, (hb.cell (p := ⟨_, _, none⟩) h.lt).trans h.c3, fun i => (hb.frozen (p := ⟨_, _, none⟩) h.lt).trans (h.fz i), h.len, h.lat.below hb (Nat.le_refl _), h.ne, h.cap, h.few, h.ok, h.nx, h.bel.trans (hb.mono h.bel.size)⟩
theorem QSt.more {w wx : World} {H m m' n c : Nat} {a : Option Addr} {now delta next : Int} {l : List EvV} (h : QSt w wx H m a n c now delta next l) (hm : m ≤ m') : QSt w wx H m' a n c now delta next l := { h with few := Nat.le_trans h.few hm }
/-- Another queue is laid into the box. -/
theorem QSt.put {w wy : World} {H m n c : Nat} {a : Option Addr} {now delta next : Int} {l : List EvV} (h : QSt w wy H m a n c now delta next l) (hH : w.heap.size ≤ H) {m' n' c' : Nat} {a' : Option Addr} {x y z : Int} {l' : List EvV} (hl : l'.length = n') (hla : LAt wy a' l') (hne : 0 < l'.length → ∀ p, a' = some p → p.block ≠ H) (hc : n' ≤ c') (hf : n' ≤ m') (hok : QOk x y z l') (hz : I64 z) :
    QSt w (put4 wy H (.slice a' n' c') x y z) H m' a' n' c' x y z l' := by
  obtain ⟨p0, p1, p2, p3⟩ := put4_cells (s := .slice a' n' c') (x := x) (y := y) (z := z) h.c0 h.c1 h.c2 h.c3
  exact ⟨p0, p1, p2, p3, fun i => put4_frozen.trans (h.fz i), hl, (((hla.setne hne).setne hne).setne hne).setne hne, hne, hc, hf, hok, hz, put4_below h.bel hH⟩
/-- A queue that lies in a box of its own, new since wr. -/
structure QNew (wr wx : World) (P : Nat) (a : Option Addr) (n c : Nat) (x y z : Int) (l : List EvV) : Prop where
  c0 : wx.cell? ⟨P, 0, none⟩ = some (.slice a n c)
  c1 : wx.cell? ⟨P, 1, none⟩ = some (.int .i64 x)
  c2 : wx.cell? ⟨P, 2, none⟩ = some (.int .i64 y)
  c3 : wx.cell? ⟨P, 3, none⟩ = some (.int .i64 z)
  len : l.length = n
  lat : LAt wx a l
  cap : n ≤ c
  fresh : ∀ p, a = some p → wr.heap.size ≤ p.block
  new : wr.heap.size ≤ P
  bel : Below wr.heap.size wr wx
theorem QNew.below {wr wx wy : World} {P n c : Nat} {a : Option Addr} {x y z : Int} {l : List EvV} (h : QNew wr wx P a n c x y z l) (hb : Below wx.heap.size wx wy) : QNew wr wy P a n c x y z l := by
  have hl : P < wx.heap.size := World.block_lt_of_cell? wx _ h.c0
  exact ⟨(hb.cell (p := ⟨_, _, none⟩) hl).trans h.c0, (hb.cell (p := ⟨_, _, none⟩) hl).trans h.c1, (hb.cell (p := ⟨_, _, none⟩) hl).trans h.c2, (hb.cell (p := ⟨_, _, none⟩) hl).trans h.c3, h.len, h.lat.below hb (Nat.le_refl _), h.cap, h.fresh, h.new, h.bel.trans (hb.mono h.bel.size)⟩
/-- .. laid there behind the call that made it. -/
theorem QNew.made {wr w5 : World} {a : Option Addr} {n c : Nat} {x y z : Int} {l : List EvV} (hl : l.length = n) (hla : LAt w5 a l) (hc : n ≤ c) (hf : ∀ p, a = some p → wr.heap.size ≤ p.block) (hb : Below wr.heap.size wr w5) :
    QNew wr (w5.alloc (.cells #[.slice a n c, .int .i64 x, .int .i64 y, .int .i64 z] 24)) w5.heap.size a n c x y z l := by
  obtain ⟨p0, p1, p2, p3⟩ := q_cells w5 a n c x y z
  exact ⟨p0, p1, p2, p3, hl, hla.below ((Below.refl _ _).alloc (Nat.le_refl _) _) (Nat.le_refl _), hc, hf, hb.size, hb.alloc hb.size _⟩
/-- .. laid into a box that was made ahead of the call. -/
theorem QNew.laid {wr w5 : World} {P : Nat} {a : Option Addr} {n c : Nat} {x y z : Int} {l : List EvV} {u0 u1 u2 u3 : Value} (hl : l.length = n) (hla : LAt w5 a l) (hc : n ≤ c) (hf : ∀ p, a = some p → P + 1 ≤ p.block) (hP : wr.heap.size ≤ P) (hb : Below wr.heap.size wr w5)
    (z0 : w5.cell? ⟨P, 0, none⟩ = some u0) (z1 : w5.cell? ⟨P, 1, none⟩ = some u1) (z2 : w5.cell? ⟨P, 2, none⟩ = some u2) (z3 : w5.cell? ⟨P, 3, none⟩ = some u3) :
    QNew wr (put4 w5 P (.slice a n c) x y z) P a n c x y z l := by
  obtain ⟨p0, p1, p2, p3⟩ := put4_cells (s := .slice a n c) (x := x) (y := y) (z := z) z0 z1 z2 z3
  exact ⟨p0, p1, p2, p3, hl, hla.put4 (B := P + 1) hf (Nat.lt_succ_self P), hc, fun p hp => Nat.le_trans (Nat.le_succ_of_le hP) (hf p hp), hP, put4_below hb hP⟩
/-- What Push hands back: a queue that may be, or an error. -/
theorem pushed_two {now delta next : Int} {l : List EvV} {t d sig v : Int} (hn : I64 next) : ∃ (E x y z : Int) (l' : List EvV), E = pushE now delta next l t d sig ∧ l'.length ≤ l.length + 1 ∧ (E = 0 → QOk now delta next l ∧ x = now ∧ y = delta ∧ z = next + 1 ∧ l' = pushL l ⟨t, d, next, sig, v⟩ ∧ QOk x y z l' ∧ I64 z) ∧ ∀ W e w', Pushed W now delta next l t d sig v e w' → NewQ W E x y z l' e w' := by
  by_cases h0 : pushE now delta next l t d sig = 0
  · obtain ⟨hok, hd, hs, hx, hg⟩ := push_zero.1 h0
    refine ⟨0, now, delta, next + 1, pushL l ⟨t, d, next, sig, v⟩, h0.symm, by rw [pushL_length]; exact Nat.le_refl _, fun _ => ⟨hok, rfl, rfl, rfl, rfl, hok.push hd hs hg, ?_⟩, fun W e w' h => by unfold Pushed at h; rw [if_pos h0] at h; exact h⟩
    have := hok.x0
    exact ⟨by omega, by omega⟩
  · exact ⟨_, 0, 0, 0, [], rfl, by simp, fun h => absurd h h0, fun W e w' h => by unfold Pushed at h; rw [if_neg h0] at h; exact h⟩
end Go.Proofs.Ytbhbebidkeejbaa
