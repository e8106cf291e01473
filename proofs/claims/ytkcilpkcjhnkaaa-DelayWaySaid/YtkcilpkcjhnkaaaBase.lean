/- Readings of data in memory: slices, tables, nets; and how they go from world to world. -/
import Derived.Test.YtkcilpkcjhnkaaaProg
import Derived.WalkKit
import Derived.Handy
import Derived.Deep.QuietTactic
import Derived.BigQuiet
import Derived.Deep.LoopGhost
import Derived.Lib.Hide
import Derived.Shelf.Abstract
import Derived.WalkLawsBesides
import Derived.WalkSpells
import Derived.Laws.EntriesVeiled
namespace Go.Proofs.Ytkcilpkcjhnkaaa
open Go.RowKit

/-- n cells at a slice's address read as f; all lie in blocks below the heap's size. -/
def Seq (w : World) (a : Option Addr) (n : Nat) (f : Nat → Value) : Prop :=
  n = 0 ∨ ∃ b off, a = some ⟨b, off, none⟩ ∧ ∀ i, i < n → w.cell? ⟨b, off + i, none⟩ = some (f i)

theorem Seq.at {w : World} {a : Option Addr} {n : Nat} {f : Nat → Value} (h : Seq w a n f) (k : Nat) (hk : k < n) :
    ∃ b off, a = some ⟨b, off, none⟩ ∧ b < w.heap.size ∧ ∀ i, i < n → w.cell? ⟨b, off + i, none⟩ = some (f i) := by
  rcases h with h | ⟨b, off, ha, hc⟩
  · omega
  · exact ⟨b, off, ha, World.block_lt_of_cell? w _ (hc k hk), hc⟩

theorem Seq.below {w w' : World} {B : Nat} {a : Option Addr} {n : Nat} {f : Nat → Value} (h : Seq w a n f) (hb : Below B w w') (hB : w.heap.size ≤ B) : Seq w' a n f := by
  rcases h with h | ⟨b, off, ha, hc⟩
  · exact .inl h
  · refine .inr ⟨b, off, ha, fun i hi => ?_⟩
    have h1 := hc i hi
    have h2 := World.block_lt_of_cell? w _ h1
    rw [hb.cell (p := ⟨b, off + i, none⟩) (by simp at h2 ⊢; omega)]
    exact h1

def ints (l : List Int) : Nat → Value := fun i => .int .i64 (l.getD i 0)
def bools (l : List Bool) : Nat → Value := fun i => .bool (l.getD i false)

/-- A table as it lies: its inputs' slice, and its bits. -/
structure LutV where
  a : Option Addr
  c : Nat
  ins : List Int
  tab : Int

instance : Inhabited LutV := ⟨⟨none, 0, [], 0⟩⟩

structure HoldV where
  d : Int
  init : Bool

instance : Inhabited HoldV := ⟨⟨0, false⟩⟩

/-- A net as it lies. -/
structure NetV where
  ins : Int
  ha : Option Addr
  hc : Nat
  holds : List HoldV
  la : Option Addr
  lc : Nat
  luts : List LutV
  oa : Option Addr
  oc : Nat
  outs : List Int

abbrev NetV.val (N : NetV) : Value := .agg #[.int .i64 N.ins, .slice N.ha N.holds.length N.hc, .slice N.la N.luts.length N.lc, .slice N.oa N.outs.length N.oc]

def lutCell (l : List LutV) : Nat → Value := fun i =>
  if i % 2 = 0 then .slice (l.getD (i / 2) default).a (l.getD (i / 2) default).ins.length (l.getD (i / 2) default).c else .int .u64 (l.getD (i / 2) default).tab

def holdCell (l : List HoldV) : Nat → Value := fun i =>
  if i % 2 = 0 then .int .i64 (l.getD (i / 2) default).d else .bool (l.getD (i / 2) default).init

def I64 (x : Int) : Prop := -9223372036854775808 ≤ x ∧ x ≤ 9223372036854775807
def U64 (x : Int) : Prop := 0 ≤ x ∧ x ≤ 18446744073709551615

/-- How a net reads in a world. -/
structure NetAt (w : World) (N : NetV) : Prop where
  insR : I64 N.ins
  holds : Seq w N.ha (2 * N.holds.length) (holdCell N.holds)
  luts : Seq w N.la (2 * N.luts.length) (lutCell N.luts)
  outs : Seq w N.oa N.outs.length (ints N.outs)
  each : ∀ l ∈ N.luts, Seq w l.a l.ins.length (ints l.ins) ∧ U64 l.tab ∧ (∀ x ∈ l.ins, I64 x) ∧ l.ins.length ≤ 9223372036854775807
  holdsR : ∀ h ∈ N.holds, I64 h.d
  outsR : ∀ x ∈ N.outs, I64 x
  holdsL : N.holds.length ≤ 9223372036854775807
  lutsL : N.luts.length ≤ 9223372036854775807
  outsL : N.outs.length ≤ 9223372036854775807

theorem NetAt.below {w w' : World} {B : Nat} {N : NetV} (h : NetAt w N) (hb : Below B w w') (hB : w.heap.size ≤ B) : NetAt w' N :=
  ⟨h.insR, h.holds.below hb hB, h.luts.below hb hB, h.outs.below hb hB, fun l hl => ⟨(h.each l hl).1.below hb hB, (h.each l hl).2⟩, h.holdsR, h.outsR, h.holdsL, h.lutsL, h.outsL⟩

/-- The table at a place. -/
theorem NetAt.lut {w : World} {N : NetV} (h : NetAt w N) (k : Nat) (hk : k < N.luts.length) :
    ∃ b off, N.la = some ⟨b, off, none⟩ ∧ b < w.heap.size ∧ w.cell? ⟨b, off + k * 2, none⟩ = some (.slice (N.luts.getD k default).a (N.luts.getD k default).ins.length (N.luts.getD k default).c) ∧
      w.cell? ⟨b, off + k * 2 + 1, none⟩ = some (.int .u64 (N.luts.getD k default).tab) := by
  obtain ⟨b, off, ha, hb, hc⟩ := h.luts.at (2 * k) (by omega)
  refine ⟨b, off, ha, hb, ?_, ?_⟩
  · have := hc (k * 2) (by omega)
    rw [this]; simp only [lutCell]
    rw [if_pos (by omega), show k * 2 / 2 = k by omega]
  · have := hc (k * 2 + 1) (by omega)
    rw [Nat.add_assoc, this]; simp only [lutCell]
    rw [if_neg (by omega), show (k * 2 + 1) / 2 = k by omega]

theorem NetAt.lutAt {w : World} {N : NetV} (h : NetAt w N) (k : Nat) (hk : k < N.luts.length) :
    Seq w (N.luts.getD k default).a (N.luts.getD k default).ins.length (ints (N.luts.getD k default).ins) ∧ U64 (N.luts.getD k default).tab ∧ (∀ x ∈ (N.luts.getD k default).ins, I64 x) ∧ (N.luts.getD k default).ins.length ≤ 9223372036854775807 :=
  h.each _ (by simp [List.getD, List.getElem?_eq_getElem hk])

theorem cell_alloc {w : World} {a : Addr} {v : Value} (o : Obj) (h : w.cell? a = some v) : (w.alloc o).cell? a = some v := by
  rw [World.cell?_alloc_lt (h := World.block_lt_of_cell? w a h)]; exact h

theorem run_max2 {P : Program} (ts : Array TypeId) (t : TypeId) (k k' : IntKind) (x y : Int) (w : World) : (Builtin.max_ ts t #[.int k x, .int k' y]).run P w = .ok (.int k (max x y)) w := by
  simp [Builtin.max_, Builtin.max2]
  omega
theorem run_max3 {P : Program} (ts : Array TypeId) (t : TypeId) (k k' k'' : IntKind) (x y z : Int) (w : World) : (Builtin.max_ ts t #[.int k x, .int k' y, .int k'' z]).run P w = .ok (.int k (max (max x y) z)) w := by
  simp [Builtin.max_, Builtin.max2]
  omega

theorem ret_bool {a b : Bool} (h : a = b) : Ending.returned (.bool a) = .returned (.bool b) := by rw [h]
theorem ret_int {k : IntKind} {a b : Int} (h : a = b) : Ending.returned (.int k a) = .returned (.int k b) := by rw [h]

theorem all_getD {α : Type} (l : List α) (d : α) (p : α → Bool) : l.all p = true ↔ ∀ j, j < l.length → p (l.getD j d) = true := by
  rw [List.all_eq_true]
  constructor
  · intro h j hj
    exact h _ (by simp [List.getD, List.getElem?_eq_getElem hj])
  · intro h x hx
    obtain ⟨j, hj, rfl⟩ := List.getElem_of_mem hx
    have := h j hj
    simpa [List.getD, List.getElem?_eq_getElem hj] using this

theorem getD_mem {α : Type} (l : List α) (d : α) {k : Nat} (h : k < l.length) : l.getD k d ∈ l := by
  simp [List.getD, List.getElem?_eq_getElem h]

theorem belowN {B n : Nat} {a w : World} (h : Below B a w) : Below B a (w.drewN n) := ⟨h.os, h.tape, h.output, h.size, h.block⟩

theorem frozen_alloc {w : World} {b i : Nat} {f : Bool} (o : Obj) (hb : b < w.heap.size) (h : w.frozen? ⟨b, i, none⟩ = f) : (w.alloc o).frozen? ⟨b, i, none⟩ = f := by
  rw [← h]
  exact World.frozen?_of_block (Below.heap_alloc _ _ _ hb)

theorem bcell {W w1 : World} {B : Nat} (hb : Below B W w1) : (∀ b o, b < B → w1.cell? ⟨b, o, none⟩ = W.cell? ⟨b, o, none⟩) ∧ (∀ b o, b < B → w1.frozen? ⟨b, o, none⟩ = W.frozen? ⟨b, o, none⟩) :=
  ⟨fun b o h => hb.cell (p := ⟨b, o, none⟩) h, fun b o h => hb.frozen (p := ⟨b, o, none⟩) h⟩

end Go.Proofs.Ytkcilpkcjhnkaaa
