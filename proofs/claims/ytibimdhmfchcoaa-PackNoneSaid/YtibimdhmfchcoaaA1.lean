import Derived.Test.YtibimdhmfchcoaaProg
import Derived.WalkKit
import Derived.Handy
import Derived.Deep.QuietTactic
import Derived.BigQuiet
import Derived.Deep.LoopGhost
import Derived.Lib.Hide
import Derived.Shelf.Abstract
import Derived.WalkLawsBesides
import Derived.WalkSpells
import Derived.Laws.EntriesVeiled
import Derived.Deep.RegionHeld3
import Derived.Deep.OwnRows
/- Readings of data in memory: slices, tables, nets; and how they go from world to world. -/
namespace Go.Proofs.Ytibimdhmfchcoaa
open Go.RowKit

/-- n cells at a slice's address read as f; all lie in blocks below the heap's size. -/
def Seq (w : World) (a : Option Addr) (n : Nat) (f : Nat → Value) : Prop :=
  n = 0 ∨ ∃ b off, a = some ⟨b, off, none⟩ ∧ ∀ i, i < n → w.cell? ⟨b, off + i, none⟩ = some (f i)

theorem Seq.at {w : World} {a : Option Addr} {n : Nat} {f : Nat → Value} (h : Seq w a n f) (k : Nat) (hk : k < n) :
    ∃ b off, a = some ⟨b, off, none⟩ ∧ b < w.heap.size ∧ ∀ i, i < n → w.cell? ⟨b, off + i, none⟩ = some (f i) := by
  rcases h with h | ⟨b, off, ha, hc⟩
  · omega
  · exact ⟨b, off, ha, World.block_lt_of_cell? w _ (hc k hk), hc⟩

theorem Seq.below {w w' : World} {B : Nat} {a : Option Addr} {n : Nat} {f : Nat → Value} (h : Seq w a n f) (hb : Below B w w') (hB : w.heap.size ≤ B) : Seq w' a n f := by
  rcases h with h | ⟨b, off, ha, hc⟩
  · exact .inl h
  · refine .inr ⟨b, off, ha, fun i hi => ?_⟩
    have h1 := hc i hi
    have h2 := World.block_lt_of_cell? w _ h1
    rw [hb.cell (p := ⟨b, off + i, none⟩) (by simp at h2 ⊢; omega)]
    exact h1

def ints (l : List Int) : Nat → Value := fun i => .int .i64 (l.getD i 0)
def bools (l : List Bool) : Nat → Value := fun i => .bool (l.getD i false)

/-- A table as it lies: its inputs' slice, and its bits. -/
structure LutV where
  a : Option Addr
  c : Nat
  ins : List Int
  tab : Int

instance : Inhabited LutV := ⟨⟨none, 0, [], 0⟩⟩

structure HoldV where
  d : Int
  init : Bool

instance : Inhabited HoldV := ⟨⟨0, false⟩⟩

/-- A net as it lies. -/
structure NetV where
  ins : Int
  ha : Option Addr
  hc : Nat
  holds : List HoldV
  la : Option Addr
  lc : Nat
  luts : List LutV
  oa : Option Addr
  oc : Nat
  outs : List Int

abbrev NetV.val (N : NetV) : Value := .agg #[.int .i64 N.ins, .slice N.ha N.holds.length N.hc, .slice N.la N.luts.length N.lc, .slice N.oa N.outs.length N.oc]

def lutCell (l : List LutV) : Nat → Value := fun i =>
  if i % 2 = 0 then .slice (l.getD (i / 2) default).a (l.getD (i / 2) default).ins.length (l.getD (i / 2) default).c else .int .u64 (l.getD (i / 2) default).tab

def holdCell (l : List HoldV) : Nat → Value := fun i =>
  if i % 2 = 0 then .int .i64 (l.getD (i / 2) default).d else .bool (l.getD (i / 2) default).init

def I64 (x : Int) : Prop := -9223372036854775808 ≤ x ∧ x ≤ 9223372036854775807
def U64 (x : Int) : Prop := 0 ≤ x ∧ x ≤ 18446744073709551615

/-- How a net reads in a world. -/
structure NetAt (w : World) (N : NetV) : Prop where
  insR : I64 N.ins
  holds : Seq w N.ha (2 * N.holds.length) (holdCell N.holds)
  luts : Seq w N.la (2 * N.luts.length) (lutCell N.luts)
  outs : Seq w N.oa N.outs.length (ints N.outs)
  each : ∀ l ∈ N.luts, Seq w l.a l.ins.length (ints l.ins) ∧ U64 l.tab ∧ (∀ x ∈ l.ins, I64 x) ∧ l.ins.length ≤ 9223372036854775807
  holdsR : ∀ h ∈ N.holds, I64 h.d
  outsR : ∀ x ∈ N.outs, I64 x
  holdsL : N.holds.length ≤ 9223372036854775807
  lutsL : N.luts.length ≤ 9223372036854775807
  outsL : N.outs.length ≤ 9223372036854775807

theorem NetAt.below {w w' : World} {B : Nat} {N : NetV} (h : NetAt w N) (hb : Below B w w') (hB : w.heap.size ≤ B) : NetAt w' N :=
  ⟨h.insR, h.holds.below hb hB, h.luts.below hb hB, h.outs.below hb hB, fun l hl => ⟨(h.each l hl).1.below hb hB, (h.each l hl).2⟩, h.holdsR, h.outsR, h.holdsL, h.lutsL, h.outsL⟩

/-- The table at a place. -/
theorem NetAt.lut {w : World} {N : NetV} (h : NetAt w N) (k : Nat) (hk : k < N.luts.length) :
    ∃ b off, N.la = some ⟨b, off, none⟩ ∧ b < w.heap.size ∧ w.cell? ⟨b, off + k * 2, none⟩ = some (.slice (N.luts.getD k default).a (N.luts.getD k default).ins.length (N.luts.getD k default).c) ∧
      w.cell? ⟨b, off + k * 2 + 1, none⟩ = some (.int .u64 (N.luts.getD k default).tab) := by
  obtain ⟨b, off, ha, hb, hc⟩ := h.luts.at (2 * k) (by omega)
  refine ⟨b, off, ha, hb, ?_, ?_⟩
  · have := hc (k * 2) (by omega)
    rw [this]; simp only [lutCell]
    rw [if_pos (by omega), show k * 2 / 2 = k by omega]
  · have := hc (k * 2 + 1) (by omega)
    rw [Nat.add_assoc, this]; simp only [lutCell]
    rw [if_neg (by omega), show (k * 2 + 1) / 2 = k by omega]

theorem NetAt.lutAt {w : World} {N : NetV} (h : NetAt w N) (k : Nat) (hk : k < N.luts.length) :
    Seq w (N.luts.getD k default).a (N.luts.getD k default).ins.length (ints (N.luts.getD k default).ins) ∧ U64 (N.luts.getD k default).tab ∧ (∀ x ∈ (N.luts.getD k default).ins, I64 x) ∧ (N.luts.getD k default).ins.length ≤ 9223372036854775807 :=
  h.each _ (by simp [List.getD, List.getElem?_eq_getElem hk])

theorem cell_alloc {w : World} {a : Addr} {v : Value} (o : Obj) (h : w.cell? a = some v) : (w.alloc o).cell? a = some v := by
  rw [World.cell?_alloc_lt (h := World.block_lt_of_cell? w a h)]; exact h

theorem run_max2 {P : Program} (ts : Array TypeId) (t : TypeId) (k k' : IntKind) (x y : Int) (w : World) : (Builtin.max_ ts t #[.int k x, .int k' y]).run P w = .ok (.int k (max x y)) w := by
  simp [Builtin.max_, Builtin.max2]
  omega
theorem run_max3 {P : Program} (ts : Array TypeId) (t : TypeId) (k k' k'' : IntKind) (x y z : Int) (w : World) : (Builtin.max_ ts t #[.int k x, .int k' y, .int k'' z]).run P w = .ok (.int k (max (max x y) z)) w := by
  simp [Builtin.max_, Builtin.max2]
  omega

theorem ret_bool {a b : Bool} (h : a = b) : Ending.returned (.bool a) = .returned (.bool b) := by rw [h]
theorem ret_int {k : IntKind} {a b : Int} (h : a = b) : Ending.returned (.int k a) = .returned (.int k b) := by rw [h]

theorem all_getD {α : Type} (l : List α) (d : α) (p : α → Bool) : l.all p = true ↔ ∀ j, j < l.length → p (l.getD j d) = true := by
  rw [List.all_eq_true]
  constructor
  · intro h j hj
    exact h _ (by simp [List.getD, List.getElem?_eq_getElem hj])
  · intro h x hx
    obtain ⟨j, hj, rfl⟩ := List.getElem_of_mem hx
    have := h j hj
    simpa [List.getD, List.getElem?_eq_getElem hj] using this

theorem getD_mem {α : Type} (l : List α) (d : α) {k : Nat} (h : k < l.length) : l.getD k d ∈ l := by
  simp [List.getD, List.getElem?_eq_getElem h]

theorem belowN {B n : Nat} {a w : World} (h : Below B a w) : Below B a (w.drewN n) := ⟨h.os, h.tape, h.output, h.size, h.block⟩

theorem frozen_alloc {w : World} {b i : Nat} {f : Bool} (o : Obj) (hb : b < w.heap.size) (h : w.frozen? ⟨b, i, none⟩ = f) : (w.alloc o).frozen? ⟨b, i, none⟩ = f := by
  rw [← h]
  exact World.frozen?_of_block (Below.heap_alloc _ _ _ hb)

theorem bcell {W w1 : World} {B : Nat} (hb : Below B W w1) : (∀ b o, b < B → w1.cell? ⟨b, o, none⟩ = W.cell? ⟨b, o, none⟩) ∧ (∀ b o, b < B → w1.frozen? ⟨b, o, none⟩ = W.frozen? ⟨b, o, none⟩) :=
  ⟨fun b o h => hb.cell (p := ⟨b, o, none⟩) h, fun b o h => hb.frozen (p := ⟨b, o, none⟩) h⟩

end Go.Proofs.Ytibimdhmfchcoaa

namespace Go.Proofs.Ytibimdhmfchcoaa
open Go.RowKit

/-- The greatest of what is told of some nodes, and 0. -/
def mostOf (prev : List Int) (ks : List Int) : Int := ks.foldl (fun m k => max m (prev.getD k.toNat 0)) 0

def firstN (N : NetV) : Nat := (1 + N.ins + N.holds.length).toNat

/-- When each node is there, of those ahead of table i. -/
def arrTo (N : NetV) (cost : List Int) : Nat → List Int
  | 0 => List.replicate (firstN N) 0
  | i + 1 => arrTo N cost i ++ [cost.getD i 0 + mostOf (arrTo N cost i) (N.luts.getD i default).ins]

def arrL (N : NetV) (cost : List Int) : List Int := arrTo N cost N.luts.length

theorem arrTo_length (N : NetV) (cost : List Int) (i : Nat) : (arrTo N cost i).length = firstN N + i := by
  induction i with
  | zero => simp [arrTo]
  | succ i ih => simp [arrTo, ih]; omega

theorem foldl_max_le (f : Int → Int) (B : Int) : ∀ (ks : List Int) (m : Int), m ≤ B → (∀ k ∈ ks, f k ≤ B) → ks.foldl (fun m k => max m (f k)) m ≤ B
  | [], _, h, _ => h
  | k :: ks, m, h, hk => by
    simp only [List.foldl_cons]
    exact foldl_max_le f B ks _ (by have := hk k (by simp); omega) (fun x hx => hk x (by simp [hx]))

theorem foldl_max_ge (f : Int → Int) : ∀ (ks : List Int) (m : Int), m ≤ ks.foldl (fun m k => max m (f k)) m
  | [], _ => Int.le_refl _
  | k :: ks, m => by
    simp only [List.foldl_cons]
    exact Int.le_trans (by omega) (foldl_max_ge f ks (max m (f k)))

theorem foldl_max_mem (f : Int → Int) : ∀ (ks : List Int) (m : Int), ∀ k ∈ ks, f k ≤ ks.foldl (fun m k => max m (f k)) m
  | k :: ks, m, x, hx => by
    simp only [List.foldl_cons]
    rcases List.mem_cons.1 hx with rfl | hx
    · exact Int.le_trans (by omega) (foldl_max_ge f ks (max m (f x)))
    · exact foldl_max_mem f ks _ x hx

theorem mostOf_nonneg (prev ks : List Int) : 0 ≤ mostOf prev ks := foldl_max_ge _ ks 0

theorem mostOf_le (prev ks : List Int) (B : Int) (h0 : 0 ≤ B) (h : ∀ x ∈ prev, x ≤ B) : mostOf prev ks ≤ B := by
  refine foldl_max_le _ B ks 0 h0 fun k _ => ?_
  by_cases hk : k.toNat < prev.length
  · exact h _ (getD_mem _ _ hk)
  · simp [List.getD, List.getElem?_eq_none (Nat.le_of_not_lt hk), h0]

/-- No time is below 0, nor above what all tables cost. -/
theorem arrTo_bound (N : NetV) (cost : List Int) (hc : ∀ c ∈ cost, 0 ≤ c ∧ c ≤ 1048576) (i : Nat) : ∀ x ∈ arrTo N cost i, 0 ≤ x ∧ x ≤ 1048576 * i := by
  induction i with
  | zero => intro x hx; simp [arrTo] at hx; omega
  | succ i ih =>
    intro x hx
    simp only [arrTo, List.mem_append, List.mem_singleton] at hx
    rcases hx with hx | rfl
    · have := ih x hx; omega
    · have h1 := mostOf_nonneg (arrTo N cost i) (N.luts.getD i default).ins
      have h2 := mostOf_le (arrTo N cost i) (N.luts.getD i default).ins (1048576 * i) (by omega) (fun x hx => (ih x hx).2)
      have h3 : 0 ≤ cost.getD i 0 ∧ cost.getD i 0 ≤ 1048576 := by
        by_cases hi : i < cost.length
        · exact hc _ (getD_mem _ _ hi)
        · simp [List.getD, List.getElem?_eq_none (Nat.le_of_not_lt hi)]
      omega

theorem mostOf_take (prev ks : List Int) (j : Nat) (hj : j < ks.length) : mostOf prev (ks.take (j + 1)) = max (mostOf prev (ks.take j)) (prev.getD (ks.getD j 0).toNat 0) := by
  unfold mostOf
  rw [List.take_succ_eq_append_getElem hj, List.foldl_append]
  simp [List.getD, List.getElem?_eq_getElem hj]

section
variable {w : World} {base e n : Nat} {v : Value} {l : List Int}

/-- What a row of numbers that the call made looks like. -/
theorem owns_shape (h : w.ownsRow base e 1 v n (l.map (Value.int .i64))) (hn : 0 < n) : ∃ g cap, v = .slice (some ⟨g, 0, none⟩) n cap ∧ base ≤ g ∧ g < w.heap.size ∧ n ≤ cap ∧ ∀ j, j < n → w.cell? ⟨g, j, none⟩ = some (.int .i64 (l.getD j 0)) := by
  have hl : l.length = n := by have := h.1; simpa using this
  rcases h.2 with ⟨_, h0⟩ | ⟨g, cap, cur, hv, hb, hg, hnc, hm, hs, ht⟩
  · omega
  · subst hv
    refine ⟨g, cap, rfl, hb, (Array.getElem?_eq_some_iff.1 hg).1, hnc, fun j hj => ?_⟩
    rw [h.cellAt j (by omega)]
    simp [List.getD, List.getElem?_eq_getElem (show j < l.length by omega)]

theorem owns_seq (h : w.ownsRow base e 1 v n (l.map (Value.int .i64))) : ∃ a cap, v = .slice a n cap ∧ Seq w a n (ints l) ∧ n ≤ cap ∧ cap ≤ maxLen := by
  by_cases hn : 0 < n
  · obtain ⟨g, cap, rfl, _, _, h1, hc⟩ := owns_shape h hn
    refine ⟨_, cap, rfl, .inr ⟨g, 0, rfl, fun i hi => by rw [Nat.zero_add]; exact hc i hi⟩, h1, ?_⟩
    rcases h.2 with ⟨h, _⟩ | ⟨g, cap, cur, hv, hb, hg, hnc, hm, hs, ht⟩
    · cases h
    · cases hv; exact hm
  · rcases h.2 with ⟨hv, h0⟩ | ⟨g, cap, cur, hv, hb, hg, hnc, hm, hs, ht⟩
    · exact ⟨none, 0, by rw [hv, h0], .inl h0, by omega, by simp [maxLen]⟩
    · exact ⟨_, cap, hv, .inl (by omega), hnc, hm⟩
theorem grownBy_trans {a b c : World} {g : Option Nat} (h : a.grownBy b g) (k : b.grownBy c g) : a.grownBy c g :=
  ⟨k.os.trans h.os, k.tape.trans h.tape, k.output.trans h.output, Nat.le_trans h.size k.size, fun i hi hn => (k.block i (Nat.lt_of_lt_of_le hi h.size) hn).trans (h.block i hi hn)⟩

theorem grownBy_drewN (a : World) (n : Nat) (g : Option Nat) : a.grownBy (a.drewN n) g := ⟨rfl, rfl, rfl, Nat.le_refl _, fun _ _ _ => rfl⟩
theorem grownBy_drew (a : World) (g : Option Nat) : a.grownBy a.drew g := ⟨rfl, rfl, rfl, Nat.le_refl _, fun _ _ _ => rfl⟩

theorem grownBy_below {a b : World} {g B : Nat} (h : a.grownBy b (some g)) (hB : B ≤ a.heap.size) (hg : B ≤ g) : Below B a b :=
  (Below.refl _ _).grown h hB (fun k e => by cases e; exact hg)

/-- What a store into a row that the call made leaves. -/
theorem own_store {w : World} {base e n cap g : Nat} {xs : List Value} (h : w.ownsRow base e 1 (.slice (some ⟨g, 0, none⟩) n cap) n xs) (j : Nat) (u : Value) :
    (w.setCell ⟨g, j, none⟩ u).ownsRow base e 1 (.slice (some ⟨g, 0, none⟩) n cap) n (xs.set j u) ∧ w.grownBy (w.setCell ⟨g, j, none⟩ u) (some g) := h.stored j u

theorem own_drewN {w : World} {base e size n k : Nat} {v : Value} {xs : List Value} (h : w.ownsRow base e size v n xs) : (w.drewN k).ownsRow base e size v n xs := h

theorem own_below {w w' : World} {base e size n : Nat} {v : Value} {xs : List Value} (h : w.ownsRow base e size v n xs) (hb : Below w.heap.size w w') : w'.ownsRow base e size v n xs :=
  h.kept (row := none) ⟨hb.os, hb.tape, hb.output, hb.size, fun k hk _ => hb.block k hk⟩ (by cases v.ownBlock <;> simp)

theorem _root_.Go.World.ownsRow.base_le {w : World} {base base' e size n : Nat} {v : Value} {xs : List Value} (h : w.ownsRow base e size v n xs) (hb : base' ≤ base) : w.ownsRow base' e size v n xs := by
  refine ⟨h.1, ?_⟩
  rcases h.2 with h2 | ⟨g, cap, cur, hv, hg, r⟩
  · exact .inl h2
  · exact .inr ⟨g, cap, cur, hv, Nat.le_trans hb hg, r⟩
end
end Go.Proofs.Ytibimdhmfchcoaa

namespace Go.Proofs.Ytibimdhmfchcoaa
open Go.RowKit

def fewB (N : NetV) : Bool := (N.luts.all fun l => decide (l.ins.length ≤ 20)) && decide (N.ins ≤ 100) && decide (N.holds.length ≤ 100) && decide (N.luts.length ≤ 200) && decide (N.outs.length ≤ 100)

theorem fewNet (w : World) (N : NetV) (h : NetAt w N) :
    Calls Try.prog 15 #[N.val] w fun e w' => e = .returned (.bool (fewB N)) ∧ Below w.heap.size w w' := by
  have hl := h.lutsL
  have hol := h.holdsL
  have hul := h.outsL
  have H := Lib.hid h
  clear h
  obtain ⟨ins, ha, hc, holds, la, lc, luts, oa, oc, outs⟩ := N
  dsimp only at hl hol hul ⊢
  go_enter Try.func15, Try.ntmps15
  go_wp2
  obtain ⟨W1, hW1⟩ : ∃ W1, W1 = w.alloc (Obj.cells #[Value.int IntKind.i64 ins, Value.slice ha holds.length hc, Value.slice la luts.length lc, Value.slice oa outs.length oc] 26) := ⟨_, rfl⟩
  have hs : W1.heap.size = w.heap.size + 1 := by rw [hW1]; simp
  have c0 : W1.cell? ⟨w.heap.size, 0, none⟩ = some (.int .i64 ins) := by rw [hW1]; simp
  have c1 : W1.cell? ⟨w.heap.size, 1, none⟩ = some (Value.slice ha holds.length hc) := by rw [hW1]; simp
  have c2 : W1.cell? ⟨w.heap.size, 2, none⟩ = some (Value.slice la luts.length lc) := by rw [hW1]; simp
  have c3 : W1.cell? ⟨w.heap.size, 3, none⟩ = some (Value.slice oa outs.length oc) := by rw [hW1]; simp
  have hB : Below w.heap.size w W1 := by rw [hW1]; exact (Below.refl _ _).alloc (Nat.le_refl _) _
  rw [← hW1]
  clear hW1
  go_loopw [8] (fun i wr => ∃ k : Nat, k ≤ luts.length ∧ i = .int .i64 k ∧ Hid (Below W1.heap.size W1 wr ∧ ∀ j, j < k → (luts.getD j default).ins.length ≤ 20)) (fun i _ => luts.length - (intOf i).toNat)
  case atStart => exact ⟨0, by omega, rfl, ⟨Below.refl _ _, fun j hj => by omega⟩⟩
  case round =>
    obtain ⟨k, hk, rfl, hh⟩ := hrel
    have hb := hh.out.1
    by_cases hlt : k < luts.length
    · obtain ⟨b, off, rfl, hbb, d0, d1⟩ := (H.out.below (hB.trans (hb.mono (by omega))) (Nat.le_refl _)).lut k hlt
      have hL := ((H.out.lutAt k hlt).2.2).2
      dsimp only at d0 d1 hL
      obtain ⟨L, hLe⟩ : ∃ L, L = luts.getD k default := ⟨_, rfl⟩
      rw [← hLe] at d0 d1 hL
      have HL := Lib.hid hLe
      clear hLe
      by_cases h20 : L.ins.length ≤ 20
      · go_wp2
        go_roundw
        case rel => exact ⟨k + 1, by omega, by go_num, ⟨hb.alloc hb.size _, fun j hj => by
          rcases Nat.lt_succ_iff_lt_or_eq.1 hj with h | rfl
          · exact hh.out.2 j h
          · rw [← HL.out]; exact h20⟩⟩
        case measure => simp [intOf]; omega
      · go_wp2
        go_ret
        refine ⟨ret_bool ?_, hB.trans ((hb.mono (by omega)).alloc (by have := hb.size; omega) _)⟩
        simp only [fewB]
        refine Eq.symm ?_
        simp only [Bool.and_eq_false_iff]
        refine .inl (.inl (.inl (.inl ?_)))
        rw [Bool.eq_false_iff]
        intro hc
        have := (all_getD luts default _).1 hc k hlt
        rw [← HL.out] at this
        simp at this
        omega
    · obtain rfl : k = luts.length := by omega
      obtain ⟨bc, bf⟩ := bcell hb
      have e0 := (bc _ 0 (by omega)).trans c0
      have e1 := (bc _ 1 (by omega)).trans c1
      have e2 := (bc _ 2 (by omega)).trans c2
      have e3 := (bc _ 3 (by omega)).trans c3
      clear bc bf c0 c1 c2 c3
      have hfin : (luts.all fun l => decide (l.ins.length ≤ 20)) = true := (all_getD luts default _).2 fun j hj => by simpa using hh.out.2 j hj
      have HF := Lib.hid hfin
      clear hfin
      have hB' : Below w.heap.size w wr := hB.trans (hb.mono (by omega))
      by_cases g0 : ins ≤ 100
      · by_cases g1 : holds.length ≤ 100
        · by_cases g2 : luts.length ≤ 200
          · by_cases g3 : outs.length ≤ 100
            · go_wp2
              go_ret
              exact ⟨ret_bool (by simp only [fewB]; rw [HF.out]; simp [g0, g1, g2, g3] <;> omega), hB'⟩
            · go_wp2
              go_ret
              exact ⟨ret_bool (by simp only [fewB]; rw [HF.out]; simp [g3] <;> omega), hB'⟩
          · go_wp2
            go_ret
            exact ⟨ret_bool (by simp only [fewB]; rw [HF.out]; simp [g2] <;> omega), hB'⟩
        · go_wp2
          go_ret
          exact ⟨ret_bool (by simp only [fewB]; rw [HF.out]; simp [g1] <;> omega), hB'⟩
      · go_wp2
        go_ret
        exact ⟨ret_bool (by simp only [fewB]; rw [HF.out]; simp <;> omega), hB'⟩
end Go.Proofs.Ytibimdhmfchcoaa

namespace Go.Proofs.Ytibimdhmfchcoaa
open Go.RowKit

/-- The bits that a table of so many inputs may have. -/
def rowsN (n : Nat) : Nat := 2 ^ (2 ^ (min n 6)) - 1

theorem and_compl (t m : Nat) (ht : t < 18446744073709551616) (hm : m ≤ 64) : t &&& (18446744073709551615 - (2 ^ m - 1)) = 0 ↔ t ≤ 2 ^ m - 1 := by
  have hp : 0 < 2 ^ m := Nat.two_pow_pos m
  have hle : 2 ^ m ≤ 2 ^ 64 := Nat.pow_le_pow_right (by omega) hm
  have e : 18446744073709551615 - (2 ^ m - 1) = 2 ^ 64 - ((2 ^ m - 1) + 1) := by
    have : (2 : Nat) ^ 64 = 18446744073709551616 := by rfl
    omega
  have hb : ∀ i, (2 ^ 64 - ((2 ^ m - 1) + 1)).testBit i = (decide (i < 64) && !decide (i < m)) := by
    intro i
    rw [Nat.testBit_two_pow_sub_succ (by omega), Nat.testBit_two_pow_sub_one]
  rw [e]
  constructor
  · intro h
    have : t < 2 ^ m := by
      apply Nat.lt_pow_two_of_testBit
      intro i hi
      by_cases h64 : i < 64
      · have h0 : (t &&& (2 ^ 64 - ((2 ^ m - 1) + 1))).testBit i = false := by rw [h]; simp
        rw [Nat.testBit_and, hb i] at h0
        simpa [h64, show ¬ i < m by omega] using h0
      · exact Nat.testBit_lt_two_pow (Nat.lt_of_lt_of_le (show t < 2 ^ 64 by omega) (Nat.pow_le_pow_right (by omega) (by omega)))
    omega
  · intro h
    apply Nat.eq_of_testBit_eq
    intro i
    rw [Nat.testBit_and, hb i]
    by_cases hi : i < m
    · simp [hi]
    · have : t.testBit i = false := Nat.testBit_lt_two_pow (Nat.lt_of_lt_of_le (show t < 2 ^ m by omega) (Nat.pow_le_pow_right (by omega) (by omega)))
      simp [this]

theorem two_pow_min (n : Nat) : 2 ^ (min n 6) ≤ 64 := by
  have : (2 : Nat) ^ (min n 6) ≤ 2 ^ 6 := Nat.pow_le_pow_right (by omega) (by omega)
  simpa using this

theorem rowsN_lt (n : Nat) : rowsN n < 18446744073709551616 := by
  have h := two_pow_min n
  have : (2 : Nat) ^ (2 ^ (min n 6)) ≤ 2 ^ 64 := Nat.pow_le_pow_right (by omega) h
  have e : (2 : Nat) ^ 64 = 18446744073709551616 := by rfl
  unfold rowsN
  omega

theorem tab_bad (t : Int) (n : Nat) (h : U64 t) : (bits .andNot .u64 t (rowsN n : Nat) != 0) = !decide (t ≤ rowsN n) := by
  obtain ⟨h0, h1⟩ := h
  obtain ⟨m, rfl⟩ := Int.eq_ofNat_of_zero_le h0
  have hr := rowsN_lt n
  rw [u64_andNot_nat m (rowsN n) (by omega) hr]
  have := and_compl m (2 ^ (min n 6)) (by omega) (two_pow_min n)
  rw [show 2 ^ 2 ^ min n 6 - 1 = rowsN n from rfl] at this
  by_cases hle : m ≤ rowsN n
  · have h2 := this.2 hle
    rw [h2]
    simp only [Int.natCast_zero, bne_self_eq_false]
    simp; omega
  · have h2 := fun h => hle (this.1 h)
    have h4 : ¬ ((m : Int) ≤ (rowsN n : Nat)) := by omega
    rw [decide_eq_false h4, Bool.not_false, bne_iff_ne]
    intro h5
    exact h2 (by omega)

theorem quiet_same {P : Program} {f : FuncId} {args : Array Value} {w : World} {n : Nat} {v : Value}
    (h : Calls P f args (w.drewN n) fun e w' => e = .returned v ∧ w.drewN n = w') : Calls P f args (w.drewN n) fun e w'' => e = .returned v ∧ ∃ m, w'' = w.drewN m :=
  h.mono fun _ _ ⟨he, hm⟩ => ⟨he, n, hm.symm⟩
end Go.Proofs.Ytibimdhmfchcoaa

namespace Go.Proofs.Ytibimdhmfchcoaa
open Go.RowKit

def idxBy {α : Type} (l : List α) (p : α → Bool) : Int := if l.any p then (l.findIdx p : Nat) else -1

theorem idx_yes {α : Type} {l : List α} (d : α) {p : α → Bool} {k : Nat} (hk : k < l.length) (h : p (l.getD k d) = true) (hno : ∀ j, j < k → p (l.getD j d) = false) : idxBy l p = k := by
  have hk' : l.getD k d = l[k] := by simp [List.getD, List.getElem?_eq_getElem hk]
  rw [hk'] at h
  have hany : l.any p = true := List.any_eq_true.2 ⟨l[k], List.getElem_mem hk, h⟩
  have : l.findIdx p = k := by
    rw [List.findIdx_eq hk]
    refine ⟨h, fun j hj => ?_⟩
    have := hno j hj
    simpa [List.getD, List.getElem?_eq_getElem (Nat.lt_trans hj hk)] using this
  simp [idxBy, hany, this]

theorem idx_no {α : Type} {l : List α} (d : α) {p : α → Bool} (hno : ∀ j, j < l.length → p (l.getD j d) = false) : idxBy l p = -1 := by
  have hany : l.any p = false := by
    rw [Bool.eq_false_iff]
    intro h
    obtain ⟨x, hx, hpx⟩ := List.any_eq_true.1 h
    obtain ⟨j, hj, rfl⟩ := List.getElem_of_mem hx
    have := hno j hj
    simp [List.getD, List.getElem?_eq_getElem hj, hpx] at this
  simp [idxBy, hany]

theorem idx_nonneg {α : Type} (l : List α) (p : α → Bool) : decide (0 ≤ idxBy l p) = l.any p := by
  unfold idxBy
  cases l.any p <;> simp

theorem indexFunc (w : World) (a : Option Addr) (n c : Nat) (l : List Int) (hlen : l.length = n) (S : Seq w a n (ints l)) (hn : n ≤ 9223372036854775807) (g : FuncId) (eg : Enters Try.prog g) (cap : Array Value) (p : Int → Bool)
    (hp : ∀ x, x ∈ l → Calls Try.prog g (#[.int .i64 x] ++ cap) w fun e w' => e = .returned (.bool (p x)) ∧ w = w') :
    Calls Try.prog 65 #[.slice a n c, .func (.func g) #[] cap] w fun e w' => e = .returned (.int .i64 (idxBy l p)) ∧ w = w' := by
  have HS := Lib.hid S
  have HL := Lib.hid hlen
  have HP := Lib.hid hp
  clear S hlen hp
  go_enter Try.func65, Try.ntmps65
  go_wp2
  go_loop [8] (fun i => ∃ k : Nat, k ≤ n ∧ i = .int .i64 k ∧ Hid (∀ j, j < k → p (l.getD j 0) = false)) (fun i => n - (intOf i).toNat)
  case atStart => exact ⟨0, by omega, rfl, fun j hj => by omega⟩
  case round =>
    obtain ⟨k, hk, rfl, hh⟩ := hrel
    by_cases hlt : k < n
    · obtain ⟨b, off, rfl, hbb, hc⟩ := HS.out.at k hlt
      have d0 : w.cell? ⟨b, off + k, none⟩ = some (.int .i64 (l.getD k 0)) := hc k hlt
      have hmem : l.getD k 0 ∈ l := getD_mem _ _ (by rw [HL.out]; exact hlt)
      obtain ⟨x, hx⟩ : ∃ x, x = l.getD k 0 := ⟨_, rfl⟩
      rw [← hx] at d0 hmem
      have HX := Lib.hid hx
      clear hx hc
      unfold Enters at eg
      cases hpx : p x
      all_goals
        have HPX := Lib.hid hpx
        clear hpx
        go_wp2_with fail
        refine (HP.out _ hmem).mono ?_
        rw [HPX.out]
        rintro e w1 ⟨rfl, rfl⟩
        go_wp2
      · go_round
        case rel =>
          refine ⟨k + 1, by omega, by go_num, fun j hj => ?_⟩
          rcases Nat.lt_succ_iff_lt_or_eq.1 hj with h | rfl
          · exact hh.out j h
          · rw [← HX.out, HPX.out]
        case measure => simp [intOf]; omega
      · go_ret
        exact ⟨ret_int (idx_yes 0 (by rw [HL.out]; exact hlt) (by rw [← HX.out]; exact HPX.out) hh.out).symm, rfl⟩
    · obtain rfl : k = n := by omega
      go_wp2
      go_ret
      exact ⟨ret_int (idx_no 0 (by rw [HL.out]; exact hh.out)).symm, rfl⟩

theorem containsFunc (w : World) (a : Option Addr) (n c : Nat) (l : List Int) (hlen : l.length = n) (S : Seq w a n (ints l)) (hn : n ≤ 9223372036854775807) (g : FuncId) (eg : Enters Try.prog g) (cap : Array Value) (p : Int → Bool)
    (hp : ∀ x, x ∈ l → Calls Try.prog g (#[.int .i64 x] ++ cap) w fun e w' => e = .returned (.bool (p x)) ∧ w = w') :
    Calls Try.prog 45 #[.slice a n c, .func (.func g) #[] cap] w fun e w' => e = .returned (.bool (l.any p)) ∧ w = w' := by
  have C := Lib.hid (indexFunc w a n c l hlen S hn g eg cap p hp)
  clear S hlen hp
  go_enter Try.func45, Try.ntmps45
  go_wp2_with fail
  refine C.out.mono ?_
  rintro e w1 ⟨rfl, rfl⟩
  go_wp2
  go_ret
  exact ⟨ret_bool (by rw [← idx_nonneg l p]), rfl⟩

theorem indexFuncHold (w : World) (a : Option Addr) (n c : Nat) (l : List HoldV) (hlen : l.length = n) (S : Seq w a (2 * n) (holdCell l)) (hn : n ≤ 9223372036854775807) (g : FuncId) (eg : Enters Try.prog g) (cap : Array Value) (p : HoldV → Bool)
    (hp : ∀ W x, Below w.heap.size w W → x ∈ l → Calls Try.prog g (#[.agg #[.int .i64 x.d, .bool x.init]] ++ cap) W fun e W' => e = .returned (.bool (p x)) ∧ Below W.heap.size W W') :
    Calls Try.prog 66 #[.slice a n c, .func (.func g) #[] cap] w fun e w' => e = .returned (.int .i64 (idxBy l p)) ∧ Below w.heap.size w w' := by
  have HS := Lib.hid S
  have HL := Lib.hid hlen
  have HP := Lib.hid hp
  clear S hlen hp
  go_enter Try.func66, Try.ntmps66
  go_wp2
  go_loopw [8] (fun i wr => ∃ k : Nat, k ≤ n ∧ i = .int .i64 k ∧ Hid (Below w.heap.size w wr ∧ ∀ j, j < k → p (l.getD j default) = false)) (fun i _ => n - (intOf i).toNat)
  case atStart => exact ⟨0, by omega, rfl, ⟨Below.refl _ _, fun j hj => by omega⟩⟩
  case round =>
    obtain ⟨k, hk, rfl, hh⟩ := hrel
    have hb := hh.out.1
    by_cases hlt : k < n
    · obtain ⟨b, off, rfl, hbb, hc⟩ := HS.out.at (2 * k) (by omega)
      have d0 : wr.cell? ⟨b, off + k * 2, none⟩ = some (.int .i64 (l.getD k default).d) := (hb.cell (p := ⟨b, off + k * 2, none⟩) hbb).trans (by rw [hc (k * 2) (by omega)]; simp only [holdCell]; rw [if_pos (by omega), show k * 2 / 2 = k by omega])
      have d1 : wr.cell? ⟨b, off + k * 2 + 1, none⟩ = some (.bool (l.getD k default).init) := (hb.cell (p := ⟨b, off + k * 2 + 1, none⟩) hbb).trans (by rw [Nat.add_assoc, hc (k * 2 + 1) (by omega)]; simp only [holdCell]; rw [if_neg (by omega), show (k * 2 + 1) / 2 = k by omega])
      have hmem : l.getD k default ∈ l := by
        have : k < l.length := by rw [HL.out]; exact hlt
        simp [List.getD, List.getElem?_eq_getElem this]
      obtain ⟨x, hx⟩ : ∃ x, x = l.getD k default := ⟨_, rfl⟩
      rw [← hx] at d0 d1 hmem
      have HX := Lib.hid hx
      have HC := Lib.hid hc
      clear hx hc
      unfold Enters at eg
      cases hpx : p x
      all_goals
        have HPX := Lib.hid hpx
        clear hpx
        go_wp2_with fail
        refine (HP.out _ _ hb hmem).mono ?_
        rw [HPX.out]
        rintro e w1 ⟨rfl, hb1⟩
        go_wp2
      · go_roundw
        case rel =>
          refine ⟨k + 1, by omega, by go_num, ⟨hb.trans (hb1.mono hb.size), fun j hj => ?_⟩⟩
          rcases Nat.lt_succ_iff_lt_or_eq.1 hj with h | rfl
          · exact hh.out.2 j h
          · rw [← HX.out, HPX.out]
        case measure => simp [intOf]; omega
      · go_ret
        exact ⟨ret_int (idx_yes default (by rw [HL.out]; exact hlt) (by rw [← HX.out]; exact HPX.out) hh.out.2).symm, hb.trans (hb1.mono hb.size)⟩
    · obtain rfl : k = n := by omega
      go_wp2
      go_ret
      exact ⟨ret_int (idx_no default (by rw [HL.out]; exact hh.out.2)).symm, hb⟩

theorem containsFuncHold (w : World) (a : Option Addr) (n c : Nat) (l : List HoldV) (hlen : l.length = n) (S : Seq w a (2 * n) (holdCell l)) (hn : n ≤ 9223372036854775807) (g : FuncId) (eg : Enters Try.prog g) (cap : Array Value) (p : HoldV → Bool)
    (hp : ∀ W x, Below w.heap.size w W → x ∈ l → Calls Try.prog g (#[.agg #[.int .i64 x.d, .bool x.init]] ++ cap) W fun e W' => e = .returned (.bool (p x)) ∧ Below W.heap.size W W') :
    Calls Try.prog 48 #[.slice a n c, .func (.func g) #[] cap] w fun e w' => e = .returned (.bool (l.any p)) ∧ Below w.heap.size w w' := by
  have C := Lib.hid (indexFuncHold w a n c l hlen S hn g eg cap p hp)
  clear S hlen hp
  go_enter Try.func48, Try.ntmps48
  go_wp2_with fail
  refine C.out.mono ?_
  rintro e w1 ⟨rfl, hb1⟩
  go_wp2
  go_ret
  exact ⟨ret_bool (by rw [← idx_nonneg l p]), hb1⟩
end Go.Proofs.Ytibimdhmfchcoaa

namespace Go.Proofs.Ytibimdhmfchcoaa
open Go.RowKit


theorem rows (w : World) (n : Nat) (hn : n ≤ 20) :
    Calls Try.prog 44 #[.int .i64 (n : Int)] w fun e w' => e = .returned (.int .u64 (rowsN n : Nat)) ∧ w = w' := by
  have hc : n = 0 ∨ n = 1 ∨ n = 2 ∨ n = 3 ∨ n = 4 ∨ n = 5 ∨ n = 6 ∨ 7 ≤ n := by omega
  rcases hc with rfl | rfl | rfl | rfl | rfl | rfl | rfl | h6
  case inr.inr.inr.inr.inr.inr.inr =>
    have e : rowsN n = 18446744073709551615 := by unfold rowsN; rw [show min n 6 = 6 by omega]
    have E := Lib.hid e
    clear e
    go_enter Try.func44, Try.ntmps44
    go_wp2
    go_ret
    exact ⟨ret_int (by rw [E.out]; rfl), rfl⟩
  all_goals
    go_enter Try.func44, Try.ntmps44
    go_wp2
    go_ret
    exact ⟨rfl, rfl⟩

/-- node(x) -/
theorem node (w : World) (x at_ : Int) (B : Nat) (hc : w.cell? ⟨B, 0, none⟩ = some (.int .i64 at_)) :
    Calls Try.prog 43 #[.int .i64 x, .pointer (some ⟨B, 0, none⟩)] w fun e w' => e = .returned (.bool (decide (0 ≤ x) && decide (x < at_))) ∧ w = w' := by
  by_cases h0 : 0 ≤ x
  · go_enter Try.func43, Try.ntmps43
    go_wp2
    go_ret
    exact ⟨ret_bool (by simp [h0]), rfl⟩
  · go_enter Try.func43, Try.ntmps43
    go_wp2
    go_ret
    exact ⟨ret_bool (by simp; omega), rfl⟩

/-- !node(x) -/
theorem notNode (w : World) (x at_ : Int) (B C : Nat) (hc : w.cell? ⟨B, 0, none⟩ = some (.int .i64 at_)) (hf : w.cell? ⟨C, 0, none⟩ = some (.func (.func 43) #[] #[.pointer (some ⟨B, 0, none⟩)])) :
    Calls Try.prog 46 #[.int .i64 x, .pointer (some ⟨C, 0, none⟩)] w fun e w' => e = .returned (.bool (!(decide (0 ≤ x) && decide (x < at_)))) ∧ w = w' := by
  have N := Lib.hid (node w x at_ B hc)
  go_enter Try.func46, Try.ntmps46
  go_wp2_with fail
  refine N.out.mono ?_
  rintro e w1 ⟨rfl, rfl⟩
  go_wp2
  go_ret
  exact ⟨ret_bool (by simp), rfl⟩

theorem notNode3 (w : World) (x at_ : Int) (B C : Nat) (hc : w.cell? ⟨B, 0, none⟩ = some (.int .i64 at_)) (hf : w.cell? ⟨C, 0, none⟩ = some (.func (.func 43) #[] #[.pointer (some ⟨B, 0, none⟩)])) :
    Calls Try.prog 47 #[.int .i64 x, .pointer (some ⟨C, 0, none⟩)] w fun e w' => e = .returned (.bool (!(decide (0 ≤ x) && decide (x < at_)))) ∧ w = w' := by
  have N := Lib.hid (node w x at_ B hc)
  go_enter Try.func47, Try.ntmps47
  go_wp2_with fail
  refine N.out.mono ?_
  rintro e w1 ⟨rfl, rfl⟩
  go_wp2
  go_ret
  exact ⟨ret_bool (by simp), rfl⟩

theorem notHold (w : World) (x : HoldV) (at_ : Int) (B C : Nat) (hc : w.cell? ⟨B, 0, none⟩ = some (.int .i64 at_)) (hf : w.cell? ⟨C, 0, none⟩ = some (.func (.func 43) #[] #[.pointer (some ⟨B, 0, none⟩)])) :
    Calls Try.prog 49 #[.agg #[.int .i64 x.d, .bool x.init], .pointer (some ⟨C, 0, none⟩)] w fun e w' => e = .returned (.bool (!(decide (0 ≤ x.d) && decide (x.d < at_)))) ∧ Below w.heap.size w w' := by
  have N := Lib.hid (fun W hB => node W x.d at_ B hB)
  have hCl : C < w.heap.size := World.block_lt_of_cell? w _ hf
  go_enter Try.func49, Try.ntmps49
  go_wp2_with fail
  refine (N.out _ (cell_alloc _ hc)).mono ?_
  rintro e w1 ⟨rfl, rfl⟩
  go_wp2
  go_ret
  exact ⟨ret_bool (by simp), (Below.refl _ _).alloc (Nat.le_refl _) _⟩
end Go.Proofs.Ytibimdhmfchcoaa

namespace Go.Proofs.Ytibimdhmfchcoaa
open Go.RowKit

structure LutOk (k at_ : Int) (l : LutV) : Prop where
  len : (l.ins.length : Int) ≤ k
  tab : l.tab ≤ rowsN l.ins.length
  ins : ∀ x ∈ l.ins, 0 ≤ x ∧ x < at_

structure NetOk (N : NetV) (k : Int) : Prop where
  ins0 : 0 ≤ N.ins
  lut : ∀ i, i < N.luts.length → LutOk k (1 + N.ins + N.holds.length + i) (N.luts.getD i default)
  outs : ∀ x ∈ N.outs, 0 ≤ x ∧ x < 1 + N.ins + N.holds.length + N.luts.length
  holds : ∀ h ∈ N.holds, 0 ≤ h.d ∧ h.d < 1 + N.ins + N.holds.length + N.luts.length

structure Few (N : NetV) : Prop where
  lut : ∀ l ∈ N.luts, l.ins.length ≤ 20
  ins : N.ins ≤ 100
  holds : N.holds.length ≤ 100
  luts : N.luts.length ≤ 200
  outs : N.outs.length ≤ 100

open Classical in
noncomputable def chk (N : NetV) (k : Int) : Int := if NetOk N k then 0 else 1

structure CkInv (kk : Int) (w : World) (N : NetV) (wr : World) (k : Nat) : Prop where
  below : Below w.heap.size w wr
  size : w.heap.size + 3 ≤ wr.heap.size
  c0 : wr.cell? ⟨w.heap.size, 0, none⟩ = some (.int .i64 N.ins)
  c1 : wr.cell? ⟨w.heap.size, 1, none⟩ = some (Value.slice N.ha N.holds.length N.hc)
  c2 : wr.cell? ⟨w.heap.size, 2, none⟩ = some (Value.slice N.la N.luts.length N.lc)
  c3 : wr.cell? ⟨w.heap.size, 3, none⟩ = some (Value.slice N.oa N.outs.length N.oc)
  cat : wr.cell? ⟨w.heap.size + 1, 0, none⟩ = some (.int .i64 (1 + N.ins + N.holds.length + k))
  fat : wr.frozen? ⟨w.heap.size + 1, 0, none⟩ = false
  cnd : wr.cell? ⟨w.heap.size + 1 + 1, 0, none⟩ = some (.func (.func 43) #[] #[.pointer (some ⟨w.heap.size + 1, 0, none⟩)])
  done : ∀ j, j < k → LutOk kk (1 + N.ins + N.holds.length + j) (N.luts.getD j default)

theorem ckStep {k : Int} {w : World} {N : NetV} {wr : World} {j : Nat} (h : CkInv k w N wr j) (hj : j < N.luts.length) (O : Obj) (q : Nat) {v : Int} (hv : v = 1 + N.ins + N.holds.length + (j + 1 : Nat)) (ok : LutOk k (1 + N.ins + N.holds.length + j) (N.luts.getD j default)) :
    CkInv k w N (((wr.alloc O).setCell ⟨w.heap.size + 1, 0, none⟩ (.int .i64 v)).drewN q) (j + 1) := by
  subst hv
  have hs := h.size
  have other : ∀ b i u, b ≠ w.heap.size + 1 → wr.cell? ⟨b, i, none⟩ = some u → (((wr.alloc O).setCell ⟨w.heap.size + 1, 0, none⟩ (.int .i64 (1 + N.ins + N.holds.length + (j + 1 : Nat)))).drewN q).cell? ⟨b, i, none⟩ = some u := by
    intro b i u hb hc
    show ((wr.alloc O).setCell _ _).cell? _ = _
    rw [World.cell?_setCell_other (h := fun e => hb (congrArg Addr.block e).symm)]
    exact cell_alloc O hc
  refine ⟨belowN ((h.below.alloc (by omega) _).setCell (by simp) _), by show _ ≤ (World.setCell _ _ _).heap.size; simp; omega, other _ _ _ (by omega) h.c0, other _ _ _ (by omega) h.c1, other _ _ _ (by omega) h.c2, other _ _ _ (by omega) h.c3, ?_, ?_, other _ _ _ (by omega) h.cnd, fun i hi => ?_⟩
  · exact World.cell?_setCell_same _ _ _ (cell_alloc O h.cat)
  · show ((wr.alloc O).setCell _ _).frozen? _ = _
    rw [World.frozen?_setCell]
    exact frozen_alloc _ (by omega) h.fat
  · rcases Nat.lt_succ_iff_lt_or_eq.1 hi with hi | rfl
    · exact h.done i hi
    · exact ok

theorem check (w : World) (N : NetV) (h : NetAt w N) (f : Few N) (k : Int) (hk : 2 ≤ k ∧ k ≤ 6) :
    Calls Try.prog 19 #[N.val, .int .i64 k] w fun e w' => e = .returned (.int .i64 (chk N k)) ∧ Below w.heap.size w w' := by
  have H := Lib.hid h
  have F := Lib.hid f
  have hf0 := f.ins
  have hf1 := f.holds
  have hf2 := f.luts
  have hf3 := f.outs
  have hi := h.insR.1
  obtain ⟨hk1, hk2⟩ := hk
  clear h f
  obtain ⟨ins, ha, hc, holds, la, lc, luts, oa, oc, outs⟩ := N
  dsimp only at hf0 hf1 hf2 hf3 hi ⊢
  by_cases hneg : ins < 0
  · go_enter Try.func19, Try.ntmps19
    go_wp2
    go_ret
    refine ⟨ret_int ?_, (Below.refl _ _).alloc (Nat.le_refl _) _⟩
    exact (if_neg (fun ok => by have := ok.ins0; dsimp only at this; omega)).symm
  · have M3 := @run_max3 Try.prog
    go_enter Try.func19, Try.ntmps19
    go_wp2
    go_loopw [53] (fun i wr => ∃ j : Nat, j ≤ luts.length ∧ i = .int .i64 j ∧ Hid (CkInv k w ⟨ins, ha, hc, holds, la, lc, luts, oa, oc, outs⟩ wr j)) (fun i _ => luts.length - (intOf i).toNat)
    case atStart =>
      refine ⟨0, by omega, rfl, ?_⟩
      refine ⟨(((Below.refl _ _).alloc (Nat.le_refl _) _).alloc (by simp) _).alloc (by simp; omega) _, by simp, ?_, ?_, ?_, ?_, ?_, ?_, ?_, fun j hj => by omega⟩
      all_goals (simp [go_sem] <;> omega)
    case round =>
      obtain ⟨j, hj, rfl, hh⟩ := hrel
      have cat := hh.out.cat
      have fat := hh.out.fat
      have cnd := hh.out.cnd
      have hsz := hh.out.size
      dsimp only at cat
      by_cases hlt : j < luts.length
      · obtain ⟨b, off, rfl, hbb, d0, d1⟩ := (H.out.below hh.out.below (Nat.le_refl _)).lut j hlt
        have hbb' : b < wr.heap.size := World.block_lt_of_cell? wr _ d0
        have hL20 := F.out.lut _ (getD_mem luts default hlt)
        obtain ⟨L, hLe⟩ : ∃ L, L = luts.getD j default := ⟨_, rfl⟩
        dsimp only at d0 d1
        rw [← hLe] at d0 d1 hL20
        have HL := Lib.hid hLe
        clear hLe
        have hU := ((H.out.lutAt j hlt).2).1
        have hsq := (H.out.lutAt j hlt).1
        dsimp only at hU hsq
        rw [← HL.out] at hU hsq
        have htb := tab_bad L.tab L.ins.length hU
        have HU := Lib.hid hU
        have hseq := hsq.below (w' := wr) hh.out.below (Nat.le_refl _)
        have HSeq := Lib.hid hseq
        have hneq := H.out
        clear hU hsq hseq hneq
        have hB1 : Below w.heap.size w (wr.alloc (Obj.cells #[Value.slice L.a L.ins.length L.c, Value.int IntKind.u64 L.tab] 41)) := hh.out.below.alloc (by omega) _
        obtain ⟨W2, hW2⟩ : ∃ W2, W2 = wr.alloc (Obj.cells #[Value.slice L.a L.ins.length L.c, Value.int IntKind.u64 L.tab] 41) := ⟨_, rfl⟩
        rw [← hW2] at hB1
        have HB1 := Lib.hid hB1
        clear hB1
        have HW2 := Lib.hid hW2
        have hs2 : W2.heap.size = wr.heap.size + 1 := by rw [hW2]; simp
        have cat2 : W2.cell? ⟨w.heap.size + 1, 0, none⟩ = some (.int .i64 (1 + ins + holds.length + j)) := by rw [hW2]; exact cell_alloc _ cat
        have cnd2 : W2.cell? ⟨w.heap.size + 1 + 1, 0, none⟩ = some (.func (.func 43) #[] #[.pointer (some ⟨w.heap.size + 1, 0, none⟩)]) := by rw [hW2]; exact cell_alloc _ cnd
        have fat2 : W2.frozen? ⟨w.heap.size + 1, 0, none⟩ = false := by rw [hW2]; exact frozen_alloc _ (by omega) fat
        have e0 : W2.cell? ⟨wr.heap.size, 0, none⟩ = some (.slice L.a L.ins.length L.c) := by rw [hW2]; simp
        have e1 : W2.cell? ⟨wr.heap.size, 1, none⟩ = some (.int .u64 L.tab) := by rw [hW2]; simp
        clear hW2 cat cnd fat
        by_cases hlen : (L.ins.length : Int) ≤ k
        · have hlenb : decide (k < (L.ins.length : Int)) = false := by simp; omega
          by_cases htab : L.tab ≤ rowsN L.ins.length
          · rw [decide_eq_true htab] at htb
            have C := fun (q : Nat) => containsFunc (W2.drewN q) L.a L.ins.length L.c L.ins rfl
              (HSeq.out.below (belowN (by rw [HW2.out]; exact (Below.refl _ _).alloc (Nat.le_refl _) _)) (Nat.le_refl _)) (by omega) 46 (enters_of Try.func46 (by kernel_rfl) rfl) #[.pointer (some ⟨w.heap.size + 1 + 1, 0, none⟩)]
              (fun x => !(decide (0 ≤ x) && decide (x < 1 + ins + holds.length + j)))
              (fun x _ => notNode _ x _ _ _ cat2 cnd2)
            obtain ⟨bad, hbad⟩ : ∃ b, b = L.ins.any (fun x => !(decide (0 ≤ x) && decide (x < 1 + ins + holds.length + j))) := ⟨_, rfl⟩
            rw [← hbad] at C
            have HC := Lib.hid C
            have HBad := Lib.hid hbad
            clear C hbad
            go_wp2_with fail
            rw [← HW2.out]
            go_quiet ((first | (go_at_call 44; exact quiet_same (rows _ _ (by omega))) | (go_at_call 45; exact quiet_same (HC.out _))))
            cases bad
            · go_wp2
              go_roundw
              case rel =>
                refine ⟨j + 1, by omega, by go_num, ?_⟩
                rw [HW2.out]
                refine ckStep hh.out (by exact hlt) _ _ (by dsimp only; omega) ?_
                dsimp only
                rw [← HL.out]
                exact ⟨hlen, htab, fun x hx => by
                  have := HBad.out.symm
                  rw [List.any_eq_false] at this
                  have := this x hx
                  simp at this
                  omega⟩
              case measure => simp [intOf]; omega
            · go_wp2
              go_ret
              refine ⟨ret_int ?_, belowN HB1.out⟩
              refine (if_neg (fun ok => ?_)).symm
              obtain ⟨x, hx, hbx⟩ := List.any_eq_true.1 HBad.out.symm
              have := (ok.lut j hlt).ins
              dsimp only at this
              rw [← HL.out] at this
              have := this x hx
              simp at hbx
              omega
          · rw [decide_eq_false htab] at htb
            go_wp2_with fail
            rw [← HW2.out]
            go_quiet ((go_at_call 44; exact quiet_same (rows _ _ (by omega))))
            go_wp2
            go_ret
            refine ⟨ret_int ?_, belowN HB1.out⟩
            refine (if_neg (fun ok => ?_)).symm
            have := (ok.lut j hlt).tab
            dsimp only at this
            rw [← HL.out] at this
            omega
        · have hlenb : decide (k < (L.ins.length : Int)) = true := by simp; omega
          go_wp2_with fail
          rw [← HW2.out]
          go_quiet (fail)
          go_wp2
          go_ret
          refine ⟨ret_int ?_, belowN HB1.out⟩
          refine (if_neg (fun ok => ?_)).symm
          have := (ok.lut j hlt).len
          dsimp only at this
          rw [← HL.out] at this
          omega
      · obtain rfl : j = luts.length := by omega
        have c1 := hh.out.c1
        have c3 := hh.out.c3
        have hall := hh.out.done
        dsimp only at c1 c3 hall
        have HAll := Lib.hid hall
        have HN := Lib.hid (H.out.below hh.out.below (Nat.le_refl _))
        have ho := HN.out.outsL
        have hho := HN.out.holdsL
        have HB := Lib.hid hh.out.below
        clear hall
        have C := containsFunc wr oa outs.length oc outs rfl HN.out.outs (by exact ho) 47 (enters_of Try.func47 (by kernel_rfl) rfl) #[.pointer (some ⟨w.heap.size + 1 + 1, 0, none⟩)]
          (fun x => !(decide (0 ≤ x) && decide (x < 1 + ins + holds.length + luts.length))) (fun x _ => notNode3 _ x _ _ _ cat cnd)
        have D := containsFuncHold wr ha holds.length hc holds rfl HN.out.holds (by exact hho) 49 (enters_of Try.func49 (by kernel_rfl) rfl) #[.pointer (some ⟨w.heap.size + 1 + 1, 0, none⟩)]
          (fun x => !(decide (0 ≤ x.d) && decide (x.d < 1 + ins + holds.length + luts.length)))
          (fun W x hb _ => notHold _ x _ _ _ ((hb.cell (p := ⟨w.heap.size + 1, 0, none⟩) (by simp; omega)).trans cat) ((hb.cell (p := ⟨w.heap.size + 1 + 1, 0, none⟩) (by simp; omega)).trans cnd))
        obtain ⟨bad, hbad⟩ : ∃ b, b = outs.any (fun x => !(decide (0 ≤ x) && decide (x < 1 + ins + holds.length + luts.length))) := ⟨_, rfl⟩
        obtain ⟨bad2, hbad2⟩ : ∃ b, b = holds.any (fun x => !(decide (0 ≤ x.d) && decide (x.d < 1 + ins + holds.length + luts.length))) := ⟨_, rfl⟩
        rw [← hbad] at C
        rw [← hbad2] at D
        have HC := Lib.hid C
        have HD := Lib.hid D
        have HBad := Lib.hid hbad
        have HBad2 := Lib.hid hbad2
        clear C D hbad hbad2 cat cnd fat
        go_wp2_with fail
        refine HC.out.mono ?_
        rintro e w1 ⟨rfl, rfl⟩
        cases bad
        · go_wp2_with fail
          refine HD.out.mono ?_
          rintro e w2 ⟨rfl, hb2⟩
          cases bad2
          · go_wp2
            go_ret
            refine ⟨ret_int ?_, HB.out.trans (hb2.mono (by omega))⟩
            refine (if_pos ⟨by dsimp only; omega, HAll.out, fun x hx => ?_, fun x hx => ?_⟩).symm
            · have := HBad.out.symm
              rw [List.any_eq_false] at this
              have := this x hx
              simp at this ⊢
              omega
            · have := HBad2.out.symm
              rw [List.any_eq_false] at this
              have := this x hx
              simp at this ⊢
              omega
          · go_wp2
            go_ret
            refine ⟨ret_int ?_, HB.out.trans (hb2.mono (by omega))⟩
            refine (if_neg (fun ok => ?_)).symm
            obtain ⟨x, hx, hbx⟩ := List.any_eq_true.1 HBad2.out.symm
            have := ok.holds x hx
            simp at hbx this
            omega
        · go_wp2
          go_ret
          refine ⟨ret_int ?_, HB.out⟩
          refine (if_neg (fun ok => ?_)).symm
          obtain ⟨x, hx, hbx⟩ := List.any_eq_true.1 HBad.out.symm
          have := ok.outs x hx
          simp at hbx this
          omega
end Go.Proofs.Ytibimdhmfchcoaa

