import Derived.Test.YtbhbebidkeejbaaProg
import Derived.WalkKit
import Derived.Handy
import Derived.Deep.QuietTactic
import Derived.BigQuiet
import Derived.Deep.LoopGhost
import Derived.Lib.Hide
import Derived.Shelf.Abstract
import Derived.WalkLawsBesides
import Derived.WalkSpells
import Derived.Laws.EntriesVeiled
import Derived.Deep.RegionHeld3
import Derived.Deep.OwnRows
import Derived.Deep.AppendLies
import Derived.RegionTactic
import Derived.Deep.RegionWith
import Derived.OrdersHeld
import Derived.Deep.RegionHeld
/- Readings of data in memory, and small laws on worlds (for any seat). -/
namespace Go.Proofs.Ytbhbebidkeejbaa
open Go.RowKit Go.Shelf
set_option linter.unusedVariables false
set_option linter.unusedSimpArgs false

def Seq (w : World) (a : Option Addr) (n : Nat) (f : Nat → Value) : Prop :=
  n = 0 ∨ ∃ b off, a = some ⟨b, off, none⟩ ∧ ∀ i, i < n → w.cell? ⟨b, off + i, none⟩ = some (f i)

theorem Seq.at {w : World} {a : Option Addr} {n : Nat} {f : Nat → Value} (h : Seq w a n f) (k : Nat) (hk : k < n) :
    ∃ b off, a = some ⟨b, off, none⟩ ∧ b < w.heap.size ∧ ∀ i, i < n → w.cell? ⟨b, off + i, none⟩ = some (f i) := by
  rcases h with h | ⟨b, off, ha, hc⟩
  · omega
  · exact ⟨b, off, ha, World.block_lt_of_cell? w _ (hc k hk), hc⟩

theorem Seq.below {w w' : World} {B : Nat} {a : Option Addr} {n : Nat} {f : Nat → Value} (h : Seq w a n f) (hb : Below B w w') (hB : w.heap.size ≤ B) : Seq w' a n f := by
  rcases h with h | ⟨b, off, ha, hc⟩
  · exact .inl h
  · refine .inr ⟨b, off, ha, fun i hi => ?_⟩
    have h1 := hc i hi
    have h2 := World.block_lt_of_cell? w _ h1
    rw [hb.cell (p := ⟨b, off + i, none⟩) (by simp at h2 ⊢; omega)]
    exact h1

def ints (l : List Int) : Nat → Value := fun i => .int .i64 (l.getD i 0)

def bools (l : List Bool) : Nat → Value := fun i => .bool (l.getD i false)

def I64 (x : Int) : Prop := -9223372036854775808 ≤ x ∧ x ≤ 9223372036854775807

def U64 (x : Int) : Prop := 0 ≤ x ∧ x ≤ 18446744073709551615

theorem cell_alloc {w : World} {a : Addr} {v : Value} (o : Obj) (h : w.cell? a = some v) : (w.alloc o).cell? a = some v := by
  rw [World.cell?_alloc_lt (h := World.block_lt_of_cell? w a h)]; exact h

theorem run_max2 {P : Program} (ts : Array TypeId) (t : TypeId) (k k' : IntKind) (x y : Int) (w : World) : (Builtin.max_ ts t #[.int k x, .int k' y]).run P w = .ok (.int k (max x y)) w := by
  simp [Builtin.max_, Builtin.max2]
  omega

theorem run_max3 {P : Program} (ts : Array TypeId) (t : TypeId) (k k' k'' : IntKind) (x y z : Int) (w : World) : (Builtin.max_ ts t #[.int k x, .int k' y, .int k'' z]).run P w = .ok (.int k (max (max x y) z)) w := by
  simp [Builtin.max_, Builtin.max2]
  omega

theorem ret_bool {a b : Bool} (h : a = b) : Ending.returned (.bool a) = .returned (.bool b) := by rw [h]

theorem ret_int {k : IntKind} {a b : Int} (h : a = b) : Ending.returned (.int k a) = .returned (.int k b) := by rw [h]

theorem all_getD {α : Type} (l : List α) (d : α) (p : α → Bool) : l.all p = true ↔ ∀ j, j < l.length → p (l.getD j d) = true := by
  rw [List.all_eq_true]
  constructor
  · intro h j hj
    exact h _ (by simp [List.getD, List.getElem?_eq_getElem hj])
  · intro h x hx
    obtain ⟨j, hj, rfl⟩ := List.getElem_of_mem hx
    have := h j hj
    simpa [List.getD, List.getElem?_eq_getElem hj] using this

theorem getD_mem {α : Type} (l : List α) (d : α) {k : Nat} (h : k < l.length) : l.getD k d ∈ l := by
  simp [List.getD, List.getElem?_eq_getElem h]

theorem belowN {B n : Nat} {a w : World} (h : Below B a w) : Below B a (w.drewN n) := ⟨h.os, h.tape, h.output, h.size, h.block⟩

theorem frozen_alloc {w : World} {b i : Nat} {f : Bool} (o : Obj) (hb : b < w.heap.size) (h : w.frozen? ⟨b, i, none⟩ = f) : (w.alloc o).frozen? ⟨b, i, none⟩ = f := by
  rw [← h]
  exact World.frozen?_of_block (Below.heap_alloc _ _ _ hb)

theorem bcell {W w1 : World} {B : Nat} (hb : Below B W w1) : (∀ b o, b < B → w1.cell? ⟨b, o, none⟩ = W.cell? ⟨b, o, none⟩) ∧ (∀ b o, b < B → w1.frozen? ⟨b, o, none⟩ = W.frozen? ⟨b, o, none⟩) :=
  ⟨fun b o h => hb.cell (p := ⟨b, o, none⟩) h, fun b o h => hb.frozen (p := ⟨b, o, none⟩) h⟩

section
variable {w : World} {base e n : Nat} {v : Value} {l : List Int}

theorem owns_shape (h : w.ownsRow base e 1 v n (l.map (Value.int .i64))) (hn : 0 < n) : ∃ g cap, v = .slice (some ⟨g, 0, none⟩) n cap ∧ base ≤ g ∧ g < w.heap.size ∧ n ≤ cap ∧ ∀ j, j < n → w.cell? ⟨g, j, none⟩ = some (.int .i64 (l.getD j 0)) := by
  have hl : l.length = n := by have := h.1; simpa using this
  rcases h.2 with ⟨_, h0⟩ | ⟨g, cap, cur, hv, hb, hg, hnc, hm, hs, ht⟩
  · omega
  · subst hv
    refine ⟨g, cap, rfl, hb, (Array.getElem?_eq_some_iff.1 hg).1, hnc, fun j hj => ?_⟩
    rw [h.cellAt j (by omega)]
    simp [List.getD, List.getElem?_eq_getElem (show j < l.length by omega)]

theorem owns_seq (h : w.ownsRow base e 1 v n (l.map (Value.int .i64))) : ∃ a cap, v = .slice a n cap ∧ Seq w a n (ints l) ∧ n ≤ cap ∧ cap ≤ maxLen := by
  by_cases hn : 0 < n
  · obtain ⟨g, cap, rfl, _, _, h1, hc⟩ := owns_shape h hn
    refine ⟨_, cap, rfl, .inr ⟨g, 0, rfl, fun i hi => by rw [Nat.zero_add]; exact hc i hi⟩, h1, ?_⟩
    rcases h.2 with ⟨h, _⟩ | ⟨g, cap, cur, hv, hb, hg, hnc, hm, hs, ht⟩
    · cases h
    · cases hv; exact hm
  · rcases h.2 with ⟨hv, h0⟩ | ⟨g, cap, cur, hv, hb, hg, hnc, hm, hs, ht⟩
    · exact ⟨none, 0, by rw [hv, h0], .inl h0, by omega, by simp [maxLen]⟩
    · exact ⟨_, cap, hv, .inl (by omega), hnc, hm⟩

end

theorem grownBy_trans {a b c : World} {g : Option Nat} (h : a.grownBy b g) (k : b.grownBy c g) : a.grownBy c g :=
  ⟨k.os.trans h.os, k.tape.trans h.tape, k.output.trans h.output, Nat.le_trans h.size k.size, fun i hi hn => (k.block i (Nat.lt_of_lt_of_le hi h.size) hn).trans (h.block i hi hn)⟩

theorem grownBy_drewN (a : World) (n : Nat) (g : Option Nat) : a.grownBy (a.drewN n) g := ⟨rfl, rfl, rfl, Nat.le_refl _, fun _ _ _ => rfl⟩

theorem grownBy_drew (a : World) (g : Option Nat) : a.grownBy a.drew g := ⟨rfl, rfl, rfl, Nat.le_refl _, fun _ _ _ => rfl⟩

theorem grownBy_below {a b : World} {g B : Nat} (h : a.grownBy b (some g)) (hB : B ≤ a.heap.size) (hg : B ≤ g) : Below B a b :=
  (Below.refl _ _).grown h hB (fun k e => by cases e; exact hg)

theorem own_store {w : World} {base e n cap g : Nat} {xs : List Value} (h : w.ownsRow base e 1 (.slice (some ⟨g, 0, none⟩) n cap) n xs) (j : Nat) (u : Value) :
    (w.setCell ⟨g, j, none⟩ u).ownsRow base e 1 (.slice (some ⟨g, 0, none⟩) n cap) n (xs.set j u) ∧ w.grownBy (w.setCell ⟨g, j, none⟩ u) (some g) := h.stored j u

theorem own_drewN {w : World} {base e size n k : Nat} {v : Value} {xs : List Value} (h : w.ownsRow base e size v n xs) : (w.drewN k).ownsRow base e size v n xs := h

theorem own_below {w w' : World} {base e size n : Nat} {v : Value} {xs : List Value} (h : w.ownsRow base e size v n xs) (hb : Below w.heap.size w w') : w'.ownsRow base e size v n xs :=
  h.kept (row := none) ⟨hb.os, hb.tape, hb.output, hb.size, fun k hk _ => hb.block k hk⟩ (by cases v.ownBlock <;> simp)

theorem _root_.Go.World.ownsRow.base_le {w : World} {base base' e size n : Nat} {v : Value} {xs : List Value} (h : w.ownsRow base e size v n xs) (hb : base' ≤ base) : w.ownsRow base' e size v n xs := by
  refine ⟨h.1, ?_⟩
  rcases h.2 with h2 | ⟨g, cap, cur, hv, hg, r⟩
  · exact .inl h2
  · exact .inr ⟨g, cap, cur, hv, Nat.le_trans hb hg, r⟩

theorem quiet_same {P : Program} {f : FuncId} {args : Array Value} {w : World} {n : Nat} {v : Value}
    (h : Calls P f args (w.drewN n) fun e w' => e = .returned v ∧ w.drewN n = w') : Calls P f args (w.drewN n) fun e w'' => e = .returned v ∧ ∃ m, w'' = w.drewN m :=
  h.mono fun _ _ ⟨he, hm⟩ => ⟨he, n, hm.symm⟩

theorem grownBy_set (w : World) (b i : Nat) (v : Value) : w.grownBy (w.setCell ⟨b, i, none⟩ v) (some b) :=
  ⟨rfl, rfl, rfl, by simp [World.setCell], fun k hk hne => by simp [World.setCell, Array.getElem?_modify]; intro e; exact absurd (by rw [e]) hne⟩

theorem cell?_set_own {w : World} {b i : Nat} {v u : Value} (h : w.cell? ⟨b, i, none⟩ = some v) : (w.setCell ⟨b, i, none⟩ u).cell? ⟨b, i, none⟩ = some u := World.cell?_setCell_same _ _ _ h

theorem cell?_set_far {w : World} {b i c j : Nat} {u : Value} (h : c ≠ b) : (w.setCell ⟨b, i, none⟩ u).cell? ⟨c, j, none⟩ = w.cell? ⟨c, j, none⟩ := World.cell?_setCell_other (w := w) (v := u) (h := fun e => h (congrArg Addr.block e).symm)

theorem info3 : (Try.prog.info? 3).map (fun i => (i.zero, i.size, i.bytes)) = some (some (.int .i64 0), 1, 8) := by kernel_rfl

theorem cell_newW (X : World) (v : Value) (t : TypeId) : (X.alloc (Obj.cells #[v] t)).cell? ⟨X.heap.size, 0, none⟩ = some v := by simp

theorem alloc_top (w : World) (o : Obj) : (w.alloc o).heap[w.heap.size]? = some o := by
  have : (w.alloc o).heap = w.heap.push o := by first | rfl | simp [World.alloc_eq]
  rw [this]; simp

theorem one_new {w : World} {q : Nat} {v : Value} (h : w.cell? ⟨q, 0, none⟩ = some v) : ∀ j u, [v][j]? = some u → w.cell? (Addr.add ⟨q, 0, none⟩ j) = some u := by
  intro j u hj
  cases j with
  | zero => simp at hj; subst hj; rw [Addr.add_lit]; exact h
  | succ j => simp at hj

theorem ggrown {a b c : World} {g : Option Nat} (h : a.grownBy b g) (k : b.grownBy c g) : a.grownBy c g := grownBy_trans h k

theorem cells_at {w : World} {b : Nat} {xs : Array Value} {t : TypeId} (h : w.heap[b]? = some (.cells xs t)) (j : Nat) : w.cell? ⟨b, j, none⟩ = xs[j]? ∧ w.frozen? ⟨b, j, none⟩ = false := by
  constructor
  · simp [World.cell?, h]
  · simp [World.frozen?, h]

theorem set_keep {w : World} {b i j : Nat} {v u : Value} (h : w.cell? ⟨b, j, none⟩ = some v) (hne : j ≠ i) : (w.setCell ⟨b, i, none⟩ u).cell? ⟨b, j, none⟩ = some v := by
  rw [World.cell?_setCell_other (w := w) (v := u) (h := fun e => hne (congrArg Addr.off e).symm)]; exact h

theorem set_frozen (w : World) (b i c j : Nat) (u : Value) : (w.setCell ⟨b, i, none⟩ u).frozen? ⟨c, j, none⟩ = w.frozen? ⟨c, j, none⟩ := by simp

theorem set_size (w : World) (b i : Nat) (u : Value) : (w.setCell ⟨b, i, none⟩ u).heap.size = w.heap.size := by simp [World.setCell]

theorem take_one {α : Type} (l : List α) (d : α) (j : Nat) (hj : j < l.length) : l.take (j + 1) = l.take j ++ [l.getD j d] := by
  rw [List.take_add_one, List.getElem?_eq_getElem hj]
  simp [List.getD_eq_getElem?_getD, List.getElem?_eq_getElem hj]

theorem owns_val {w : World} {base e size n : Nat} {v : Value} {xs : List Value} (h : w.ownsRow base e size v n xs) : ∃ a c, v = .slice a n c := by
  rcases h.2 with ⟨rfl, rfl⟩ | ⟨g, cap, cur, hv, _⟩
  · exact ⟨none, 0, rfl⟩
  · exact ⟨_, _, hv⟩

theorem owns_cells {w : World} {base e size n : Nat} {v : Value} {xs : List Value} (h : w.ownsRow base e size v n xs) (hn : 0 < n) : ∃ g cap, v = .slice (some ⟨g, 0, none⟩) n cap ∧ base ≤ g ∧ g < w.heap.size ∧ ∀ j (hj : j < xs.length), w.cell? ⟨g, j, none⟩ = some xs[j] := by
  rcases h.2 with ⟨_, h0⟩ | ⟨g, cap, cur, hv, hb, hg, hnc, hm, hs, ht⟩
  · omega
  · subst hv
    exact ⟨g, cap, rfl, hb, (Array.getElem?_eq_some_iff.1 hg).1, fun j hj => (h.cellAt j (h.1 ▸ hj)).trans (List.getElem?_eq_getElem hj)⟩

theorem cell_top (w : World) (xs : Array Value) (t : TypeId) (b i : Nat) (v : Value) (hb : b = w.heap.size) (hx : xs[i]? = some v) : (w.alloc (Obj.cells xs t)).cell? ⟨b, i, none⟩ = some v := by
  subst hb; exact (cells_at (alloc_top w _) i).1.trans hx

theorem far {W : World} {b i c j : Nat} {u v : Value} (h : W.cell? ⟨c, j, none⟩ = some v) (hne : c ≠ b) : (W.setCell ⟨b, i, none⟩ u).cell? ⟨c, j, none⟩ = some v := (cell?_set_far hne).trans h

theorem own_of_block {w w' : World} {base e size n : Nat} {v : Value} {xs : List Value} (h : w.ownsRow base e size v n xs) (hk : ∀ g, v.ownBlock = some g → w'.heap[g]? = w.heap[g]?) : w'.ownsRow base e size v n xs := by
  rcases h.2 with ⟨rfl, rfl⟩ | ⟨g, cap, cur, rfl, hb, hg, r⟩
  · exact ⟨h.1, .inl ⟨rfl, rfl⟩⟩
  · exact ⟨h.1, .inr ⟨g, cap, cur, rfl, hb, (hk g rfl).trans hg, r⟩⟩

def upd {α : Type} (f : Nat → α) (k : Nat) (v : α) : Nat → α := fun j => if j = k then v else f j

theorem upd_same {α : Type} (f : Nat → α) (k : Nat) (v : α) : upd f k v k = v := by simp [upd]

theorem upd_other {α : Type} (f : Nat → α) (k : Nat) (v : α) {j : Nat} (h : j ≠ k) : upd f k v j = f j := by simp [upd, h]

theorem own_short {w : World} {base e g n k c : Nat} {xs : List Value} (h : w.ownsRow base e 1 (.slice (some ⟨g, 0, none⟩) n c) n xs) (hk : k ≤ n) : w.ownsRow base e 1 (.slice (some ⟨g, 0, none⟩) k c) k (xs.take k) := by
  have hl := h.1
  rcases h.2 with ⟨hv, _⟩ | ⟨g', cap, cur, hv, hb, hg, hnc, hcm, hcs, htake⟩
  · cases hv
  · injection hv with h1 h2 h3
    injection h1 with h1
    injection h1 with h1
    subst h1 h3
    refine ⟨by rw [List.length_take]; omega, .inr ⟨g, c, cur, rfl, hb, hg, by omega, hcm, hcs, ?_⟩⟩
    rw [← htake, List.take_take, Nat.mul_one, Nat.mul_one, Nat.min_eq_left (by omega)]

end Go.Proofs.Ytbhbebidkeejbaa

namespace Go.Proofs.Ytbhbebidkeejbaa
set_option linter.unusedVariables false

/-! A drawn region whose last operation waits for all others and may undo what the loads read: S is held till then alone. -/
section
variable {P : Program} {ops : Array Oper} {Q : Exit → Act → World → Prop} {md : Region.Mode} {S : World → Prop} {last : Nat}

/-- Whatever order is picked, S holds behind each operation but the last. -/
def wpAnyK (P : Program) (md : Region.Mode) (ops : Array Oper) (Q : Exit → Act → World → Prop) (S : World → Prop) (last : Nat) : Nat → Array Bool → Act → World → Prop
  | 0, listed, a, w => Region.ready md ops listed = [] ∧ Q .normal a w
  | fuel + 1, listed, a, w =>
    (Region.ready md ops listed = [] → Q .normal a w) ∧
    ∀ i ∈ Region.ready md ops listed, wpOp P ops Q i (fun a' w' => (i ≠ last → S w') ∧ wpAnyK P md ops Q S last fuel (listed.setIfInBounds i true) a' w') a w

theorem wpAny_of_K : ∀ (fuel : Nat) (listed : Array Bool) (a : Act) (w : World), wpAnyK P md ops Q S last fuel listed a w → wpAny P md ops Q fuel listed a w
  | 0, _, _, _, h => h
  | fuel + 1, _, _, _, h => ⟨h.1, fun i hi => wpOp_mono (fun a' w' h' => wpAny_of_K fuel _ a' w' h'.2) (h.2 i hi)⟩

/-- That which the last one waits for is not ready to be overtaken by it. -/
def waitsFor (md : Region.Mode) (ops : Array Oper) (last i : Nat) : Bool :=
  match ops[last]? with
  | some o => o.after.any fun e => Region.binds md e && e.on == i
  | none => true

theorem not_ready_of_waits {i : Nat} {listed : Array Bool} (hw : waitsFor md ops last i = true) (hi : listed.getD i true = false) : last ∉ Region.ready md ops listed := by
  intro h
  obtain ⟨_, o, ho, hall⟩ := mem_ready.1 h
  simp only [waitsFor, ho] at hw
  obtain ⟨e, he, hb⟩ := Array.any_eq_true'.1 hw
  simp only [Bool.and_eq_true, beq_iff_eq] at hb
  have h1 := hall e he hb.1
  rw [hb.2] at h1
  rcases Nat.lt_or_ge i listed.size with h' | h'
  · simp [h'] at hi h1; rw [hi] at h1; cases h1
  · simp [Array.getElem?_eq_none h'] at h1

theorem wpAnyK_first {i : Nat} {oi : Oper} {v : Value} (hi : ops[i]? = some oi) (hsel : ∀ (j : Nat) (o : Oper) cs b, ops[j]? = some o → o.op ≠ .select cs b)
    (hQ : ∀ c a w, Q (.panic c) (a.put oi.dst v) w → Q (.panic c) a w) (hw : waitsFor md ops last i = true) (hil : i ≠ last) :
    ∀ (fuel : Nat) (listed : Array Bool) (a : Act) (w : World),
      (∀ j oj, ops[j]? = some oj → j ≠ i → listed.getD j true = false → (∀ e ∈ oj.after, Region.binds md e = true → e.on ≠ i) → oi.apart ops oj = true) →
      i ∈ Region.ready md ops listed → YieldsIf P ops S oi v a → S w →
      wpAnyK P md ops Q S last fuel (listed.setIfInBounds i true) (a.put oi.dst v) w → wpAnyK P md ops Q S last (fuel + 1) listed a w := by
  intro fuel
  induction fuel with
  | zero =>
    intro listed a w _ hr hy hS H
    refine ⟨fun h => (by rw [h] at hr; cases hr), fun j hj => ?_⟩
    by_cases hji : j = i
    · subst hji; exact hy.wpOp hi hS ⟨fun _ => hS, H⟩
    · have := ready_mono hj hji
      rw [H.1] at this
      cases this
  | succ fuel ih =>
    intro listed a w hfree hr hy hS H
    refine ⟨fun h => (by rw [h] at hr; cases hr), fun j hj => ?_⟩
    by_cases hji : j = i
    · subst hji; exact hy.wpOp hi hS ⟨fun _ => hS, H⟩
    · have hjl : j ≠ last := fun e => not_ready_of_waits hw (mem_ready.1 hr).1 (e ▸ hj)
      have h1 := H.2 j (ready_mono hj hji)
      obtain ⟨hjun, oj, hoj, hall⟩ := mem_ready.1 hj
      have hnot : ∀ e ∈ oj.after, Region.binds md e = true → e.on ≠ i := fun e he hb heq => by
        have h1 := hall e he hb
        have h0 := (mem_ready.1 hr).1
        rw [heq] at h1
        rcases Nat.lt_or_ge i listed.size with h' | h'
        · simp [h'] at h0 h1; rw [h0] at h1; cases h1
        · simp [Array.getElem?_eq_none h'] at h1
      have h2 := wpOp_putIf hoj (hfree j oj hoj hji hjun hnot) (fun cs b => hsel i oi cs b hi) (fun cs b => hsel j oj cs b hoj) hQ hy h1
      have hfree' : ∀ k ok, ops[k]? = some ok → k ≠ i → (listed.setIfInBounds j true).getD k true = false →
          (∀ e ∈ ok.after, Region.binds md e = true → e.on ≠ i) → oi.apart ops ok = true := fun k ok hk hki hun hno => by
        refine hfree k ok hk hki ?_ hno
        by_cases hjk : j = k
        · subst hjk; exact hjun
        · rw [getD_set_ne true hjk] at hun; exact hun
      refine wpOp_mono (fun a' w' h3 => ⟨h3.2.1, ih (listed.setIfInBounds j true) a' w' hfree' (ready_mono hr (Ne.symm hji)) h3.1 (h3.2.1 hjl) ?_⟩) h2
      rw [Array.setIfInBounds_comm _ _ hji]
      exact h3.2.2

theorem wpAnyK_take {i : Nat} {oi : Oper} {v : Value} {fuel : Nat} {listed : Array Bool} {a : Act} {w : World} (hi : ops[i]? = some oi)
    (hs : Region.noSelect ops = true) (hf : Region.free md ops listed i = true) (hr : (Region.ready md ops listed).contains i = true) (hw : (waitsFor md ops last i && i != last) = true)
    (hQ : ∀ c a w, Q (.panic c) (a.put oi.dst v) w → Q (.panic c) a w) (hy : YieldsIf P ops S oi v a) (hS : S w)
    (h : wpAnyK P md ops Q S last fuel (listed.setIfInBounds i true) (a.put oi.dst v) w) : wpAnyK P md ops Q S last (fuel + 1) listed a w := by
  simp only [Bool.and_eq_true, bne_iff_ne] at hw
  exact wpAnyK_first hi (Region.noSelect_spec hs) hQ hw.1 hw.2 fuel listed a w (Region.free_spec hi hf) (by simpa using hr) hy hS h

theorem wpAnyK_done {listed : Array Bool} {a : Act} {w : World} (hr : Region.ready md ops listed = []) (h : Q .normal a w) :
    ∀ fuel, wpAnyK P md ops Q S last fuel listed a w
  | 0 => ⟨hr, h⟩
  | _ + 1 => ⟨fun _ => h, by rw [hr]; simp⟩

/-- Each of the operations comes up next. -/
def AllReadyK (P : Program) (md : Region.Mode) (ops : Array Oper) (Q : Exit → Act → World → Prop) (S : World → Prop) (last : Nat) (fuel : Nat) (listed : Array Bool) (a : Act) (w : World) (rs : List Nat) : Prop :=
  ∀ i ∈ rs, wpOp P ops Q i (fun a' w' => (i ≠ last → S w') ∧ wpAnyK P md ops Q S last fuel (listed.setIfInBounds i true) a' w') a w

theorem AllReadyK.nil {fuel : Nat} {listed : Array Bool} {a : Act} {w : World} : AllReadyK P md ops Q S last fuel listed a w [] := fun _ h => by cases h

theorem AllReadyK.cons {fuel : Nat} {listed : Array Bool} {a : Act} {w : World} {i : Nat} {o : Oper} {rs : List Nat} (ho : ops[i]? = some o)
    (h : ∀ K' : Act → World → Prop, Shut (∀ a w, (i ≠ last → S w) → ((i ≠ last → S w) → wpAnyK P md ops Q S last fuel (listed.setIfInBounds i true) a w) → K' a w) → if Region.wanted o (yielded ops a.tmps) = true then Oper.wp P o a w K' Q else K' (a.put o.dst undef) w)
    (hs : AllReadyK P md ops Q S last fuel listed a w rs) : AllReadyK P md ops Q S last fuel listed a w (i :: rs) := fun j hj => by
  rcases List.mem_cons.1 hj with rfl | hj
  · exact wpOp_step ho (fun K' hK => h K' (fun a w hS hW => hK a w ⟨hS, hW hS⟩))
  · exact hs j hj

theorem wpAnyK_ready {rs : List Nat} {fuel : Nat} {listed : Array Bool} {a : Act} {w : World} (hr : Region.ready md ops listed = rs) (hne : rs ≠ [])
    (h : AllReadyK P md ops Q S last fuel listed a w rs) : wpAnyK P md ops Q S last (fuel + 1) listed a w :=
  ⟨fun h0 => absurd (hr ▸ h0) hne, hr ▸ h⟩

theorem wp_region_K {id : Nat} {a : Act} {w : World} (last : Nat) (hm : P.follows .mixedOrders = true) (hS : S w.drew)
    (h : S w.drew → wpAnyK P .any ops Q S last ops.size (Array.replicate ops.size false) a w.drew) : (Code.region id ops true).wp P Q a w :=
  wp_region_any hm (wpAny_of_K _ _ _ _ (h hS))
end
end Go.Proofs.Ytbhbebidkeejbaa
