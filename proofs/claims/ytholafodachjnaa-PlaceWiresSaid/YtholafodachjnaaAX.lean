import Derived.OrdersHeld
import Derived.Deep.RegionHeld
import Derived.Test.YtholafodachjnaaProg
import Derived.WalkKit
import Derived.Handy
import Derived.Deep.QuietTactic
import Derived.BigQuiet
import Derived.Deep.LoopGhost
import Derived.Lib.Hide
import Derived.Shelf.Abstract
import Derived.WalkLawsBesides
import Derived.WalkSpells
import Derived.Laws.EntriesVeiled
import Derived.Deep.RegionHeld3
import Derived.Deep.OwnRows
import Derived.Maps.OwnIn
import Derived.Maps.OwnSet
import Derived.Deep.AppendLies
import Derived.Lib.QuoteBits
/- A0 -/
namespace Go.Proofs.Ytholafodachjnaa
set_option linter.unusedVariables false

/-! A drawn region whose last operation waits for all others and may undo what the loads read: S is held till then alone. -/
section
variable {P : Program} {ops : Array Oper} {Q : Exit → Act → World → Prop} {md : Region.Mode} {S : World → Prop} {last : Nat}

/-- Whatever order is picked, S holds behind each operation but the last. -/
def wpAnyK (P : Program) (md : Region.Mode) (ops : Array Oper) (Q : Exit → Act → World → Prop) (S : World → Prop) (last : Nat) : Nat → Array Bool → Act → World → Prop
  | 0, listed, a, w => Region.ready md ops listed = [] ∧ Q .normal a w
  | fuel + 1, listed, a, w =>
    (Region.ready md ops listed = [] → Q .normal a w) ∧
    ∀ i ∈ Region.ready md ops listed, wpOp P ops Q i (fun a' w' => (i ≠ last → S w') ∧ wpAnyK P md ops Q S last fuel (listed.setIfInBounds i true) a' w') a w

theorem wpAny_of_K : ∀ (fuel : Nat) (listed : Array Bool) (a : Act) (w : World), wpAnyK P md ops Q S last fuel listed a w → wpAny P md ops Q fuel listed a w
  | 0, _, _, _, h => h
  | fuel + 1, _, _, _, h => ⟨h.1, fun i hi => wpOp_mono (fun a' w' h' => wpAny_of_K fuel _ a' w' h'.2) (h.2 i hi)⟩

/-- That which the last one waits for is not ready to be overtaken by it. -/
def waitsFor (md : Region.Mode) (ops : Array Oper) (last i : Nat) : Bool :=
  match ops[last]? with
  | some o => o.after.any fun e => Region.binds md e && e.on == i
  | none => true

theorem not_ready_of_waits {i : Nat} {listed : Array Bool} (hw : waitsFor md ops last i = true) (hi : listed.getD i true = false) : last ∉ Region.ready md ops listed := by
  intro h
  obtain ⟨_, o, ho, hall⟩ := mem_ready.1 h
  simp only [waitsFor, ho] at hw
  obtain ⟨e, he, hb⟩ := Array.any_eq_true'.1 hw
  simp only [Bool.and_eq_true, beq_iff_eq] at hb
  have h1 := hall e he hb.1
  rw [hb.2] at h1
  rcases Nat.lt_or_ge i listed.size with h' | h'
  · simp [h'] at hi h1; rw [hi] at h1; cases h1
  · simp [Array.getElem?_eq_none h'] at h1

theorem wpAnyK_first {i : Nat} {oi : Oper} {v : Value} (hi : ops[i]? = some oi) (hsel : ∀ (j : Nat) (o : Oper) cs b, ops[j]? = some o → o.op ≠ .select cs b)
    (hQ : ∀ c a w, Q (.panic c) (a.put oi.dst v) w → Q (.panic c) a w) (hw : waitsFor md ops last i = true) (hil : i ≠ last) :
    ∀ (fuel : Nat) (listed : Array Bool) (a : Act) (w : World),
      (∀ j oj, ops[j]? = some oj → j ≠ i → listed.getD j true = false → (∀ e ∈ oj.after, Region.binds md e = true → e.on ≠ i) → oi.apart ops oj = true) →
      i ∈ Region.ready md ops listed → YieldsIf P ops S oi v a → S w →
      wpAnyK P md ops Q S last fuel (listed.setIfInBounds i true) (a.put oi.dst v) w → wpAnyK P md ops Q S last (fuel + 1) listed a w := by
  intro fuel
  induction fuel with
  | zero =>
    intro listed a w _ hr hy hS H
    refine ⟨fun h => (by rw [h] at hr; cases hr), fun j hj => ?_⟩
    by_cases hji : j = i
    · subst hji; exact hy.wpOp hi hS ⟨fun _ => hS, H⟩
    · have := ready_mono hj hji
      rw [H.1] at this
      cases this
  | succ fuel ih =>
    intro listed a w hfree hr hy hS H
    refine ⟨fun h => (by rw [h] at hr; cases hr), fun j hj => ?_⟩
    by_cases hji : j = i
    · subst hji; exact hy.wpOp hi hS ⟨fun _ => hS, H⟩
    · have hjl : j ≠ last := fun e => not_ready_of_waits hw (mem_ready.1 hr).1 (e ▸ hj)
      have h1 := H.2 j (ready_mono hj hji)
      obtain ⟨hjun, oj, hoj, hall⟩ := mem_ready.1 hj
      have hnot : ∀ e ∈ oj.after, Region.binds md e = true → e.on ≠ i := fun e he hb heq => by
        have h1 := hall e he hb
        have h0 := (mem_ready.1 hr).1
        rw [heq] at h1
        rcases Nat.lt_or_ge i listed.size with h' | h'
        · simp [h'] at h0 h1; rw [h0] at h1; cases h1
        · simp [Array.getElem?_eq_none h'] at h1
      have h2 := wpOp_putIf hoj (hfree j oj hoj hji hjun hnot) (fun cs b => hsel i oi cs b hi) (fun cs b => hsel j oj cs b hoj) hQ hy h1
      have hfree' : ∀ k ok, ops[k]? = some ok → k ≠ i → (listed.setIfInBounds j true).getD k true = false →
          (∀ e ∈ ok.after, Region.binds md e = true → e.on ≠ i) → oi.apart ops ok = true := fun k ok hk hki hun hno => by
        refine hfree k ok hk hki ?_ hno
        by_cases hjk : j = k
        · subst hjk; exact hjun
        · rw [getD_set_ne true hjk] at hun; exact hun
      refine wpOp_mono (fun a' w' h3 => ⟨h3.2.1, ih (listed.setIfInBounds j true) a' w' hfree' (ready_mono hr (Ne.symm hji)) h3.1 (h3.2.1 hjl) ?_⟩) h2
      rw [Array.setIfInBounds_comm _ _ hji]
      exact h3.2.2

theorem wpAnyK_take {i : Nat} {oi : Oper} {v : Value} {fuel : Nat} {listed : Array Bool} {a : Act} {w : World} (hi : ops[i]? = some oi)
    (hs : Region.noSelect ops = true) (hf : Region.free md ops listed i = true) (hr : (Region.ready md ops listed).contains i = true) (hw : (waitsFor md ops last i && i != last) = true)
    (hQ : ∀ c a w, Q (.panic c) (a.put oi.dst v) w → Q (.panic c) a w) (hy : YieldsIf P ops S oi v a) (hS : S w)
    (h : wpAnyK P md ops Q S last fuel (listed.setIfInBounds i true) (a.put oi.dst v) w) : wpAnyK P md ops Q S last (fuel + 1) listed a w := by
  simp only [Bool.and_eq_true, bne_iff_ne] at hw
  exact wpAnyK_first hi (Region.noSelect_spec hs) hQ hw.1 hw.2 fuel listed a w (Region.free_spec hi hf) (by simpa using hr) hy hS h

theorem wpAnyK_done {listed : Array Bool} {a : Act} {w : World} (hr : Region.ready md ops listed = []) (h : Q .normal a w) :
    ∀ fuel, wpAnyK P md ops Q S last fuel listed a w
  | 0 => ⟨hr, h⟩
  | _ + 1 => ⟨fun _ => h, by rw [hr]; simp⟩

/-- Each of the operations comes up next. -/
def AllReadyK (P : Program) (md : Region.Mode) (ops : Array Oper) (Q : Exit → Act → World → Prop) (S : World → Prop) (last : Nat) (fuel : Nat) (listed : Array Bool) (a : Act) (w : World) (rs : List Nat) : Prop :=
  ∀ i ∈ rs, wpOp P ops Q i (fun a' w' => (i ≠ last → S w') ∧ wpAnyK P md ops Q S last fuel (listed.setIfInBounds i true) a' w') a w

theorem AllReadyK.nil {fuel : Nat} {listed : Array Bool} {a : Act} {w : World} : AllReadyK P md ops Q S last fuel listed a w [] := fun _ h => by cases h

theorem AllReadyK.cons {fuel : Nat} {listed : Array Bool} {a : Act} {w : World} {i : Nat} {o : Oper} {rs : List Nat} (ho : ops[i]? = some o)
    (h : ∀ K' : Act → World → Prop, Shut (∀ a w, (i ≠ last → S w) → ((i ≠ last → S w) → wpAnyK P md ops Q S last fuel (listed.setIfInBounds i true) a w) → K' a w) → if Region.wanted o (yielded ops a.tmps) = true then Oper.wp P o a w K' Q else K' (a.put o.dst undef) w)
    (hs : AllReadyK P md ops Q S last fuel listed a w rs) : AllReadyK P md ops Q S last fuel listed a w (i :: rs) := fun j hj => by
  rcases List.mem_cons.1 hj with rfl | hj
  · exact wpOp_step ho (fun K' hK => h K' (fun a w hS hW => hK a w ⟨hS, hW hS⟩))
  · exact hs j hj

theorem wpAnyK_ready {rs : List Nat} {fuel : Nat} {listed : Array Bool} {a : Act} {w : World} (hr : Region.ready md ops listed = rs) (hne : rs ≠ [])
    (h : AllReadyK P md ops Q S last fuel listed a w rs) : wpAnyK P md ops Q S last (fuel + 1) listed a w :=
  ⟨fun h0 => absurd (hr ▸ h0) hne, hr ▸ h⟩

theorem wp_region_K {id : Nat} {a : Act} {w : World} (last : Nat) (hm : P.follows .mixedOrders = true) (hS : S w.drew)
    (h : S w.drew → wpAnyK P .any ops Q S last ops.size (Array.replicate ops.size false) a w.drew) : (Code.region id ops true).wp P Q a w :=
  wp_region_any hm (wpAny_of_K _ _ _ _ (h hS))
end
end Go.Proofs.Ytholafodachjnaa

/- A1 -/
/- Readings of data in memory: slices, tables, nets; and how they go from world to world. -/
namespace Go.Proofs.Ytholafodachjnaa
open Go.RowKit

/-- n cells at a slice's address read as f; all lie in blocks below the heap's size. -/
def Seq (w : World) (a : Option Addr) (n : Nat) (f : Nat → Value) : Prop :=
  n = 0 ∨ ∃ b off, a = some ⟨b, off, none⟩ ∧ ∀ i, i < n → w.cell? ⟨b, off + i, none⟩ = some (f i)

theorem Seq.at {w : World} {a : Option Addr} {n : Nat} {f : Nat → Value} (h : Seq w a n f) (k : Nat) (hk : k < n) :
    ∃ b off, a = some ⟨b, off, none⟩ ∧ b < w.heap.size ∧ ∀ i, i < n → w.cell? ⟨b, off + i, none⟩ = some (f i) := by
  rcases h with h | ⟨b, off, ha, hc⟩
  · omega
  · exact ⟨b, off, ha, World.block_lt_of_cell? w _ (hc k hk), hc⟩

theorem Seq.below {w w' : World} {B : Nat} {a : Option Addr} {n : Nat} {f : Nat → Value} (h : Seq w a n f) (hb : Below B w w') (hB : w.heap.size ≤ B) : Seq w' a n f := by
  rcases h with h | ⟨b, off, ha, hc⟩
  · exact .inl h
  · refine .inr ⟨b, off, ha, fun i hi => ?_⟩
    have h1 := hc i hi
    have h2 := World.block_lt_of_cell? w _ h1
    rw [hb.cell (p := ⟨b, off + i, none⟩) (by simp at h2 ⊢; omega)]
    exact h1

def ints (l : List Int) : Nat → Value := fun i => .int .i64 (l.getD i 0)
def bools (l : List Bool) : Nat → Value := fun i => .bool (l.getD i false)

def I64 (x : Int) : Prop := -9223372036854775808 ≤ x ∧ x ≤ 9223372036854775807
theorem cell_alloc {w : World} {a : Addr} {v : Value} (o : Obj) (h : w.cell? a = some v) : (w.alloc o).cell? a = some v := by
  rw [World.cell?_alloc_lt (h := World.block_lt_of_cell? w a h)]; exact h

theorem ret_bool {a b : Bool} (h : a = b) : Ending.returned (.bool a) = .returned (.bool b) := by rw [h]
theorem ret_int {k : IntKind} {a b : Int} (h : a = b) : Ending.returned (.int k a) = .returned (.int k b) := by rw [h]

theorem all_getD {α : Type} (l : List α) (d : α) (p : α → Bool) : l.all p = true ↔ ∀ j, j < l.length → p (l.getD j d) = true := by
  rw [List.all_eq_true]
  constructor
  · intro h j hj
    exact h _ (by simp [List.getD, List.getElem?_eq_getElem hj])
  · intro h x hx
    obtain ⟨j, hj, rfl⟩ := List.getElem_of_mem hx
    have := h j hj
    simpa [List.getD, List.getElem?_eq_getElem hj] using this

theorem getD_mem {α : Type} (l : List α) (d : α) {k : Nat} (h : k < l.length) : l.getD k d ∈ l := by
  simp [List.getD, List.getElem?_eq_getElem h]

theorem belowN {B n : Nat} {a w : World} (h : Below B a w) : Below B a (w.drewN n) := ⟨h.os, h.tape, h.output, h.size, h.block⟩

end Go.Proofs.Ytholafodachjnaa

namespace Go.Proofs.Ytholafodachjnaa
open Go.RowKit

section
variable {w : World} {base e n : Nat} {v : Value} {l : List Int}

/-- What a row of numbers that the call made looks like. -/
theorem owns_shape (h : w.ownsRow base e 1 v n (l.map (Value.int .i64))) (hn : 0 < n) : ∃ g cap, v = .slice (some ⟨g, 0, none⟩) n cap ∧ base ≤ g ∧ g < w.heap.size ∧ n ≤ cap ∧ ∀ j, j < n → w.cell? ⟨g, j, none⟩ = some (.int .i64 (l.getD j 0)) := by
  have hl : l.length = n := by have := h.1; simpa using this
  rcases h.2 with ⟨_, h0⟩ | ⟨g, cap, cur, hv, hb, hg, hnc, hm, hs, ht⟩
  · omega
  · subst hv
    refine ⟨g, cap, rfl, hb, (Array.getElem?_eq_some_iff.1 hg).1, hnc, fun j hj => ?_⟩
    rw [h.cellAt j (by omega)]
    simp [List.getD, List.getElem?_eq_getElem (show j < l.length by omega)]

theorem grownBy_trans {a b c : World} {g : Option Nat} (h : a.grownBy b g) (k : b.grownBy c g) : a.grownBy c g :=
  ⟨k.os.trans h.os, k.tape.trans h.tape, k.output.trans h.output, Nat.le_trans h.size k.size, fun i hi hn => (k.block i (Nat.lt_of_lt_of_le hi h.size) hn).trans (h.block i hi hn)⟩

theorem grownBy_drewN (a : World) (n : Nat) (g : Option Nat) : a.grownBy (a.drewN n) g := ⟨rfl, rfl, rfl, Nat.le_refl _, fun _ _ _ => rfl⟩
theorem grownBy_drew (a : World) (g : Option Nat) : a.grownBy a.drew g := ⟨rfl, rfl, rfl, Nat.le_refl _, fun _ _ _ => rfl⟩

/-- What a store into a row that the call made leaves. -/
theorem own_store {w : World} {base e n cap g : Nat} {xs : List Value} (h : w.ownsRow base e 1 (.slice (some ⟨g, 0, none⟩) n cap) n xs) (j : Nat) (u : Value) :
    (w.setCell ⟨g, j, none⟩ u).ownsRow base e 1 (.slice (some ⟨g, 0, none⟩) n cap) n (xs.set j u) ∧ w.grownBy (w.setCell ⟨g, j, none⟩ u) (some g) := h.stored j u

theorem own_drewN {w : World} {base e size n k : Nat} {v : Value} {xs : List Value} (h : w.ownsRow base e size v n xs) : (w.drewN k).ownsRow base e size v n xs := h

theorem own_below {w w' : World} {base e size n : Nat} {v : Value} {xs : List Value} (h : w.ownsRow base e size v n xs) (hb : Below w.heap.size w w') : w'.ownsRow base e size v n xs :=
  h.kept (row := none) ⟨hb.os, hb.tape, hb.output, hb.size, fun k hk _ => hb.block k hk⟩ (by cases v.ownBlock <;> simp)

theorem _root_.Go.World.ownsRow.base_le {w : World} {base base' e size n : Nat} {v : Value} {xs : List Value} (h : w.ownsRow base e size v n xs) (hb : base' ≤ base) : w.ownsRow base' e size v n xs := by
  refine ⟨h.1, ?_⟩
  rcases h.2 with h2 | ⟨g, cap, cur, hv, hg, r⟩
  · exact .inl h2
  · exact .inr ⟨g, cap, cur, hv, Nat.le_trans hb hg, r⟩
end
end Go.Proofs.Ytholafodachjnaa

namespace Go.Proofs.Ytholafodachjnaa
open Go.RowKit

end Go.Proofs.Ytholafodachjnaa

namespace Go.Proofs.Ytholafodachjnaa
open Go.RowKit

end Go.Proofs.Ytholafodachjnaa

namespace Go.Proofs.Ytholafodachjnaa
open Go.RowKit

def idxBy {α : Type} (l : List α) (p : α → Bool) : Int := if l.any p then (l.findIdx p : Nat) else -1

theorem idx_yes {α : Type} {l : List α} (d : α) {p : α → Bool} {k : Nat} (hk : k < l.length) (h : p (l.getD k d) = true) (hno : ∀ j, j < k → p (l.getD j d) = false) : idxBy l p = k := by
  have hk' : l.getD k d = l[k] := by simp [List.getD, List.getElem?_eq_getElem hk]
  rw [hk'] at h
  have hany : l.any p = true := List.any_eq_true.2 ⟨l[k], List.getElem_mem hk, h⟩
  have : l.findIdx p = k := by
    rw [List.findIdx_eq hk]
    refine ⟨h, fun j hj => ?_⟩
    have := hno j hj
    simpa [List.getD, List.getElem?_eq_getElem (Nat.lt_trans hj hk)] using this
  simp [idxBy, hany, this]

theorem idx_no {α : Type} {l : List α} (d : α) {p : α → Bool} (hno : ∀ j, j < l.length → p (l.getD j d) = false) : idxBy l p = -1 := by
  have hany : l.any p = false := by
    rw [Bool.eq_false_iff]
    intro h
    obtain ⟨x, hx, hpx⟩ := List.any_eq_true.1 h
    obtain ⟨j, hj, rfl⟩ := List.getElem_of_mem hx
    have := hno j hj
    simp [List.getD, List.getElem?_eq_getElem hj, hpx] at this
  simp [idxBy, hany]

theorem idx_nonneg {α : Type} (l : List α) (p : α → Bool) : decide (0 ≤ idxBy l p) = l.any p := by
  unfold idxBy
  cases l.any p <;> simp

theorem indexFunc (w : World) (a : Option Addr) (n c : Nat) (l : List Int) (hlen : l.length = n) (S : Seq w a n (ints l)) (hn : n ≤ 9223372036854775807) (g : FuncId) (eg : Enters Try.prog g) (cap : Array Value) (p : Int → Bool)
    (hp : ∀ x, x ∈ l → Calls Try.prog g (#[.int .i64 x] ++ cap) w fun e w' => e = .returned (.bool (p x)) ∧ w = w') :
    Calls Try.prog 74 #[.slice a n c, .func (.func g) #[] cap] w fun e w' => e = .returned (.int .i64 (idxBy l p)) ∧ w = w' := by
  have HS := Lib.hid S
  have HL := Lib.hid hlen
  have HP := Lib.hid hp
  clear S hlen hp
  go_enter Try.func74, Try.ntmps74
  go_wp2
  go_loop [8] (fun i => ∃ k : Nat, k ≤ n ∧ i = .int .i64 k ∧ Hid (∀ j, j < k → p (l.getD j 0) = false)) (fun i => n - (intOf i).toNat)
  case atStart => exact ⟨0, by omega, rfl, fun j hj => by omega⟩
  case round =>
    obtain ⟨k, hk, rfl, hh⟩ := hrel
    by_cases hlt : k < n
    · obtain ⟨b, off, rfl, hbb, hc⟩ := HS.out.at k hlt
      have d0 : w.cell? ⟨b, off + k, none⟩ = some (.int .i64 (l.getD k 0)) := hc k hlt
      have hmem : l.getD k 0 ∈ l := getD_mem _ _ (by rw [HL.out]; exact hlt)
      obtain ⟨x, hx⟩ : ∃ x, x = l.getD k 0 := ⟨_, rfl⟩
      rw [← hx] at d0 hmem
      have HX := Lib.hid hx
      clear hx hc
      unfold Enters at eg
      cases hpx : p x
      all_goals
        have HPX := Lib.hid hpx
        clear hpx
        go_wp2_with fail
        refine (HP.out _ hmem).mono ?_
        rw [HPX.out]
        rintro e w1 ⟨rfl, rfl⟩
        go_wp2
      · go_round
        case rel =>
          refine ⟨k + 1, by omega, by go_num, fun j hj => ?_⟩
          rcases Nat.lt_succ_iff_lt_or_eq.1 hj with h | rfl
          · exact hh.out j h
          · rw [← HX.out, HPX.out]
        case measure => simp [intOf]; omega
      · go_ret
        exact ⟨ret_int (idx_yes 0 (by rw [HL.out]; exact hlt) (by rw [← HX.out]; exact HPX.out) hh.out).symm, rfl⟩
    · obtain rfl : k = n := by omega
      go_wp2
      go_ret
      exact ⟨ret_int (idx_no 0 (by rw [HL.out]; exact hh.out)).symm, rfl⟩

theorem containsFunc (w : World) (a : Option Addr) (n c : Nat) (l : List Int) (hlen : l.length = n) (S : Seq w a n (ints l)) (hn : n ≤ 9223372036854775807) (g : FuncId) (eg : Enters Try.prog g) (cap : Array Value) (p : Int → Bool)
    (hp : ∀ x, x ∈ l → Calls Try.prog g (#[.int .i64 x] ++ cap) w fun e w' => e = .returned (.bool (p x)) ∧ w = w') :
    Calls Try.prog 69 #[.slice a n c, .func (.func g) #[] cap] w fun e w' => e = .returned (.bool (l.any p)) ∧ w = w' := by
  have C := Lib.hid (indexFunc w a n c l hlen S hn g eg cap p hp)
  clear S hlen hp
  go_enter Try.func69, Try.ntmps69
  go_wp2_with fail
  refine C.out.mono ?_
  rintro e w1 ⟨rfl, rfl⟩
  go_wp2
  go_ret
  exact ⟨ret_bool (by rw [← idx_nonneg l p]), rfl⟩

end Go.Proofs.Ytholafodachjnaa

namespace Go.Proofs.Ytholafodachjnaa
open Go.RowKit


end Go.Proofs.Ytholafodachjnaa

namespace Go.Proofs.Ytholafodachjnaa
open Go.RowKit

end Go.Proofs.Ytholafodachjnaa

/- A3 -/
namespace Go.Proofs.Ytholafodachjnaa
open Go.RowKit Go.Shelf Go.Maps
set_option linter.unusedVariables false
set_option linter.unusedSimpArgs false

/-! Maps of the call's own, keyed by numbers: what they tell at a key (0, false where there is none). -/
theorem law3 : Keyed Try.prog 3 := int_keyed Try.underlying3
theorem wfI {x : Int} (h : I64 x) : (Lit.int .i64 x).wf = true := by
  simp only [Lit.wf, Bool.and_eq_true, decide_eq_true_eq]
  exact h

def BMap (w : World) (mb cnt : Nat) (f : Int → Bool) : Prop :=
  ∃ D : DataW Unit, w.ownsMap Try.prog 3 (plainElem Try.prog 4) mb cnt D ∧ IsMap D ∧ ∀ k, D.atKey (.int .i64 k) (.lit (.bool false)) = .lit (.bool (f k))

section
variable {w w' : World} {mb cnt : Nat} {f : Int → Int} {g : Int → Bool} {row : Option Nat}
theorem BMap.kept (h : BMap w mb cnt g) (hg : w.grownBy w' row) (hne : some mb ≠ row) : BMap w' mb cnt g := by
  obtain ⟨D, h1, h2⟩ := h; exact ⟨D, h1.kept hg hne, h2⟩
theorem BMap.mono {cnt' : Nat} (h : BMap w mb cnt g) (hc : cnt ≤ cnt') : BMap w mb cnt' g := by
  obtain ⟨D, h1, h2⟩ := h; exact ⟨D, h1.mono hc, h2⟩
theorem BMap.drew (h : BMap w mb cnt g) : BMap w.drew mb cnt g := by
  obtain ⟨D, h1, h2⟩ := h; exact ⟨D, h1.drew, h2⟩
theorem BMap.below {B : Nat} (h : BMap w mb cnt g) (hb : Below B w w') (hB : mb < B) : BMap w' mb cnt g := by
  obtain ⟨D, h1, h2⟩ := h
  obtain ⟨es, clock, hb1, h3⟩ := h1
  exact ⟨D, ⟨es, clock, (hb.block mb hB).trans hb1, h3⟩, h2⟩
theorem BMap.put (h : BMap w mb cnt g) (k : Int) (v : Bool) (hk : I64 k) (hc : cnt ≤ 1000000) :
    ∃ w', (Instr.mapUpdate 84 (.map (some mb)) (.int .i64 k) (.bool v)).run Try.prog w = .ok () w' ∧ BMap w' mb (cnt + 1) (fun x => if x = k then v else g x) ∧ w.grownBy w' (some mb) := by
  obtain ⟨D, ho, hm, ha⟩ := h
  obtain ⟨w', hrun, ho', hg⟩ := ho.update (t := 84) law3 Try.underlying84 (by unfold maxLen; omega) (keyOf_int_mk Try.underlying3 (wfI hk)) (plainElem_bool Try.underlying4 v)
  refine ⟨w', hrun, ⟨_, ho', hm.put _ _, fun x => ?_⟩, hg⟩
  by_cases e : x = k
  · subst e; dsimp only; rw [if_pos rfl, atKey_put_same hm (by trivial)]
  · dsimp only; rw [if_neg e, atKey_put_other (by intro h; injection h with _ h; exact e h)]; exact ha x
end

/-! What blocks are made of a net. -/
structure BlkD where
  ins : List Int
  tab : Int
  ff : Bool
  init : Bool
instance : Inhabited BlkD := ⟨⟨[], 0, false, false⟩⟩

/-- Which places of a table's inputs are something. -/
def keptTo (ins : List Int) : Nat → List Nat
  | 0 => []
  | k + 1 => if ins.getD k 0 = 0 then keptTo ins k else keptTo ins k ++ [k]
def liveTo (g : Int → Int) (ins : List Int) : Nat → List Int
  | 0 => []
  | k + 1 => if ins.getD k 0 = 0 then liveTo g ins k else liveTo g ins k ++ [g (ins.getD k 0)]
end Go.Proofs.Ytholafodachjnaa

/- A4 -/
namespace Go.Proofs.Ytholafodachjnaa
open Go.RowKit Go.Shelf Go.Maps
set_option linter.unusedVariables false
set_option linter.unusedSimpArgs false

theorem grownBy_set (w : World) (b i : Nat) (v : Value) : w.grownBy (w.setCell ⟨b, i, none⟩ v) (some b) :=
  ⟨rfl, rfl, rfl, by simp [World.setCell], fun k hk hne => by simp [World.setCell, Array.getElem?_modify]; intro e; exact absurd (by rw [e]) hne⟩
theorem cell?_set_own {w : World} {b i : Nat} {v u : Value} (h : w.cell? ⟨b, i, none⟩ = some v) : (w.setCell ⟨b, i, none⟩ u).cell? ⟨b, i, none⟩ = some u := World.cell?_setCell_same _ _ _ h
theorem cell?_set_far {w : World} {b i c j : Nat} {u : Value} (h : c ≠ b) : (w.setCell ⟨b, i, none⟩ u).cell? ⟨c, j, none⟩ = w.cell? ⟨c, j, none⟩ := World.cell?_setCell_other (w := w) (v := u) (h := fun e => h (congrArg Addr.block e).symm)

theorem info3 : (Try.prog.info? 3).map (fun i => (i.zero, i.size, i.bytes)) = some (some (.int .i64 0), 1, 8) := by kernel_rfl

theorem cell_newW (X : World) (v : Value) (t : TypeId) : (X.alloc (Obj.cells #[v] t)).cell? ⟨X.heap.size, 0, none⟩ = some v := by simp
theorem alloc_top (w : World) (o : Obj) : (w.alloc o).heap[w.heap.size]? = some o := by
  have : (w.alloc o).heap = w.heap.push o := by first | rfl | simp [World.alloc_eq]
  rw [this]; simp
theorem one_new {w : World} {q : Nat} {v : Value} (h : w.cell? ⟨q, 0, none⟩ = some v) : ∀ j u, [v][j]? = some u → w.cell? (Addr.add ⟨q, 0, none⟩ j) = some u := by
  intro j u hj
  cases j with
  | zero => simp at hj; subst hj; rw [Addr.add_lit]; exact h
  | succ j => simp at hj
theorem ggrown {a b c : World} {g : Option Nat} (h : a.grownBy b g) (k : b.grownBy c g) : a.grownBy c g := grownBy_trans h k

structure BlkV where
  a : Option Addr
  c : Nat
  ins : List Int
  tab : Int
  ff : Bool
  init : Bool
instance : Inhabited BlkV := ⟨⟨none, 0, [], 0, false, false⟩⟩
abbrev BlkV.val (b : BlkV) : Value := .agg #[.slice b.a b.ins.length b.c, .int .i64 b.tab, .bool b.ff, .bool b.init]
abbrev BlkV.data (b : BlkV) : BlkD := ⟨b.ins, b.tab, b.ff, b.init⟩

structure ToldInv (w : World) (g : Int → Int) (La : Option Addr) (Lc : Nat) (Li : List Int) (Lt : Int) (ff init : Bool) (wr : World) (k : Nat) (v7 vI : Value) (tv : Int) : Prop where
  below : Below w.heap.size w wr
  size : w.heap.size + 3 ≤ wr.heap.size
  cI : wr.cell? ⟨w.heap.size, 0, none⟩ = some vI
  cT : wr.cell? ⟨w.heap.size, 1, none⟩ = some (.int .i64 tv)
  cF : wr.cell? ⟨w.heap.size, 2, none⟩ = some (.bool ff)
  cN : wr.cell? ⟨w.heap.size, 3, none⟩ = some (.bool init)
  fz : ∀ i, wr.frozen? ⟨w.heap.size, i, none⟩ = false
  l0 : wr.cell? ⟨w.heap.size + 1, 0, none⟩ = some (.slice La Li.length Lc)
  l1 : wr.cell? ⟨w.heap.size + 1, 1, none⟩ = some (.int .u64 Lt)
  res : wr.heap[w.heap.size + 2]? = some (.cells #[.slice none 0 0, .int .i64 0, .bool false, .bool false] 46)
  own7 : wr.ownsRow (w.heap.size + 3) 3 1 v7 (keptTo Li k).length ((keptTo Li k).map fun (x : Nat) => Value.int .i64 (x : Int))
  ownI : wr.ownsRow (w.heap.size + 3) 3 1 vI (keptTo Li k).length ((liveTo g Li k).map (Value.int .i64))
  apart : ∀ b, v7.ownBlock = some b → vI.ownBlock ≠ some b

theorem cells_at {w : World} {b : Nat} {xs : Array Value} {t : TypeId} (h : w.heap[b]? = some (.cells xs t)) (j : Nat) : w.cell? ⟨b, j, none⟩ = xs[j]? ∧ w.frozen? ⟨b, j, none⟩ = false := by
  constructor
  · simp [World.cell?, h]
  · simp [World.frozen?, h]
theorem set_keep {w : World} {b i j : Nat} {v u : Value} (h : w.cell? ⟨b, j, none⟩ = some v) (hne : j ≠ i) : (w.setCell ⟨b, i, none⟩ u).cell? ⟨b, j, none⟩ = some v := by
  rw [World.cell?_setCell_other (w := w) (v := u) (h := fun e => hne (congrArg Addr.off e).symm)]; exact h
theorem set_frozen (w : World) (b i c j : Nat) (u : Value) : (w.setCell ⟨b, i, none⟩ u).frozen? ⟨c, j, none⟩ = w.frozen? ⟨c, j, none⟩ := by simp
theorem set_size (w : World) (b i : Nat) (u : Value) : (w.setCell ⟨b, i, none⟩ u).heap.size = w.heap.size := by simp [World.setCell]

theorem ToldInv.tab {w wr : World} {g : Int → Int} {La : Option Addr} {Lc k : Nat} {Li : List Int} {Lt tv : Int} {ff init : Bool} {v7 vI : Value} (hv : ToldInv w g La Lc Li Lt ff init wr k v7 vI tv) (tv' : Int) :
    ToldInv w g La Lc Li Lt ff init (wr.setCell ⟨w.heap.size, 1, none⟩ (.int .i64 tv')) k v7 vI tv' := by
  have hsz := hv.size
  have hg := grownBy_set wr w.heap.size 1 (.int .i64 tv')
  have fa : ∀ {v : Value} {n : Nat} {l : List Value}, wr.ownsRow (w.heap.size + 3) 3 1 v n l → v.ownBlock ≠ some w.heap.size := fun h e => by have := (h.lt _ e).1; omega
  refine ⟨hv.below.grown hg (by omega) (fun k e => by injection e with e; omega), by rw [set_size]; omega, set_keep hv.cI (by decide), cell?_set_own hv.cT, set_keep hv.cF (by decide), set_keep hv.cN (by decide), ?_, ?_, ?_, ?_, ?_, ?_, hv.apart⟩
  · intro i; rw [set_frozen]; exact hv.fz i
  · rw [cell?_set_far (by omega)]; exact hv.l0
  · rw [cell?_set_far (by omega)]; exact hv.l1
  · exact (hg.block _ (by omega) (by intro e; injection e with e; omega)).trans hv.res
  · exact hv.own7.kept hg (.inr (fa hv.own7))
  · exact hv.ownI.kept hg (.inr (fa hv.ownI))

theorem ToldInv.drewN {w wr : World} {g : Int → Int} {La : Option Addr} {Lc k : Nat} {Li : List Int} {Lt tv : Int} {ff init : Bool} {v7 vI : Value} (hv : ToldInv w g La Lc Li Lt ff init wr k v7 vI tv) (m : Nat) :
    ToldInv w g La Lc Li Lt ff init (wr.drewN m) k v7 vI tv :=
  ⟨belowN hv.below, hv.size, hv.cI, hv.cT, hv.cF, hv.cN, hv.fz, hv.l0, hv.l1, hv.res, hv.own7, hv.ownI, hv.apart⟩
theorem ToldInv.drew {w wr : World} {g : Int → Int} {La : Option Addr} {Lc k : Nat} {Li : List Int} {Lt tv : Int} {ff init : Bool} {v7 vI : Value} (hv : ToldInv w g La Lc Li Lt ff init wr k v7 vI tv) :
    ToldInv w g La Lc Li Lt ff init wr.drew k v7 vI tv := hv.drewN 1
end Go.Proofs.Ytholafodachjnaa

/- A5 -/
namespace Go.Proofs.Ytholafodachjnaa
open Go.RowKit Go.Shelf Go.Maps
set_option linter.unusedVariables false
set_option linter.unusedSimpArgs false

theorem take_one {α : Type} (l : List α) (d : α) (j : Nat) (hj : j < l.length) : l.take (j + 1) = l.take j ++ [l.getD j d] := by
  rw [List.take_add_one, List.getElem?_eq_getElem hj]
  simp [List.getD_eq_getElem?_getD, List.getElem?_eq_getElem hj]
end Go.Proofs.Ytholafodachjnaa

/- A6 -/
namespace Go.Proofs.Ytholafodachjnaa
open Go.RowKit Go.Shelf Go.Maps
set_option linter.unusedVariables false
set_option linter.unusedSimpArgs false

/-! What Pack makes of a net. -/
/-! The packer's own things while it packs. -/
section
variable {w wr w' : World}  {mb pk lo cnt : Nat} {f : Int → Int} {bv ov : Value}
/-! The rows of blocks and of outs. -/
abbrev BlkV.cells (b : BlkV) : List Value := [.slice b.a b.ins.length b.c, .int .i64 b.tab, .bool b.ff, .bool b.init]
def InAt (lo : Nat) (bv ov : Value) (wr : World) (b : BlkV) : Prop :=
  b.ins.length = 0 ∨ ∃ g off, b.a = some ⟨g, off, none⟩ ∧ lo ≤ g ∧ g < wr.heap.size ∧ bv.ownBlock ≠ some g ∧ ov.ownBlock ≠ some g ∧ ∀ i, i < b.ins.length → wr.cell? ⟨g, off + i, none⟩ = some (ints b.ins i)
structure Rows (lo : Nat) (bs : List BlkV) (bv : Value) (os : List Int) (ov : Value) (wr : World) : Prop where
  own : wr.ownsRow lo 46 4 bv bs.length (bs.flatMap BlkV.cells)
  ins : ∀ b ∈ bs, InAt lo bv ov wr b
  oown : wr.ownsRow lo 3 1 ov os.length (os.map (Value.int .i64))
  apart : ∀ b, bv.ownBlock = some b → ov.ownBlock ≠ some b
variable {bs : List BlkV} {os : List Int}
theorem InAt.grown {b : BlkV} (h : InAt lo bv ov wr b) {row : Option Nat} (hg : wr.grownBy w' row) (hr : ∀ k, row = some k → k < lo ∨ bv.ownBlock = some k ∨ ov.ownBlock = some k) : InAt lo bv ov w' b := by
  rcases h with h | ⟨g, off, ha, h1, h2, h3, h4, hc⟩
  · exact .inl h
  · refine .inr ⟨g, off, ha, h1, by have := hg.size; omega, h3, h4, fun i hi => (World.cell?_of_block (a := ⟨_, _, none⟩) (hg.block _ (by simp only; omega) ?_)).trans (hc i hi)⟩
    intro e
    rcases hr g e.symm with h | h | h
    · omega
    · exact h3 h
    · exact h4 h
theorem Rows.grown (h : Rows lo bs bv os ov wr) {row : Option Nat} (hg : wr.grownBy w' row) (hr : ∀ k, row = some k → k < lo) : Rows lo bs bv os ov w' := by
  refine ⟨h.own.kept hg ?_, fun b hb => (h.ins b hb).grown hg (fun k e => .inl (hr k e)), h.oown.kept hg ?_, h.apart⟩
  · by_cases e : bv.ownBlock = none
    · exact .inl e
    · obtain ⟨b, hb⟩ := Option.ne_none_iff_exists'.1 e
      right; intro e2
      have h1 := (h.own.lt b hb).1
      have := hr b (e2 ▸ hb); omega
  · by_cases e : ov.ownBlock = none
    · exact .inl e
    · obtain ⟨b, hb⟩ := Option.ne_none_iff_exists'.1 e
      right; intro e2
      have h1 := (h.oown.lt b hb).1
      have := hr b (e2 ▸ hb); omega
theorem Rows.below (h : Rows lo bs bv os ov wr) (hb : Below wr.heap.size wr w') : Rows lo bs bv os ov w' :=
  ⟨own_below h.own hb, fun b hbm => by
    rcases h.ins b hbm with h | ⟨g, off, ha, h1, h2, h3, h4, hc⟩
    · exact .inl h
    · exact .inr ⟨g, off, ha, h1, by have := hb.size; omega, h3, h4, fun i hi => (hb.cell (p := ⟨_, _, none⟩) h2).trans (hc i hi)⟩, own_below h.oown hb, h.apart⟩
theorem Rows.drewN (h : Rows lo bs bv os ov wr) (n : Nat) : Rows lo bs bv os ov (wr.drewN n) := h.below (belowN (Below.refl _ _))
theorem Rows.nil (wr : World) (lo : Nat) : Rows lo [] (.slice none 0 0) [] (.slice none 0 0) wr :=
  ⟨World.ownsRow_nil _ _ _ _, (by intro b hb; cases hb), World.ownsRow_nil _ _ _ _, by intro b hb; simp [Value.ownBlock] at hb⟩

end
end Go.Proofs.Ytholafodachjnaa

/- BC -/
/- C1 -/
namespace Go.Proofs.Ytholafodachjnaa
open Go.RowKit Go.Shelf Go.Maps
set_option linter.unusedVariables false
set_option linter.unusedSimpArgs false
/-- Does a code begin with that region? -/
def atRegion (k : Nat) : Code → Bool
  | .region id _ _ => id == k
  | .seq a _ => atRegion k a
  | _ => false
/-- The loop whose body begins with that region. -/
def loopAt (k : Nat) : Code → Option Code
  | .loop c => if atRegion k c then some (.loop c) else loopAt k c
  | .seq a b => match loopAt k a with
    | some c => some c
    | none => loopAt k b
  | .block _ c => loopAt k c
  | .scope c => loopAt k c
  | .cond _ a b => match loopAt k a with
    | some c => some c
    | none => loopAt k b
  | .rangeFunc _ _ a b => match loopAt k a with
    | some c => some c
    | none => loopAt k b
  | _ => none

end Go.Proofs.Ytholafodachjnaa

/- C2 -/
namespace Go.Proofs.Ytholafodachjnaa
open Go.RowKit Go.Shelf Go.Maps
set_option linter.unusedVariables false
set_option linter.unusedSimpArgs false
end Go.Proofs.Ytholafodachjnaa

/- C3 -/
namespace Go.Proofs.Ytholafodachjnaa
open Go.RowKit Go.Shelf Go.Maps
set_option linter.unusedVariables false
set_option linter.unusedSimpArgs false
end Go.Proofs.Ytholafodachjnaa

/- C4 -/
namespace Go.Proofs.Ytholafodachjnaa
open Go.RowKit Go.Shelf Go.Maps
set_option linter.unusedVariables false
set_option linter.unusedSimpArgs false
theorem far {W : World} {b i c j : Nat} {u v : Value} (h : W.cell? ⟨c, j, none⟩ = some v) (hne : c ≠ b) : (W.setCell ⟨b, i, none⟩ u).cell? ⟨c, j, none⟩ = some v := (cell?_set_far hne).trans h
end Go.Proofs.Ytholafodachjnaa

/- BA -/
/- A9 -/
namespace Go.Proofs.Ytholafodachjnaa
open Go.RowKit Go.Shelf Go.Maps
set_option linter.unusedVariables false
set_option linter.unusedSimpArgs false
theorem owns_val {w : World} {base e size n : Nat} {v : Value} {xs : List Value} (h : w.ownsRow base e size v n xs) : ∃ a c, v = .slice a n c := by
  rcases h.2 with ⟨rfl, rfl⟩ | ⟨g, cap, cur, hv, _⟩
  · exact ⟨none, 0, rfl⟩
  · exact ⟨_, _, hv⟩
structure PackV where
  ins : Int
  ba : Option Addr
  bc : Nat
  bs : List BlkV
  oa : Option Addr
  oc : Nat
  os : List Int
abbrev PackV.val (P : PackV) : Value := .agg #[.int .i64 P.ins, .slice P.ba P.bs.length P.bc, .slice P.oa P.os.length P.oc]
end Go.Proofs.Ytholafodachjnaa

/- A10 -/
namespace Go.Proofs.Ytholafodachjnaa
open Go.RowKit Go.Shelf Go.Maps
set_option linter.unusedVariables false
set_option linter.unusedSimpArgs false
/-- What rows that the call made hold. -/
theorem owns_cells {w : World} {base e size n : Nat} {v : Value} {xs : List Value} (h : w.ownsRow base e size v n xs) (hn : 0 < n) : ∃ g cap, v = .slice (some ⟨g, 0, none⟩) n cap ∧ base ≤ g ∧ g < w.heap.size ∧ ∀ j (hj : j < xs.length), w.cell? ⟨g, j, none⟩ = some xs[j] := by
  rcases h.2 with ⟨_, h0⟩ | ⟨g, cap, cur, hv, hb, hg, hnc, hm, hs, ht⟩
  · omega
  · subst hv
    exact ⟨g, cap, rfl, hb, (Array.getElem?_eq_some_iff.1 hg).1, fun j hj => (h.cellAt j (h.1 ▸ hj)).trans (List.getElem?_eq_getElem hj)⟩

def blkCell (bs : List BlkV) : Nat → Value := fun i =>
  if i % 4 = 0 then .slice (bs.getD (i / 4) default).a (bs.getD (i / 4) default).ins.length (bs.getD (i / 4) default).c
  else if i % 4 = 1 then .int .i64 (bs.getD (i / 4) default).tab
  else if i % 4 = 2 then .bool (bs.getD (i / 4) default).ff else .bool (bs.getD (i / 4) default).init

/-- How a pack reads in a world. -/
structure PackAt (w : World) (P : PackV) : Prop where
  insR : I64 P.ins
  blocks : Seq w P.ba (4 * P.bs.length) (blkCell P.bs)
  outs : Seq w P.oa P.os.length (ints P.os)
  each : ∀ b ∈ P.bs, Seq w b.a b.ins.length (ints b.ins) ∧ (∀ x ∈ b.ins, I64 x) ∧ I64 b.tab ∧ b.ins.length ≤ 9223372036854775807
  outsR : ∀ x ∈ P.os, I64 x
  blocksL : P.bs.length ≤ 9223372036854775807
  outsL : P.os.length ≤ 9223372036854775807

theorem PackAt.below {w w' : World} {B : Nat} {P : PackV} (h : PackAt w P) (hb : Below B w w') (hB : w.heap.size ≤ B) : PackAt w' P :=
  ⟨h.insR, h.blocks.below hb hB, h.outs.below hb hB, fun b hb' => ⟨(h.each b hb').1.below hb hB, (h.each b hb').2⟩, h.outsR, h.blocksL, h.outsL⟩

end Go.Proofs.Ytholafodachjnaa

/- A11 -/
namespace Go.Proofs.Ytholafodachjnaa
open Go.RowKit Go.Shelf Go.Maps
set_option linter.unusedVariables false
set_option linter.unusedSimpArgs false


end Go.Proofs.Ytholafodachjnaa
