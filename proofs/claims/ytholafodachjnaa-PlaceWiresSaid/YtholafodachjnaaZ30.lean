/- Drawn regions inside the wide fence, in a round and outside; what a round of an iterator keeps. -/
import Derived.Test.YtholafodachjnaaZ29
import Derived.RangeFuncNested
import Derived.RangeFuncBound
import Derived.RangeFuncCalls
import Derived.RangeFuncLeaves
import Derived.RangeFuncBox
import Derived.Shelf.Abstract
import Derived.Shelf.RegionOpen
import Derived.WalkKit
import Derived.OwnWalkIn
import Derived.TacticsInMore
import Derived.LoopNIn
import Derived.LoopIn
import Derived.OrdersIn
import Derived.Deep.RegionHeld
namespace Go.Proofs.Ytholafodachjnaa
open Go.RowKit Go.Shelf
set_option linter.unusedVariables false
attribute [local go_sem] Oper.semAt_some

section
variable {P : Program} {ops : Array Oper} {Q : Exit → Act → World → Prop} {S : World → Prop} {l n : Nat} {md : Region.Mode}

/-- An operation that is no defer statement and makes no row goes in a round of the wide fence as anywhere. -/
theorem oper_round {o : Oper} {a : Act} {w : World} {K : Act → World → Prop} (hd : ∀ c, o.op ≠ .defer c) (h : Oper.wp P o a w K Q) : Oper.wpIn (Fence.wide.inRound l) n P o a w K Q := by
  refine ⟨fun f _ => trivial, ?_⟩
  have e : (Fence.wide.inRound l).round = some l := rfl
  rw [e, Oper.semAt_some l _ _ hd]
  unfold Oper.wp at h
  generalize (execOp a.eval o).run P w = r at h ⊢
  cases r with
  | ok x w' =>
    cases x <;> simp only [Oper.upon] at h <;> simp only [Oper.uponIn]
    all_goals first
      | exact h
      | exact ⟨fun h0 => by simp [Fence.inRound, Fence.wide] at h0, CallsIn.inRound l (callsIn_wide.2 h)⟩
      | exact ⟨fun h0 => by simp [Fence.inRound, Fence.wide] at h0, fun c cs _ => let ⟨v, w'', r, s⟩ := h c cs; ⟨v, w'', r, stepsIn_wide.2 s⟩⟩
      | exact h.elim
  | halt x w' => cases x <;> simp only [Oper.upon] at h <;> simp only [Oper.uponIn] <;> first | exact h | exact h.elim
theorem wpOp_round {i : Nat} {a : Act} {w : World} {K K' : Act → World → Prop} (hnl : ¬ LetsOut Q) (hd : ∀ o : Oper, ops[i]? = some o → ∀ c, o.op ≠ .defer c) (hK : ∀ a w, K a w → K' a w) (h : wpOp P ops Q i K a w) : wpOpIn (Fence.wide.inRound l) n P ops Q i K' a w := by
  refine wpOpIn_mono hK ?_
  unfold wpOp at h
  unfold wpOpIn
  split
  · rename_i ho; simpa [ho] using h
  · rename_i o ho
    simp only [ho] at h
    split
    · rename_i hw; simp only [hw, if_true] at h; exact oper_round (hd o ho) (h.resolve_right (fun x => hnl x.2))
    · rename_i hw; simp only [hw] at h; exact ⟨fun f _ => trivial, h⟩
theorem wpAny_round (hnl : ¬ LetsOut Q) (hd : ∀ (i : Nat) (o : Oper), ops[i]? = some o → ∀ c, o.op ≠ .defer c) : ∀ (fuel : Nat) (listed : Array Bool) (a : Act) (w : World), wpAny P md ops Q fuel listed a w → wpAnyIn (Fence.wide.inRound l) n P md ops Q fuel listed a w
  | 0, _, _, _, h => h
  | fuel + 1, listed, a, w, h => ⟨h.1, fun i hi => wpOp_round hnl (fun o ho => hd i o ho) (fun a' w' h' => wpAny_round hnl hd fuel _ a' w' h') (h.2 i hi)⟩
/-- A region that draws its order, in a round of the wide fence, as 'wp_region_held_drew' has it. -/
theorem wpIn_region_round {id : Nat} {a : Act} {w : World} (hm : P.follows .mixedOrders = true) (hnl : ¬ LetsOut Q) (hd : ∀ (i : Nat) (o : Oper), ops[i]? = some o → ∀ c, o.op ≠ .defer c) (hS : S w.drew)
    (h : S w.drew → wpAnyH P .any ops Q S ops.size (Array.replicate ops.size false) a w.drew) : (Code.region id ops true).wpIn (Fence.wide.inRound l) n P Q a w :=
  wpIn_region_any hm (wpAny_round hnl hd _ _ _ _ (wpAny_of_held _ _ _ _ (h hS)))
/-- The same outside of a round. -/
theorem oper_wide {o : Oper} {a : Act} {w : World} {K : Act → World → Prop} (h : Oper.wp P o a w K Q) : Oper.wpIn Fence.wide n P o a w K Q := by
  refine ⟨fun f _ => trivial, ?_⟩
  have e : Fence.wide.round = none := rfl
  rw [e]
  unfold Oper.wp at h
  show Oper.uponIn _ _ _ _ _ _ _ ((execOp a.eval o).run P w)
  generalize (execOp a.eval o).run P w = r at h ⊢
  cases r with
  | ok x w' =>
    cases x <;> simp only [Oper.upon] at h <;> simp only [Oper.uponIn]
    all_goals first
      | exact h
      | exact ⟨fun h0 => by simp [Fence.wide] at h0, callsIn_wide.2 h⟩
      | exact ⟨fun h0 => by simp [Fence.wide] at h0, fun c cs _ => let ⟨v, w'', r, s⟩ := h c cs; ⟨v, w'', r, stepsIn_wide.2 s⟩⟩
      | exact h.elim
  | halt x w' => cases x <;> simp only [Oper.upon] at h <;> simp only [Oper.uponIn] <;> first | exact h | exact h.elim
theorem wpOp_wide {i : Nat} {a : Act} {w : World} {K K' : Act → World → Prop} (hnl : ¬ LetsOut Q) (hK : ∀ a w, K a w → K' a w) (h : wpOp P ops Q i K a w) : wpOpIn Fence.wide n P ops Q i K' a w := by
  refine wpOpIn_mono hK ?_
  unfold wpOp at h
  unfold wpOpIn
  split
  · rename_i ho; simpa [ho] using h
  · rename_i o ho
    simp only [ho] at h
    split
    · rename_i hw; simp only [hw, if_true] at h; exact oper_wide (h.resolve_right (fun x => hnl x.2))
    · rename_i hw; simp only [hw] at h; exact ⟨fun f _ => trivial, h⟩
theorem wpAny_wide (hnl : ¬ LetsOut Q) : ∀ (fuel : Nat) (listed : Array Bool) (a : Act) (w : World), wpAny P md ops Q fuel listed a w → wpAnyIn Fence.wide n P md ops Q fuel listed a w
  | 0, _, _, _, h => h
  | fuel + 1, listed, a, w, h => ⟨h.1, fun i hi => wpOp_wide hnl (fun a' w' h' => wpAny_wide hnl fuel _ a' w' h') (h.2 i hi)⟩
theorem wpIn_region_wide {id : Nat} {a : Act} {w : World} (hm : P.follows .mixedOrders = true) (hnl : ¬ LetsOut Q) (hS : S w.drew)
    (h : S w.drew → wpAnyH P .any ops Q S ops.size (Array.replicate ops.size false) a w.drew) : (Code.region id ops true).wpIn Fence.wide n P Q a w :=
  wpIn_region_any hm (wpAny_wide hnl _ _ _ _ (wpAny_of_held _ _ _ _ (h hS)))
end

/-- What a round keeps: all that lay below n₀, but for one block. -/
structure KpX (n₀ X : Nat) (W W' : World) : Prop where
  os : W'.os = W.os
  tape : W'.tape = W.tape
  output : W'.output = W.output
  size : W.heap.size ≤ W'.heap.size
  block : ∀ k, k < n₀ → k ≠ X → W'.heap[k]? = W.heap[k]?
theorem KpX.refl (n₀ X : Nat) (W : World) : KpX n₀ X W W := ⟨rfl, rfl, rfl, Nat.le_refl _, fun _ _ _ => rfl⟩
theorem KpX.trans {n₀ X : Nat} {A B C : World} (h : KpX n₀ X A B) (k : KpX n₀ X B C) : KpX n₀ X A C := ⟨k.os.trans h.os, k.tape.trans h.tape, k.output.trans h.output, Nat.le_trans h.size k.size, fun i hi hr => (k.block i hi hr).trans (h.block i hi hr)⟩
theorem KpX.cell {n₀ X : Nat} {A B : World} (h : KpX n₀ X A B) {b i : Nat} (hb : b < n₀) (hx : b ≠ X) : B.cell? ⟨b, i, none⟩ = A.cell? ⟨b, i, none⟩ := by
  have := h.block b hb hx
  unfold World.cell?
  rw [this]
theorem KpX.drew {n₀ X : Nat} {A B : World} (h : KpX n₀ X A B) : KpX n₀ X A B.drew := ⟨h.os, h.tape, h.output, h.size, h.block⟩
theorem KpX.below {n₀ X : Nat} {A B : World} (h : Below n₀ A B) : KpX n₀ X A B := ⟨h.os, h.tape, h.output, h.size, fun k hk _ => h.block k hk⟩
theorem KpX.grown {n₀ X : Nat} {A B : World} (h : A.grownBy B (some X)) (hn : n₀ ≤ A.heap.size) : KpX n₀ X A B := ⟨h.os, h.tape, h.output, h.size, fun k hk hx => h.block k (by omega) (by intro e; injection e with e; exact hx e)⟩

/-- What has come when k rounds are over. -/
def upto {α : Type} (f : Nat → α) (k : Nat) : List α := (List.range k).map f
theorem upto_succ {α : Type} (f : Nat → α) (k : Nat) : upto f (k + 1) = upto f k ++ [f k] := by simp [upto, List.range_succ]
theorem upto_length {α : Type} (f : Nat → α) (k : Nat) : (upto f k).length = k := by simp [upto]
end Go.Proofs.Ytholafodachjnaa
