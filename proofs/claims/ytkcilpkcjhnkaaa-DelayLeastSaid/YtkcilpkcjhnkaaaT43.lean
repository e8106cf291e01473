import Derived.Test.YtkcilpkcjhnkaaaT41
import Derived.OrdersIn
import Derived.Deep.RegionHeld
namespace Go.Proofs.Ytkcilpkcjhnkaaa
open Go.RowKit Go.Shelf Go.Maps
set_option linter.unusedVariables false

section
variable {P : Program} {ops : Array Oper} {Q : Exit → Act → World → Prop} {S : World → Prop} {l n : Nat} {md : Region.Mode}

/-- An operation that is no defer statement and makes no row goes in a round of the wide fence as anywhere. -/
theorem oper_round {o : Oper} {a : Act} {w : World} {K : Act → World → Prop} (hd : ∀ c, o.op ≠ .defer c) (h : Oper.wp P o a w K Q) : Oper.wpIn (Fence.wide.inRound l) n P o a w K Q := by
  refine ⟨fun f _ => trivial, ?_⟩
  have e : (Fence.wide.inRound l).round = some l := rfl
  rw [e, Oper.semAt_some l _ _ hd]
  unfold Oper.wp at h
  generalize (execOp a.eval o).run P w = r at h ⊢
  cases r with
  | ok x w' =>
    cases x <;> simp only [Oper.upon] at h <;> simp only [Oper.uponIn]
    all_goals first
      | exact h
      | exact ⟨fun h0 => by simp [Fence.inRound, Fence.wide] at h0, CallsIn.inRound l (callsIn_wide.2 h)⟩
      | exact ⟨fun h0 => by simp [Fence.inRound, Fence.wide] at h0, fun c cs _ => let ⟨v, w'', r, s⟩ := h c cs; ⟨v, w'', r, stepsIn_wide.2 s⟩⟩
      | exact h.elim
  | halt x w' => cases x <;> simp only [Oper.upon] at h <;> simp only [Oper.uponIn] <;> first | exact h | exact h.elim

theorem wpOp_round {i : Nat} {a : Act} {w : World} {K K' : Act → World → Prop} (hnl : ¬ LetsOut Q) (hd : ∀ o : Oper, ops[i]? = some o → ∀ c, o.op ≠ .defer c) (hK : ∀ a w, K a w → K' a w) (h : wpOp P ops Q i K a w) : wpOpIn (Fence.wide.inRound l) n P ops Q i K' a w := by
  refine wpOpIn_mono hK ?_
  unfold wpOp at h
  unfold wpOpIn
  split
  · rename_i ho; simpa [ho] using h
  · rename_i o ho
    simp only [ho] at h
    split
    · rename_i hw; simp only [hw, if_true] at h; exact oper_round (hd o ho) (h.resolve_right (fun x => hnl x.2))
    · rename_i hw; simp only [hw] at h; exact ⟨fun f _ => trivial, h⟩

theorem wpAny_round (hnl : ¬ LetsOut Q) (hd : ∀ (i : Nat) (o : Oper), ops[i]? = some o → ∀ c, o.op ≠ .defer c) : ∀ (fuel : Nat) (listed : Array Bool) (a : Act) (w : World), wpAny P md ops Q fuel listed a w → wpAnyIn (Fence.wide.inRound l) n P md ops Q fuel listed a w
  | 0, _, _, _, h => h
  | fuel + 1, listed, a, w, h => ⟨h.1, fun i hi => wpOp_round hnl (fun o ho => hd i o ho) (fun a' w' h' => wpAny_round hnl hd fuel _ a' w' h') (h.2 i hi)⟩

/-- A region that draws its order, in a round of the wide fence, as 'wp_region_held_drew' has it. -/
theorem wpIn_region_round {id : Nat} {a : Act} {w : World} (hm : P.follows .mixedOrders = true) (hnl : ¬ LetsOut Q) (hd : ∀ (i : Nat) (o : Oper), ops[i]? = some o → ∀ c, o.op ≠ .defer c) (hS : S w.drew)
    (h : S w.drew → wpAnyH P .any ops Q S ops.size (Array.replicate ops.size false) a w.drew) : (Code.region id ops true).wpIn (Fence.wide.inRound l) n P Q a w :=
  wpIn_region_any hm (wpAny_round hnl hd _ _ _ _ (wpAny_of_held _ _ _ _ (h hS)))
end
end Go.Proofs.Ytkcilpkcjhnkaaa
