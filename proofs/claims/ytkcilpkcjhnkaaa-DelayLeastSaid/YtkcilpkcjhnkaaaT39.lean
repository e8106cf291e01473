import Derived.Test.YtkcilpkcjhnkaaaT38
namespace Go.Proofs.Ytkcilpkcjhnkaaa
open Go.RowKit
set_option linter.unusedVariables false
set_option linter.unusedSimpArgs false

set_option maxRecDepth 100000 in
set_option maxHeartbeats 4000000 in
theorem slackR_bad (w : World) (N : NetV) (h : NetAt w N) (f : Few N) (a : Option Addr) (n c : Nat) (cost : List Int) (hlen : cost.length = n) (hn : n ≤ 300) (S : Seq w a n (ints cost)) (ok : ¬ CostOk N cost) (till : Int) :
    Calls Try.prog 22 #[N.val, .slice a n c, .int .i64 till] w (NewInts w [] 1) := by
  have HBX := Lib.hid (Box.start w N)
  have C := fun W (hW : Below w.heap.size w W) => arriveR W N (h.below hW (Nat.le_refl _)) f a n c cost hlen hn (S.below hW (Nat.le_refl _))
  rw [arrO, if_neg ok, arrE, if_neg ok] at C
  have HC := Lib.hid C
  clear C h f S ok
  go_enter Try.func22, Try.ntmps22
  go_wp2_with fail
  refine (HC.out _ HBX.out.below).mono ?_
  rintro e w1 ⟨v, rfl, hown, hb1⟩
  have HB2 := Lib.hid (HBX.out.step hb1 HBX.out.size)
  clear hb1 hown
  go_wp2
  go_ret2
  exact ⟨_, rfl, World.ownsRow_nil _ _ _ _, HB2.out.below⟩

set_option maxRecDepth 100000 in
set_option maxHeartbeats 4000000 in
theorem slackR_far (w : World) (N : NetV) (h : NetAt w N) (f : Few N) (a : Option Addr) (n c : Nat) (cost : List Int) (hlen : cost.length = n) (hn : n ≤ 300) (S : Seq w a n (ints cost)) (ok : CostOk N cost) (till : Int) (ht : ¬ (-1099511627776 ≤ till ∧ till ≤ 1099511627776)) :
    Calls Try.prog 22 #[N.val, .slice a n c, .int .i64 till] w (NewInts w [] 1) := by
  have HBX := Lib.hid (Box.start w N)
  have C := fun W (hW : Below w.heap.size w W) => arriveR W N (h.below hW (Nat.le_refl _)) f a n c cost hlen hn (S.below hW (Nat.le_refl _))
  rw [arrO, if_pos ok, arrE, if_pos ok] at C
  have HC := Lib.hid C
  clear C h f S ok
  by_cases h1 : till < -1099511627776
  · clear ht
    go_enter Try.func22, Try.ntmps22
    go_wp2_with fail
    refine (HC.out _ HBX.out.below).mono ?_
    rintro e w1 ⟨v, rfl, hown, hb1⟩
    have HB2 := Lib.hid (HBX.out.step hb1 HBX.out.size)
    clear hb1 hown
    go_wp2
    go_ret2
    exact ⟨_, rfl, World.ownsRow_nil _ _ _ _, HB2.out.below⟩
  · have h2 : 1099511627776 < till := by omega
    clear ht
    go_enter Try.func22, Try.ntmps22
    go_wp2_with fail
    refine (HC.out _ HBX.out.below).mono ?_
    rintro e w1 ⟨v, rfl, hown, hb1⟩
    have HB2 := Lib.hid (HBX.out.step hb1 HBX.out.size)
    clear hb1 hown
    go_wp2
    go_ret2
    exact ⟨_, rfl, World.ownsRow_nil _ _ _ _, HB2.out.below⟩

/-- Whether Slack tells anything. -/
def SlackOk (N : NetV) (cost : List Int) (till : Int) : Prop := CostOk N cost ∧ -1099511627776 ≤ till ∧ till ≤ 1099511627776
open Classical in
noncomputable def slackO (N : NetV) (cost : List Int) (till : Int) : List Int := if SlackOk N cost till then slackL N cost (arrL N cost) till else []
open Classical in
noncomputable def slackE (N : NetV) (cost : List Int) (till : Int) : Int := if SlackOk N cost till then 0 else 1

theorem slackR (w : World) (N : NetV) (h : NetAt w N) (f : Few N) (a : Option Addr) (n c : Nat) (cost : List Int) (hlen : cost.length = n) (hn : n ≤ 300) (S : Seq w a n (ints cost)) (till : Int) :
    Calls Try.prog 22 #[N.val, .slice a n c, .int .i64 till] w (NewInts w (slackO N cost till) (slackE N cost till)) := by
  by_cases ok : SlackOk N cost till
  · rw [slackO, if_pos ok, slackE, if_pos ok]; exact slackR_ok w N h f a n c cost hlen hn S ok.1 till ok.2
  · rw [slackO, if_neg ok, slackE, if_neg ok]
    by_cases hc : CostOk N cost
    · exact slackR_far w N h f a n c cost hlen hn S hc till (fun h => ok ⟨hc, h⟩)
    · exact slackR_bad w N h f a n c cost hlen hn S hc till
end Go.Proofs.Ytkcilpkcjhnkaaa
