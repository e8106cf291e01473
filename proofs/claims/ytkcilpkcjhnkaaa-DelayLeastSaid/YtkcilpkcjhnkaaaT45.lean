import Derived.Test.YtkcilpkcjhnkaaaT42
import Derived.Test.YtkcilpkcjhnkaaaT39
namespace Go.Proofs.Ytkcilpkcjhnkaaa
open Go.RowKit
set_option linter.unusedVariables false
set_option linter.unusedSimpArgs false
attribute [local go_sem] Oper.semAt_some

set_option maxRecDepth 100000 in
set_option maxHeartbeats 4000000 in
theorem slack_bad (w : World) (N : NetV) (h : NetAt w N) (f : Few N) (a : Option Addr) (n c : Nat) (cost : List Int) (hlen : cost.length = n) (hn : n ≤ 300) (S : Seq w a n (ints cost)) (ok : ¬ CostOk N cost) (till : Int) :
    Calls Try.prog 21 #[N.val, .slice a n c, .int .i64 till] w (NewInts w [] 1) := by
  have C := fun W (hW : Below w.heap.size w W) => arrive W N (h.below hW (Nat.le_refl _)) f a n c cost hlen hn (S.below hW (Nat.le_refl _))
  rw [arrO, if_neg ok, arrE, if_neg ok] at C
  have HC := Lib.hid C
  clear C h f S ok
  have hb0 : Below w.heap.size w (((w.alloc N.obj).alloc (Obj.cells #[Value.slice a n c] 24)).alloc (Obj.cells #[Value.int .i64 till] 3)) := (((Below.refl _ _).alloc (Nat.le_refl _) _).alloc (by simp) _).alloc (by simp; omega) _
  have e5 : (((w.alloc N.obj).alloc (Obj.cells #[Value.slice a n c] 24)).alloc (Obj.cells #[Value.int .i64 till] 3)).cell? ⟨w.heap.size + 1 + 1, 0, none⟩ = some (.int .i64 till) := by
    have h5 := cell_newW ((w.alloc N.obj).alloc (Obj.cells #[Value.slice a n c] 24)) (.int .i64 till) 3
    rwa [show ((w.alloc N.obj).alloc (Obj.cells #[Value.slice a n c] 24)).heap.size = w.heap.size + 1 + 1 by simp] at h5
  have HB0 := Lib.hid hb0
  have HE5 := Lib.hid e5
  clear hb0 e5
  refine (callsIn_wide (n := 5)).1 ?_
  refine callsIn_of_wp_marks Try.func21 rfl trivial ?_ rfl
  simp only [Try.ntmps21, List.size_toArray, List.length_cons, List.length_nil, Nat.reduceAdd, Nat.reduceSub, Array.replicate_succ, Array.replicate_zero, List.push_toArray, List.append_toArray, List.nil_append, List.cons_append]
  gi_wp2_with fail
  refine ⟨trivial, ?_⟩
  refine (callsIn_wide.2 (HC.out _ HB0.out)).mono ?_
  rintro e w1 ⟨v, rfl, hown, hb1⟩
  have HB2 := Lib.hid (HB0.out.trans (hb1.mono (by simp; omega)))
  have q5 := (hb1.cell (p := ⟨_, _, none⟩) (by simp)).trans HE5.out
  clear hb1 hown
  gi_wp2
  exact ⟨_, results_tmp2 rfl _ _ _, _, rfl, World.ownsRow_nil _ _ _ _, HB2.out⟩

set_option maxRecDepth 100000 in
set_option maxHeartbeats 4000000 in
theorem slack_far (w : World) (N : NetV) (h : NetAt w N) (f : Few N) (a : Option Addr) (n c : Nat) (cost : List Int) (hlen : cost.length = n) (hn : n ≤ 300) (S : Seq w a n (ints cost)) (ok : CostOk N cost) (till : Int) (ht : ¬ (-1099511627776 ≤ till ∧ till ≤ 1099511627776)) :
    Calls Try.prog 21 #[N.val, .slice a n c, .int .i64 till] w (NewInts w [] 1) := by
  have C := fun W (hW : Below w.heap.size w W) => arrive W N (h.below hW (Nat.le_refl _)) f a n c cost hlen hn (S.below hW (Nat.le_refl _))
  rw [arrO, if_pos ok, arrE, if_pos ok] at C
  have HC := Lib.hid C
  clear C h f S ok
  have hb0 : Below w.heap.size w (((w.alloc N.obj).alloc (Obj.cells #[Value.slice a n c] 24)).alloc (Obj.cells #[Value.int .i64 till] 3)) := (((Below.refl _ _).alloc (Nat.le_refl _) _).alloc (by simp) _).alloc (by simp; omega) _
  have e5 : (((w.alloc N.obj).alloc (Obj.cells #[Value.slice a n c] 24)).alloc (Obj.cells #[Value.int .i64 till] 3)).cell? ⟨w.heap.size + 1 + 1, 0, none⟩ = some (.int .i64 till) := by
    have h5 := cell_newW ((w.alloc N.obj).alloc (Obj.cells #[Value.slice a n c] 24)) (.int .i64 till) 3
    rwa [show ((w.alloc N.obj).alloc (Obj.cells #[Value.slice a n c] 24)).heap.size = w.heap.size + 1 + 1 by simp] at h5
  have HB0 := Lib.hid hb0
  have HE5 := Lib.hid e5
  clear hb0 e5
  by_cases h1 : till < -1099511627776
  · clear ht
    refine (callsIn_wide (n := 5)).1 ?_
    refine callsIn_of_wp_marks Try.func21 rfl trivial ?_ rfl
    simp only [Try.ntmps21, List.size_toArray, List.length_cons, List.length_nil, Nat.reduceAdd, Nat.reduceSub, Array.replicate_succ, Array.replicate_zero, List.push_toArray, List.append_toArray, List.nil_append, List.cons_append]
    gi_wp2_with fail
    refine ⟨trivial, ?_⟩
    refine (callsIn_wide.2 (HC.out _ HB0.out)).mono ?_
    rintro e w1 ⟨v, rfl, hown, hb1⟩
    have HB2 := Lib.hid (HB0.out.trans (hb1.mono (by simp; omega)))
    have q5 := (hb1.cell (p := ⟨_, _, none⟩) (by simp)).trans HE5.out
    clear hb1 hown
    gi_wp2
    exact ⟨_, results_tmp2 rfl _ _ _, _, rfl, World.ownsRow_nil _ _ _ _, HB2.out⟩
  · have h2 : 1099511627776 < till := by omega
    clear ht
    refine (callsIn_wide (n := 5)).1 ?_
    refine callsIn_of_wp_marks Try.func21 rfl trivial ?_ rfl
    simp only [Try.ntmps21, List.size_toArray, List.length_cons, List.length_nil, Nat.reduceAdd, Nat.reduceSub, Array.replicate_succ, Array.replicate_zero, List.push_toArray, List.append_toArray, List.nil_append, List.cons_append]
    gi_wp2_with fail
    refine ⟨trivial, ?_⟩
    refine (callsIn_wide.2 (HC.out _ HB0.out)).mono ?_
    rintro e w1 ⟨v, rfl, hown, hb1⟩
    have HB2 := Lib.hid (HB0.out.trans (hb1.mono (by simp; omega)))
    have q5 := (hb1.cell (p := ⟨_, _, none⟩) (by simp)).trans HE5.out
    clear hb1 hown
    gi_wp2
    exact ⟨_, results_tmp2 rfl _ _ _, _, rfl, World.ownsRow_nil _ _ _ _, HB2.out⟩

theorem slack (w : World) (N : NetV) (h : NetAt w N) (f : Few N) (a : Option Addr) (n c : Nat) (cost : List Int) (hlen : cost.length = n) (hn : n ≤ 300) (S : Seq w a n (ints cost)) (till : Int) :
    Calls Try.prog 21 #[N.val, .slice a n c, .int .i64 till] w (NewInts w (slackO N cost till) (slackE N cost till)) := by
  by_cases ok : SlackOk N cost till
  · rw [slackO, if_pos ok, slackE, if_pos ok]; exact slack_ok w N h f a n c cost hlen hn S ok.1 till ok.2
  · rw [slackO, if_neg ok, slackE, if_neg ok]
    by_cases hc : CostOk N cost
    · exact slack_far w N h f a n c cost hlen hn S hc till (fun h => ok ⟨hc, h⟩)
    · exact slack_bad w N h f a n c cost hlen hn S hc till

theorem slackO_length (N : NetV) (cost : List Int) (till : Int) (f : Few N) : (slackO N cost till).length ≤ 401 := by
  unfold slackO
  split
  · have h1 := f.ins
    have h2 := f.holds
    have h3 := f.luts
    rw [slackL_length, firstN]; omega
  · simp
end Go.Proofs.Ytkcilpkcjhnkaaa
