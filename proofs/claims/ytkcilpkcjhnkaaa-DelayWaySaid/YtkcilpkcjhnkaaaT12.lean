import Derived.Test.YtkcilpkcjhnkaaaT11
import Derived.Test.YtkcilpkcjhnkaaaT5
namespace Go.Proofs.Ytkcilpkcjhnkaaa
open Go.RowKit

/-- The chapter's two tables, as 'two' lays them from block B on. -/
def twoN (B : Nat) : NetV := ⟨1, none, 0, [], some ⟨B + 1 + 1 + 1, 0, none⟩, 2, [⟨some ⟨B + 1, 0, none⟩, 1, [1], 1⟩, ⟨some ⟨B + 1 + 1, 0, none⟩, 1, [2], 1⟩], some ⟨B + 1 + 1 + 1 + 1, 0, none⟩, 1, [3]⟩

theorem two (w : World) :
    Calls Try.prog 30 #[] w fun e w' => e = .returned (twoN w.heap.size).val ∧ NetAt w' (twoN w.heap.size) ∧ Below w.heap.size w w' := by
  go_enter Try.func30, Try.ntmps30
  go_wp2
  go_returns
  refine ⟨rfl, ?_, ((((((Below.refl _ _).alloc (Nat.le_refl _) _).alloc (by simp) _).alloc (by simp; omega) _).alloc (by simp; omega) _).alloc (by simp; omega) _)⟩
  refine ⟨by simp [twoN, I64], .inl rfl, .inr ⟨_, 0, rfl, ?_⟩, .inr ⟨_, 0, rfl, ?_⟩, ?_, by simp [twoN], by simp [twoN, I64], by simp [twoN], by simp [twoN], by simp [twoN]⟩
  · intro i hi
    simp only [twoN, List.length_cons, List.length_nil] at hi
    have h : i = 0 ∨ i = 1 ∨ i = 2 ∨ i = 3 := by omega
    rcases h with rfl | rfl | rfl | rfl <;> simp [go_sem, lutCell, twoN]
  · intro i hi
    simp only [twoN, List.length_cons, List.length_nil] at hi
    obtain rfl : i = 0 := by omega
    simp [go_sem, ints, twoN]
  · intro l hl
    simp only [twoN, List.mem_cons, List.not_mem_nil, or_false] at hl
    rcases hl with rfl | rfl
    · refine ⟨.inr ⟨_, 0, rfl, fun i hi => ?_⟩, by simp [U64], by simp [I64], by simp⟩
      obtain rfl : i = 0 := by simp at hi; exact hi
      simp [go_sem, ints]
    · refine ⟨.inr ⟨_, 0, rfl, fun i hi => ?_⟩, by simp [U64], by simp [I64], by simp⟩
      obtain rfl : i = 0 := by simp at hi; exact hi
      simp [go_sem, ints]

theorem twoN_few (B : Nat) : Few (twoN B) :=
  ⟨by simp [twoN], by simp [twoN], by simp [twoN], by simp [twoN], by simp [twoN]⟩

theorem twoN_ok (B : Nat) : NetOk (twoN B) 6 := by
  refine ⟨by simp [twoN], ?_, by simp [twoN], by simp [twoN]⟩
  intro i hi
  simp only [twoN, List.length_cons, List.length_nil] at hi
  have h : i = 0 ∨ i = 1 := by omega
  rcases h with rfl | rfl <;> exact ⟨by simp [twoN], by simp [twoN, rowsN], by simp [twoN]⟩

theorem twoN_cost (B : Nat) : CostOk (twoN B) [3, 4] := ⟨twoN_ok B, by simp [twoN], by simp⟩

theorem twoN_arr (B : Nat) : arrL (twoN B) [3, 4] = [0, 0, 3, 7] := by rfl

set_option maxHeartbeats 1000000 in
theorem live (w : World) : Calls Try.prog 13 #[] w fun e w' => e = .returned (.bool true) ∧ Below w.heap.size w w' := by
  go_enter Try.func13, Try.ntmps13
  go_wp2_with fail
  refine (two _).mono ?_
  rintro e w1 ⟨rfl, hN, hb1⟩
  have HN := Lib.hid hN
  have HB1 := Lib.hid hb1
  clear hN hb1
  go_wp2_with fail
  have hA := arrive_ok (w1.alloc (Obj.cells #[Value.int IntKind.i64 3, Value.int IntKind.i64 4] 3)) (twoN w.heap.size) (HN.out.below ((Below.refl _ _).alloc (Nat.le_refl _) _) (Nat.le_refl _)) (twoN_few _)
    (some ⟨w1.heap.size, 0, none⟩) 2 2 [3, 4] rfl (by omega) (.inr ⟨_, 0, rfl, fun i hi => by
      have h : i = 0 ∨ i = 1 := by omega
      rcases h with rfl | rfl <;> simp [go_sem, ints]⟩) (twoN_cost _)
  refine hA.mono ?_
  rintro e w2 ⟨v, rfl, hown, hb2⟩
  rw [twoN_arr] at hown
  obtain ⟨a, cap, rfl, hS, _, _⟩ := owns_seq hown
  have HB2 := Lib.hid (HB1.out.trans (((Below.refl (w1.heap.size) w1).alloc (Nat.le_refl _) _).trans (hb2.mono (by simp)) |>.mono HB1.out.size))
  have HS := Lib.hid hS
  clear hA hown hb2 hS
  go_wp2_with fail
  have hC := sameInts (w2.alloc (Obj.cells #[Value.int IntKind.i64 0, Value.int IntKind.i64 0, Value.int IntKind.i64 3, Value.int IntKind.i64 7] 3)) a (some ⟨w2.heap.size, 0, none⟩) 4 cap 4 4 [0, 0, 3, 7] [0, 0, 3, 7] rfl rfl (by omega) (by omega)
    (HS.out.below ((Below.refl _ _).alloc (Nat.le_refl _) _) (Nat.le_refl _)) (.inr ⟨_, 0, rfl, fun i hi => by
      have h : i = 0 ∨ i = 1 ∨ i = 2 ∨ i = 3 := by omega
      rcases h with rfl | rfl | rfl | rfl <;> simp [go_sem, ints]⟩)
  refine hC.mono ?_
  rintro e w3 ⟨rfl, hb3⟩
  go_wp2
  go_ret
  exact ⟨ret_bool (by simp), HB2.out.trans (((Below.refl (w2.heap.size) w2).alloc (Nat.le_refl _) _).trans (hb3.mono (by simp)) |>.mono HB2.out.size)⟩
end Go.Proofs.Ytkcilpkcjhnkaaa
