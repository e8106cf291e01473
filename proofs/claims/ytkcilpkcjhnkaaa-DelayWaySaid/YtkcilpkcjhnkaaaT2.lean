import Derived.Test.YtkcilpkcjhnkaaaT1
import Derived.Test.YtkcilpkcjhnkaaaP1
namespace Go.Proofs.Ytkcilpkcjhnkaaa
open Go.RowKit


theorem rows (w : World) (n : Nat) (hn : n ≤ 20) :
    Calls Try.prog 56 #[.int .i64 (n : Int)] w fun e w' => e = .returned (.int .u64 (rowsN n : Nat)) ∧ w = w' := by
  have hc : n = 0 ∨ n = 1 ∨ n = 2 ∨ n = 3 ∨ n = 4 ∨ n = 5 ∨ n = 6 ∨ 7 ≤ n := by omega
  rcases hc with rfl | rfl | rfl | rfl | rfl | rfl | rfl | h6
  case inr.inr.inr.inr.inr.inr.inr =>
    have e : rowsN n = 18446744073709551615 := by unfold rowsN; rw [show min n 6 = 6 by omega]
    have E := Lib.hid e
    clear e
    go_enter Try.func56, Try.ntmps56
    go_wp2
    go_ret
    exact ⟨ret_int (by rw [E.out]; rfl), rfl⟩
  all_goals
    go_enter Try.func56, Try.ntmps56
    go_wp2
    go_ret
    exact ⟨rfl, rfl⟩

/-- node(x) -/
theorem node (w : World) (x at_ : Int) (B : Nat) (hc : w.cell? ⟨B, 0, none⟩ = some (.int .i64 at_)) :
    Calls Try.prog 55 #[.int .i64 x, .pointer (some ⟨B, 0, none⟩)] w fun e w' => e = .returned (.bool (decide (0 ≤ x) && decide (x < at_))) ∧ w = w' := by
  by_cases h0 : 0 ≤ x
  · go_enter Try.func55, Try.ntmps55
    go_wp2
    go_ret
    exact ⟨ret_bool (by simp [h0]), rfl⟩
  · go_enter Try.func55, Try.ntmps55
    go_wp2
    go_ret
    exact ⟨ret_bool (by simp; omega), rfl⟩

/-- !node(x) -/
theorem notNode (w : World) (x at_ : Int) (B C : Nat) (hc : w.cell? ⟨B, 0, none⟩ = some (.int .i64 at_)) (hf : w.cell? ⟨C, 0, none⟩ = some (.func (.func 55) #[] #[.pointer (some ⟨B, 0, none⟩)])) :
    Calls Try.prog 57 #[.int .i64 x, .pointer (some ⟨C, 0, none⟩)] w fun e w' => e = .returned (.bool (!(decide (0 ≤ x) && decide (x < at_)))) ∧ w = w' := by
  have N := Lib.hid (node w x at_ B hc)
  go_enter Try.func57, Try.ntmps57
  go_wp2_with fail
  refine N.out.mono ?_
  rintro e w1 ⟨rfl, rfl⟩
  go_wp2
  go_ret
  exact ⟨ret_bool (by simp), rfl⟩

theorem notNode3 (w : World) (x at_ : Int) (B C : Nat) (hc : w.cell? ⟨B, 0, none⟩ = some (.int .i64 at_)) (hf : w.cell? ⟨C, 0, none⟩ = some (.func (.func 55) #[] #[.pointer (some ⟨B, 0, none⟩)])) :
    Calls Try.prog 58 #[.int .i64 x, .pointer (some ⟨C, 0, none⟩)] w fun e w' => e = .returned (.bool (!(decide (0 ≤ x) && decide (x < at_)))) ∧ w = w' := by
  have N := Lib.hid (node w x at_ B hc)
  go_enter Try.func58, Try.ntmps58
  go_wp2_with fail
  refine N.out.mono ?_
  rintro e w1 ⟨rfl, rfl⟩
  go_wp2
  go_ret
  exact ⟨ret_bool (by simp), rfl⟩

theorem notHold (w : World) (x : HoldV) (at_ : Int) (B C : Nat) (hc : w.cell? ⟨B, 0, none⟩ = some (.int .i64 at_)) (hf : w.cell? ⟨C, 0, none⟩ = some (.func (.func 55) #[] #[.pointer (some ⟨B, 0, none⟩)])) :
    Calls Try.prog 60 #[.agg #[.int .i64 x.d, .bool x.init], .pointer (some ⟨C, 0, none⟩)] w fun e w' => e = .returned (.bool (!(decide (0 ≤ x.d) && decide (x.d < at_)))) ∧ Below w.heap.size w w' := by
  have N := Lib.hid (fun W hB => node W x.d at_ B hB)
  have hCl : C < w.heap.size := World.block_lt_of_cell? w _ hf
  go_enter Try.func60, Try.ntmps60
  go_wp2_with fail
  refine (N.out _ (cell_alloc _ hc)).mono ?_
  rintro e w1 ⟨rfl, rfl⟩
  go_wp2
  go_ret
  exact ⟨ret_bool (by simp), (Below.refl _ _).alloc (Nat.le_refl _) _⟩
end Go.Proofs.Ytkcilpkcjhnkaaa
