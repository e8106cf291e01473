import Derived.Test.YtkcilpkcjhnkaaaT3
namespace Go.Proofs.Ytkcilpkcjhnkaaa
open Go.RowKit

theorem first (w : World) (N : NetV) (h1 : I64 N.ins) (h2 : N.ins ≤ 100) (h3 : N.holds.length ≤ 100) :
    Calls Try.prog 33 #[N.val] w fun e w' => e = .returned (.int .i64 (1 + N.ins + N.holds.length)) ∧ Below w.heap.size w w' := by
  obtain ⟨h1, _⟩ := h1
  go_enter Try.func33, Try.ntmps33
  go_wp2
  go_ret
  exact ⟨rfl, (Below.refl _ _).alloc (Nat.le_refl _) _⟩

theorem firstR (w : World) (N : NetV) (h1 : I64 N.ins) (h2 : N.ins ≤ 100) (h3 : N.holds.length ≤ 100) :
    Calls Try.prog 35 #[N.val] w fun e w' => e = .returned (.int .i64 (1 + N.ins + N.holds.length)) ∧ Below w.heap.size w w' := by
  obtain ⟨h1, _⟩ := h1
  go_enter Try.func35, Try.ntmps35
  go_wp2
  go_ret
  exact ⟨rfl, (Below.refl _ _).alloc (Nat.le_refl _) _⟩

theorem count25 (w : World) (N : NetV) (h1 : I64 N.ins) (h2 : N.ins ≤ 100) (h3 : N.holds.length ≤ 100) (h4 : N.luts.length ≤ 200) :
    Calls Try.prog 66 #[N.val] w fun e w' => e = .returned (.int .i64 (1 + N.ins + N.holds.length + N.luts.length)) ∧ Below w.heap.size w w' := by
  obtain ⟨h1, _⟩ := h1
  go_enter Try.func66, Try.ntmps66
  go_wp2
  go_ret
  exact ⟨rfl, (Below.refl _ _).alloc (Nat.le_refl _) _⟩

theorem bad (w : World) (x : Int) :
    Calls Try.prog 31 #[.int .i64 x] w fun e w' => e = .returned (.bool (!(decide (0 ≤ x) && decide (x ≤ 1048576)))) ∧ w = w' := by
  by_cases h0 : 0 ≤ x
  · go_enter Try.func31, Try.ntmps31
    go_wp2
    go_ret
    exact ⟨ret_bool (by rw [Bool.eq_iff_iff]; simp <;> omega), rfl⟩
  · go_enter Try.func31, Try.ntmps31
    go_wp2
    go_ret
    exact ⟨ret_bool (by rw [Bool.eq_iff_iff]; simp <;> omega), rfl⟩

theorem rows25 (w : World) (n : Nat) (hn : n ≤ 20) :
    Calls Try.prog 71 #[.int .i64 (n : Int)] w fun e w' => e = .returned (.int .u64 (rowsN n : Nat)) ∧ w = w' := by
  have hc : n = 0 ∨ n = 1 ∨ n = 2 ∨ n = 3 ∨ n = 4 ∨ n = 5 ∨ 6 ≤ n := by omega
  rcases hc with rfl | rfl | rfl | rfl | rfl | rfl | h6
  case inr.inr.inr.inr.inr.inr =>
    have e : rowsN n = 18446744073709551615 := by unfold rowsN; rw [show min n 6 = 6 by omega]
    have E := Lib.hid e
    clear e
    go_enter Try.func71, Try.ntmps71
    go_wp2
    go_ret
    exact ⟨ret_int (by rw [E.out]; rfl), rfl⟩
  all_goals
    go_enter Try.func71, Try.ntmps71
    go_wp2
    go_ret
    exact ⟨rfl, rfl⟩

/-- few -/
theorem few (w : World) (N : NetV) (h : NetAt w N) (a : Option Addr) (n c : Nat) (hn : n ≤ 9223372036854775807) :
    Calls Try.prog 14 #[N.val, .slice a n c] w fun e w' => e = .returned (.bool (fewB N && decide (n ≤ 300))) ∧ Below w.heap.size w w' := by
  have HB : Below w.heap.size w (w.alloc (Obj.cells #[Value.int IntKind.i64 N.ins, Value.slice N.ha N.holds.length N.hc, Value.slice N.la N.luts.length N.lc, Value.slice N.oa N.outs.length N.oc] 26)) := (Below.refl _ _).alloc (Nat.le_refl _) _
  have C := fewNet _ N (h.below HB (Nat.le_refl _))
  obtain ⟨b, hb⟩ : ∃ b, b = fewB N := ⟨_, rfl⟩
  rw [← hb] at C ⊢
  have HC := Lib.hid C
  have HBB := Lib.hid HB
  clear C HB hb
  go_enter Try.func14, Try.ntmps14
  go_wp2_with fail
  refine HC.out.mono ?_
  rintro e w1 ⟨rfl, hb1⟩
  cases b
  · go_wp2
    go_ret
    exact ⟨ret_bool (by simp), HBB.out.trans (hb1.mono (by simp))⟩
  · go_wp2
    go_ret
    exact ⟨ret_bool (by simp; omega), HBB.out.trans (hb1.mono (by simp))⟩

end Go.Proofs.Ytkcilpkcjhnkaaa
