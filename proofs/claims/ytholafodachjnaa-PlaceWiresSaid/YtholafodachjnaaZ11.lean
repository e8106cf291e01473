/- A number modulo another one, from 0 on. -/
import Derived.Test.YtholafodachjnaaZ7
namespace Go.Proofs.Ytholafodachjnaa
open Go.RowKit Go.Shelf
set_option linter.unusedVariables false
set_option linter.unusedSimpArgs false

theorem tmod_cases {x n : Int} (hn : 1 ≤ n) : (0 ≤ x.tmod n ∧ x.tmod n < n ∧ x.tmod n = x % n) ∨ (x.tmod n < 0 ∧ - n < x.tmod n ∧ x.tmod n + n = x % n) := by
  have h1 := Int.emod_nonneg x (by omega : n ≠ 0)
  have h2 := Int.emod_lt_of_pos x (by omega : 0 < n)
  have h3 := Int.tmod_eq_emod (a := x) (b := n)
  have h4 : (n.natAbs : Int) = n := by omega
  rw [h3]
  split
  · left; omega
  · by_cases e : x % n = 0
    · rename_i hd
      exact absurd (Or.inr (Int.dvd_of_emod_eq_zero e)) hd
    · right; omega
set_option maxRecDepth 100000 in
set_option maxHeartbeats 2000000 in
theorem modulo46 (w : World) (x n : Int) (hn : 1 ≤ n) (h9 : n ≤ 100000) : Calls Try.prog 46 #[.int .i64 x, .int .i64 n] w fun e w' => e = .returned (.int .i64 (x % n)) ∧ w = w' := by
  have hc := tmod_cases (x := x) hn
  obtain ⟨r, hr⟩ : ∃ r, r = x.tmod n := ⟨_, rfl⟩
  obtain ⟨q, hq⟩ : ∃ q, q = x % n := ⟨_, rfl⟩
  rw [← hr, ← hq] at hc
  rw [← hq]
  have hn0 : (n == 0) = false := by simp; omega
  have hn0' : ¬ n = 0 := by omega
  have hrw : x.tmod n = r := hr.symm
  clear hr hq
  go_enter Try.func46, Try.ntmps46
  go_wp2_with fail
  all_goals (go_ret; exact ⟨ret_int (by omega), rfl⟩)

set_option maxRecDepth 100000 in
set_option maxHeartbeats 2000000 in
theorem mod47 (w : World) (x n : Int) (hn : 1 ≤ n) (h9 : n ≤ 100000) : Calls Try.prog 47 #[.int .i64 x, .int .i64 n] w fun e w' => e = .returned (.int .i64 (x % n)) ∧ w = w' := by
  have hc := tmod_cases (x := x) hn
  obtain ⟨r, hr⟩ : ∃ r, r = x.tmod n := ⟨_, rfl⟩
  have hrw2 : (r + n).tmod n = x % n := by
    rw [Int.tmod_eq_emod_of_nonneg (by omega), Int.add_emod_right]
    rcases hc with ⟨h1, h2, h3⟩ | ⟨h1, h2, h3⟩
    · rw [hr, h3, Int.emod_emod_of_dvd _ (Int.dvd_refl n)]
    · rw [hr, show x.tmod n = x % n - n by omega, Int.sub_emod_right, Int.emod_emod_of_dvd _ (Int.dvd_refl n)]
  obtain ⟨q, hq⟩ : ∃ q, q = x % n := ⟨_, rfl⟩
  rw [← hr, ← hq] at hc
  rw [← hq] at hrw2 ⊢
  have hn0 : (n == 0) = false := by simp; omega
  have hn0' : ¬ n = 0 := by omega
  have hrw : x.tmod n = r := hr.symm
  clear hr hq
  go_enter Try.func47, Try.ntmps47
  go_wp2_with fail
  all_goals (go_ret; exact ⟨ret_int (by omega), rfl⟩)
end Go.Proofs.Ytholafodachjnaa
