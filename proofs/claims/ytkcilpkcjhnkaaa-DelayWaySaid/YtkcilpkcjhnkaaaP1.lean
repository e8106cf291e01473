import Derived.Test.YtkcilpkcjhnkaaaBase
import Derived.Deep.QuietTactic
namespace Go.Proofs.Ytkcilpkcjhnkaaa
open Go.RowKit

/-- The bits that a table of so many inputs may have. -/
def rowsN (n : Nat) : Nat := 2 ^ (2 ^ (min n 6)) - 1

theorem and_compl (t m : Nat) (ht : t < 18446744073709551616) (hm : m ≤ 64) : t &&& (18446744073709551615 - (2 ^ m - 1)) = 0 ↔ t ≤ 2 ^ m - 1 := by
  have hp : 0 < 2 ^ m := Nat.two_pow_pos m
  have hle : 2 ^ m ≤ 2 ^ 64 := Nat.pow_le_pow_right (by omega) hm
  have e : 18446744073709551615 - (2 ^ m - 1) = 2 ^ 64 - ((2 ^ m - 1) + 1) := by
    have : (2 : Nat) ^ 64 = 18446744073709551616 := by rfl
    omega
  have hb : ∀ i, (2 ^ 64 - ((2 ^ m - 1) + 1)).testBit i = (decide (i < 64) && !decide (i < m)) := by
    intro i
    rw [Nat.testBit_two_pow_sub_succ (by omega), Nat.testBit_two_pow_sub_one]
  rw [e]
  constructor
  · intro h
    have : t < 2 ^ m := by
      apply Nat.lt_pow_two_of_testBit
      intro i hi
      by_cases h64 : i < 64
      · have h0 : (t &&& (2 ^ 64 - ((2 ^ m - 1) + 1))).testBit i = false := by rw [h]; simp
        rw [Nat.testBit_and, hb i] at h0
        simpa [h64, show ¬ i < m by omega] using h0
      · exact Nat.testBit_lt_two_pow (Nat.lt_of_lt_of_le (show t < 2 ^ 64 by omega) (Nat.pow_le_pow_right (by omega) (by omega)))
    omega
  · intro h
    apply Nat.eq_of_testBit_eq
    intro i
    rw [Nat.testBit_and, hb i]
    by_cases hi : i < m
    · simp [hi]
    · have : t.testBit i = false := Nat.testBit_lt_two_pow (Nat.lt_of_lt_of_le (show t < 2 ^ m by omega) (Nat.pow_le_pow_right (by omega) (by omega)))
      simp [this]

theorem two_pow_min (n : Nat) : 2 ^ (min n 6) ≤ 64 := by
  have : (2 : Nat) ^ (min n 6) ≤ 2 ^ 6 := Nat.pow_le_pow_right (by omega) (by omega)
  simpa using this

theorem rowsN_lt (n : Nat) : rowsN n < 18446744073709551616 := by
  have h := two_pow_min n
  have : (2 : Nat) ^ (2 ^ (min n 6)) ≤ 2 ^ 64 := Nat.pow_le_pow_right (by omega) h
  have e : (2 : Nat) ^ 64 = 18446744073709551616 := by rfl
  unfold rowsN
  omega

theorem tab_bad (t : Int) (n : Nat) (h : U64 t) : (bits .andNot .u64 t (rowsN n : Nat) != 0) = !decide (t ≤ rowsN n) := by
  obtain ⟨h0, h1⟩ := h
  obtain ⟨m, rfl⟩ := Int.eq_ofNat_of_zero_le h0
  have hr := rowsN_lt n
  rw [u64_andNot_nat m (rowsN n) (by omega) hr]
  have := and_compl m (2 ^ (min n 6)) (by omega) (two_pow_min n)
  rw [show 2 ^ 2 ^ min n 6 - 1 = rowsN n from rfl] at this
  by_cases hle : m ≤ rowsN n
  · have h2 := this.2 hle
    rw [h2]
    simp only [Int.natCast_zero, bne_self_eq_false]
    simp; omega
  · have h2 := fun h => hle (this.1 h)
    have h4 : ¬ ((m : Int) ≤ (rowsN n : Nat)) := by omega
    rw [decide_eq_false h4, Bool.not_false, bne_iff_ne]
    intro h5
    exact h2 (by omega)

theorem quiet_same {P : Program} {f : FuncId} {args : Array Value} {w : World} {n : Nat} {v : Value}
    (h : Calls P f args (w.drewN n) fun e w' => e = .returned v ∧ w.drewN n = w') : Calls P f args (w.drewN n) fun e w'' => e = .returned v ∧ ∃ m, w'' = w.drewN m :=
  h.mono fun _ _ ⟨he, hm⟩ => ⟨he, n, hm.symm⟩
end Go.Proofs.Ytkcilpkcjhnkaaa
