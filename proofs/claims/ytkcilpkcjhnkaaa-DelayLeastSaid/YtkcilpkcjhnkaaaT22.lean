import Derived.Test.YtkcilpkcjhnkaaaT20
import Derived.Lib.QuoteBits
namespace Go.Proofs.Ytkcilpkcjhnkaaa
open Go.RowKit
set_option linter.unusedVariables false

theorem or_pow (r k : Nat) (hr : r < 2 ^ k) (hk : k ≤ 5) : bits .or .i64 (r : Int) ((2 ^ k : Nat) : Int) = ((r + 2 ^ k : Nat) : Int) := by
  have h5 : (2 : Nat) ^ k ≤ 2 ^ 5 := Nat.pow_le_pow_right (by omega) hk
  show IntKind.i64.wrap ((BitVec.ofInt 64 (r : Int) ||| BitVec.ofInt 64 ((2 ^ k : Nat) : Int)).toNat : Int) = _
  have e : r ||| 2 ^ k = r + 2 ^ k := by
    rw [Nat.or_comm]
    have := Nat.two_pow_add_eq_or_of_lt hr 1
    rw [Nat.mul_one] at this
    omega
  rw [BitVec.toNat_or, ofInt_u64 r (by omega), ofInt_u64 (2 ^ k) (by omega), e]
  exact Lib.wrap_i64_small _ (by omega)

theorem bit_and (tab : Int) (h : U64 tab) (r : Nat) (hr : r < 64) : (bits .and .u64 tab ((2 ^ r : Nat) : Int) != 0) = tab.toNat.testBit r := by
  obtain ⟨h0, h1⟩ := h
  obtain ⟨m, rfl⟩ := Int.eq_ofNat_of_zero_le h0
  have h6 : (2 : Nat) ^ r < 18446744073709551616 := by
    have : (2 : Nat) ^ r < 2 ^ 64 := Nat.pow_lt_pow_right (by omega) hr
    have e : (2 : Nat) ^ 64 = 18446744073709551616 := by rfl
    omega
  rw [Int.toNat_natCast, u64_and_nat _ _ (by omega) h6]
  have e : m &&& 2 ^ r = if m.testBit r then 2 ^ r else 0 := by
    apply Nat.eq_of_testBit_eq
    intro i
    rw [Nat.testBit_and, Nat.testBit_two_pow]
    by_cases h : r = i
    · subst h
      cases hm : m.testBit r
      · simp
      · simp
    · rw [decide_eq_false h, Bool.and_false]
      split
      · rw [Nat.testBit_two_pow, decide_eq_false h]
      · simp
  rw [e]
  have h2 := Nat.two_pow_pos r
  cases m.testBit r
  · rfl
  · rw [if_pos rfl, bne_iff_ne]
    omega

/-- What the nodes are when Wait begins. -/
def now0 (N : NetV) (was inn st : List Bool) : List Bool := [false] ++ inn ++ st ++ was.drop (firstN N)

theorem now0_length (N : NetV) (was inn st : List Bool) (ok : WaitOk N was.length inn.length st.length) : (now0 N was inn st).length = firstN N + N.luts.length := by
  have h1 := ok.was
  have h2 := ok.inn
  have h3 := ok.st
  have h4 := firstN_eq ok.net.ins0
  simp only [now0, List.length_append, List.length_drop, List.length_singleton]
  omega
end Go.Proofs.Ytkcilpkcjhnkaaa
