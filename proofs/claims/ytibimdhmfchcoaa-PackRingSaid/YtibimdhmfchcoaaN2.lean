/- A ring of blocks, and a ring with a flop in it. -/
import Derived.Test.YtibimdhmfchcoaaN1
namespace Go.Proofs.Ytibimdhmfchcoaa
open Go.RowKit
set_option linter.unusedVariables false
set_option linter.unusedSimpArgs false

def ringB (n : Nat) (T : Int) (q i : Nat) : BlkD := ⟨[0, ((1 + (i + 1) % n : Nat) : Int)], T % 16, decide (i = q), false⟩
def ringD (n : Nat) (T : Int) (q : Nat) : PackD := ⟨1, (List.range n).map (ringB n T q), [0]⟩
section
variable {n q : Nat} {T : Int}
theorem ring_n : (ringD n T q).n = n := by simp [ringD, PackD.n]
theorem ring_blk {i : Nat} (hi : i < n) : (ringD n T q).blk i = ringB n T q i := by
  show ((List.range n).map (ringB n T q)).getD i default = _
  rw [List.getD_eq_getElem?_getD, List.getElem?_map, List.getElem?_range hi]; rfl
theorem ring_now {i : Nat} (hi : i < n) : (ringD n T q).now i = !decide (i = q) := by
  unfold PackD.now
  rw [ring_blk hi]; rfl
theorem ring_deps {i : Nat} (hi : i < n) (x : Nat) : x ∈ deps (ringD n T q) i ↔ x = (i + 1) % n ∧ (ringD n T q).now ((i + 1) % n) = true := by
  have h0 : depOf (ringD n T q) 0 = false := by
    show (decide ((1 : Int) ≤ 0) && _) = false
    simp
  have hk : (((1 + (i + 1) % n : Nat) : Int) - (ringD n T q).ins).toNat = (i + 1) % n := by
    show (((1 + (i + 1) % n : Nat) : Int) - 1).toNat = _
    omega
  have h1 : depOf (ringD n T q) ((1 + (i + 1) % n : Nat) : Int) = (ringD n T q).now ((i + 1) % n) := by
    unfold depOf
    rw [hk]
    have : decide ((ringD n T q).ins ≤ ((1 + (i + 1) % n : Nat) : Int)) = true := decide_eq_true (by show (1 : Int) ≤ _; omega)
    rw [this, Bool.true_and]
  unfold deps
  rw [ring_blk hi]
  show x ∈ (([0, ((1 + (i + 1) % n : Nat) : Int)] : List Int).filter _).map _ ↔ _
  rw [List.filter_cons, h0, if_neg (by simp), List.filter_cons, h1]
  cases h : (ringD n T q).now ((i + 1) % n)
  · simp
  · rw [if_pos rfl, List.filter_nil, List.map_cons, List.map_nil, hk]
    simp
theorem ring_may (h1 : 0 < n) (h2 : n ≤ 40) : mayB (ringD n T q) = true := by
  unfold mayB
  rw [ring_n]
  simp only [Bool.and_eq_true, decide_eq_true_eq, List.all_eq_true]
  refine ⟨⟨⟨by show (0 : Int) ≤ 1; omega, by show (1 : Int) ≤ 1024; omega⟩, by omega⟩, fun b hb => ?_, fun x hx => ?_⟩
  · obtain ⟨i, hi, rfl⟩ := List.mem_map.1 hb
    have hi : i < n := List.mem_range.1 hi
    have hk : (i + 1) % n < n := Nat.mod_lt _ h1
    obtain ⟨k, hkk⟩ : ∃ k, k = (i + 1) % n := ⟨_, rfl⟩
    unfold blkB ringB
    rw [← hkk] at hk ⊢
    simp only [Bool.and_eq_true, decide_eq_true_eq, List.all_eq_true]
    refine ⟨⟨⟨by simp, by omega, ?_⟩, by simp⟩, fun x hx => ?_⟩
    · show T % 16 < (2 : Int) ^ (2 ^ 2)
      have : (2 : Int) ^ (2 ^ 2) = 16 := by decide
      omega
    · have : (ringD n T q).ins = 1 := rfl
      rw [this]
      simp at hx
      rcases hx with rfl | rfl
      · omega
      · omega
  · have : (ringD n T q).ins = 1 := rfl
    rw [this]
    have hx : x ∈ ([0] : List Int) := hx
    simp at hx
    subst hx
    omega
theorem ring_nowTo : ∀ j, j ≤ n → nowTo (ringD n T q) j = if q < j then j - 1 else j
  | 0, _ => by simp [nowTo]
  | j + 1, h => by
    rw [nowTo_succ, ring_nowTo j (by omega), ring_now (by omega)]
    by_cases e : j = q
    · subst e; simp
    · have h1 : (!decide (j = q)) = true := by simp [e]
      rw [if_pos h1]
      by_cases e2 : q < j
      · rw [if_pos e2, if_pos (show q < j + 1 by omega)]; omega
      · rw [if_neg e2, if_neg (show ¬ q < j + 1 by omega)]
theorem ring_E (h1 : 0 < n) (h2 : n ≤ 40) : orderE (ringD n T n) = 321 := by
  refine ring_none (ring_may h1 h2) (by rw [ring_n, ring_nowTo n (Nat.le_refl _), if_neg (by omega)]; exact h1) fun k hk _ => ?_
  rw [ring_n] at hk
  have hm : (k + 1) % n < n := Nat.mod_lt _ h1
  refine ⟨(k + 1) % n, (ring_deps hk _).2 ⟨rfl, ?_⟩⟩
  rw [ring_now hm, decide_eq_false (by omega)]; rfl
theorem ring_ok (h1 : 0 < n) (h2 : n ≤ 40) (hq : q < n) : orderE (ringD n T q) = 0 ∧ (orderT (ringD n T q)).length = n - 1 := by
  have h := ranked_ok (P := ringD n T q) (ring_may h1 h2) (fun i => if i ≤ q then q - i else q + n - i) (fun i hi hn k hk => by
    rw [ring_n] at hi ⊢
    obtain ⟨rfl, hk2⟩ := (ring_deps hi k).1 hk
    rw [ring_now hi] at hn
    have hiq : i ≠ q := by simpa using hn
    have hm : (i + 1) % n < n := Nat.mod_lt _ h1
    refine ⟨hm, hk2, ?_⟩
    by_cases e : i + 1 < n
    · rw [Nat.mod_eq_of_lt e]
      split <;> split <;> omega
    · rw [show i + 1 = n by omega, Nat.mod_self, if_pos (Nat.zero_le _)]
      split <;> omega)
  refine ⟨h.1, ?_⟩
  unfold orderT
  rw [if_pos h.1, List.length_map, h.2, ring_n, ring_nowTo n (Nat.le_refl _), if_pos hq]
end
end Go.Proofs.Ytibimdhmfchcoaa
