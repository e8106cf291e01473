/- Blocks that hang on lower ones alone can all be told; blocks that all hang on some cannot begin. -/
import Derived.Test.YtibimdhmfchcoaaO0
namespace Go.Proofs.Ytibimdhmfchcoaa
open Go.RowKit
set_option linter.unusedVariables false
set_option linter.unusedSimpArgs false

theorem greedy_full {P : PackD} : ∀ j, (∃ b, pick P (greedy P j) = some b) → (greedy P (j + 1)).length = j + 1
  | 0, ⟨b, h⟩ => by rw [greedy_next h]; rfl
  | j + 1, ⟨b, h⟩ => by
    rw [greedy_next h, List.length_append]
    cases h2 : pick P (greedy P j) with
    | none =>
      have := greedy_stop h2 1
      rw [this, h2] at h
      cases h
    | some c => rw [greedy_full j ⟨c, h2⟩]; rfl
theorem order_stop (P : PackD) : pick P (orderL P) = none := by
  cases h : pick P (orderL P) with
  | none => rfl
  | some b =>
    have h1 := greedy_full P.n ⟨b, h⟩
    have h2 := (greedy_told P (P.n + 1)).lenN
    omega
theorem ranked_in {P : PackD} (r : Nat → Nat) (hr : ∀ i, i < P.n → P.now i = true → ∀ k ∈ deps P i, k < P.n ∧ P.now k = true ∧ r k < r i) : ∀ m i, r i < m → i < P.n → P.now i = true → i ∈ orderL P
  | 0, i, h, _, _ => by omega
  | m + 1, i, h, hi, hn => by
    have h1 := pick_none (order_stop P) i hi
    by_cases hm : i ∈ orderL P
    · exact hm
    · have : readyN P (orderL P) i = true := readyN_iff.2 ⟨hn, hm, fun k hk => by
        obtain ⟨h2, h3, h4⟩ := hr i hi hn k hk
        exact ranked_in r hr m k (by omega) h2 h3⟩
      rw [this] at h1
      cases h1
theorem ranked_all {P : PackD} (r : Nat → Nat) (hr : ∀ i, i < P.n → P.now i = true → ∀ k ∈ deps P i, k < P.n ∧ P.now k = true ∧ r k < r i) : nowTo P P.n ≤ (orderL P).length := by
  unfold nowTo
  refine nodup_len _ _ (List.nodup_range.filter _) (fun x hx => ?_)
  have hx : x < P.n ∧ P.now x = true := by simpa using hx
  exact ranked_in r hr (r x + 1) x (Nat.lt_succ_self _) hx.1 hx.2
theorem ranked_ok {P : PackD} (hm : mayB P = true) (r : Nat → Nat) (hr : ∀ i, i < P.n → P.now i = true → ∀ k ∈ deps P i, k < P.n ∧ P.now k = true ∧ r k < r i) : orderE P = 0 ∧ (orderL P).length = nowTo P P.n := by
  have h1 := ranked_all r hr
  have h2 := orderL_len P
  refine ⟨?_, by omega⟩
  unfold orderE
  rw [if_pos hm, if_neg (by omega)]
theorem ring_none {P : PackD} (hm : mayB P = true) (hn : 0 < nowTo P P.n) (hd : ∀ k, k < P.n → P.now k = true → ∃ d, d ∈ deps P k) : orderE P = 321 := by
  have h0 : pick P [] = none := pick_no fun k hk => by
    cases hr : readyN P [] k with
    | false => rfl
    | true =>
      obtain ⟨h1, _, h3⟩ := readyN_iff.1 hr
      obtain ⟨d, hdd⟩ := hd k hk h1
      have := h3 d hdd
      simp at this
  have h1 : orderL P = [] := orderL_of (j := 0) h0 (Nat.zero_le _)
  unfold orderE
  rw [if_pos hm, h1, if_pos (by simpa using hn)]
end Go.Proofs.Ytibimdhmfchcoaa
