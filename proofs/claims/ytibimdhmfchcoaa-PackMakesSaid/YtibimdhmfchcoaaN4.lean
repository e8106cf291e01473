/- What the reference makes of a table without node 0 is what the program makes of it. -/
import Derived.Test.YtibimdhmfchcoaaU42
namespace Go.Proofs.Ytibimdhmfchcoaa
open Go.RowKit
set_option linter.unusedVariables false
set_option linter.unusedSimpArgs false

theorem div_bit (T s : Nat) : (T / 2 ^ s % 2).testBit 0 = T.testBit s := by
  rw [Nat.testBit_eq_decide_div_mod_eq, Nat.testBit_eq_decide_div_mod_eq]
  simp
theorem tabTo_bit (T : Nat) (kept : List Nat) (i p : Nat) (hp : p < i) : (tabTo T kept i).testBit p = T.testBit (spreadTo kept p kept.length) := by
  induction i with
  | zero => omega
  | succ i ih =>
    unfold tabTo
    rw [Nat.testBit_or, Nat.mul_comm, Nat.testBit_two_pow_mul]
    rcases Nat.lt_or_ge p i with h | h
    · rw [ih h, decide_eq_false (by omega)]; simp
    · obtain rfl : p = i := by omega
      rw [Nat.testBit_lt_two_pow (tabTo_lt T kept p), decide_eq_true (Nat.le_refl _), Nat.sub_self, div_bit]; simp
theorem tabTo_high (T : Nat) (kept : List Nat) (i p : Nat) (hp : i ≤ p) : (tabTo T kept i).testBit p = false :=
  Nat.testBit_lt_two_pow (Nat.lt_of_lt_of_le (tabTo_lt T kept i) (Nat.pow_le_pow_right (by omega) hp))
theorem cnt_step {M i : Nat} (hM : M = 1 ∨ M = 2 ∨ M = 4 ∨ M = 8) : (i / M % 2 = 0 → (i + 1) / (2 * M) * M + min ((i + 1) % (2 * M)) M = i / (2 * M) * M + min (i % (2 * M)) M + 1 ∧ (i / (2 * M) * M + min (i % (2 * M)) M) / M * (2 * M) + (i / (2 * M) * M + min (i % (2 * M)) M) % M = i) ∧
    (i / M % 2 ≠ 0 → (i + 1) / (2 * M) * M + min ((i + 1) % (2 * M)) M = i / (2 * M) * M + min (i % (2 * M)) M) := by
  rcases hM with rfl | rfl | rfl | rfl <;> omega
theorem pow_case {k : Nat} (hk : k < 4) : 2 ^ k = 1 ∨ 2 ^ k = 2 ∨ 2 ^ k = 4 ∨ 2 ^ k = 8 := by
  match k, hk with
  | 0, _ => simp
  | 1, _ => simp
  | 2, _ => simp
  | 3, _ => simp
theorem dropTo_cnt (T k : Nat) (hk : k < 4) (i : Nat) : (dropTo T k i).2 = i / (2 * 2 ^ k) * 2 ^ k + min (i % (2 * 2 ^ k)) (2 ^ k) := by
  induction i with
  | zero => simp [dropTo]
  | succ i ih =>
    have hs := @cnt_step (2 ^ k) i (pow_case hk)
    unfold dropTo
    split
    · rename_i h
      dsimp only
      rw [ih, (hs.1 h).1]
    · rename_i h
      rw [ih, hs.2 h]
theorem dropTo_bit (T k : Nat) (hk : k < 4) (i p : Nat) (hp : p < (dropTo T k i).2) : (dropTo T k i).1.testBit p = T.testBit (p / 2 ^ k * (2 * 2 ^ k) + p % 2 ^ k) := by
  induction i with
  | zero => simp [dropTo] at hp
  | succ i ih =>
    have hs := @cnt_step (2 ^ k) i (pow_case hk)
    have hc := dropTo_cnt T k hk i
    by_cases h : i / 2 ^ k % 2 = 0
    · have e : dropTo T k (i + 1) = ((dropTo T k i).1 + (T / 2 ^ i % 2) * 2 ^ (dropTo T k i).2, (dropTo T k i).2 + 1) := by
        rw [dropTo, if_pos h]
      rw [e] at hp ⊢
      dsimp only at hp ⊢
      rw [Nat.add_comm, Nat.mul_comm, Nat.testBit_two_pow_mul_add _ (dropTo_lt T k i).1]
      split
      · rename_i h2; exact ih h2
      · rename_i h2
        have h3 : p = (dropTo T k i).2 := by omega
        rw [h3, Nat.sub_self, div_bit, hc, (hs.1 h).2]
    · have e : dropTo T k (i + 1) = dropTo T k i := by rw [dropTo, if_neg h]
      rw [e] at hp ⊢
      exact ih hp
/-! Where a table's inputs are nothing, as a pattern. -/
def zmap (ins : List Int) : List Int := ins.map (fun x => if x = 0 then 0 else 1)
def pats : Nat → List (List Int)
  | 0 => [[]]
  | n + 1 => (pats n).flatMap (fun l => [0 :: l, 1 :: l])
theorem zmap_mem (ins : List Int) : zmap ins ∈ pats ins.length := by
  induction ins with
  | nil => simp [zmap, pats]
  | cons x xs ih =>
    rw [List.length_cons]
    unfold pats
    refine List.mem_flatMap.2 ⟨zmap xs, ih, ?_⟩
    show (if x = 0 then (0 : Int) else 1) :: zmap xs ∈ _
    split <;> simp
theorem zmap_length (ins : List Int) : (zmap ins).length = ins.length := by simp [zmap]
theorem zmap_getD (ins : List Int) (k : Nat) : (zmap ins).getD k 0 = 0 ↔ ins.getD k 0 = 0 := by
  unfold zmap
  simp only [List.getD_eq_getElem?_getD, List.getElem?_map]
  cases ins[k]? with
  | none => simp
  | some x => by_cases h : x = 0 <;> simp [h]
theorem zmap_kept (ins : List Int) (k : Nat) : keptTo (zmap ins) k = keptTo ins k := by
  induction k with
  | zero => rfl
  | succ k ih =>
    unfold keptTo
    rw [ih]
    by_cases h : ins.getD k 0 = 0
    · rw [if_pos h, if_pos ((zmap_getD ins k).2 h)]
    · rw [if_neg h, if_neg (fun e => h ((zmap_getD ins k).1 e))]
theorem zmap_zero (ins : List Int) : zeroAt (zmap ins) = zeroAt ins := by
  unfold zeroAt zmap
  rw [List.findIdx_map]
  congr 1
  funext x
  by_cases h : x = 0 <;> simp [h]
theorem zmap_erase (ins : List Int) (k : Nat) : zmap (ins.eraseIdx k) = (zmap ins).eraseIdx k := by
  unfold zmap
  induction ins generalizing k with
  | nil => simp
  | cons x xs ih => cases k with
    | zero => simp
    | succ k => simp [ih k]
def chkF (l : List Int) : Bool :=
  !decide (zeroAt l < l.length) || (((keptTo (l.eraseIdx (zeroAt l)) (l.length - 1)).length == (keptTo l l.length).length) &&
    (List.range (2 ^ (keptTo l l.length).length)).all (fun i =>
      decide (spreadTo (keptTo (l.eraseIdx (zeroAt l)) (l.length - 1)) i (keptTo l l.length).length < 2 ^ (l.length - 1)) &&
      (spreadTo (keptTo l l.length) i (keptTo l l.length).length == spreadTo (keptTo (l.eraseIdx (zeroAt l)) (l.length - 1)) i (keptTo l l.length).length / 2 ^ zeroAt l * (2 * 2 ^ zeroAt l) + spreadTo (keptTo (l.eraseIdx (zeroAt l)) (l.length - 1)) i (keptTo l l.length).length % 2 ^ zeroAt l)))
def chkG (l : List Int) : Bool :=
  decide (zeroAt l < l.length) || (((keptTo l l.length).length == l.length) && (List.range (2 ^ l.length)).all (fun i => spreadTo (keptTo l l.length) i (keptTo l l.length).length == i))
theorem pats_ok : ∀ n, n < 5 → (pats n).all (fun l => chkF l && chkG l) = true := by decide +kernel
theorem zero_drop (ins : List Int) (h4 : ins.length ≤ 4) (hz : zeroAt ins < ins.length) :
    (keptTo (ins.eraseIdx (zeroAt ins)) (ins.length - 1)).length = (keptTo ins ins.length).length ∧
    ∀ i, i < 2 ^ (keptTo ins ins.length).length → spreadTo (keptTo (ins.eraseIdx (zeroAt ins)) (ins.length - 1)) i (keptTo ins ins.length).length < 2 ^ (ins.length - 1) ∧
      spreadTo (keptTo ins ins.length) i (keptTo ins ins.length).length = spreadTo (keptTo (ins.eraseIdx (zeroAt ins)) (ins.length - 1)) i (keptTo ins ins.length).length / 2 ^ zeroAt ins * (2 * 2 ^ zeroAt ins) + spreadTo (keptTo (ins.eraseIdx (zeroAt ins)) (ins.length - 1)) i (keptTo ins ins.length).length % 2 ^ zeroAt ins := by
  have h := pats_ok ins.length (by omega)
  rw [List.all_eq_true] at h
  have h := h _ (zmap_mem ins)
  rw [Bool.and_eq_true] at h
  have h := h.1
  unfold chkF at h
  simp only [zmap_length, zmap_zero, zmap_kept, ← zmap_erase, Bool.or_eq_true, Bool.not_eq_true', decide_eq_false_iff_not, Bool.and_eq_true, beq_iff_eq, List.all_eq_true, decide_eq_true_eq, List.mem_range] at h
  rcases h with h | h
  · exact absurd hz h
  · exact h
theorem zero_none (ins : List Int) (h4 : ins.length ≤ 4) (hz : ¬ zeroAt ins < ins.length) :
    (keptTo ins ins.length).length = ins.length ∧ ∀ i, i < 2 ^ ins.length → spreadTo (keptTo ins ins.length) i (keptTo ins ins.length).length = i := by
  have h := pats_ok ins.length (by omega)
  rw [List.all_eq_true] at h
  have h := h _ (zmap_mem ins)
  rw [Bool.and_eq_true] at h
  have h := h.2
  unfold chkG at h
  simp only [zmap_length, zmap_zero, zmap_kept, Bool.or_eq_true, Bool.and_eq_true, beq_iff_eq, List.all_eq_true, decide_eq_true_eq, List.mem_range] at h
  rcases h with h | h
  · exact absurd h hz
  · exact h
theorem without_tab (m : Nat) (ins : List Int) (T : Nat) (h4 : ins.length ≤ 4) (hm : ins.length ≤ m) (hT : T < 2 ^ (2 ^ ins.length)) : (without m ins T).2 = tabTo T (keptTo ins ins.length) (2 ^ (keptTo ins ins.length).length) := by
  induction m generalizing ins T with
  | zero =>
    obtain rfl : ins = [] := List.length_eq_zero_iff.1 (by omega)
    have hT : T < 2 := by simpa using hT
    show T = tabTo T [] 1
    unfold tabTo tabTo spreadTo
    simp
    omega
  | succ m ih =>
    by_cases hz : zeroAt ins < ins.length
    · have e : without (m + 1) ins T = without m (ins.eraseIdx (zeroAt ins)) (dropTo T (zeroAt ins) (2 ^ ins.length)).1 := by rw [without, if_pos hz]
      rw [e]
      have hl : (ins.eraseIdx (zeroAt ins)).length = ins.length - 1 := List.length_eraseIdx_of_lt hz
      obtain ⟨z1, z2⟩ := zero_drop ins h4 hz
      have hk : zeroAt ins < 4 := by omega
      have hcnt : (dropTo T (zeroAt ins) (2 ^ ins.length)).2 = 2 ^ (ins.length - 1) := by
        rw [dropTo_cnt _ _ hk]
        have h5 : ins.length = 1 ∨ ins.length = 2 ∨ ins.length = 3 ∨ ins.length = 4 := by omega
        have h6 : zeroAt ins = 0 ∨ zeroAt ins = 1 ∨ zeroAt ins = 2 ∨ zeroAt ins = 3 := by omega
        rcases h5 with h5 | h5 | h5 | h5 <;> rcases h6 with h6 | h6 | h6 | h6 <;> first | omega | (rw [h5, h6]; decide)
      have hlt := (dropTo_lt T (zeroAt ins) (2 ^ ins.length)).1
      rw [hcnt] at hlt
      rw [ih _ _ (by omega) (by omega) (by rw [hl]; exact hlt), hl, z1]
      refine Nat.eq_of_testBit_eq fun p => ?_
      rcases Nat.lt_or_ge p (2 ^ (keptTo ins ins.length).length) with hp | hp
      · obtain ⟨z3, z4⟩ := z2 p hp
        rw [tabTo_bit _ _ _ _ hp, tabTo_bit _ _ _ _ hp, z1, dropTo_bit T _ hk _ _ (by rw [hcnt]; exact z3), z4]
      · rw [tabTo_high _ _ _ _ hp, tabTo_high _ _ _ _ hp]
    · rw [without_none _ _ _ hz]
      obtain ⟨z1, z2⟩ := zero_none ins h4 hz
      rw [z1]
      refine Nat.eq_of_testBit_eq fun p => ?_
      rcases Nat.lt_or_ge p (2 ^ ins.length) with hp | hp
      · rw [tabTo_bit _ _ _ _ hp, z2 p hp]
      · rw [tabTo_high _ _ _ _ hp]
        exact Nat.testBit_lt_two_pow (Nat.lt_of_lt_of_le hT (Nat.pow_le_pow_right (by omega) hp))
theorem erase_zero (ins : List Int) : (ins.eraseIdx (zeroAt ins)).filter (fun x => x != 0) = ins.filter (fun x => x != 0) := by
  induction ins with
  | nil => rfl
  | cons x xs ih =>
    unfold zeroAt
    rw [List.findIdx_cons]
    by_cases h : x = 0
    · subst h; simp
    · have h2 : (x == 0) = false := by simpa using h
      have h3 : (x != 0) = true := by simpa using h
      rw [h2]
      simp only [cond_false, List.eraseIdx_cons_succ]
      rw [List.filter_cons, List.filter_cons]
      simp only [h3, if_true]
      exact congrArg _ ih
theorem without_ins (m : Nat) (ins : List Int) (T : Nat) (hm : ins.length ≤ m) : (without m ins T).1 = ins.filter (fun x => x != 0) := by
  induction m generalizing ins T with
  | zero =>
    obtain rfl : ins = [] := List.length_eq_zero_iff.1 (by omega)
    rfl
  | succ m ih =>
    by_cases hz : zeroAt ins < ins.length
    · rw [without, if_pos hz, ih _ _ (by rw [List.length_eraseIdx_of_lt hz]; omega), erase_zero]
    · rw [without_none _ _ _ hz]
      symm
      rw [List.filter_eq_self]
      intro x hx
      obtain ⟨j, hj, rfl⟩ := List.mem_iff_getElem.1 hx
      unfold zeroAt at hz
      have := List.not_of_lt_findIdx (p := fun x : Int => x == 0) (xs := ins) (i := j) (by omega)
      simpa using this
theorem liveTo_filter (g : Int → Int) (ins : List Int) (k : Nat) (hk : k ≤ ins.length) : liveTo g ins k = ((ins.take k).filter (fun x => x != 0)).map g := by
  induction k with
  | zero => rfl
  | succ k ih =>
    unfold liveTo
    rw [ih (by omega), take_one ins 0 k (by omega), List.filter_append, List.map_append]
    by_cases h : ins.getD k 0 = 0
    · rw [if_pos h, h]; simp
    · rw [if_neg h, List.filter_cons_of_pos (by simpa using h)]; rfl
theorem told_same (f g : Int → Int) (ins : List Int) (T : Nat) (ff init : Bool) (h4 : ins.length ≤ 4) (hT : T < 2 ^ (2 ^ ins.length)) (hfg : ∀ x ∈ ins, x ≠ 0 → f x = g x) : toldR f ins T ff init = toldD g ins T ff init := by
  unfold toldR toldD
  rw [without_ins 4 ins T h4, without_tab 4 ins T h4 h4 hT, liveTo_filter g ins _ (Nat.le_refl _), List.take_length]
  congr 1
  refine List.map_congr_left fun x hx => ?_
  obtain ⟨h1, h2⟩ := List.mem_filter.1 hx
  exact hfg x h1 (by simpa using h2)
end Go.Proofs.Ytibimdhmfchcoaa
