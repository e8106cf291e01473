import Derived.Test.YtibimdhmfchcoaaBN
import Derived.Test.YtibimdhmfchcoaaBU
import Derived.Test.YtibimdhmfchcoaaV2
import Derived.Test.YtibimdhmfchcoaaO8
import Derived.Test.YtibimdhmfchcoaaBG
import Derived.Test.YtibimdhmfchcoaaS1
/- N5 -/
/- Blocks that are made of a net tell, and keep, what the net tells and keeps. -/
namespace Go.Proofs.Ytibimdhmfchcoaa
open Go.RowKit
set_option linter.unusedVariables false
set_option linter.unusedSimpArgs false

/-! Blocks in order are at rest. -/
theorem evT_snoc (D : PackD) (l : List Nat) (b : Nat) (f : Nat → Bool) : ∀ t, t ≤ l.length → evT D (l ++ [b]) f t = evT D l f t
  | 0, _ => rfl
  | t + 1, h => by
    have e : (l ++ [b]).getD t 0 = l.getD t 0 := by simp [List.getD_eq_getElem?_getD, List.getElem?_append_left (show t < l.length by omega)]
    show upd (evT D (l ++ [b]) f t) _ _ = upd (evT D l f t) _ _
    rw [evT_snoc D l b f t (by omega), e]
theorem evT_grow (D : PackD) (l : List Nat) (b : Nat) (f : Nat → Bool) : evT D (l ++ [b]) f (l ++ [b]).length = upd (evT D l f l.length) (D.ins.toNat + b) (valueB (D.blk b).ins (D.blk b).tab (evT D l f l.length)) := by
  have e : (l ++ [b]).getD l.length 0 = b := by simp [List.getD_eq_getElem?_getD]
  rw [List.length_append, List.length_singleton]
  show upd (evT D (l ++ [b]) f l.length) _ _ = _
  rw [evT_snoc D l b f _ (Nat.le_refl _), e]
theorem idxTo_congr (ins : List Int) (W W' : Nat → Bool) (h : ∀ w ∈ ins, W w.toNat = W' w.toNat) (k : Nat) (hk : k ≤ ins.length) : idxTo ins W k = idxTo ins W' k := by
  induction k with
  | zero => rfl
  | succ k ih =>
    unfold idxTo
    rw [ih (by omega), h _ (getD_mem ins 0 (by omega))]
theorem valueB_congr (ins : List Int) (tab : Int) (W W' : Nat → Bool) (h : ∀ w ∈ ins, W w.toNat = W' w.toNat) : valueB ins tab W = valueB ins tab W' := by
  unfold valueB
  rw [idxTo_congr ins W W' h _ (Nat.le_refl _)]
structure Fix (D : PackD) (f : Nat → Bool) (l : List Nat) : Prop where
  deps : ∀ b ∈ l, ∀ k ∈ deps D b, k ∈ l
  off : ∀ x, (∀ b ∈ l, x ≠ D.ins.toNat + b) → evT D l f l.length x = f x
  on : ∀ b ∈ l, evT D l f l.length (D.ins.toNat + b) = valueB (D.blk b).ins (D.blk b).tab (evT D l f l.length)
theorem dep_of {D : PackD} (h0 : 0 ≤ D.ins) {i b : Nat} {w : Int} (hw : w ∈ (D.blk i).ins) (hw0 : 0 ≤ w) (hb : D.now b = true) (e : w.toNat = D.ins.toNat + b) : b ∈ deps D i := by
  unfold deps
  refine List.mem_map.2 ⟨w, List.mem_filter.2 ⟨hw, ?_⟩, by omega⟩
  unfold depOf
  rw [show (w - D.ins).toNat = b by omega, hb, decide_eq_true (show D.ins ≤ w by omega)]
  rfl
theorem fix_greedy (D : PackD) (f : Nat → Bool) (h0 : 0 ≤ D.ins) (hw : ∀ i, i < D.n → ∀ w ∈ (D.blk i).ins, 0 ≤ w) (j : Nat) : Fix D f (greedy D j) := by
  induction j with
  | zero => exact ⟨fun b hb => by simp [greedy] at hb, fun x _ => rfl, fun b hb => by simp [greedy] at hb⟩
  | succ j ih =>
    cases hp : pick D (greedy D j) with
    | none => rw [greedy_stop hp 1]; exact ih
    | some b =>
      rw [greedy_next hp]
      have htold := greedy_told D j
      generalize greedy D j = l at *
      obtain ⟨hb, hr, _⟩ := pick_spec hp
      obtain ⟨hnow, hnot, hdep⟩ := readyN_iff.1 hr
      have hne : ∀ b' ∈ l, b' ≠ b := fun b' h e => hnot (e ▸ h)
      have hfree : ∀ i, (∀ k ∈ deps D i, k ∈ l) → i < D.n → ∀ w ∈ (D.blk i).ins, upd (evT D l f l.length) (D.ins.toNat + b) (valueB (D.blk b).ins (D.blk b).tab (evT D l f l.length)) w.toNat = evT D l f l.length w.toNat := by
        intro i hi hin w hww
        by_cases e : w.toNat = D.ins.toNat + b
        · exact absurd (hi b (dep_of h0 hww (hw i hin w hww) hnow e)) hnot
        · exact upd_other _ _ _ e
      refine ⟨fun b' hb' k hk => ?_, fun x hx => ?_, fun b' hb' => ?_⟩
      · rcases List.mem_append.1 hb' with h | h
        · exact List.mem_append_left _ (ih.deps b' h k hk)
        · rw [List.mem_singleton] at h; subst h; exact List.mem_append_left _ (hdep k hk)
      · rw [evT_grow, upd_other _ _ _ (hx b (by simp))]
        exact ih.off x (fun b' hb' => hx b' (by simp [hb']))
      · rw [evT_grow]
        rcases List.mem_append.1 hb' with h | h
        · rw [upd_other _ _ _ (by have := hne b' h; omega), ih.on b' h]
          exact (valueB_congr _ _ _ _ (hfree b' (ih.deps b' h) (htold.lt b' h).1)).symm
        · rw [List.mem_singleton] at h; subst h
          rw [upd_same]
          exact (valueB_congr _ _ _ _ (hfree b' hdep hb)).symm
theorem order_all {D : PackD} (he : orderE D = 0) : mayB D = true ∧ nowTo D D.n ≤ (orderL D).length := by
  unfold orderE at he
  split at he
  · split at he
    · cases he
    · exact ⟨by assumption, by omega⟩
  · cases he
theorem may_ins {D : PackD} (hm : mayB D = true) : 0 ≤ D.ins ∧ ∀ i, i < D.n → ∀ w ∈ (D.blk i).ins, 0 ≤ w := by
  unfold mayB at hm
  simp only [Bool.and_eq_true, decide_eq_true_eq, List.all_eq_true] at hm
  refine ⟨hm.1.1.1, fun i hi w hw => ?_⟩
  have h := hm.2.1 (D.blk i) (getD_mem D.bs default hi)
  unfold blkB at h
  simp only [Bool.and_eq_true, decide_eq_true_eq, List.all_eq_true] at h
  exact (h.2 w hw).1
theorem evW_now (D : PackD) (inn st : List Bool) (he : orderE D = 0) (i : Nat) (hi : i < D.n) (hn : D.now i = true) : evW D inn st (D.ins.toNat + i) = valueB (D.blk i).ins (D.blk i).tab (evW D inn st) := by
  obtain ⟨hm, hl⟩ := order_all he
  obtain ⟨h0, hw⟩ := may_ins hm
  exact (fix_greedy D (wireF D inn st) h0 hw D.n).on i (orderL_all D hl i hi hn)
theorem evW_off (D : PackD) (inn st : List Bool) (he : orderE D = 0) (x : Nat) (hx : ∀ b, b < D.n → D.now b = true → x ≠ D.ins.toNat + b) : evW D inn st x = wireF D inn st x := by
  obtain ⟨hm, hl⟩ := order_all he
  obtain ⟨h0, hw⟩ := may_ins hm
  exact (fix_greedy D (wireF D inn st) h0 hw D.n).off x (fun b hb => hx b ((orderL_told D).lt b hb).1 ((orderL_told D).lt b hb).2)
theorem fill_at (D : PackD) (st : List Bool) (n i : Nat) (hi : i < n) (hf : (D.blk i).ff = true) : fillR D st n (D.ins.toNat + i) = st.getD (flopsTo D i).length false := by
  induction n with
  | zero => omega
  | succ n ih =>
    by_cases e : i = n
    · subst e
      unfold fillR
      rw [if_pos hf, upd_same]
    · unfold fillR
      split
      · rw [upd_other _ _ _ (by omega), ih (by omega)]
      · exact ih (by omega)

/-! A table's value, without node 0. -/
theorem spread_congr (kept kept' : List Nat) (i i' m : Nat) (h1 : ∀ j, j < m → i / 2 ^ j % 2 = i' / 2 ^ j % 2) (h2 : ∀ j, j < m → kept.getD j 0 = kept'.getD j 0) : spreadTo kept i m = spreadTo kept' i' m := by
  induction m with
  | zero => rfl
  | succ m ih =>
    unfold spreadTo
    rw [ih (fun j hj => h1 j (by omega)) (fun j hj => h2 j (by omega)), h1 m (by omega), h2 m (by omega)]
theorem bit_low (x n j : Nat) (hx : x < 2 ^ n) (hj : j < n) : (x + 2 ^ n) / 2 ^ j % 2 = x / 2 ^ j % 2 := by
  have h := Nat.testBit_two_pow_mul_add 1 hx j
  rw [if_pos hj, Nat.mul_one, Nat.add_comm] at h
  rw [Nat.testBit_eq_decide_div_mod_eq, Nat.testBit_eq_decide_div_mod_eq, decide_eq_decide] at h
  rcases Nat.mod_two_eq_zero_or_one ((x + 2 ^ n) / 2 ^ j) with h2 | h2 <;> rcases Nat.mod_two_eq_zero_or_one (x / 2 ^ j) with h3 | h3 <;> rw [h2, h3] at h ⊢ <;> simp at h
theorem bit_top (x n : Nat) (hx : x < 2 ^ n) : (x + 2 ^ n) / 2 ^ n % 2 = 1 ∧ x / 2 ^ n % 2 = 0 := by
  have hp := Nat.two_pow_pos n
  rw [Nat.add_div_right _ hp, Nat.div_eq_of_lt hx]
  exact ⟨rfl, rfl⟩
theorem spread_row (g : Int → Int) (ins : List Int) (W : Nat → Bool) (v : List Bool) (hv0 : v.getD 0 false = false) (hW : ∀ x ∈ ins, x ≠ 0 → W (g x).toNat = v.getD x.toNat false) (k : Nat) (hk : k ≤ ins.length) :
    spreadTo (keptTo ins k) (idxTo (liveTo g ins k) W (liveTo g ins k).length) (keptTo ins k).length = rowTo ins v k := by
  induction k with
  | zero => rfl
  | succ k ih =>
    have ih := ih (by omega)
    by_cases h0 : ins.getD k 0 = 0
    · have e1 : keptTo ins (k + 1) = keptTo ins k := by rw [keptTo, if_pos h0]
      have e2 : liveTo g ins (k + 1) = liveTo g ins k := by rw [liveTo, if_pos h0]
      rw [e1, e2, ih, rowTo, h0]
      show _ = _ + if v.getD 0 false then _ else _
      rw [hv0]; simp
    · have e1 : keptTo ins (k + 1) = keptTo ins k ++ [k] := by rw [keptTo, if_neg h0]
      have e2 : liveTo g ins (k + 1) = liveTo g ins k ++ [g (ins.getD k 0)] := by rw [liveTo, if_neg h0]
      have hl := liveTo_length g ins k
      have hlt := idxTo_lt (liveTo g ins k) W (liveTo g ins k).length
      have hx := hW _ (getD_mem ins 0 (show k < ins.length by omega)) h0
      have hidx : idxTo (liveTo g ins (k + 1)) W (liveTo g ins (k + 1)).length = idxTo (liveTo g ins k) W (liveTo g ins k).length + (if v.getD (ins.getD k 0).toNat false then 2 ^ (keptTo ins k).length else 0) := by
        rw [e2, List.length_append, List.length_singleton]
        have e0 : idxTo (liveTo g ins k ++ [g (ins.getD k 0)]) W ((liveTo g ins k).length + 1) = idxTo (liveTo g ins k ++ [g (ins.getD k 0)]) W (liveTo g ins k).length + (if W ((liveTo g ins k ++ [g (ins.getD k 0)]).getD (liveTo g ins k).length 0).toNat then 2 ^ (liveTo g ins k).length else 0) := rfl
        rw [e0]
        have e3 : (liveTo g ins k ++ [g (ins.getD k 0)]).getD (liveTo g ins k).length 0 = g (ins.getD k 0) := by simp [List.getD_eq_getElem?_getD]
        rw [e3, hx, hl]
        congr 1
        have : ∀ m, m ≤ (liveTo g ins k).length → idxTo (liveTo g ins k ++ [g (ins.getD k 0)]) W m = idxTo (liveTo g ins k) W m := by
          intro m
          induction m with
          | zero => intro _; rfl
          | succ m ihm =>
            intro hm
            unfold idxTo
            have e4 : (liveTo g ins k ++ [g (ins.getD k 0)]).getD m 0 = (liveTo g ins k).getD m 0 := by simp [List.getD_eq_getElem?_getD, List.getElem?_append_left (show m < (liveTo g ins k).length by omega)]
            rw [ihm (by omega), e4]
        rw [← hl]
        exact this _ (Nat.le_refl _)
      rw [hidx, e1, List.length_append, List.length_singleton]
      rw [hl] at hlt ih ⊢
      generalize idxTo (liveTo g ins k) W (keptTo ins k).length = x at *
      have hrow := rowTo_lt ins v k
      have e5 : (keptTo ins k ++ [k]).getD (keptTo ins k).length 0 = k := by simp [List.getD_eq_getElem?_getD]
      unfold spreadTo
      rw [e5, rowTo]
      cases hb : v.getD (ins.getD k 0).toNat false with
      | false =>
        simp only [Bool.false_eq_true, if_false, Nat.add_zero]
        rw [(bit_top x _ hlt).2, Nat.zero_mul, Nat.or_zero]
        rw [← ih]
        exact spread_congr _ _ _ _ _ (fun j hj => rfl) (fun j hj => by simp [List.getD_eq_getElem?_getD, List.getElem?_append_left hj])
      | true =>
        simp only [if_true]
        rw [(bit_top x _ hlt).1, Nat.one_mul]
        have e6 : spreadTo (keptTo ins k ++ [k]) (x + 2 ^ (keptTo ins k).length) (keptTo ins k).length = rowTo ins v k := by
          rw [← ih]
          exact spread_congr _ _ _ _ _ (fun j hj => bit_low x _ j hlt hj) (fun j hj => by simp [List.getD_eq_getElem?_getD, List.getElem?_append_left hj])
        rw [e6, or_pow _ _ hrow]
theorem told_val (g : Int → Int) (ins : List Int) (T : Nat) (ff init : Bool) (W : Nat → Bool) (v : List Bool) (hv0 : v.getD 0 false = false) (hW : ∀ x ∈ ins, x ≠ 0 → W (g x).toNat = v.getD x.toNat false) :
    valueB (toldD g ins T ff init).ins (toldD g ins T ff init).tab W = T.testBit (rowTo ins v ins.length) := by
  have h := spread_row g ins W v hv0 hW ins.length (Nat.le_refl _)
  have hl := liveTo_length g ins ins.length
  have hlt := idxTo_lt (liveTo g ins ins.length) W (liveTo g ins ins.length).length
  unfold valueB toldD
  dsimp only
  rw [Int.toNat_natCast, ← Nat.testBit_eq_decide_div_mod_eq, tabTo_bit _ _ _ _ (by rw [← hl]; exact hlt), h]

/-! What a net's blocks tell. -/
theorem lutBlks_more (N : NetV) (g : Int → Bool) (f : Int → Int) (i k : Nat) : ∃ r, lutBlks N g f (i + k) = lutBlks N g f i ++ r := by
  induction k with
  | zero => exact ⟨[], by simp⟩
  | succ k ih =>
    obtain ⟨r, hr⟩ := ih
    have e : lutBlks N g f (i + (k + 1)) = if g (fstN N + (i + k : Nat)) then lutBlks N g f (i + k) else lutBlks N g f (i + k) ++ [toldD f (N.luts.getD (i + k) default).ins (N.luts.getD (i + k) default).tab.toNat false false] := rfl
    rw [e, hr]
    split
    · exact ⟨r, rfl⟩
    · exact ⟨r ++ [_], by rw [List.append_assoc]⟩
theorem pack_lut (N : NetV) (i : Nat) (hi : i < N.luts.length) (hg : whoF N (fstN N + i) = false) : N.holds.length + (lutBlks N (whoF N) (wiresF N) i).length < (packBlks N).length ∧
    (packBlks N).getD (N.holds.length + (lutBlks N (whoF N) (wiresF N) i).length) default = toldD (wiresF N) (N.luts.getD i default).ins (N.luts.getD i default).tab.toNat false false := by
  obtain ⟨r, hr⟩ := lutBlks_more N (whoF N) (wiresF N) (i + 1) (N.luts.length - (i + 1))
  rw [show i + 1 + (N.luts.length - (i + 1)) = N.luts.length by omega] at hr
  have e : lutBlks N (whoF N) (wiresF N) (i + 1) = lutBlks N (whoF N) (wiresF N) i ++ [toldD (wiresF N) (N.luts.getD i default).ins (N.luts.getD i default).tab.toNat false false] := by
    rw [lutBlks, hg]; rfl
  rw [e] at hr
  have hh : (holdBlks N (whoF N) (wiresF N) N.holds.length).length = N.holds.length := by rw [holdBlks, List.length_map, List.length_take]; omega
  unfold packBlks
  rw [hr]
  refine ⟨by simp only [List.length_append, hh, List.length_singleton]; omega, ?_⟩
  rw [List.getD_eq_getElem?_getD, List.append_assoc, List.getElem?_append_right (by omega), hh, Nat.add_sub_cancel_left, List.append_assoc, List.append_assoc, List.getElem?_append_right (Nat.le_refl _), Nat.sub_self]
  rfl
theorem pack_none (N : NetV) (hn : noneAt N = true) : N.holds.length + (lutBlks N (whoF N) (wiresF N) N.luts.length).length < (packBlks N).length ∧
    (packBlks N).getD (N.holds.length + (lutBlks N (whoF N) (wiresF N) N.luts.length).length) default = ⟨[], 0, false, false⟩ := by
  have hh : (holdBlks N (whoF N) (wiresF N) N.holds.length).length = N.holds.length := by rw [holdBlks, List.length_map, List.length_take]; omega
  unfold packBlks
  rw [hn]
  refine ⟨by simp only [List.length_append, hh, if_true, List.length_singleton]; omega, ?_⟩
  rw [List.getD_eq_getElem?_getD, List.append_assoc, List.getElem?_append_right (by omega), hh, Nat.add_sub_cancel_left, List.getElem?_append_right (Nat.le_refl _), Nat.sub_self]
  rfl
theorem pack_flops (N : NetV) (j : Nat) (hj : j ≤ (packBlks N).length) : flopsTo (packD N) j = List.range (min j N.holds.length) := by
  induction j with
  | zero => simp [flopsTo]
  | succ j ih =>
    rw [flopsTo_succ, ih (by omega)]
    have h := pack_ff N j (by omega)
    have h2 : ((packD N).blk j).ff = decide (j < N.holds.length) := h
    rw [h2]
    by_cases hl : j < N.holds.length
    · rw [if_pos (by simpa using hl), show min (j + 1) N.holds.length = min j N.holds.length + 1 by omega, List.range_succ, show min j N.holds.length = j by omega]
    · rw [if_neg (by simpa using hl), show min (j + 1) N.holds.length = min j N.holds.length by omega, List.append_nil]
theorem pack_now (N : NetV) (b : Nat) (hb : b < (packBlks N).length) : (packD N).now b = decide (N.holds.length ≤ b) := by
  have h := pack_ff N b hb
  show (!((packBlks N).getD b default).ff) = _
  rw [h]
  by_cases h2 : b < N.holds.length
  · rw [decide_eq_true h2, decide_eq_false (by omega)]; rfl
  · rw [decide_eq_false h2, decide_eq_true (by omega)]; rfl
theorem v0_in (inn st : List Bool) (k : Nat) (hk : k < inn.length) : (v0Of inn st).getD (1 + k) false = inn.getD k false := by
  unfold v0Of
  rw [List.append_assoc, List.getD_eq_getElem?_getD, List.getElem?_append_right (by simp), List.length_singleton, Nat.add_sub_cancel_left, List.getElem?_append_left hk, ← List.getD_eq_getElem?_getD]
theorem v0_st (inn st : List Bool) (k : Nat) : (v0Of inn st).getD (1 + inn.length + k) false = st.getD k false := by
  unfold v0Of
  rw [List.getD_eq_getElem?_getD, List.getElem?_append_right (by simp; omega), ← List.getD_eq_getElem?_getD]
  congr 1
  simp; omega
theorem v0_len (inn st : List Bool) : (v0Of inn st).length = 1 + inn.length + st.length := by
  unfold v0Of; simp; omega
set_option linter.unusedSectionVars false
section
variable {N : NetV} {inn st : List Bool} (hok : NetOk N 4) (hf : Few N) (hin : (inn.length : Int) = N.ins) (hst : st.length = N.holds.length)
include hok hf hin hst
theorem firstN_eq : (firstN N : Int) = fstN N := by
  have := hok.ins0
  unfold firstN fstN; omega
theorem v0_first : (v0Of inn st).length = firstN N := by
  have h := firstN_eq hok hf hin hst
  have := hok.ins0
  rw [v0_len]
  unfold fstN at h
  omega
theorem val_zero : (valTo N (v0Of inn st) N.luts.length).getD 0 false = false := by
  have h := v0_first hok hf hin hst
  rw [valTo_prefix N (v0Of inn st) 0 _ (by omega) 0 (by rw [v0_len]; omega)]
  rfl
theorem val_tab (i : Nat) (hi : i < N.luts.length) : (valTo N (v0Of inn st) N.luts.length).getD (firstN N + i) false = (N.luts.getD i default).tab.toNat.testBit (rowTo (N.luts.getD i default).ins (valTo N (v0Of inn st) N.luts.length) (N.luts.getD i default).ins.length) := by
  refine fin_tab (fun i hi k hk => ?_) _ (v0_first hok hf hin hst) i hi
  have h := (hok.lut i hi).ins k hk
  have h2 := firstN_eq hok hf hin hst
  unfold fstN at h2
  exact ⟨h.1, by omega⟩
theorem wires_val (i : Nat) (hi : i ≤ N.luts.length) : ∀ x : Int, 1 ≤ x → x < fstN N + i → whoF N x = false → evW (packD N) inn st (wiresF N x).toNat = (valTo N (v0Of inn st) N.luts.length).getD x.toNat false := by
  have h0 := hok.ins0
  have he := pack_check N hok hf
  have hfst := firstN_eq hok hf hin hst
  have hv0 := v0_first hok hf hin hst
  induction i with
  | zero =>
    intro x h1 hx hw
    have hx2 : x < 1 + N.ins + N.holds.length := by unfold fstN at hx; omega
    have e1 : wiresF N x = x - 1 := by
      unfold wiresF
      have h := wireTo_stay N (whoF N) 0 N.luts.length x hx
      rw [Nat.zero_add] at h
      rw [h]
      show insTo (N.ins + N.holds.length).toNat x = x - 1
      unfold insTo
      rw [if_pos (by omega)]
    have hpl := (packBlks_length N).2
    rw [e1, evW_off (packD N) inn st he _ (fun b hb hn => by
      have hb2 : b < (packBlks N).length := hb
      rw [pack_now N b hb2] at hn
      have hn := of_decide_eq_true hn
      have e : (packD N).ins = N.ins := rfl
      rw [e]; omega), valTo_prefix N (v0Of inn st) 0 _ (by omega) _ (by rw [hv0]; omega)]
    show wireF (packD N) inn st (x - 1).toNat = (v0Of inn st).getD x.toNat false
    unfold wireF
    have e : (packD N).ins = N.ins := rfl
    rw [e]
    by_cases hxi : (x - 1).toNat < N.ins.toNat
    · rw [if_pos hxi, ← v0_in inn st _ (by omega), show 1 + (x - 1).toNat = x.toNat by omega]
    · rw [if_neg hxi]
      obtain ⟨j, hj⟩ : ∃ j : Nat, x = 1 + N.ins + j := ⟨(x - 1 - N.ins).toNat, by omega⟩
      have hjh : j < N.holds.length := by omega
      have hjn : j < (packD N).n := by show j < (packBlks N).length; omega
      have hff : ((packD N).blk j).ff = true := by
        have := pack_ff N j hjn
        rw [decide_eq_true hjh] at this
        exact this
      have h := fill_at (packD N) st (packD N).n j hjn hff
      rw [e] at h
      rw [show (x - 1).toNat = N.ins.toNat + j by omega, h, pack_flops N j (by have : j < (packBlks N).length := hjn; omega), List.length_range, show min j N.holds.length = j by omega, ← v0_st inn st j]
      congr 1
      omega
  | succ i ih =>
    intro x h1 hx hw
    by_cases hxi : x < fstN N + i
    · exact ih (by omega) x h1 hxi hw
    · obtain rfl : x = fstN N + i := by omega
      obtain ⟨hpn, hpb⟩ := pack_lut N i (by omega) hw
      have hnx := nextTo_len N (whoF N) (wiresF N) i
      have e1 : wiresF N (fstN N + i) = N.ins + (N.holds.length + (lutBlks N (whoF N) (wiresF N) i).length : Nat) := by
        show wireTo N (whoF N) N.luts.length (fstN N + i) = _
        have h := wireTo_stay N (whoF N) (i + 1) (N.luts.length - (i + 1)) (fstN N + i) (by omega)
        rw [show i + 1 + (N.luts.length - (i + 1)) = N.luts.length by omega] at h
        rw [h, wireTo, hw]
        simp only [Bool.false_eq_true, if_false]
        rw [if_pos trivial, hnx]
        omega
      obtain ⟨p, hp⟩ : ∃ p, p = N.holds.length + (lutBlks N (whoF N) (wiresF N) i).length := ⟨_, rfl⟩
      rw [← hp] at hpn hpb e1
      have hnow : (packD N).now p = true := by rw [pack_now N p hpn]; simp; omega
      have h2 := evW_now (packD N) inn st he p hpn hnow
      have hbk : (packD N).blk p = toldD (wiresF N) (N.luts.getD i default).ins (N.luts.getD i default).tab.toNat false false := hpb
      rw [hbk] at h2
      have e : (packD N).ins = N.ins := rfl
      rw [e] at h2
      rw [e1, show (N.ins + (p : Int)).toNat = N.ins.toNat + p by omega, h2, show (fstN N + (i : Int)).toNat = firstN N + i by omega, val_tab hok hf hin hst i (by omega)]
      refine told_val _ _ _ _ _ _ _ (val_zero hok hf hin hst) (fun y hy hy0 => ?_)
      have h3 := (hok.lut i (by omega)).ins y hy
      exact ih (by omega) y (by omega) (by unfold fstN; omega) (who_lut N i (by omega) y hy)
theorem hold_val (j : Nat) (hj : j < N.holds.length) : valueB ((packD N).blk j).ins ((packD N).blk j).tab (evW (packD N) inn st) = (valTo N (v0Of inn st) N.luts.length).getD (N.holds.getD j default).d.toNat false := by
  have hb : (packD N).blk j = holdBlk N (whoF N) (wiresF N) (N.holds.getD j default) := pack_hold N j hj
  rw [hb]
  have hd := hok.holds _ (getD_mem N.holds default hj)
  have h0 := hok.ins0
  have hfst := firstN_eq hok hf hin hst
  have hW := wires_val hok hf hin hst N.luts.length (Nat.le_refl _)
  generalize N.holds.getD j default = h at hd ⊢
  unfold holdBlk
  cases hg : whoF N h.d with
  | true =>
    simp only [if_true]
    have h3 := whoF_fst N _ hg
    have hi : (h.d - fstN N).toNat < N.luts.length := by unfold fstN at h3 ⊢; omega
    rw [told_val _ _ _ _ _ _ _ (val_zero hok hf hin hst) (fun y hy hy0 => hW y (by have := (hok.lut _ hi).ins y hy; omega) (by have := (hok.lut _ hi).ins y hy; unfold fstN; omega) (who_lut N _ hi y hy)), ← val_tab hok hf hin hst _ hi]
    congr 1
    omega
  | false =>
    simp only [Bool.false_eq_true, if_false]
    by_cases hz : h.d = 0
    · rw [if_pos hz, hz]
      have := val_zero hok hf hin hst
      rw [show (0 : Int).toNat = 0 from rfl, this]
      unfold valueB
      simp
    · rw [if_neg hz, ← hW h.d (by omega) (by unfold fstN; omega) hg]
      unfold valueB
      show decide ((2 : Int).toNat / 2 ^ (idxTo [wiresF N h.d] (evW (packD N) inn st) 1) % 2 = 1) = _
      unfold idxTo idxTo
      show decide (2 / 2 ^ (0 + if evW (packD N) inn st (wiresF N h.d).toNat then 2 ^ 0 else 0) % 2 = 1) = _
      by_cases hq : evW (packD N) inn st (wiresF N h.d).toNat = true
      · simp [hq]
      · simp [Bool.not_eq_true] at hq; simp [hq]
theorem out_val (x : Int) (hx : x ∈ N.outs) : evW (packD N) inn st (wiresE N x).toNat = (valTo N (v0Of inn st) N.luts.length).getD x.toNat false := by
  have h1 := hok.outs x hx
  have h0 := hok.ins0
  have hW := wires_val hok hf hin hst N.luts.length (Nat.le_refl _)
  unfold wiresE
  by_cases hz : x = 0
  · have hn : noneAt N = true := by
      unfold noneAt
      rw [List.any_eq_true]
      exact ⟨x, hx, by simp [hz]⟩
    rw [if_pos hn, if_pos hz, hz]
    have hv := val_zero hok hf hin hst
    rw [show (0 : Int).toNat = 0 from rfl, hv]
    obtain ⟨hpn, hpb⟩ := pack_none N hn
    have hnx := nextTo_len N (whoF N) (wiresF N) N.luts.length
    obtain ⟨p, hp⟩ : ∃ p, p = N.holds.length + (lutBlks N (whoF N) (wiresF N) N.luts.length).length := ⟨_, rfl⟩
    rw [← hp] at hpn hpb
    have hnow : (packD N).now p = true := by rw [pack_now N p hpn]; simp; omega
    have h2 := evW_now (packD N) inn st (pack_check N hok hf) p hpn hnow
    have hbk : (packD N).blk p = ⟨[], 0, false, false⟩ := hpb
    rw [hbk] at h2
    have e : (packD N).ins = N.ins := rfl
    rw [e] at h2
    rw [show (nextTo N (whoF N) N.luts.length).toNat = N.ins.toNat + p by omega, h2]
    unfold valueB
    simp
  · have h3 := hW x (by omega) (by unfold fstN; omega) (who_out N x hx)
    split
    · dsimp only
      rw [if_neg hz]; exact h3
    · exact h3
end

end Go.Proofs.Ytibimdhmfchcoaa
/- N6 -/
/- Run tick by tick, a net's blocks tell what the net tells. -/
namespace Go.Proofs.Ytibimdhmfchcoaa
open Go.RowKit
set_option linter.unusedVariables false
set_option linter.unusedSimpArgs false

def netNext (N : NetV) (v : List Bool) : List Bool := N.holds.map fun h => v.getD h.d.toNat false
def netOut (N : NetV) (v : List Bool) : List Bool := N.outs.map fun x => v.getD x.toNat false
def netV (N : NetV) (inn st : List Bool) : List Bool := valTo N (v0Of inn st) N.luts.length
def nst (N : NetV) (inns : List (List Bool)) : Nat → List Bool
  | 0 => N.holds.map HoldV.init
  | k + 1 => netNext N (netV N (inns.getD k []) (nst N inns k))
def nOut (N : NetV) (inns : List (List Bool)) (k : Nat) : List Bool := netOut N (netV N (inns.getD k []) (nst N inns k))
def netRE (N : NetV) (inns : List (List Bool)) : Int := if inns.all (fun r => decide ((r.length : Int) = N.ins)) then 0 else 1
def netRO (N : NetV) (inns : List (List Bool)) : List (List Bool) := if netRE N inns = 0 then (List.range inns.length).map (nOut N inns) else []
theorem nst_len (N : NetV) (inns : List (List Bool)) (k : Nat) : (nst N inns k).length = N.holds.length := by
  cases k with
  | zero => simp [nst]
  | succ k => simp [nst, netNext]
theorem range_getD {α β : Type} (l : List α) (d : α) (f : α → β) : (List.range l.length).map (fun i => f (l.getD i d)) = l.map f := by
  apply List.ext_getElem (by simp)
  intro i h1 h2
  have h3 : i < l.length := by simpa using h2
  simp [List.getD_eq_getElem?_getD, List.getElem?_eq_getElem h3]
theorem pack_flopsL (N : NetV) : flopsL (packD N) = List.range N.holds.length := by
  have h := (packBlks_length N).2
  have h2 := pack_flops N (packBlks N).length (Nat.le_refl _)
  rw [show min (packBlks N).length N.holds.length = N.holds.length by omega] at h2
  exact h2
theorem pack_st0 (N : NetV) : st0 (packD N) = N.holds.map HoldV.init := by
  unfold st0
  rw [pack_flopsL, ← range_getD N.holds default HoldV.init]
  refine List.map_congr_left fun i hi => ?_
  exact pack_init N i (List.mem_range.1 hi)
theorem ev_err (N : NetV) (hok : NetOk N 4) (hf : Few N) (inn st : List Bool) (hst : st.length = N.holds.length) : evalE (packD N) inn st = if (inn.length : Int) = N.ins then 0 else 1 := by
  unfold evalE
  rw [if_pos (pack_check N hok hf), pack_flopsL, List.length_range]
  have e : (packD N).ins = N.ins := rfl
  rw [e]
  by_cases h : (inn.length : Int) = N.ins
  · rw [if_pos ⟨h, hst⟩, if_pos h]
  · rw [if_neg (fun x => h x.1), if_neg h]
theorem ev_same (N : NetV) (hok : NetOk N 4) (hf : Few N) (inn st : List Bool) (hin : (inn.length : Int) = N.ins) (hst : st.length = N.holds.length) :
    evalO (packD N) inn st = netOut N (netV N inn st) ∧ evalN (packD N) inn st = netNext N (netV N inn st) := by
  have he := ev_err N hok hf inn st hst
  rw [if_pos hin] at he
  unfold evalO evalN
  rw [if_pos he, if_pos he]
  refine ⟨?_, ?_⟩
  · show (packOuts N).map _ = _
    unfold packOuts netOut
    rw [List.map_map]
    exact List.map_congr_left fun x hx => out_val hok hf hin hst x hx
  · unfold nextOf netNext
    rw [pack_flopsL, ← range_getD N.holds default (fun h => (netV N inn st).getD h.d.toNat false)]
    exact List.map_congr_left fun j hj => hold_val hok hf hin hst j (List.mem_range.1 hj)
theorem st_same (N : NetV) (hok : NetOk N 4) (hf : Few N) (inns : List (List Bool)) (k : Nat) (h : ∀ j, j < k → ((inns.getD j []).length : Int) = N.ins) : stAt (packD N) inns k = nst N inns k := by
  induction k with
  | zero => exact pack_st0 N
  | succ k ih =>
    show evalN (packD N) (inns.getD k []) (stAt (packD N) inns k) = _
    rw [ih (fun j hj => h j (by omega)), (ev_same N hok hf _ _ (h k (by omega)) (nst_len N inns k)).2]
    rfl
theorem e_same (N : NetV) (hok : NetOk N 4) (hf : Few N) (inns : List (List Bool)) (k : Nat) (h : ∀ j, j < k → ((inns.getD j []).length : Int) = N.ins) : eAt (packD N) inns k = if ((inns.getD k []).length : Int) = N.ins then 0 else 1 := by
  unfold eAt
  rw [st_same N hok hf inns k h]
  exact ev_err N hok hf _ _ (nst_len N inns k)
theorem from_same (N : NetV) (hok : NetOk N 4) (hf : Few N) (inns : List (List Bool)) (f : Nat) : ∀ k, (∀ j, j < k → ((inns.getD j []).length : Int) = N.ins) → runFrom (packD N) inns f k = if ∀ j, j < k + f → ((inns.getD j []).length : Int) = N.ins then 0 else 1 := by
  induction f with
  | zero => intro k h; rw [Nat.add_zero, if_pos h]; rfl
  | succ f ih =>
    intro k h
    show (if eAt (packD N) inns k = 0 then runFrom (packD N) inns f (k + 1) else eAt (packD N) inns k) = _
    rw [e_same N hok hf inns k h]
    by_cases hk : ((inns.getD k []).length : Int) = N.ins
    · rw [if_pos hk, if_pos rfl, ih (k + 1) (fun j hj => by
        by_cases e : j = k
        · rw [e]; exact hk
        · exact h j (by omega)), show k + 1 + f = k + (f + 1) by omega]
    · rw [if_neg hk, if_neg (by omega), if_neg (fun h2 => hk (h2 k (by omega)))]
theorem all_rows (N : NetV) (inns : List (List Bool)) : inns.all (fun r => decide ((r.length : Int) = N.ins)) = true ↔ ∀ j, j < inns.length → ((inns.getD j []).length : Int) = N.ins := by
  rw [all_getD inns []]
  simp
theorem run_same (N : NetV) (hok : NetOk N 4) (hf : Few N) (inns : List (List Bool)) : runE (packD N) inns = netRE N inns ∧ runO (packD N) inns = netRO N inns := by
  have h1 : runE (packD N) inns = netRE N inns := by
    unfold runE
    rw [if_pos (pack_check N hok hf), from_same N hok hf inns inns.length 0 (fun j hj => by omega), Nat.zero_add]
    unfold netRE
    by_cases h : ∀ j, j < inns.length → ((inns.getD j []).length : Int) = N.ins
    · rw [if_pos h, if_pos ((all_rows N inns).2 h)]
    · rw [if_neg h, if_neg (fun x => h ((all_rows N inns).1 x))]
  refine ⟨h1, ?_⟩
  unfold runO netRO
  rw [h1]
  split
  · rename_i h
    have hall : ∀ j, j < inns.length → ((inns.getD j []).length : Int) = N.ins := by
      refine (all_rows N inns).1 ?_
      unfold netRE at h
      split at h
      · assumption
      · cases h
    refine List.map_congr_left fun k hk => ?_
    have hk := List.mem_range.1 hk
    unfold oAt
    rw [st_same N hok hf inns k (fun j hj => hall j (by omega))]
    exact (ev_same N hok hf _ _ (hall k hk) (nst_len N inns k)).1
  · rfl
end Go.Proofs.Ytibimdhmfchcoaa
