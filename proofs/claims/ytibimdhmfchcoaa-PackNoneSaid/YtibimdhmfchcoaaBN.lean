import Derived.Test.YtibimdhmfchcoaaO0
/- N1 -/
/- Blocks that hang on lower ones alone can all be told; blocks that all hang on some cannot begin. -/
namespace Go.Proofs.Ytibimdhmfchcoaa
open Go.RowKit
set_option linter.unusedVariables false
set_option linter.unusedSimpArgs false

theorem greedy_full {P : PackD} : ∀ j, (∃ b, pick P (greedy P j) = some b) → (greedy P (j + 1)).length = j + 1
  | 0, ⟨b, h⟩ => by rw [greedy_next h]; rfl
  | j + 1, ⟨b, h⟩ => by
    rw [greedy_next h, List.length_append]
    cases h2 : pick P (greedy P j) with
    | none =>
      have := greedy_stop h2 1
      rw [this, h2] at h
      cases h
    | some c => rw [greedy_full j ⟨c, h2⟩]; rfl
theorem order_stop (P : PackD) : pick P (orderL P) = none := by
  cases h : pick P (orderL P) with
  | none => rfl
  | some b =>
    have h1 := greedy_full P.n ⟨b, h⟩
    have h2 := (greedy_told P (P.n + 1)).lenN
    omega
theorem ranked_in {P : PackD} (r : Nat → Nat) (hr : ∀ i, i < P.n → P.now i = true → ∀ k ∈ deps P i, k < P.n ∧ P.now k = true ∧ r k < r i) : ∀ m i, r i < m → i < P.n → P.now i = true → i ∈ orderL P
  | 0, i, h, _, _ => by omega
  | m + 1, i, h, hi, hn => by
    have h1 := pick_none (order_stop P) i hi
    by_cases hm : i ∈ orderL P
    · exact hm
    · have : readyN P (orderL P) i = true := readyN_iff.2 ⟨hn, hm, fun k hk => by
        obtain ⟨h2, h3, h4⟩ := hr i hi hn k hk
        exact ranked_in r hr m k (by omega) h2 h3⟩
      rw [this] at h1
      cases h1
theorem ranked_all {P : PackD} (r : Nat → Nat) (hr : ∀ i, i < P.n → P.now i = true → ∀ k ∈ deps P i, k < P.n ∧ P.now k = true ∧ r k < r i) : nowTo P P.n ≤ (orderL P).length := by
  unfold nowTo
  refine nodup_len _ _ (List.nodup_range.filter _) (fun x hx => ?_)
  have hx : x < P.n ∧ P.now x = true := by simpa using hx
  exact ranked_in r hr (r x + 1) x (Nat.lt_succ_self _) hx.1 hx.2
theorem ranked_ok {P : PackD} (hm : mayB P = true) (r : Nat → Nat) (hr : ∀ i, i < P.n → P.now i = true → ∀ k ∈ deps P i, k < P.n ∧ P.now k = true ∧ r k < r i) : orderE P = 0 ∧ (orderL P).length = nowTo P P.n := by
  have h1 := ranked_all r hr
  have h2 := orderL_len P
  refine ⟨?_, by omega⟩
  unfold orderE
  rw [if_pos hm, if_neg (by omega)]
theorem ring_none {P : PackD} (hm : mayB P = true) (hn : 0 < nowTo P P.n) (hd : ∀ k, k < P.n → P.now k = true → ∃ d, d ∈ deps P k) : orderE P = 321 := by
  have h0 : pick P [] = none := pick_no fun k hk => by
    cases hr : readyN P [] k with
    | false => rfl
    | true =>
      obtain ⟨h1, _, h3⟩ := readyN_iff.1 hr
      obtain ⟨d, hdd⟩ := hd k hk h1
      have := h3 d hdd
      simp at this
  have h1 : orderL P = [] := orderL_of (j := 0) h0 (Nat.zero_le _)
  unfold orderE
  rw [if_pos hm, h1, if_pos (by simpa using hn)]
end Go.Proofs.Ytibimdhmfchcoaa

/- N3 -/
/- What Pack makes of a net may be, is told in some order, and keeps each hold as one block with a flop, in order. -/
namespace Go.Proofs.Ytibimdhmfchcoaa
open Go.RowKit
set_option linter.unusedVariables false
set_option linter.unusedSimpArgs false

theorem nextTo_len (N : NetV) (g : Int → Bool) (f : Int → Int) (i : Nat) : nextTo N g i = N.ins + N.holds.length + (lutBlks N g f i).length := by
  induction i with
  | zero => simp [nextTo, lutBlks]
  | succ i ih =>
    unfold nextTo lutBlks
    split
    · exact ih
    · rw [ih, List.length_append, List.length_singleton]; omega
theorem nextTo_mono (N : NetV) (g : Int → Bool) (i k : Nat) : nextTo N g i ≤ nextTo N g (i + k) := by
  induction k with
  | zero => exact Int.le_refl _
  | succ k ih =>
    refine Int.le_trans ih ?_
    show _ ≤ nextTo N g (i + k + 1)
    rw [nextTo]
    split <;> omega
theorem wireTo_lt (N : NetV) (g : Int → Bool) (h0 : 0 ≤ N.ins) (i : Nat) (x : Int) (h1 : 1 ≤ x) (hx : x < fstN N + i) (hg : g x = false) : 0 ≤ wireTo N g i x ∧ wireTo N g i x < nextTo N g i := by
  induction i with
  | zero =>
    unfold fstN at hx
    simp only [wireTo, insTo, nextTo]
    rw [if_pos (by omega)]
    omega
  | succ i ih =>
    have e1 : wireTo N g (i + 1) = if g (fstN N + i) then wireTo N g i else fun x => if x = fstN N + i then nextTo N g i else wireTo N g i x := rfl
    have e2 : nextTo N g (i + 1) = if g (fstN N + i) then nextTo N g i else nextTo N g i + 1 := rfl
    rw [e1, e2]
    split
    · rename_i h
      refine ih ?_
      have : x ≠ fstN N + i := fun e => by rw [e, h] at hg; cases hg
      omega
    · dsimp only
      have h2 := nextTo_bound N g i
      split
      · omega
      · have := ih (by omega)
        omega
theorem wireTo_stay (N : NetV) (g : Int → Bool) (i k : Nat) (x : Int) (hx : x < fstN N + i) : wireTo N g (i + k) x = wireTo N g i x := by
  induction k with
  | zero => rfl
  | succ k ih =>
    show wireTo N g (i + k + 1) x = _
    rw [wireTo]
    split
    · exact ih
    · dsimp only
      rw [if_neg (by omega)]; exact ih
theorem who_two (N : NetV) (x : Int) (h : 1 ≤ (N.luts.flatMap LutV.ins).count x ∨ 1 ≤ N.outs.count x) : whoF N x = false := by
  cases hc : whoF N x with
  | false => rfl
  | true =>
    unfold whoF whoTo at hc
    simp only [Bool.and_eq_true, decide_eq_true_eq, List.any_eq_true, List.take_of_length_le (Nat.le_refl _)] at hc
    obtain ⟨⟨y, hy, he⟩, _, h3⟩ := hc
    have he : y.d = x := by simpa using he
    have h4 : 0 < (N.holds.map HoldV.d).count x := List.count_pos_iff.2 (he ▸ List.mem_map_of_mem hy)
    unfold cntF occ at h3
    rw [List.count_append, List.count_append] at h3
    omega
theorem who_lut (N : NetV) (i : Nat) (hi : i < N.luts.length) (x : Int) (hx : x ∈ (N.luts.getD i default).ins) : whoF N x = false :=
  who_two N x (.inl (List.count_pos_iff.2 (List.mem_flatMap.2 ⟨_, getD_mem N.luts default hi, hx⟩)))
theorem who_out (N : NetV) (x : Int) (hx : x ∈ N.outs) : whoF N x = false := who_two N x (.inr (List.count_pos_iff.2 hx))
theorem live_mem (g : Int → Int) (ins : List Int) (k : Nat) (hk : k ≤ ins.length) : ∀ w ∈ liveTo g ins k, ∃ x ∈ ins, x ≠ 0 ∧ w = g x := by
  induction k with
  | zero => intro w hw; cases hw
  | succ k ih =>
    intro w hw
    unfold liveTo at hw
    split at hw
    · exact ih (by omega) w hw
    · rename_i h
      rcases List.mem_append.1 hw with h2 | h2
      · exact ih (by omega) w h2
      · rw [List.mem_singleton] at h2
        exact ⟨_, getD_mem ins 0 (by omega), h, h2⟩
/-- A table's inputs hang on wires that are below its own. -/
theorem told_lt (N : NetV) (hok : NetOk N 4) (i : Nat) (hi : i < N.luts.length) (T : Nat) (ff init : Bool) : ∀ w ∈ (toldD (wiresF N) (N.luts.getD i default).ins T ff init).ins, 0 ≤ w ∧ w < nextTo N (whoF N) i := by
  intro w hw
  obtain ⟨x, hx, h0, rfl⟩ := live_mem _ _ _ (Nat.le_refl _) w hw
  have h1 := (hok.lut i hi).ins x hx
  unfold wiresF
  have h2 := wireTo_stay N (whoF N) i (N.luts.length - i) x (by unfold fstN; omega)
  rw [show i + (N.luts.length - i) = N.luts.length by omega] at h2
  rw [h2]
  exact wireTo_lt N (whoF N) hok.ins0 i x (by omega) (by unfold fstN; omega) (who_lut N i hi x hx)
theorem lutBlks_lt (N : NetV) (hok : NetOk N 4) (k : Nat) (hk : k ≤ N.luts.length) : ∀ p (hp : p < (lutBlks N (whoF N) (wiresF N) k).length), ∀ w ∈ ((lutBlks N (whoF N) (wiresF N) k)[p]).ins, 0 ≤ w ∧ w < N.ins + N.holds.length + p := by
  induction k with
  | zero => intro p hp; simp [lutBlks] at hp
  | succ k ih =>
    intro p hp w hw
    have hl := nextTo_len N (whoF N) (wiresF N) k
    by_cases hg : whoF N (fstN N + k) = true
    · have e : lutBlks N (whoF N) (wiresF N) (k + 1) = lutBlks N (whoF N) (wiresF N) k := by rw [lutBlks, if_pos hg]
      rw [List.getElem_of_eq e] at hw
      exact ih (by omega) p (by rwa [e] at hp) w hw
    · have e : lutBlks N (whoF N) (wiresF N) (k + 1) = lutBlks N (whoF N) (wiresF N) k ++ [toldD (wiresF N) (N.luts.getD k default).ins (N.luts.getD k default).tab.toNat false false] := by rw [lutBlks, if_neg hg]
      rw [List.getElem_of_eq e] at hw
      rw [e, List.length_append, List.length_singleton] at hp
      rcases Nat.lt_or_ge p (lutBlks N (whoF N) (wiresF N) k).length with h | h
      · rw [List.getElem_append_left h] at hw
        exact ih (by omega) p h w hw
      · rw [List.getElem_append_right h] at hw
        rw [List.getElem_singleton] at hw
        have := told_lt N hok k (by omega) _ _ _ w hw
        omega
theorem lutBlks_ff (N : NetV) (g : Int → Bool) (f : Int → Int) (k : Nat) : ∀ b ∈ lutBlks N g f k, b.ff = false ∧ b.init = false := by
  induction k with
  | zero => intro b hb; cases hb
  | succ k ih =>
    intro b hb
    unfold lutBlks at hb
    split at hb
    · exact ih b hb
    · rcases List.mem_append.1 hb with h | h
      · exact ih b h
      · rw [List.mem_singleton] at h; subst h; exact ⟨rfl, rfl⟩
theorem holdBlk_ff (N : NetV) (g : Int → Bool) (f : Int → Int) (h : HoldV) : (holdBlk N g f h).ff = true ∧ (holdBlk N g f h).init = h.init := by
  unfold holdBlk
  split
  · exact ⟨rfl, rfl⟩
  · split <;> exact ⟨rfl, rfl⟩
/-- A table as it is told has no more rows than its inputs tell apart. -/
theorem told_tab (f : Int → Int) (ins : List Int) (T : Nat) (ff init : Bool) : 0 ≤ (toldD f ins T ff init).tab ∧ (toldD f ins T ff init).tab < 2 ^ (2 ^ (toldD f ins T ff init).ins.length) := by
  have h1 := tabTo_lt T (keptTo ins ins.length) (2 ^ (keptTo ins ins.length).length)
  have hl := liveTo_length f ins ins.length
  unfold toldD
  dsimp only
  rw [hl]
  generalize keptTo ins ins.length = K at *
  generalize tabTo T K (2 ^ K.length) = t at *
  refine ⟨Int.natCast_nonneg _, ?_⟩
  exact_mod_cast h1
def packD (N : NetV) : PackD := ⟨N.ins, packBlks N, packOuts N⟩
theorem packBlks_next (N : NetV) : N.ins + (packBlks N).length = nextTo N (whoF N) N.luts.length + (if noneAt N then 1 else 0) := by
  have hl := nextTo_len N (whoF N) (wiresF N) N.luts.length
  unfold packBlks holdBlks
  rw [List.length_append, List.length_append, List.length_map, List.length_take]
  split <;> simp <;> omega
/-- Each block's inputs are wires. -/
theorem packBlks_in (N : NetV) (hok : NetOk N 4) : ∀ b ∈ packBlks N, ∀ w ∈ b.ins, 0 ≤ w ∧ w < nextTo N (whoF N) N.luts.length := by
  intro b hb w hw
  unfold packBlks at hb
  rcases List.mem_append.1 hb with hb | hb
  · rcases List.mem_append.1 hb with hb | hb
    · unfold holdBlks at hb
      obtain ⟨h, hh, rfl⟩ := List.mem_map.1 hb
      have hh := List.mem_of_mem_take hh
      have hd := hok.holds h hh
      unfold holdBlk at hw
      split at hw
      · rename_i hg
        have h3 := whoF_fst N _ hg
        have hi : (h.d - fstN N).toNat < N.luts.length := by unfold fstN at h3 ⊢; omega
        have h1 := told_lt N hok _ hi _ _ _ w hw
        have h2 := nextTo_mono N (whoF N) (h.d - fstN N).toNat (N.luts.length - (h.d - fstN N).toNat)
        rw [show (h.d - fstN N).toNat + (N.luts.length - (h.d - fstN N).toNat) = N.luts.length by omega] at h2
        omega
      · rename_i hg
        split at hw
        · cases hw
        · have hw : w = wiresF N h.d := by simpa using hw
          rw [hw]
          exact wireTo_lt N (whoF N) hok.ins0 _ _ (by omega) (by unfold fstN; omega) (by simpa using hg)
    · obtain ⟨p, hp, rfl⟩ := List.mem_iff_getElem.1 hb
      have h1 := lutBlks_lt N hok _ (Nat.le_refl _) p hp w hw
      have hl := nextTo_len N (whoF N) (wiresF N) N.luts.length
      omega
  · split at hb
    · rw [List.mem_singleton] at hb; subst hb; cases hw
    · cases hb
theorem packBlks_tab (N : NetV) : ∀ b ∈ packBlks N, 0 ≤ b.tab ∧ b.tab < 2 ^ (2 ^ b.ins.length) ∧ (b.init = true → b.ff = true) := by
  intro b hb
  unfold packBlks at hb
  rcases List.mem_append.1 hb with hb | hb
  · rcases List.mem_append.1 hb with hb | hb
    · unfold holdBlks at hb
      obtain ⟨h, hh, rfl⟩ := List.mem_map.1 hb
      refine ⟨?_, ?_, fun _ => (holdBlk_ff N _ _ h).1⟩
      · unfold holdBlk
        split
        · exact (told_tab ..).1
        · split
          · exact Int.le_refl 0
          · exact (by decide : (0 : Int) ≤ 2)
      · unfold holdBlk
        split
        · exact (told_tab ..).2
        · split
          · exact (by decide : (0 : Int) < 2 ^ (2 ^ 0))
          · exact (by decide : (2 : Int) < 2 ^ (2 ^ 1))
    · have hf := lutBlks_ff N _ _ _ b hb
      refine ⟨?_, ?_, fun h => by rw [hf.2] at h; cases h⟩
      all_goals
        revert hb
        generalize N.luts.length = k
        intro hb
        induction k with
        | zero => cases hb
        | succ k ih =>
          unfold lutBlks at hb
          split at hb
          · exact ih hb
          · rcases List.mem_append.1 hb with hb | hb
            · exact ih hb
            · rw [List.mem_singleton] at hb; subst hb; first | exact (told_tab ..).1 | exact (told_tab ..).2
  · split at hb
    · rw [List.mem_singleton] at hb; subst hb; exact ⟨Int.le_refl 0, (by decide : (0 : Int) < 2 ^ (2 ^ 0)), fun h => by cases h⟩
    · cases hb
theorem packOuts_in (N : NetV) (hok : NetOk N 4) : ∀ w ∈ packOuts N, 0 ≤ w ∧ w < N.ins + (packBlks N).length := by
  intro w hw
  unfold packOuts at hw
  obtain ⟨x, hx, rfl⟩ := List.mem_map.1 hw
  have h1 := packBlks_next N
  have h2 := hok.outs x hx
  have h3 := nextTo_bound N (whoF N) N.luts.length
  have h4 := hok.ins0
  unfold wiresE
  by_cases h0 : x = 0
  · have hn : noneAt N = true := by
      unfold noneAt
      rw [List.any_eq_true]
      exact ⟨x, hx, by simp [h0]⟩
    rw [if_pos hn]
    rw [if_pos hn] at h1
    rw [if_pos h0]
    omega
  · have h5 := wireTo_lt N (whoF N) hok.ins0 N.luts.length x (by omega) (by unfold fstN; omega) (who_out N x hx)
    have h6 : wiresF N x = wireTo N (whoF N) N.luts.length x := rfl
    split
    · rename_i hn
      rw [if_pos hn] at h1
      dsimp only
      rw [if_neg h0]
      omega
    · rename_i hn
      rw [if_neg hn] at h1
      omega
theorem pack_may (N : NetV) (hok : NetOk N 4) (hf : Few N) : mayB (packD N) = true := by
  have hn := packBlks_next N
  have hl := packBlks_length N
  have h1 := hf.ins; have h2 := hf.holds; have h3 := hf.luts; have h0 := hok.ins0
  unfold mayB packD PackD.n
  simp only [Bool.and_eq_true, decide_eq_true_eq, List.all_eq_true]
  refine ⟨⟨⟨h0, by omega⟩, by omega⟩, fun b hb => ?_, fun w hw => packOuts_in N hok w hw⟩
  have hfi := packBlks_fine N hok b hb
  have ht := packBlks_tab N b hb
  unfold blkB
  simp only [Bool.and_eq_true, decide_eq_true_eq, List.all_eq_true, Bool.or_eq_true, Bool.not_eq_true']
  refine ⟨⟨⟨hfi.len, ht.1, ht.2.1⟩, ?_⟩, fun w hw => ?_⟩
  · cases hi : b.init
    · exact .inl rfl
    · exact .inr (ht.2.2 hi)
  · have := packBlks_in N hok b hb w hw
    split at hn <;> omega
/-- The blocks of holds come first. -/
theorem pack_hold (N : NetV) (i : Nat) (hi : i < N.holds.length) : (packBlks N).getD i default = holdBlk N (whoF N) (wiresF N) (N.holds.getD i default) := by
  unfold packBlks holdBlks
  rw [List.take_of_length_le (Nat.le_refl _), List.append_assoc, List.getD_eq_getElem?_getD, List.getElem?_append_left (by simpa using hi), List.getElem?_map, List.getD_eq_getElem?_getD, List.getElem?_eq_getElem hi]
  rfl
theorem pack_rest (N : NetV) (i : Nat) (hi : N.holds.length ≤ i) (hn : i < (packBlks N).length) : (∃ p, ∃ hp : p < (lutBlks N (whoF N) (wiresF N) N.luts.length).length, i = N.holds.length + p ∧ (packBlks N).getD i default = (lutBlks N (whoF N) (wiresF N) N.luts.length)[p]) ∨ (packBlks N).getD i default = ⟨[], 0, false, false⟩ := by
  revert hn
  unfold packBlks holdBlks
  rw [List.take_of_length_le (Nat.le_refl _), List.append_assoc]
  intro hn
  rw [List.getD_eq_getElem?_getD, List.getElem?_append_right (by simpa using hi), List.length_map]
  rw [List.length_append, List.length_append, List.length_map] at hn
  rcases Nat.lt_or_ge (i - N.holds.length) (lutBlks N (whoF N) (wiresF N) N.luts.length).length with h | h
  · exact .inl ⟨i - N.holds.length, h, by omega, by rw [List.getElem?_append_left h, List.getElem?_eq_getElem h]; rfl⟩
  · refine .inr ?_
    rw [List.getElem?_append_right h]
    split
    · rename_i hno
      rw [if_pos hno, List.length_singleton] at hn
      rw [show i - N.holds.length - (lutBlks N (whoF N) (wiresF N) N.luts.length).length = 0 by omega]
      rfl
    · rename_i hno
      rw [if_neg hno, List.length_nil] at hn
      omega
theorem pack_ff (N : NetV) (i : Nat) (hn : i < (packBlks N).length) : ((packBlks N).getD i default).ff = decide (i < N.holds.length) := by
  rcases Nat.lt_or_ge i N.holds.length with h | h
  · rw [pack_hold N i h, (holdBlk_ff N _ _ _).1, decide_eq_true h]
  · rw [decide_eq_false (by omega)]
    rcases pack_rest N i h hn with ⟨p, hp, _, h2⟩ | h2
    · rw [h2]; exact (lutBlks_ff N _ _ _ _ (List.getElem_mem hp)).1
    · rw [h2]
theorem pack_init (N : NetV) (i : Nat) (h : i < N.holds.length) : ((packBlks N).getD i default).init = (N.holds.getD i default).init := by
  rw [pack_hold N i h, (holdBlk_ff N _ _ _).2]
theorem pack_check (N : NetV) (hok : NetOk N 4) (hf : Few N) : orderE (packD N) = 0 := by
  refine (ranked_ok (pack_may N hok hf) (fun i => i) (fun i hi hnow k hk => ?_)).1
  unfold deps at hk
  obtain ⟨w, hw, rfl⟩ := List.mem_map.1 hk
  obtain ⟨hw, hd⟩ := List.mem_filter.1 hw
  unfold depOf at hd
  simp only [Bool.and_eq_true, decide_eq_true_eq] at hd
  have hi : i < (packBlks N).length := hi
  have h1 : N.ins ≤ w := hd.1
  have hff := pack_ff N i hi
  have hnow : (!((packBlks N).getD i default).ff) = true := hnow
  have hw : w ∈ ((packBlks N).getD i default).ins := hw
  have hge : N.holds.length ≤ i := by
    rw [hff] at hnow
    simpa using hnow
  have hlt : w < N.ins + i := by
    rcases pack_rest N i hge hi with ⟨p, hp, h2, h3⟩ | h3
    · rw [h3] at hw
      have := lutBlks_lt N hok _ (Nat.le_refl _) p hp w hw
      omega
    · rw [h3] at hw; cases hw
  have e : (packD N).ins = N.ins := rfl
  have e2 : (packD N).n = (packBlks N).length := rfl
  refine ⟨?_, hd.2, ?_⟩
  · rw [e, e2]; omega
  · show (w - (packD N).ins).toNat < i
    rw [e]; omega
end Go.Proofs.Ytibimdhmfchcoaa
