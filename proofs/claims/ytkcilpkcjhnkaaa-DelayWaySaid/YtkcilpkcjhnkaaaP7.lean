import Derived.Test.YtkcilpkcjhnkaaaP6
namespace Go.Proofs.Ytkcilpkcjhnkaaa
open Go.RowKit
set_option linter.unusedVariables false

/-- What a node of a way takes by itself. -/
def costK (N : NetV) (cost : List Int) (k : Int) : Int := if (firstN N : Int) ≤ k then cost.getD (k.toNat - firstN N) 0 else 0
def sumR (f : Int → Int) : List Int → Int
  | [] => 0
  | k :: l => f k + sumR f l
def sumL (f : Int → Int) (l : List Int) : Int := l.foldl (fun s k => s + f k) 0

theorem sumL_snoc (f : Int → Int) (l : List Int) (x : Int) : sumL f (l ++ [x]) = sumL f l + f x := by simp [sumL, List.foldl_append]
theorem sumL_reverse (f : Int → Int) (l : List Int) : sumL f l.reverse = sumR f l := by
  induction l with
  | nil => rfl
  | cons k l ih => rw [List.reverse_cons, sumL_snoc, ih, sumR]; omega
theorem sumL_take (f : Int → Int) (l : List Int) (j : Nat) (hj : j < l.length) : sumL f (l.take (j + 1)) = sumL f (l.take j) + f (l.getD j 0) := by
  rw [List.take_succ_eq_append_getElem hj, sumL_snoc]
  simp [List.getD, List.getElem?_eq_getElem hj]

theorem Way.nil_iff {N : NetV} {a fr l : List Int} (h : Way N a fr l) : l = [] ↔ fr = [] := by
  cases h with
  | stop => simp
  | go h _ => simp [h]

theorem Way.inv {N : NetV} {a fr l : List Int} (h : Way N a fr l) : (l = [] ∧ fr = []) ∨ (∃ l', l = latestV a fr :: l' ∧ fr ≠ []) := by
  cases h with
  | stop => exact .inl ⟨rfl, rfl⟩
  | go h _ => exact .inr ⟨_, rfl, h⟩

/-- Each node but the last is an input of the one ahead of it; the last has none. -/
theorem Way.chain {N : NetV} {a fr l : List Int} (h : Way N a fr l) : ∀ i, i < l.length →
    (i + 1 < l.length → l.getD (i + 1) 0 ∈ insOf N (l.getD i 0)) ∧ (i + 1 = l.length → insOf N (l.getD i 0) = []) := by
  induction h with
  | stop => intro i hi; simp at hi
  | @go fr l h r ih =>
    intro i hi
    cases i with
    | zero =>
      rw [List.getD_cons_zero]
      constructor
      · intro h1
        rw [List.getD_cons_succ]
        rcases r.inv with ⟨e, _⟩ | ⟨l', e, h'⟩
        · rw [e] at h1; simp at h1
        · rw [e, List.getD_cons_zero]; exact latestV_mem _ _ h'
      · intro h1
        rw [← r.nil_iff]
        simpa using h1
    | succ i =>
      have := ih i (by simpa using hi)
      rw [List.getD_cons_succ, List.getD_cons_succ]
      refine ⟨fun h1 => this.1 (by simpa using h1), fun h1 => this.2 (by simpa using h1)⟩

theorem arrL_low (N : NetV) (cost : List Int) (k : Nat) (hk : k < firstN N) : (arrL N cost).getD k 0 = 0 := by
  rw [arrL, arrTo_prefix N cost 0 N.luts.length (by omega) k (by omega), arrTo]
  simp [List.getD, hk]

theorem mostOf_latest {N : NetV} {cost : List Int} (ok : CostOk N cost) (i : Nat) (hi : i < N.luts.length) :
    mostOf (arrTo N cost i) (N.luts.getD i default).ins = if (N.luts.getD i default).ins = [] then 0 else (arrL N cost).getD (latestV (arrL N cost) (N.luts.getD i default).ins).toNat 0 := by
  have hr := ok.net.range i hi
  have hpre : ∀ k ∈ (N.luts.getD i default).ins, (arrTo N cost i).getD k.toNat 0 = (arrL N cost).getD k.toNat 0 := fun k hk => by
    rw [arrL, arrTo_prefix N cost i N.luts.length (by omega) _ (hr k hk).2]
  have hb := arrTo_bound N cost ok.each N.luts.length
  split
  · rename_i h; rw [h]; rfl
  · rename_i h
    have hmem := latestV_mem (arrL N cost) _ h
    apply Int.le_antisymm
    · refine foldl_max_le _ _ _ 0 ?_ (fun k hk => ?_)
      · have hlt := (hr _ hmem).2
        have := hb _ (getD_mem (arrTo N cost N.luts.length) 0 (show (latestV (arrL N cost) (N.luts.getD i default).ins).toNat < _ by rw [arrTo_length]; omega))
        exact this.1
      · show (arrTo N cost i).getD k.toNat 0 ≤ _
        rw [hpre k hk]
        exact latestV_ge _ _ k hk
    · have := foldl_max_mem (fun k => (arrTo N cost i).getD k.toNat 0) (N.luts.getD i default).ins 0 _ hmem
      have h2 := hpre _ hmem
      simp only [h2] at this
      exact this

theorem node_sum {N : NetV} {cost : List Int} (ok : CostOk N cost) (k : Int) (h0 : 0 ≤ k) (h1 : k < ((firstN N + N.luts.length : Nat) : Int)) :
    (arrL N cost).getD k.toNat 0 = costK N cost k + (if insOf N k = [] then 0 else (arrL N cost).getD (latestV (arrL N cost) (insOf N k)).toNat 0) := by
  by_cases hf : (firstN N : Int) ≤ k
  · have e : insOf N k = (N.luts.getD (k.toNat - firstN N) default).ins := by rw [insOf, if_pos hf]
    rw [e, ← mostOf_latest ok _ (by omega), costK, if_pos hf, ← arrL_tab N cost _ (by omega)]
    congr 1; omega
  · have e : insOf N k = [] := by rw [insOf, if_neg hf]
    rw [e, costK, if_neg hf, arrL_low N cost _ (by omega)]; rfl

theorem Way.sum {N : NetV} {cost : List Int} (ok : CostOk N cost) {fr l : List Int} (h : Way N (arrL N cost) fr l) : (∀ x ∈ fr, 0 ≤ x ∧ x < ((firstN N + N.luts.length : Nat) : Int)) → headT (arrL N cost) l = sumR (costK N cost) l := by
  induction h with
  | stop => intro _; rfl
  | @go fr l h r ih =>
    intro hfr
    have hm := hfr _ (latestV_mem (arrL N cost) fr h)
    have hi := insOf_range ok.net _ hm.2
    have := ih (fun x hx => by have := hi x hx; omega)
    show (arrL N cost).getD (latestV (arrL N cost) fr).toNat 0 = costK N cost (latestV (arrL N cost) fr) + sumR (costK N cost) l
    rw [← this, node_sum ok _ hm.1 hm.2]
    congr 1
    rcases r.inv with ⟨e, h'⟩ | ⟨l', e, h'⟩
    · rw [if_pos h', e]; rfl
    · rw [if_neg h', e]; rfl

/-- The way as it is told: what each node on it is. -/
structure WayOk (N : NetV) (cost wy : List Int) (tot : Int) : Prop where
  range : ∀ i, i < wy.length → 0 ≤ wy.getD i 0 ∧ wy.getD i 0 < ((firstN N + N.luts.length : Nat) : Int)
  tab : ∀ i, 0 < i → i < wy.length → (firstN N : Int) ≤ wy.getD i 0 ∧ wy.getD (i - 1) 0 ∈ insOf N (wy.getD i 0)
  start : 0 < wy.length → insOf N (wy.getD 0 0) = []
  sum : sumL (costK N cost) wy = tot
  nil : wy = [] ↔ endsOf N = []

theorem getD_revI (l : List Int) (t : Nat) (h : t < l.length) : l.reverse.getD t 0 = l.getD (l.length - 1 - t) 0 := by
  simp [List.getD, List.getElem?_reverse h]

theorem way_ok {N : NetV} {cost : List Int} (ok : CostOk N cost) : WayOk N cost (wayOf N cost).reverse (headT (arrL N cost) (wayOf N cost)) := by
  obtain ⟨hw, hl, hr⟩ := wayOf_is (cost := cost) ok.net
  have hc := hw.chain
  have hs := hw.sum ok (endsOf_range ok.net)
  have hn := hw.nil_iff
  generalize wayOf N cost = l at hw hl hr hc hs hn
  refine ⟨fun i hi => ?_, fun i h0 hi => ?_, fun h0 => ?_, ?_, ?_⟩
  · rw [List.length_reverse] at hi
    rw [getD_revI l i hi]
    exact hr _ (getD_mem l 0 (by omega))
  · rw [List.length_reverse] at hi
    rw [getD_revI l i hi, getD_revI l (i - 1) (by omega)]
    have := (hc (l.length - 1 - i) (by omega)).1 (by omega)
    rw [show l.length - 1 - i + 1 = l.length - 1 - (i - 1) by omega] at this
    refine ⟨?_, this⟩
    by_cases h : (firstN N : Int) ≤ l.getD (l.length - 1 - i) 0
    · exact h
    · rw [insOf, if_neg h] at this; cases this
  · rw [List.length_reverse] at h0
    rw [getD_revI l 0 h0]
    exact (hc (l.length - 1 - 0) (by omega)).2 (by omega)
  · rw [sumL_reverse]; exact hs.symm
  · rw [List.reverse_eq_nil_iff]; exact hn

theorem costK_bound {N : NetV} {cost : List Int} (ok : CostOk N cost) (k : Int) : 0 ≤ costK N cost k ∧ costK N cost k ≤ 1048576 := by
  unfold costK
  split
  · by_cases h : k.toNat - firstN N < cost.length
    · exact ok.each _ (getD_mem _ _ h)
    · simp [List.getD, List.getElem?_eq_none (Nat.le_of_not_lt h)]
  · omega

theorem sumL_bound (f : Int → Int) (h : ∀ k, 0 ≤ f k ∧ f k ≤ 1048576) (l : List Int) (j : Nat) (hj : j ≤ l.length) : 0 ≤ sumL f (l.take j) ∧ sumL f (l.take j) ≤ 1048576 * j := by
  induction j with
  | zero => simp [sumL]
  | succ j ih =>
    have := ih (by omega)
    have := h (l.getD j 0)
    rw [sumL_take f l j (by omega)]; omega
end Go.Proofs.Ytkcilpkcjhnkaaa
