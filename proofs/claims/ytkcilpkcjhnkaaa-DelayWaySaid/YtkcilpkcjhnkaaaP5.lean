import Derived.Test.YtkcilpkcjhnkaaaT30
import Derived.Test.YtkcilpkcjhnkaaaT25
import Derived.Test.YtkcilpkcjhnkaaaL3
import Derived.Test.YtkcilpkcjhnkaaaP3
namespace Go.Proofs.Ytkcilpkcjhnkaaa
set_option linter.unusedVariables false

theorem NetOk.range {N : NetV} (ok : NetOk N 6) : ∀ i, i < N.luts.length → ∀ k ∈ (N.luts.getD i default).ins, 0 ≤ k ∧ k.toNat < firstN N + i := fun i hi k hk => by
  have := (ok.lut i hi).ins k hk
  have := firstN_eq ok.ins0
  omega

theorem iterV_rest {N : NetV} {now : List Bool} {s : Nat} (h : stepV N (iterV N now s) = iterV N now s) (t : Nat) : iterV N now (s + t) = iterV N now s := by
  induction t with
  | zero => rfl
  | succ t ih => rw [show iterV N now (s + (t + 1)) = stepV N (iterV N now (s + t)) from rfl, ih, h]

theorem v0Of_length {N : NetV} {inn st : List Bool} (h0 : 0 ≤ N.ins) (h1 : (inn.length : Int) = N.ins) (h2 : st.length = N.holds.length) : (v0Of inn st).length = firstN N := by
  have := firstN_eq h0
  simp [v0Of]; omega

theorem now0_take {N : NetV} {was inn st : List Bool} (h0 : 0 ≤ N.ins) (h1 : (inn.length : Int) = N.ins) (h2 : st.length = N.holds.length) : (now0 N was inn st).take (firstN N) = v0Of inn st := by
  have h := v0Of_length h0 h1 h2
  rw [show now0 N was inn st = v0Of inn st ++ was.drop (firstN N) by simp [now0, v0Of], ← h]
  simp

theorem WaitOk.nodes {N : NetV} {n0 n1 n2 : Nat} (ok : WaitOk N n0 n1 n2) : NodesOk N n1 n2 := ⟨ok.net, ok.inn, ok.st⟩

/-- THE STAGE'S: left alone they come to rest at what they are. -/
theorem wait_fin {N : NetV} {was inn st : List Bool} (ok : WaitOk N was.length inn.length st.length) : waitO N was inn st = nodesO N inn st := by
  rw [waitO, if_pos ok, nodesO, if_pos ok.nodes]
  have hr := ok.rests.1.rest
  rw [← iterV_rest hr N.luts.length, ← now0_take (was := was) ok.net.ins0 ok.inn ok.st]
  exact iterV_fin ok.net.range _ (now0_length N was inn st ok) (fun i => i + 1) (fun i _ => by omega) (fun i hi k hk hf => by have := (ok.net.range i hi k hk).2; show k.toNat - firstN N + 1 < i + 1; omega) _ (fun i hi => by show i + 1 ≤ _; omega)

theorem arrTo_prefix (N : NetV) (cost : List Int) (i j : Nat) (h : i ≤ j) (k : Nat) (hk : k < firstN N + i) : (arrTo N cost j).getD k 0 = (arrTo N cost i).getD k 0 := by
  induction j with
  | zero => obtain rfl : i = 0 := by omega
            rfl
  | succ j ih =>
    by_cases e : i = j + 1
    · subst e; rfl
    · simp only [arrTo]
      rw [getD_snoc, if_pos (by rw [arrTo_length]; omega), ih (by omega)]

theorem arrL_tab (N : NetV) (cost : List Int) (i : Nat) (hi : i < N.luts.length) : (arrL N cost).getD (firstN N + i) 0 = cost.getD i 0 + mostOf (arrTo N cost i) (N.luts.getD i default).ins := by
  rw [arrL, arrTo_prefix N cost (i + 1) N.luts.length (by omega) _ (by omega)]
  simp only [arrTo]
  rw [getD_snoc, if_neg (by rw [arrTo_length]; omega), if_pos (by rw [arrTo_length])]

def lastOf (l : List Int) : Int := l.foldl (fun m t => max m t) 0
theorem lastOf_mem (l : List Int) (x : Int) (h : x ∈ l) : x ≤ lastOf l := foldl_max_mem (fun t => t) l 0 x h
theorem lastOf_nonneg (l : List Int) : 0 ≤ lastOf l := foldl_max_ge (fun t => t) l 0
theorem lastOf_take (l : List Int) (j : Nat) (hj : j < l.length) : lastOf (l.take (j + 1)) = max (lastOf (l.take j)) (l.getD j 0) := by
  unfold lastOf
  rw [List.take_succ_eq_append_getElem hj, List.foldl_append]
  simp [List.getD, List.getElem?_eq_getElem hj]
theorem lastOf_le (l : List Int) (B : Int) (h0 : 0 ≤ B) (h : ∀ x ∈ l, x ≤ B) : lastOf l ≤ B := foldl_max_le (fun t => t) B l 0 h0 h

abbrev unitsOf (N : NetV) : List Int := List.replicate N.luts.length 1

theorem WaitOk.units {N : NetV} {n0 n1 n2 : Nat} (ok : WaitOk N n0 n1 n2) : CostOk N (unitsOf N) :=
  ⟨ok.net, by simp, fun c hc => by rw [List.eq_of_mem_replicate hc]; omega⟩

/-- THE STAGE'S: in no more steps than the last one takes, each costing 1. -/
theorem wait_last {N : NetV} {was inn st : List Bool} (ok : WaitOk N was.length inn.length st.length) : ((waitS N was inn st : Nat) : Int) ≤ lastOf (arrO N (unitsOf N)) := by
  rw [waitS, if_pos ok, arrO, if_pos ok.units]
  have hu : ∀ i, i < N.luts.length → (unitsOf N).getD i 0 = 1 := fun i hi => by simp [List.getD, hi]
  have hb := arrTo_bound N (unitsOf N) ok.units.each
  have hlen : ∀ i, i < N.luts.length → firstN N + i < (arrL N (unitsOf N)).length := fun i hi => by rw [arrL, arrTo_length]; omega
  have hd : ∀ i, i < N.luts.length → (arrL N (unitsOf N)).getD (firstN N + i) 0 = 1 + mostOf (arrTo N (unitsOf N) i) (N.luts.getD i default).ins := fun i hi => by rw [arrL_tab N _ i hi, hu i hi]
  have h1 : ∀ i, i < N.luts.length → 1 ≤ ((arrL N (unitsOf N)).getD (firstN N + i) 0).toNat := fun i hi => by
    have := mostOf_nonneg (arrTo N (unitsOf N) i) (N.luts.getD i default).ins
    rw [hd i hi]; omega
  have h2 : ∀ i, i < N.luts.length → ∀ k ∈ (N.luts.getD i default).ins, firstN N ≤ k.toNat → ((arrL N (unitsOf N)).getD (firstN N + (k.toNat - firstN N)) 0).toNat < ((arrL N (unitsOf N)).getD (firstN N + i) 0).toNat := fun i hi k hk hf => by
    have hr := (ok.net.range i hi k hk).2
    have hm := foldl_max_mem (fun k => (arrTo N (unitsOf N) i).getD k.toNat 0) (N.luts.getD i default).ins 0 k hk
    have hm' : (arrTo N (unitsOf N) i).getD k.toNat 0 ≤ mostOf (arrTo N (unitsOf N) i) (N.luts.getD i default).ins := hm
    rw [hd i hi, show firstN N + (k.toNat - firstN N) = k.toNat by omega, arrL, arrTo_prefix N _ i N.luts.length (by omega) _ hr]
    have := mostOf_nonneg (arrTo N (unitsOf N) i) (N.luts.getD i default).ins
    omega
  have hmem : ∀ i, i < N.luts.length → (arrL N (unitsOf N)).getD (firstN N + i) 0 ≤ lastOf (arrL N (unitsOf N)) := fun i hi => lastOf_mem _ _ (getD_mem _ _ (hlen i hi))
  have h0 := lastOf_nonneg (arrL N (unitsOf N))
  obtain ⟨S0, hS0⟩ := Int.eq_ofNat_of_zero_le h0
  have hf := iterV_fin ok.net.range _ (now0_length N was inn st ok) (fun i => ((arrL N (unitsOf N)).getD (firstN N + i) 0).toNat) h1 h2 S0 (fun i hi => by
    have := hmem i hi
    show ((arrL N (unitsOf N)).getD (firstN N + i) 0).toNat ≤ S0
    omega)
  have hrest : stepV N (iterV N (now0 N was inn st) S0) = iterV N (now0 N was inn st) S0 := by
    rw [hf]
    exact stepV_fin ok.net.range _ (by rw [now0_take ok.net.ins0 ok.inn ok.st]; exact v0Of_length ok.net.ins0 ok.inn ok.st)
  rcases Nat.lt_or_ge S0 (restS N (now0 N was inn st)) with h | h
  · exact absurd hrest (ok.rests.1.before S0 h)
  · rw [hS0]; omega

/-- Tables that are at rest stay so. -/
theorem still {N : NetV} {inn st : List Bool} (ok : NodesOk N inn.length st.length) :
    WaitOk N (nodesO N inn st).length inn.length st.length ∧ waitO N (nodesO N inn st) inn st = nodesO N inn st ∧ waitS N (nodesO N inn st) inn st = 0 ∧ waitE N (nodesO N inn st) inn st = 0 := by
  have h0 := v0Of_length ok.net.ins0 ok.inn ok.st
  have hV : nodesO N inn st = valTo N (v0Of inn st) N.luts.length := by rw [nodesO, if_pos ok]
  have hl : (nodesO N inn st).length = firstN N + N.luts.length := by rw [hV, valTo_length, h0]
  have hw : WaitOk N (nodesO N inn st).length inn.length st.length := ⟨ok.net, by rw [hl]; omega, ok.inn, ok.st⟩
  have hn : now0 N (nodesO N inn st) inn st = nodesO N inn st := by
    have e : (nodesO N inn st).take (firstN N) = v0Of inn st := by
      rw [hV]
      apply ext_getD
      · rw [List.length_take, valTo_length, h0]; omega
      · intro k hk
        rw [List.length_take, valTo_length, h0] at hk
        have := valTo_prefix N (v0Of inn st) 0 N.luts.length (by omega) k (by omega)
        rw [show valTo N (v0Of inn st) 0 = v0Of inn st from rfl] at this
        rw [← this]
        simp [List.getD, show k < firstN N by omega]
    have : now0 N (nodesO N inn st) inn st = v0Of inn st ++ (nodesO N inn st).drop (firstN N) := by simp [now0, v0Of]
    rw [this, ← e, List.take_append_drop]
  have hr : Rest N (nodesO N inn st) 0 := ⟨by rw [show iterV N (nodesO N inn st) 0 = nodesO N inn st from rfl, hV]; exact stepV_fin ok.net.range _ h0, fun t ht => by omega⟩
  refine ⟨hw, ?_, ?_, ?_⟩
  · rw [waitO, if_pos hw, hn, hr.eq]; rfl
  · rw [waitS, if_pos hw, hn, hr.eq]
  · rw [waitE, if_pos hw]
end Go.Proofs.Ytkcilpkcjhnkaaa
