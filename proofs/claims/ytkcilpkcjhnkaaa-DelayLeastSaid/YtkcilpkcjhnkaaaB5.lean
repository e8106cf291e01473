import Derived.Test.YtkcilpkcjhnkaaaB4
import Derived.Test.YtkcilpkcjhnkaaaT25
import Derived.Test.YtkcilpkcjhnkaaaB3
import Derived.Test.YtkcilpkcjhnkaaaB1
/- P5 -/
namespace Go.Proofs.Ytkcilpkcjhnkaaa
set_option linter.unusedVariables false

theorem NetOk.range {N : NetV} (ok : NetOk N 6) : ∀ i, i < N.luts.length → ∀ k ∈ (N.luts.getD i default).ins, 0 ≤ k ∧ k.toNat < firstN N + i := fun i hi k hk => by
  have := (ok.lut i hi).ins k hk
  have := firstN_eq ok.ins0
  omega

theorem iterV_rest {N : NetV} {now : List Bool} {s : Nat} (h : stepV N (iterV N now s) = iterV N now s) (t : Nat) : iterV N now (s + t) = iterV N now s := by
  induction t with
  | zero => rfl
  | succ t ih => rw [show iterV N now (s + (t + 1)) = stepV N (iterV N now (s + t)) from rfl, ih, h]

theorem v0Of_length {N : NetV} {inn st : List Bool} (h0 : 0 ≤ N.ins) (h1 : (inn.length : Int) = N.ins) (h2 : st.length = N.holds.length) : (v0Of inn st).length = firstN N := by
  have := firstN_eq h0
  simp [v0Of]; omega

theorem now0_take {N : NetV} {was inn st : List Bool} (h0 : 0 ≤ N.ins) (h1 : (inn.length : Int) = N.ins) (h2 : st.length = N.holds.length) : (now0 N was inn st).take (firstN N) = v0Of inn st := by
  have h := v0Of_length h0 h1 h2
  rw [show now0 N was inn st = v0Of inn st ++ was.drop (firstN N) by simp [now0, v0Of], ← h]
  simp

theorem WaitOk.nodes {N : NetV} {n0 n1 n2 : Nat} (ok : WaitOk N n0 n1 n2) : NodesOk N n1 n2 := ⟨ok.net, ok.inn, ok.st⟩

/-- THE STAGE'S: left alone they come to rest at what they are. -/
theorem wait_fin {N : NetV} {was inn st : List Bool} (ok : WaitOk N was.length inn.length st.length) : waitO N was inn st = nodesO N inn st := by
  rw [waitO, if_pos ok, nodesO, if_pos ok.nodes]
  have hr := ok.rests.1.rest
  rw [← iterV_rest hr N.luts.length, ← now0_take (was := was) ok.net.ins0 ok.inn ok.st]
  exact iterV_fin ok.net.range _ (now0_length N was inn st ok) (fun i => i + 1) (fun i _ => by omega) (fun i hi k hk hf => by have := (ok.net.range i hi k hk).2; show k.toNat - firstN N + 1 < i + 1; omega) _ (fun i hi => by show i + 1 ≤ _; omega)

theorem arrTo_prefix (N : NetV) (cost : List Int) (i j : Nat) (h : i ≤ j) (k : Nat) (hk : k < firstN N + i) : (arrTo N cost j).getD k 0 = (arrTo N cost i).getD k 0 := by
  induction j with
  | zero => obtain rfl : i = 0 := by omega
            rfl
  | succ j ih =>
    by_cases e : i = j + 1
    · subst e; rfl
    · simp only [arrTo]
      rw [getD_snoc, if_pos (by rw [arrTo_length]; omega), ih (by omega)]

theorem arrL_tab (N : NetV) (cost : List Int) (i : Nat) (hi : i < N.luts.length) : (arrL N cost).getD (firstN N + i) 0 = cost.getD i 0 + mostOf (arrTo N cost i) (N.luts.getD i default).ins := by
  rw [arrL, arrTo_prefix N cost (i + 1) N.luts.length (by omega) _ (by omega)]
  simp only [arrTo]
  rw [getD_snoc, if_neg (by rw [arrTo_length]; omega), if_pos (by rw [arrTo_length])]

def lastOf (l : List Int) : Int := l.foldl (fun m t => max m t) 0
theorem lastOf_mem (l : List Int) (x : Int) (h : x ∈ l) : x ≤ lastOf l := foldl_max_mem (fun t => t) l 0 x h
theorem lastOf_nonneg (l : List Int) : 0 ≤ lastOf l := foldl_max_ge (fun t => t) l 0
theorem lastOf_take (l : List Int) (j : Nat) (hj : j < l.length) : lastOf (l.take (j + 1)) = max (lastOf (l.take j)) (l.getD j 0) := by
  unfold lastOf
  rw [List.take_succ_eq_append_getElem hj, List.foldl_append]
  simp [List.getD, List.getElem?_eq_getElem hj]
theorem lastOf_le (l : List Int) (B : Int) (h0 : 0 ≤ B) (h : ∀ x ∈ l, x ≤ B) : lastOf l ≤ B := foldl_max_le (fun t => t) B l 0 h0 h

abbrev unitsOf (N : NetV) : List Int := List.replicate N.luts.length 1

theorem WaitOk.units {N : NetV} {n0 n1 n2 : Nat} (ok : WaitOk N n0 n1 n2) : CostOk N (unitsOf N) :=
  ⟨ok.net, by simp, fun c hc => by rw [List.eq_of_mem_replicate hc]; omega⟩

/-- THE STAGE'S: in no more steps than the last one takes, each costing 1. -/
theorem wait_last {N : NetV} {was inn st : List Bool} (ok : WaitOk N was.length inn.length st.length) : ((waitS N was inn st : Nat) : Int) ≤ lastOf (arrO N (unitsOf N)) := by
  rw [waitS, if_pos ok, arrO, if_pos ok.units]
  have hu : ∀ i, i < N.luts.length → (unitsOf N).getD i 0 = 1 := fun i hi => by simp [List.getD, hi]
  have hb := arrTo_bound N (unitsOf N) ok.units.each
  have hlen : ∀ i, i < N.luts.length → firstN N + i < (arrL N (unitsOf N)).length := fun i hi => by rw [arrL, arrTo_length]; omega
  have hd : ∀ i, i < N.luts.length → (arrL N (unitsOf N)).getD (firstN N + i) 0 = 1 + mostOf (arrTo N (unitsOf N) i) (N.luts.getD i default).ins := fun i hi => by rw [arrL_tab N _ i hi, hu i hi]
  have h1 : ∀ i, i < N.luts.length → 1 ≤ ((arrL N (unitsOf N)).getD (firstN N + i) 0).toNat := fun i hi => by
    have := mostOf_nonneg (arrTo N (unitsOf N) i) (N.luts.getD i default).ins
    rw [hd i hi]; omega
  have h2 : ∀ i, i < N.luts.length → ∀ k ∈ (N.luts.getD i default).ins, firstN N ≤ k.toNat → ((arrL N (unitsOf N)).getD (firstN N + (k.toNat - firstN N)) 0).toNat < ((arrL N (unitsOf N)).getD (firstN N + i) 0).toNat := fun i hi k hk hf => by
    have hr := (ok.net.range i hi k hk).2
    have hm := foldl_max_mem (fun k => (arrTo N (unitsOf N) i).getD k.toNat 0) (N.luts.getD i default).ins 0 k hk
    have hm' : (arrTo N (unitsOf N) i).getD k.toNat 0 ≤ mostOf (arrTo N (unitsOf N) i) (N.luts.getD i default).ins := hm
    rw [hd i hi, show firstN N + (k.toNat - firstN N) = k.toNat by omega, arrL, arrTo_prefix N _ i N.luts.length (by omega) _ hr]
    have := mostOf_nonneg (arrTo N (unitsOf N) i) (N.luts.getD i default).ins
    omega
  have hmem : ∀ i, i < N.luts.length → (arrL N (unitsOf N)).getD (firstN N + i) 0 ≤ lastOf (arrL N (unitsOf N)) := fun i hi => lastOf_mem _ _ (getD_mem _ _ (hlen i hi))
  have h0 := lastOf_nonneg (arrL N (unitsOf N))
  obtain ⟨S0, hS0⟩ := Int.eq_ofNat_of_zero_le h0
  have hf := iterV_fin ok.net.range _ (now0_length N was inn st ok) (fun i => ((arrL N (unitsOf N)).getD (firstN N + i) 0).toNat) h1 h2 S0 (fun i hi => by
    have := hmem i hi
    show ((arrL N (unitsOf N)).getD (firstN N + i) 0).toNat ≤ S0
    omega)
  have hrest : stepV N (iterV N (now0 N was inn st) S0) = iterV N (now0 N was inn st) S0 := by
    rw [hf]
    exact stepV_fin ok.net.range _ (by rw [now0_take ok.net.ins0 ok.inn ok.st]; exact v0Of_length ok.net.ins0 ok.inn ok.st)
  rcases Nat.lt_or_ge S0 (restS N (now0 N was inn st)) with h | h
  · exact absurd hrest (ok.rests.1.before S0 h)
  · rw [hS0]; omega

/-- Tables that are at rest stay so. -/
theorem still {N : NetV} {inn st : List Bool} (ok : NodesOk N inn.length st.length) :
    WaitOk N (nodesO N inn st).length inn.length st.length ∧ waitO N (nodesO N inn st) inn st = nodesO N inn st ∧ waitS N (nodesO N inn st) inn st = 0 ∧ waitE N (nodesO N inn st) inn st = 0 := by
  have h0 := v0Of_length ok.net.ins0 ok.inn ok.st
  have hV : nodesO N inn st = valTo N (v0Of inn st) N.luts.length := by rw [nodesO, if_pos ok]
  have hl : (nodesO N inn st).length = firstN N + N.luts.length := by rw [hV, valTo_length, h0]
  have hw : WaitOk N (nodesO N inn st).length inn.length st.length := ⟨ok.net, by rw [hl]; omega, ok.inn, ok.st⟩
  have hn : now0 N (nodesO N inn st) inn st = nodesO N inn st := by
    have e : (nodesO N inn st).take (firstN N) = v0Of inn st := by
      rw [hV]
      apply ext_getD
      · rw [List.length_take, valTo_length, h0]; omega
      · intro k hk
        rw [List.length_take, valTo_length, h0] at hk
        have := valTo_prefix N (v0Of inn st) 0 N.luts.length (by omega) k (by omega)
        rw [show valTo N (v0Of inn st) 0 = v0Of inn st from rfl] at this
        rw [← this]
        simp [List.getD, show k < firstN N by omega]
    have : now0 N (nodesO N inn st) inn st = v0Of inn st ++ (nodesO N inn st).drop (firstN N) := by simp [now0, v0Of]
    rw [this, ← e, List.take_append_drop]
  have hr : Rest N (nodesO N inn st) 0 := ⟨by rw [show iterV N (nodesO N inn st) 0 = nodesO N inn st from rfl, hV]; exact stepV_fin ok.net.range _ h0, fun t ht => by omega⟩
  refine ⟨hw, ?_, ?_, ?_⟩
  · rw [waitO, if_pos hw, hn, hr.eq]; rfl
  · rw [waitS, if_pos hw, hn, hr.eq]
  · rw [waitE, if_pos hw]
end Go.Proofs.Ytkcilpkcjhnkaaa

/- P6 -/
namespace Go.Proofs.Ytkcilpkcjhnkaaa
open Go.RowKit
set_option linter.unusedVariables false

/-- Whether k is there later than m, or is the less of two. -/
def later (a : List Int) (k m : Int) : Bool := decide (a.getD m.toNat 0 < a.getD k.toNat 0) || (decide (a.getD k.toNat 0 = a.getD m.toNat 0) && decide (k < m))
def pickL (a : List Int) (m k : Int) : Int := if later a k m then k else m
/-- The one that is there last, of m and others. -/
def maxL (a : List Int) (m : Int) (l : List Int) : Int := l.foldl (pickL a) m
def latestV (a : List Int) : List Int → Int
  | [] => -1
  | k :: l => maxL a k l

theorem later_true {a : List Int} {k m : Int} (h : later a k m = true) : a.getD m.toNat 0 ≤ a.getD k.toNat 0 := by
  simp only [later, Bool.or_eq_true, decide_eq_true_eq, Bool.and_eq_true] at h; omega
theorem later_false {a : List Int} {k m : Int} (h : later a k m = false) : a.getD k.toNat 0 ≤ a.getD m.toNat 0 := by
  simp only [later, Bool.or_eq_false_iff, decide_eq_false_iff_not] at h; omega

theorem pickL_ge (a : List Int) (m k : Int) : a.getD m.toNat 0 ≤ a.getD (pickL a m k).toNat 0 ∧ a.getD k.toNat 0 ≤ a.getD (pickL a m k).toNat 0 := by
  unfold pickL
  cases h : later a k m
  · rw [if_neg (by simp)]; exact ⟨Int.le_refl _, later_false h⟩
  · rw [if_pos rfl]; exact ⟨later_true h, Int.le_refl _⟩

theorem pickL_mem (a : List Int) (m k : Int) : pickL a m k = m ∨ pickL a m k = k := by
  unfold pickL; split <;> simp

theorem maxL_mem (a : List Int) : ∀ (l : List Int) (m : Int), maxL a m l = m ∨ maxL a m l ∈ l
  | [], m => .inl rfl
  | k :: l, m => by
    have h := maxL_mem a l (pickL a m k)
    have e : maxL a m (k :: l) = maxL a (pickL a m k) l := rfl
    rw [e]
    rcases h with h | h
    · rw [h]
      rcases pickL_mem a m k with h' | h'
      · exact .inl h'
      · exact .inr (by rw [h']; simp)
    · exact .inr (by simp [h])

theorem maxL_ge (a : List Int) : ∀ (l : List Int) (m : Int), a.getD m.toNat 0 ≤ a.getD (maxL a m l).toNat 0 ∧ ∀ k ∈ l, a.getD k.toNat 0 ≤ a.getD (maxL a m l).toNat 0
  | [], m => ⟨Int.le_refl _, fun k h => by cases h⟩
  | k :: l, m => by
    have h := maxL_ge a l (pickL a m k)
    have g := pickL_ge a m k
    have e : maxL a m (k :: l) = maxL a (pickL a m k) l := rfl
    rw [e]
    refine ⟨Int.le_trans g.1 h.1, fun x hx => ?_⟩
    rcases List.mem_cons.1 hx with rfl | hx
    · exact Int.le_trans g.2 h.1
    · exact h.2 x hx

theorem latestV_mem (a : List Int) (l : List Int) (h : l ≠ []) : latestV a l ∈ l := by
  cases l with
  | nil => exact absurd rfl h
  | cons k l => rcases maxL_mem a l k with h | h <;> simp [latestV, h]

theorem latestV_ge (a : List Int) (l : List Int) : ∀ k ∈ l, a.getD k.toNat 0 ≤ a.getD (latestV a l).toNat 0 := by
  cases l with
  | nil => intro k h; cases h
  | cons x l =>
    intro k hk
    have h := maxL_ge a l x
    rcases List.mem_cons.1 hk with rfl | hk
    · exact h.1
    · exact h.2 k hk

/-- The inputs of a node; none, where it is no table. -/
def insOf (N : NetV) (k : Int) : List Int := if (firstN N : Int) ≤ k then (N.luts.getD (k.toNat - firstN N) default).ins else []

/-- The way from some nodes on, the last one first. -/
inductive Way (N : NetV) (a : List Int) : List Int → List Int → Prop
  | stop : Way N a [] []
  | go {fr l : List Int} (h : fr ≠ []) (r : Way N a (insOf N (latestV a fr)) l) : Way N a fr (latestV a fr :: l)

theorem Way.unique {N : NetV} {a fr l : List Int} (h : Way N a fr l) : ∀ {l'}, Way N a fr l' → l = l' := by
  induction h with
  | stop => intro l' h; cases h with
    | stop => rfl
    | go h _ => exact absurd rfl h
  | go h _ ih => intro l' h'; cases h' with
    | stop => exact absurd rfl h
    | go _ r => rw [ih r]

theorem insOf_range {N : NetV} (ok : NetOk N 6) (k : Int) (h : k < (firstN N + N.luts.length : Nat)) : ∀ x ∈ insOf N k, 0 ≤ x ∧ x < k := by
  intro x hx
  unfold insOf at hx
  split at hx
  · have := ok.range (k.toNat - firstN N) (by omega) x hx
    omega
  · cases hx

theorem Way.ex {N : NetV} (ok : NetOk N 6) (a : List Int) (B : Nat) : B ≤ firstN N + N.luts.length → ∀ fr : List Int, (∀ x ∈ fr, 0 ≤ x ∧ x < (B : Int)) → ∃ l, Way N a fr l ∧ l.length ≤ B ∧ ∀ x ∈ l, 0 ≤ x ∧ x < (B : Int) := by
  induction B using Nat.strongRecOn with
  | _ B ih =>
    intro hB fr hfr
    by_cases h : fr = []
    · subst h; exact ⟨[], .stop, by simp, fun x hx => by cases hx⟩
    · have hm := hfr _ (latestV_mem a fr h)
      obtain ⟨l, hl, hlen, hr⟩ := ih (latestV a fr).toNat (by omega) (by omega) (insOf N (latestV a fr)) (fun x hx => by
        have := insOf_range ok _ (by omega) x hx
        omega)
      refine ⟨_, .go h hl, by rw [List.length_cons]; omega, fun x hx => ?_⟩
      rcases List.mem_cons.1 hx with rfl | hx
      · exact hm
      · have := hr x hx; omega

def endsOf (N : NetV) : List Int := N.outs ++ N.holds.map HoldV.d

theorem endsOf_range {N : NetV} (ok : NetOk N 6) : ∀ x ∈ endsOf N, 0 ≤ x ∧ x < ((firstN N + N.luts.length : Nat) : Int) := by
  intro x hx
  have h0 := firstN_eq ok.ins0
  rcases List.mem_append.1 hx with h | h
  · have := ok.outs x h; omega
  · obtain ⟨y, hy, rfl⟩ := List.mem_map.1 h
    have := ok.holds y hy; omega

noncomputable def wayOf (N : NetV) (cost : List Int) : List Int :=
  open Classical in if h : ∃ l, Way N (arrL N cost) (endsOf N) l then h.choose else []

theorem wayOf_is {N : NetV} {cost : List Int} (ok : NetOk N 6) : Way N (arrL N cost) (endsOf N) (wayOf N cost) ∧ (wayOf N cost).length ≤ firstN N + N.luts.length ∧ ∀ x ∈ wayOf N cost, 0 ≤ x ∧ x < ((firstN N + N.luts.length : Nat) : Int) := by
  obtain ⟨l, hl, hlen, hr⟩ := Way.ex ok (arrL N cost) (firstN N + N.luts.length) (Nat.le_refl _) (endsOf N) (endsOf_range ok)
  have hx : ∃ l, Way N (arrL N cost) (endsOf N) l := ⟨l, hl⟩
  have e : wayOf N cost = l := by
    unfold wayOf
    rw [dif_pos hx]
    exact hx.choose_spec.unique hl
  rw [e]; exact ⟨hl, hlen, hr⟩

def headT (a : List Int) : List Int → Int
  | [] => 0
  | k :: _ => a.getD k.toNat 0

noncomputable def pathO (N : NetV) (cost : List Int) : List Int := open Classical in if CostOk N cost then (wayOf N cost).reverse else []
noncomputable def pathT (N : NetV) (cost : List Int) : Int := open Classical in if CostOk N cost then headT (arrL N cost) (wayOf N cost) else 0

/-- What Path hands on. -/
def NewPath (w : World) (l : List Int) (t c : Int) (e : Ending) (w' : World) : Prop :=
  ∃ v, e = .returned (.tuple #[v, .int .i64 t, .int .i64 c]) ∧ w'.ownsRow w.heap.size 3 1 v l.length (l.map (Value.int .i64)) ∧ Below w.heap.size w w'
end Go.Proofs.Ytkcilpkcjhnkaaa

/- P7 -/
namespace Go.Proofs.Ytkcilpkcjhnkaaa
open Go.RowKit
set_option linter.unusedVariables false

/-- What a node of a way takes by itself. -/
def costK (N : NetV) (cost : List Int) (k : Int) : Int := if (firstN N : Int) ≤ k then cost.getD (k.toNat - firstN N) 0 else 0
def sumR (f : Int → Int) : List Int → Int
  | [] => 0
  | k :: l => f k + sumR f l
def sumL (f : Int → Int) (l : List Int) : Int := l.foldl (fun s k => s + f k) 0

theorem sumL_snoc (f : Int → Int) (l : List Int) (x : Int) : sumL f (l ++ [x]) = sumL f l + f x := by simp [sumL, List.foldl_append]
theorem sumL_reverse (f : Int → Int) (l : List Int) : sumL f l.reverse = sumR f l := by
  induction l with
  | nil => rfl
  | cons k l ih => rw [List.reverse_cons, sumL_snoc, ih, sumR]; omega
theorem sumL_take (f : Int → Int) (l : List Int) (j : Nat) (hj : j < l.length) : sumL f (l.take (j + 1)) = sumL f (l.take j) + f (l.getD j 0) := by
  rw [List.take_succ_eq_append_getElem hj, sumL_snoc]
  simp [List.getD, List.getElem?_eq_getElem hj]

theorem Way.nil_iff {N : NetV} {a fr l : List Int} (h : Way N a fr l) : l = [] ↔ fr = [] := by
  cases h with
  | stop => simp
  | go h _ => simp [h]

theorem Way.inv {N : NetV} {a fr l : List Int} (h : Way N a fr l) : (l = [] ∧ fr = []) ∨ (∃ l', l = latestV a fr :: l' ∧ fr ≠ []) := by
  cases h with
  | stop => exact .inl ⟨rfl, rfl⟩
  | go h _ => exact .inr ⟨_, rfl, h⟩

/-- Each node but the last is an input of the one ahead of it; the last has none. -/
theorem Way.chain {N : NetV} {a fr l : List Int} (h : Way N a fr l) : ∀ i, i < l.length →
    (i + 1 < l.length → l.getD (i + 1) 0 ∈ insOf N (l.getD i 0)) ∧ (i + 1 = l.length → insOf N (l.getD i 0) = []) := by
  induction h with
  | stop => intro i hi; simp at hi
  | @go fr l h r ih =>
    intro i hi
    cases i with
    | zero =>
      rw [List.getD_cons_zero]
      constructor
      · intro h1
        rw [List.getD_cons_succ]
        rcases r.inv with ⟨e, _⟩ | ⟨l', e, h'⟩
        · rw [e] at h1; simp at h1
        · rw [e, List.getD_cons_zero]; exact latestV_mem _ _ h'
      · intro h1
        rw [← r.nil_iff]
        simpa using h1
    | succ i =>
      have := ih i (by simpa using hi)
      rw [List.getD_cons_succ, List.getD_cons_succ]
      refine ⟨fun h1 => this.1 (by simpa using h1), fun h1 => this.2 (by simpa using h1)⟩

theorem arrL_low (N : NetV) (cost : List Int) (k : Nat) (hk : k < firstN N) : (arrL N cost).getD k 0 = 0 := by
  rw [arrL, arrTo_prefix N cost 0 N.luts.length (by omega) k (by omega), arrTo]
  simp [List.getD, hk]

theorem mostOf_latest {N : NetV} {cost : List Int} (ok : CostOk N cost) (i : Nat) (hi : i < N.luts.length) :
    mostOf (arrTo N cost i) (N.luts.getD i default).ins = if (N.luts.getD i default).ins = [] then 0 else (arrL N cost).getD (latestV (arrL N cost) (N.luts.getD i default).ins).toNat 0 := by
  have hr := ok.net.range i hi
  have hpre : ∀ k ∈ (N.luts.getD i default).ins, (arrTo N cost i).getD k.toNat 0 = (arrL N cost).getD k.toNat 0 := fun k hk => by
    rw [arrL, arrTo_prefix N cost i N.luts.length (by omega) _ (hr k hk).2]
  have hb := arrTo_bound N cost ok.each N.luts.length
  split
  · rename_i h; rw [h]; rfl
  · rename_i h
    have hmem := latestV_mem (arrL N cost) _ h
    apply Int.le_antisymm
    · refine foldl_max_le _ _ _ 0 ?_ (fun k hk => ?_)
      · have hlt := (hr _ hmem).2
        have := hb _ (getD_mem (arrTo N cost N.luts.length) 0 (show (latestV (arrL N cost) (N.luts.getD i default).ins).toNat < _ by rw [arrTo_length]; omega))
        exact this.1
      · show (arrTo N cost i).getD k.toNat 0 ≤ _
        rw [hpre k hk]
        exact latestV_ge _ _ k hk
    · have := foldl_max_mem (fun k => (arrTo N cost i).getD k.toNat 0) (N.luts.getD i default).ins 0 _ hmem
      have h2 := hpre _ hmem
      simp only [h2] at this
      exact this

theorem node_sum {N : NetV} {cost : List Int} (ok : CostOk N cost) (k : Int) (h0 : 0 ≤ k) (h1 : k < ((firstN N + N.luts.length : Nat) : Int)) :
    (arrL N cost).getD k.toNat 0 = costK N cost k + (if insOf N k = [] then 0 else (arrL N cost).getD (latestV (arrL N cost) (insOf N k)).toNat 0) := by
  by_cases hf : (firstN N : Int) ≤ k
  · have e : insOf N k = (N.luts.getD (k.toNat - firstN N) default).ins := by rw [insOf, if_pos hf]
    rw [e, ← mostOf_latest ok _ (by omega), costK, if_pos hf, ← arrL_tab N cost _ (by omega)]
    congr 1; omega
  · have e : insOf N k = [] := by rw [insOf, if_neg hf]
    rw [e, costK, if_neg hf, arrL_low N cost _ (by omega)]; rfl

theorem Way.sum {N : NetV} {cost : List Int} (ok : CostOk N cost) {fr l : List Int} (h : Way N (arrL N cost) fr l) : (∀ x ∈ fr, 0 ≤ x ∧ x < ((firstN N + N.luts.length : Nat) : Int)) → headT (arrL N cost) l = sumR (costK N cost) l := by
  induction h with
  | stop => intro _; rfl
  | @go fr l h r ih =>
    intro hfr
    have hm := hfr _ (latestV_mem (arrL N cost) fr h)
    have hi := insOf_range ok.net _ hm.2
    have := ih (fun x hx => by have := hi x hx; omega)
    show (arrL N cost).getD (latestV (arrL N cost) fr).toNat 0 = costK N cost (latestV (arrL N cost) fr) + sumR (costK N cost) l
    rw [← this, node_sum ok _ hm.1 hm.2]
    congr 1
    rcases r.inv with ⟨e, h'⟩ | ⟨l', e, h'⟩
    · rw [if_pos h', e]; rfl
    · rw [if_neg h', e]; rfl

/-- The way as it is told: what each node on it is. -/
structure WayOk (N : NetV) (cost wy : List Int) (tot : Int) : Prop where
  range : ∀ i, i < wy.length → 0 ≤ wy.getD i 0 ∧ wy.getD i 0 < ((firstN N + N.luts.length : Nat) : Int)
  tab : ∀ i, 0 < i → i < wy.length → (firstN N : Int) ≤ wy.getD i 0 ∧ wy.getD (i - 1) 0 ∈ insOf N (wy.getD i 0)
  start : 0 < wy.length → insOf N (wy.getD 0 0) = []
  sum : sumL (costK N cost) wy = tot
  nil : wy = [] ↔ endsOf N = []

theorem getD_revI (l : List Int) (t : Nat) (h : t < l.length) : l.reverse.getD t 0 = l.getD (l.length - 1 - t) 0 := by
  simp [List.getD, List.getElem?_reverse h]

theorem way_ok {N : NetV} {cost : List Int} (ok : CostOk N cost) : WayOk N cost (wayOf N cost).reverse (headT (arrL N cost) (wayOf N cost)) := by
  obtain ⟨hw, hl, hr⟩ := wayOf_is (cost := cost) ok.net
  have hc := hw.chain
  have hs := hw.sum ok (endsOf_range ok.net)
  have hn := hw.nil_iff
  generalize wayOf N cost = l at hw hl hr hc hs hn
  refine ⟨fun i hi => ?_, fun i h0 hi => ?_, fun h0 => ?_, ?_, ?_⟩
  · rw [List.length_reverse] at hi
    rw [getD_revI l i hi]
    exact hr _ (getD_mem l 0 (by omega))
  · rw [List.length_reverse] at hi
    rw [getD_revI l i hi, getD_revI l (i - 1) (by omega)]
    have := (hc (l.length - 1 - i) (by omega)).1 (by omega)
    rw [show l.length - 1 - i + 1 = l.length - 1 - (i - 1) by omega] at this
    refine ⟨?_, this⟩
    by_cases h : (firstN N : Int) ≤ l.getD (l.length - 1 - i) 0
    · exact h
    · rw [insOf, if_neg h] at this; cases this
  · rw [List.length_reverse] at h0
    rw [getD_revI l 0 h0]
    exact (hc (l.length - 1 - 0) (by omega)).2 (by omega)
  · rw [sumL_reverse]; exact hs.symm
  · rw [List.reverse_eq_nil_iff]; exact hn

theorem costK_bound {N : NetV} {cost : List Int} (ok : CostOk N cost) (k : Int) : 0 ≤ costK N cost k ∧ costK N cost k ≤ 1048576 := by
  unfold costK
  split
  · by_cases h : k.toNat - firstN N < cost.length
    · exact ok.each _ (getD_mem _ _ h)
    · simp [List.getD, List.getElem?_eq_none (Nat.le_of_not_lt h)]
  · omega

theorem sumL_bound (f : Int → Int) (h : ∀ k, 0 ≤ f k ∧ f k ≤ 1048576) (l : List Int) (j : Nat) (hj : j ≤ l.length) : 0 ≤ sumL f (l.take j) ∧ sumL f (l.take j) ≤ 1048576 * j := by
  induction j with
  | zero => simp [sumL]
  | succ j ih =>
    have := ih (by omega)
    have := h (l.getD j 0)
    rw [sumL_take f l j (by omega)]; omega
end Go.Proofs.Ytkcilpkcjhnkaaa

/- P8 -/
namespace Go.Proofs.Ytkcilpkcjhnkaaa
open Go.RowKit
set_option linter.unusedVariables false

/-- When each node has to be there, of those that something asks for. -/
abbrev Need := List (Option Int)

def askM (M : Need) (k t : Int) : Need :=
  match M.getD k.toNat none with
  | none => M.set k.toNat (some t)
  | some was => if t < was then M.set k.toNat (some t) else M

theorem askM_length (M : Need) (k t : Int) : (askM M k t).length = M.length := by
  unfold askM; split
  · simp
  · split <;> simp

def askAll (M : Need) (ks : List Int) (t : Int) : Need := ks.foldl (fun M k => askM M k t) M
def needOf (M : Need) (k : Nat) : Int := (M.getD k none).getD 0
def askIns (M : Need) (ks : List Int) (node : Nat) (c : Int) : Need := ks.foldl (fun M k => askM M k (needOf M node - c)) M
def openM (M : Need) (node : Nat) (till : Int) : Need := if (M.getD node none).isNone then M.set node (some till) else M
def tabM (N : NetV) (cost : List Int) (till : Int) (M : Need) (i : Nat) : Need :=
  askIns (openM M (firstN N + i) till) (N.luts.getD i default).ins (firstN N + i) (cost.getD i 0)
def backM (N : NetV) (cost : List Int) (till : Int) (M : Need) : Nat → Need
  | 0 => M
  | j + 1 => tabM N cost till (backM N cost till M j) (N.luts.length - 1 - j)
def slackM (N : NetV) (cost : List Int) (till : Int) : Need :=
  backM N cost till (askAll (List.replicate (firstN N + N.luts.length) none) (endsOf N) till) N.luts.length
def slackL (N : NetV) (cost a : List Int) (till : Int) : List Int :=
  (List.range (firstN N + N.luts.length)).map fun k => ((slackM N cost till).getD k none).getD till - a.getD k 0

theorem askAll_length (ks : List Int) (t : Int) : ∀ M : Need, (askAll M ks t).length = M.length := by
  induction ks with
  | nil => intro M; rfl
  | cons k ks ih => intro M; rw [show askAll M (k :: ks) t = askAll (askM M k t) ks t from rfl, ih, askM_length]
theorem askIns_length (ks : List Int) (node : Nat) (c : Int) : ∀ M : Need, (askIns M ks node c).length = M.length := by
  induction ks with
  | nil => intro M; rfl
  | cons k ks ih => intro M; rw [show askIns M (k :: ks) node c = askIns (askM M k (needOf M node - c)) ks node c from rfl, ih, askM_length]
theorem openM_length (M : Need) (node : Nat) (t : Int) : (openM M node t).length = M.length := by unfold openM; split <;> simp
theorem backM_length (N : NetV) (cost : List Int) (t : Int) (M : Need) (j : Nat) : (backM N cost t M j).length = M.length := by
  induction j with
  | zero => rfl
  | succ j ih => rw [backM, tabM, askIns_length, openM_length, ih]

theorem askAll_take (M : Need) (ks : List Int) (t : Int) (j : Nat) (hj : j < ks.length) : askAll M (ks.take (j + 1)) t = askM (askAll M (ks.take j) t) (ks.getD j 0) t := by
  unfold askAll
  rw [List.take_succ_eq_append_getElem hj, List.foldl_append]
  simp [List.getD, List.getElem?_eq_getElem hj]
theorem askIns_take (M : Need) (ks : List Int) (node : Nat) (c : Int) (j : Nat) (hj : j < ks.length) : askIns M (ks.take (j + 1)) node c = askM (askIns M (ks.take j) node c) (ks.getD j 0) (needOf (askIns M (ks.take j) node c) node - c) := by
  unfold askIns
  rw [List.take_succ_eq_append_getElem hj, List.foldl_append]
  simp [List.getD, List.getElem?_eq_getElem hj]

/-- All that is asked lies between two times. -/
def Within (M : Need) (lo hi : Int) : Prop := ∀ k v, M.getD k none = some v → lo ≤ v ∧ v ≤ hi

theorem getD_setO (M : Need) (k : Nat) (o : Option Int) (j : Nat) : (M.set k o).getD j none = if j = k ∧ k < M.length then o else M.getD j none := by
  by_cases h : j = k
  · subst h
    by_cases hl : j < M.length
    · rw [if_pos ⟨rfl, hl⟩]; simp [List.getD, hl]
    · rw [if_neg (fun h => hl h.2)]; simp [List.getD, hl]
  · rw [if_neg (fun e => h e.1)]
    simp [List.getD, List.getElem?_set_ne (Ne.symm h)]

theorem Within.set {M : Need} {lo hi : Int} (h : Within M lo hi) (k : Nat) (t : Int) (ht : lo ≤ t ∧ t ≤ hi) : Within (M.set k (some t)) lo hi := by
  intro j v hv
  rw [getD_setO] at hv
  split at hv
  · cases hv; exact ht
  · exact h j v hv

theorem Within.ask {M : Need} {lo hi : Int} (h : Within M lo hi) (k t : Int) (ht : lo ≤ t ∧ t ≤ hi) : Within (askM M k t) lo hi := by
  unfold askM
  split
  · exact h.set _ _ ht
  · split
    · exact h.set _ _ ht
    · exact h

theorem Within.mono {M : Need} {lo lo' hi : Int} (h : Within M lo hi) (hl : lo' ≤ lo) : Within M lo' hi := fun k v hv => by
  have := h k v hv; omega

theorem Within.askAll {lo hi : Int} (t : Int) (ht : lo ≤ t ∧ t ≤ hi) (ks : List Int) : ∀ {M : Need}, Within M lo hi → Within (Ytkcilpkcjhnkaaa.askAll M ks t) lo hi := by
  induction ks with
  | nil => intro M h; exact h
  | cons k ks ih => intro M h; exact ih (h.ask k t ht)

theorem Within.open {M : Need} {lo hi : Int} (h : Within M lo hi) (node : Nat) (t : Int) (ht : lo ≤ t ∧ t ≤ hi) : Within (openM M node t) lo hi := by
  unfold openM; split
  · exact h.set _ _ ht
  · exact h

theorem openM_some (M : Need) (node : Nat) (t : Int) (hn : node < M.length) : ∃ v, (openM M node t).getD node none = some v := by
  unfold openM
  cases h : M.getD node none with
  | none => rw [if_pos (by rfl), getD_setO, if_pos ⟨rfl, hn⟩]; exact ⟨_, rfl⟩
  | some v => rw [if_neg (by simp), h]; exact ⟨_, rfl⟩

theorem askM_other (M : Need) (k t : Int) (j : Nat) (h : j ≠ k.toNat) : (askM M k t).getD j none = M.getD j none := by
  unfold askM
  split
  · rw [getD_setO, if_neg (fun e => h e.1)]
  · split
    · rw [getD_setO, if_neg (fun e => h e.1)]
    · rfl

/-- While a table's inputs are asked for, the table itself stays as it is. -/
theorem askIns_node (M : Need) (ks : List Int) (node : Nat) (c v : Int) (hv : M.getD node none = some v) (hk : ∀ k ∈ ks, k.toNat ≠ node) (j : Nat) (hj : j ≤ ks.length) : (askIns M (ks.take j) node c).getD node none = some v := by
  induction j with
  | zero => exact hv
  | succ j ih =>
    rw [askIns_take M ks node c j (by omega), askM_other _ _ _ _ (fun e => hk _ (getD_mem ks 0 (by omega)) e.symm)]
    exact ih (by omega)

theorem askIns_within {M : Need} {lo hi : Int} (h : Within M lo hi) (ks : List Int) (node : Nat) (c v : Int) (hc : 0 ≤ c ∧ c ≤ 1048576) (hv : M.getD node none = some v) (hk : ∀ k ∈ ks, k.toNat ≠ node) (j : Nat) (hj : j ≤ ks.length) :
    Within (askIns M (ks.take j) node c) (lo - 1048576) hi := by
  induction j with
  | zero => exact h.mono (by omega)
  | succ j ih =>
    rw [askIns_take M ks node c j (by omega)]
    have hn := askIns_node M ks node c v hv hk j (by omega)
    have hb := h node v hv
    refine (ih (by omega)).ask _ _ ?_
    rw [needOf, hn]
    simp only [Option.getD_some]
    omega
end Go.Proofs.Ytkcilpkcjhnkaaa
