import Derived.Test.YtkcilpkcjhnkaaaP2
namespace Go.Proofs.Ytkcilpkcjhnkaaa
set_option linter.unusedSectionVars false

/-- The row of a table at some values, as far as its first j inputs say. -/
def rowTo (ins : List Int) (v : List Bool) : Nat → Nat
  | 0 => 0
  | j + 1 => rowTo ins v j + (if v.getD (ins.getD j 0).toNat false then 2 ^ j else 0)

theorem rowTo_lt (ins : List Int) (v : List Bool) (j : Nat) : rowTo ins v j < 2 ^ j := by
  induction j with
  | zero => simp [rowTo]
  | succ j ih =>
    simp only [rowTo, Nat.pow_succ]
    split <;> omega

def tabVal (l : LutV) (v : List Bool) : Bool := l.tab.toNat.testBit (rowTo l.ins v l.ins.length)

theorem rowTo_congr (ins : List Int) (v v' : List Bool) (h : ∀ k ∈ ins, v.getD k.toNat false = v'.getD k.toNat false) (j : Nat) (hj : j ≤ ins.length) : rowTo ins v j = rowTo ins v' j := by
  induction j with
  | zero => rfl
  | succ j ih =>
    simp only [rowTo]
    rw [ih (by omega), h _ (getD_mem ins 0 (by omega))]

theorem tabVal_congr (l : LutV) (v v' : List Bool) (h : ∀ k ∈ l.ins, v.getD k.toNat false = v'.getD k.toNat false) : tabVal l v = tabVal l v' := by
  unfold tabVal
  rw [rowTo_congr _ _ _ h _ (Nat.le_refl _)]

/-- Every table told anew. -/
def stepV (N : NetV) (now : List Bool) : List Bool := now.take (firstN N) ++ N.luts.map fun l => tabVal l now

def iterV (N : NetV) (now : List Bool) : Nat → List Bool
  | 0 => now
  | s + 1 => stepV N (iterV N now s)

/-- The values in order, of those ahead of table i. -/
def valTo (N : NetV) (v0 : List Bool) : Nat → List Bool
  | 0 => v0
  | i + 1 => valTo N v0 i ++ [tabVal (N.luts.getD i default) (valTo N v0 i)]

theorem valTo_length (N : NetV) (v0 : List Bool) (i : Nat) : (valTo N v0 i).length = v0.length + i := by
  induction i with
  | zero => rfl
  | succ i ih => simp [valTo, ih]; omega

theorem ext_getD {l m : List Bool} (h : l.length = m.length) (h' : ∀ i, i < l.length → l.getD i false = m.getD i false) : l = m := by
  apply List.ext_getElem h
  intro i h1 h2
  have := h' i h1
  simpa [List.getD, List.getElem?_eq_getElem h1, List.getElem?_eq_getElem h2] using this

theorem getD_append_left' (l m : List Bool) (i : Nat) (h : i < l.length) : (l ++ m).getD i false = l.getD i false := by
  simp [List.getD, List.getElem?_append_left h]

theorem getD_append_right' (l m : List Bool) (i : Nat) : (l ++ m).getD (l.length + i) false = m.getD i false := by
  rw [List.getD, List.getElem?_append_right (by omega)]
  simp [List.getD]

theorem valTo_prefix (N : NetV) (v0 : List Bool) (i j : Nat) (h : i ≤ j) (k : Nat) (hk : k < v0.length + i) : (valTo N v0 j).getD k false = (valTo N v0 i).getD k false := by
  induction j with
  | zero => obtain rfl : i = 0 := by omega
            rfl
  | succ j ih =>
    by_cases e : i = j + 1
    · subst e; rfl
    · simp only [valTo]
      rw [getD_append_left' _ _ _ (by rw [valTo_length]; omega), ih (by omega)]

section
variable {N : NetV} (hin : ∀ i, i < N.luts.length → ∀ k ∈ (N.luts.getD i default).ins, 0 ≤ k ∧ k.toNat < firstN N + i)
include hin

theorem fin_tab (v0 : List Bool) (h0 : v0.length = firstN N) (i : Nat) (hi : i < N.luts.length) :
    (valTo N v0 N.luts.length).getD (firstN N + i) false = tabVal (N.luts.getD i default) (valTo N v0 N.luts.length) := by
  rw [valTo_prefix N v0 (i + 1) N.luts.length (by omega) _ (by omega)]
  simp only [valTo]
  have := getD_append_right' (valTo N v0 i) [tabVal (N.luts.getD i default) (valTo N v0 i)] 0
  rw [valTo_length, h0, Nat.add_zero] at this
  rw [this]
  simp only [List.getD_cons_zero]
  refine tabVal_congr _ _ _ fun k hk => ?_
  exact (valTo_prefix N v0 i N.luts.length (by omega) _ (by rw [h0]; exact (hin i hi k hk).2)).symm

theorem stepV_length (now : List Bool) (h : now.length = firstN N + N.luts.length) : (stepV N now).length = firstN N + N.luts.length := by
  simp [stepV, h]

theorem iterV_length (now : List Bool) (h : now.length = firstN N + N.luts.length) (s : Nat) : (iterV N now s).length = firstN N + N.luts.length := by
  induction s with
  | zero => exact h
  | succ s ih => exact stepV_length hin _ ih

theorem stepV_low (now : List Bool) (h : now.length = firstN N + N.luts.length) (k : Nat) (hk : k < firstN N) : (stepV N now).getD k false = now.getD k false := by
  unfold stepV
  rw [getD_append_left' _ _ _ (by rw [List.length_take]; omega)]
  simp [List.getD, hk]

theorem stepV_tab (now : List Bool) (h : now.length = firstN N + N.luts.length) (i : Nat) (hi : i < N.luts.length) : (stepV N now).getD (firstN N + i) false = tabVal (N.luts.getD i default) now := by
  unfold stepV
  have hl : (now.take (firstN N)).length = firstN N := by rw [List.length_take]; omega
  have := getD_append_right' (now.take (firstN N)) (N.luts.map fun l => tabVal l now) i
  rw [hl] at this
  rw [this]
  simp [List.getD, hi]

theorem iterV_low (now : List Bool) (h : now.length = firstN N + N.luts.length) (s k : Nat) (hk : k < firstN N) : (iterV N now s).getD k false = now.getD k false := by
  induction s with
  | zero => rfl
  | succ s ih => rw [show iterV N now (s + 1) = stepV N (iterV N now s) from rfl, stepV_low hin _ (iterV_length hin now h s) k hk, ih]

/-- A table is at rest as soon as its depth has gone by. -/
theorem settle (now : List Bool) (h : now.length = firstN N + N.luts.length) (d : Nat → Nat) (hd1 : ∀ i, i < N.luts.length → 1 ≤ d i)
    (hd2 : ∀ i, i < N.luts.length → ∀ k ∈ (N.luts.getD i default).ins, firstN N ≤ k.toNat → d (k.toNat - firstN N) < d i) :
    ∀ i, i < N.luts.length → ∀ s, d i ≤ s → (iterV N now s).getD (firstN N + i) false = (valTo N (now.take (firstN N)) N.luts.length).getD (firstN N + i) false := by
  have h0 : (now.take (firstN N)).length = firstN N := by rw [List.length_take]; omega
  intro i
  induction i using Nat.strongRecOn with
  | _ i ih =>
    intro hi s hs
    have h1 := hd1 i hi
    obtain ⟨s', rfl⟩ : ∃ s', s = s' + 1 := ⟨s - 1, by omega⟩
    rw [show iterV N now (s' + 1) = stepV N (iterV N now s') from rfl, stepV_tab hin _ (iterV_length hin now h s') i hi, fin_tab hin _ h0 i hi]
    refine tabVal_congr _ _ _ fun k hk => ?_
    have hk' := (hin i hi k hk).2
    by_cases hf : k.toNat < firstN N
    · rw [iterV_low hin now h s' _ hf, valTo_prefix N _ 0 N.luts.length (by omega) _ (by rw [h0]; omega)]
      simp [valTo, List.getD, hf]
    · have := ih (k.toNat - firstN N) (by omega) (by omega) s' (by have := hd2 i hi k hk (by omega); omega)
      rwa [show firstN N + (k.toNat - firstN N) = k.toNat by omega] at this

theorem iterV_fin (now : List Bool) (h : now.length = firstN N + N.luts.length) (d : Nat → Nat) (hd1 : ∀ i, i < N.luts.length → 1 ≤ d i)
    (hd2 : ∀ i, i < N.luts.length → ∀ k ∈ (N.luts.getD i default).ins, firstN N ≤ k.toNat → d (k.toNat - firstN N) < d i) (s : Nat) (hs : ∀ i, i < N.luts.length → d i ≤ s) :
    iterV N now s = valTo N (now.take (firstN N)) N.luts.length := by
  have h0 : (now.take (firstN N)).length = firstN N := by rw [List.length_take]; omega
  apply ext_getD
  · rw [iterV_length hin now h, valTo_length, h0]
  · intro k hk
    rw [iterV_length hin now h] at hk
    by_cases hf : k < firstN N
    · rw [iterV_low hin now h s _ hf, valTo_prefix N _ 0 N.luts.length (by omega) _ (by rw [h0]; omega)]
      simp [valTo, List.getD, hf]
    · have := settle hin now h d hd1 hd2 (k - firstN N) (by omega) s (hs _ (by omega))
      rwa [show firstN N + (k - firstN N) = k by omega] at this

/-- The values in order are at rest. -/
theorem stepV_fin (v0 : List Bool) (h0 : v0.length = firstN N) : stepV N (valTo N v0 N.luts.length) = valTo N v0 N.luts.length := by
  have hl : (valTo N v0 N.luts.length).length = firstN N + N.luts.length := by rw [valTo_length, h0]
  apply ext_getD
  · rw [stepV_length hin _ hl, hl]
  · intro k hk
    rw [stepV_length hin _ hl] at hk
    by_cases hf : k < firstN N
    · rw [stepV_low hin _ hl _ hf]
    · have := stepV_tab hin _ hl (k - firstN N) (by omega)
      rw [show firstN N + (k - firstN N) = k by omega] at this
      rw [this, ← fin_tab hin v0 h0 (k - firstN N) (by omega), show firstN N + (k - firstN N) = k by omega]

/-- No more steps than tables change anything. -/
theorem rest_at (now : List Bool) (h : now.length = firstN N + N.luts.length) (s : Nat) (hs : N.luts.length ≤ s) : stepV N (iterV N now s) = iterV N now s := by
  have h0 : (now.take (firstN N)).length = firstN N := by rw [List.length_take]; omega
  rw [iterV_fin hin now h (fun i => i + 1) (fun i _ => by omega) (fun i hi k hk hf => by have := (hin i hi k hk).2; show k.toNat - firstN N + 1 < i + 1; omega) s (fun i hi => by show i + 1 ≤ s; omega)]
  exact stepV_fin hin _ h0
end

/-- In s steps, and no fewer, it comes to rest. -/
structure Rest (N : NetV) (now : List Bool) (s : Nat) : Prop where
  rest : stepV N (iterV N now s) = iterV N now s
  before : ∀ t, t < s → stepV N (iterV N now t) ≠ iterV N now t

theorem Rest.unique {N : NetV} {now : List Bool} {s t : Nat} (h : Rest N now s) (k : Rest N now t) : s = t := by
  rcases Nat.lt_trichotomy s t with hlt | h | hlt
  · exact absurd h.rest (k.before s hlt)
  · exact h
  · exact absurd k.rest (h.before t hlt)
end Go.Proofs.Ytkcilpkcjhnkaaa
