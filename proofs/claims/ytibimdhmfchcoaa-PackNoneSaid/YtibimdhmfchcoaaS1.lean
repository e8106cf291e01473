/- The values of a net, table by table. -/
import Derived.Test.YtibimdhmfchcoaaBA
/- P4 -/
namespace Go.Proofs.Ytibimdhmfchcoaa
set_option linter.unusedSectionVars false

/-- The row of a table at some values, as far as its first j inputs say. -/
def rowTo (ins : List Int) (v : List Bool) : Nat → Nat
  | 0 => 0
  | j + 1 => rowTo ins v j + (if v.getD (ins.getD j 0).toNat false then 2 ^ j else 0)

theorem rowTo_lt (ins : List Int) (v : List Bool) (j : Nat) : rowTo ins v j < 2 ^ j := by
  induction j with
  | zero => simp [rowTo]
  | succ j ih =>
    simp only [rowTo, Nat.pow_succ]
    split <;> omega

def tabVal (l : LutV) (v : List Bool) : Bool := l.tab.toNat.testBit (rowTo l.ins v l.ins.length)

theorem rowTo_congr (ins : List Int) (v v' : List Bool) (h : ∀ k ∈ ins, v.getD k.toNat false = v'.getD k.toNat false) (j : Nat) (hj : j ≤ ins.length) : rowTo ins v j = rowTo ins v' j := by
  induction j with
  | zero => rfl
  | succ j ih =>
    simp only [rowTo]
    rw [ih (by omega), h _ (getD_mem ins 0 (by omega))]

theorem tabVal_congr (l : LutV) (v v' : List Bool) (h : ∀ k ∈ l.ins, v.getD k.toNat false = v'.getD k.toNat false) : tabVal l v = tabVal l v' := by
  unfold tabVal
  rw [rowTo_congr _ _ _ h _ (Nat.le_refl _)]

/-- Every table told anew. -/
def stepV (N : NetV) (now : List Bool) : List Bool := now.take (firstN N) ++ N.luts.map fun l => tabVal l now

def iterV (N : NetV) (now : List Bool) : Nat → List Bool
  | 0 => now
  | s + 1 => stepV N (iterV N now s)

/-- The values in order, of those ahead of table i. -/
def valTo (N : NetV) (v0 : List Bool) : Nat → List Bool
  | 0 => v0
  | i + 1 => valTo N v0 i ++ [tabVal (N.luts.getD i default) (valTo N v0 i)]

theorem valTo_length (N : NetV) (v0 : List Bool) (i : Nat) : (valTo N v0 i).length = v0.length + i := by
  induction i with
  | zero => rfl
  | succ i ih => simp [valTo, ih]; omega

theorem ext_getD {l m : List Bool} (h : l.length = m.length) (h' : ∀ i, i < l.length → l.getD i false = m.getD i false) : l = m := by
  apply List.ext_getElem h
  intro i h1 h2
  have := h' i h1
  simpa [List.getD, List.getElem?_eq_getElem h1, List.getElem?_eq_getElem h2] using this

theorem getD_append_left' (l m : List Bool) (i : Nat) (h : i < l.length) : (l ++ m).getD i false = l.getD i false := by
  simp [List.getD, List.getElem?_append_left h]

theorem getD_append_right' (l m : List Bool) (i : Nat) : (l ++ m).getD (l.length + i) false = m.getD i false := by
  rw [List.getD, List.getElem?_append_right (by omega)]
  simp [List.getD]

theorem valTo_prefix (N : NetV) (v0 : List Bool) (i j : Nat) (h : i ≤ j) (k : Nat) (hk : k < v0.length + i) : (valTo N v0 j).getD k false = (valTo N v0 i).getD k false := by
  induction j with
  | zero => obtain rfl : i = 0 := by omega
            rfl
  | succ j ih =>
    by_cases e : i = j + 1
    · subst e; rfl
    · simp only [valTo]
      rw [getD_append_left' _ _ _ (by rw [valTo_length]; omega), ih (by omega)]

/-- What lies at a net's inputs and holds. -/
def v0Of (inn st : List Bool) : List Bool := [false] ++ inn ++ st
section
variable {N : NetV} (hin : ∀ i, i < N.luts.length → ∀ k ∈ (N.luts.getD i default).ins, 0 ≤ k ∧ k.toNat < firstN N + i)
include hin

theorem fin_tab (v0 : List Bool) (h0 : v0.length = firstN N) (i : Nat) (hi : i < N.luts.length) :
    (valTo N v0 N.luts.length).getD (firstN N + i) false = tabVal (N.luts.getD i default) (valTo N v0 N.luts.length) := by
  rw [valTo_prefix N v0 (i + 1) N.luts.length (by omega) _ (by omega)]
  simp only [valTo]
  have := getD_append_right' (valTo N v0 i) [tabVal (N.luts.getD i default) (valTo N v0 i)] 0
  rw [valTo_length, h0, Nat.add_zero] at this
  rw [this]
  simp only [List.getD_cons_zero]
  refine tabVal_congr _ _ _ fun k hk => ?_
  exact (valTo_prefix N v0 i N.luts.length (by omega) _ (by rw [h0]; exact (hin i hi k hk).2)).symm

end
end Go.Proofs.Ytibimdhmfchcoaa
