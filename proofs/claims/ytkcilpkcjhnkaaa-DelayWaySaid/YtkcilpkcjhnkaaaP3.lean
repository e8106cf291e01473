import Derived.Test.YtkcilpkcjhnkaaaP2
namespace Go.Proofs.Ytkcilpkcjhnkaaa

/-- Two lists of times, of which the second is nowhere earlier, and nowhere later than by d. -/
structure Near (d : Int) (A B : List Int) : Prop where
  len : A.length = B.length
  each : ∀ i, A.getD i 0 ≤ B.getD i 0 ∧ B.getD i 0 ≤ A.getD i 0 + d

theorem Near.refl (d : Int) (hd : 0 ≤ d) (A : List Int) : Near d A A := ⟨rfl, fun i => by omega⟩

theorem getD_snoc (A : List Int) (x : Int) (i : Nat) : (A ++ [x]).getD i 0 = if i < A.length then A.getD i 0 else if i = A.length then x else 0 := by
  simp only [List.getD, List.getElem?_append]
  by_cases h : i < A.length
  · simp [h]
  · by_cases h2 : i = A.length
    · simp [h2]
    · have : [x][i - A.length]? = none := List.getElem?_eq_none (by simp; omega)
      simp [h, h2, this]

theorem Near.snoc {d : Int} {A B : List Int} (hd : 0 ≤ d) (h : Near d A B) {x y : Int} (h1 : x ≤ y) (h2 : y ≤ x + d) : Near d (A ++ [x]) (B ++ [y]) := by
  refine ⟨by simp [h.len], fun i => ?_⟩
  rw [getD_snoc, getD_snoc, ← h.len]
  split
  · exact h.each i
  · split <;> omega

theorem mostOf_near {d : Int} {A B : List Int} (h : Near d A B) (hd : 0 ≤ d) (ks : List Int) : mostOf A ks ≤ mostOf B ks ∧ mostOf B ks ≤ mostOf A ks + d := by
  have key : ∀ (ks : List Int) (m m' : Int), m ≤ m' → m' ≤ m + d →
      ks.foldl (fun m k => max m (A.getD k.toNat 0)) m ≤ ks.foldl (fun m k => max m (B.getD k.toNat 0)) m' ∧
      ks.foldl (fun m k => max m (B.getD k.toNat 0)) m' ≤ ks.foldl (fun m k => max m (A.getD k.toNat 0)) m + d := by
    intro ks
    induction ks with
    | nil => intro m m' h1 h2; exact ⟨h1, h2⟩
    | cons k ks ih =>
      intro m m' h1 h2
      simp only [List.foldl_cons]
      have := h.each k.toNat
      exact ih _ _ (by omega) (by omega)
  exact key ks 0 0 (by omega) (by omega)

theorem getD_set (l : List Int) (at_ : Nat) (x : Int) (i : Nat) (h : at_ < l.length) : (l.set at_ x).getD i 0 = if i = at_ then x else l.getD i 0 := by
  simp only [List.getD, List.getElem?_set]
  by_cases hi : at_ = i
  · subst hi; simp [h]
  · have : ¬ i = at_ := fun e => hi e.symm
    simp [hi, this]

theorem arrTo_near (N : NetV) (cost : List Int) (at_ : Nat) (d : Int) (hd : 0 ≤ d) (h : at_ < cost.length) (j : Nat) :
    (j ≤ at_ → arrTo N (cost.set at_ (cost.getD at_ 0 + d)) j = arrTo N cost j) ∧ Near d (arrTo N cost j) (arrTo N (cost.set at_ (cost.getD at_ 0 + d)) j) := by
  induction j with
  | zero => exact ⟨fun _ => rfl, Near.refl d hd _⟩
  | succ j ih =>
    refine ⟨fun hj => ?_, ?_⟩
    · simp only [arrTo]
      rw [ih.1 (by omega), getD_set _ _ _ _ h, if_neg (by omega)]
    · simp only [arrTo]
      refine ih.2.snoc hd ?_ ?_
      · rw [getD_set _ _ _ _ h]
        have := mostOf_near ih.2 hd (N.luts.getD j default).ins
        split
        · rename_i e; subst e; omega
        · omega
      · rw [getD_set _ _ _ _ h]
        have := mostOf_near ih.2 hd (N.luts.getD j default).ins
        split
        · rename_i e; subst e; rw [ih.1 (Nat.le_refl _)]; omega
        · omega

theorem arrL_near (N : NetV) (cost : List Int) (at_ : Nat) (d : Int) (hd : 0 ≤ d) (h : at_ < cost.length) : Near d (arrL N cost) (arrL N (cost.set at_ (cost.getD at_ 0 + d))) :=
  (arrTo_near N cost at_ d hd h _).2
end Go.Proofs.Ytkcilpkcjhnkaaa
