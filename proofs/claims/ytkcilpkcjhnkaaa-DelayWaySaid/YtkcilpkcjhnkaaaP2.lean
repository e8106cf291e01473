import Derived.Test.YtkcilpkcjhnkaaaBase
namespace Go.Proofs.Ytkcilpkcjhnkaaa
open Go.RowKit

/-- The greatest of what is told of some nodes, and 0. -/
def mostOf (prev : List Int) (ks : List Int) : Int := ks.foldl (fun m k => max m (prev.getD k.toNat 0)) 0

def firstN (N : NetV) : Nat := (1 + N.ins + N.holds.length).toNat

/-- When each node is there, of those ahead of table i. -/
def arrTo (N : NetV) (cost : List Int) : Nat → List Int
  | 0 => List.replicate (firstN N) 0
  | i + 1 => arrTo N cost i ++ [cost.getD i 0 + mostOf (arrTo N cost i) (N.luts.getD i default).ins]

def arrL (N : NetV) (cost : List Int) : List Int := arrTo N cost N.luts.length

theorem arrTo_length (N : NetV) (cost : List Int) (i : Nat) : (arrTo N cost i).length = firstN N + i := by
  induction i with
  | zero => simp [arrTo]
  | succ i ih => simp [arrTo, ih]; omega

theorem foldl_max_le (f : Int → Int) (B : Int) : ∀ (ks : List Int) (m : Int), m ≤ B → (∀ k ∈ ks, f k ≤ B) → ks.foldl (fun m k => max m (f k)) m ≤ B
  | [], _, h, _ => h
  | k :: ks, m, h, hk => by
    simp only [List.foldl_cons]
    exact foldl_max_le f B ks _ (by have := hk k (by simp); omega) (fun x hx => hk x (by simp [hx]))

theorem foldl_max_ge (f : Int → Int) : ∀ (ks : List Int) (m : Int), m ≤ ks.foldl (fun m k => max m (f k)) m
  | [], _ => Int.le_refl _
  | k :: ks, m => by
    simp only [List.foldl_cons]
    exact Int.le_trans (by omega) (foldl_max_ge f ks (max m (f k)))

theorem foldl_max_mem (f : Int → Int) : ∀ (ks : List Int) (m : Int), ∀ k ∈ ks, f k ≤ ks.foldl (fun m k => max m (f k)) m
  | k :: ks, m, x, hx => by
    simp only [List.foldl_cons]
    rcases List.mem_cons.1 hx with rfl | hx
    · exact Int.le_trans (by omega) (foldl_max_ge f ks (max m (f x)))
    · exact foldl_max_mem f ks _ x hx

theorem mostOf_nonneg (prev ks : List Int) : 0 ≤ mostOf prev ks := foldl_max_ge _ ks 0

theorem mostOf_le (prev ks : List Int) (B : Int) (h0 : 0 ≤ B) (h : ∀ x ∈ prev, x ≤ B) : mostOf prev ks ≤ B := by
  refine foldl_max_le _ B ks 0 h0 fun k _ => ?_
  by_cases hk : k.toNat < prev.length
  · exact h _ (getD_mem _ _ hk)
  · simp [List.getD, List.getElem?_eq_none (Nat.le_of_not_lt hk), h0]

/-- No time is below 0, nor above what all tables cost. -/
theorem arrTo_bound (N : NetV) (cost : List Int) (hc : ∀ c ∈ cost, 0 ≤ c ∧ c ≤ 1048576) (i : Nat) : ∀ x ∈ arrTo N cost i, 0 ≤ x ∧ x ≤ 1048576 * i := by
  induction i with
  | zero => intro x hx; simp [arrTo] at hx; omega
  | succ i ih =>
    intro x hx
    simp only [arrTo, List.mem_append, List.mem_singleton] at hx
    rcases hx with hx | rfl
    · have := ih x hx; omega
    · have h1 := mostOf_nonneg (arrTo N cost i) (N.luts.getD i default).ins
      have h2 := mostOf_le (arrTo N cost i) (N.luts.getD i default).ins (1048576 * i) (by omega) (fun x hx => (ih x hx).2)
      have h3 : 0 ≤ cost.getD i 0 ∧ cost.getD i 0 ≤ 1048576 := by
        by_cases hi : i < cost.length
        · exact hc _ (getD_mem _ _ hi)
        · simp [List.getD, List.getElem?_eq_none (Nat.le_of_not_lt hi)]
      omega

theorem mostOf_take (prev ks : List Int) (j : Nat) (hj : j < ks.length) : mostOf prev (ks.take (j + 1)) = max (mostOf prev (ks.take j)) (prev.getD (ks.getD j 0).toNat 0) := by
  unfold mostOf
  rw [List.take_succ_eq_append_getElem hj, List.foldl_append]
  simp [List.getD, List.getElem?_eq_getElem hj]

section
variable {w : World} {base e n : Nat} {v : Value} {l : List Int}

/-- What a row of numbers that the call made looks like. -/
theorem owns_shape (h : w.ownsRow base e 1 v n (l.map (Value.int .i64))) (hn : 0 < n) : ∃ g cap, v = .slice (some ⟨g, 0, none⟩) n cap ∧ base ≤ g ∧ g < w.heap.size ∧ n ≤ cap ∧ ∀ j, j < n → w.cell? ⟨g, j, none⟩ = some (.int .i64 (l.getD j 0)) := by
  have hl : l.length = n := by have := h.1; simpa using this
  rcases h.2 with ⟨_, h0⟩ | ⟨g, cap, cur, hv, hb, hg, hnc, hm, hs, ht⟩
  · omega
  · subst hv
    refine ⟨g, cap, rfl, hb, (Array.getElem?_eq_some_iff.1 hg).1, hnc, fun j hj => ?_⟩
    rw [h.cellAt j (by omega)]
    simp [List.getD, List.getElem?_eq_getElem (show j < l.length by omega)]

theorem owns_seq (h : w.ownsRow base e 1 v n (l.map (Value.int .i64))) : ∃ a cap, v = .slice a n cap ∧ Seq w a n (ints l) ∧ n ≤ cap ∧ cap ≤ maxLen := by
  by_cases hn : 0 < n
  · obtain ⟨g, cap, rfl, _, _, h1, hc⟩ := owns_shape h hn
    refine ⟨_, cap, rfl, .inr ⟨g, 0, rfl, fun i hi => by rw [Nat.zero_add]; exact hc i hi⟩, h1, ?_⟩
    rcases h.2 with ⟨h, _⟩ | ⟨g, cap, cur, hv, hb, hg, hnc, hm, hs, ht⟩
    · cases h
    · cases hv; exact hm
  · rcases h.2 with ⟨hv, h0⟩ | ⟨g, cap, cur, hv, hb, hg, hnc, hm, hs, ht⟩
    · exact ⟨none, 0, by rw [hv, h0], .inl h0, by omega, by simp [maxLen]⟩
    · exact ⟨_, cap, hv, .inl (by omega), hnc, hm⟩
theorem grownBy_trans {a b c : World} {g : Option Nat} (h : a.grownBy b g) (k : b.grownBy c g) : a.grownBy c g :=
  ⟨k.os.trans h.os, k.tape.trans h.tape, k.output.trans h.output, Nat.le_trans h.size k.size, fun i hi hn => (k.block i (Nat.lt_of_lt_of_le hi h.size) hn).trans (h.block i hi hn)⟩

theorem grownBy_drewN (a : World) (n : Nat) (g : Option Nat) : a.grownBy (a.drewN n) g := ⟨rfl, rfl, rfl, Nat.le_refl _, fun _ _ _ => rfl⟩
theorem grownBy_drew (a : World) (g : Option Nat) : a.grownBy a.drew g := ⟨rfl, rfl, rfl, Nat.le_refl _, fun _ _ _ => rfl⟩

theorem grownBy_below {a b : World} {g B : Nat} (h : a.grownBy b (some g)) (hB : B ≤ a.heap.size) (hg : B ≤ g) : Below B a b :=
  (Below.refl _ _).grown h hB (fun k e => by cases e; exact hg)

/-- What a store into a row that the call made leaves. -/
theorem own_store {w : World} {base e n cap g : Nat} {xs : List Value} (h : w.ownsRow base e 1 (.slice (some ⟨g, 0, none⟩) n cap) n xs) (j : Nat) (u : Value) :
    (w.setCell ⟨g, j, none⟩ u).ownsRow base e 1 (.slice (some ⟨g, 0, none⟩) n cap) n (xs.set j u) ∧ w.grownBy (w.setCell ⟨g, j, none⟩ u) (some g) := h.stored j u

theorem own_drewN {w : World} {base e size n k : Nat} {v : Value} {xs : List Value} (h : w.ownsRow base e size v n xs) : (w.drewN k).ownsRow base e size v n xs := h

theorem own_below {w w' : World} {base e size n : Nat} {v : Value} {xs : List Value} (h : w.ownsRow base e size v n xs) (hb : Below w.heap.size w w') : w'.ownsRow base e size v n xs :=
  h.kept (row := none) ⟨hb.os, hb.tape, hb.output, hb.size, fun k hk _ => hb.block k hk⟩ (by cases v.ownBlock <;> simp)

theorem _root_.Go.World.ownsRow.base_le {w : World} {base base' e size n : Nat} {v : Value} {xs : List Value} (h : w.ownsRow base e size v n xs) (hb : base' ≤ base) : w.ownsRow base' e size v n xs := by
  refine ⟨h.1, ?_⟩
  rcases h.2 with h2 | ⟨g, cap, cur, hv, hg, r⟩
  · exact .inl h2
  · exact .inr ⟨g, cap, cur, hv, Nat.le_trans hb hg, r⟩
end
end Go.Proofs.Ytkcilpkcjhnkaaa
