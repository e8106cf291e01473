import Derived.Test.YtkcilpkcjhnkaaaP5
namespace Go.Proofs.Ytkcilpkcjhnkaaa
open Go.RowKit
set_option linter.unusedVariables false

/-- Whether k is there later than m, or is the less of two. -/
def later (a : List Int) (k m : Int) : Bool := decide (a.getD m.toNat 0 < a.getD k.toNat 0) || (decide (a.getD k.toNat 0 = a.getD m.toNat 0) && decide (k < m))
def pickL (a : List Int) (m k : Int) : Int := if later a k m then k else m
/-- The one that is there last, of m and others. -/
def maxL (a : List Int) (m : Int) (l : List Int) : Int := l.foldl (pickL a) m
def latestV (a : List Int) : List Int → Int
  | [] => -1
  | k :: l => maxL a k l

theorem later_true {a : List Int} {k m : Int} (h : later a k m = true) : a.getD m.toNat 0 ≤ a.getD k.toNat 0 := by
  simp only [later, Bool.or_eq_true, decide_eq_true_eq, Bool.and_eq_true] at h; omega
theorem later_false {a : List Int} {k m : Int} (h : later a k m = false) : a.getD k.toNat 0 ≤ a.getD m.toNat 0 := by
  simp only [later, Bool.or_eq_false_iff, decide_eq_false_iff_not] at h; omega

theorem pickL_ge (a : List Int) (m k : Int) : a.getD m.toNat 0 ≤ a.getD (pickL a m k).toNat 0 ∧ a.getD k.toNat 0 ≤ a.getD (pickL a m k).toNat 0 := by
  unfold pickL
  cases h : later a k m
  · rw [if_neg (by simp)]; exact ⟨Int.le_refl _, later_false h⟩
  · rw [if_pos rfl]; exact ⟨later_true h, Int.le_refl _⟩

theorem pickL_mem (a : List Int) (m k : Int) : pickL a m k = m ∨ pickL a m k = k := by
  unfold pickL; split <;> simp

theorem maxL_mem (a : List Int) : ∀ (l : List Int) (m : Int), maxL a m l = m ∨ maxL a m l ∈ l
  | [], m => .inl rfl
  | k :: l, m => by
    have h := maxL_mem a l (pickL a m k)
    have e : maxL a m (k :: l) = maxL a (pickL a m k) l := rfl
    rw [e]
    rcases h with h | h
    · rw [h]
      rcases pickL_mem a m k with h' | h'
      · exact .inl h'
      · exact .inr (by rw [h']; simp)
    · exact .inr (by simp [h])

theorem maxL_ge (a : List Int) : ∀ (l : List Int) (m : Int), a.getD m.toNat 0 ≤ a.getD (maxL a m l).toNat 0 ∧ ∀ k ∈ l, a.getD k.toNat 0 ≤ a.getD (maxL a m l).toNat 0
  | [], m => ⟨Int.le_refl _, fun k h => by cases h⟩
  | k :: l, m => by
    have h := maxL_ge a l (pickL a m k)
    have g := pickL_ge a m k
    have e : maxL a m (k :: l) = maxL a (pickL a m k) l := rfl
    rw [e]
    refine ⟨Int.le_trans g.1 h.1, fun x hx => ?_⟩
    rcases List.mem_cons.1 hx with rfl | hx
    · exact Int.le_trans g.2 h.1
    · exact h.2 x hx

theorem latestV_mem (a : List Int) (l : List Int) (h : l ≠ []) : latestV a l ∈ l := by
  cases l with
  | nil => exact absurd rfl h
  | cons k l => rcases maxL_mem a l k with h | h <;> simp [latestV, h]

theorem latestV_ge (a : List Int) (l : List Int) : ∀ k ∈ l, a.getD k.toNat 0 ≤ a.getD (latestV a l).toNat 0 := by
  cases l with
  | nil => intro k h; cases h
  | cons x l =>
    intro k hk
    have h := maxL_ge a l x
    rcases List.mem_cons.1 hk with rfl | hk
    · exact h.1
    · exact h.2 k hk

/-- The inputs of a node; none, where it is no table. -/
def insOf (N : NetV) (k : Int) : List Int := if (firstN N : Int) ≤ k then (N.luts.getD (k.toNat - firstN N) default).ins else []

/-- The way from some nodes on, the last one first. -/
inductive Way (N : NetV) (a : List Int) : List Int → List Int → Prop
  | stop : Way N a [] []
  | go {fr l : List Int} (h : fr ≠ []) (r : Way N a (insOf N (latestV a fr)) l) : Way N a fr (latestV a fr :: l)

theorem Way.unique {N : NetV} {a fr l : List Int} (h : Way N a fr l) : ∀ {l'}, Way N a fr l' → l = l' := by
  induction h with
  | stop => intro l' h; cases h with
    | stop => rfl
    | go h _ => exact absurd rfl h
  | go h _ ih => intro l' h'; cases h' with
    | stop => exact absurd rfl h
    | go _ r => rw [ih r]

theorem insOf_range {N : NetV} (ok : NetOk N 6) (k : Int) (h : k < (firstN N + N.luts.length : Nat)) : ∀ x ∈ insOf N k, 0 ≤ x ∧ x < k := by
  intro x hx
  unfold insOf at hx
  split at hx
  · have := ok.range (k.toNat - firstN N) (by omega) x hx
    omega
  · cases hx

theorem Way.ex {N : NetV} (ok : NetOk N 6) (a : List Int) (B : Nat) : B ≤ firstN N + N.luts.length → ∀ fr : List Int, (∀ x ∈ fr, 0 ≤ x ∧ x < (B : Int)) → ∃ l, Way N a fr l ∧ l.length ≤ B ∧ ∀ x ∈ l, 0 ≤ x ∧ x < (B : Int) := by
  induction B using Nat.strongRecOn with
  | _ B ih =>
    intro hB fr hfr
    by_cases h : fr = []
    · subst h; exact ⟨[], .stop, by simp, fun x hx => by cases hx⟩
    · have hm := hfr _ (latestV_mem a fr h)
      obtain ⟨l, hl, hlen, hr⟩ := ih (latestV a fr).toNat (by omega) (by omega) (insOf N (latestV a fr)) (fun x hx => by
        have := insOf_range ok _ (by omega) x hx
        omega)
      refine ⟨_, .go h hl, by rw [List.length_cons]; omega, fun x hx => ?_⟩
      rcases List.mem_cons.1 hx with rfl | hx
      · exact hm
      · have := hr x hx; omega

def endsOf (N : NetV) : List Int := N.outs ++ N.holds.map HoldV.d

theorem endsOf_range {N : NetV} (ok : NetOk N 6) : ∀ x ∈ endsOf N, 0 ≤ x ∧ x < ((firstN N + N.luts.length : Nat) : Int) := by
  intro x hx
  have h0 := firstN_eq ok.ins0
  rcases List.mem_append.1 hx with h | h
  · have := ok.outs x h; omega
  · obtain ⟨y, hy, rfl⟩ := List.mem_map.1 h
    have := ok.holds y hy; omega

noncomputable def wayOf (N : NetV) (cost : List Int) : List Int :=
  open Classical in if h : ∃ l, Way N (arrL N cost) (endsOf N) l then h.choose else []

theorem wayOf_is {N : NetV} {cost : List Int} (ok : NetOk N 6) : Way N (arrL N cost) (endsOf N) (wayOf N cost) ∧ (wayOf N cost).length ≤ firstN N + N.luts.length ∧ ∀ x ∈ wayOf N cost, 0 ≤ x ∧ x < ((firstN N + N.luts.length : Nat) : Int) := by
  obtain ⟨l, hl, hlen, hr⟩ := Way.ex ok (arrL N cost) (firstN N + N.luts.length) (Nat.le_refl _) (endsOf N) (endsOf_range ok)
  have hx : ∃ l, Way N (arrL N cost) (endsOf N) l := ⟨l, hl⟩
  have e : wayOf N cost = l := by
    unfold wayOf
    rw [dif_pos hx]
    exact hx.choose_spec.unique hl
  rw [e]; exact ⟨hl, hlen, hr⟩

def headT (a : List Int) : List Int → Int
  | [] => 0
  | k :: _ => a.getD k.toNat 0

noncomputable def pathO (N : NetV) (cost : List Int) : List Int := open Classical in if CostOk N cost then (wayOf N cost).reverse else []
noncomputable def pathT (N : NetV) (cost : List Int) : Int := open Classical in if CostOk N cost then headT (arrL N cost) (wayOf N cost) else 0

/-- What Path hands on. -/
def NewPath (w : World) (l : List Int) (t c : Int) (e : Ending) (w' : World) : Prop :=
  ∃ v, e = .returned (.tuple #[v, .int .i64 t, .int .i64 c]) ∧ w'.ownsRow w.heap.size 3 1 v l.length (l.map (Value.int .i64)) ∧ Below w.heap.size w w'
end Go.Proofs.Ytkcilpkcjhnkaaa
