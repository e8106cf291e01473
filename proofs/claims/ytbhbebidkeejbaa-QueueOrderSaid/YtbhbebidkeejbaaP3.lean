/- What a queue holds into which rows were pushed: the plain law. -/
import Derived.Test.YtbhbebidkeejbaaQ24
namespace Go.Proofs.Ytbhbebidkeejbaa
set_option linter.unusedVariables false
set_option linter.unusedSimpArgs false

/-- A row that is taken. -/
def accB (r : RowV) : Bool := decide (0 ≤ r.t) && decide (0 ≤ r.d) && decide (0 ≤ r.sig)
theorem accB_iff (r : RowV) : accB r = true ↔ 0 ≤ r.t ∧ 0 ≤ r.d ∧ 0 ≤ r.sig := by unfold accB; simp [and_assoc]
def evOf (r : RowV) (n : Int) : EvV := ⟨r.t, r.d, n, r.sig, r.v⟩
/-- What lies in the queue behind k rows, and how many. -/
def fl (rs : List RowV) : Nat → List EvV × Nat
  | 0 => ([], 0)
  | k + 1 => if accB (rs.getD k default) = true then (pushL (fl rs k).1 (evOf (rs.getD k default) (fl rs k).2), (fl rs k).2 + 1) else fl rs k
theorem fl_yes {rs : List RowV} {k : Nat} (h : accB (rs.getD k default) = true) : fl rs (k + 1) = (pushL (fl rs k).1 (evOf (rs.getD k default) (fl rs k).2), (fl rs k).2 + 1) := by
  rw [fl, if_pos h]
theorem fl_no {rs : List RowV} {k : Nat} (h : accB (rs.getD k default) = false) : fl rs (k + 1) = fl rs k := by
  rw [fl, h, if_neg (by decide)]
theorem fl_len (rs : List RowV) : ∀ k, (fl rs k).1.length = (fl rs k).2 ∧ (fl rs k).2 ≤ k
  | 0 => ⟨rfl, Nat.le_refl _⟩
  | k + 1 => by
    have h := fl_len rs k
    cases ha : accB (rs.getD k default) with
    | false => rw [fl_no ha]; exact ⟨h.1, by omega⟩
    | true => rw [fl_yes ha]; exact ⟨by rw [pushL_length, h.1], by simp only; omega⟩
theorem gone0 {t d : Int} (ht : 0 ≤ t) (hd : 0 ≤ d) : goneB 0 0 t d = false := by
  rw [Bool.eq_false_iff, Ne, goneB_iff]; omega
theorem fl_ok (rs : List RowV) : ∀ k, QOk 0 0 (fl rs k).2 (fl rs k).1
  | 0 => ⟨Int.le_refl _, Int.le_refl _, Int.le_refl _, fun e he => (by cases he), List.Pairwise.nil⟩
  | k + 1 => by
    have h := fl_ok rs k
    cases ha : accB (rs.getD k default) with
    | false => rw [fl_no ha]; exact h
    | true =>
      rw [fl_yes ha]
      obtain ⟨h1, h2, h3⟩ := (accB_iff _).1 ha
      have := h.push (v := (rs.getD k default).v) h2 h3 (gone0 h1 h2)
      simpa [evOf] using this
theorem fl_mem (rs : List RowV) (i : Nat) (ha : accB (rs.getD i default) = true) : ∀ k, i < k → evOf (rs.getD i default) (fl rs i).2 ∈ (fl rs k).1
  | 0, h => by omega
  | k + 1, h => by
    by_cases e : i = k
    · subst e
      rw [fl_yes ha]
      exact pushL_mem.2 (.inl rfl)
    · have hm := fl_mem rs i ha k (by omega)
      cases hb : accB (rs.getD k default) with
      | false => rw [fl_no hb]; exact hm
      | true => rw [fl_yes hb]; exact pushL_mem.2 (.inr hm)
/-- What Push says of a row. -/
theorem fl_push (rs : List RowV) (k : Nat) (hk : k ≤ 60) : (pushE 0 0 (fl rs k).2 (fl rs k).1 (rs.getD k default).t (rs.getD k default).d (rs.getD k default).sig = 0) ↔ accB (rs.getD k default) = true := by
  rw [push_zero, accB_iff]
  have hl := (fl_len rs k).2
  constructor
  · rintro ⟨-, h2, h3, -, h5⟩
    refine ⟨?_, h2, h3⟩
    by_cases e : (rs.getD k default).t < 0
    · rw [(goneB_iff _ _ _ _).2 (.inl e)] at h5; cases h5
    · omega
  · rintro ⟨h1, h2, h3⟩
    exact ⟨fl_ok rs k, h2, h3, by omega, gone0 h1 h2⟩
/-- How often an event is found. -/
def cntE (l : List EvV) (x : EvV) : Nat → Nat
  | 0 => 0
  | k + 1 => cntE l x k + (if l.getD k default = x then 1 else 0)
theorem cntE_yes {l : List EvV} {x : EvV} {k : Nat} (h : l.getD k default = x) : cntE l x (k + 1) = cntE l x k + 1 := by rw [cntE, if_pos h]
theorem cntE_no {l : List EvV} {x : EvV} {k : Nat} (h : ¬ l.getD k default = x) : cntE l x (k + 1) = cntE l x k := by rw [cntE, if_neg h, Nat.add_zero]
theorem cntE_le (l : List EvV) (x : EvV) : ∀ k, cntE l x k ≤ k
  | 0 => Nat.le_refl _
  | k + 1 => by
    have := cntE_le l x k
    rw [cntE]; split <;> omega
theorem cntE_one {l : List EvV} {x : EvV} (hs : l.Pairwise (fun a b => ltW a.when b.when)) (hx : x ∈ l) : cntE l x l.length = 1 := by
  obtain ⟨p, hp, he⟩ := List.getElem_of_mem hx
  have hpe : l.getD p default = x := by simpa [List.getD, List.getElem?_eq_getElem hp] using he
  have hso := pair_sorted hs
  have hk : ∀ k, k ≤ l.length → cntE l x k = if p < k then 1 else 0 := by
    intro k
    induction k with
    | zero => intro _; rfl
    | succ k ih =>
      intro hk
      have ih := ih (by omega)
      by_cases e : k = p
      · subst e
        rw [cntE_yes hpe, ih, if_neg (by omega), if_pos (by omega)]
      · have hne : ¬ l.getD k default = x := by
          intro h
          rcases Nat.lt_or_gt_of_ne e with h1 | h1
          · have := hso k p h1 hp
            rw [h, hpe] at this
            exact ltW_irrefl _ this
          · have := hso p k h1 (by omega)
            rw [h, hpe] at this
            exact ltW_irrefl _ this
        rw [cntE_no hne, ih]
        by_cases h1 : p < k
        · rw [if_pos h1, if_pos (by omega)]
        · rw [if_neg h1, if_neg (by omega)]
  rw [hk l.length (Nat.le_refl _), if_pos hp]
end Go.Proofs.Ytbhbebidkeejbaa
