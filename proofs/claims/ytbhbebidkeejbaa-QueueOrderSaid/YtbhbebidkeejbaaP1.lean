/- What may be stays so: the plain law of Push, Pop and Take. -/
import Derived.Test.YtbhbebidkeejbaaQ15
namespace Go.Proofs.Ytbhbebidkeejbaa
set_option linter.unusedVariables false
set_option linter.unusedSimpArgs false

/-- A queue that may be. -/
structure QOk (now delta next : Int) (l : List EvV) : Prop where
  n0 : 0 ≤ now
  d0 : 0 ≤ delta
  x0 : 0 ≤ next
  each : ∀ e ∈ l, 0 ≤ e.t ∧ 0 ≤ e.d ∧ 0 ≤ e.sig ∧ 0 ≤ e.no ∧ e.no < next ∧ goneB now delta e.t e.d = false
  sorted : l.Pairwise (fun a b => ltW a.when b.when)

theorem getD_in {α : Type} [Inhabited α] {l : List α} {i : Nat} (h : i < l.length) : l.getD i default ∈ l := by
  simp [List.getD, List.getElem?_eq_getElem h]
theorem sorted_pair {l : List EvV} (h : SortedL l) : l.Pairwise (fun a b => ltW a.when b.when) := by
  rw [List.pairwise_iff_getElem]
  intro i j hi hj hij
  have := h i j hij hj
  simpa [List.getD, List.getElem?_eq_getElem hi, List.getElem?_eq_getElem hj] using this
theorem pair_sorted {l : List EvV} (h : l.Pairwise (fun a b => ltW a.when b.when)) : SortedL l := by
  intro i j hij hj
  have := List.pairwise_iff_getElem.1 h i j (by omega) hj hij
  have hi : i < l.length := by omega
  simpa [List.getD, List.getElem?_eq_getElem hi, List.getElem?_eq_getElem hj] using this
theorem lowB3 (a b c : Int) : lowB [a, b, c] = false ↔ 0 ≤ a ∧ 0 ≤ b ∧ 0 ≤ c := by unfold lowB; simp
theorem lowB2 (a b : Int) : lowB [a, b] = false ↔ 0 ≤ a ∧ 0 ≤ b := by unfold lowB; simp
theorem bad_iff (now delta next : Int) (l : List EvV) (i : Nat) : badEv now delta next l i = false ↔ (0 ≤ (l.getD i default).t ∧ 0 ≤ (l.getD i default).d ∧ 0 ≤ (l.getD i default).sig ∧ 0 ≤ (l.getD i default).no ∧ (l.getD i default).no < next ∧ goneB now delta (l.getD i default).t (l.getD i default).d = false) ∧ (0 < i → ltW (l.getD (i - 1) default).when (l.getD i default).when) := by
  unfold badEv
  rw [Bool.or_eq_false_iff, Bool.or_eq_false_iff, Bool.or_eq_false_iff, lowB4, decide_eq_false_iff_not, Bool.and_eq_false_iff, decide_eq_false_iff_not, Bool.not_eq_false', aheadB_iff]
  constructor
  · rintro ⟨⟨⟨⟨h1, h2, h3, h4⟩, h5⟩, h6⟩, h7⟩
    exact ⟨⟨h1, h2, h3, h4, by omega, h6⟩, fun h => h7.resolve_left (by omega)⟩
  · rintro ⟨⟨h1, h2, h3, h4, h5, h6⟩, h7⟩
    refine ⟨⟨⟨⟨h1, h2, h3, h4⟩, by omega⟩, h6⟩, ?_⟩
    by_cases h : 0 < i
    · exact .inr (h7 h)
    · exact .inl h
theorem check_ok {now delta next : Int} {l : List EvV} : checkE now delta next l = 0 ↔ QOk now delta next l := by
  constructor
  · intro h
    obtain ⟨h1, h2, h3⟩ := check_sorted h
    rw [lowB3] at h1
    refine ⟨h1.1, h1.2.1, h1.2.2, fun e he => ?_, sorted_pair h3⟩
    obtain ⟨i, hi, rfl⟩ := List.getElem_of_mem he
    have := ((bad_iff now delta next l i).1 (h2 i hi)).1
    simpa [List.getD, List.getElem?_eq_getElem hi] using this
  · intro h
    refine checkE_ok ((lowB3 _ _ _).2 ⟨h.n0, h.d0, h.x0⟩) (fun i hi => (bad_iff _ _ _ _ _).2 ⟨h.each _ (getD_in hi), fun h0 => pair_sorted h.sorted (i - 1) i (by omega) hi⟩)
theorem push_zero {now delta next : Int} {l : List EvV} {t d sig : Int} : pushE now delta next l t d sig = 0 ↔ QOk now delta next l ∧ 0 ≤ d ∧ 0 ≤ sig ∧ next < 4611686018427387904 ∧ goneB now delta t d = false := by
  unfold pushE
  by_cases h0 : checkE now delta next l = 0
  · rw [if_pos h0]
    by_cases h1 : (lowB [d, sig] || decide (4611686018427387904 ≤ next)) = true
    · rw [if_pos h1]
      constructor
      · intro h; cases h
      · rintro ⟨-, h2, h3, h4, -⟩
        rw [Bool.or_eq_true] at h1
        rcases h1 with h1 | h1
        · rw [(lowB2 d sig).2 ⟨h2, h3⟩] at h1; cases h1
        · rw [decide_eq_true_eq] at h1; omega
    · rw [if_neg h1]
      rw [Bool.not_eq_true, Bool.or_eq_false_iff, lowB2, decide_eq_false_iff_not] at h1
      cases hg : goneB now delta t d
      · rw [if_neg (by decide)]
        exact ⟨fun _ => ⟨check_ok.1 h0, h1.1.1, h1.1.2, by omega, rfl⟩, fun _ => rfl⟩
      · rw [if_pos rfl]
        exact ⟨fun h => (by cases h), fun h => (by have := h.2.2.2.2; cases this)⟩
  · rw [if_neg h0]
    exact ⟨fun h => absurd h h0, fun h => absurd (check_ok.2 h.1) h0⟩
theorem take_pos (l : List EvV) (y : WhenV) : l.take (posL l y) = l.takeWhile (fun e => decide (ltW e.when y)) := by
  unfold posL
  exact (List.prefix_iff_eq_take.1 (List.takeWhile_prefix _)).symm
theorem drop_pos (l : List EvV) (y : WhenV) : l.drop (posL l y) = l.dropWhile (fun e => decide (ltW e.when y)) := by
  have h := List.takeWhile_append_dropWhile (p := fun e : EvV => decide (ltW e.when y)) (l := l)
  have h2 := List.take_append_drop (posL l y) l
  rw [take_pos] at h2
  exact List.append_cancel_left (h2.trans h.symm)
theorem pushL_eq (l : List EvV) (x : EvV) : pushL l x = l.takeWhile (fun e => decide (ltW e.when x.when)) ++ x :: l.dropWhile (fun e => decide (ltW e.when x.when)) := by
  unfold pushL insL
  rw [take_pos, drop_pos]
theorem pushL_mem {l : List EvV} {x e : EvV} : e ∈ pushL l x ↔ e = x ∨ e ∈ l := by
  rw [pushL_eq, List.mem_append, List.mem_cons]
  have h := List.takeWhile_append_dropWhile (p := fun e : EvV => decide (ltW e.when x.when)) (l := l)
  constructor
  · rintro (h1 | h1 | h1)
    · exact .inr (by rw [← h]; exact List.mem_append_left _ h1)
    · exact .inl h1
    · exact .inr (by rw [← h]; exact List.mem_append_right _ h1)
  · rintro (h1 | h1)
    · exact .inr (.inl h1)
    · rw [← h, List.mem_append] at h1
      rcases h1 with h1 | h1
      · exact .inl h1
      · exact .inr (.inr h1)
theorem pushL_length (l : List EvV) (x : EvV) : (pushL l x).length = l.length + 1 := insL_length _ _ _ (posL_le _ _)
/-- Sorted lists, one more. -/
theorem pushL_pair {l : List EvV} {x : EvV} (h : l.Pairwise (fun a b => ltW a.when b.when)) (hx : ∀ e ∈ l, e.no < x.no) : (pushL l x).Pairwise (fun a b => ltW a.when b.when) := by
  rw [pushL_eq]
  have hl := List.takeWhile_append_dropWhile (p := fun e : EvV => decide (ltW e.when x.when)) (l := l)
  have hp := h
  rw [← hl, List.pairwise_append] at hp
  obtain ⟨p1, p2, p3⟩ := hp
  have hlt : ∀ e ∈ l.takeWhile (fun e => decide (ltW e.when x.when)), ltW e.when x.when := fun e he => by simpa using List.all_eq_true.1 (List.all_takeWhile (p := fun e : EvV => decide (ltW e.when x.when)) (l := l)) e he
  have hgt : ∀ e ∈ l.dropWhile (fun e => decide (ltW e.when x.when)), ltW x.when e.when := by
    have hno : ∀ e ∈ l.dropWhile (fun e => decide (ltW e.when x.when)), e.no < x.no := fun e he => hx e (by rw [← hl]; exact List.mem_append_right _ he)
    obtain ⟨D, hD⟩ : ∃ D, D = l.dropWhile (fun e => decide (ltW e.when x.when)) := ⟨_, rfl⟩
    have hd0 : ∀ e D', D = e :: D' → ¬ ltW e.when x.when := fun e D' he => by
      have := List.head?_dropWhile_not (fun e : EvV => decide (ltW e.when x.when)) l
      rw [← hD, he] at this
      simpa using this
    rw [← hD] at p2 hno ⊢
    cases D with
    | nil => intro e he; cases he
    | cons e0 D' =>
      have h0 : ltW x.when e0.when := by
        rcases ltW_tri e0.when x.when with h1 | h1 | h1
        · exact absurd h1 (hd0 e0 D' rfl)
        · have := hno e0 (List.mem_cons_self ..)
          have := h1.2.2
          simp only [EvV.when] at this
          omega
        · exact h1
      intro e he
      rcases List.mem_cons.1 he with rfl | he
      · exact h0
      · exact ltW_trans h0 ((List.pairwise_cons.1 p2).1 e he)
  rw [List.pairwise_append]
  refine ⟨p1, List.pairwise_cons.2 ⟨hgt, p2⟩, fun a ha b hb => ?_⟩
  rcases List.mem_cons.1 hb with rfl | hb
  · exact hlt a ha
  · exact p3 a ha b hb
theorem QOk.push {now delta next : Int} {l : List EvV} {t d sig v : Int} (h : QOk now delta next l) (hd : 0 ≤ d) (hs : 0 ≤ sig) (hg : goneB now delta t d = false) : QOk now delta (next + 1) (pushL l ⟨t, d, next, sig, v⟩) := by
  have hn := h.x0
  have ht : 0 ≤ t := by
    have := h.n0
    by_cases e : t < now
    · exact absurd ((goneB_iff now delta t d).2 (.inl e)) (by rw [hg]; decide)
    · omega
  refine ⟨h.n0, h.d0, by omega, fun e he => ?_, pushL_pair h.sorted (fun e he => (h.each e he).2.2.2.2.1)⟩
  rcases pushL_mem.1 he with rfl | he
  · exact ⟨ht, hd, hs, hn, by simp only; omega, hg⟩
  · obtain ⟨h1, h2, h3, h4, h5, h6⟩ := h.each e he
    exact ⟨h1, h2, h3, h4, by omega, h6⟩
theorem QOk.come {now delta next : Int} {l : List EvV} (h : QOk now delta next l) (hl : 0 < l.length) (k : Nat) (hk : 1 ≤ k) : QOk (l.getD 0 default).t (l.getD 0 default).d next (l.drop k) := by
  cases l with
  | nil => simp at hl
  | cons x r =>
    simp only [List.getD_cons_zero]
    obtain ⟨j, rfl⟩ : ∃ j, k = j + 1 := ⟨k - 1, by omega⟩
    rw [List.drop_succ_cons]
    have hx := h.each x (List.mem_cons_self ..)
    have hp := List.pairwise_cons.1 h.sorted
    refine ⟨hx.1, hx.2.1, h.x0, fun e he => ?_, hp.2.sublist (List.drop_sublist _ _)⟩
    have hm := List.mem_of_mem_drop he
    obtain ⟨h1, h2, h3, h4, h5, h6⟩ := h.each e (List.mem_cons_of_mem _ hm)
    refine ⟨h1, h2, h3, h4, h5, ?_⟩
    rw [Bool.eq_false_iff, Ne, goneB_iff]
    have := hp.1 e hm
    unfold ltW at this
    simp only [EvV.when] at this
    omega
theorem come_zero {now delta next : Int} {l : List EvV} : comeE now delta next l = 0 ↔ QOk now delta next l ∧ 0 < l.length := by
  unfold comeE
  by_cases h0 : checkE now delta next l = 0
  · rw [if_pos h0]
    by_cases hl : l.length = 0
    · rw [if_pos hl]
      exact ⟨fun h => (by cases h), fun h => (by omega)⟩
    · rw [if_neg hl]
      exact ⟨fun _ => ⟨check_ok.1 h0, by omega⟩, fun _ => rfl⟩
  · rw [if_neg h0]
    exact ⟨fun h => absurd h h0, fun h => absurd (check_ok.2 h.1) h0⟩
end Go.Proofs.Ytbhbebidkeejbaa
