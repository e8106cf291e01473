/- Two events that are not of one round may be pushed in either order: the plain law. -/
import Derived.Test.YtbhbebidkeejbaaQ24
namespace Go.Proofs.Ytbhbebidkeejbaa
set_option linter.unusedVariables false
set_option linter.unusedSimpArgs false

/-- Sorted lists of the same members are one. -/
theorem sorted_ext : ∀ {l m : List EvV}, l.Pairwise (fun a b => ltW a.when b.when) → m.Pairwise (fun a b => ltW a.when b.when) → (∀ e, e ∈ l ↔ e ∈ m) → l = m
  | [], [], _, _, _ => rfl
  | [], y :: m, _, _, h => by have := (h y).2 (List.mem_cons_self ..); cases this
  | x :: l, [], _, _, h => by have := (h x).1 (List.mem_cons_self ..); cases this
  | x :: l, y :: m, hl, hm, h => by
    obtain ⟨hl1, hl2⟩ := List.pairwise_cons.1 hl
    obtain ⟨hm1, hm2⟩ := List.pairwise_cons.1 hm
    have hxy : x = y := by
      rcases List.mem_cons.1 ((h x).1 (List.mem_cons_self ..)) with e | hx
      · exact e
      · rcases List.mem_cons.1 ((h y).2 (List.mem_cons_self ..)) with e | hy
        · exact e.symm
        · exact absurd (ltW_trans (hm1 x hx) (hl1 y hy)) (ltW_irrefl _)
    subst hxy
    congr 1
    refine sorted_ext hl2 hm2 (fun e => ⟨fun he => ?_, fun he => ?_⟩)
    · rcases List.mem_cons.1 ((h e).1 (List.mem_cons_of_mem _ he)) with rfl | h1
      · exact absurd (hl1 _ he) (ltW_irrefl _)
      · exact h1
    · rcases List.mem_cons.1 ((h e).2 (List.mem_cons_of_mem _ he)) with rfl | h1
      · exact absurd (hm1 _ he) (ltW_irrefl _)
      · exact h1
def swapN (x : Int) (e : EvV) : EvV := ⟨e.t, e.d, if e.no = x then x + 1 else if e.no = x + 1 then x else e.no, e.sig, e.v⟩
theorem swapN_low {x : Int} {e : EvV} (h : e.no < x) : swapN x e = e := by
  unfold swapN
  rw [if_neg (by omega), if_neg (by omega)]
theorem apart_law {now delta next : Int} {l : List EvV} (h : QOk now delta next l) {ta da sa va tb db sb vb : Int} (hne : ¬ (ta = tb ∧ da = db)) (a1 : 0 ≤ da) (a2 : 0 ≤ sa) (a3 : goneB now delta ta da = false) (b1 : 0 ≤ db) (b2 : 0 ≤ sb) (b3 : goneB now delta tb db = false) :
    pushL (pushL l ⟨ta, da, next, sa, va⟩) ⟨tb, db, next + 1, sb, vb⟩ = (pushL (pushL l ⟨tb, db, next, sb, vb⟩) ⟨ta, da, next + 1, sa, va⟩).map (swapN next) := by
  have h2 := (h.push (v := va) a1 a2 a3).push (v := vb) b1 b2 b3
  have h4 := (h.push (v := vb) b1 b2 b3).push (v := va) a1 a2 a3
  have hm : ∀ e, e ∈ pushL (pushL l ⟨tb, db, next, sb, vb⟩) ⟨ta, da, next + 1, sa, va⟩ ↔ e = ⟨ta, da, next + 1, sa, va⟩ ∨ e = ⟨tb, db, next, sb, vb⟩ ∨ e ∈ l := fun e => by rw [pushL_mem, pushL_mem]
  refine sorted_ext h2.sorted ?_ (fun e => ?_)
  · rw [List.pairwise_map]
    refine List.Pairwise.imp_of_mem (fun {a b} ha hb hab => ?_) h4.sorted
    have hl : ∀ e ∈ l, e.no < next := fun e he => (h.each e he).2.2.2.2.1
    rcases (hm a).1 ha with rfl | rfl | ha <;> rcases (hm b).1 hb with rfl | rfl | hb
    all_goals (try have ha' := hl _ ha)
    all_goals (try have hb' := hl _ hb)
    all_goals (unfold ltW swapN at *; simp only [EvV.when] at *)
    all_goals (repeat' split)
    all_goals omega
  · rw [pushL_mem, pushL_mem, List.mem_map]
    constructor
    · rintro (rfl | rfl | he)
      · exact ⟨⟨tb, db, next, sb, vb⟩, (hm _).2 (.inr (.inl rfl)), by unfold swapN; simp⟩
      · refine ⟨⟨ta, da, next + 1, sa, va⟩, (hm _).2 (.inl rfl), ?_⟩
        unfold swapN
        rw [if_neg (by simp only; omega), if_pos rfl]
      · exact ⟨e, (hm _).2 (.inr (.inr he)), swapN_low (h.each e he).2.2.2.2.1⟩
    · rintro ⟨f, hf, rfl⟩
      rcases (hm f).1 hf with rfl | rfl | hf
      · refine .inr (.inl ?_)
        unfold swapN
        rw [if_neg (by simp only; omega), if_pos rfl]
      · exact .inl (by unfold swapN; simp)
      · rw [swapN_low (h.each f hf).2.2.2.2.1]
        exact .inr (.inr hf)
/-- How two Pushes in a row go. -/
theorem push_push {now delta next : Int} {l : List EvV} (h : QOk now delta next l) {ta da sa va tb db sb vb : Int} {E1 x1 y1 z1 : Int} {l1 : List EvV} {E2 : Int}
    (hE1 : E1 = pushE now delta next l ta da sa) (g1 : E1 = 0 → QOk now delta next l ∧ x1 = now ∧ y1 = delta ∧ z1 = next + 1 ∧ l1 = pushL l ⟨ta, da, next, sa, va⟩ ∧ QOk x1 y1 z1 l1 ∧ I64 z1) (hE2 : E2 = pushE x1 y1 z1 l1 tb db sb) :
    (E1 = 0 ∧ E2 = 0) ↔ (0 ≤ da ∧ 0 ≤ sa ∧ goneB now delta ta da = false) ∧ (0 ≤ db ∧ 0 ≤ sb ∧ goneB now delta tb db = false) ∧ next + 1 < 4611686018427387904 := by
  constructor
  · rintro ⟨e1, e2⟩
    obtain ⟨-, p1, p2, p3, p4⟩ := push_zero.1 (hE1.symm.trans e1)
    obtain ⟨-, rfl, rfl, rfl, rfl, -, -⟩ := g1 e1
    obtain ⟨-, q1, q2, q3, q4⟩ := push_zero.1 (hE2.symm.trans e2)
    exact ⟨⟨p1, p2, p4⟩, ⟨q1, q2, q4⟩, q3⟩
  · rintro ⟨⟨p1, p2, p3⟩, ⟨q1, q2, q3⟩, hx⟩
    have e1 : E1 = 0 := hE1.trans (push_zero.2 ⟨h, p1, p2, by omega, p3⟩)
    obtain ⟨-, rfl, rfl, rfl, rfl, hok, -⟩ := g1 e1
    exact ⟨e1, hE2.trans (push_zero.2 ⟨hok, q1, q2, hx, q3⟩)⟩
end Go.Proofs.Ytbhbebidkeejbaa
