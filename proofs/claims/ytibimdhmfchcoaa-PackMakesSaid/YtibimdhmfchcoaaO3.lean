/- The plain law of pack.Order's two loops: what waits, what is ready. -/
import Derived.Test.YtibimdhmfchcoaaO2
namespace Go.Proofs.Ytibimdhmfchcoaa
open Go.RowKit
set_option linter.unusedVariables false
set_option linter.unusedSimpArgs false

def depN (P : PackD) (j : Nat) : List Nat := if P.now j then deps P j else []
def rem (P : PackD) (out : List Nat) (j : Nat) : Nat := (deps P j).countP (fun k => !out.contains k)
def upd {α : Type} (f : Nat → α) (k : Nat) (v : α) : Nat → α := fun j => if j = k then v else f j
theorem upd_same {α : Type} (f : Nat → α) (k : Nat) (v : α) : upd f k v k = v := by simp [upd]
theorem upd_other {α : Type} (f : Nat → α) (k : Nat) (v : α) {j : Nat} (h : j ≠ k) : upd f k v j = f j := by simp [upd, h]
theorem nodup_snoc {l : List Nat} {x : Nat} (h : l.Nodup) (hx : x ∉ l) : (l ++ [x]).Nodup := by
  rw [List.nodup_append]
  refine ⟨h, by simp, ?_⟩
  intro a ha b hb e
  simp at hb
  subst hb
  exact hx (e ▸ ha)

theorem rem_snoc (P : PackD) (out : List Nat) (b j : Nat) (hb : b ∉ out) : rem P (out ++ [b]) j + (deps P j).count b = rem P out j := by
  unfold rem
  induction deps P j with
  | nil => rfl
  | cons k l ih =>
    simp only [List.countP_cons, List.count_cons]
    by_cases hk : k = b
    · subst hk
      have h1 : (out ++ [k]).contains k = true := by simp
      have h2 : out.contains k = false := by simpa using hb
      simp only [h1, h2, Bool.not_true, Bool.not_false, if_true, beq_self_eq_true, Bool.false_eq_true, if_false]
      omega
    · have h1 : (out ++ [b]).contains k = out.contains k := by
        rw [Bool.eq_iff_iff]; simp [hk]
      simp only [h1]
      have h3 : (k == b) = false := by simpa using hk
      simp only [h3, Bool.false_eq_true, if_false]
      omega
theorem rem_zero {P : PackD} {out : List Nat} {b : Nat} : rem P out b = 0 ↔ ∀ k ∈ deps P b, k ∈ out := by
  unfold rem
  rw [List.countP_eq_zero]
  simp
theorem ready_rem {P : PackD} {out : List Nat} {b : Nat} : readyN P out b = true ↔ P.now b = true ∧ b ∉ out ∧ rem P out b = 0 := by
  rw [readyN_iff, rem_zero]
theorem rem_nil (P : PackD) (j : Nat) : rem P [] j = (deps P j).length := by
  unfold rem; simp [List.countP_eq_length_filter]
theorem rem_le (P : PackD) (out : List Nat) (j : Nat) : rem P out j ≤ (deps P j).length := by unfold rem; exact List.countP_le_length

/-- In what is told, each one's are told. -/
def Closed (P : PackD) (out : List Nat) : Prop := ∀ x ∈ out, ∀ k ∈ deps P x, k ∈ out
theorem greedy_closed (P : PackD) (j : Nat) : Closed P (greedy P j) := by
  induction j with
  | zero => intro x hx; cases hx
  | succ j ih =>
    unfold greedy
    cases h : pick P (greedy P j) with
    | none => exact ih
    | some b =>
      intro x hx k hk
      rcases List.mem_append.1 hx with hx | hx
      · exact List.mem_append_left _ (ih x hx k hk)
      · simp at hx; subst hx
        exact List.mem_append_left _ ((readyN_iff.1 (pick_spec h).2.1).2.2 k hk)

/-! The first loop. -/
def wtA (P : PackD) (i j : Nat) : Nat := if j < i then (depN P j).length else 0
def cnA (P : PackD) (i j k : Nat) : Nat := if j < i then (depN P j).count k else 0
def rdA (P : PackD) (i : Nat) : List Nat := (List.range i).filter (readyN P [])
structure KA (P : PackD) (i : Nat) (wt : Nat → Nat) (bh : Nat → List Nat) (l : List Int) : Prop where
  hw : ∀ j, wt j = wtA P i j
  hb : ∀ j k, (bh k).count j = cnA P i j k
  len : ∀ k, (bh k).length ≤ 4 * i
  rd : l.Perm ((rdA P i).map Int.ofNat)
structure KB (P : PackD) (i q : Nat) (wt : Nat → Nat) (bh : Nat → List Nat) (l : List Int) : Prop where
  hw : ∀ j, wt j = if j = i then (depsTo P i q).length else wtA P i j
  hb : ∀ j k, (bh k).count j = if j = i then (depsTo P i q).count k else cnA P i j k
  len : ∀ k, (bh k).length ≤ 4 * i + q
  rd : l.Perm ((rdA P i).map Int.ofNat)
theorem rdA_succ (P : PackD) (i : Nat) : rdA P (i + 1) = rdA P i ++ (if readyN P [] i then [i] else []) := by
  unfold rdA
  rw [List.range_succ, List.filter_append]
  by_cases h : readyN P [] i = true
  · rw [if_pos h, List.filter_cons, if_pos h]; rfl
  · rw [if_neg h, List.filter_cons, if_neg h]; rfl
theorem rdA_len (P : PackD) (i : Nat) : (rdA P i).length ≤ i := by
  unfold rdA
  exact Nat.le_trans (List.length_filter_le _ _) (by simp)
theorem KA.zero (P : PackD) : KA P 0 (fun _ => 0) (fun _ => []) [] :=
  ⟨fun j => by simp [wtA], fun j k => by simp [cnA], fun k => by simp, by simp [rdA]⟩
theorem KA.llen {P : PackD} {i : Nat} {wt : Nat → Nat} {bh : Nat → List Nat} {l : List Int} (h : KA P i wt bh l) : l.length ≤ i := by
  rw [h.rd.length_eq, List.length_map]; exact rdA_len P i
theorem KB.llen {P : PackD} {i q : Nat} {wt : Nat → Nat} {bh : Nat → List Nat} {l : List Int} (h : KB P i q wt bh l) : l.length ≤ i := by
  rw [h.rd.length_eq, List.length_map]; exact rdA_len P i
theorem ready_nil (P : PackD) (i : Nat) : readyN P [] i = (P.now i && (deps P i).isEmpty) := by
  unfold readyN
  cases P.now i <;> cases h : deps P i <;> simp
/-- A block with a flop is passed over. -/
theorem KA.skip {P : PackD} {i : Nat} {wt : Nat → Nat} {bh : Nat → List Nat} {l : List Int} (h : KA P i wt bh l) (hn : P.now i = false) : KA P (i + 1) wt bh l := by
  have hd : depN P i = [] := by unfold depN; rw [hn]; rfl
  refine ⟨fun j => ?_, fun j k => ?_, fun k => by have := h.len k; omega, ?_⟩
  · rw [h.hw]; unfold wtA
    by_cases e : j = i
    · subst e; simp [hd]
    · by_cases e2 : j < i
      · rw [if_pos e2, if_pos (by omega)]
      · rw [if_neg e2, if_neg (by omega)]
  · rw [h.hb]; unfold cnA
    by_cases e : j = i
    · subst e; simp [hd]
    · by_cases e2 : j < i
      · rw [if_pos e2, if_pos (by omega)]
      · rw [if_neg e2, if_neg (by omega)]
  · rw [rdA_succ, ready_nil, hn]; simpa using h.rd
theorem KA.start {P : PackD} {i : Nat} {wt : Nat → Nat} {bh : Nat → List Nat} {l : List Int} (h : KA P i wt bh l) : KB P i 0 wt bh l := by
  have hd : depsTo P i 0 = [] := by unfold depsTo; simp
  refine ⟨fun j => ?_, fun j k => ?_, fun k => by have := h.len k; omega, h.rd⟩
  · rw [h.hw]
    by_cases e : j = i
    · subst e; simp [hd, wtA]
    · rw [if_neg e]
  · rw [h.hb]
    by_cases e : j = i
    · subst e; simp [hd, cnA]
    · rw [if_neg e]
theorem KB.skip {P : PackD} {i q : Nat} {wt : Nat → Nat} {bh : Nat → List Nat} {l : List Int} (h : KB P i q wt bh l) (hq : q < (P.blk i).ins.length) (hd : depOf P ((P.blk i).ins.getD q 0) = false) : KB P i (q + 1) wt bh l := by
  have e : depsTo P i (q + 1) = depsTo P i q := by rw [depsTo_succ P i q hq, hd]; simp
  refine ⟨fun j => by rw [h.hw, e], fun j k => by rw [h.hb, e], fun k => by have := h.len k; omega, h.rd⟩
theorem KB.add {P : PackD} {i q x : Nat} {wt : Nat → Nat} {bh : Nat → List Nat} {l : List Int} (h : KB P i q wt bh l) (hq : q < (P.blk i).ins.length) (hd : depOf P ((P.blk i).ins.getD q 0) = true) (hx : ((P.blk i).ins.getD q 0 - P.ins).toNat = x) :
    KB P i (q + 1) (upd wt i (wt i + 1)) (upd bh x (bh x ++ [i])) l := by
  have e : depsTo P i (q + 1) = depsTo P i q ++ [x] := by rw [depsTo_succ P i q hq, hd, hx]; simp
  refine ⟨fun j => ?_, fun j k => ?_, fun k => ?_, h.rd⟩
  · rw [e]
    by_cases c : j = i
    · subst c; rw [upd_same, h.hw, if_pos rfl, if_pos rfl]; simp
    · rw [upd_other _ _ _ c, h.hw, if_neg c, if_neg c]
  · rw [e]
    by_cases c2 : k = x
    · subst c2
      rw [upd_same, List.count_append, h.hb]
      by_cases c : j = i
      · subst c; rw [if_pos rfl, if_pos rfl, List.count_append]; simp
      · rw [if_neg c, if_neg c]
        simp [List.count_cons]
        exact fun e => c e.symm
    · rw [upd_other _ _ _ c2, h.hb]
      by_cases c : j = i
      · subst c; rw [if_pos rfl, if_pos rfl, List.count_append]
        simp [List.count_cons]
        exact fun e => c2 e.symm
      · rw [if_neg c, if_neg c]
  · have := h.len k
    by_cases c2 : k = x
    · subst c2; rw [upd_same, List.length_append]; simp; omega
    · rw [upd_other _ _ _ c2]; omega
theorem KB.done {P : PackD} {i : Nat} {wt : Nat → Nat} {bh : Nat → List Nat} {l l' : List Int} (h : KB P i (P.blk i).ins.length wt bh l) (hn : P.now i = true) (h4 : (P.blk i).ins.length ≤ 4)
    (hl : l'.Perm (if wt i = 0 then l ++ [Int.ofNat i] else l)) : KA P (i + 1) wt bh l' := by
  have hd : depN P i = deps P i := by unfold depN; rw [if_pos hn]
  have hdt := depsTo_all P i
  refine ⟨fun j => ?_, fun j k => ?_, fun k => by have := h.len k; omega, ?_⟩
  · rw [h.hw, hdt, ← hd]; unfold wtA
    by_cases e : j = i
    · subst e; rw [if_pos rfl, if_pos (by omega)]
    · rw [if_neg e]
      by_cases e2 : j < i
      · rw [if_pos e2, if_pos (by omega)]
      · rw [if_neg e2, if_neg (by omega)]
  · rw [h.hb, hdt, ← hd]; unfold cnA
    by_cases e : j = i
    · subst e; rw [if_pos rfl, if_pos (by omega)]
    · rw [if_neg e]
      by_cases e2 : j < i
      · rw [if_pos e2, if_pos (by omega)]
      · rw [if_neg e2, if_neg (by omega)]
  · refine hl.trans ?_
    have hw : wt i = (deps P i).length := by rw [h.hw, if_pos rfl, hdt]
    rw [rdA_succ, ready_nil, hn, hw]
    by_cases e : deps P i = []
    · rw [e]; simp only [List.length_nil, if_pos, List.isEmpty_nil, Bool.and_true, List.map_append]
      exact h.rd.append_right _
    · have e1 : (deps P i).length ≠ 0 := by simpa using e
      have e2 : (deps P i).isEmpty = false := by simpa using e
      rw [if_neg e1, e2]; simpa using h.rd

/-! The second loop. -/
structure KC (P : PackD) (out : List Nat) (wt : Nat → Nat) (bh : Nat → List Nat) (l : List Int) (r : List Nat) : Prop where
  hw : ∀ j, j < P.n → P.now j = true → wt j = rem P out j
  hb : ∀ j k, (bh k).count j = if j < P.n then (depN P j).count k else 0
  len : ∀ k, (bh k).length ≤ 4 * P.n
  rd : l.Perm (r.map Int.ofNat)
  nodup : r.Nodup
  mem : ∀ x, x ∈ r ↔ x < P.n ∧ readyN P out x = true
structure KD (P : PackD) (out : List Nat) (b q : Nat) (wt : Nat → Nat) (bh : Nat → List Nat) (l : List Int) (r : List Nat) : Prop where
  hw : ∀ j, j < P.n → P.now j = true → wt j + ((bh b).take q).count j = rem P out j
  hb : ∀ j k, (bh k).count j = if j < P.n then (depN P j).count k else 0
  len : ∀ k, (bh k).length ≤ 4 * P.n
  rd : l.Perm (r.map Int.ofNat)
  nodup : r.Nodup
  mem : ∀ x, x ∈ r ↔ (x < P.n ∧ readyN P out x = true ∧ x ≠ b) ∨ (x < P.n ∧ x ∈ (bh b).take q ∧ wt x = 0)
theorem KA.all {P : PackD} {wt : Nat → Nat} {bh : Nat → List Nat} {l : List Int} (h : KA P P.n wt bh l) : KC P [] wt bh l (rdA P P.n) := by
  refine ⟨fun j hj hn => ?_, fun j k => h.hb j k, h.len, h.rd, ?_, fun x => ?_⟩
  · rw [h.hw, rem_nil]; unfold wtA depN; rw [if_pos hj, if_pos hn]
  · unfold rdA; exact List.Pairwise.filter _ List.nodup_range
  · unfold rdA; simp
theorem KC.rlen {P : PackD} {out : List Nat} {wt : Nat → Nat} {bh : Nat → List Nat} {l : List Int} {r : List Nat} (h : KC P out wt bh l r) : l.length ≤ P.n := by
  rw [h.rd.length_eq, List.length_map]
  have := nodup_len r (List.range P.n) h.nodup (fun x hx => by simpa using ((h.mem x).1 hx).1)
  simpa using this
theorem KD.rlen {P : PackD} {out : List Nat} {b q : Nat} {wt : Nat → Nat} {bh : Nat → List Nat} {l : List Int} {r : List Nat} (h : KD P out b q wt bh l r) : l.length ≤ P.n := by
  rw [h.rd.length_eq, List.length_map]
  have := nodup_len r (List.range P.n) h.nodup (fun x hx => by rcases (h.mem x).1 hx with h | h <;> simpa using h.1)
  simpa using this
theorem mem_ofNat {r : List Nat} {x : Int} (h : x ∈ r.map Int.ofNat) : ∃ b : Nat, x = b ∧ b ∈ r := by
  obtain ⟨b, hb, rfl⟩ := List.mem_map.1 h
  exact ⟨b, rfl, hb⟩
/-- What is popped is what is told next. -/
theorem KC.pop {P : PackD} {out : List Nat} {wt : Nat → Nat} {bh : Nat → List Nat} {l l' : List Int} {r : List Nat} {x : Int} (h : KC P out wt bh l r) (hp : l.Perm (l' ++ [x])) (hmin : ∀ y ∈ l, x ≤ y) :
    ∃ b : Nat, x = b ∧ pick P out = some b ∧ KD P out b 0 wt bh l' (r.erase b) := by
  have hx : x ∈ l := hp.symm.subset (by simp)
  obtain ⟨b, rfl, hb⟩ := mem_ofNat (h.rd.subset hx)
  obtain ⟨hb1, hb2⟩ := (h.mem b).1 hb
  refine ⟨b, rfl, pick_of hb1 hb2 (fun k hk => ?_), ⟨fun j hj hn => by simpa using h.hw j hj hn, h.hb, h.len, ?_, h.nodup.erase b, fun y => ?_⟩⟩
  · rw [Bool.eq_false_iff]
    intro hr
    have hkr : k ∈ r := (h.mem k).2 ⟨by omega, hr⟩
    have := hmin (k : Int) (h.rd.symm.subset (List.mem_map.2 ⟨k, hkr, rfl⟩))
    omega
  · have h1 : (r.map Int.ofNat).Perm ((r.erase b).map Int.ofNat ++ [(b : Int)]) := by
      have := (List.perm_cons_erase hb).map Int.ofNat
      rw [List.map_cons] at this
      exact this.trans (List.perm_append_comm (l₁ := [(b : Int)]))
    exact (List.perm_append_right_iff [(b : Int)]).1 ((hp.symm.trans h.rd).trans h1)
  · rw [List.Nodup.mem_erase_iff h.nodup, h.mem]
    simp
    constructor
    · rintro ⟨a, b, c⟩; exact ⟨b, c, a⟩
    · rintro ⟨a, b, c⟩; exact ⟨c, a, b⟩
theorem count_take_lt {l : List Nat} {q : Nat} (hq : q < l.length) : (l.take q).count (l.getD q 0) + 1 ≤ l.count (l.getD q 0) := by
  have h2 := take_one l 0 q hq
  generalize l.getD q 0 = k at h2 ⊢
  have h1 : l.count k = (l.take (q + 1) ++ l.drop (q + 1)).count k := by rw [List.take_append_drop]
  rw [h2, List.count_append, List.count_append] at h1
  have : [k].count k = 1 := by simp
  omega
/-- One that hung on what was told. -/
theorem KD.fine {P : PackD} {out : List Nat} {b q : Nat} {wt : Nat → Nat} {bh : Nat → List Nat} {l : List Int} {r : List Nat} (h : KD P out b q wt bh l r) (hb : b ∉ out) (hq : q < (bh b).length) :
    (bh b).getD q 0 < P.n ∧ P.now ((bh b).getD q 0) = true ∧ 1 ≤ wt ((bh b).getD q 0) ∧ wt ((bh b).getD q 0) ≤ (deps P ((bh b).getD q 0)).length ∧ b ∈ deps P ((bh b).getD q 0) := by
  have hc := count_take_lt hq
  have hbh := h.hb ((bh b).getD q 0) b
  generalize hk : (bh b).getD q 0 = k at hc hbh ⊢
  have hkn : k < P.n := by
    by_cases e : k < P.n
    · exact e
    · rw [if_neg e] at hbh; omega
  rw [if_pos hkn] at hbh
  have hkw : P.now k = true := by
    by_cases e : P.now k = true
    · exact e
    · unfold depN at hbh; rw [if_neg e] at hbh; simp at hbh; omega
  have hdn : depN P k = deps P k := by unfold depN; rw [if_pos hkw]
  rw [hdn] at hbh
  have hw := h.hw k hkn hkw
  have hrs := rem_snoc P out b k hb
  have hrl := rem_le P out k
  refine ⟨hkn, hkw, by omega, by omega, ?_⟩
  rw [← List.count_pos_iff]; omega
theorem KD.step {P : PackD} {out : List Nat} {b q k : Nat} {wt : Nat → Nat} {bh : Nat → List Nat} {l l' : List Int} {r : List Nat} (h : KD P out b q wt bh l r) (hb : b ∉ out) (hcl : Closed P out) (hrb : readyN P out b = true) (hq : q < (bh b).length) (hk : (bh b).getD q 0 = k)
    (hl : l'.Perm (if wt k = 1 then l ++ [Int.ofNat k] else l)) : ∃ r', KD P out b (q + 1) (upd wt k (wt k - 1)) bh l' r' := by
  obtain ⟨f1, f2, f3, f4, f5⟩ := h.fine hb hq
  rw [hk] at f1 f2 f3 f4 f5
  have htk := take_one (bh b) 0 q hq
  rw [hk] at htk
  have hcnt : ∀ j, ((bh b).take (q + 1)).count j = ((bh b).take q).count j + if j = k then 1 else 0 := by
    intro j
    rw [htk, List.count_append]
    by_cases e : j = k
    · subst e; simp
    · rw [if_neg e]; simp [List.count_cons]; exact fun e2 => e e2.symm
  have hwt : ∀ j, j < P.n → P.now j = true → upd wt k (wt k - 1) j + ((bh b).take (q + 1)).count j = rem P out j := by
    intro j hj hn
    have h0 := h.hw j hj hn
    rw [hcnt]
    by_cases e : j = k
    · subst e; rw [upd_same, if_pos rfl]; omega
    · rw [upd_other _ _ _ e, if_neg e]; omega
  have hkr : k ∉ r := by
    intro hm
    rcases (h.mem k).1 hm with ⟨_, h1, _⟩ | ⟨_, _, h1⟩
    · obtain ⟨_, _, h2⟩ := readyN_iff.1 h1
      exact hb (h2 b f5)
    · omega
  have hkb : k ≠ b := by
    intro e
    rw [e] at f5
    exact hb ((readyN_iff.1 hrb).2.2 b f5)
  have hmem : ∀ x, x ≠ k → ((x < P.n ∧ x ∈ (bh b).take (q + 1) ∧ upd wt k (wt k - 1) x = 0) ↔ (x < P.n ∧ x ∈ (bh b).take q ∧ wt x = 0)) := by
    intro x hx
    rw [upd_other _ _ _ hx, htk]
    simp [hx]
  by_cases h1 : wt k = 1
  · rw [if_pos h1] at hl
    refine ⟨r ++ [k], hwt, h.hb, h.len, ?_, nodup_snoc h.nodup hkr, fun x => ?_⟩
    · rw [List.map_append]; exact hl.trans (h.rd.append_right _)
    · by_cases e : x = k
      · subst e
        simp only [List.mem_append, List.mem_singleton, or_true, true_iff]
        exact .inr ⟨f1, by rw [htk]; simp, by rw [upd_same]; omega⟩
      · rw [List.mem_append, h.mem x, hmem x e]
        simp [e]
  · rw [if_neg h1] at hl
    refine ⟨r, hwt, h.hb, h.len, hl.trans h.rd, h.nodup, fun x => ?_⟩
    by_cases e : x = k
    · subst e
      constructor
      · intro hm; exact absurd hm hkr
      · rintro (⟨a1, a2, _⟩ | ⟨_, _, a3⟩)
        · exact absurd ((readyN_iff.1 a2).2.2 b f5) hb
        · rw [upd_same] at a3; omega
    · rw [h.mem x, hmem x e]
theorem KD.done {P : PackD} {out : List Nat} {b : Nat} {wt : Nat → Nat} {bh : Nat → List Nat} {l : List Int} {r : List Nat} (h : KD P out b (bh b).length wt bh l r) (hb : b ∉ out) (hcl : Closed P out) (hrb : readyN P out b = true) : KC P (out ++ [b]) wt bh l r := by
  have hw : ∀ j, j < P.n → P.now j = true → wt j = rem P (out ++ [b]) j := by
    intro j hj hn
    have h0 := h.hw j hj hn
    rw [List.take_length, h.hb j b, if_pos hj] at h0
    have : depN P j = deps P j := by unfold depN; rw [if_pos hn]
    rw [this] at h0
    have := rem_snoc P out b j hb
    omega
  refine ⟨hw, h.hb, h.len, h.rd, h.nodup, fun x => ?_⟩
  rw [h.mem x, List.take_length]
  constructor
  · rintro (⟨h1, h2, h3⟩ | ⟨h1, h2, h3⟩)
    · refine ⟨h1, readyN_iff.2 ?_⟩
      obtain ⟨a1, a2, a3⟩ := readyN_iff.1 h2
      exact ⟨a1, by simp [a2, h3], fun k hk => List.mem_append_left _ (a3 k hk)⟩
    · have hc := List.count_pos_iff.2 h2
      rw [h.hb x b, if_pos h1] at hc
      have hn : P.now x = true := by
        by_cases e : P.now x = true
        · exact e
        · unfold depN at hc; rw [if_neg e] at hc; simp at hc
      have hd : depN P x = deps P x := by unfold depN; rw [if_pos hn]
      rw [hd, List.count_pos_iff] at hc
      refine ⟨h1, ready_rem.2 ⟨hn, ?_, by rw [← hw x h1 hn]; exact h3⟩⟩
      intro hx
      rcases List.mem_append.1 hx with hx | hx
      · exact hb (hcl x hx b hc)
      · simp at hx; subst hx
        exact hb ((readyN_iff.1 hrb).2.2 x hc)
  · rintro ⟨h1, h2⟩
    obtain ⟨a1, a2, a3⟩ := ready_rem.1 h2
    have hx : x ∉ out ∧ x ≠ b := by simpa using a2
    by_cases e : rem P out x = 0
    · exact .inl ⟨h1, ready_rem.2 ⟨a1, hx.1, e⟩, hx.2⟩
    · refine .inr ⟨h1, ?_, by rw [hw x h1 a1]; exact a3⟩
      have hrs := rem_snoc P out b x hb
      rw [← List.count_pos_iff, h.hb x b, if_pos h1]
      unfold depN; rw [if_pos a1]; omega
theorem KC.stop {P : PackD} {out : List Nat} {wt : Nat → Nat} {bh : Nat → List Nat} {r : List Nat} (h : KC P out wt bh [] r) : pick P out = none := by
  have hr : r = [] := by
    have := h.rd.length_eq
    simp at this
    exact List.eq_nil_of_length_eq_zero this.symm
  refine pick_no (fun k hk => ?_)
  rw [Bool.eq_false_iff]
  intro hc
  have := (h.mem k).2 ⟨hk, hc⟩
  rw [hr] at this; cases this
end Go.Proofs.Ytibimdhmfchcoaa
