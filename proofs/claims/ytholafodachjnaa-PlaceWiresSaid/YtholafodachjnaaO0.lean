/- The plain law of the order in which blocks are told, and of a heap of numbers. -/
import Derived.Test.YtholafodachjnaaAX
namespace Go.Proofs.Ytholafodachjnaa
open Go.RowKit
set_option linter.unusedVariables false
set_option linter.unusedSimpArgs false

theorem nodup_len : ∀ (a U : List Nat), a.Nodup → (∀ x ∈ a, x ∈ U) → a.length ≤ U.length
  | [], _, _, _ => by simp
  | x :: a, U, hn, hm => by
    have hx := hm x (by simp)
    rw [List.nodup_cons] at hn
    have h := nodup_len a (U.erase x) hn.2 (fun y hy => (List.mem_erase_of_ne (fun e => hn.1 (by rw [← e]; exact hy))).2 (hm y (by simp [hy])))
    rw [List.length_erase_of_mem hx] at h
    have := List.length_pos_of_mem hx
    simp only [List.length_cons]; omega

/-- Blocks, their inputs' number, and what goes out. -/
structure PackD where
  ins : Int
  bs : List BlkD
  outs : List Int

def PackD.n (P : PackD) : Nat := P.bs.length
def PackD.blk (P : PackD) (i : Nat) : BlkD := P.bs.getD i default
def PackD.now (P : PackD) (i : Nat) : Bool := !(P.blk i).ff

/-- Is a wire that of a block that is at once? -/
def depOf (P : PackD) (w : Int) : Bool := decide (P.ins ≤ w) && P.now (w - P.ins).toNat
/-- The blocks at once on which one hangs, of its first inputs. -/
def depsTo (P : PackD) (i q : Nat) : List Nat := (((P.blk i).ins.take q).filter (depOf P)).map (fun w => (w - P.ins).toNat)
def deps (P : PackD) (i : Nat) : List Nat := ((P.blk i).ins.filter (depOf P)).map (fun w => (w - P.ins).toNat)
def readyN (P : PackD) (out : List Nat) (b : Nat) : Bool := P.now b && !out.contains b && (deps P b).all (fun k => out.contains k)
def pick (P : PackD) (out : List Nat) : Option Nat := (List.range P.n).find? (readyN P out)
def greedy (P : PackD) : Nat → List Nat
  | 0 => []
  | j + 1 => match pick P (greedy P j) with
    | none => greedy P j
    | some b => greedy P j ++ [b]
def orderL (P : PackD) : List Nat := greedy P P.n
def nowTo (P : PackD) (j : Nat) : Nat := ((List.range j).filter P.now).length

def blkB (wires : Int) (b : BlkD) : Bool := decide (b.ins.length ≤ 4) && (decide (0 ≤ b.tab) && decide (b.tab < 2 ^ (2 ^ b.ins.length))) && (!b.init || b.ff) && b.ins.all (fun w => decide (0 ≤ w) && decide (w < wires))
def mayB (P : PackD) : Bool := (decide (0 ≤ P.ins) && decide (P.ins ≤ 1024) && decide (P.n ≤ 1024)) && (P.bs.all (blkB (P.ins + P.n)) && P.outs.all (fun w => decide (0 ≤ w) && decide (w < P.ins + P.n)))
/-- Why blocks may not be told, or 0. -/
def orderE (P : PackD) : Int := if mayB P then (if (orderL P).length < nowTo P P.n then 321 else 0) else 1
/-- The order as it is told: none where there is none. -/
def orderT (P : PackD) : List Int := if orderE P = 0 then (orderL P).map Int.ofNat else []

theorem depsTo_all (P : PackD) (i : Nat) : depsTo P i (P.blk i).ins.length = deps P i := by unfold depsTo deps; rw [List.take_length]

theorem pick_spec {P : PackD} {out : List Nat} {b : Nat} (h : pick P out = some b) : b < P.n ∧ readyN P out b = true ∧ ∀ k, k < b → readyN P out k = false := by
  unfold pick at h
  rw [List.find?_range_eq_some] at h
  obtain ⟨h1, h2, h3⟩ := h
  exact ⟨by simpa using h2, h1, fun k hk => by simpa using h3 k hk⟩
theorem pick_of {P : PackD} {out : List Nat} {b : Nat} (hb : b < P.n) (hr : readyN P out b = true) (hno : ∀ k, k < b → readyN P out k = false) : pick P out = some b := by
  unfold pick
  rw [List.find?_range_eq_some]
  exact ⟨hr, by simpa using hb, fun k hk => by simpa using hno k hk⟩
theorem pick_no {P : PackD} {out : List Nat} (h : ∀ k, k < P.n → readyN P out k = false) : pick P out = none := by
  unfold pick
  rw [List.find?_eq_none]
  intro k hk
  simpa using h k (by simpa using hk)

structure Told (P : PackD) (out : List Nat) : Prop where
  nodup : out.Nodup
  lt : ∀ x ∈ out, x < P.n ∧ P.now x = true
theorem Told.nil (P : PackD) : Told P [] := ⟨by simp, by simp⟩
theorem readyN_iff {P : PackD} {out : List Nat} {b : Nat} : readyN P out b = true ↔ P.now b = true ∧ b ∉ out ∧ ∀ k ∈ deps P b, k ∈ out := by
  unfold readyN
  simp [and_assoc]
theorem Told.add {P : PackD} {out : List Nat} (h : Told P out) {b : Nat} (hb : b < P.n) (hr : readyN P out b = true) : Told P (out ++ [b]) := by
  obtain ⟨h1, h2, _⟩ := readyN_iff.1 hr
  refine ⟨?_, ?_⟩
  · rw [List.nodup_append]
    refine ⟨h.nodup, by simp, ?_⟩
    intro a ha b' hb'
    simp at hb'
    subst hb'
    exact fun e => h2 (e ▸ ha)
  · intro x hx
    rcases List.mem_append.1 hx with hx | hx
    · exact h.lt x hx
    · simp at hx; subst hx; exact ⟨hb, h1⟩
theorem greedy_told (P : PackD) (j : Nat) : Told P (greedy P j) := by
  induction j with
  | zero => exact Told.nil P
  | succ j ih =>
    unfold greedy
    cases h : pick P (greedy P j) with
    | none => exact ih
    | some b => exact ih.add (pick_spec h).1 (pick_spec h).2.1
theorem Told.len {P : PackD} {out : List Nat} (h : Told P out) : out.length ≤ nowTo P P.n :=
  nodup_len out _ h.nodup (fun x hx => by simpa using h.lt x hx)
theorem nowTo_le (P : PackD) (j : Nat) : nowTo P j ≤ j := by
  unfold nowTo
  exact Nat.le_trans (List.length_filter_le _ _) (by simp)
theorem nowTo_succ (P : PackD) (j : Nat) : nowTo P (j + 1) = nowTo P j + if P.now j then 1 else 0 := by
  unfold nowTo
  rw [List.range_succ, List.filter_append, List.length_append]
  by_cases h : P.now j = true <;> simp [h]
theorem Told.lenN {P : PackD} {out : List Nat} (h : Told P out) : out.length ≤ P.n := Nat.le_trans h.len (nowTo_le P P.n)
theorem greedy_stop {P : PackD} {j : Nat} (h : pick P (greedy P j) = none) : ∀ k, greedy P (j + k) = greedy P j
  | 0 => rfl
  | k + 1 => by
    show (match pick P (greedy P (j + k)) with | none => greedy P (j + k) | some b => greedy P (j + k) ++ [b]) = _
    rw [greedy_stop h k, h]
theorem greedy_le (P : PackD) (j : Nat) : (greedy P j).length ≤ j := by
  induction j with
  | zero => simp [greedy]
  | succ j ih =>
    unfold greedy
    split
    · omega
    · simp; omega
theorem orderL_told (P : PackD) : Told P (orderL P) := greedy_told P P.n
theorem orderL_len (P : PackD) : (orderL P).length ≤ nowTo P P.n := (orderL_told P).len
/-- What is told till nothing more is ready is all that is told. -/
theorem orderL_of {P : PackD} {j : Nat} (h : pick P (greedy P j) = none) (hj : j ≤ P.n) : orderL P = greedy P j := by
  unfold orderL
  have := greedy_stop h (P.n - j)
  rwa [show j + (P.n - j) = P.n by omega] at this
theorem greedy_next {P : PackD} {j b : Nat} (h : pick P (greedy P j) = some b) : greedy P (j + 1) = greedy P j ++ [b] := by
  show (match pick P (greedy P j) with | none => greedy P j | some b => greedy P j ++ [b]) = _
  rw [h]

/-! A heap of numbers, the least one first. -/
def par (k : Nat) : Nat := (k - 1) / 2
theorem par_lt {k : Nat} (h : 0 < k) : par k < k := by unfold par; omega
def IsHeap (l : List Int) (n : Nat) : Prop := ∀ k, 0 < k → k < n → l.getD (par k) 0 ≤ l.getD k 0
def UpAt (l : List Int) (n j : Nat) : Prop := (∀ k, 0 < k → k < n → k ≠ j → l.getD (par k) 0 ≤ l.getD k 0) ∧ (∀ k, 0 < k → k < n → par k = j → 0 < j → l.getD (par j) 0 ≤ l.getD k 0)
def DnAt (l : List Int) (n i : Nat) : Prop := (∀ k, 0 < k → k < n → par k ≠ i → l.getD (par k) 0 ≤ l.getD k 0) ∧ (∀ k, 0 < k → k < n → par k = i → 0 < i → l.getD (par i) 0 ≤ l.getD k 0)
def swapL (l : List Int) (i j : Nat) : List Int := (l.set i (l.getD j 0)).set j (l.getD i 0)
theorem swapL_length (l : List Int) (i j : Nat) : (swapL l i j).length = l.length := by simp [swapL]
theorem swapL_get (l : List Int) (i j k : Nat) (hi : i < l.length) (hj : j < l.length) : (swapL l i j).getD k 0 = if k = j then l.getD i 0 else if k = i then l.getD j 0 else l.getD k 0 := by
  unfold swapL
  simp only [List.getD_eq_getElem?_getD, List.getElem?_set, List.length_set]
  by_cases h1 : k = j
  · subst h1
    rw [if_pos rfl, if_pos rfl, if_pos hj]; rfl
  · rw [if_neg (fun e => h1 e.symm), if_neg h1]
    by_cases h2 : k = i
    · subst h2
      rw [if_pos rfl, if_pos rfl, if_pos hi]; rfl
    · rw [if_neg (fun e => h2 e.symm), if_neg h2]
theorem swapL_perm (l : List Int) (i j : Nat) (hi : i < l.length) (hj : j < l.length) : (swapL l i j).Perm l := by
  have h := Array.swap_perm (xs := l.toArray) (i := i) (j := j) (by simpa using hi) (by simpa using hj)
  rw [Array.perm_iff_toList_perm] at h
  simp only [Array.swap_def, Array.toList_set] at h
  unfold swapL
  simpa [List.getD_eq_getElem?_getD, List.getElem?_eq_getElem hi, List.getElem?_eq_getElem hj] using h
theorem heap_top {l : List Int} {n : Nat} (h : IsHeap l n) : ∀ k, k < n → l.getD 0 0 ≤ l.getD k 0 := by
  intro k
  induction k using Nat.strongRecOn with
  | _ k ih =>
    intro hk
    rcases Nat.eq_zero_or_pos k with h0 | h0
    · subst h0; exact Int.le_refl _
    · exact Int.le_trans (ih (par k) (par_lt h0) (by have := par_lt h0; omega)) (h k h0 hk)
theorem getD_snoc_lt (l : List Int) (x : Int) (k : Nat) (h : k < l.length) : (l ++ [x]).getD k 0 = l.getD k 0 := by
  simp only [List.getD_eq_getElem?_getD, List.getElem?_append_left h]
theorem up_start {l : List Int} {x : Int} (h : IsHeap l l.length) : UpAt (l ++ [x]) (l.length + 1) l.length := by
  refine ⟨fun k h0 hk hne => ?_, fun k h0 hk hp => ?_⟩
  · rw [getD_snoc_lt _ _ _ (by have := par_lt h0; omega), getD_snoc_lt _ _ _ (by omega)]
    exact h k h0 (by omega)
  · have := par_lt h0; omega
theorem up_stop {l : List Int} {n j : Nat} (h : UpAt l n j) (hs : j = 0 ∨ l.getD (par j) 0 ≤ l.getD j 0) : IsHeap l n := by
  intro k h0 hk
  by_cases hj : k = j
  · subst hj
    rcases hs with hs | hs
    · omega
    · exact hs
  · exact h.1 k h0 hk hj
theorem up_step {l : List Int} {n j : Nat} (h : UpAt l n j) (hn : n = l.length) (hj : j < n) (h0 : 0 < j) (hlt : l.getD j 0 < l.getD (par j) 0) : UpAt (swapL l (par j) j) n (par j) := by
  subst hn
  have hp := par_lt h0
  have G := fun k => swapL_get l (par j) j k (by omega) hj
  refine ⟨fun k k0 hk hne => ?_, fun k k0 hk hpk hi => ?_⟩
  · rw [G, G]
    by_cases e1 : k = j
    · subst e1
      rw [if_pos rfl, if_neg (by omega), if_pos rfl]; omega
    · rw [if_neg e1, if_neg hne]
      by_cases e2 : par k = j
      · rw [if_pos e2]; exact h.2 k k0 hk e2 h0
      · rw [if_neg e2]
        by_cases e3 : par k = par j
        · rw [if_pos e3]
          have := h.1 k k0 hk e1
          rw [e3] at this; omega
        · rw [if_neg e3]; exact h.1 k k0 hk e1
  · have hpp := par_lt hi
    rw [G, G, if_neg (by omega), if_neg (by omega)]
    have hij := h.1 (par j) hi (by omega) (by omega)
    by_cases e1 : k = j
    · rw [if_pos e1]; exact hij
    · rw [if_neg e1, if_neg (by have := par_lt k0; omega)]
      have := h.1 k k0 hk e1
      rw [hpk] at this; omega
theorem dn_start {l : List Int} {n : Nat} (h : IsHeap l (n + 1)) (hl : l.length = n + 1) : DnAt (swapL l 0 n) n 0 := by
  have G := fun k => swapL_get l 0 n k (by omega) (by omega)
  refine ⟨fun k k0 hk hne => ?_, fun k k0 hk hp hi => by omega⟩
  have := par_lt k0
  rw [G, G, if_neg (by omega), if_neg hne, if_neg (by omega), if_neg (by omega)]
  exact h k k0 (by omega)
theorem dn_stop {l : List Int} {n i : Nat} (h : DnAt l n i) (hs : ∀ k, 0 < k → k < n → par k = i → l.getD i 0 ≤ l.getD k 0) : IsHeap l n := by
  intro k h0 hk
  by_cases e : par k = i
  · rw [e]; exact hs k h0 hk e
  · exact h.1 k h0 hk e
theorem dn_step {l : List Int} {n i j : Nat} (h : DnAt l n i) (hn : n ≤ l.length) (hj : j < n) (h0 : 0 < j) (hp : par j = i) (hlt : l.getD j 0 < l.getD i 0) (hmin : ∀ k, 0 < k → k < n → par k = i → l.getD j 0 ≤ l.getD k 0) : DnAt (swapL l i j) n j := by
  have hpj := par_lt h0
  have G := fun k => swapL_get l i j k (by omega) (by omega)
  refine ⟨fun k k0 hk hne => ?_, fun k k0 hk hpk hi => ?_⟩
  · have hkk := par_lt k0
    rw [G, G, if_neg hne]
    by_cases e1 : par k = i
    · rw [if_pos e1]
      by_cases e2 : k = j
      · rw [if_pos e2]; omega
      · rw [if_neg e2, if_neg (by omega)]; exact hmin k k0 hk e1
    · rw [if_neg e1]
      by_cases e2 : k = j
      · subst e2; omega
      · rw [if_neg e2]
        by_cases e3 : k = i
        · rw [if_pos e3]
          subst e3
          exact h.2 j h0 hj hp k0
        · rw [if_neg e3]; exact h.1 k k0 hk e1
  · have hkk := par_lt k0
    rw [G, G, if_neg (by omega), if_pos hp, if_neg (by omega), if_neg (by omega)]
    have := h.1 k k0 hk (by omega)
    rw [hpk] at this; exact this
end Go.Proofs.Ytholafodachjnaa
