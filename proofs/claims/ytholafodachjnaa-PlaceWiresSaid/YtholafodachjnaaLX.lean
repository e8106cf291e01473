import Derived.Test.YtholafodachjnaaZ8
import Derived.Test.YtholafodachjnaaZ10
/- L0 -/
/- How far numbers reach: the plain law of a span. -/
namespace Go.Proofs.Ytholafodachjnaa
set_option linter.unusedVariables false
set_option linter.unusedSimpArgs false

/-- A span: is there some; from where; to where. -/
structure SpanV where
  some : Bool
  low : Int
  high : Int
deriving Inhabited
def SpanV.meet (s : SpanV) (x : Int) : SpanV := if s.some = true then ⟨true, min s.low x, max s.high x⟩ else ⟨true, x, x⟩
def SpanV.none : SpanV := ⟨false, 0, 0⟩
def spanL (l : List Int) : SpanV := l.foldl SpanV.meet SpanV.none
theorem spanL_nil : spanL [] = SpanV.none := rfl
theorem spanL_snoc (l : List Int) (x : Int) : spanL (l ++ [x]) = (spanL l).meet x := by unfold spanL; rw [List.foldl_append]; rfl
/-- m and M are the ends of a list. -/
structure Ends (l : List Int) (m M : Int) : Prop where
  lo : m ∈ l
  hi : M ∈ l
  all : ∀ x ∈ l, m ≤ x ∧ x ≤ M
theorem Ends.same {l l' : List Int} {m M m' M' : Int} (h : Ends l m M) (h' : Ends l' m' M') (hs : ∀ x, x ∈ l ↔ x ∈ l') : m = m' ∧ M = M' := by
  have a1 := (h'.all m ((hs _).1 h.lo)).1
  have a2 := (h'.all M ((hs _).1 h.hi)).2
  have b1 := (h.all m' ((hs _).2 h'.lo)).1
  have b2 := (h.all M' ((hs _).2 h'.hi)).2
  omega
theorem Ends.snoc {l : List Int} {m M : Int} (h : Ends l m M) (x : Int) : Ends (l ++ [x]) (min m x) (max M x) := by
  refine ⟨?_, ?_, fun y hy => ?_⟩
  · rcases Int.le_total m x with e | e
    · rw [Int.min_eq_left e]; exact List.mem_append_left _ h.lo
    · rw [Int.min_eq_right e]; simp
  · rcases Int.le_total M x with e | e
    · rw [Int.max_eq_right e]; simp
    · rw [Int.max_eq_left e]; exact List.mem_append_left _ h.hi
  · rcases List.mem_append.1 hy with hy | hy
    · have := h.all y hy; omega
    · rw [List.mem_singleton] at hy; subst hy; omega
theorem Ends.one (x : Int) : Ends [x] x x := ⟨by simp, by simp, fun y hy => by rw [List.mem_singleton] at hy; omega⟩
theorem spanL_spec : ∀ (n : Nat) (l : List Int), l.length = n + 1 → (spanL l).some = true ∧ Ends l (spanL l).low (spanL l).high := by
  intro n
  induction n with
  | zero =>
    intro l hl
    match l, hl with
    | [x], _ => exact ⟨rfl, Ends.one x⟩
  | succ n ih =>
    intro l hl
    have hne : l ≠ [] := by intro e; rw [e] at hl; cases hl
    rw [← List.dropLast_concat_getLast hne] at hl ⊢
    obtain ⟨h1, h2⟩ := ih l.dropLast (by simpa using hl)
    rw [spanL_snoc]
    unfold SpanV.meet
    rw [if_pos h1]
    exact ⟨rfl, h2.snoc _⟩
theorem spanL_ends {l : List Int} (h : l ≠ []) : (spanL l).some = true ∧ Ends l (spanL l).low (spanL l).high := by
  refine spanL_spec (l.length - 1) l ?_
  have := List.length_pos_iff.2 h
  omega
theorem spanL_same {l l' : List Int} (hs : ∀ x, x ∈ l ↔ x ∈ l') : spanL l = spanL l' := by
  by_cases h : l = []
  · subst h
    have : l' = [] := List.eq_nil_iff_forall_not_mem.2 (fun x hx => by have := (hs x).2 hx; cases this)
    rw [this]
  · have h' : l' ≠ [] := by
      intro e
      obtain ⟨x, hx⟩ := List.exists_mem_of_ne_nil l h
      rw [hs, e] at hx
      cases hx
    obtain ⟨a1, a2⟩ := spanL_ends h
    obtain ⟨b1, b2⟩ := spanL_ends h'
    obtain ⟨e1, e2⟩ := a2.same b2 hs
    have : ∀ s t : SpanV, s.some = t.some → s.low = t.low → s.high = t.high → s = t := fun s t h1 h2 h3 => by cases s; cases t; simp at *; exact ⟨h1, h2, h3⟩
    exact this _ _ (a1.trans b1.symm) e1 e2
/-- How far a list's numbers reach. -/
def reachL (l : List Int) : Int := (spanL l).high - (spanL l).low
theorem reachL_ends {l : List Int} {m M : Int} (h : Ends l m M) : reachL l = M - m := by
  have hne : l ≠ [] := by intro e; have := h.lo; rw [e] at this; cases this
  obtain ⟨e1, e2⟩ := (spanL_ends hne).2.same h (fun _ => Iff.rfl)
  unfold reachL
  rw [e1, e2]
theorem reachL_nonneg {l : List Int} (h : l ≠ []) : 0 ≤ reachL l := by
  have := (spanL_ends h).2
  have := this.all _ this.hi
  unfold reachL
  omega
/-- Fewer numbers reach no farther. -/
theorem reachL_sub {l l' : List Int} (h : l ≠ []) (hs : ∀ x, x ∈ l → x ∈ l') : reachL l ≤ reachL l' := by
  have h' : l' ≠ [] := by
    intro e
    obtain ⟨x, hx⟩ := List.exists_mem_of_ne_nil l h
    have := hs x hx
    rw [e] at this
    cases this
  have a := (spanL_ends h).2
  have b := (spanL_ends h').2
  have c := b.all _ (hs _ a.lo)
  have d := b.all _ (hs _ a.hi)
  unfold reachL
  omega
end Go.Proofs.Ytholafodachjnaa

/- L1 -/
/- What spots cost: the plain law. -/
namespace Go.Proofs.Ytholafodachjnaa
set_option linter.unusedVariables false
set_option linter.unusedSimpArgs false

/-- Spots, wherever they lie. -/
structure SpotD where
  bs : List Int
  is : List Int
  os : List Int
abbrev SpotV.data (S : SpotV) : SpotD := ⟨S.bs, S.is, S.os⟩
def tileX (a : ArchV) (n : Int) : Int := 2 * (n % a.w) + 1
def tileY (a : ArchV) (n : Int) : Int := 2 * (n / a.w) + 1
def padX (a : ArchV) (n : Int) : Int := if n < a.w then 2 * n + 1 else if n < 2 * a.w then 2 * (n - a.w) + 1 else if n < 2 * a.w + a.h then 0 else 2 * a.w
def padY (a : ArchV) (n : Int) : Int := if n < a.w then 0 else if n < 2 * a.w then 2 * a.h else if n < 2 * a.w + a.h then 2 * (n - 2 * a.w) + 1 else 2 * (n - 2 * a.w - a.h) + 1
/-- A thing at a wire: the wire, and where it stands. -/
abbrev Ev := Int × Int × Int
def tileEv (a : ArchV) (w n : Int) : Ev := (w, tileX a n, tileY a n)
def padEv (a : ArchV) (w n : Int) : Ev := (w, padX a n, padY a n)
def evI (a : ArchV) (S : SpotD) (i : Nat) : List Ev := (List.range i).map fun (k : Nat) => padEv a (k : Int) (S.is.getD k 0)
def evQ (a : ArchV) (P : PackD) (S : SpotD) (i q : Nat) : List Ev := tileEv a (P.ins + i) (S.bs.getD i 0) :: ((P.blk i).ins.take q).map fun w => tileEv a w (S.bs.getD i 0)
def evB (a : ArchV) (P : PackD) (S : SpotD) (i : Nat) : List Ev := (List.range i).flatMap fun k => evQ a P S k (P.blk k).ins.length
def evO (a : ArchV) (P : PackD) (S : SpotD) (i : Nat) : List Ev := (List.range i).map fun k => padEv a (P.outs.getD k 0) (S.os.getD k 0)
def evs (a : ArchV) (P : PackD) (S : SpotD) : List Ev := evI a S S.is.length ++ evB a P S S.bs.length ++ evO a P S P.outs.length
theorem evI_snoc (a : ArchV) (S : SpotD) (i : Nat) : evI a S (i + 1) = evI a S i ++ [padEv a (i : Int) (S.is.getD i 0)] := by unfold evI; rw [List.range_succ, List.map_append]; rfl
theorem evB_snoc (a : ArchV) (P : PackD) (S : SpotD) (i : Nat) : evB a P S (i + 1) = evB a P S i ++ evQ a P S i (P.blk i).ins.length := by unfold evB; rw [List.range_succ, List.flatMap_append]; simp
theorem evQ_snoc (a : ArchV) (P : PackD) (S : SpotD) (i q : Nat) (hq : q < (P.blk i).ins.length) : evQ a P S i (q + 1) = evQ a P S i q ++ [tileEv a ((P.blk i).ins.getD q 0) (S.bs.getD i 0)] := by
  unfold evQ
  rw [List.take_add_one, List.getElem?_eq_getElem hq, List.map_append, List.cons_append]
  simp [List.getD, List.getElem?_eq_getElem hq]
theorem evO_snoc (a : ArchV) (P : PackD) (S : SpotD) (i : Nat) : evO a P S (i + 1) = evO a P S i ++ [padEv a (P.outs.getD i 0) (S.os.getD i 0)] := by unfold evO; rw [List.range_succ, List.map_append]; rfl
def xsOf (E : List Ev) (w : Int) : List Int := (E.filter (fun e => e.1 == w)).map (fun e => e.2.1)
def ysOf (E : List Ev) (w : Int) : List Int := (E.filter (fun e => e.1 == w)).map (fun e => e.2.2)
theorem xsOf_same (E : List Ev) (w x y : Int) : xsOf (E ++ [(w, x, y)]) w = xsOf E w ++ [x] := by unfold xsOf; simp
theorem ysOf_same (E : List Ev) (w x y : Int) : ysOf (E ++ [(w, x, y)]) w = ysOf E w ++ [y] := by unfold ysOf; simp
theorem xsOf_other (E : List Ev) {w v : Int} (x y : Int) (h : w ≠ v) : xsOf (E ++ [(w, x, y)]) v = xsOf E v := by unfold xsOf; simp [h]
theorem ysOf_other (E : List Ev) {w v : Int} (x y : Int) (h : w ≠ v) : ysOf (E ++ [(w, x, y)]) v = ysOf E v := by unfold ysOf; simp [h]
theorem mem_xsOf {E : List Ev} {w x : Int} : x ∈ xsOf E w ↔ ∃ y, (w, x, y) ∈ E := by
  unfold xsOf
  rw [List.mem_map]
  constructor
  · rintro ⟨⟨a, b, c⟩, h, rfl⟩
    rw [List.mem_filter] at h
    obtain ⟨h1, h2⟩ := h
    simp at h2
    subst h2
    exact ⟨c, h1⟩
  · rintro ⟨y, h⟩
    exact ⟨(w, x, y), List.mem_filter.2 ⟨h, by simp⟩, rfl⟩
theorem mem_ysOf {E : List Ev} {w y : Int} : y ∈ ysOf E w ↔ ∃ x, (w, x, y) ∈ E := by
  unfold ysOf
  rw [List.mem_map]
  constructor
  · rintro ⟨⟨a, b, c⟩, h, rfl⟩
    rw [List.mem_filter] at h
    obtain ⟨h1, h2⟩ := h
    simp at h2
    subst h2
    exact ⟨b, h1⟩
  · rintro ⟨x, h⟩
    exact ⟨(w, x, y), List.mem_filter.2 ⟨h, by simp⟩, rfl⟩
theorem mem_evs {a : ArchV} {P : PackD} {S : SpotD} {e : Ev} : e ∈ evs a P S ↔
    (∃ k, k < S.is.length ∧ e = padEv a (k : Int) (S.is.getD k 0)) ∨ (∃ k, k < S.bs.length ∧ e = tileEv a (P.ins + (k : Nat)) (S.bs.getD k 0)) ∨
    (∃ k, k < S.bs.length ∧ ∃ w, w ∈ (P.blk k).ins ∧ e = tileEv a w (S.bs.getD k 0)) ∨ (∃ k, k < P.outs.length ∧ e = padEv a (P.outs.getD k 0) (S.os.getD k 0)) := by
  unfold evs evI evB evO evQ
  simp only [List.mem_append, List.mem_map, List.mem_range, List.mem_flatMap, List.mem_cons, List.take_length]
  constructor
  · rintro ((⟨k, hk, rfl⟩ | ⟨k, hk, rfl | ⟨w, hw, rfl⟩⟩) | ⟨k, hk, rfl⟩)
    · exact .inl ⟨k, hk, rfl⟩
    · exact .inr (.inl ⟨k, hk, rfl⟩)
    · exact .inr (.inr (.inl ⟨k, hk, w, hw, rfl⟩))
    · exact .inr (.inr (.inr ⟨k, hk, rfl⟩))
  · rintro (⟨k, hk, rfl⟩ | ⟨k, hk, rfl⟩ | ⟨k, hk, w, hw, rfl⟩ | ⟨k, hk, rfl⟩)
    · exact .inl (.inl ⟨k, hk, rfl⟩)
    · exact .inl (.inr ⟨k, hk, .inl rfl⟩)
    · exact .inl (.inr ⟨k, hk, .inr ⟨w, hw, rfl⟩⟩)
    · exact .inr ⟨k, hk, rfl⟩
def reachE (E : List Ev) (w : Int) : Int := reachL (xsOf E w) + reachL (ysOf E w)
def costTo (E : List Ev) (n : Nat) : Int := ((List.range n).map fun (w : Nat) => reachE E (w : Int)).sum
theorem costTo_snoc (E : List Ev) (n : Nat) : costTo E (n + 1) = costTo E n + reachE E (n : Int) := by unfold costTo; rw [List.range_succ, List.map_append, List.sum_append]; simp
/-- What spots cost. -/
def costL (a : ArchV) (P : PackD) (S : SpotD) : Int := costTo (evs a P S) (S.is.length + P.bs.length)

/-- What is at a wire, as the document tells it. -/
def tileP (a : ArchV) (n : Int) : Int × Int := (tileX a n, tileY a n)
def padP (a : ArchV) (n : Int) : Int × Int := (padX a n, padY a n)
def ownP (a : ArchV) (P : PackD) (S : SpotD) (w : Nat) : Int × Int := if (w : Int) < P.ins then padP a (S.is.getD w 0) else tileP a (S.bs.getD (w - P.ins.toNat) 0)
def atQ (a : ArchV) (P : PackD) (S : SpotD) (w : Int) (i q : Nat) : List (Int × Int) := (((P.blk i).ins.take q).filter (fun x => x == w)).map fun _ => tileP a (S.bs.getD i 0)
def atB (a : ArchV) (P : PackD) (S : SpotD) (w : Int) (i : Nat) : List (Int × Int) := (List.range i).flatMap fun k => atQ a P S w k (P.blk k).ins.length
def atO (a : ArchV) (P : PackD) (S : SpotD) (w : Int) (i : Nat) : List (Int × Int) := ((List.range i).filter (fun k => P.outs.getD k 0 == w)).map fun k => padP a (S.os.getD k 0)
def atL (a : ArchV) (P : PackD) (S : SpotD) (w : Nat) : List (Int × Int) := (ownP a P S w :: atB a P S w P.bs.length) ++ atO a P S w P.outs.length
theorem atQ_zero (a : ArchV) (P : PackD) (S : SpotD) (w : Int) (i : Nat) : atQ a P S w i 0 = [] := rfl
theorem atQ_yes (a : ArchV) (P : PackD) (S : SpotD) (w : Int) (i q : Nat) (hq : q < (P.blk i).ins.length) (h : (P.blk i).ins.getD q 0 = w) : atQ a P S w i (q + 1) = atQ a P S w i q ++ [tileP a (S.bs.getD i 0)] := by
  unfold atQ
  rw [List.take_add_one, List.getElem?_eq_getElem hq, List.filter_append, List.map_append]
  simp [List.getD, List.getElem?_eq_getElem hq] at h
  simp [h]
theorem atQ_no (a : ArchV) (P : PackD) (S : SpotD) (w : Int) (i q : Nat) (hq : q < (P.blk i).ins.length) (h : ¬ (P.blk i).ins.getD q 0 = w) : atQ a P S w i (q + 1) = atQ a P S w i q := by
  unfold atQ
  rw [List.take_add_one, List.getElem?_eq_getElem hq, List.filter_append, List.map_append]
  simp [List.getD, List.getElem?_eq_getElem hq] at h
  simp [h]
theorem atB_snoc (a : ArchV) (P : PackD) (S : SpotD) (w : Int) (i : Nat) : atB a P S w (i + 1) = atB a P S w i ++ atQ a P S w i (P.blk i).ins.length := by unfold atB; rw [List.range_succ, List.flatMap_append]; simp
theorem atO_yes (a : ArchV) (P : PackD) (S : SpotD) (w : Int) (i : Nat) (h : P.outs.getD i 0 = w) : atO a P S w (i + 1) = atO a P S w i ++ [padP a (S.os.getD i 0)] := by
  unfold atO; rw [List.range_succ, List.filter_append, List.map_append]
  have : (P.outs.getD i 0 == w) = true := by simpa using h
  simp only [List.filter_cons, this]; rfl
theorem atO_no (a : ArchV) (P : PackD) (S : SpotD) (w : Int) (i : Nat) (h : ¬ P.outs.getD i 0 = w) : atO a P S w (i + 1) = atO a P S w i := by
  unfold atO; rw [List.range_succ, List.filter_append, List.map_append]
  have : (P.outs.getD i 0 == w) = false := by simpa using h
  simp only [List.filter_cons, this]; simp
theorem mem_atL {a : ArchV} {P : PackD} {S : SpotD} (hi : P.ins = (S.is.length : Nat)) (hb : S.bs.length = P.bs.length) {w : Nat} (hw : w < S.is.length + P.bs.length) {z : Int × Int} : z ∈ atL a P S w ↔ ((w : Int), z.1, z.2) ∈ evs a P S := by
  rw [mem_evs]
  unfold atL atB atO atQ padEv tileEv
  simp only [List.mem_append, List.mem_map, List.mem_range, List.mem_flatMap, List.mem_cons, List.take_length, List.mem_filter, Prod.mk.injEq]
  constructor
  · rintro ((rfl | ⟨k, hk, x, ⟨hx1, hx2⟩, rfl⟩) | ⟨k, ⟨hk, hk2⟩, rfl⟩)
    · unfold ownP
      split
      · exact .inl ⟨w, by omega, rfl, rfl, rfl⟩
      · rename_i h
        exact .inr (.inl ⟨w - P.ins.toNat, by omega, by omega, rfl, rfl⟩)
    · have : x = (w : Int) := by simpa using hx2
      subst this
      exact .inr (.inr (.inl ⟨k, by omega, _, hx1, rfl, rfl, rfl⟩))
    · have : P.outs.getD k 0 = (w : Int) := by simpa using hk2
      exact .inr (.inr (.inr ⟨k, hk, this.symm, rfl, rfl⟩))
  · obtain ⟨z1, z2⟩ := z
    rintro (⟨k, hk, e, rfl, rfl⟩ | ⟨k, hk, e, rfl, rfl⟩ | ⟨k, hk, v, hv, e, rfl, rfl⟩ | ⟨k, hk, e, rfl, rfl⟩)
    · refine .inl (.inl ?_)
      unfold ownP
      rw [if_pos (by omega), show k = w by omega]
      rfl
    · refine .inl (.inl ?_)
      unfold ownP
      rw [if_neg (by omega), show w - P.ins.toNat = k by omega]
      rfl
    · exact .inl (.inr ⟨k, by omega, v, ⟨hv, by simpa using e.symm⟩, rfl⟩)
    · exact .inr ⟨k, ⟨hk, by simpa using e.symm⟩, rfl⟩
theorem atL_reach {a : ArchV} {P : PackD} {S : SpotD} (hi : P.ins = (S.is.length : Nat)) (hb : S.bs.length = P.bs.length) {w : Nat} (hw : w < S.is.length + P.bs.length) :
    reachL ((atL a P S w).map fun z => z.1) + reachL ((atL a P S w).map fun z => z.2) = reachE (evs a P S) w := by
  unfold reachE
  have h1 : spanL ((atL a P S w).map fun z => z.1) = spanL (xsOf (evs a P S) w) := spanL_same fun x => by
    rw [mem_xsOf, List.mem_map]
    constructor
    · rintro ⟨z, hz, rfl⟩
      exact ⟨z.2, (mem_atL hi hb hw).1 hz⟩
    · rintro ⟨y, h⟩
      exact ⟨(x, y), (mem_atL hi hb hw).2 h, rfl⟩
  have h2 : spanL ((atL a P S w).map fun z => z.2) = spanL (ysOf (evs a P S) w) := spanL_same fun y => by
    rw [mem_ysOf, List.mem_map]
    constructor
    · rintro ⟨z, hz, rfl⟩
      exact ⟨z.1, (mem_atL hi hb hw).1 hz⟩
    · rintro ⟨x, h⟩
      exact ⟨(x, y), (mem_atL hi hb hw).2 h, rfl⟩
  unfold reachL
  rw [h1, h2]

/-- Spots that are right, in plain words. -/
structure RightP (a : ArchV) (P : PackD) : Prop where
  w : 1 ≤ a.w ∧ a.w ≤ 16
  h : 1 ≤ a.h ∧ a.h ≤ 16
  i0 : 0 ≤ P.ins
  blk : ∀ i, i < P.bs.length → (P.blk i).ins.length ≤ 4 ∧ ∀ x ∈ (P.blk i).ins, 0 ≤ x ∧ x < P.ins + P.bs.length
  outs : ∀ x ∈ P.outs, 0 ≤ x ∧ x < P.ins + P.bs.length
structure RightS (a : ArchV) (P : PackD) (S : SpotD) : Prop where
  i : P.ins = (S.is.length : Nat)
  b : S.bs.length = P.bs.length
  o : S.os.length = P.outs.length
  br : ∀ x ∈ S.bs, 0 ≤ x ∧ x < a.w * a.h
  ir : ∀ x ∈ S.is, 0 ≤ x ∧ x < 2 * a.w + 2 * a.h
  or : ∀ x ∈ S.os, 0 ≤ x ∧ x < 2 * a.w + 2 * a.h
theorem tile_in {a : ArchV} {n : Int} (hw : 1 ≤ a.w ∧ a.w ≤ 16) (hh : 1 ≤ a.h ∧ a.h ≤ 16) (hn : 0 ≤ n ∧ n < a.w * a.h) : (0 ≤ tileX a n ∧ tileX a n ≤ 32) ∧ 0 ≤ tileY a n ∧ tileY a n ≤ 32 := by
  unfold tileX tileY
  have h1 := Int.emod_nonneg n (by omega : a.w ≠ 0)
  have h2 := Int.emod_lt_of_pos n (by omega : 0 < a.w)
  have h3 : 0 ≤ n / a.w := Int.ediv_nonneg hn.1 (by omega)
  have h4 : n / a.w < a.h := Int.ediv_lt_of_lt_mul (by omega) (by rw [Int.mul_comm]; exact hn.2)
  omega
theorem pad_in {a : ArchV} {n : Int} (hw : 1 ≤ a.w ∧ a.w ≤ 16) (hh : 1 ≤ a.h ∧ a.h ≤ 16) (hn : 0 ≤ n ∧ n < 2 * a.w + 2 * a.h) : (0 ≤ padX a n ∧ padX a n ≤ 32) ∧ 0 ≤ padY a n ∧ padY a n ≤ 32 := by
  unfold padX padY
  constructor
  · split
    · omega
    · split
      · omega
      · split <;> omega
  · split
    · omega
    · split
      · omega
      · split <;> omega
theorem getD_memI {l : List Int} {k : Nat} (h : k < l.length) : l.getD k 0 ∈ l := by rw [List.getD_eq_getElem?_getD, List.getElem?_eq_getElem h]; exact List.getElem_mem h
theorem evs_in {a : ArchV} {P : PackD} {S : SpotD} (hP : RightP a P) (hS : RightS a P S) : ∀ e ∈ evs a P S, (0 ≤ e.2.1 ∧ e.2.1 ≤ 32) ∧ 0 ≤ e.2.2 ∧ e.2.2 ≤ 32 := by
  intro e he
  rw [mem_evs] at he
  rcases he with ⟨k, hk, rfl⟩ | ⟨k, hk, rfl⟩ | ⟨k, hk, w, hw, rfl⟩ | ⟨k, hk, rfl⟩
  · exact pad_in hP.w hP.h (hS.ir _ (getD_memI hk))
  · exact tile_in hP.w hP.h (hS.br _ (getD_memI hk))
  · exact tile_in hP.w hP.h (hS.br _ (getD_memI hk))
  · exact pad_in hP.w hP.h (hS.or _ (getD_memI (by rw [hS.o]; exact hk)))
theorem reachL_in {l : List Int} (h : ∀ x ∈ l, 0 ≤ x ∧ x ≤ 32) : 0 ≤ reachL l ∧ reachL l ≤ 32 := by
  by_cases e : l = []
  · subst e; exact ⟨by decide, by decide⟩
  · have h1 := (spanL_ends e).2
    have h2 := h _ h1.lo
    have h3 := h _ h1.hi
    have h4 := h1.all _ h1.hi
    unfold reachL
    omega
theorem spanL_in {l : List Int} (h : ∀ x ∈ l, 0 ≤ x ∧ x ≤ 32) : 0 ≤ (spanL l).low ∧ (spanL l).low ≤ (spanL l).high ∧ (spanL l).high ≤ 32 := by
  by_cases e : l = []
  · subst e; exact ⟨by decide, by decide, by decide⟩
  · have h1 := (spanL_ends e).2
    have h2 := h _ h1.lo
    have h3 := h _ h1.hi
    have h4 := h1.all _ h1.hi
    omega
def EvIn (E : List Ev) : Prop := ∀ e ∈ E, (0 ≤ e.2.1 ∧ e.2.1 ≤ 32) ∧ 0 ≤ e.2.2 ∧ e.2.2 ≤ 32
theorem EvIn.xs {E : List Ev} (h : EvIn E) (w : Int) : ∀ x ∈ xsOf E w, 0 ≤ x ∧ x ≤ 32 := fun x hx => by
  obtain ⟨y, hy⟩ := mem_xsOf.1 hx
  exact (h _ hy).1
theorem EvIn.ys {E : List Ev} (h : EvIn E) (w : Int) : ∀ x ∈ ysOf E w, 0 ≤ x ∧ x ≤ 32 := fun x hx => by
  obtain ⟨y, hy⟩ := mem_ysOf.1 hx
  exact (h _ hy).2
theorem reachE_in {E : List Ev} (h : EvIn E) (w : Int) : 0 ≤ reachE E w ∧ reachE E w ≤ 64 := by
  have h1 := reachL_in (h.xs w)
  have h2 := reachL_in (h.ys w)
  unfold reachE
  omega
theorem costTo_in {E : List Ev} (h : EvIn E) : ∀ n, 0 ≤ costTo E n ∧ costTo E n ≤ 64 * n
  | 0 => by unfold costTo; simp
  | n + 1 => by
    have h1 := costTo_in h n
    have h2 := reachE_in h n
    rw [costTo_snoc]
    omega
theorem costL_in {a : ArchV} {P : PackD} {S : SpotD} (hP : RightP a P) (hS : RightS a P S) : 0 ≤ costL a P S ∧ costL a P S ≤ 64 * ((S.is.length + P.bs.length : Nat) : Int) := costTo_in (evs_in hP hS) _
/-- Each wire has something at it. -/
theorem own_ev {a : ArchV} {P : PackD} {S : SpotD} (hS : RightS a P S) (w : Nat) (hw : w < S.is.length + P.bs.length) : ∃ x y, ((w : Int), x, y) ∈ evs a P S := by
  by_cases h : w < S.is.length
  · exact ⟨_, _, mem_evs.2 (.inl ⟨w, h, rfl⟩)⟩
  · refine ⟨tileX a (S.bs.getD (w - S.is.length) 0), tileY a (S.bs.getD (w - S.is.length) 0), mem_evs.2 (.inr (.inl ⟨w - S.is.length, by rw [hS.b]; omega, ?_⟩))⟩
    unfold tileEv
    rw [hS.i]
    congr 1
    omega
theorem costTo_le {E E' : List Ev} (n : Nat) (h : ∀ w : Nat, w < n → reachE E w ≤ reachE E' w) : costTo E n ≤ costTo E' n := by
  induction n with
  | zero => exact Int.le_refl _
  | succ n ih =>
    rw [costTo_snoc, costTo_snoc]
    have := ih (fun w hw => h w (by omega))
    have := h n (by omega)
    omega
theorem costTo_zero {E : List Ev} (n : Nat) (h : ∀ w : Nat, w < n → reachE E w = 0) : costTo E n = 0 := by
  induction n with
  | zero => rfl
  | succ n ih =>
    rw [costTo_snoc, ih (fun w hw => h w (by omega)), h n (by omega)]
    rfl
end Go.Proofs.Ytholafodachjnaa

/- P1 -/
/- What Check's answer says, in plain words; changed places. -/
namespace Go.Proofs.Ytholafodachjnaa
set_option linter.unusedVariables false
set_option linter.unusedSimpArgs false

theorem aloneB_iff {l : List Int} {most : Int} : aloneB l most = true ↔ (∀ x ∈ l, 0 ≤ x ∧ x < most) ∧ l.Nodup := by
  have hg : ∀ i, (h : i < l.length) → l.getD i 0 = l[i] := fun i h => by simp [List.getD, List.getElem?_eq_getElem h]
  have hb : aloneB l most = true ↔ ∀ i, i < l.length → badA l most i = false := by
    unfold aloneB
    rw [Bool.not_eq_true', List.any_eq_false]
    simp only [List.mem_range, Bool.not_eq_true]
  rw [hb]
  have hbad : ∀ i, badA l most i = false ↔ (0 ≤ l.getD i 0 ∧ l.getD i 0 < most) ∧ ∀ k, k < i → l.getD k 0 ≠ l.getD i 0 := by
    intro i
    unfold badA
    simp only [Bool.or_eq_false_iff, decide_eq_false_iff_not, List.any_eq_false, List.mem_range, beq_iff_eq, Int.not_lt, Int.not_le]
  constructor
  · intro h
    refine ⟨fun x hx => ?_, ?_⟩
    · obtain ⟨i, hi, rfl⟩ := List.getElem_of_mem hx
      have := ((hbad i).1 (h i hi)).1
      rwa [hg i hi] at this
    · rw [List.Nodup, List.pairwise_iff_getElem]
      intro i j hi hj hij
      have := ((hbad j).1 (h j hj)).2 i hij
      rwa [hg i hi, hg j hj] at this
  · rintro ⟨h1, h2⟩ i hi
    rw [hbad]
    rw [List.Nodup, List.pairwise_iff_getElem] at h2
    refine ⟨by rw [hg i hi]; exact h1 _ (List.getElem_mem hi), fun k hk => ?_⟩
    rw [hg k (by omega), hg i hi]
    exact h2 k i (by omega) hi hk
/-- Blocks and a fabric that may be. -/
theorem rightP_of {a : ArchV} {P : PackV} (h : belowE a P = 0) : RightP a P.data := by
  obtain ⟨h1, h2⟩ := belowE_ok h
  obtain ⟨hw, hh, -⟩ := archE_ok.1 h1
  unfold orderE at h2
  split at h2
  · rename_i hm
    unfold mayB at hm
    simp only [Bool.and_eq_true, decide_eq_true_eq, List.all_eq_true] at hm
    obtain ⟨⟨⟨hi0, _⟩, _⟩, hbs, hos⟩ := hm
    refine ⟨hw, hh, hi0, fun i hi => ?_, fun x hx => hos x hx⟩
    have := hbs (P.data.blk i) (by unfold PackD.blk; exact getD_mem _ _ hi)
    unfold blkB at this
    simp only [Bool.and_eq_true, decide_eq_true_eq, List.all_eq_true] at this
    exact ⟨this.1.1.1, this.2⟩
  · cases h2
/-- What a right plan's spots are. -/
structure RightAll (a : ArchV) (P : PackD) (S : SpotD) : Prop where
  p : RightP a P
  s : RightS a P S
  b : S.bs.Nodup
  io : (S.is ++ S.os).Nodup
theorem spotsB_iff {a : ArchV} {P : PackV} {S : SpotV} (hp : RightP a P.data) : spotsB a P S = true ↔ RightAll a P.data S.data := by
  unfold spotsB
  simp only [Bool.and_eq_true, decide_eq_true_eq, aloneB_iff]
  constructor
  · rintro ⟨h1, h2, h3, ⟨h4, h5⟩, h6, h7⟩
    exact ⟨hp, ⟨h2.symm, by simpa using h1, h3, h4, fun x hx => h6 x (List.mem_append_left _ hx), fun x hx => h6 x (List.mem_append_right _ hx)⟩, h5, h7⟩
  · rintro ⟨_, s, b, io⟩
    exact ⟨by simpa using s.b, s.i.symm, s.o, ⟨s.br, b⟩, fun x hx => (List.mem_append.1 hx).elim (s.ir x) (s.or x), io⟩
theorem checkE_ok {a : ArchV} {P : PackV} {S : SpotV} : checkE a P S = 0 ↔ belowE a P = 0 ∧ RightAll a P.data S.data := by
  unfold checkE
  constructor
  · intro h
    split at h
    · rename_i hb
      split at h
      · rename_i hs
        exact ⟨hb, (spotsB_iff (rightP_of hb)).1 hs⟩
      · cases h
    · rename_i hb; exact absurd h hb
  · rintro ⟨h1, h2⟩
    rw [if_pos h1, (spotsB_iff (rightP_of h1)).2 h2, if_pos rfl]
/-- What spots cost, or 0 if they are not right. -/
def costV (a : ArchV) (P : PackV) (S : SpotV) : Int := if checkE a P S = 0 then costL a P.data S.data else 0

/-- Two numbers changed for each other. -/
def turnF (m n x : Int) : Int := if x = m then n else if x = n then m else x
def turnL (m n : Int) (l : List Int) : List Int := l.map (turnF m n)
theorem turnF_back (m n x : Int) : turnF n m (turnF m n x) = x := by
  unfold turnF
  by_cases h1 : x = m
  · rw [if_pos h1]; rw [if_pos rfl]; exact h1.symm
  · rw [if_neg h1]
    by_cases h2 : x = n
    · rw [if_pos h2]
      by_cases h3 : m = n
      · rw [if_pos h3]; omega
      · rw [if_neg h3, if_pos rfl]; exact h2.symm
    · rw [if_neg h2, if_neg h2, if_neg h1]
theorem turnL_back (m n : Int) (l : List Int) : turnL n m (turnL m n l) = l := by
  unfold turnL
  rw [List.map_map]
  conv => rhs; rw [← List.map_id l]
  exact List.map_congr_left fun x _ => turnF_back m n x
theorem turnL_len (m n : Int) (l : List Int) : (turnL m n l).length = l.length := by unfold turnL; simp
theorem turnL_none {m n : Int} {l : List Int} (h : ∀ x ∈ l, x ≠ m ∧ x ≠ n) : turnL m n l = l := by
  unfold turnL
  conv => rhs; rw [← List.map_id l]
  exact List.map_congr_left fun x hx => by
    unfold turnF
    rw [if_neg (h x hx).1, if_neg (h x hx).2]
    rfl
theorem turnL_self (m : Int) (l : List Int) : turnL m m l = l := by
  unfold turnL
  conv => rhs; rw [← List.map_id l]
  exact List.map_congr_left fun x hx => by
    unfold turnF
    by_cases h : x = m
    · rw [if_pos h]; exact h.symm
    · rw [if_neg h, if_neg h]; rfl
theorem turnL_app (m n : Int) (l k : List Int) : turnL m n (l ++ k) = turnL m n l ++ turnL m n k := by unfold turnL; rw [List.map_append]
theorem turnL_nodup {m n : Int} {l : List Int} (h : l.Nodup) : (turnL m n l).Nodup := by
  unfold turnL
  rw [List.Nodup, List.pairwise_map]
  exact List.Pairwise.imp (fun {x y} hxy e => hxy (by have := congrArg (turnF n m) e; rwa [turnF_back, turnF_back] at this)) h
theorem turnL_in {m n most : Int} {l : List Int} (hm : 0 ≤ m ∧ m < most) (hn : 0 ≤ n ∧ n < most) (h : ∀ x ∈ l, 0 ≤ x ∧ x < most) : ∀ x ∈ turnL m n l, 0 ≤ x ∧ x < most := by
  intro x hx
  unfold turnL at hx
  obtain ⟨y, hy, rfl⟩ := List.mem_map.1 hx
  unfold turnF
  split
  · exact hn
  · split
    · exact hm
    · exact h y hy
theorem turnL_getD (m n : Int) (l : List Int) (i : Nat) (hi : i < l.length) : (turnL m n l).getD i 0 = turnF m n (l.getD i 0) := by
  unfold turnL
  simp [List.getD, List.getElem?_map, List.getElem?_eq_getElem hi]
def tilesL (a : ArchV) : Int := a.w * a.h
def padsL (a : ArchV) : Int := 2 * a.w + 2 * a.h
/-- Spots in which two places are changed. -/
def turnD (a : ArchV) (S : SpotD) (m n : Int) : SpotD := if m < tilesL a then ⟨turnL m n S.bs, S.is, S.os⟩ else ⟨S.bs, turnL (m - tilesL a) (n - tilesL a) S.is, turnL (m - tilesL a) (n - tilesL a) S.os⟩
/-- Places that can be changed for each other. -/
structure TwoOk (a : ArchV) (m n : Int) : Prop where
  mr : 0 ≤ m ∧ m < tilesL a + padsL a
  nr : 0 ≤ n ∧ n < tilesL a + padsL a
  both : m < tilesL a ↔ n < tilesL a
theorem TwoOk.symm {a : ArchV} {m n : Int} (h : TwoOk a m n) : TwoOk a n m := ⟨h.nr, h.mr, h.both.symm⟩
def twoB (a : ArchV) (m n : Int) : Bool := decide (0 ≤ m) && (decide (0 ≤ n) && (decide (m < tilesL a + padsL a) && (decide (n < tilesL a + padsL a) && (decide (m < tilesL a) == decide (n < tilesL a)))))
theorem twoB_iff {a : ArchV} {m n : Int} : twoB a m n = true ↔ TwoOk a m n := by
  unfold twoB
  simp only [Bool.and_eq_true, decide_eq_true_eq, beq_iff_eq, decide_eq_decide]
  exact ⟨fun ⟨h1, h2, h3, h4, h5⟩ => ⟨⟨h1, h3⟩, ⟨h2, h4⟩, h5⟩, fun ⟨⟨h1, h3⟩, ⟨h2, h4⟩, h5⟩ => ⟨h1, h2, h3, h4, h5⟩⟩
theorem RightAll.swap {a : ArchV} {P : PackD} {S : SpotD} (h : RightAll a P S) {m n : Int} (hmn : TwoOk a m n) : RightAll a P (turnD a S m n) := by
  have hm := hmn.mr
  have hn := hmn.nr
  have hb := hmn.both
  unfold turnD
  split
  · rename_i hlt
    have hlt2 := hb.1 hlt
    exact ⟨h.p, ⟨h.s.i, by dsimp only; rw [turnL_len]; exact h.s.b, h.s.o, turnL_in ⟨hm.1, hlt⟩ ⟨hn.1, hlt2⟩ h.s.br, h.s.ir, h.s.or⟩, turnL_nodup h.b, h.io⟩
  · rename_i hlt
    have hlt2 : ¬ n < tilesL a := fun e => hlt (hb.2 e)
    have m1 : 0 ≤ m - tilesL a ∧ m - tilesL a < 2 * a.w + 2 * a.h := by unfold padsL at hm; omega
    have m2 : 0 ≤ n - tilesL a ∧ n - tilesL a < 2 * a.w + 2 * a.h := by unfold padsL at hn; omega
    exact ⟨h.p, ⟨by dsimp only; rw [turnL_len]; exact h.s.i, h.s.b, by dsimp only; rw [turnL_len]; exact h.s.o, h.s.br, turnL_in m1 m2 h.s.ir, turnL_in m1 m2 h.s.or⟩, h.b, by dsimp only; rw [← turnL_app]; exact turnL_nodup h.io⟩
theorem turnD_back {a : ArchV} (S : SpotD) {m n : Int} (hmn : TwoOk a m n) : turnD a (turnD a S m n) n m = S := by
  have hb := hmn.both
  unfold turnD
  by_cases h : m < tilesL a
  · rw [if_pos h, if_pos (hb.1 h)]
    dsimp only
    rw [turnL_back]
  · rw [if_neg h, if_neg (fun e => h (hb.2 e))]
    dsimp only
    rw [turnL_back, turnL_back]
theorem turnD_self (a : ArchV) (S : SpotD) (m : Int) : turnD a S m m = S := by
  unfold turnD
  split
  · rw [turnL_self]
  · rw [turnL_self, turnL_self]
theorem turnD_len (a : ArchV) (S : SpotD) (m n : Int) : (turnD a S m n).bs.length = S.bs.length ∧ (turnD a S m n).is.length = S.is.length ∧ (turnD a S m n).os.length = S.os.length := by
  unfold turnD
  split
  · exact ⟨turnL_len _ _ _, rfl, rfl⟩
  · exact ⟨rfl, turnL_len _ _ _, turnL_len _ _ _⟩
/-- The spots in which two places are changed, if that is no worse. -/
def betterB (a : ArchV) (P : PackD) (S : SpotD) (m n : Int) : Bool := decide (costL a P (turnD a S m n) ≤ costL a P S)
def betterD (a : ArchV) (P : PackD) (S : SpotD) (m n : Int) : SpotD := if betterB a P S m n = true then turnD a S m n else S
theorem RightAll.better {a : ArchV} {P : PackD} {S : SpotD} (h : RightAll a P S) {m n : Int} (hmn : TwoOk a m n) : RightAll a P (betterD a P S m n) := by
  unfold betterD
  split
  · exact h.swap hmn
  · exact h
theorem better_cost (a : ArchV) (P : PackD) (S : SpotD) (m n : Int) : costL a P (betterD a P S m n) ≤ costL a P S := by
  unfold betterD
  split
  · rename_i h; unfold betterB at h; simpa using h
  · exact Int.le_refl _
theorem better_len (a : ArchV) (P : PackD) (S : SpotD) (m n : Int) : (betterD a P S m n).bs.length = S.bs.length ∧ (betterD a P S m n).is.length = S.is.length ∧ (betterD a P S m n).os.length = S.os.length := by
  unfold betterD
  split
  · exact turnD_len a S m n
  · exact ⟨rfl, rfl, rfl⟩
end Go.Proofs.Ytholafodachjnaa
