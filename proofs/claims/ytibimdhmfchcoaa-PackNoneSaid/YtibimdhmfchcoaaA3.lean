import Derived.Test.YtibimdhmfchcoaaA2
import Derived.Maps.OwnIn
import Derived.Maps.OwnSet
import Derived.Deep.AppendLies
namespace Go.Proofs.Ytibimdhmfchcoaa
open Go.RowKit Go.Shelf Go.Maps
set_option linter.unusedVariables false
set_option linter.unusedSimpArgs false

/-! Maps of the call's own, keyed by numbers: what they tell at a key (0, false where there is none). -/
theorem law3 : Keyed Try.prog 3 := int_keyed Try.underlying3
theorem zero3 (w : World) : (zeroValue 3).run Try.prog w = .ok (.int .i64 0) w := by kernel_rfl
theorem zero4 (w : World) : (zeroValue 4).run Try.prog w = .ok (.bool false) w := by kernel_rfl

theorem wfI {x : Int} (h : I64 x) : (Lit.int .i64 x).wf = true := by
  simp only [Lit.wf, Bool.and_eq_true, decide_eq_true_eq]
  exact h

def IMap (w : World) (mb cnt : Nat) (f : Int → Int) : Prop :=
  ∃ D : DataW Unit, w.ownsMap Try.prog 3 (plainElem Try.prog 3) mb cnt D ∧ IsMap D ∧ ∀ k, D.atKey (.int .i64 k) (.lit (.int .i64 0)) = .lit (.int .i64 (f k))
def BMap (w : World) (mb cnt : Nat) (f : Int → Bool) : Prop :=
  ∃ D : DataW Unit, w.ownsMap Try.prog 3 (plainElem Try.prog 4) mb cnt D ∧ IsMap D ∧ ∀ k, D.atKey (.int .i64 k) (.lit (.bool false)) = .lit (.bool (f k))

section
variable {w w' : World} {mb cnt : Nat} {f : Int → Int} {g : Int → Bool} {row : Option Nat}
theorem IMap.kept (h : IMap w mb cnt f) (hg : w.grownBy w' row) (hne : some mb ≠ row) : IMap w' mb cnt f := by
  obtain ⟨D, h1, h2⟩ := h; exact ⟨D, h1.kept hg hne, h2⟩
theorem IMap.mono {cnt' : Nat} (h : IMap w mb cnt f) (hc : cnt ≤ cnt') : IMap w mb cnt' f := by
  obtain ⟨D, h1, h2⟩ := h; exact ⟨D, h1.mono hc, h2⟩
theorem IMap.drew (h : IMap w mb cnt f) : IMap w.drew mb cnt f := by
  obtain ⟨D, h1, h2⟩ := h; exact ⟨D, h1.drew, h2⟩
theorem IMap.below {B : Nat} (h : IMap w mb cnt f) (hb : Below B w w') (hB : mb < B) : IMap w' mb cnt f := by
  obtain ⟨D, h1, h2⟩ := h
  obtain ⟨es, clock, hb1, h3⟩ := h1
  exact ⟨D, ⟨es, clock, (hb.block mb hB).trans hb1, h3⟩, h2⟩
theorem IMap.look (h : IMap w mb cnt f) (k : Int) (hk : I64 k) : (Instr.lookup 68 (.map (some mb)) (.int .i64 k) false).run Try.prog w = .ok (.int .i64 (f k)) w := by
  obtain ⟨D, ho, _, ha⟩ := h
  obtain ⟨c2, hrun, hat2, _⟩ := ho.lookup_int (t := 68) law3 Try.underlying68 Try.underlying3 (zero3 _) (keyOf_int_mk Try.underlying3 (wfI hk))
  have e := hat2.symm.trans (ha k)
  simp only [DataW.lit.injEq, Lit.int.injEq, true_and] at e
  rw [← e]; exact hrun
theorem IMap.put (h : IMap w mb cnt f) (k v : Int) (hk : I64 k) (hv : I64 v) (hc : cnt ≤ 1000000) :
    ∃ w', (Instr.mapUpdate 68 (.map (some mb)) (.int .i64 k) (.int .i64 v)).run Try.prog w = .ok () w' ∧ IMap w' mb (cnt + 1) (fun x => if x = k then v else f x) ∧ w.grownBy w' (some mb) := by
  obtain ⟨D, ho, hm, ha⟩ := h
  obtain ⟨w', hrun, ho', hg⟩ := ho.update (t := 68) law3 Try.underlying68 (by unfold maxLen; omega) (keyOf_int_mk Try.underlying3 (wfI hk)) (plainElem_int Try.underlying3 (wfI hv))
  refine ⟨w', hrun, ⟨_, ho', hm.put _ _, fun x => ?_⟩, hg⟩
  by_cases e : x = k
  · subst e; dsimp only; rw [if_pos rfl, atKey_put_same hm (by trivial)]
  · dsimp only; rw [if_neg e, atKey_put_other (by intro h; injection h with _ h; exact e h)]; exact ha x
theorem IMap.made (w : World) : IMap (w.alloc (.map #[] 0)) w.heap.size 0 (fun _ => 0) :=
  ⟨_, World.ownsMap_made w Try.prog 3 _, isMap_empty, fun k => rfl⟩

theorem BMap.kept (h : BMap w mb cnt g) (hg : w.grownBy w' row) (hne : some mb ≠ row) : BMap w' mb cnt g := by
  obtain ⟨D, h1, h2⟩ := h; exact ⟨D, h1.kept hg hne, h2⟩
theorem BMap.mono {cnt' : Nat} (h : BMap w mb cnt g) (hc : cnt ≤ cnt') : BMap w mb cnt' g := by
  obtain ⟨D, h1, h2⟩ := h; exact ⟨D, h1.mono hc, h2⟩
theorem BMap.drew (h : BMap w mb cnt g) : BMap w.drew mb cnt g := by
  obtain ⟨D, h1, h2⟩ := h; exact ⟨D, h1.drew, h2⟩
theorem BMap.below {B : Nat} (h : BMap w mb cnt g) (hb : Below B w w') (hB : mb < B) : BMap w' mb cnt g := by
  obtain ⟨D, h1, h2⟩ := h
  obtain ⟨es, clock, hb1, h3⟩ := h1
  exact ⟨D, ⟨es, clock, (hb.block mb hB).trans hb1, h3⟩, h2⟩
theorem plainElem_bool_inv {v : Value} {z : DataW Unit × List MemPlace} (h : plainElem Try.prog 4 v = some z) : ∃ b, v = .bool b ∧ z = (.lit (.bool b), []) := by
  unfold plainElem at h
  simp only [Try.underlying4] at h
  cases v <;> simp at h
  exact ⟨_, rfl, h.symm⟩
theorem BMap.look (h : BMap w mb cnt g) (k : Int) (hk : I64 k) : (Instr.lookup 72 (.map (some mb)) (.int .i64 k) false).run Try.prog w = .ok (.bool (g k)) w := by
  obtain ⟨D, ho, _, ha⟩ := h
  obtain ⟨v, ps, hrun, hv⟩ := ho.lookup (t := 72) law3 Try.underlying72 (zero4 _) (plainElem_bool Try.underlying4 false) (keyOf_int_mk Try.underlying3 (wfI hk))
  obtain ⟨b, rfl, hz⟩ := plainElem_bool_inv hv
  simp only [Prod.mk.injEq] at hz
  have e := hz.1.symm.trans (ha k)
  simp only [DataW.lit.injEq, Lit.bool.injEq] at e
  rw [← e]; exact hrun
theorem BMap.put (h : BMap w mb cnt g) (k : Int) (v : Bool) (hk : I64 k) (hc : cnt ≤ 1000000) :
    ∃ w', (Instr.mapUpdate 72 (.map (some mb)) (.int .i64 k) (.bool v)).run Try.prog w = .ok () w' ∧ BMap w' mb (cnt + 1) (fun x => if x = k then v else g x) ∧ w.grownBy w' (some mb) := by
  obtain ⟨D, ho, hm, ha⟩ := h
  obtain ⟨w', hrun, ho', hg⟩ := ho.update (t := 72) law3 Try.underlying72 (by unfold maxLen; omega) (keyOf_int_mk Try.underlying3 (wfI hk)) (plainElem_bool Try.underlying4 v)
  refine ⟨w', hrun, ⟨_, ho', hm.put _ _, fun x => ?_⟩, hg⟩
  by_cases e : x = k
  · subst e; dsimp only; rw [if_pos rfl, atKey_put_same hm (by trivial)]
  · dsimp only; rw [if_neg e, atKey_put_other (by intro h; injection h with _ h; exact e h)]; exact ha x
theorem BMap.made (w : World) : BMap (w.alloc (.map #[] 0)) w.heap.size 0 (fun _ => false) :=
  ⟨_, World.ownsMap_made w Try.prog 3 _, isMap_empty, fun k => rfl⟩
end

/-! What blocks are made of a net. -/
structure BlkD where
  ins : List Int
  tab : Int
  ff : Bool
  init : Bool
instance : Inhabited BlkD := ⟨⟨[], 0, false, false⟩⟩

/-- Which places of a table's inputs are something. -/
def keptTo (ins : List Int) : Nat → List Nat
  | 0 => []
  | k + 1 => if ins.getD k 0 = 0 then keptTo ins k else keptTo ins k ++ [k]
def liveTo (g : Int → Int) (ins : List Int) : Nat → List Int
  | 0 => []
  | k + 1 => if ins.getD k 0 = 0 then liveTo g ins k else liveTo g ins k ++ [g (ins.getD k 0)]
/-- A place of the table without node 0 in the table with it. -/
def spreadTo (kept : List Nat) (i : Nat) : Nat → Nat
  | 0 => 0
  | j + 1 => spreadTo kept i j ||| ((i / 2 ^ j % 2) * 2 ^ (kept.getD j 0))
def tabTo (T : Nat) (kept : List Nat) : Nat → Nat
  | 0 => 0
  | i + 1 => tabTo T kept i ||| ((T / 2 ^ (spreadTo kept i kept.length) % 2) * 2 ^ i)
def toldD (g : Int → Int) (ins : List Int) (T : Nat) (ff init : Bool) : BlkD :=
  ⟨liveTo g ins ins.length, (tabTo T (keptTo ins ins.length) (2 ^ (keptTo ins ins.length).length) : Nat), ff, init⟩

theorem keptTo_lt (ins : List Int) (k : Nat) : ∀ x ∈ keptTo ins k, x < k := by
  induction k with
  | zero => intro x hx; cases hx
  | succ k ih =>
    intro x hx
    unfold keptTo at hx
    split at hx
    · have := ih x hx; omega
    · rcases List.mem_append.1 hx with h | h
      · have := ih x h; omega
      · simp at h; omega
theorem keptTo_length (ins : List Int) (k : Nat) : (keptTo ins k).length ≤ k := by
  induction k with
  | zero => simp [keptTo]
  | succ k ih =>
    unfold keptTo; split
    · omega
    · rw [List.length_append, List.length_singleton]; omega
theorem liveTo_length (g : Int → Int) (ins : List Int) (k : Nat) : (liveTo g ins k).length = (keptTo ins k).length := by
  induction k with
  | zero => rfl
  | succ k ih => unfold keptTo liveTo; split <;> simp_all

theorem spreadTo_lt (kept : List Nat) (i j : Nat) (hk : ∀ x ∈ kept, x < 4) (hj : j ≤ kept.length) : spreadTo kept i j < 16 := by
  induction j with
  | zero => simp [spreadTo]
  | succ j ih =>
    have h1 := hk _ (getD_mem kept 0 (show j < kept.length by omega))
    have h2 := ih (by omega)
    unfold spreadTo
    have h3 : i / 2 ^ j % 2 * 2 ^ kept.getD j 0 < 2 ^ 4 := by
      have : (2 : Nat) ^ kept.getD j 0 ≤ 2 ^ 3 := Nat.pow_le_pow_right (by omega) (by omega)
      rcases Nat.mod_two_eq_zero_or_one (i / 2 ^ j) with h | h <;> rw [h] <;> omega
    exact Nat.or_lt_two_pow (n := 4) h2 h3
theorem tabTo_lt (T : Nat) (kept : List Nat) (i : Nat) : tabTo T kept i < 2 ^ i := by
  induction i with
  | zero => simp [tabTo]
  | succ i ih =>
    unfold tabTo
    refine Nat.or_lt_two_pow (Nat.lt_of_lt_of_le ih (Nat.pow_le_pow_right (by omega) (by omega))) ?_
    rw [Nat.pow_succ]
    have := Nat.two_pow_pos i
    rcases Nat.mod_two_eq_zero_or_one (T / 2 ^ spreadTo kept i kept.length) with h | h <;> rw [h] <;> omega
end Go.Proofs.Ytibimdhmfchcoaa
