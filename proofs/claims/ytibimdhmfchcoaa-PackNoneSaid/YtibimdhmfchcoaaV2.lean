/- What blocks tell and keep, plainly; wires in memory; slices.Clone of bits. -/
import Derived.Test.YtibimdhmfchcoaaV1
namespace Go.Proofs.Ytibimdhmfchcoaa
open Go.RowKit Go.Shelf Go.Maps
set_option linter.unusedVariables false
set_option linter.unusedSimpArgs false

theorem info4b : (Try.prog.info? 4).map (fun i => (i.zero, i.size, i.bytes)) = some (some (.bool false), 1, 1) := by kernel_rfl
/-- The wires, when the flops of the first i blocks have been filled. -/
def fillR (D : PackD) (st : List Bool) : Nat → Nat → Bool
  | 0 => fun _ => false
  | i + 1 => if (D.blk i).ff then upd (fillR D st i) (D.ins.toNat + i) (st.getD (flopsTo D i).length false) else fillR D st i
def fillP (D : PackD) (inn st : List Bool) (kept : List Nat) : Nat → Nat → Bool
  | 0 => fun w => inn.getD w false
  | k + 1 => upd (fillP D inn st kept k) (D.ins.toNat + kept.getD k 0) (st.getD k false)
def wireF (D : PackD) (inn st : List Bool) : Nat → Bool := fun w => if w < D.ins.toNat then inn.getD w false else fillR D st D.n w
/-- .. when the first t blocks of an order have told. -/
def evT (D : PackD) (l : List Nat) (f : Nat → Bool) : Nat → Nat → Bool
  | 0 => f
  | t + 1 => upd (evT D l f t) (D.ins.toNat + l.getD t 0) (valueB (D.blk (l.getD t 0)).ins (D.blk (l.getD t 0)).tab (evT D l f t))
def evW (D : PackD) (inn st : List Bool) : Nat → Bool := evT D (orderL D) (wireF D inn st) (orderL D).length
def evalE (D : PackD) (inn st : List Bool) : Int := if orderE D = 0 then (if (inn.length : Int) = D.ins ∧ st.length = (flopsL D).length then 0 else 1) else orderE D
def evalO (D : PackD) (inn st : List Bool) : List Bool := if evalE D inn st = 0 then D.outs.map (fun x => evW D inn st x.toNat) else []
def nextOf (D : PackD) (W : Nat → Bool) (l : List Nat) : List Bool := l.map fun i => valueB (D.blk i).ins (D.blk i).tab W
def evalN (D : PackD) (inn st : List Bool) : List Bool := if evalE D inn st = 0 then nextOf D (evW D inn st) (flopsL D) else []

theorem flopsTo_mono (D : PackD) (i : Nat) : ∀ k, flopsTo D (i + k) = flopsTo D i ++ (flopsTo D (i + k)).drop (flopsTo D i).length
  | 0 => by simp
  | k + 1 => by
    have ih := flopsTo_mono D i k
    have hs := flopsTo_succ D (i + k)
    rw [show i + (k + 1) = i + k + 1 by omega, hs]
    rw [ih]
    simp [List.append_assoc]
theorem flops_at (D : PackD) {i n : Nat} (hi : i < n) (hf : (D.blk i).ff = true) : (flopsTo D n).getD (flopsTo D i).length 0 = i := by
  have h := flopsTo_mono D (i + 1) (n - (i + 1))
  rw [show i + 1 + (n - (i + 1)) = n by omega] at h
  have hs := flopsTo_succ D i
  rw [if_pos hf] at hs
  rw [h, hs, List.getD_eq_getElem?_getD, List.getElem?_append_left (by simp), List.getElem?_append_right (Nat.le_refl _)]
  simp
/-- Both ways to fill the wires come to the same. -/
theorem fill_same (D : PackD) (inn st : List Bool) (h : inn.length = D.ins.toNat) (n : Nat) : ∀ i, i ≤ n → fillP D inn st (flopsTo D n) (flopsTo D i).length = fun w => if w < D.ins.toNat then inn.getD w false else fillR D st i w
  | 0, _ => by
    funext w
    simp only [flopsTo, List.range_zero, List.filter_nil, List.length_nil, fillP, fillR]
    by_cases e : w < D.ins.toNat
    · rw [if_pos e]
    · rw [if_neg e, List.getD_eq_getElem?_getD, List.getElem?_eq_none (by omega)]; rfl
  | i + 1, hi => by
    have ih := fill_same D inn st h n i (by omega)
    have hs := flopsTo_succ D i
    by_cases hf : (D.blk i).ff = true
    · rw [if_pos hf] at hs
      rw [hs, List.length_append]
      show upd (fillP D inn st (flopsTo D n) (flopsTo D i).length) (D.ins.toNat + (flopsTo D n).getD (flopsTo D i).length 0) (st.getD (flopsTo D i).length false) = _
      rw [ih, flops_at D (by omega) hf]
      funext w
      have hr : fillR D st (i + 1) = upd (fillR D st i) (D.ins.toNat + i) (st.getD (flopsTo D i).length false) := by
        show (if (D.blk i).ff then _ else _) = _
        rw [if_pos hf]
      rw [hr]
      unfold upd
      by_cases e : w = D.ins.toNat + i
      · rw [if_pos e, if_neg (by omega), if_pos e]
      · rw [if_neg e, if_neg e]
    · rw [if_neg hf] at hs
      rw [hs, List.append_nil, ih]
      funext w
      have hr : fillR D st (i + 1) = fillR D st i := by
        show (if (D.blk i).ff then _ else _) = _
        rw [if_neg hf]
      rw [hr]
theorem wireF_prog (D : PackD) (inn st : List Bool) (h : inn.length = D.ins.toNat) : fillP D inn st (flopsL D) (flopsL D).length = wireF D inn st := fill_same D inn st h D.n D.n (Nat.le_refl _)

/-- m wires, in a block of the call's own. -/
def Wir (wr : World) (B : Nat) (wa : Option Addr) (m : Nat) (f : Nat → Bool) : Prop :=
  m = 0 ∨ ∃ g, wa = some ⟨g, 0, none⟩ ∧ B ≤ g ∧ g < wr.heap.size ∧ (∀ i, i < m → wr.cell? ⟨g, i, none⟩ = some (.bool (f i))) ∧ ∀ i, wr.frozen? ⟨g, i, none⟩ = false
section
variable {w wr w' : World} {B m : Nat} {wa : Option Addr} {f : Nat → Bool}
theorem Wir.seq (h : Wir wr B wa m f) : Seq wr wa m (fun i => .bool (f i)) := by
  rcases h with h | ⟨g, ha, _, _, hc, _⟩
  · exact .inl h
  · exact .inr ⟨g, 0, ha, fun i hi => by rw [Nat.zero_add]; exact hc i hi⟩
theorem Wir.below (h : Wir wr B wa m f) (hb : Below wr.heap.size wr w') : Wir w' B wa m f := by
  rcases h with h | ⟨g, ha, h1, h2, hc, hf⟩
  · exact .inl h
  · exact .inr ⟨g, ha, h1, Nat.lt_of_lt_of_le h2 hb.size, fun i hi => (hb.cell (p := ⟨g, i, none⟩) h2).trans (hc i hi), fun i => (hb.frozen (p := ⟨g, i, none⟩) h2).trans (hf i)⟩
theorem Wir.at (h : Wir wr B wa m f) {i : Nat} (hi : i < m) : ∃ g, wa = some ⟨g, 0, none⟩ ∧ B ≤ g ∧ g < wr.heap.size ∧ wr.cell? ⟨g, i, none⟩ = some (.bool (f i)) ∧ wr.frozen? ⟨g, i, none⟩ = false ∧ ∀ b, Wir (wr.setCell ⟨g, i, none⟩ (.bool b)) B wa m (upd f i b) := by
  rcases h with h | ⟨g, ha, h1, h2, hc, hf⟩
  · omega
  · refine ⟨g, ha, h1, h2, hc i hi, hf i, fun b => .inr ⟨g, ha, h1, by rw [set_size]; exact h2, fun j hj => ?_, fun j => by rw [set_frozen]; exact hf j⟩⟩
    by_cases e : j = i
    · subst e; rw [upd_same]; exact cell?_set_own (hc j hj)
    · rw [upd_other _ _ _ e]; exact set_keep (hc j hj) e
theorem Wir.ext (h : Wir wr B wa m f) {g : Nat → Bool} (e : ∀ i, i < m → f i = g i) : Wir wr B wa m g := by
  rcases h with h | ⟨b, ha, h1, h2, hc, hf⟩
  · exact .inl h
  · exact .inr ⟨b, ha, h1, h2, fun i hi => by rw [← e i hi]; exact hc i hi, hf⟩
theorem Wir.of_own {v : Value} {xs : List Bool} (h : wr.ownsRow B 4 1 v m (xs.map Value.bool)) : ∃ a c, v = .slice a m c ∧ Wir wr B a m (fun i => xs.getD i false) := by
  have hl : xs.length = m := by have := h.1; simpa using this
  by_cases hm : m = 0
  · obtain ⟨a, c, rfl⟩ := owns_val h
    exact ⟨a, c, rfl, .inl hm⟩
  · obtain ⟨g, cap, rfl, h1, h2, hc⟩ := owns_cells h (by omega)
    refine ⟨_, cap, rfl, .inr ⟨g, rfl, h1, h2, fun i hi => ?_, fun i => h.frozenAt i⟩⟩
    rw [hc i (by simp; omega), List.getElem_map]
    show _ = some (Value.bool (xs.getD i false))
    rw [List.getD_eq_getElem?_getD, List.getElem?_eq_getElem (by omega)]; rfl
end

theorem run_zeros_none {P : Program} {w : World} (base : Nat) (t tn ty e : TypeId) (i : TypeInfo) (z : Value) (kq kn : IntKind) (ht : P.underlying t = some (.slice e)) (htn : P.underlying tn = some (.int kn)) (hi : P.info? e = some i) (hs : i.size = 1)
    (v : Value) (n : Nat) (xs : List Value) (hown : w.ownsRow base e 1 v n xs) : (Builtin.append_ #[t, tn] ty #[v, .int kq 0]).run P w = .ok v w := by
  have hw : IntKind.i64.wrap 0 = 0 := by rfl
  rcases hown.2 with ⟨rfl, rfl⟩ | ⟨g, cap, cur, rfl, hbg, hg, hnc, hcm, hcs, htake⟩
  · simp [Builtin.append_, run_underlying ht, run_underlying htn, sizeOf, typeInfo, hi, asInt, asIntOf, hw, hs]
  · simp [Builtin.append_, run_underlying ht, run_underlying htn, sizeOf, typeInfo, hi, asInt, asIntOf, hw, hs, hnc, storeCells]

/-- .. of however many. -/
theorem run_zeros_any {P : Program} {w : World} (base : Nat) (t tn ty e : TypeId) (i : TypeInfo) (z : Value) (bytes : Nat) (kq kn : IntKind) (ht : P.underlying t = some (.slice e)) (htn : P.underlying tn = some (.int kn)) (hi : P.info? e = some i) (hz : i.zero = some z) (hs : i.size = 1) (hby : i.bytes = bytes) (hzc : z.cells = #[z]) (hz1 : z.oneCell' = true)
    (v : Value) (n k : Nat) (xs : List Value) (hown : w.ownsRow base e 1 v n xs) (hb : (n + k) * bytes ≤ 140737488355328) (hn : n + k ≤ 1000000) (hbase : base ≤ w.heap.size) :
    ∃ a cap w', (Builtin.append_ #[t, tn] ty #[v, .int kq k]).run P w = .ok (.slice a (n + k) cap) w' ∧ w'.ownsRow base e 1 (.slice a (n + k) cap) (n + k) (xs ++ List.replicate k z) ∧ w.grownBy w' v.ownBlock := by
  rcases Nat.eq_zero_or_pos k with h0 | h0
  · subst h0
    have hr := run_zeros_none (P := P) base t tn ty e i z kq kn ht htn hi hs v n xs hown
    obtain ⟨a, c, rfl⟩ := owns_val hown
    exact ⟨a, c, w, hr, by simpa using hown, World.grownBy.refl w _⟩
  · obtain ⟨g, cap, w', h1, h2, h3⟩ := run_zeros_own (P := P) base t tn ty e i z bytes kq kn ht htn hi hz hs hby hzc hz1 v n k xs hown h0 hb hn hbase
    exact ⟨_, cap, w', h1, h2, h3⟩
theorem getD_zeros (l : List Bool) (n i : Nat) : (l ++ List.replicate n false).getD i false = l.getD i false := by
  simp only [List.getD_eq_getElem?_getD]
  rcases Nat.lt_or_ge i l.length with h | h
  · rw [List.getElem?_append_left h]
  · rw [List.getElem?_append_right h, List.getElem?_eq_none h, List.getElem?_replicate]
    split <;> rfl

/-- slices.Clone of bits. -/
theorem clone51 (w : World) (a : Option Addr) (n c : Nat) (l : List Bool) (hl : l.length = n) (hn : n ≤ 100000) (S : Seq w a n (bools l)) :
    Calls Try.prog 51 #[.slice a n c] w fun e w' => ∃ v, e = .returned v ∧ w'.ownsRow w.heap.size 4 1 v n (l.map Value.bool) ∧ Below w.heap.size w w' := by
  have q : ∀ (w : World) (a : Option Addr) (n c n' c' : Nat), (binOp .eql 37 (.slice a n c) (.slice none n' c')).run Try.prog w = .ok (.bool a.isNone) w := fun w a n c n' c' => Lib.run_eql_slice_nil w _ _ a n c n' c' Try.underlying37
  obtain ⟨i4, hi, hz0, hz1, hz2⟩ := info_parts info4b
  rcases a with _ | ad
  · have h0 : n = 0 := by
      rcases S with h | ⟨b, off, h, _⟩
      · exact h
      · cases h
    subst h0
    have hl0 : l = [] := List.eq_nil_of_length_eq_zero hl
    subst hl0
    clear S hl
    go_enter Try.func51, Try.ntmps51
    go_wp2
    go_ret
    exact ⟨_, rfl, World.ownsRow_nil _ _ _ _, Below.refl _ _⟩
  · have hc : ∀ j u, (l.map Value.bool)[j]? = some u → (w.alloc (Obj.cells #[] 4)).cell? (ad.add j) = some u := by
      intro j u hj
      have hjl : j < l.length := by
        have := (List.getElem?_eq_some_iff.1 hj).1; simpa using this
      rcases S with h | ⟨b, off, h, hc⟩
      · omega
      · obtain rfl : ad = ⟨b, off, none⟩ := Option.some.inj h
        rw [Addr.add_lit]
        refine cell_alloc _ ?_
        rw [hc j (by omega), ← hj]
        simp [bools, List.getD_eq_getElem?_getD, List.getElem?_eq_getElem hjl]
    have HC := Lib.hid hc
    have HL := Lib.hid hl
    have HB : Below w.heap.size w (w.alloc (Obj.cells #[] 4)) := (Below.refl _ _).alloc (Nat.le_refl _) _
    clear S hl hc
    go_enter Try.func51, Try.ntmps51
    go_wp2_with (at_builtin; refine wpList_append_own _ rfl _ _ 37 rfl w.heap.size 4 i4 (.bool false) 1 1 Try.underlying37 hi hz0 hz1 hz2 rfl (by decide) _ _ _ rfl (World.ownsRow_lit w #[] 0 (Nat.le_refl _) (Nat.zero_le _) rfl) ad n c (l.map Value.bool) rfl ?c1 ?c2 ?c3 ?c4 ?c5 ?c6 ?_)
    case c1 => rw [List.length_map, HL.out, Nat.mul_one]
    case c2 => exact HC.out
    case c3 => intro u hu; rw [List.mem_map] at hu; obtain ⟨x, _, rfl⟩ := hu; rfl
    case c4 => unfold maxLen; omega
    case c5 => omega
    case c6 => simp
    intro v' w1 hown hgrow _
    go_wp2
    go_ret
    exact ⟨v', rfl, by simpa using hown, HB.grown hgrow (by simp) (by intro k hk; simp [Value.ownBlock] at hk; omega)⟩
end Go.Proofs.Ytibimdhmfchcoaa
