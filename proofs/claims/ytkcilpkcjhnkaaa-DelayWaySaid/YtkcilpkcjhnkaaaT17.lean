import Derived.Test.YtkcilpkcjhnkaaaT16
import Derived.Test.YtkcilpkcjhnkaaaT15
import Derived.Test.YtkcilpkcjhnkaaaL3
import Derived.Laws.AppendOwnNone
namespace Go.Proofs.Ytkcilpkcjhnkaaa
open Go.RowKit
set_option linter.unusedVariables false

theorem info4 : (Try.prog.info? 4).map (fun i => (i.zero, i.size, i.bytes)) = some (some (.bool false), 1, 1) := by kernel_rfl

theorem run_append_none' {P : Program} {w : World} (base : Nat) (t ty e : TypeId) (i : TypeInfo) (size : Nat) (ht : P.underlying t = some (.slice e)) (hi : P.info? e = some i)
    (v : Value) (n c : Nat) (xs : List Value) (hown : w.ownsRow base e size v n xs) :
    (Builtin.append_ #[t, t] ty #[v, .slice none 0 c]).run P w = .ok v w := by
  rcases hown.2 with ⟨rfl, rfl⟩ | ⟨g, cap, cur, rfl, _, _, hnc, _⟩
  · simp [Builtin.append_, run_underlying ht, sizeOf, typeInfo, hi, Builtin.lenOf, Builtin.firstCells]
  · simp [Builtin.append_, run_underlying ht, sizeOf, typeInfo, hi, Builtin.lenOf, Builtin.firstCells, hnc, storeCells]

/-- append of a list as it lies, wherever (or nowhere) that is. -/
theorem wpList_append_seq {P : Program} {w : World} {ops : Array Oper} {rest : List Oper} {o : Oper} {a : Act} {Q : Exit → Act → World → Prop} (hgd : o.guard = none) (s x : Operand) (t : TypeId)
    (ho : o.op = .call { callee := .builtin .append, args := #[s, x], argTypes := #[t, t] })
    (base : Nat) (e : TypeId) (i : TypeInfo) (z : Value) (bytes : Nat) (ht : P.underlying t = some (.slice e)) (hi : P.info? e = some i) (hz : i.zero = some z)
    (hsize : i.size = 1) (hby : i.bytes = bytes) (hzs : z.cells.size = 1)
    (v : Value) (n : Nat) (xs : List Value) (hs : a.eval s = v) (hown : w.ownsRow base e 1 v n xs)
    (ao : Option Addr) (m c : Nat) (news : List Value) (f : Nat → Value) (hx : a.eval x = .slice ao m c) (hl : news.length = m) (S : Seq w ao m f) (hf : ∀ j, j < m → news[j]? = some (f j)) (h1 : ∀ u ∈ news, u.oneCell' = true)
    (h63 : n + m ≤ maxLen) (hbytes : (n + m) * bytes ≤ 140737488355328) (hbase : base ≤ w.heap.size)
    (h : ∀ v' w', w'.ownsRow base e 1 v' (n + m) (xs ++ news) → w.grownBy w' v.ownBlock → wpList P ops Q rest (a.put o.dst v') w') : wpList P ops Q (o :: rest) a w := by
  cases ao with
  | none =>
    have hm : m = 0 := by rcases S with h | ⟨b, off, h, _⟩; exact h; cases h
    subst hm
    have hnews : news = [] := List.eq_nil_of_length_eq_zero hl
    subst hnews
    refine wpList_plain hgd fun K hK => ?_
    have hrun := run_append_none' (P := P) (w := w) base t o.type e i 1 ht hi v n c xs hown
    unfold Oper.wp
    simp [execOp, ho, resolve, invoke, builtin, hs, hx, hrun, Result.andThen]
    exact hK _ _ (h v w (by simpa using hown) (World.grownBy.refl _ _))
  | some ad =>
    refine wpList_append_own _ hgd s x t ho base e i z 1 bytes ht hi hz hsize hby hzs (by omega) v n xs hs hown ad m c news hx (by omega) ?_ h1 h63 hbytes hbase fun v' w' h2 h3 _ => h v' w' h2 h3
    intro j u hj
    have hjm : j < m := by rw [← hl]; exact (List.getElem?_eq_some_iff.1 hj).1
    rcases S with h | ⟨b, off, ha, hc⟩
    · omega
    · cases ha
      rw [hf j hjm] at hj
      cases hj
      rw [Addr.add_lit]; exact hc j hjm

theorem bools_get (l : List Bool) (j : Nat) (h : j < l.length) : (l.map Value.bool)[j]? = some (bools l j) := by
  simp [bools, List.getD, List.getElem?_eq_getElem h]
theorem ints_get (l : List Int) (j : Nat) (h : j < l.length) : (l.map (Value.int .i64))[j]? = some (ints l j) := by
  simp [ints, List.getD, List.getElem?_eq_getElem h]
theorem bools_one (l : List Bool) : ∀ u ∈ l.map Value.bool, u.oneCell' = true := by
  intro u hu; obtain ⟨x, _, rfl⟩ := List.mem_map.1 hu; rfl
theorem ints_one (l : List Int) : ∀ u ∈ l.map (Value.int .i64), u.oneCell' = true := by
  intro u hu; obtain ⟨x, _, rfl⟩ := List.mem_map.1 hu; rfl

section
variable {w : World} {base e n : Nat} {v : Value} {l : List Bool}

theorem ownb_shape (h : w.ownsRow base e 1 v n (l.map Value.bool)) (hn : 0 < n) : ∃ g cap, v = .slice (some ⟨g, 0, none⟩) n cap ∧ base ≤ g ∧ g < w.heap.size ∧ n ≤ cap ∧ cap ≤ maxLen ∧ ∀ j, j < n → w.cell? ⟨g, j, none⟩ = some (.bool (l.getD j false)) := by
  have hl : l.length = n := by have := h.1; simpa using this
  rcases h.2 with ⟨_, h0⟩ | ⟨g, cap, cur, hv, hb, hg, hnc, hm, hs, ht⟩
  · omega
  · subst hv
    refine ⟨g, cap, rfl, hb, (Array.getElem?_eq_some_iff.1 hg).1, hnc, hm, fun j hj => ?_⟩
    rw [h.cellAt j (by omega)]
    simp [List.getD, List.getElem?_eq_getElem (show j < l.length by omega)]

theorem ownb_seq (h : w.ownsRow base e 1 v n (l.map Value.bool)) : ∃ a cap, v = .slice a n cap ∧ Seq w a n (bools l) ∧ n ≤ cap ∧ cap ≤ maxLen := by
  by_cases hn : 0 < n
  · obtain ⟨g, cap, rfl, _, _, h1, h2, hc⟩ := ownb_shape h hn
    exact ⟨_, cap, rfl, .inr ⟨g, 0, rfl, fun i hi => by rw [Nat.zero_add]; exact hc i hi⟩, h1, h2⟩
  · rcases h.2 with ⟨hv, h0⟩ | ⟨g, cap, cur, hv, hb, hg, hnc, hm, hs, ht⟩
    · exact ⟨none, 0, by rw [hv, h0], .inl h0, by omega, by simp [maxLen]⟩
    · exact ⟨_, cap, hv, .inl (by omega), hnc, hm⟩
end

/-- slices.Clone of bools that lie somewhere. -/
theorem cloneBools (w : World) (b off n c : Nat) (l : List Bool) (hl : l.length = n) (hn : n ≤ 100000) (S : Seq w (some ⟨b, off, none⟩) n (bools l)) :
    Calls Try.prog 44 #[.slice (some ⟨b, off, none⟩) n c] w fun e w' => ∃ v, e = .returned v ∧ w'.ownsRow w.heap.size 4 1 v n (l.map Value.bool) ∧ Below w.heap.size w w' := by
  have q : ∀ (w : World) (a : Option Addr) (n c n' c' : Nat), (binOp .eql 39 (.slice a n c) (.slice none n' c')).run Try.prog w = .ok (.bool a.isNone) w := fun w a n c n' c' => Lib.run_eql_slice_nil w _ _ a n c n' c' Try.underlying39
  have HS := Lib.hid S
  have HL := Lib.hid hl
  clear S hl
  obtain ⟨i0, hi, hz0, hz1, hz2⟩ := info_parts info4
  have HB : Below w.heap.size w (w.alloc (Obj.cells #[] 4)) := (Below.refl _ _).alloc (Nat.le_refl _) _
  go_enter Try.func44, Try.ntmps44
  go_wp2_with (at_builtin; refine wpList_append_seq rfl _ _ 39 rfl w.heap.size 4 i0 (.bool false) 1 Try.underlying39 hi hz0 hz1 hz2 rfl _ _ _ rfl (World.ownsRow_lit w #[] 0 (Nat.le_refl _) (Nat.zero_le _) rfl) (some ⟨b, off, none⟩) n c (l.map Value.bool) (bools l) rfl ?c1 ?c2 ?c3 (bools_one l) ?c4 ?c5 ?c6 ?_)
  case c1 => rw [List.length_map, HL.out]
  case c2 => exact HS.out.below HB (Nat.le_refl _)
  case c3 => intro j hj; exact bools_get l j (by rw [HL.out]; exact hj)
  case c4 => unfold maxLen; omega
  case c5 => omega
  case c6 => simp
  intro v' w1 hown hgrow
  go_wp2
  go_ret
  exact ⟨v', rfl, by simpa using hown, HB.grown hgrow (by simp) (by intro k hk; simp [Value.ownBlock] at hk; omega)⟩
end Go.Proofs.Ytkcilpkcjhnkaaa
