/- Rows of events joined (append, at five cells an event). -/
import Derived.Test.YtbhbebidkeejbaaQ10
namespace Go.Proofs.Ytbhbebidkeejbaa
open Go.RowKit Go.Shelf
set_option linter.unusedVariables false
set_option linter.unusedSimpArgs false

theorem run_append_none5 {P : Program} {w : World} (base : Nat) (t ty e : TypeId) (i : TypeInfo) (size : Nat) (ht : P.underlying t = some (.slice e)) (hi : P.info? e = some i)
    (v : Value) (n c : Nat) (xs : List Value) (hown : w.ownsRow base e size v n xs) :
    (Builtin.append_ #[t, t] ty #[v, .slice none 0 c]).run P w = .ok v w := by
  rcases hown.2 with ⟨rfl, rfl⟩ | ⟨g, cap, cur, rfl, _, _, hnc, _⟩
  · simp [Builtin.append_, run_underlying ht, sizeOf, typeInfo, hi, Builtin.lenOf, Builtin.firstCells]
  · simp [Builtin.append_, run_underlying ht, sizeOf, typeInfo, hi, Builtin.lenOf, Builtin.firstCells, hnc, storeCells]
/-- A part of a list of events, as a slice of it. -/
theorem LAt.part {w : World} {b off : Nat} {l : List EvV} (h : LAt w (some ⟨b, off, none⟩) l) (i m : Nat) (hm : i + m ≤ l.length) : ∀ j u, (((l.drop i).take m).flatMap EvV.cells)[j]? = some u → w.cell? (Addr.add ⟨b, off + i * 5, none⟩ j) = some u := by
  intro j u hj
  have hjl : j < 5 * m := by
    have := (List.getElem?_eq_some_iff.1 hj).1
    rw [flat5_length, List.length_take, List.length_drop] at this
    omega
  rw [Addr.add_lit, Nat.add_assoc]
  refine lat_news h (i * 5 + j) u ?_
  rw [← hj, flat_take _ _ (by rw [List.length_drop]; omega), List.getElem?_take, if_pos hjl, flat_drop _ _ (by omega), List.getElem?_drop, Nat.mul_comm]
theorem wp_append5 {w : World} {o : Oper} {a : Act} {K : Act → World → Prop} {Q : Exit → Act → World → Prop} (s x : Operand)
    (ho : o.op = .call { callee := .builtin .append, args := #[s, x], argTypes := #[22, 22] })
    (base : Nat) (v : Value) (n : Nat) (xs : List Value) (hs : a.eval s = v) (hown : w.ownsRow base 35 5 v n xs)
    (oa : Option Addr) (m c : Nat) (news : List Value) (hx : a.eval x = .slice oa m c) (hl : news.length = m * 5) (hn : oa = none → m = 0) (hnews : ∀ ad, oa = some ad → ∀ j u, news[j]? = some u → w.cell? (ad.add j) = some u) (h1 : ∀ u ∈ news, u.oneCell' = true)
    (h63 : n + m ≤ 100000) (hbase : base ≤ w.heap.size)
    (h : ∀ v' w', w'.ownsRow base 35 5 v' (n + m) (xs ++ news) → w.grownBy w' v.ownBlock → K (a.put o.dst v') w') : o.wp Try.prog a w K Q := by
  obtain ⟨i5, hi5, hz0, hz1, hz2⟩ := info_parts info35
  cases oa with
  | none =>
    have hm := hn rfl
    subst hm
    have hnews : news = [] := List.eq_nil_of_length_eq_zero (by simpa using hl)
    subst hnews
    have hrun := run_append_none5 (P := Try.prog) (w := w) base 22 o.type 35 i5 5 Try.underlying22 hi5 v n c xs hown
    unfold Oper.wp
    simp [execOp, ho, resolve, invoke, builtin, hs, hx, hrun, Result.andThen]
    exact h v w (by simpa using hown) (World.grownBy.refl _ _)
  | some ad =>
    exact wp_append_own w s x 22 ho base 35 i5 zero5 5 40 Try.underlying22 hi5 hz0 hz1 hz2 rfl (by decide) v n xs hs hown ad m c news hx hl (hnews ad rfl) h1 (by unfold maxLen; omega) (by omega) hbase (fun v' w' h2 h3 _ => h v' w' h2 h3)
theorem LAt.front {w : World} {a : Option Addr} {l : List EvV} (h : LAt w a l) (m : Nat) (hm : m ≤ l.length) : ∀ ad, a = some ad → ∀ j u, ((l.take m).flatMap EvV.cells)[j]? = some u → w.cell? (ad.add j) = some u := by
  intro ad had j u hj
  rcases h.list with h0 | ⟨b, off, rfl, hcell⟩
  · obtain rfl : m = 0 := by omega
    simp at hj
  · injection had with had
    subst had
    have := h.part 0 m (by omega) j u (by simpa using hj)
    simpa using this
theorem LAt.front_none {w : World} {a : Option Addr} {l : List EvV} (h : LAt w a l) (m : Nat) (hm : m ≤ l.length) : a = none → m = 0 := by
  intro hn
  rcases h.list with h0 | ⟨b, off, rfl, hcell⟩
  · omega
  · cases hn
theorem LAt.back {w : World} {b off : Nat} {l : List EvV} (h : LAt w (some ⟨b, off, none⟩) l) (i : Nat) (hi : i ≤ l.length) : ∀ j u, ((l.drop i).flatMap EvV.cells)[j]? = some u → w.cell? (Addr.add ⟨b, off + i * 5, none⟩ j) = some u := by
  intro j u hj
  refine h.part i (l.length - i) (by omega) j u ?_
  rw [List.take_of_length_le (by rw [List.length_drop]; omega)]
  exact hj
theorem own_form {w : World} {base size n : Nat} {e : TypeId} {v : Value} {xs : List Value} (h : w.ownsRow base e size v n xs) (hn : 0 < n) : ∃ g cap, v = .slice (some ⟨g, 0, none⟩) n cap ∧ n ≤ cap ∧ base ≤ g := by
  rcases h.2 with ⟨_, h0⟩ | ⟨g, cap, cur, hv, hb, _, hc, _⟩
  · omega
  · exact ⟨g, cap, hv, hc, hb⟩
theorem ev_cells_at {w : World} {b : Nat} {x : EvV} (h : w.heap[b]? = some (.cells x.cells.toArray 35 (0, 0))) : ∀ ad, some (⟨b, 0, none⟩ : Addr) = some ad → ∀ j u, x.cells[j]? = some u → w.cell? (ad.add j) = some u := by
  intro ad had j u hj
  injection had with had
  subst had
  rw [Addr.add_lit, Nat.zero_add, cell_of_row w b j _ 35 (0, 0) h]
  simpa using hj
theorem cells_one (x : EvV) : ∀ u ∈ x.cells, u.oneCell' = true := by
  intro u hu
  simp at hu
  rcases hu with rfl | rfl | rfl | rfl | rfl <;> rfl
end Go.Proofs.Ytbhbebidkeejbaa
