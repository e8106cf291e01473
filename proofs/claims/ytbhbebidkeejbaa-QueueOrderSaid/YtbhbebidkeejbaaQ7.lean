/- A queue's events once more (Clone); an event more among them (Insert). -/
import Derived.Test.YtbhbebidkeejbaaQ6
import Derived.Laws.CopyRow
import Derived.Laws.CopyOwn
import Derived.Laws.AppendOwn
import Derived.Lib.Overlaps
import Derived.Lib.AppendZerosOnto
import Derived.Laws.Externs
namespace Go.Proofs.Ytbhbebidkeejbaa
open Go.RowKit Go.Shelf
set_option linter.unusedVariables false
set_option linter.unusedSimpArgs false

theorem info35 : (Try.prog.info? 35).map (fun i => (i.zero, i.size, i.bytes)) = some (some (.agg #[.int .i64 0, .int .i64 0, .int .i64 0, .int .i64 0, .int .u64 0]), 5, 40) := by kernel_rfl
theorem flat5_length (l : List EvV) : (l.flatMap EvV.cells).length = 5 * l.length := by
  induction l with
  | nil => rfl
  | cons x l ih => rw [List.flatMap_cons, List.length_append, ih, List.length_cons]; simp; omega
theorem flat5_get (l : List EvV) : ∀ j, j < 5 * l.length → (l.flatMap EvV.cells)[j]? = some (evCell l j) := by
  induction l with
  | nil => intro j hj; simp at hj
  | cons x l ih =>
    intro j hj
    rw [List.length_cons] at hj
    rw [List.flatMap_cons]
    rcases Nat.lt_or_ge j 5 with h | h
    · rw [List.getElem?_append_left (by simpa using h)]
      match j, h with
      | 0, _ => rfl
      | 1, _ => rfl
      | 2, _ => rfl
      | 3, _ => rfl
      | 4, _ => rfl
    · rw [List.getElem?_append_right (by simpa using h)]
      have hl : x.cells.length = 5 := rfl
      rw [hl, ih (j - 5) (by omega)]
      unfold evCell
      rw [show j % 5 = (j - 5) % 5 by omega, show j / 5 = (j - 5) / 5 + 1 by omega, List.getD_cons_succ]
theorem flat5_one (l : List EvV) : ∀ u ∈ l.flatMap EvV.cells, u.oneCell' = true := by
  intro u hu
  obtain ⟨x, _, hx⟩ := List.mem_flatMap.1 hu
  simp at hx
  rcases hx with rfl | rfl | rfl | rfl | rfl <;> rfl
/-- A row of cells reads as events. -/
theorem seq5_of {w : World} {g : Nat} {l : List EvV} (h : ∀ j u, (l.flatMap EvV.cells)[j]? = some u → w.cell? ⟨g, j, none⟩ = some u) : Seq w (some ⟨g, 0, none⟩) (5 * l.length) (evCell l) :=
  .inr ⟨g, 0, rfl, fun i hi => by rw [Nat.zero_add]; exact h i _ (flat5_get l i hi)⟩
theorem lat_news {w : World} {b off : Nat} {l : List EvV} (h : LAt w (some ⟨b, off, none⟩) l) : ∀ j u, (l.flatMap EvV.cells)[j]? = some u → w.cell? ⟨b, off + j, none⟩ = some u := by
  intro j u hj
  have hjl : j < 5 * l.length := by rw [← flat5_length]; exact (List.getElem?_eq_some_iff.1 hj).1
  rcases h.list with h0 | ⟨b', off', ha, hc⟩
  · omega
  · injection ha with ha
    injection ha with h1 h2
    subst h1 h2
    rw [hc j hjl, ← hj, flat5_get l j hjl]

set_option maxRecDepth 100000 in
set_option maxHeartbeats 4000000 in
theorem clone32 (w : World) (a : Option Addr) (n c : Nat) (l : List EvV) (hl : l.length = n) (hn : n ≤ 1000) (S : LAt w a l) :
    Calls Try.prog 32 #[.slice a n c] w fun e w' => ∃ v, e = .returned v ∧ w'.ownsRow w.heap.size 35 5 v n (l.flatMap EvV.cells) ∧ Below w.heap.size w w' := by
  have q : ∀ (w : World) (a : Option Addr) (n c n' c' : Nat), (binOp .eql 22 (.slice a n c) (.slice none n' c')).run Try.prog w = .ok (.bool a.isNone) w := fun w a n c n' c' => Lib.run_eql_slice_nil w _ _ a n c n' c' Try.underlying22
  obtain ⟨i5, hi, hz0, hz1, hz2⟩ := info_parts info35
  rcases a with _ | ad
  · have h0 : n = 0 := by
      rcases S.list with h | ⟨b, off, h, _⟩
      · omega
      · cases h
    subst h0
    have hl0 : l = [] := List.eq_nil_of_length_eq_zero hl
    subst hl0
    clear S hl
    go_enter Try.func32, Try.ntmps32
    go_wp2
    go_ret
    exact ⟨_, rfl, World.ownsRow_nil _ _ _ _, Below.refl _ _⟩
  · have hc : ∀ j u, (l.flatMap EvV.cells)[j]? = some u → (w.alloc (Obj.cells #[] 35)).cell? (ad.add j) = some u := by
      intro j u hj
      have hjl : j < 5 * l.length := by rw [← flat5_length]; exact (List.getElem?_eq_some_iff.1 hj).1
      rcases S.list with h | ⟨b, off, h, hc⟩
      · omega
      · obtain rfl : ad = ⟨b, off, none⟩ := Option.some.inj h
        rw [Addr.add_lit]
        exact cell_alloc _ (lat_news S j u hj)
    have HC := Lib.hid hc
    have HL := Lib.hid hl
    have HB : Below w.heap.size w (w.alloc (Obj.cells #[] 35)) := (Below.refl _ _).alloc (Nat.le_refl _) _
    clear S hl hc
    go_enter Try.func32, Try.ntmps32
    go_wp2_with (at_builtin; refine wpList_append_own _ rfl _ _ 22 rfl w.heap.size 35 i5 (.agg #[.int .i64 0, .int .i64 0, .int .i64 0, .int .i64 0, .int .u64 0]) 5 40 Try.underlying22 hi hz0 hz1 hz2 rfl (by decide) _ _ _ rfl (World.ownsRow_lit w #[] 0 (Nat.le_refl _) (Nat.zero_le _) rfl) ad n c (l.flatMap EvV.cells) rfl ?c1 ?c2 ?c3 ?c4 ?c5 ?c6 ?_)
    case c1 => rw [flat5_length, HL.out, Nat.mul_comm]
    case c2 => exact HC.out
    case c3 => exact flat5_one l
    case c4 => unfold maxLen; omega
    case c5 => omega
    case c6 => simp
    intro v' w1 hown hgrow _
    go_wp2
    go_ret
    refine ⟨v', rfl, by simpa using hown, ?_⟩
    exact HB.grown hgrow (by simp) (fun k e => by simp [Value.ownBlock] at e; omega)
end Go.Proofs.Ytbhbebidkeejbaa
