import Derived.Test.YtibimdhmfchcoaaA10
namespace Go.Proofs.Ytibimdhmfchcoaa
open Go.RowKit Go.Shelf Go.Maps
set_option linter.unusedVariables false
set_option linter.unusedSimpArgs false


theorem cell_top (w : World) (xs : Array Value) (t : TypeId) (b i : Nat) (v : Value) (hb : b = w.heap.size) (hx : xs[i]? = some v) : (w.alloc (Obj.cells xs t)).cell? ⟨b, i, none⟩ = some v := by
  subst hb; exact (cells_at (alloc_top w _) i).1.trans hx
/-- The net of the chapter's example, as it lies. -/
abbrev liveN (h : Nat) : NetV := ⟨1, some ⟨h, 0, none⟩, 1, [⟨3, false⟩], some ⟨h + 2, 0, none⟩, 1, [⟨some ⟨h + 1, 0, none⟩, 2, [1, 2], 6⟩], some ⟨h + 3, 0, none⟩, 1, [2]⟩
theorem live_blks (h : Nat) : packBlks (liveN h) = [⟨[0, 1], 6, true, false⟩] := by kernel_rfl
theorem live_outs (h : Nat) : packOuts (liveN h) = [1] := by kernel_rfl
theorem live_ok (h : Nat) : NetOk (liveN h) 4 := by
  refine ⟨by simp, fun i hi => ?_, ?_, ?_⟩
  · obtain rfl : i = 0 := by simp at hi; exact hi
    refine ⟨?_, ?_, ?_⟩
    · show ((2 : Nat) : Int) ≤ 4
      omega
    · show (6 : Int) ≤ ((rowsN 2 : Nat) : Int)
      simp [rowsN]
    · intro x hx
      simp at hx
      rcases hx with rfl | rfl <;> simp
  · intro x hx; simp at hx; subst hx; simp
  · intro x hx; simp at hx; subst hx; simp
theorem live_few (h : Nat) : Few (liveN h) := by
  refine ⟨fun l hl => ?_, by simp, by simp, by simp, by simp⟩
  simp at hl; subst hl; simp
def liveW (w : World) : World := (((w.alloc (Obj.cells #[Value.int .i64 3, Value.bool false] 63)).alloc (Obj.cells #[Value.int .i64 1, Value.int .i64 2] 3)).alloc (Obj.cells #[Value.slice (some ⟨w.heap.size + 1, 0, none⟩) 2 2, Value.int .u64 6] 41)).alloc (Obj.cells #[Value.int .i64 2] 3)
theorem live_size (w : World) : (liveW w).heap.size = w.heap.size + 4 := by unfold liveW; simp
theorem live_below (w : World) : Below w.heap.size w (liveW w) := (((Below.refl _ _).alloc (Nat.le_refl _) _).alloc (by simp) _).alloc (by simp; omega) _ |>.alloc (by simp; omega) _
theorem live_at (w : World) : NetAt (liveW w) (liveN w.heap.size) := by
  refine ⟨⟨by simp, by simp⟩, .inr ⟨w.heap.size, 0, rfl, fun i hi => ?_⟩, .inr ⟨w.heap.size + 2, 0, rfl, fun i hi => ?_⟩, .inr ⟨w.heap.size + 3, 0, rfl, fun i hi => ?_⟩, ?_, ?_, ?_, by simp, by simp, by simp⟩
  · match i, hi with
    | 0, _ => exact cell_alloc _ (cell_alloc _ (cell_alloc _ (cell_top _ _ _ _ _ _ (by simp) rfl)))
    | 1, _ => exact cell_alloc _ (cell_alloc _ (cell_alloc _ (cell_top _ _ _ _ _ _ (by simp) rfl)))
  · match i, hi with
    | 0, _ => exact cell_alloc _ (cell_top _ _ _ _ _ _ (by simp) rfl)
    | 1, _ => exact cell_alloc _ (cell_top _ _ _ _ _ _ (by simp) rfl)
  · match i, hi with
    | 0, _ => exact cell_top _ _ _ _ _ _ (by simp) rfl
  · intro l hl
    simp at hl; subst hl
    refine ⟨.inr ⟨w.heap.size + 1, 0, rfl, fun i hi => ?_⟩, ⟨by simp, by simp⟩, ?_, by simp⟩
    · match i, hi with
      | 0, _ => exact cell_alloc _ (cell_alloc _ (cell_top _ _ _ _ _ _ (by simp) rfl))
      | 1, _ => exact cell_alloc _ (cell_alloc _ (cell_top _ _ _ _ _ _ (by simp) rfl))
    · intro x hx; simp at hx; rcases hx with rfl | rfl <;> exact ⟨by simp, by simp⟩
  · intro x hx; simp at hx; subst hx; exact ⟨by simp, by simp⟩
  · intro x hx; simp at hx; subst hx; exact ⟨by simp, by simp⟩

set_option maxRecDepth 100000 in
set_option maxHeartbeats 8000000 in
theorem live14 (w : World) : Calls Try.prog 14 #[] w fun e w' => e = .returned (.bool true) ∧ Below w.heap.size w w' := by
  have HA := Lib.hid (live_at w)
  have hz := live_size w
  go_enter Try.func14, Try.ntmps14
  go_wp2_with fail
  show Calls Try.prog 16 #[(liveN w.heap.size).val] (liveW w) _
  refine (packs (liveW w) (liveN w.heap.size) HA.out (live_few _)).mono ?_
  rintro e w1 (⟨_, P, hi, hb, ho, rfl, hr, hbl⟩ | ⟨hno, _⟩)
  rotate_left
  · exact absurd (live_ok _) hno
  rw [live_blks] at hb
  rw [live_outs] at ho
  obtain ⟨pi, ba, bc, bs, oa, oc, os⟩ := P
  dsimp only at hi hb ho hr
  subst ho hi
  obtain ⟨b, rfl⟩ : ∃ b, bs = [b] := List.length_eq_one_iff.1 (by have h := congrArg List.length hb; simpa using h)
  obtain ⟨ia, ic, bi, bt, bf, bn⟩ := b
  simp only [List.map_cons, List.map_nil, List.cons.injEq, and_true, BlkV.data, BlkD.mk.injEq] at hb
  obtain ⟨rfl, rfl, rfl, rfl⟩ := hb
  obtain ⟨g, cap, hv, hg1, hg2, hc⟩ := owns_cells hr.own (by simp)
  injection hv with hv _ _
  subst hv
  have x0 := hc 0 (by simp)
  have x1 := hc 1 (by simp)
  have x2 := hc 2 (by simp)
  have x3 := hc 3 (by simp)
  simp only [List.flatMap_cons, List.flatMap_nil, List.append_nil, List.getElem_cons_zero, List.getElem_cons_succ] at x0 x1 x2 x3
  have HIn : Hid (Seq w1 ia 2 (ints [0, 1])) := Lib.hid (by
    rcases hr.ins _ (List.mem_singleton.2 rfl) with h | ⟨g, off, ha, _, _, _, _, hc⟩
    · exact .inl h
    · exact .inr ⟨g, off, ha, hc⟩)
  have HOut : Hid (Seq w1 oa 1 (ints [1])) := Lib.hid (by
    obtain ⟨g, cap, hv, _, _, _, hc⟩ := owns_shape hr.oown (by simp)
    injection hv with hv
    exact .inr ⟨g, 0, hv, fun i hi => by rw [Nat.zero_add]; exact hc i hi⟩)
  have HB : Hid (Below w.heap.size w w1) := Lib.hid ((live_below w).trans (hbl.mono (by omega)))
  clear hr hc hbl
  go_wp2_with fail
  have hb1 : Below w1.heap.size w1 ((w1.alloc (Obj.cells #[Value.int IntKind.i64 1, Value.slice (some ⟨g, 0, none⟩) 1 cap, Value.slice oa 1 oc] 31)).alloc (Obj.cells #[Value.int IntKind.i64 0, Value.int IntKind.i64 1] 3)) := ((Below.refl _ _).alloc (Nat.le_refl _) _).alloc (by simp) _
  refine (sameInts _ ia (some ⟨w1.heap.size + 1, 0, none⟩) 2 ic 2 2 [0, 1] [0, 1] rfl rfl (by simp) (by simp) (HIn.out.below hb1 (Nat.le_refl _)) (.inr ⟨w1.heap.size + 1, 0, rfl, fun i hi => ?_⟩)).mono ?_
  · match i, hi with
    | 0, _ => exact cell_top _ _ _ _ _ _ (by simp) rfl
    | 1, _ => exact cell_top _ _ _ _ _ _ (by simp) rfl
  rintro e w2 ⟨rfl, hb2⟩
  have hb2 := hb2.mono (show w1.heap.size + 2 ≤ _ by simp)
  have k2 : w2.cell? ⟨w1.heap.size, 2, none⟩ = some (Value.slice oa 1 oc) := (hb2.cell (p := ⟨_, _, none⟩) (by simp only; omega)).trans (cell_alloc _ (cell_top _ _ _ _ _ _ rfl rfl))
  have HB2 := Lib.hid (hb1.trans (hb2.mono (by omega)))
  clear hb1 hb2
  simp only [decide_true]
  go_wp2_with fail
  refine (sameInts _ oa (some ⟨w2.heap.size, 0, none⟩) 1 oc 1 1 [1] [1] rfl rfl (by simp) (by simp) ((HOut.out.below HB2.out (Nat.le_refl _)).below ((Below.refl _ _).alloc (Nat.le_refl _) _) (Nat.le_refl _)) (.inr ⟨w2.heap.size, 0, rfl, fun i hi => ?_⟩)).mono ?_
  · match i, hi with
    | 0, _ => exact cell_top _ _ _ _ _ _ (by simp) rfl
  rintro e w3 ⟨rfl, hb3⟩
  have HB3 := Lib.hid (HB.out.trans ((HB2.out.mono (by omega)).trans ((((Below.refl _ _).alloc (Nat.le_refl w2.heap.size) _).trans (hb3.mono (by simp))).mono (by have := HB2.out.size; have := HB.out.size; omega))))
  clear hb3
  simp only [decide_true]
  go_wp2
  go_ret
  exact ⟨rfl, HB3.out⟩
end Go.Proofs.Ytibimdhmfchcoaa

