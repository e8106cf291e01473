/- Where an event goes (BinarySearchFunc), and a queue's events once more (Clone). -/
import Derived.Test.YtbhbebidkeejbaaQ4
namespace Go.Proofs.Ytbhbebidkeejbaa
open Go.RowKit Go.Shelf
set_option linter.unusedVariables false
set_option linter.unusedSimpArgs false

set_option maxRecDepth 100000 in
set_option maxHeartbeats 4000000 in
theorem cmp30 (w : World) (x : EvV) (y : WhenV) : Calls Try.prog 30 #[x.val, y.val] w fun e w' => e = .returned (.int .i64 (cmpW x.when y)) ∧ Below w.heap.size w w' := by
  obtain ⟨xt, xd, xn, xs, xv⟩ := x
  obtain ⟨yt, yd, yn⟩ := y
  obtain ⟨H, hH⟩ : ∃ h, h = w.heap.size := ⟨_, rfl⟩
  obtain ⟨w1, hw1⟩ : ∃ W, W = (w.alloc (Obj.cells #[Value.int .i64 xt, Value.int .i64 xd, Value.int .i64 xn, Value.int .i64 xs, Value.int .u64 xv] 35)).alloc (Obj.cells #[Value.int .i64 yt, Value.int .i64 yd, Value.int .i64 yn] 54) := ⟨_, rfl⟩
  have r0 : w1.cell? ⟨H, 0, none⟩ = some (.int .i64 xt) := by rw [hw1, hH]; exact cell_alloc _ (by simp)
  have r1 : w1.cell? ⟨H, 1, none⟩ = some (.int .i64 xd) := by rw [hw1, hH]; exact cell_alloc _ (by simp)
  have r2 : w1.cell? ⟨H, 2, none⟩ = some (.int .i64 xn) := by rw [hw1, hH]; exact cell_alloc _ (by simp)
  have r3 : w1.cell? ⟨H, 3, none⟩ = some (.int .i64 xs) := by rw [hw1, hH]; exact cell_alloc _ (by simp)
  have r4 : w1.cell? ⟨H, 4, none⟩ = some (.int .u64 xv) := by rw [hw1, hH]; exact cell_alloc _ (by simp)
  have u0 : w1.cell? ⟨H + 1, 0, none⟩ = some (.int .i64 yt) := by rw [hw1, hH]; simp
  have u1 : w1.cell? ⟨H + 1, 1, none⟩ = some (.int .i64 yd) := by rw [hw1, hH]; simp
  have u2 : w1.cell? ⟨H + 1, 2, none⟩ = some (.int .i64 yn) := by rw [hw1, hH]; simp
  have HX1 : Hid (Below w.heap.size w w1) := Lib.hid (by rw [hw1]; exact ((Below.refl _ _).alloc (Nat.le_refl _) _).alloc (by simp) _)
  have HW1 := Lib.hid hw1
  have HHH := Lib.hid hH
  clear hw1 hH
  go_enter Try.func30, Try.ntmps30
  go_wp2_with fail
  rw [← HW1.out, ← HHH.out]
  refine wp_region_held_drew (S := fun w' => w'.cell? ⟨H, 0, none⟩ = some (.int .i64 xt) ∧ w'.cell? ⟨H, 1, none⟩ = some (.int .i64 xd) ∧ w'.cell? ⟨H, 2, none⟩ = some (.int .i64 xn) ∧ w'.cell? ⟨H, 3, none⟩ = some (.int .i64 xs) ∧ w'.cell? ⟨H, 4, none⟩ = some (.int .u64 xv) ∧ w'.cell? ⟨H + 1, 0, none⟩ = some (.int .i64 yt) ∧ w'.cell? ⟨H + 1, 1, none⟩ = some (.int .i64 yd) ∧ w'.cell? ⟨H + 1, 2, none⟩ = some (.int .i64 yn)) (by kernel_rfl) (⟨r0, r1, r2, r3, r4, u0, u1, u2⟩) (fun hHeld => ?_)
  refine wpAnyH_take (i := 0) (v := ?_) (by simp only [List.getElem?_toArray, List.getElem?_cons_succ, List.getElem?_cons_zero]; rfl) (by kernel_rfl) (by kernel_rfl) (by kernel_rfl) (by intro _ _ _ h; exact h) (Or.inl ⟨by rfl, ?_⟩) (by assumption) ?_
  rotate_left
  · intro w hSw; (try dsimp only at hSw); go_simp; try with_reducible rfl
  try simp only [Act.put, List.setIfInBounds_toArray, List.set_cons_zero, List.set_cons_succ]
  refine wpAnyH_take (i := 2) (v := ?_) (by simp only [List.getElem?_toArray, List.getElem?_cons_succ, List.getElem?_cons_zero]; rfl) (by kernel_rfl) (by kernel_rfl) (by kernel_rfl) (by intro _ _ _ h; exact h) (Or.inl ⟨by rfl, ?_⟩) (by assumption) ?_
  rotate_left
  · intro w hSw; (try dsimp only at hSw); go_simp; try with_reducible rfl
  try simp only [Act.put, List.setIfInBounds_toArray, List.set_cons_zero, List.set_cons_succ]
  refine wpAnyH_ready (rs := [1]) (by kernel_rfl) (by simp) ?_
  refine AllReadyH.cons (o := _) (by simp only [List.getElem?_toArray, List.getElem?_cons_succ, List.getElem?_cons_zero]; rfl) (fun K hK => ?_) AllReadyH.nil
  go_simp
  go_at_call 29
  refine Calls.mono (of29 w1.drew ⟨xt, xd, xn, xs, xv⟩) ?_
  rintro e w7 ⟨rfl, hb7⟩
  have hk7 : ∀ {b o : Nat} {v : Value}, w1.cell? ⟨b, o, none⟩ = some v → w7.cell? ⟨b, o, none⟩ = some v := fun h => (hb7.cell (p := ⟨_, _, none⟩) (World.block_lt_of_cell? w1 _ h)).trans h
  have HB7 : Hid (Below w1.heap.size w1 w7) := Lib.hid ((Below.refl _ _).drew.trans hb7)
  clear hb7
  go_simp
  refine hK.out _ _ (by exact ⟨hk7 r0, hk7 r1, hk7 r2, hk7 r3, hk7 r4, hk7 u0, hk7 u1, hk7 u2⟩) (fun hHeld => ?_)
  clear hK K
  try simp only [Act.put, List.setIfInBounds_toArray, List.set_cons_zero, List.set_cons_succ]
  refine wpAnyH_ready (rs := [3]) (by kernel_rfl) (by simp) ?_
  refine AllReadyH.cons (o := _) (by simp only [List.getElem?_toArray, List.getElem?_cons_succ, List.getElem?_cons_zero]; rfl) (fun K hK => ?_) AllReadyH.nil
  go_simp
  go_at_call 26
  refine Calls.mono (compare26 w7 ⟨xt, xd, xn⟩ ⟨yt, yd, yn⟩) ?_
  rintro e w8 ⟨rfl, hb8⟩
  have hk8 : ∀ {b o : Nat} {v : Value}, w1.cell? ⟨b, o, none⟩ = some v → w8.cell? ⟨b, o, none⟩ = some v := fun h => (hb8.cell (p := ⟨_, _, none⟩) (World.block_lt_of_cell? w7 _ (hk7 h))).trans (hk7 h)
  have HB8 : Hid (Below w1.heap.size w1 w8) := Lib.hid (HB7.out.trans (hb8.mono HB7.out.size))
  clear hb8
  go_simp
  refine hK.out _ _ (by exact ⟨hk8 r0, hk8 r1, hk8 r2, hk8 r3, hk8 r4, hk8 u0, hk8 u1, hk8 u2⟩) (fun hHeld => ?_)
  clear hK K
  try simp only [Act.put, List.setIfInBounds_toArray, List.set_cons_zero, List.set_cons_succ]
  refine wpAnyH_take (i := 4) (v := ?_) (by simp only [List.getElem?_toArray, List.getElem?_cons_succ, List.getElem?_cons_zero]; rfl) (by kernel_rfl) (by kernel_rfl) (by kernel_rfl) (by intro _ _ _ h; exact h) (Or.inl ⟨by rfl, ?_⟩) (by assumption) ?_
  rotate_left
  · intro w hSw; (try dsimp only at hSw); go_simp; try with_reducible rfl
  try simp only [Act.put, List.setIfInBounds_toArray, List.set_cons_zero, List.set_cons_succ]
  refine wpAnyH_done (by kernel_rfl) ?_ _
  go_wp2_with fail
  go_ret
  exact ⟨rfl, HX1.out.trans (HB8.out.mono HX1.out.size)⟩

/-- How many events of a list are ahead of a time, a delta and a number. -/
def posL (l : List EvV) (y : WhenV) : Nat := (l.takeWhile (fun e => decide (ltW e.when y))).length
theorem posL_of (l : List EvV) (y : WhenV) (p : Nat) (hp : p ≤ l.length) (h : ∀ j, j < p → ltW (l.getD j default).when y) (hn : p < l.length → ¬ ltW (l.getD p default).when y) : posL l y = p := by
  unfold posL
  induction l generalizing p with
  | nil => simp at hp; simp [hp]
  | cons x l ih =>
    cases p with
    | zero =>
      have := hn (by simp)
      rw [List.takeWhile_cons, if_neg (by simpa using this)]; rfl
    | succ p =>
      have h0 := h 0 (by omega)
      rw [List.takeWhile_cons, if_pos (by simpa using h0), List.length_cons, ih p (by simpa using hp) (fun j hj => by simpa using h (j + 1) (by omega)) (fun hl => by simpa using hn (by simpa using hl))]
def SortedL (l : List EvV) : Prop := ∀ i j, i < j → j < l.length → ltW (l.getD i default).when (l.getD j default).when
theorem sorted_of (l : List EvV) (h : ∀ i, i + 1 < l.length → ltW (l.getD i default).when (l.getD (i + 1) default).when) : SortedL l := by
  intro i j hij hj
  induction j with
  | zero => omega
  | succ j ih =>
    by_cases e : i = j
    · subst e; exact h i hj
    · exact ltW_trans (ih (by omega) (by omega)) (h j hj)
end Go.Proofs.Ytbhbebidkeejbaa
