/- A thing's box reaches to a tile. -/
import Derived.Test.YtholafodachjnaaZ14
import Derived.Test.YtholafodachjnaaLX
namespace Go.Proofs.Ytholafodachjnaa
open Go.RowKit Go.Shelf
set_option linter.unusedVariables false
set_option linter.unusedSimpArgs false

theorem wrapSmall {x : Int} (h0 : 0 ≤ x) (h1 : x ≤ 1000000) : IntKind.i64.wrap x = x := by
  obtain ⟨n, rfl⟩ : ∃ n : Nat, x = (n : Int) := ⟨x.toNat, by omega⟩
  exact Lib.wrap_i64_small n (by omega)
/-- Two spans, side by side. -/
abbrev upd6 (f : Nat → Value) (o : Nat) (sx sy : SpanV) : Nat → Value := upd3 (upd3 f o sx) (o + 3) sy
theorem upd3_at (f : Nat → Value) (o j : Nat) (s : SpanV) (h : o + 3 ≤ j) : upd3 f o s j = f j := by
  unfold upd3
  rw [if_neg (by omega), if_neg (by omega), if_neg (by omega)]
structure SpansAt (f : Nat → Value) (o : Nat) (sx sy : SpanV) : Prop where
  x0 : f o = .bool sx.some
  x1 : f (o + 1) = .int .i64 sx.low
  x2 : f (o + 2) = .int .i64 sx.high
  y0 : f (o + 3) = .bool sy.some
  y1 : f (o + 3 + 1) = .int .i64 sy.low
  y2 : f (o + 3 + 2) = .int .i64 sy.high
/-- How a box's block reads, once one more is met. -/
def Met (w : World) (B N o : Nat) (t : TypeId) (f : Nat → Value) (sx sy : SpanV) (w' : World) : Prop := w'.rowIs B t N (upd6 f o sx sy) ∧ w.grownBy w' (some B)
set_option maxRecDepth 100000 in
set_option maxHeartbeats 2000000 in
theorem tile51 (w : World) (a : ArchV) (P : PackV) (S : SpotV) (B N o : Nat) (t : TypeId) (f : Nat → Value) (sx sy : SpanV) (n : Int) (hr : w.rowIs B t N f) (ho : o + 6 ≤ N) (hf : SpansAt f o sx sy)
    (hw : 1 ≤ a.w ∧ a.w ≤ 16) (hn : 0 ≤ n ∧ n ≤ 1000) :
    Calls Try.prog 51 #[planVal a P S, .pointer (some ⟨B, o, none⟩), .int .i64 n] w fun e w' => e = .returned (.tuple #[]) ∧ Met w B N o t f (sx.meet (tileX a n)) (sy.meet (tileY a n)) w' := by
  obtain ⟨aw, ah, at_⟩ := a
  obtain ⟨pi, pa, pc, pb, qa, qc, qb⟩ := P
  obtain ⟨ba, bc, bs, ia, ic, is, oa, oc, os⟩ := S
  unfold planVal tileX tileY
  dsimp only at hw ⊢
  have hB := hr.lt
  obtain ⟨H, hH⟩ : ∃ h, h = w.heap.size := ⟨_, rfl⟩
  obtain ⟨w1, hw1⟩ : ∃ W, W = w.alloc (.cells #[.int .i64 aw, .int .i64 ah, .int .i64 at_, .int .i64 pi, .slice pa pb.length pc, .slice qa qb.length qc, .slice ba bs.length bc, .slice ia is.length ic, .slice oa os.length oc] 53) := ⟨_, rfl⟩
  have a0 : w1.cell? ⟨H, 0, none⟩ = some (.int .i64 aw) := by rw [hw1, hH]; simp
  have hr1 := hr.alloc (.cells #[.int .i64 aw, .int .i64 ah, .int .i64 at_, .int .i64 pi, .slice pa pb.length pc, .slice qa qb.length qc, .slice ba bs.length bc, .slice ia is.length ic, .slice oa os.length oc] 53)
  rw [← hw1] at hr1
  have g1 : w.grownBy w1 (some B) := by rw [hw1]; exact grown_alloc (World.grownBy.refl _ _) _
  have h1 : H < w1.heap.size := by rw [hw1, hH]; simp
  have hBH : H ≠ B := by omega
  have C1 : Hid (∀ x, Calls Try.prog 63 #[.pointer (some ⟨B, o, none⟩), .int .i64 x] w1.drew fun e w' => e = .returned (.tuple #[]) ∧ w'.rowIs B t N (upd3 f o (sx.meet x)) ∧ w.grownBy w' (some B) ∧ w'.cell? ⟨H, 0, none⟩ = some (.int .i64 aw)) := Lib.hid fun x => Calls.mono (meet63 w1.drew B N o t f sx x hr1.drew (by omega) hf.x0 hf.x1 hf.x2) (by
    rintro e w' ⟨rfl, h2, h3⟩
    exact ⟨rfl, h2, grown_trans (grown_drew g1) h3, (h3.cell_far ⟨H, 0, none⟩ h1 (by simp; exact hBH)).trans a0⟩)
  have C2 : Hid (∀ W x s, W.rowIs B t N (upd3 f o s) → w.grownBy W (some B) → W.cell? ⟨H, 0, none⟩ = some (.int .i64 aw) → Calls Try.prog 63 #[.pointer (some ⟨B, o + 3, none⟩), .int .i64 x] W fun e w' => e = .returned (.tuple #[]) ∧ Met w B N o t f s (sy.meet x) w' ∧ w'.cell? ⟨H, 0, none⟩ = some (.int .i64 aw)) := Lib.hid fun W x s hW gW cW => Calls.mono (meet63 W B N (o + 3) t _ sy x hW (by omega) (by rw [upd3_at _ _ _ _ (by omega)]; exact hf.y0) (by rw [upd3_at _ _ _ _ (by omega)]; exact hf.y1) (by rw [upd3_at _ _ _ _ (by omega)]; exact hf.y2)) (by
    rintro e w' ⟨rfl, h2, h3⟩
    exact ⟨rfl, ⟨h2, grown_trans gW h3⟩, (h3.cell_far ⟨H, 0, none⟩ (World.block_lt_of_cell? W _ cW) (by simp; exact hBH)).trans cW⟩)
  have hd0 : (aw == 0) = false := by simp; omega
  have hd1 : ¬ aw = 0 := by omega
  obtain ⟨r, hr0⟩ : ∃ r, r = n.tmod aw := ⟨_, rfl⟩
  obtain ⟨q, hq0⟩ : ∃ q, q = n.tdiv aw := ⟨_, rfl⟩
  have hrm : n.tmod aw = r := hr0.symm
  have hqd : n.tdiv aw = q := hq0.symm
  have er : n % aw = r := by rw [hr0, Int.tmod_eq_emod_of_nonneg hn.1]
  have eq_ : n / aw = q := by rw [hq0, Int.tdiv_eq_ediv_of_nonneg hn.1]
  have br : 0 ≤ r ∧ r < aw := by rw [← er]; exact ⟨Int.emod_nonneg _ hd1, Int.emod_lt_of_pos _ (by omega)⟩
  have bq : 0 ≤ q ∧ q ≤ 1000 := by
    rw [← eq_]
    exact ⟨Int.ediv_nonneg hn.1 (by omega), Int.le_trans (Int.ediv_le_self _ hn.1) hn.2⟩
  have HX : Hid (IntKind.i64.wrap (2 * r) = 2 * r ∧ IntKind.i64.wrap (2 * r + 1) = 2 * r + 1) := Lib.hid ⟨wrapSmall (by omega) (by omega), wrapSmall (by omega) (by omega)⟩
  have HY : Hid (IntKind.i64.wrap (2 * q) = 2 * q ∧ IntKind.i64.wrap (2 * q + 1) = 2 * q + 1 ∧ IntKind.i64.wrap q = q) := Lib.hid ⟨wrapSmall (by omega) (by omega), wrapSmall (by omega) (by omega), wrapSmall (by omega) (by omega)⟩
  rw [er, eq_]
  have HW1 := Lib.hid hw1
  have HHH := Lib.hid hH
  clear hr hr1 g1 h1 hBH hB hf hw hn hr0 hq0 er eq_ br bq hw1 hH
  go_enter Try.func51, Try.ntmps51
  go_wp2_with fail
  rw [← HW1.out]
  (try rw [← HHH.out])
  refine wp_region_held_drew (S := fun w' => w'.cell? ⟨H, 0, none⟩ = some (.int .i64 aw)) (by kernel_rfl) (a0) (fun hHeld => ?_)
  refine wpAnyH_take (i := 0) (v := ?_) (by simp only [List.getElem?_toArray, List.getElem?_cons_succ, List.getElem?_cons_zero]; rfl) (by kernel_rfl) (by kernel_rfl) (by kernel_rfl) (by intro _ _ _ h; exact h) (Or.inl ⟨by rfl, ?_⟩) (by assumption) ?_
  rotate_left
  · intro w hSw; (try dsimp only at hSw); go_simp; try with_reducible rfl
  try simp only [Act.put, List.setIfInBounds_toArray, List.set_cons_zero, List.set_cons_succ]
  refine wpAnyH_take (i := 1) (v := ?_) (by simp only [List.getElem?_toArray, List.getElem?_cons_succ, List.getElem?_cons_zero]; rfl) (by kernel_rfl) (by kernel_rfl) (by kernel_rfl) (by intro _ _ _ h; exact h) (Or.inl ⟨by rfl, ?_⟩) (by assumption) ?_
  rotate_left
  · intro w hSw; (try dsimp only at hSw); go_simp; try with_reducible rfl
  try simp only [Act.put, List.setIfInBounds_toArray, List.set_cons_zero, List.set_cons_succ]
  refine wpAnyH_take (i := 2) (v := ?_) (by simp only [List.getElem?_toArray, List.getElem?_cons_succ, List.getElem?_cons_zero]; rfl) (by kernel_rfl) (by kernel_rfl) (by kernel_rfl) (by intro _ _ _ h; exact h) (Or.inl ⟨by rfl, ?_⟩) (by assumption) ?_
  rotate_left
  · intro w hSw; (try dsimp only at hSw); go_simp; try with_reducible rfl
  try simp only [Act.put, List.setIfInBounds_toArray, List.set_cons_zero, List.set_cons_succ]
  refine wpAnyH_take (i := 3) (v := ?_) (by simp only [List.getElem?_toArray, List.getElem?_cons_succ, List.getElem?_cons_zero]; rfl) (by kernel_rfl) (by kernel_rfl) (by kernel_rfl) (by intro _ _ _ h; exact h) (Or.inl ⟨by rfl, ?_⟩) (by assumption) ?_
  rotate_left
  · intro w hSw; (try dsimp only at hSw); go_simp; try with_reducible rfl
  try simp only [Act.put, List.setIfInBounds_toArray, List.set_cons_zero, List.set_cons_succ]
  refine wpAnyH_take (i := 4) (v := ?_) (by simp only [List.getElem?_toArray, List.getElem?_cons_succ, List.getElem?_cons_zero]; rfl) (by kernel_rfl) (by kernel_rfl) (by kernel_rfl) (by intro _ _ _ h; exact h) (Or.inl ⟨by rfl, ?_⟩) (by assumption) ?_
  rotate_left
  · intro w hSw; (try dsimp only at hSw); go_simp; try with_reducible rfl
  try simp only [Act.put, List.setIfInBounds_toArray, List.set_cons_zero, List.set_cons_succ]
  refine wpAnyH_take (i := 5) (v := ?_) (by simp only [List.getElem?_toArray, List.getElem?_cons_succ, List.getElem?_cons_zero]; rfl) (by kernel_rfl) (by kernel_rfl) (by kernel_rfl) (by intro _ _ _ h; exact h) (Or.inl ⟨by rfl, ?_⟩) (by assumption) ?_
  rotate_left
  · intro w hSw; (try dsimp only at hSw); go_simp; try with_reducible rfl
  try simp only [Act.put, List.setIfInBounds_toArray, List.set_cons_zero, List.set_cons_succ]
  refine wpAnyH_take (i := 6) (v := ?_) (by simp only [List.getElem?_toArray, List.getElem?_cons_succ, List.getElem?_cons_zero]; rfl) (by kernel_rfl) (by kernel_rfl) (by kernel_rfl) (by intro _ _ _ h; exact h) (Or.inl ⟨by rfl, ?_⟩) (by assumption) ?_
  rotate_left
  · intro w hSw; (try dsimp only at hSw); go_simp; try with_reducible rfl
  try simp only [Act.put, List.setIfInBounds_toArray, List.set_cons_zero, List.set_cons_succ]
  refine wpAnyH_take (i := 7) (v := ?_) (by simp only [List.getElem?_toArray, List.getElem?_cons_succ, List.getElem?_cons_zero]; rfl) (by kernel_rfl) (by kernel_rfl) (by kernel_rfl) (by intro _ _ _ h; exact h) (Or.inl ⟨by rfl, ?_⟩) (by assumption) ?_
  rotate_left
  · intro w hSw; (try dsimp only at hSw); go_simp; try with_reducible rfl
  try simp only [Act.put, List.setIfInBounds_toArray, List.set_cons_zero, List.set_cons_succ]
  refine wpAnyH_take (i := 8) (v := ?_) (by simp only [List.getElem?_toArray, List.getElem?_cons_succ, List.getElem?_cons_zero]; rfl) (by kernel_rfl) (by kernel_rfl) (by kernel_rfl) (by intro _ _ _ h; exact h) (Or.inl ⟨by rfl, ?_⟩) (by assumption) ?_
  rotate_left
  · intro w hSw; (try dsimp only at hSw); go_simp; rw [HX.out.1]
  try simp only [Act.put, List.setIfInBounds_toArray, List.set_cons_zero, List.set_cons_succ]
  refine wpAnyH_take (i := 9) (v := ?_) (by simp only [List.getElem?_toArray, List.getElem?_cons_succ, List.getElem?_cons_zero]; rfl) (by kernel_rfl) (by kernel_rfl) (by kernel_rfl) (by intro _ _ _ h; exact h) (Or.inl ⟨by rfl, ?_⟩) (by assumption) ?_
  rotate_left
  · intro w hSw; (try dsimp only at hSw); go_simp; rw [HX.out.2]
  try simp only [Act.put, List.setIfInBounds_toArray, List.set_cons_zero, List.set_cons_succ]
  refine wpAnyH_ready (rs := [10]) (by kernel_rfl) (by simp) ?_
  refine AllReadyH.cons (o := _) (by simp only [List.getElem?_toArray, List.getElem?_cons_succ, List.getElem?_cons_zero]; rfl) (fun K hK => ?_) AllReadyH.nil
  go_simp
  go_at_call 63
  refine Calls.mono (C1.out _) ?_
  rintro e w2 ⟨rfl, hr2, hg2, b0⟩
  have HR2 := Lib.hid (And.intro hr2 hg2)
  clear hr2 hg2
  go_simp
  refine hK.out _ _ (by exact b0) (fun hHeld => ?_)
  clear hK K
  try simp only [Act.put, List.setIfInBounds_toArray, List.set_cons_zero, List.set_cons_succ]
  refine wpAnyH_done (by kernel_rfl) ?_ _
  go_wp2_with fail
  refine wp_region_held_drew (S := fun w' => w'.cell? ⟨H, 0, none⟩ = some (.int .i64 aw)) (by kernel_rfl) (b0) (fun hHeld => ?_)
  refine wpAnyH_take (i := 0) (v := ?_) (by simp only [List.getElem?_toArray, List.getElem?_cons_succ, List.getElem?_cons_zero]; rfl) (by kernel_rfl) (by kernel_rfl) (by kernel_rfl) (by intro _ _ _ h; exact h) (Or.inl ⟨by rfl, ?_⟩) (by assumption) ?_
  rotate_left
  · intro w hSw; (try dsimp only at hSw); go_simp; try with_reducible rfl
  try simp only [Act.put, List.setIfInBounds_toArray, List.set_cons_zero, List.set_cons_succ]
  refine wpAnyH_take (i := 1) (v := ?_) (by simp only [List.getElem?_toArray, List.getElem?_cons_succ, List.getElem?_cons_zero]; rfl) (by kernel_rfl) (by kernel_rfl) (by kernel_rfl) (by intro _ _ _ h; exact h) (Or.inl ⟨by rfl, ?_⟩) (by assumption) ?_
  rotate_left
  · intro w hSw; (try dsimp only at hSw); go_simp; try with_reducible rfl
  try simp only [Act.put, List.setIfInBounds_toArray, List.set_cons_zero, List.set_cons_succ]
  refine wpAnyH_take (i := 2) (v := ?_) (by simp only [List.getElem?_toArray, List.getElem?_cons_succ, List.getElem?_cons_zero]; rfl) (by kernel_rfl) (by kernel_rfl) (by kernel_rfl) (by intro _ _ _ h; exact h) (Or.inl ⟨by rfl, ?_⟩) (by assumption) ?_
  rotate_left
  · intro w hSw; (try dsimp only at hSw); go_simp; try with_reducible rfl
  try simp only [Act.put, List.setIfInBounds_toArray, List.set_cons_zero, List.set_cons_succ]
  refine wpAnyH_take (i := 3) (v := ?_) (by simp only [List.getElem?_toArray, List.getElem?_cons_succ, List.getElem?_cons_zero]; rfl) (by kernel_rfl) (by kernel_rfl) (by kernel_rfl) (by intro _ _ _ h; exact h) (Or.inl ⟨by rfl, ?_⟩) (by assumption) ?_
  rotate_left
  · intro w hSw; (try dsimp only at hSw); go_simp; try with_reducible rfl
  try simp only [Act.put, List.setIfInBounds_toArray, List.set_cons_zero, List.set_cons_succ]
  refine wpAnyH_take (i := 4) (v := ?_) (by simp only [List.getElem?_toArray, List.getElem?_cons_succ, List.getElem?_cons_zero]; rfl) (by kernel_rfl) (by kernel_rfl) (by kernel_rfl) (by intro _ _ _ h; exact h) (Or.inl ⟨by rfl, ?_⟩) (by assumption) ?_
  rotate_left
  · intro w hSw; (try dsimp only at hSw); go_simp; try with_reducible rfl
  try simp only [Act.put, List.setIfInBounds_toArray, List.set_cons_zero, List.set_cons_succ]
  refine wpAnyH_take (i := 5) (v := ?_) (by simp only [List.getElem?_toArray, List.getElem?_cons_succ, List.getElem?_cons_zero]; rfl) (by kernel_rfl) (by kernel_rfl) (by kernel_rfl) (by intro _ _ _ h; exact h) (Or.inl ⟨by rfl, ?_⟩) (by assumption) ?_
  rotate_left
  · intro w hSw; (try dsimp only at hSw); go_simp; try with_reducible rfl
  try simp only [Act.put, List.setIfInBounds_toArray, List.set_cons_zero, List.set_cons_succ]
  refine wpAnyH_take (i := 6) (v := ?_) (by simp only [List.getElem?_toArray, List.getElem?_cons_succ, List.getElem?_cons_zero]; rfl) (by kernel_rfl) (by kernel_rfl) (by kernel_rfl) (by intro _ _ _ h; exact h) (Or.inl ⟨by rfl, ?_⟩) (by assumption) ?_
  rotate_left
  · intro w hSw; (try dsimp only at hSw); go_simp; try with_reducible rfl
  try simp only [Act.put, List.setIfInBounds_toArray, List.set_cons_zero, List.set_cons_succ]
  refine wpAnyH_take (i := 7) (v := ?_) (by simp only [List.getElem?_toArray, List.getElem?_cons_succ, List.getElem?_cons_zero]; rfl) (by kernel_rfl) (by kernel_rfl) (by kernel_rfl) (by intro _ _ _ h; exact h) (Or.inl ⟨by rfl, ?_⟩) (by assumption) ?_
  rotate_left
  · intro w hSw; (try dsimp only at hSw); go_simp; rw [HY.out.2.2]
  try simp only [Act.put, List.setIfInBounds_toArray, List.set_cons_zero, List.set_cons_succ]
  refine wpAnyH_take (i := 8) (v := ?_) (by simp only [List.getElem?_toArray, List.getElem?_cons_succ, List.getElem?_cons_zero]; rfl) (by kernel_rfl) (by kernel_rfl) (by kernel_rfl) (by intro _ _ _ h; exact h) (Or.inl ⟨by rfl, ?_⟩) (by assumption) ?_
  rotate_left
  · intro w hSw; (try dsimp only at hSw); go_simp; rw [HY.out.1]
  try simp only [Act.put, List.setIfInBounds_toArray, List.set_cons_zero, List.set_cons_succ]
  refine wpAnyH_take (i := 9) (v := ?_) (by simp only [List.getElem?_toArray, List.getElem?_cons_succ, List.getElem?_cons_zero]; rfl) (by kernel_rfl) (by kernel_rfl) (by kernel_rfl) (by intro _ _ _ h; exact h) (Or.inl ⟨by rfl, ?_⟩) (by assumption) ?_
  rotate_left
  · intro w hSw; (try dsimp only at hSw); go_simp; rw [HY.out.2.1]
  try simp only [Act.put, List.setIfInBounds_toArray, List.set_cons_zero, List.set_cons_succ]
  refine wpAnyH_ready (rs := [10]) (by kernel_rfl) (by simp) ?_
  refine AllReadyH.cons (o := _) (by simp only [List.getElem?_toArray, List.getElem?_cons_succ, List.getElem?_cons_zero]; rfl) (fun K hK => ?_) AllReadyH.nil
  go_simp
  go_at_call 63
  refine Calls.mono (C2.out _ _ _ HR2.out.1.drew (grown_drew HR2.out.2) b0) ?_
  rintro e w3 ⟨rfl, hm3, d0⟩
  have HM := Lib.hid hm3
  clear hm3
  go_simp
  refine hK.out _ _ (by exact d0) (fun hHeld => ?_)
  clear hK K
  try simp only [Act.put, List.setIfInBounds_toArray, List.set_cons_zero, List.set_cons_succ]
  refine wpAnyH_done (by kernel_rfl) ?_ _
  go_wp2_with fail
  go_end0
  exact ⟨rfl, HM.out⟩
end Go.Proofs.Ytholafodachjnaa
