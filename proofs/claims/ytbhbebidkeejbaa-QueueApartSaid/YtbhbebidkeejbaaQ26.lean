/- Two events that are not of one round may be pushed in either order (QueueApart). -/
import Derived.Test.YtbhbebidkeejbaaP2
import Derived.Test.YtbhbebidkeejbaaOpen
namespace Go.Proofs.Ytbhbebidkeejbaa
open Go.RowKit Go.Shelf
set_option linter.unusedVariables false
set_option linter.unusedSimpArgs false

theorem pushed_three {now delta next : Int} {l : List EvV} {t d sig v : Int} (hn : I64 next) : ∃ (E x y z : Int) (l' : List EvV), E = pushE now delta next l t d sig ∧ l'.length ≤ l.length + 1 ∧ (E = 0 → QOk now delta next l ∧ x = now ∧ y = delta ∧ z = next + 1 ∧ l' = pushL l ⟨t, d, next, sig, v⟩ ∧ QOk x y z l' ∧ I64 z) ∧ I64 z ∧ ∀ W e w', Pushed W now delta next l t d sig v e w' → NewQ W E x y z l' e w' := by
  by_cases h0 : pushE now delta next l t d sig = 0
  · obtain ⟨hok, hd, hs, hx, hg⟩ := push_zero.1 h0
    refine ⟨0, now, delta, next + 1, pushL l ⟨t, d, next, sig, v⟩, h0.symm, by rw [pushL_length]; exact Nat.le_refl _, fun _ => ⟨hok, rfl, rfl, rfl, rfl, hok.push hd hs hg, ?_⟩, ?_, fun W e w' h => by unfold Pushed at h; rw [if_pos h0] at h; exact h⟩
    all_goals (have := hok.x0; exact ⟨by omega, by omega⟩)
  · exact ⟨_, 0, 0, 0, [], rfl, by simp, fun h => absurd h h0, ⟨by decide, by decide⟩, fun W e w' h => by unfold Pushed at h; rw [if_neg h0] at h; exact h⟩
theorem row_cells (w : World) (x y z v : Int) :
    (w.alloc (Obj.cells #[Value.int IntKind.i64 x, Value.int IntKind.i64 y, Value.int IntKind.i64 z, Value.int IntKind.u64 v] 44)).cell? ⟨w.heap.size, 0, none⟩ = some (.int .i64 x) ∧
    (w.alloc (Obj.cells #[Value.int IntKind.i64 x, Value.int IntKind.i64 y, Value.int IntKind.i64 z, Value.int IntKind.u64 v] 44)).cell? ⟨w.heap.size, 1, none⟩ = some (.int .i64 y) ∧
    (w.alloc (Obj.cells #[Value.int IntKind.i64 x, Value.int IntKind.i64 y, Value.int IntKind.i64 z, Value.int IntKind.u64 v] 44)).cell? ⟨w.heap.size, 2, none⟩ = some (.int .i64 z) ∧
    (w.alloc (Obj.cells #[Value.int IntKind.i64 x, Value.int IntKind.i64 y, Value.int IntKind.i64 z, Value.int IntKind.u64 v] 44)).cell? ⟨w.heap.size, 3, none⟩ = some (.int .u64 v) := ⟨by simp, by simp, by simp, by simp⟩
set_option maxRecDepth 100000 in
set_option maxHeartbeats 8000000 in
theorem queueApart (w : World) (Q : QV) (hQ : QAt w Q) (hc : Q.l.length ≤ Q.c) (A : RowV) (hA : RowR A) (B : RowV) (hB : RowR B) :
    Calls Try.prog 8 #[Q.val, A.val, B.val] w fun e w' => e = .returned (.bool true) ∧ Below w.heap.size w w' := by
  obtain ⟨pt, pd, pg, pv⟩ := A
  obtain ⟨qt, qd, qg, qv⟩ := B
  obtain ⟨ipt, ipd, ipg, ipv⟩ := hA
  obtain ⟨iqt, iqd, iqg, iqv⟩ := hB
  dsimp only at ipt ipd ipg ipv iqt iqd iqg iqv
  have HP := Lib.hid (And.intro ipt (And.intro ipd (And.intro ipg ipv)))
  have HQq := Lib.hid (And.intro iqt (And.intro iqd (And.intro iqg iqv)))
  unfold RowV.val
  dsimp only
  clear ipt ipd ipg ipv iqt iqd iqg iqv
  obtain ⟨a, c, l, now, delta, next⟩ := Q
  obtain ⟨h, hq1, hq2, hq3⟩ := hQ
  dsimp only at h hc hq1 hq2 hq3
  obtain ⟨n, hn⟩ : ∃ n, l.length = n := ⟨_, rfl⟩
  unfold QV.val
  dsimp only
  rw [hn] at hc ⊢
  obtain ⟨H, hH⟩ : ∃ h, h = w.heap.size := ⟨_, rfl⟩
  obtain ⟨w1, hw1⟩ : ∃ W, W = ((w.alloc (Obj.cells #[Value.slice a n c, Value.int IntKind.i64 now, Value.int IntKind.i64 delta, Value.int IntKind.i64 next] 24)).alloc (Obj.cells #[Value.int IntKind.i64 pt, Value.int IntKind.i64 pd, Value.int IntKind.i64 pg, Value.int IntKind.u64 pv] 44)).alloc (Obj.cells #[Value.int IntKind.i64 qt, Value.int IntKind.i64 qd, Value.int IntKind.i64 qg, Value.int IntKind.u64 qv] 44) := ⟨_, rfl⟩
  have HX1 : Hid (Below w.heap.size w w1) := Lib.hid (by rw [hw1]; exact (((Below.refl _ _).alloc (Nat.le_refl _) _).alloc (by simp) _).alloc (by simp <;> omega) _)
  have cells : ∀ W : World, W.heap.size = H → (((W.alloc (Obj.cells #[Value.slice a n c, Value.int IntKind.i64 now, Value.int IntKind.i64 delta, Value.int IntKind.i64 next] 24)).alloc (Obj.cells #[Value.int IntKind.i64 pt, Value.int IntKind.i64 pd, Value.int IntKind.i64 pg, Value.int IntKind.u64 pv] 44)).alloc (Obj.cells #[Value.int IntKind.i64 qt, Value.int IntKind.i64 qd, Value.int IntKind.i64 qg, Value.int IntKind.u64 qv] 44)).cell? ⟨H, 0, none⟩ = some (.slice a n c) ∧ (((W.alloc (Obj.cells #[Value.slice a n c, Value.int IntKind.i64 now, Value.int IntKind.i64 delta, Value.int IntKind.i64 next] 24)).alloc (Obj.cells #[Value.int IntKind.i64 pt, Value.int IntKind.i64 pd, Value.int IntKind.i64 pg, Value.int IntKind.u64 pv] 44)).alloc (Obj.cells #[Value.int IntKind.i64 qt, Value.int IntKind.i64 qd, Value.int IntKind.i64 qg, Value.int IntKind.u64 qv] 44)).cell? ⟨H, 1, none⟩ = some (.int .i64 now) ∧ (((W.alloc (Obj.cells #[Value.slice a n c, Value.int IntKind.i64 now, Value.int IntKind.i64 delta, Value.int IntKind.i64 next] 24)).alloc (Obj.cells #[Value.int IntKind.i64 pt, Value.int IntKind.i64 pd, Value.int IntKind.i64 pg, Value.int IntKind.u64 pv] 44)).alloc (Obj.cells #[Value.int IntKind.i64 qt, Value.int IntKind.i64 qd, Value.int IntKind.i64 qg, Value.int IntKind.u64 qv] 44)).cell? ⟨H, 2, none⟩ = some (.int .i64 delta) ∧ (((W.alloc (Obj.cells #[Value.slice a n c, Value.int IntKind.i64 now, Value.int IntKind.i64 delta, Value.int IntKind.i64 next] 24)).alloc (Obj.cells #[Value.int IntKind.i64 pt, Value.int IntKind.i64 pd, Value.int IntKind.i64 pg, Value.int IntKind.u64 pv] 44)).alloc (Obj.cells #[Value.int IntKind.i64 qt, Value.int IntKind.i64 qd, Value.int IntKind.i64 qg, Value.int IntKind.u64 qv] 44)).cell? ⟨H, 3, none⟩ = some (.int .i64 next) ∧ (((W.alloc (Obj.cells #[Value.slice a n c, Value.int IntKind.i64 now, Value.int IntKind.i64 delta, Value.int IntKind.i64 next] 24)).alloc (Obj.cells #[Value.int IntKind.i64 pt, Value.int IntKind.i64 pd, Value.int IntKind.i64 pg, Value.int IntKind.u64 pv] 44)).alloc (Obj.cells #[Value.int IntKind.i64 qt, Value.int IntKind.i64 qd, Value.int IntKind.i64 qg, Value.int IntKind.u64 qv] 44)).cell? ⟨H + 1, 0, none⟩ = some (.int .i64 pt) ∧ (((W.alloc (Obj.cells #[Value.slice a n c, Value.int IntKind.i64 now, Value.int IntKind.i64 delta, Value.int IntKind.i64 next] 24)).alloc (Obj.cells #[Value.int IntKind.i64 pt, Value.int IntKind.i64 pd, Value.int IntKind.i64 pg, Value.int IntKind.u64 pv] 44)).alloc (Obj.cells #[Value.int IntKind.i64 qt, Value.int IntKind.i64 qd, Value.int IntKind.i64 qg, Value.int IntKind.u64 qv] 44)).cell? ⟨H + 1, 1, none⟩ = some (.int .i64 pd) ∧ (((W.alloc (Obj.cells #[Value.slice a n c, Value.int IntKind.i64 now, Value.int IntKind.i64 delta, Value.int IntKind.i64 next] 24)).alloc (Obj.cells #[Value.int IntKind.i64 pt, Value.int IntKind.i64 pd, Value.int IntKind.i64 pg, Value.int IntKind.u64 pv] 44)).alloc (Obj.cells #[Value.int IntKind.i64 qt, Value.int IntKind.i64 qd, Value.int IntKind.i64 qg, Value.int IntKind.u64 qv] 44)).cell? ⟨H + 1, 2, none⟩ = some (.int .i64 pg) ∧ (((W.alloc (Obj.cells #[Value.slice a n c, Value.int IntKind.i64 now, Value.int IntKind.i64 delta, Value.int IntKind.i64 next] 24)).alloc (Obj.cells #[Value.int IntKind.i64 pt, Value.int IntKind.i64 pd, Value.int IntKind.i64 pg, Value.int IntKind.u64 pv] 44)).alloc (Obj.cells #[Value.int IntKind.i64 qt, Value.int IntKind.i64 qd, Value.int IntKind.i64 qg, Value.int IntKind.u64 qv] 44)).cell? ⟨H + 1, 3, none⟩ = some (.int .u64 pv) ∧ (((W.alloc (Obj.cells #[Value.slice a n c, Value.int IntKind.i64 now, Value.int IntKind.i64 delta, Value.int IntKind.i64 next] 24)).alloc (Obj.cells #[Value.int IntKind.i64 pt, Value.int IntKind.i64 pd, Value.int IntKind.i64 pg, Value.int IntKind.u64 pv] 44)).alloc (Obj.cells #[Value.int IntKind.i64 qt, Value.int IntKind.i64 qd, Value.int IntKind.i64 qg, Value.int IntKind.u64 qv] 44)).cell? ⟨H + 1 + 1, 0, none⟩ = some (.int .i64 qt) ∧ (((W.alloc (Obj.cells #[Value.slice a n c, Value.int IntKind.i64 now, Value.int IntKind.i64 delta, Value.int IntKind.i64 next] 24)).alloc (Obj.cells #[Value.int IntKind.i64 pt, Value.int IntKind.i64 pd, Value.int IntKind.i64 pg, Value.int IntKind.u64 pv] 44)).alloc (Obj.cells #[Value.int IntKind.i64 qt, Value.int IntKind.i64 qd, Value.int IntKind.i64 qg, Value.int IntKind.u64 qv] 44)).cell? ⟨H + 1 + 1, 1, none⟩ = some (.int .i64 qd) ∧ (((W.alloc (Obj.cells #[Value.slice a n c, Value.int IntKind.i64 now, Value.int IntKind.i64 delta, Value.int IntKind.i64 next] 24)).alloc (Obj.cells #[Value.int IntKind.i64 pt, Value.int IntKind.i64 pd, Value.int IntKind.i64 pg, Value.int IntKind.u64 pv] 44)).alloc (Obj.cells #[Value.int IntKind.i64 qt, Value.int IntKind.i64 qd, Value.int IntKind.i64 qg, Value.int IntKind.u64 qv] 44)).cell? ⟨H + 1 + 1, 2, none⟩ = some (.int .i64 qg) ∧ (((W.alloc (Obj.cells #[Value.slice a n c, Value.int IntKind.i64 now, Value.int IntKind.i64 delta, Value.int IntKind.i64 next] 24)).alloc (Obj.cells #[Value.int IntKind.i64 pt, Value.int IntKind.i64 pd, Value.int IntKind.i64 pg, Value.int IntKind.u64 pv] 44)).alloc (Obj.cells #[Value.int IntKind.i64 qt, Value.int IntKind.i64 qd, Value.int IntKind.i64 qg, Value.int IntKind.u64 qv] 44)).cell? ⟨H + 1 + 1, 3, none⟩ = some (.int .u64 qv) := fun W hW => by
    have e1 : (W.alloc (Obj.cells #[Value.slice a n c, Value.int IntKind.i64 now, Value.int IntKind.i64 delta, Value.int IntKind.i64 next] 24)).heap.size = H + 1 := by simp [hW]
    have e2 : ((W.alloc (Obj.cells #[Value.slice a n c, Value.int IntKind.i64 now, Value.int IntKind.i64 delta, Value.int IntKind.i64 next] 24)).alloc (Obj.cells #[Value.int IntKind.i64 pt, Value.int IntKind.i64 pd, Value.int IntKind.i64 pg, Value.int IntKind.u64 pv] 44)).heap.size = H + 1 + 1 := by simp [hW]
    obtain ⟨q0, q1, q2, q3⟩ := q_cells W a n c now delta next
    obtain ⟨p0, p1, p2, p3⟩ := row_cells (W.alloc (Obj.cells #[Value.slice a n c, Value.int IntKind.i64 now, Value.int IntKind.i64 delta, Value.int IntKind.i64 next] 24)) pt pd pg pv
    obtain ⟨r0, r1, r2, r3⟩ := row_cells ((W.alloc (Obj.cells #[Value.slice a n c, Value.int IntKind.i64 now, Value.int IntKind.i64 delta, Value.int IntKind.i64 next] 24)).alloc (Obj.cells #[Value.int IntKind.i64 pt, Value.int IntKind.i64 pd, Value.int IntKind.i64 pg, Value.int IntKind.u64 pv] 44)) qt qd qg qv
    rw [hW] at q0 q1 q2 q3
    rw [e1] at p0 p1 p2 p3
    rw [e2] at r0 r1 r2 r3
    exact ⟨cell_alloc _ (cell_alloc _ q0), cell_alloc _ (cell_alloc _ q1), cell_alloc _ (cell_alloc _ q2), cell_alloc _ (cell_alloc _ q3), cell_alloc _ p0, cell_alloc _ p1, cell_alloc _ p2, cell_alloc _ p3, r0, r1, r2, r3⟩
  have hcl := cells w hH.symm
  rw [← hw1] at hcl
  have hl1 := h.below HX1.out (Nat.le_refl _)
  have HK : Hid (∀ W, Below w1.heap.size w1 W → W.cell? ⟨H, 0, none⟩ = some (.slice a n c) ∧ W.cell? ⟨H, 1, none⟩ = some (.int .i64 now) ∧ W.cell? ⟨H, 2, none⟩ = some (.int .i64 delta) ∧ W.cell? ⟨H, 3, none⟩ = some (.int .i64 next) ∧ W.cell? ⟨H + 1, 0, none⟩ = some (.int .i64 pt) ∧ W.cell? ⟨H + 1, 1, none⟩ = some (.int .i64 pd) ∧ W.cell? ⟨H + 1, 2, none⟩ = some (.int .i64 pg) ∧ W.cell? ⟨H + 1, 3, none⟩ = some (.int .u64 pv) ∧ W.cell? ⟨H + 1 + 1, 0, none⟩ = some (.int .i64 qt) ∧ W.cell? ⟨H + 1 + 1, 1, none⟩ = some (.int .i64 qd) ∧ W.cell? ⟨H + 1 + 1, 2, none⟩ = some (.int .i64 qg) ∧ W.cell? ⟨H + 1 + 1, 3, none⟩ = some (.int .u64 qv)) := Lib.hid (fun W hW => by
    have cl : ∀ {b j : Nat} {u : Value}, w1.cell? ⟨b, j, none⟩ = some u → W.cell? ⟨b, j, none⟩ = some u := fun h => (hW.cell (p := ⟨_, _, none⟩) (World.block_lt_of_cell? w1 _ h)).trans h
    exact ⟨cl hcl.1, cl hcl.2.1, cl hcl.2.2.1, cl hcl.2.2.2.1, cl hcl.2.2.2.2.1, cl hcl.2.2.2.2.2.1, cl hcl.2.2.2.2.2.2.1, cl hcl.2.2.2.2.2.2.2.1, cl hcl.2.2.2.2.2.2.2.2.1, cl hcl.2.2.2.2.2.2.2.2.2.1, cl hcl.2.2.2.2.2.2.2.2.2.2.1, cl hcl.2.2.2.2.2.2.2.2.2.2.2⟩)
  have HN := Lib.hid hn
  have HC := Lib.hid hc
  have HL1 := Lib.hid hl1
  have HQs := Lib.hid (And.intro hq1 (And.intro hq2 hq3))
  have HW1 := Lib.hid hw1
  have HHH := Lib.hid hH
  clear h hn hc hl1 hw1 hH hq1 hq2 hq3 cells hcl
  go_enter Try.func8, Try.ntmps8
  go_wp2_with fail
  rw [← HW1.out]
  (try rw [← HHH.out])
  refine Calls.mono (live9 w1) ?_
  rintro e w2 ⟨rfl, hb2⟩
  have HB2 := Lib.hid hb2
  clear hb2
  obtain ⟨k0, k1, k2, k3, b0, b1, b2, b3, d0, d1, d2, d3⟩ := HK.out w2 HB2.out
  go_wp2_with fail
  refine Calls.mono (few10 w2 a n c now delta next) ?_
  rintro e w3 ⟨rfl, hb3⟩
  have HB3 : Hid (Below w1.heap.size w1 w3) := Lib.hid (HB2.out.trans (hb3.mono HB2.out.size))
  clear hb3 k0 k1 k2 k3 b0 b1 b2 b3 d0 d1 d2 d3
  by_cases h9 : n ≤ 300
  · have d9 : decide (n ≤ 300) = true := by simpa using h9
    rw [d9]
    by_cases hpt : pt = qt ∧ pd = qd
    · obtain ⟨rfl, rfl⟩ := hpt
      obtain ⟨k0, k1, k2, k3, b0, b1, b2, b3, d0, d1, d2, d3⟩ := HK.out w3 HB3.out
      clear h9 d9
      go_wp2_with fail
      go_ret
      exact ⟨rfl, HX1.out.trans (HB3.out.mono HX1.out.size)⟩
    have HNe := Lib.hid hpt
    obtain ⟨k0, k1, k2, k3, b0, b1, b2, b3, d0, d1, d2, d3⟩ := HK.out w3 HB3.out
    by_cases ht : pt = qt
    · subst ht
      have hdb : (pd == qd) = false := by simp; exact fun e => hpt ⟨rfl, e⟩
      clear hpt
      go_wp2_with fail
      refine Calls.mono (check13 w3 a n c now delta next l HN.out (HL1.out.below HB3.out (Nat.le_refl _)) (by omega)) ?_
      rintro e w4 ⟨rfl, hb4⟩
      have HB4 : Hid (Below w1.heap.size w1 w4) := Lib.hid (HB3.out.trans (hb4.mono HB3.out.size))
      clear hb4
      clear k0 k1 k2 k3 b0 b1 b2 b3 d0 d1 d2 d3
      have hcs := checkE_01 now delta next l
      obtain ⟨E, hE⟩ : ∃ E, E = checkE now delta next l := ⟨_, rfl⟩
      rw [← hE] at hcs ⊢
      have HE := Lib.hid hE.symm
      clear hE hdb
      rcases hcs with rfl | rfl
      · have HOk := Lib.hid (check_ok.1 HE.out)
        have H9 := Lib.hid h9
        obtain ⟨E1, x1, y1, z1, l1, hE1, hle1, hg1, hz1, hp1⟩ := pushed_three (now := now) (delta := delta) (next := next) (l := l) (t := pt) (d := pd) (sig := pg) (v := pv) HQs.out.2.2
        obtain ⟨n1, hn1⟩ : ∃ k, l1.length = k := ⟨_, rfl⟩
        obtain ⟨E2, x2, y2, z2, l2, hE2, hle2, hg2, hz2, hp2⟩ := pushed_three (now := x1) (delta := y1) (next := z1) (l := l1) (t := pt) (d := qd) (sig := qg) (v := qv) hz1
        obtain ⟨n2, hn2⟩ : ∃ k, l2.length = k := ⟨_, rfl⟩
        obtain ⟨E3, x3, y3, z3, l3, hE3, hle3, hg3, hz3, hp3⟩ := pushed_three (now := now) (delta := delta) (next := next) (l := l) (t := pt) (d := qd) (sig := qg) (v := qv) HQs.out.2.2
        obtain ⟨n3, hn3⟩ : ∃ k, l3.length = k := ⟨_, rfl⟩
        obtain ⟨E4, x4, y4, z4, l4, hE4, hle4, hg4, hz4, hp4⟩ := pushed_three (now := x3) (delta := y3) (next := z3) (l := l3) (t := pt) (d := pd) (sig := pg) (v := pv) hz3
        obtain ⟨n4, hn4⟩ : ∃ k, l4.length = k := ⟨_, rfl⟩
        have hs1 : n1 ≤ 301 := by rw [← hn1]; have := HN.out; omega
        have hs3 : n3 ≤ 301 := by rw [← hn3]; have := HN.out; omega
        have hs2 : n2 ≤ 302 := by rw [← hn2]; omega
        have hs4 : n4 ≤ 302 := by rw [← hn4]; omega
        have C1 : Hid (∀ W , Below w1.heap.size w1 W → Calls Try.prog 11 #[.agg #[.slice a n c, .int .i64 now, .int .i64 delta, .int .i64 next], .int .i64 pt, .int .i64 pd, .int .i64 pg, .int .u64 pv] W fun e w' => ∃ a c, e = .returned (.tuple #[.agg #[.slice a n1 c, .int .i64 x1, .int .i64 y1, .int .i64 z1], .int .i64 E1]) ∧ LAt w' a l1 ∧ Below W.heap.size W w') := Lib.hid (fun W  hW =>
          Calls.mono (push11 W a n c now delta next l HN.out (HL1.out.below hW (Nat.le_refl _)) (by have := H9.out; omega) HQs.out.2.2 pt pd pg pv HP.out.1 HP.out.2.1 HP.out.2.2.1 HP.out.2.2.2) (fun e w' h => by
            obtain ⟨a', c', he, -, -, hl, hb⟩ := hp1 _ _ _ h
            rw [← hn1]; exact ⟨a', c', he, hl, hb⟩))
        have C2 : Hid (∀ W (a0 : Option Addr) (c0 : Nat), LAt W a0 l1 → Calls Try.prog 11 #[.agg #[.slice a0 n1 c0, .int .i64 x1, .int .i64 y1, .int .i64 z1], .int .i64 pt, .int .i64 qd, .int .i64 qg, .int .u64 qv] W fun e w' => ∃ a c, e = .returned (.tuple #[.agg #[.slice a n2 c, .int .i64 x2, .int .i64 y2, .int .i64 z2], .int .i64 E2]) ∧ LAt w' a l2 ∧ Below W.heap.size W w') := Lib.hid (fun W a0 c0 hW =>
          Calls.mono (push11 W a0 n1 c0 x1 y1 z1 l1 hn1 hW (by omega) hz1 pt qd qg qv HQq.out.1 HQq.out.2.1 HQq.out.2.2.1 HQq.out.2.2.2) (fun e w' h => by
            obtain ⟨a', c', he, -, -, hl, hb⟩ := hp2 _ _ _ h
            rw [← hn2]; exact ⟨a', c', he, hl, hb⟩))
        have C3 : Hid (∀ W , Below w1.heap.size w1 W → Calls Try.prog 11 #[.agg #[.slice a n c, .int .i64 now, .int .i64 delta, .int .i64 next], .int .i64 pt, .int .i64 qd, .int .i64 qg, .int .u64 qv] W fun e w' => ∃ a c, e = .returned (.tuple #[.agg #[.slice a n3 c, .int .i64 x3, .int .i64 y3, .int .i64 z3], .int .i64 E3]) ∧ LAt w' a l3 ∧ Below W.heap.size W w') := Lib.hid (fun W  hW =>
          Calls.mono (push11 W a n c now delta next l HN.out (HL1.out.below hW (Nat.le_refl _)) (by have := H9.out; omega) HQs.out.2.2 pt qd qg qv HQq.out.1 HQq.out.2.1 HQq.out.2.2.1 HQq.out.2.2.2) (fun e w' h => by
            obtain ⟨a', c', he, -, -, hl, hb⟩ := hp3 _ _ _ h
            rw [← hn3]; exact ⟨a', c', he, hl, hb⟩))
        have C4 : Hid (∀ W (a0 : Option Addr) (c0 : Nat), LAt W a0 l3 → Calls Try.prog 11 #[.agg #[.slice a0 n3 c0, .int .i64 x3, .int .i64 y3, .int .i64 z3], .int .i64 pt, .int .i64 pd, .int .i64 pg, .int .u64 pv] W fun e w' => ∃ a c, e = .returned (.tuple #[.agg #[.slice a n4 c, .int .i64 x4, .int .i64 y4, .int .i64 z4], .int .i64 E4]) ∧ LAt w' a l4 ∧ Below W.heap.size W w') := Lib.hid (fun W a0 c0 hW =>
          Calls.mono (push11 W a0 n3 c0 x3 y3 z3 l3 hn3 hW (by omega) hz3 pt pd pg pv HP.out.1 HP.out.2.1 HP.out.2.2.1 HP.out.2.2.2) (fun e w' h => by
            obtain ⟨a', c', he, -, -, hl, hb⟩ := hp4 _ _ _ h
            rw [← hn4]; exact ⟨a', c', he, hl, hb⟩))
        have hpp := push_push HOk.out (ta := pt) (da := pd) (sa := pg) (va := pv) (tb := pt) (db := qd) (sb := qg) (vb := qv) hE1 hg1 hE2
        have hqq := push_push HOk.out (ta := pt) (da := qd) (sa := qg) (va := qv) (tb := pt) (db := pd) (sb := pg) (vb := pv) hE3 hg3 hE4
        have hiff : (E1 = 0 ∧ E2 = 0) ↔ (E3 = 0 ∧ E4 = 0) := hpp.trans (Iff.trans ⟨fun h => ⟨h.2.1, h.1, h.2.2⟩, fun h => ⟨h.2.1, h.1, h.2.2⟩⟩ hqq.symm)
        have hlaw : E1 = 0 → E2 = 0 → E3 = 0 → E4 = 0 → l2 = l4.map (swapN next) ∧ z2 = z4 ∧ ∀ e ∈ l4, e.no < next + 1 + 1 := fun e1 e2 e3 e4 => by
          obtain ⟨⟨p1, p2, p3⟩, ⟨q1, q2, q3⟩, -⟩ := hpp.1 ⟨e1, e2⟩
          obtain ⟨-, rfl, rfl, rfl, rfl, -, -⟩ := hg1 e1
          obtain ⟨-, rfl, rfl, rfl, rfl, -, -⟩ := hg2 e2
          obtain ⟨-, rfl, rfl, rfl, rfl, -, -⟩ := hg3 e3
          obtain ⟨-, rfl, rfl, rfl, rfl, hk, -⟩ := hg4 e4
          exact ⟨apart_law HOk.out (fun hh => HNe.out (by simpa using hh)) p1 p2 p3 q1 q2 q3, rfl, fun e he => (hk.each e he).2.2.2.2.1⟩
        have HIff := Lib.hid hiff
        have HLaw := Lib.hid hlaw
        have HNs := Lib.hid (And.intro hn2 (And.intro hn4 (And.intro hs2 hs4)))
        clear hE1 hE2 hE3 hE4 hle1 hle2 hle3 hle4 hg1 hg2 hg3 hg4 hp1 hp2 hp3 hp4 hz1 hz2 hz3 hz4 hn1 hn2 hn3 hn4 hs1 hs2 hs3 hs4 hpp hqq hiff hlaw h9 d9
        obtain ⟨k0, k1, k2, k3, b0, b1, b2, b3, d0, d1, d2, d3⟩ := HK.out w4 HB4.out
        go_wp2_with fail
        refine Calls.mono (C1.out _ HB4.out) ?_
        rintro e w5 ⟨a1, c1, rfl, hl, hb⟩
        obtain ⟨V5, hV5⟩ : ∃ V, V = (w5.alloc (Obj.cells #[Value.slice a1 n1 c1, Value.int IntKind.i64 x1, Value.int IntKind.i64 y1, Value.int IntKind.i64 z1] 24)) := ⟨_, rfl⟩
        have HV5 := Lib.hid hV5
        have HW5 : Hid (Below w5.heap.size w5 V5) := Lib.hid (by rw [hV5]; exact (Below.refl _ _).alloc (Nat.le_refl _) _)
        have HBk5 := Lib.hid hb
        have HB5 : Hid (Below w1.heap.size w1 V5) := Lib.hid (HB4.out.trans ((hb.trans (HW5.out.mono hb.size)).mono HB4.out.size))
        have HLa5 := Lib.hid (hl.below HW5.out (Nat.le_refl _))
        have HC5 := q_cells w5 a1 n1 c1 x1 y1 z1
        rw [← hV5] at HC5
        have HC5 := Lib.hid HC5
        clear k0 k1 k2 k3 b0 b1 b2 b3 d0 d1 d2 d3
        have hk := HK.out V5 HB5.out
        rw [hV5] at hk
        obtain ⟨k0, k1, k2, k3, b0, b1, b2, b3, d0, d1, d2, d3⟩ := hk
        clear hV5 hl hb
        go_wp2_with fail
        (try rw [← HV5.out])
        refine Calls.mono (C2.out V5 a1 c1 HLa5.out) ?_
        rintro e w6 ⟨a2, c2, rfl, hl, hb⟩
        obtain ⟨V6, hV6⟩ : ∃ V, V = (w6.alloc (Obj.cells #[Value.slice a2 n2 c2, Value.int IntKind.i64 x2, Value.int IntKind.i64 y2, Value.int IntKind.i64 z2] 24)) := ⟨_, rfl⟩
        have HV6 := Lib.hid hV6
        have HW6 : Hid (Below w6.heap.size w6 V6) := Lib.hid (by rw [hV6]; exact (Below.refl _ _).alloc (Nat.le_refl _) _)
        have HBk6 := Lib.hid hb
        have HB6 : Hid (Below w1.heap.size w1 V6) := Lib.hid (HB5.out.trans ((hb.trans (HW6.out.mono hb.size)).mono HB5.out.size))
        have HLa6 := Lib.hid (hl.below HW6.out (Nat.le_refl _))
        have HC6 := q_cells w6 a2 n2 c2 x2 y2 z2
        rw [← hV6] at HC6
        have HC6 := Lib.hid HC6
        clear k0 k1 k2 k3 b0 b1 b2 b3 d0 d1 d2 d3
        have hk := HK.out V6 HB6.out
        rw [hV6] at hk
        obtain ⟨k0, k1, k2, k3, b0, b1, b2, b3, d0, d1, d2, d3⟩ := hk
        clear hV6 hl hb
        go_wp2_with fail
        (try rw [← HV6.out])
        refine Calls.mono (C3.out _ HB6.out) ?_
        rintro e w7 ⟨a3, c3, rfl, hl, hb⟩
        obtain ⟨V7, hV7⟩ : ∃ V, V = (w7.alloc (Obj.cells #[Value.slice a3 n3 c3, Value.int IntKind.i64 x3, Value.int IntKind.i64 y3, Value.int IntKind.i64 z3] 24)) := ⟨_, rfl⟩
        have HV7 := Lib.hid hV7
        have HW7 : Hid (Below w7.heap.size w7 V7) := Lib.hid (by rw [hV7]; exact (Below.refl _ _).alloc (Nat.le_refl _) _)
        have HBk7 := Lib.hid hb
        have HB7 : Hid (Below w1.heap.size w1 V7) := Lib.hid (HB6.out.trans ((hb.trans (HW7.out.mono hb.size)).mono HB6.out.size))
        have HLa7 := Lib.hid (hl.below HW7.out (Nat.le_refl _))
        have HC7 := q_cells w7 a3 n3 c3 x3 y3 z3
        rw [← hV7] at HC7
        have HC7 := Lib.hid HC7
        clear k0 k1 k2 k3 b0 b1 b2 b3 d0 d1 d2 d3
        have hk := HK.out V7 HB7.out
        rw [hV7] at hk
        obtain ⟨k0, k1, k2, k3, b0, b1, b2, b3, d0, d1, d2, d3⟩ := hk
        clear hV7 hl hb
        go_wp2_with fail
        (try rw [← HV7.out])
        refine Calls.mono (C4.out V7 a3 c3 HLa7.out) ?_
        rintro e w8 ⟨a4, c4, rfl, hl, hb⟩
        obtain ⟨V8, hV8⟩ : ∃ V, V = (w8.alloc (Obj.cells #[Value.slice a4 n4 c4, Value.int IntKind.i64 x4, Value.int IntKind.i64 y4, Value.int IntKind.i64 z4] 24)) := ⟨_, rfl⟩
        have HV8 := Lib.hid hV8
        have HW8 : Hid (Below w8.heap.size w8 V8) := Lib.hid (by rw [hV8]; exact (Below.refl _ _).alloc (Nat.le_refl _) _)
        have HBk8 := Lib.hid hb
        have HB8 : Hid (Below w1.heap.size w1 V8) := Lib.hid (HB7.out.trans ((hb.trans (HW8.out.mono hb.size)).mono HB7.out.size))
        have HLa8 := Lib.hid (hl.below HW8.out (Nat.le_refl _))
        have HC8 := q_cells w8 a4 n4 c4 x4 y4 z4
        rw [← hV8] at HC8
        have HC8 := Lib.hid HC8
        clear k0 k1 k2 k3 b0 b1 b2 b3 d0 d1 d2 d3
        have hk := HK.out V8 HB8.out
        rw [hV8] at hk
        obtain ⟨k0, k1, k2, k3, b0, b1, b2, b3, d0, d1, d2, d3⟩ := hk
        clear hl hb
        have hc6 := HC6.out
        have hc8 := HC8.out
        have b86 : Below V6.heap.size V6 V8 := HBk7.out.trans ((HW7.out.trans ((HBk8.out.trans (HW8.out.mono HBk8.out.size)).mono HW7.out.size)).mono HBk7.out.size)
        have HF : Hid (∀ W, Below V8.heap.size V8 W → (W.cell? ⟨w6.heap.size, 0, none⟩ = some (.slice a2 n2 c2) ∧ W.cell? ⟨w6.heap.size, 1, none⟩ = some (.int .i64 x2) ∧ W.cell? ⟨w6.heap.size, 2, none⟩ = some (.int .i64 y2) ∧ W.cell? ⟨w6.heap.size, 3, none⟩ = some (.int .i64 z2)) ∧ (W.cell? ⟨w8.heap.size, 0, none⟩ = some (.slice a4 n4 c4) ∧ W.cell? ⟨w8.heap.size, 1, none⟩ = some (.int .i64 x4) ∧ W.cell? ⟨w8.heap.size, 2, none⟩ = some (.int .i64 y4) ∧ W.cell? ⟨w8.heap.size, 3, none⟩ = some (.int .i64 z4)) ∧ LAt W a2 l2 ∧ LAt W a4 l4 ∧ W.cell? ⟨H, 3, none⟩ = some (.int .i64 next)) := Lib.hid (fun W t8 => by
          have t6 : Below V6.heap.size V6 W := b86.trans (t8.mono b86.size)
          have cl6 : ∀ {b j : Nat} {u : Value}, V6.cell? ⟨b, j, none⟩ = some u → W.cell? ⟨b, j, none⟩ = some u := fun h => (t6.cell (p := ⟨_, _, none⟩) (World.block_lt_of_cell? V6 _ h)).trans h
          have cl8 : ∀ {b j : Nat} {u : Value}, V8.cell? ⟨b, j, none⟩ = some u → W.cell? ⟨b, j, none⟩ = some u := fun h => (t8.cell (p := ⟨_, _, none⟩) (World.block_lt_of_cell? V8 _ h)).trans h
          exact ⟨⟨cl6 hc6.1, cl6 hc6.2.1, cl6 hc6.2.2.1, cl6 hc6.2.2.2⟩, ⟨cl8 hc8.1, cl8 hc8.2.1, cl8 hc8.2.2.1, cl8 hc8.2.2.2⟩, HLa6.out.below t6 (Nat.le_refl _), HLa8.out.below t8 (Nat.le_refl _), (HK.out W (HB8.out.trans (t8.mono HB8.out.size))).2.2.2.1⟩)
        clear b86 hc6 hc8
        clear k0 k1 k2 k3 b0 b1 b2 b3 d0 d1 d2 d3
        have hf := HF.out V8 (Below.refl _ _)
        rw [HV8.out] at hf
        obtain ⟨⟨s0, s1, s2, s3⟩, ⟨t0, t1, t2, t3⟩, -, -, k3⟩ := hf
        by_cases e1 : E1 = 0
        · by_cases e2 : E2 = 0
          · obtain ⟨e3, e4⟩ := HIff.out.1 ⟨e1, e2⟩
            obtain ⟨hm, hzz, hlt4⟩ := HLaw.out e1 e2 e3 e4
            have hnn : n2 = n4 := by rw [← HNs.out.1, ← HNs.out.2.1, hm, List.length_map]
            have HMm := Lib.hid (And.intro hm hlt4)
            clear hm hlt4
            subst hnn hzz
            subst e1 e2 e3 e4
            go_wp2_with fail
            clear s0 s1 s2 s3 t0 t1 t2 t3 k3
            (try rw [← HV8.out])
            go_loopg [16] n2 (fun g iv wr => ∃ k : Nat, g + k = n2 ∧ iv = .int .i64 k ∧ Hid (Below V8.heap.size V8 wr))
            case atStart => exact ⟨0, rfl, rfl, Lib.hid (Below.refl _ _)⟩
            case round =>
              obtain ⟨k, hgk, rfl, hh⟩ := hrel
              obtain ⟨⟨s0, s1, s2, s3⟩, ⟨t0, t1, t2, t3⟩, hl2, hl4, k3⟩ := HF.out wr hh.out
              have hn302 : n2 ≤ 302 := HNs.out.2.2.1
              by_cases hlt : k < n2
              · obtain ⟨bp, op_, rfl, hbp, u0, u1, u2, u3, u4⟩ := hl2.ev k (by rw [HNs.out.1]; exact hlt)
                obtain ⟨bs, os_, rfl, hbs, v0, v1, v2, v3, v4⟩ := hl4.ev k (by rw [HNs.out.2.1]; exact hlt)
                have hpe : l2.getD k default = swapN next (l4.getD k default) := by
                  rw [HMm.out.1]
                  have : k < l4.length := by rw [HNs.out.2.1]; exact hlt
                  simp [List.getD, List.getElem?_map, List.getElem?_eq_getElem this]
                have hmx := HMm.out.2 _ (getD_in (l := l4) (i := k) (by rw [HNs.out.2.1]; exact hlt))
                rw [hpe] at u0 u1 u2 u3 u4
                obtain ⟨s, hs⟩ : ∃ s, s = l4.getD k default := ⟨_, rfl⟩
                rw [← hs] at u0 u1 u2 u3 u4 v0 v1 v2 v3 v4 hmx
                obtain ⟨st, sd, sn, ss, sv⟩ := s
                unfold swapN at u0 u1 u2 u3 u4
                dsimp only at u0 u1 u2 u3 u4 v0 v1 v2 v3 v4 hmx
                obtain ⟨pn, hpn⟩ : ∃ p, p = (if sn = next then next + 1 else if sn = next + 1 then next else sn) := ⟨_, rfl⟩
                rw [← hpn] at u2
                have hHr : H < wr.heap.size := World.block_lt_of_cell? wr _ k3
                clear hl2 hl4 hpe hs hbp hbs
                by_cases hsn : sn < next
                · have hpp : pn = sn := by rw [hpn, if_neg (by omega), if_neg (by omega)]
                  clear hpn
                  subst hpp
                  have g1 : decide (next ≤ pn) = false := by simp; omega
                  have a0 := cell_alloc (Obj.cells #[Value.int IntKind.i64 st, Value.int IntKind.i64 sd, Value.int IntKind.i64 pn, Value.int IntKind.i64 ss, Value.int IntKind.u64 sv] 35) v0
                  have a1' := cell_alloc (Obj.cells #[Value.int IntKind.i64 st, Value.int IntKind.i64 sd, Value.int IntKind.i64 pn, Value.int IntKind.i64 ss, Value.int IntKind.u64 sv] 35) v1
                  have a2' := cell_alloc (Obj.cells #[Value.int IntKind.i64 st, Value.int IntKind.i64 sd, Value.int IntKind.i64 pn, Value.int IntKind.i64 ss, Value.int IntKind.u64 sv] 35) v2
                  have a3' := cell_alloc (Obj.cells #[Value.int IntKind.i64 st, Value.int IntKind.i64 sd, Value.int IntKind.i64 pn, Value.int IntKind.i64 ss, Value.int IntKind.u64 sv] 35) v3
                  have a4' := cell_alloc (Obj.cells #[Value.int IntKind.i64 st, Value.int IntKind.i64 sd, Value.int IntKind.i64 pn, Value.int IntKind.i64 ss, Value.int IntKind.u64 sv] 35) v4
                  have tt0 := cell_alloc (Obj.cells #[Value.int IntKind.i64 st, Value.int IntKind.i64 sd, Value.int IntKind.i64 pn, Value.int IntKind.i64 ss, Value.int IntKind.u64 sv] 35) t0
                  have kk3 := cell_alloc (Obj.cells #[Value.int IntKind.i64 st, Value.int IntKind.i64 sd, Value.int IntKind.i64 pn, Value.int IntKind.i64 ss, Value.int IntKind.u64 sv] 35) (cell_alloc (Obj.cells #[Value.int IntKind.i64 st, Value.int IntKind.i64 sd, Value.int IntKind.i64 pn, Value.int IntKind.i64 ss, Value.int IntKind.u64 sv] 35) k3)
                  go_wp2_with fail
                  go_roundg (n2 - (k + 1))
                  case measure => omega
                  case rel => exact ⟨k + 1, by omega, by go_num, Lib.hid ((hh.out.alloc hh.out.size _).alloc (Nat.le_trans hh.out.size (by simp)) _)⟩
                · have hpp : next ≤ pn := by
                    rw [hpn]; split
                    · omega
                    · split <;> omega
                  have g1 : decide (next ≤ pn) = true := by simp; omega
                  have g2 : decide (next ≤ sn) = true := by simp; omega
                  clear hpn hpp hsn hmx
                  have a0 := cell_alloc (Obj.cells #[Value.int IntKind.i64 st, Value.int IntKind.i64 sd, Value.int IntKind.i64 pn, Value.int IntKind.i64 ss, Value.int IntKind.u64 sv] 35) v0
                  have a1' := cell_alloc (Obj.cells #[Value.int IntKind.i64 st, Value.int IntKind.i64 sd, Value.int IntKind.i64 pn, Value.int IntKind.i64 ss, Value.int IntKind.u64 sv] 35) v1
                  have a2' := cell_alloc (Obj.cells #[Value.int IntKind.i64 st, Value.int IntKind.i64 sd, Value.int IntKind.i64 pn, Value.int IntKind.i64 ss, Value.int IntKind.u64 sv] 35) v2
                  have a3' := cell_alloc (Obj.cells #[Value.int IntKind.i64 st, Value.int IntKind.i64 sd, Value.int IntKind.i64 pn, Value.int IntKind.i64 ss, Value.int IntKind.u64 sv] 35) v3
                  have a4' := cell_alloc (Obj.cells #[Value.int IntKind.i64 st, Value.int IntKind.i64 sd, Value.int IntKind.i64 pn, Value.int IntKind.i64 ss, Value.int IntKind.u64 sv] 35) v4
                  have tt0 := cell_alloc (Obj.cells #[Value.int IntKind.i64 st, Value.int IntKind.i64 sd, Value.int IntKind.i64 pn, Value.int IntKind.i64 ss, Value.int IntKind.u64 sv] 35) t0
                  have kk3 := cell_alloc (Obj.cells #[Value.int IntKind.i64 st, Value.int IntKind.i64 sd, Value.int IntKind.i64 pn, Value.int IntKind.i64 ss, Value.int IntKind.u64 sv] 35) (cell_alloc (Obj.cells #[Value.int IntKind.i64 st, Value.int IntKind.i64 sd, Value.int IntKind.i64 pn, Value.int IntKind.i64 ss, Value.int IntKind.u64 sv] 35) k3)
                  go_wp2_with fail
                  go_roundg (n2 - (k + 1))
                  case measure => omega
                  case rel => exact ⟨k + 1, by omega, by go_num, Lib.hid ((hh.out.alloc hh.out.size _).alloc (Nat.le_trans hh.out.size (by simp)) _)⟩
              · have hkm : k = n2 := by omega
                have HH := Lib.hid hh.out
                go_wp2_with fail
                go_ret
                exact ⟨rfl, HX1.out.trans ((HB8.out.trans (HH.out.mono HB8.out.size)).mono HX1.out.size)⟩
          · have hn34 : ¬ (E3 = 0 ∧ E4 = 0) := fun h => e2 (HIff.out.2 h).2
            have hb2 : (E2 == 0) = false := by simpa using e2
            have hc2 : (E2 != 0) = true := by simpa using e2
            subst e1
            by_cases e3 : E3 = 0
            · have e4 : ¬ E4 = 0 := fun h => hn34 ⟨e3, h⟩
              have hb4 : (E4 == 0) = false := by simpa using e4
              have hc4 : (E4 != 0) = true := by simpa using e4
              subst e3
              clear hn34 e2 e4
              go_wp2_with fail
              (try rw [← HV8.out])
              go_ret
              exact ⟨rfl, HX1.out.trans (HB8.out.mono HX1.out.size)⟩
            · have hb3 : (E3 == 0) = false := by simpa using e3
              have hc3 : (E3 != 0) = true := by simpa using e3
              clear hn34 e2 e3
              go_wp2_with fail
              (try rw [← HV8.out])
              go_ret
              exact ⟨rfl, HX1.out.trans (HB8.out.mono HX1.out.size)⟩
        · have hn34 : ¬ (E3 = 0 ∧ E4 = 0) := fun h => e1 (HIff.out.2 h).1
          have hb1 : (E1 == 0) = false := by simpa using e1
          have hc1 : (E1 != 0) = true := by simpa using e1
          by_cases e3 : E3 = 0
          · have e4 : ¬ E4 = 0 := fun h => hn34 ⟨e3, h⟩
            have hb4 : (E4 == 0) = false := by simpa using e4
            have hc4 : (E4 != 0) = true := by simpa using e4
            subst e3
            clear hn34 e1 e4
            go_wp2_with fail
            (try rw [← HV8.out])
            go_ret
            exact ⟨rfl, HX1.out.trans (HB8.out.mono HX1.out.size)⟩
          · have hb3 : (E3 == 0) = false := by simpa using e3
            have hc3 : (E3 != 0) = true := by simpa using e3
            clear hn34 e1 e3
            go_wp2_with fail
            (try rw [← HV8.out])
            go_ret
            exact ⟨rfl, HX1.out.trans (HB8.out.mono HX1.out.size)⟩
      · go_wp2_with fail
        go_ret
        exact ⟨rfl, HX1.out.trans (HB4.out.mono HX1.out.size)⟩
    · have htb : (pt == qt) = false := by simpa using ht
      clear hpt ht
      go_wp2_with fail
      refine Calls.mono (check13 w3 a n c now delta next l HN.out (HL1.out.below HB3.out (Nat.le_refl _)) (by omega)) ?_
      rintro e w4 ⟨rfl, hb4⟩
      have HB4 : Hid (Below w1.heap.size w1 w4) := Lib.hid (HB3.out.trans (hb4.mono HB3.out.size))
      clear hb4
      clear k0 k1 k2 k3 b0 b1 b2 b3 d0 d1 d2 d3
      have hcs := checkE_01 now delta next l
      obtain ⟨E, hE⟩ : ∃ E, E = checkE now delta next l := ⟨_, rfl⟩
      rw [← hE] at hcs ⊢
      have HE := Lib.hid hE.symm
      clear hE htb
      rcases hcs with rfl | rfl
      · have HOk := Lib.hid (check_ok.1 HE.out)
        have H9 := Lib.hid h9
        obtain ⟨E1, x1, y1, z1, l1, hE1, hle1, hg1, hz1, hp1⟩ := pushed_three (now := now) (delta := delta) (next := next) (l := l) (t := pt) (d := pd) (sig := pg) (v := pv) HQs.out.2.2
        obtain ⟨n1, hn1⟩ : ∃ k, l1.length = k := ⟨_, rfl⟩
        obtain ⟨E2, x2, y2, z2, l2, hE2, hle2, hg2, hz2, hp2⟩ := pushed_three (now := x1) (delta := y1) (next := z1) (l := l1) (t := qt) (d := qd) (sig := qg) (v := qv) hz1
        obtain ⟨n2, hn2⟩ : ∃ k, l2.length = k := ⟨_, rfl⟩
        obtain ⟨E3, x3, y3, z3, l3, hE3, hle3, hg3, hz3, hp3⟩ := pushed_three (now := now) (delta := delta) (next := next) (l := l) (t := qt) (d := qd) (sig := qg) (v := qv) HQs.out.2.2
        obtain ⟨n3, hn3⟩ : ∃ k, l3.length = k := ⟨_, rfl⟩
        obtain ⟨E4, x4, y4, z4, l4, hE4, hle4, hg4, hz4, hp4⟩ := pushed_three (now := x3) (delta := y3) (next := z3) (l := l3) (t := pt) (d := pd) (sig := pg) (v := pv) hz3
        obtain ⟨n4, hn4⟩ : ∃ k, l4.length = k := ⟨_, rfl⟩
        have hs1 : n1 ≤ 301 := by rw [← hn1]; have := HN.out; omega
        have hs3 : n3 ≤ 301 := by rw [← hn3]; have := HN.out; omega
        have hs2 : n2 ≤ 302 := by rw [← hn2]; omega
        have hs4 : n4 ≤ 302 := by rw [← hn4]; omega
        have C1 : Hid (∀ W , Below w1.heap.size w1 W → Calls Try.prog 11 #[.agg #[.slice a n c, .int .i64 now, .int .i64 delta, .int .i64 next], .int .i64 pt, .int .i64 pd, .int .i64 pg, .int .u64 pv] W fun e w' => ∃ a c, e = .returned (.tuple #[.agg #[.slice a n1 c, .int .i64 x1, .int .i64 y1, .int .i64 z1], .int .i64 E1]) ∧ LAt w' a l1 ∧ Below W.heap.size W w') := Lib.hid (fun W  hW =>
          Calls.mono (push11 W a n c now delta next l HN.out (HL1.out.below hW (Nat.le_refl _)) (by have := H9.out; omega) HQs.out.2.2 pt pd pg pv HP.out.1 HP.out.2.1 HP.out.2.2.1 HP.out.2.2.2) (fun e w' h => by
            obtain ⟨a', c', he, -, -, hl, hb⟩ := hp1 _ _ _ h
            rw [← hn1]; exact ⟨a', c', he, hl, hb⟩))
        have C2 : Hid (∀ W (a0 : Option Addr) (c0 : Nat), LAt W a0 l1 → Calls Try.prog 11 #[.agg #[.slice a0 n1 c0, .int .i64 x1, .int .i64 y1, .int .i64 z1], .int .i64 qt, .int .i64 qd, .int .i64 qg, .int .u64 qv] W fun e w' => ∃ a c, e = .returned (.tuple #[.agg #[.slice a n2 c, .int .i64 x2, .int .i64 y2, .int .i64 z2], .int .i64 E2]) ∧ LAt w' a l2 ∧ Below W.heap.size W w') := Lib.hid (fun W a0 c0 hW =>
          Calls.mono (push11 W a0 n1 c0 x1 y1 z1 l1 hn1 hW (by omega) hz1 qt qd qg qv HQq.out.1 HQq.out.2.1 HQq.out.2.2.1 HQq.out.2.2.2) (fun e w' h => by
            obtain ⟨a', c', he, -, -, hl, hb⟩ := hp2 _ _ _ h
            rw [← hn2]; exact ⟨a', c', he, hl, hb⟩))
        have C3 : Hid (∀ W , Below w1.heap.size w1 W → Calls Try.prog 11 #[.agg #[.slice a n c, .int .i64 now, .int .i64 delta, .int .i64 next], .int .i64 qt, .int .i64 qd, .int .i64 qg, .int .u64 qv] W fun e w' => ∃ a c, e = .returned (.tuple #[.agg #[.slice a n3 c, .int .i64 x3, .int .i64 y3, .int .i64 z3], .int .i64 E3]) ∧ LAt w' a l3 ∧ Below W.heap.size W w') := Lib.hid (fun W  hW =>
          Calls.mono (push11 W a n c now delta next l HN.out (HL1.out.below hW (Nat.le_refl _)) (by have := H9.out; omega) HQs.out.2.2 qt qd qg qv HQq.out.1 HQq.out.2.1 HQq.out.2.2.1 HQq.out.2.2.2) (fun e w' h => by
            obtain ⟨a', c', he, -, -, hl, hb⟩ := hp3 _ _ _ h
            rw [← hn3]; exact ⟨a', c', he, hl, hb⟩))
        have C4 : Hid (∀ W (a0 : Option Addr) (c0 : Nat), LAt W a0 l3 → Calls Try.prog 11 #[.agg #[.slice a0 n3 c0, .int .i64 x3, .int .i64 y3, .int .i64 z3], .int .i64 pt, .int .i64 pd, .int .i64 pg, .int .u64 pv] W fun e w' => ∃ a c, e = .returned (.tuple #[.agg #[.slice a n4 c, .int .i64 x4, .int .i64 y4, .int .i64 z4], .int .i64 E4]) ∧ LAt w' a l4 ∧ Below W.heap.size W w') := Lib.hid (fun W a0 c0 hW =>
          Calls.mono (push11 W a0 n3 c0 x3 y3 z3 l3 hn3 hW (by omega) hz3 pt pd pg pv HP.out.1 HP.out.2.1 HP.out.2.2.1 HP.out.2.2.2) (fun e w' h => by
            obtain ⟨a', c', he, -, -, hl, hb⟩ := hp4 _ _ _ h
            rw [← hn4]; exact ⟨a', c', he, hl, hb⟩))
        have hpp := push_push HOk.out (ta := pt) (da := pd) (sa := pg) (va := pv) (tb := qt) (db := qd) (sb := qg) (vb := qv) hE1 hg1 hE2
        have hqq := push_push HOk.out (ta := qt) (da := qd) (sa := qg) (va := qv) (tb := pt) (db := pd) (sb := pg) (vb := pv) hE3 hg3 hE4
        have hiff : (E1 = 0 ∧ E2 = 0) ↔ (E3 = 0 ∧ E4 = 0) := hpp.trans (Iff.trans ⟨fun h => ⟨h.2.1, h.1, h.2.2⟩, fun h => ⟨h.2.1, h.1, h.2.2⟩⟩ hqq.symm)
        have hlaw : E1 = 0 → E2 = 0 → E3 = 0 → E4 = 0 → l2 = l4.map (swapN next) ∧ z2 = z4 ∧ ∀ e ∈ l4, e.no < next + 1 + 1 := fun e1 e2 e3 e4 => by
          obtain ⟨⟨p1, p2, p3⟩, ⟨q1, q2, q3⟩, -⟩ := hpp.1 ⟨e1, e2⟩
          obtain ⟨-, rfl, rfl, rfl, rfl, -, -⟩ := hg1 e1
          obtain ⟨-, rfl, rfl, rfl, rfl, -, -⟩ := hg2 e2
          obtain ⟨-, rfl, rfl, rfl, rfl, -, -⟩ := hg3 e3
          obtain ⟨-, rfl, rfl, rfl, rfl, hk, -⟩ := hg4 e4
          exact ⟨apart_law HOk.out (fun hh => HNe.out (by simpa using hh)) p1 p2 p3 q1 q2 q3, rfl, fun e he => (hk.each e he).2.2.2.2.1⟩
        have HIff := Lib.hid hiff
        have HLaw := Lib.hid hlaw
        have HNs := Lib.hid (And.intro hn2 (And.intro hn4 (And.intro hs2 hs4)))
        clear hE1 hE2 hE3 hE4 hle1 hle2 hle3 hle4 hg1 hg2 hg3 hg4 hp1 hp2 hp3 hp4 hz1 hz2 hz3 hz4 hn1 hn2 hn3 hn4 hs1 hs2 hs3 hs4 hpp hqq hiff hlaw h9 d9
        obtain ⟨k0, k1, k2, k3, b0, b1, b2, b3, d0, d1, d2, d3⟩ := HK.out w4 HB4.out
        go_wp2_with fail
        refine Calls.mono (C1.out _ HB4.out) ?_
        rintro e w5 ⟨a1, c1, rfl, hl, hb⟩
        obtain ⟨V5, hV5⟩ : ∃ V, V = (w5.alloc (Obj.cells #[Value.slice a1 n1 c1, Value.int IntKind.i64 x1, Value.int IntKind.i64 y1, Value.int IntKind.i64 z1] 24)) := ⟨_, rfl⟩
        have HV5 := Lib.hid hV5
        have HW5 : Hid (Below w5.heap.size w5 V5) := Lib.hid (by rw [hV5]; exact (Below.refl _ _).alloc (Nat.le_refl _) _)
        have HBk5 := Lib.hid hb
        have HB5 : Hid (Below w1.heap.size w1 V5) := Lib.hid (HB4.out.trans ((hb.trans (HW5.out.mono hb.size)).mono HB4.out.size))
        have HLa5 := Lib.hid (hl.below HW5.out (Nat.le_refl _))
        have HC5 := q_cells w5 a1 n1 c1 x1 y1 z1
        rw [← hV5] at HC5
        have HC5 := Lib.hid HC5
        clear k0 k1 k2 k3 b0 b1 b2 b3 d0 d1 d2 d3
        have hk := HK.out V5 HB5.out
        rw [hV5] at hk
        obtain ⟨k0, k1, k2, k3, b0, b1, b2, b3, d0, d1, d2, d3⟩ := hk
        clear hV5 hl hb
        go_wp2_with fail
        (try rw [← HV5.out])
        refine Calls.mono (C2.out V5 a1 c1 HLa5.out) ?_
        rintro e w6 ⟨a2, c2, rfl, hl, hb⟩
        obtain ⟨V6, hV6⟩ : ∃ V, V = (w6.alloc (Obj.cells #[Value.slice a2 n2 c2, Value.int IntKind.i64 x2, Value.int IntKind.i64 y2, Value.int IntKind.i64 z2] 24)) := ⟨_, rfl⟩
        have HV6 := Lib.hid hV6
        have HW6 : Hid (Below w6.heap.size w6 V6) := Lib.hid (by rw [hV6]; exact (Below.refl _ _).alloc (Nat.le_refl _) _)
        have HBk6 := Lib.hid hb
        have HB6 : Hid (Below w1.heap.size w1 V6) := Lib.hid (HB5.out.trans ((hb.trans (HW6.out.mono hb.size)).mono HB5.out.size))
        have HLa6 := Lib.hid (hl.below HW6.out (Nat.le_refl _))
        have HC6 := q_cells w6 a2 n2 c2 x2 y2 z2
        rw [← hV6] at HC6
        have HC6 := Lib.hid HC6
        clear k0 k1 k2 k3 b0 b1 b2 b3 d0 d1 d2 d3
        have hk := HK.out V6 HB6.out
        rw [hV6] at hk
        obtain ⟨k0, k1, k2, k3, b0, b1, b2, b3, d0, d1, d2, d3⟩ := hk
        clear hV6 hl hb
        go_wp2_with fail
        (try rw [← HV6.out])
        refine Calls.mono (C3.out _ HB6.out) ?_
        rintro e w7 ⟨a3, c3, rfl, hl, hb⟩
        obtain ⟨V7, hV7⟩ : ∃ V, V = (w7.alloc (Obj.cells #[Value.slice a3 n3 c3, Value.int IntKind.i64 x3, Value.int IntKind.i64 y3, Value.int IntKind.i64 z3] 24)) := ⟨_, rfl⟩
        have HV7 := Lib.hid hV7
        have HW7 : Hid (Below w7.heap.size w7 V7) := Lib.hid (by rw [hV7]; exact (Below.refl _ _).alloc (Nat.le_refl _) _)
        have HBk7 := Lib.hid hb
        have HB7 : Hid (Below w1.heap.size w1 V7) := Lib.hid (HB6.out.trans ((hb.trans (HW7.out.mono hb.size)).mono HB6.out.size))
        have HLa7 := Lib.hid (hl.below HW7.out (Nat.le_refl _))
        have HC7 := q_cells w7 a3 n3 c3 x3 y3 z3
        rw [← hV7] at HC7
        have HC7 := Lib.hid HC7
        clear k0 k1 k2 k3 b0 b1 b2 b3 d0 d1 d2 d3
        have hk := HK.out V7 HB7.out
        rw [hV7] at hk
        obtain ⟨k0, k1, k2, k3, b0, b1, b2, b3, d0, d1, d2, d3⟩ := hk
        clear hV7 hl hb
        go_wp2_with fail
        (try rw [← HV7.out])
        refine Calls.mono (C4.out V7 a3 c3 HLa7.out) ?_
        rintro e w8 ⟨a4, c4, rfl, hl, hb⟩
        obtain ⟨V8, hV8⟩ : ∃ V, V = (w8.alloc (Obj.cells #[Value.slice a4 n4 c4, Value.int IntKind.i64 x4, Value.int IntKind.i64 y4, Value.int IntKind.i64 z4] 24)) := ⟨_, rfl⟩
        have HV8 := Lib.hid hV8
        have HW8 : Hid (Below w8.heap.size w8 V8) := Lib.hid (by rw [hV8]; exact (Below.refl _ _).alloc (Nat.le_refl _) _)
        have HBk8 := Lib.hid hb
        have HB8 : Hid (Below w1.heap.size w1 V8) := Lib.hid (HB7.out.trans ((hb.trans (HW8.out.mono hb.size)).mono HB7.out.size))
        have HLa8 := Lib.hid (hl.below HW8.out (Nat.le_refl _))
        have HC8 := q_cells w8 a4 n4 c4 x4 y4 z4
        rw [← hV8] at HC8
        have HC8 := Lib.hid HC8
        clear k0 k1 k2 k3 b0 b1 b2 b3 d0 d1 d2 d3
        have hk := HK.out V8 HB8.out
        rw [hV8] at hk
        obtain ⟨k0, k1, k2, k3, b0, b1, b2, b3, d0, d1, d2, d3⟩ := hk
        clear hl hb
        have hc6 := HC6.out
        have hc8 := HC8.out
        have b86 : Below V6.heap.size V6 V8 := HBk7.out.trans ((HW7.out.trans ((HBk8.out.trans (HW8.out.mono HBk8.out.size)).mono HW7.out.size)).mono HBk7.out.size)
        have HF : Hid (∀ W, Below V8.heap.size V8 W → (W.cell? ⟨w6.heap.size, 0, none⟩ = some (.slice a2 n2 c2) ∧ W.cell? ⟨w6.heap.size, 1, none⟩ = some (.int .i64 x2) ∧ W.cell? ⟨w6.heap.size, 2, none⟩ = some (.int .i64 y2) ∧ W.cell? ⟨w6.heap.size, 3, none⟩ = some (.int .i64 z2)) ∧ (W.cell? ⟨w8.heap.size, 0, none⟩ = some (.slice a4 n4 c4) ∧ W.cell? ⟨w8.heap.size, 1, none⟩ = some (.int .i64 x4) ∧ W.cell? ⟨w8.heap.size, 2, none⟩ = some (.int .i64 y4) ∧ W.cell? ⟨w8.heap.size, 3, none⟩ = some (.int .i64 z4)) ∧ LAt W a2 l2 ∧ LAt W a4 l4 ∧ W.cell? ⟨H, 3, none⟩ = some (.int .i64 next)) := Lib.hid (fun W t8 => by
          have t6 : Below V6.heap.size V6 W := b86.trans (t8.mono b86.size)
          have cl6 : ∀ {b j : Nat} {u : Value}, V6.cell? ⟨b, j, none⟩ = some u → W.cell? ⟨b, j, none⟩ = some u := fun h => (t6.cell (p := ⟨_, _, none⟩) (World.block_lt_of_cell? V6 _ h)).trans h
          have cl8 : ∀ {b j : Nat} {u : Value}, V8.cell? ⟨b, j, none⟩ = some u → W.cell? ⟨b, j, none⟩ = some u := fun h => (t8.cell (p := ⟨_, _, none⟩) (World.block_lt_of_cell? V8 _ h)).trans h
          exact ⟨⟨cl6 hc6.1, cl6 hc6.2.1, cl6 hc6.2.2.1, cl6 hc6.2.2.2⟩, ⟨cl8 hc8.1, cl8 hc8.2.1, cl8 hc8.2.2.1, cl8 hc8.2.2.2⟩, HLa6.out.below t6 (Nat.le_refl _), HLa8.out.below t8 (Nat.le_refl _), (HK.out W (HB8.out.trans (t8.mono HB8.out.size))).2.2.2.1⟩)
        clear b86 hc6 hc8
        clear k0 k1 k2 k3 b0 b1 b2 b3 d0 d1 d2 d3
        have hf := HF.out V8 (Below.refl _ _)
        rw [HV8.out] at hf
        obtain ⟨⟨s0, s1, s2, s3⟩, ⟨t0, t1, t2, t3⟩, -, -, k3⟩ := hf
        by_cases e1 : E1 = 0
        · by_cases e2 : E2 = 0
          · obtain ⟨e3, e4⟩ := HIff.out.1 ⟨e1, e2⟩
            obtain ⟨hm, hzz, hlt4⟩ := HLaw.out e1 e2 e3 e4
            have hnn : n2 = n4 := by rw [← HNs.out.1, ← HNs.out.2.1, hm, List.length_map]
            have HMm := Lib.hid (And.intro hm hlt4)
            clear hm hlt4
            subst hnn hzz
            subst e1 e2 e3 e4
            go_wp2_with fail
            clear s0 s1 s2 s3 t0 t1 t2 t3 k3
            (try rw [← HV8.out])
            go_loopg [16] n2 (fun g iv wr => ∃ k : Nat, g + k = n2 ∧ iv = .int .i64 k ∧ Hid (Below V8.heap.size V8 wr))
            case atStart => exact ⟨0, rfl, rfl, Lib.hid (Below.refl _ _)⟩
            case round =>
              obtain ⟨k, hgk, rfl, hh⟩ := hrel
              obtain ⟨⟨s0, s1, s2, s3⟩, ⟨t0, t1, t2, t3⟩, hl2, hl4, k3⟩ := HF.out wr hh.out
              have hn302 : n2 ≤ 302 := HNs.out.2.2.1
              by_cases hlt : k < n2
              · obtain ⟨bp, op_, rfl, hbp, u0, u1, u2, u3, u4⟩ := hl2.ev k (by rw [HNs.out.1]; exact hlt)
                obtain ⟨bs, os_, rfl, hbs, v0, v1, v2, v3, v4⟩ := hl4.ev k (by rw [HNs.out.2.1]; exact hlt)
                have hpe : l2.getD k default = swapN next (l4.getD k default) := by
                  rw [HMm.out.1]
                  have : k < l4.length := by rw [HNs.out.2.1]; exact hlt
                  simp [List.getD, List.getElem?_map, List.getElem?_eq_getElem this]
                have hmx := HMm.out.2 _ (getD_in (l := l4) (i := k) (by rw [HNs.out.2.1]; exact hlt))
                rw [hpe] at u0 u1 u2 u3 u4
                obtain ⟨s, hs⟩ : ∃ s, s = l4.getD k default := ⟨_, rfl⟩
                rw [← hs] at u0 u1 u2 u3 u4 v0 v1 v2 v3 v4 hmx
                obtain ⟨st, sd, sn, ss, sv⟩ := s
                unfold swapN at u0 u1 u2 u3 u4
                dsimp only at u0 u1 u2 u3 u4 v0 v1 v2 v3 v4 hmx
                obtain ⟨pn, hpn⟩ : ∃ p, p = (if sn = next then next + 1 else if sn = next + 1 then next else sn) := ⟨_, rfl⟩
                rw [← hpn] at u2
                have hHr : H < wr.heap.size := World.block_lt_of_cell? wr _ k3
                clear hl2 hl4 hpe hs hbp hbs
                by_cases hsn : sn < next
                · have hpp : pn = sn := by rw [hpn, if_neg (by omega), if_neg (by omega)]
                  clear hpn
                  subst hpp
                  have g1 : decide (next ≤ pn) = false := by simp; omega
                  have a0 := cell_alloc (Obj.cells #[Value.int IntKind.i64 st, Value.int IntKind.i64 sd, Value.int IntKind.i64 pn, Value.int IntKind.i64 ss, Value.int IntKind.u64 sv] 35) v0
                  have a1' := cell_alloc (Obj.cells #[Value.int IntKind.i64 st, Value.int IntKind.i64 sd, Value.int IntKind.i64 pn, Value.int IntKind.i64 ss, Value.int IntKind.u64 sv] 35) v1
                  have a2' := cell_alloc (Obj.cells #[Value.int IntKind.i64 st, Value.int IntKind.i64 sd, Value.int IntKind.i64 pn, Value.int IntKind.i64 ss, Value.int IntKind.u64 sv] 35) v2
                  have a3' := cell_alloc (Obj.cells #[Value.int IntKind.i64 st, Value.int IntKind.i64 sd, Value.int IntKind.i64 pn, Value.int IntKind.i64 ss, Value.int IntKind.u64 sv] 35) v3
                  have a4' := cell_alloc (Obj.cells #[Value.int IntKind.i64 st, Value.int IntKind.i64 sd, Value.int IntKind.i64 pn, Value.int IntKind.i64 ss, Value.int IntKind.u64 sv] 35) v4
                  have tt0 := cell_alloc (Obj.cells #[Value.int IntKind.i64 st, Value.int IntKind.i64 sd, Value.int IntKind.i64 pn, Value.int IntKind.i64 ss, Value.int IntKind.u64 sv] 35) t0
                  have kk3 := cell_alloc (Obj.cells #[Value.int IntKind.i64 st, Value.int IntKind.i64 sd, Value.int IntKind.i64 pn, Value.int IntKind.i64 ss, Value.int IntKind.u64 sv] 35) (cell_alloc (Obj.cells #[Value.int IntKind.i64 st, Value.int IntKind.i64 sd, Value.int IntKind.i64 pn, Value.int IntKind.i64 ss, Value.int IntKind.u64 sv] 35) k3)
                  go_wp2_with fail
                  go_roundg (n2 - (k + 1))
                  case measure => omega
                  case rel => exact ⟨k + 1, by omega, by go_num, Lib.hid ((hh.out.alloc hh.out.size _).alloc (Nat.le_trans hh.out.size (by simp)) _)⟩
                · have hpp : next ≤ pn := by
                    rw [hpn]; split
                    · omega
                    · split <;> omega
                  have g1 : decide (next ≤ pn) = true := by simp; omega
                  have g2 : decide (next ≤ sn) = true := by simp; omega
                  clear hpn hpp hsn hmx
                  have a0 := cell_alloc (Obj.cells #[Value.int IntKind.i64 st, Value.int IntKind.i64 sd, Value.int IntKind.i64 pn, Value.int IntKind.i64 ss, Value.int IntKind.u64 sv] 35) v0
                  have a1' := cell_alloc (Obj.cells #[Value.int IntKind.i64 st, Value.int IntKind.i64 sd, Value.int IntKind.i64 pn, Value.int IntKind.i64 ss, Value.int IntKind.u64 sv] 35) v1
                  have a2' := cell_alloc (Obj.cells #[Value.int IntKind.i64 st, Value.int IntKind.i64 sd, Value.int IntKind.i64 pn, Value.int IntKind.i64 ss, Value.int IntKind.u64 sv] 35) v2
                  have a3' := cell_alloc (Obj.cells #[Value.int IntKind.i64 st, Value.int IntKind.i64 sd, Value.int IntKind.i64 pn, Value.int IntKind.i64 ss, Value.int IntKind.u64 sv] 35) v3
                  have a4' := cell_alloc (Obj.cells #[Value.int IntKind.i64 st, Value.int IntKind.i64 sd, Value.int IntKind.i64 pn, Value.int IntKind.i64 ss, Value.int IntKind.u64 sv] 35) v4
                  have tt0 := cell_alloc (Obj.cells #[Value.int IntKind.i64 st, Value.int IntKind.i64 sd, Value.int IntKind.i64 pn, Value.int IntKind.i64 ss, Value.int IntKind.u64 sv] 35) t0
                  have kk3 := cell_alloc (Obj.cells #[Value.int IntKind.i64 st, Value.int IntKind.i64 sd, Value.int IntKind.i64 pn, Value.int IntKind.i64 ss, Value.int IntKind.u64 sv] 35) (cell_alloc (Obj.cells #[Value.int IntKind.i64 st, Value.int IntKind.i64 sd, Value.int IntKind.i64 pn, Value.int IntKind.i64 ss, Value.int IntKind.u64 sv] 35) k3)
                  go_wp2_with fail
                  go_roundg (n2 - (k + 1))
                  case measure => omega
                  case rel => exact ⟨k + 1, by omega, by go_num, Lib.hid ((hh.out.alloc hh.out.size _).alloc (Nat.le_trans hh.out.size (by simp)) _)⟩
              · have hkm : k = n2 := by omega
                have HH := Lib.hid hh.out
                go_wp2_with fail
                go_ret
                exact ⟨rfl, HX1.out.trans ((HB8.out.trans (HH.out.mono HB8.out.size)).mono HX1.out.size)⟩
          · have hn34 : ¬ (E3 = 0 ∧ E4 = 0) := fun h => e2 (HIff.out.2 h).2
            have hb2 : (E2 == 0) = false := by simpa using e2
            have hc2 : (E2 != 0) = true := by simpa using e2
            subst e1
            by_cases e3 : E3 = 0
            · have e4 : ¬ E4 = 0 := fun h => hn34 ⟨e3, h⟩
              have hb4 : (E4 == 0) = false := by simpa using e4
              have hc4 : (E4 != 0) = true := by simpa using e4
              subst e3
              clear hn34 e2 e4
              go_wp2_with fail
              (try rw [← HV8.out])
              go_ret
              exact ⟨rfl, HX1.out.trans (HB8.out.mono HX1.out.size)⟩
            · have hb3 : (E3 == 0) = false := by simpa using e3
              have hc3 : (E3 != 0) = true := by simpa using e3
              clear hn34 e2 e3
              go_wp2_with fail
              (try rw [← HV8.out])
              go_ret
              exact ⟨rfl, HX1.out.trans (HB8.out.mono HX1.out.size)⟩
        · have hn34 : ¬ (E3 = 0 ∧ E4 = 0) := fun h => e1 (HIff.out.2 h).1
          have hb1 : (E1 == 0) = false := by simpa using e1
          have hc1 : (E1 != 0) = true := by simpa using e1
          by_cases e3 : E3 = 0
          · have e4 : ¬ E4 = 0 := fun h => hn34 ⟨e3, h⟩
            have hb4 : (E4 == 0) = false := by simpa using e4
            have hc4 : (E4 != 0) = true := by simpa using e4
            subst e3
            clear hn34 e1 e4
            go_wp2_with fail
            (try rw [← HV8.out])
            go_ret
            exact ⟨rfl, HX1.out.trans (HB8.out.mono HX1.out.size)⟩
          · have hb3 : (E3 == 0) = false := by simpa using e3
            have hc3 : (E3 != 0) = true := by simpa using e3
            clear hn34 e1 e3
            go_wp2_with fail
            (try rw [← HV8.out])
            go_ret
            exact ⟨rfl, HX1.out.trans (HB8.out.mono HX1.out.size)⟩
      · go_wp2_with fail
        go_ret
        exact ⟨rfl, HX1.out.trans (HB4.out.mono HX1.out.size)⟩
  · have d9 : decide (n ≤ 300) = false := by simpa using h9
    rw [d9]
    go_wp2_with fail
    go_ret
    exact ⟨rfl, HX1.out.trans (HB3.out.mono HX1.out.size)⟩
end Go.Proofs.Ytbhbebidkeejbaa
