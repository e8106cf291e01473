/- What comes out of any queue, and what is left, is what the document says (QueueGoes). -/
import Derived.Test.YtbhbebidkeejbaaQ18
import Derived.Test.YtbhbebidkeejbaaQ19
import Derived.Test.YtbhbebidkeejbaaQ20
namespace Go.Proofs.Ytbhbebidkeejbaa
open Go.RowKit Go.Shelf
set_option linter.unusedVariables false
set_option linter.unusedSimpArgs false

theorem q_cells (w : World) (a : Option Addr) (n c : Nat) (x y z : Int) :
    (w.alloc (Obj.cells #[Value.slice a n c, Value.int IntKind.i64 x, Value.int IntKind.i64 y, Value.int IntKind.i64 z] 24)).cell? ⟨w.heap.size, 0, none⟩ = some (.slice a n c) ∧
    (w.alloc (Obj.cells #[Value.slice a n c, Value.int IntKind.i64 x, Value.int IntKind.i64 y, Value.int IntKind.i64 z] 24)).cell? ⟨w.heap.size, 1, none⟩ = some (.int .i64 x) ∧
    (w.alloc (Obj.cells #[Value.slice a n c, Value.int IntKind.i64 x, Value.int IntKind.i64 y, Value.int IntKind.i64 z] 24)).cell? ⟨w.heap.size, 2, none⟩ = some (.int .i64 y) ∧
    (w.alloc (Obj.cells #[Value.slice a n c, Value.int IntKind.i64 x, Value.int IntKind.i64 y, Value.int IntKind.i64 z] 24)).cell? ⟨w.heap.size, 3, none⟩ = some (.int .i64 z) := ⟨by simp, by simp, by simp, by simp⟩
theorem ev_cells (w : World) (vt vd vn vs vv : Int) :
    (w.alloc (Obj.cells #[Value.int IntKind.i64 vt, Value.int IntKind.i64 vd, Value.int IntKind.i64 vn, Value.int IntKind.i64 vs, Value.int IntKind.u64 vv] 35)).cell? ⟨w.heap.size, 0, none⟩ = some (.int .i64 vt) ∧
    (w.alloc (Obj.cells #[Value.int IntKind.i64 vt, Value.int IntKind.i64 vd, Value.int IntKind.i64 vn, Value.int IntKind.i64 vs, Value.int IntKind.u64 vv] 35)).cell? ⟨w.heap.size, 1, none⟩ = some (.int .i64 vd) ∧
    (w.alloc (Obj.cells #[Value.int IntKind.i64 vt, Value.int IntKind.i64 vd, Value.int IntKind.i64 vn, Value.int IntKind.i64 vs, Value.int IntKind.u64 vv] 35)).cell? ⟨w.heap.size, 2, none⟩ = some (.int .i64 vn) ∧
    (w.alloc (Obj.cells #[Value.int IntKind.i64 vt, Value.int IntKind.i64 vd, Value.int IntKind.i64 vn, Value.int IntKind.i64 vs, Value.int IntKind.u64 vv] 35)).cell? ⟨w.heap.size, 3, none⟩ = some (.int .i64 vs) ∧
    (w.alloc (Obj.cells #[Value.int IntKind.i64 vt, Value.int IntKind.i64 vd, Value.int IntKind.i64 vn, Value.int IntKind.i64 vs, Value.int IntKind.u64 vv] 35)).cell? ⟨w.heap.size, 4, none⟩ = some (.int .u64 vv) := ⟨by simp, by simp, by simp, by simp, by simp⟩
/-- The cells of a queue's box and of an event's box behind it. -/
theorem qev_cells (w : World) (a : Option Addr) (n c : Nat) (x y z vt vd vn vs vv : Int) {V : World} (hV : V = (w.alloc (Obj.cells #[Value.slice a n c, Value.int IntKind.i64 x, Value.int IntKind.i64 y, Value.int IntKind.i64 z] 24)).alloc (Obj.cells #[Value.int IntKind.i64 vt, Value.int IntKind.i64 vd, Value.int IntKind.i64 vn, Value.int IntKind.i64 vs, Value.int IntKind.u64 vv] 35)) :
    V.cell? ⟨w.heap.size, 0, none⟩ = some (.slice a n c) ∧ V.cell? ⟨w.heap.size, 1, none⟩ = some (.int .i64 x) ∧ V.cell? ⟨w.heap.size, 2, none⟩ = some (.int .i64 y) ∧ V.cell? ⟨w.heap.size, 3, none⟩ = some (.int .i64 z) ∧
    V.cell? ⟨w.heap.size + 1, 0, none⟩ = some (.int .i64 vt) ∧ V.cell? ⟨w.heap.size + 1, 1, none⟩ = some (.int .i64 vd) ∧ V.cell? ⟨w.heap.size + 1, 2, none⟩ = some (.int .i64 vn) ∧ V.cell? ⟨w.heap.size + 1, 3, none⟩ = some (.int .i64 vs) ∧ V.cell? ⟨w.heap.size + 1, 4, none⟩ = some (.int .u64 vv) := by
  subst hV
  obtain ⟨q0, q1, q2, q3⟩ := q_cells w a n c x y z
  have he := ev_cells (w.alloc (Obj.cells #[Value.slice a n c, Value.int IntKind.i64 x, Value.int IntKind.i64 y, Value.int IntKind.i64 z] 24)) vt vd vn vs vv
  rw [show (w.alloc (Obj.cells #[Value.slice a n c, Value.int IntKind.i64 x, Value.int IntKind.i64 y, Value.int IntKind.i64 z] 24)).heap.size = w.heap.size + 1 by simp] at he
  exact ⟨cell_alloc _ q0, cell_alloc _ q1, cell_alloc _ q2, cell_alloc _ q3, he⟩

/-- What two Pops of one queue hand back alike. -/
theorem popped_alike (now delta next : Int) (l : List EvV) : ∃ (E x y z : Int) (l' : List EvV) (v : EvV), l'.length ≤ l.length ∧ ∀ W e w', Popped W now delta next l e w' → NewQE W E x y z l' v e w' := by
  by_cases h0 : comeE now delta next l = 0
  · exact ⟨0, _, _, next, l.drop 1, _, by rw [List.length_drop]; omega, fun W e w' h => by unfold Popped at h; rw [if_pos h0] at h; exact h⟩
  · exact ⟨_, 0, 0, 0, [], _, by simp, fun W e w' h => by unfold Popped at h; rw [if_neg h0] at h; exact h⟩
theorem came_alike (R : EvV → EvV → Bool) (now delta next : Int) (l : List EvV) : ∃ (E x y z : Int) (l' g' : List EvV), l'.length ≤ l.length ∧ g'.length ≤ l.length ∧ ∀ W e w', Came R W now delta next l e w' → NewQL W E x y z l' g' e w' := by
  by_cases h0 : comeE now delta next l = 0
  · exact ⟨0, _, _, next, l.drop (1 + comeR R l), l.take (1 + comeR R l), by rw [List.length_drop]; omega, by rw [List.length_take]; omega, fun W e w' h => by unfold Came at h; rw [if_pos h0] at h; exact h⟩
  · exact ⟨_, 0, 0, 0, [], [], by simp, by simp, fun W e w' h => by unfold Came at h; rw [if_neg h0] at h; exact h⟩

set_option maxRecDepth 100000 in
set_option maxHeartbeats 4000000 in
theorem queueGoes (w : World) (Q : QV) (hQ : QAt w Q) (hc : Q.l.length ≤ Q.c) :
    Calls Try.prog 4 #[Q.val] w fun e w' => e = .returned (.bool true) ∧ Below w.heap.size w w' := by
  obtain ⟨a, c, l, now, delta, next⟩ := Q
  obtain ⟨h, -, -, -⟩ := hQ
  dsimp only at h hc
  obtain ⟨n, hn⟩ : ∃ n, l.length = n := ⟨_, rfl⟩
  unfold QV.val
  dsimp only
  rw [hn] at hc ⊢
  obtain ⟨H, hH⟩ : ∃ h, h = w.heap.size := ⟨_, rfl⟩
  obtain ⟨w1, hw1⟩ : ∃ W, W = w.alloc (.cells #[.slice a n c, .int .i64 now, .int .i64 delta, .int .i64 next] 24) := ⟨_, rfl⟩
  have HX1 : Hid (Below w.heap.size w w1) := Lib.hid (by rw [hw1]; exact (Below.refl _ _).alloc (Nat.le_refl _) _)
  have k0 : w1.cell? ⟨H, 0, none⟩ = some (.slice a n c) := by rw [hw1, hH]; simp
  have k1 : w1.cell? ⟨H, 1, none⟩ = some (.int .i64 now) := by rw [hw1, hH]; simp
  have k2 : w1.cell? ⟨H, 2, none⟩ = some (.int .i64 delta) := by rw [hw1, hH]; simp
  have k3 : w1.cell? ⟨H, 3, none⟩ = some (.int .i64 next) := by rw [hw1, hH]; simp
  have hl1 := h.below HX1.out (Nat.le_refl _)
  have HK : Hid (∀ W, Below w1.heap.size w1 W → W.cell? ⟨H, 0, none⟩ = some (.slice a n c) ∧ W.cell? ⟨H, 1, none⟩ = some (.int .i64 now) ∧ W.cell? ⟨H, 2, none⟩ = some (.int .i64 delta) ∧ W.cell? ⟨H, 3, none⟩ = some (.int .i64 next)) := Lib.hid (fun W hW => by
    have cl : ∀ {b j : Nat} {u : Value}, w1.cell? ⟨b, j, none⟩ = some u → W.cell? ⟨b, j, none⟩ = some u := fun h => (hW.cell (p := ⟨_, _, none⟩) (World.block_lt_of_cell? w1 _ h)).trans h
    exact ⟨cl k0, cl k1, cl k2, cl k3⟩)
  have HN := Lib.hid hn
  have HC := Lib.hid hc
  have HL1 := Lib.hid hl1
  have HW1 := Lib.hid hw1
  have HHH := Lib.hid hH
  clear h hn hc hl1 hw1 hH k0 k1 k2 k3
  go_enter Try.func4, Try.ntmps4
  go_wp2_with fail
  rw [← HW1.out]
  (try rw [← HHH.out])
  refine Calls.mono (live9 w1) ?_
  rintro e w2 ⟨rfl, hb2⟩
  have HB2 := Lib.hid hb2
  clear hb2
  obtain ⟨k0, k1, k2, k3⟩ := HK.out w2 HB2.out
  go_wp2_with fail
  refine Calls.mono (few10 w2 a n c now delta next) ?_
  rintro e w3 ⟨rfl, hb3⟩
  have HB3 : Hid (Below w1.heap.size w1 w3) := Lib.hid (HB2.out.trans (hb3.mono HB2.out.size))
  clear hb3 k0 k1 k2 k3
  by_cases h9 : n ≤ 300
  · have d9 : decide (n ≤ 300) = true := by simpa using h9
    rw [d9]
    have H9 := Lib.hid h9
    clear h9 d9
    obtain ⟨E, x, y, z, l1, v, hle, hpo⟩ := popped_alike now delta next l
    obtain ⟨n1, hn1⟩ : ∃ k, k = l1.length := ⟨_, rfl⟩
    obtain ⟨vt, vd, vn, vs, vv⟩ := v
    obtain ⟨E2, x2, y2, z2, l2, g2, hle2, hle3, hca⟩ := came_alike takeR now delta next l
    obtain ⟨n2, hn2⟩ : ∃ k, k = l2.length := ⟨_, rfl⟩
    obtain ⟨m2, hm2⟩ : ∃ k, k = g2.length := ⟨_, rfl⟩
    have C18 : Hid (∀ W, Below w1.heap.size w1 W → Calls Try.prog 18 #[.agg #[.slice a n c, .int .i64 now, .int .i64 delta, .int .i64 next]] W fun e w' => ∃ a c, e = .returned (.tuple #[.agg #[.slice a n1 c, .int .i64 x, .int .i64 y, .int .i64 z], .agg #[.int .i64 vt, .int .i64 vd, .int .i64 vn, .int .i64 vs, .int .u64 vv], .int .i64 E]) ∧ LAt w' a l1 ∧ Below W.heap.size W w') := Lib.hid (fun W hW =>
      Calls.mono (pop18 W a n c now delta next l HN.out (HL1.out.below hW (Nat.le_refl _)) (by have := H9.out; omega) HC.out) (fun e w' h => by
        obtain ⟨a', c', he, -, -, hl, hb⟩ := hpo _ _ _ h
        rw [hn1]; exact ⟨a', c', he, hl, hb⟩))
    have C19 : Hid (∀ W, Below w1.heap.size w1 W → Calls Try.prog 19 #[.agg #[.slice a n c, .int .i64 now, .int .i64 delta, .int .i64 next]] W fun e w' => ∃ a c, e = .returned (.tuple #[.agg #[.slice a n1 c, .int .i64 x, .int .i64 y, .int .i64 z], .agg #[.int .i64 vt, .int .i64 vd, .int .i64 vn, .int .i64 vs, .int .u64 vv], .int .i64 E]) ∧ LAt w' a l1 ∧ Below W.heap.size W w') := Lib.hid (fun W hW =>
      Calls.mono (pop19 W a n c now delta next l HN.out (HL1.out.below hW (Nat.le_refl _)) (by have := H9.out; omega) HC.out) (fun e w' h => by
        obtain ⟨a', c', he, -, -, hl, hb⟩ := hpo _ _ _ h
        rw [hn1]; exact ⟨a', c', he, hl, hb⟩))
    have C20 : Hid (∀ W, Below w1.heap.size w1 W → Calls Try.prog 20 #[.agg #[.slice a n c, .int .i64 now, .int .i64 delta, .int .i64 next]] W fun e w' => ∃ a c b d, e = .returned (.tuple #[.agg #[.slice a n2 c, .int .i64 x2, .int .i64 y2, .int .i64 z2], .slice b m2 d, .int .i64 E2]) ∧ LAt w' a l2 ∧ LAt w' b g2 ∧ Below W.heap.size W w') := Lib.hid (fun W hW =>
      Calls.mono (take20 W a n c now delta next l HN.out (HL1.out.below hW (Nat.le_refl _)) (by have := H9.out; omega) HC.out) (fun e w' h => by
        obtain ⟨a', c', b', d', he, -, -, -, -, hl, hg, hb⟩ := hca _ _ _ h
        rw [hn2, hm2]; exact ⟨a', c', b', d', he, hl, hg, hb⟩))
    have C21 : Hid (∀ W, Below w1.heap.size w1 W → Calls Try.prog 21 #[.agg #[.slice a n c, .int .i64 now, .int .i64 delta, .int .i64 next]] W fun e w' => ∃ a c b d, e = .returned (.tuple #[.agg #[.slice a n2 c, .int .i64 x2, .int .i64 y2, .int .i64 z2], .slice b m2 d, .int .i64 E2]) ∧ LAt w' a l2 ∧ LAt w' b g2 ∧ Below W.heap.size W w') := Lib.hid (fun W hW =>
      Calls.mono (take21 W a n c now delta next l HN.out (HL1.out.below hW (Nat.le_refl _)) (by have := H9.out; omega) HC.out) (fun e w' h => by
        obtain ⟨a', c', b', d', he, -, -, -, -, hl, hg, hb⟩ := hca _ _ _ h
        rw [hn2, hm2]; exact ⟨a', c', b', d', he, hl, hg, hb⟩))
    have HN1 : Hid (l1.length = n1 ∧ n1 ≤ 2000) := Lib.hid ⟨hn1.symm, by have := H9.out; have := HN.out; omega⟩
    have HN2 : Hid (l2.length = n2 ∧ n2 ≤ 2000) := Lib.hid ⟨hn2.symm, by have := H9.out; have := HN.out; omega⟩
    have HM2 : Hid (g2.length = m2 ∧ m2 ≤ 2000) := Lib.hid ⟨hm2.symm, by have := H9.out; have := HN.out; omega⟩
    clear hle hle2 hle3 hpo hca hn1 hn2 hm2
    obtain ⟨k0, k1, k2, k3⟩ := HK.out w3 HB3.out
    go_wp2_with fail
    refine Calls.mono (C18.out _ HB3.out) ?_
    rintro e w4 ⟨a1, c1, rfl, hl, hb⟩
    have HLa4 := Lib.hid hl
    have HBk4 := Lib.hid hb
    clear hl hb
    clear k0 k1 k2 k3
    obtain ⟨V4, hV4⟩ : ∃ V, V = ((w4.alloc (Obj.cells #[Value.slice a1 n1 c1, Value.int IntKind.i64 x, Value.int IntKind.i64 y, Value.int IntKind.i64 z] 24)).alloc (Obj.cells #[Value.int IntKind.i64 vt, Value.int IntKind.i64 vd, Value.int IntKind.i64 vn, Value.int IntKind.i64 vs, Value.int IntKind.u64 vv] 35)) := ⟨_, rfl⟩
    have HV4 := Lib.hid hV4
    have HW4 : Hid (Below w4.heap.size w4 V4) := Lib.hid (by rw [hV4]; exact ((Below.refl _ _).alloc (Nat.le_refl _) _).alloc (by simp) _)
    have HB4 : Hid (Below w1.heap.size w1 V4) := Lib.hid (HB3.out.trans ((HBk4.out.trans (HW4.out.mono HBk4.out.size)).mono HB3.out.size))
    have HC4 := Lib.hid (qev_cells w4 a1 n1 c1 x y z vt vd vn vs vv hV4)
    have hk := HK.out V4 HB4.out
    rw [hV4] at hk
    obtain ⟨k0, k1, k2, k3⟩ := hk
    clear hV4
    go_wp2_with fail
    (try rw [← HV4.out])
    refine Calls.mono (C19.out _ HB4.out) ?_
    rintro e w5 ⟨a2, c2, rfl, hl, hb⟩
    have HLa5 := Lib.hid hl
    have HBk5 := Lib.hid hb
    clear hl hb
    clear k0 k1 k2 k3
    obtain ⟨V5, hV5⟩ : ∃ V, V = ((w5.alloc (Obj.cells #[Value.slice a2 n1 c2, Value.int IntKind.i64 x, Value.int IntKind.i64 y, Value.int IntKind.i64 z] 24)).alloc (Obj.cells #[Value.int IntKind.i64 vt, Value.int IntKind.i64 vd, Value.int IntKind.i64 vn, Value.int IntKind.i64 vs, Value.int IntKind.u64 vv] 35)) := ⟨_, rfl⟩
    have HV5 := Lib.hid hV5
    have HW5 : Hid (Below w5.heap.size w5 V5) := Lib.hid (by rw [hV5]; exact ((Below.refl _ _).alloc (Nat.le_refl _) _).alloc (by simp) _)
    have HB5 : Hid (Below w1.heap.size w1 V5) := Lib.hid (HB4.out.trans ((HBk5.out.trans (HW5.out.mono HBk5.out.size)).mono HB4.out.size))
    have HC5 := Lib.hid (qev_cells w5 a2 n1 c2 x y z vt vd vn vs vv hV5)
    have hk := HK.out V5 HB5.out
    rw [hV5] at hk
    obtain ⟨k0, k1, k2, k3⟩ := hk
    clear hV5
    go_wp2_with fail
    (try rw [← HV5.out])
    refine Calls.mono (C20.out _ HB5.out) ?_
    rintro e w6 ⟨a3, c3, b3, d3, rfl, hl, hg, hb⟩
    have HLa6 := Lib.hid hl
    have HLg6 := Lib.hid hg
    have HBk6 := Lib.hid hb
    clear hl hb hg
    clear k0 k1 k2 k3
    obtain ⟨V6, hV6⟩ : ∃ V, V = (w6.alloc (Obj.cells #[Value.slice a3 n2 c3, Value.int IntKind.i64 x2, Value.int IntKind.i64 y2, Value.int IntKind.i64 z2] 24)) := ⟨_, rfl⟩
    have HV6 := Lib.hid hV6
    have HW6 : Hid (Below w6.heap.size w6 V6) := Lib.hid (by rw [hV6]; exact (Below.refl _ _).alloc (Nat.le_refl _) _)
    have HB6 : Hid (Below w1.heap.size w1 V6) := Lib.hid (HB5.out.trans ((HBk6.out.trans (HW6.out.mono HBk6.out.size)).mono HB5.out.size))
    have HC6 := q_cells w6 a3 n2 c3 x2 y2 z2
    rw [← hV6] at HC6
    have HC6 := Lib.hid HC6
    have hk := HK.out V6 HB6.out
    rw [hV6] at hk
    obtain ⟨k0, k1, k2, k3⟩ := hk
    clear hV6
    go_wp2_with fail
    (try rw [← HV6.out])
    refine Calls.mono (C21.out _ HB6.out) ?_
    rintro e w7 ⟨a4, c4, b4, d4, rfl, hl, hg, hb⟩
    have HLa7 := Lib.hid hl
    have HLg7 := Lib.hid hg
    have HBk7 := Lib.hid hb
    clear hl hb hg
    clear k0 k1 k2 k3
    obtain ⟨V7, hV7⟩ : ∃ V, V = (w7.alloc (Obj.cells #[Value.slice a4 n2 c4, Value.int IntKind.i64 x2, Value.int IntKind.i64 y2, Value.int IntKind.i64 z2] 24)) := ⟨_, rfl⟩
    have HV7 := Lib.hid hV7
    have HW7 : Hid (Below w7.heap.size w7 V7) := Lib.hid (by rw [hV7]; exact (Below.refl _ _).alloc (Nat.le_refl _) _)
    have HB7 : Hid (Below w1.heap.size w1 V7) := Lib.hid (HB6.out.trans ((HBk7.out.trans (HW7.out.mono HBk7.out.size)).mono HB6.out.size))
    have HC7 := q_cells w7 a4 n2 c4 x2 y2 z2
    rw [← hV7] at HC7
    have HC7 := Lib.hid HC7
    have b76 : Below V6.heap.size V6 V7 := HBk7.out.trans (HW7.out.mono HBk7.out.size)
    have b75 : Below V5.heap.size V5 V7 := HBk6.out.trans ((HW6.out.trans (b76.mono HW6.out.size)).mono HBk6.out.size)
    have b74 : Below V4.heap.size V4 V7 := HBk5.out.trans ((HW5.out.trans (b75.mono HW5.out.size)).mono HBk5.out.size)
    have HF : Hid (∀ W, Below V7.heap.size V7 W → (W.cell? ⟨w4.heap.size, 0, none⟩ = some (.slice a1 n1 c1) ∧ W.cell? ⟨w4.heap.size, 1, none⟩ = some (.int .i64 x) ∧ W.cell? ⟨w4.heap.size, 2, none⟩ = some (.int .i64 y) ∧ W.cell? ⟨w4.heap.size, 3, none⟩ = some (.int .i64 z) ∧ W.cell? ⟨w4.heap.size + 1, 0, none⟩ = some (.int .i64 vt) ∧ W.cell? ⟨w4.heap.size + 1, 1, none⟩ = some (.int .i64 vd) ∧ W.cell? ⟨w4.heap.size + 1, 2, none⟩ = some (.int .i64 vn) ∧ W.cell? ⟨w4.heap.size + 1, 3, none⟩ = some (.int .i64 vs) ∧ W.cell? ⟨w4.heap.size + 1, 4, none⟩ = some (.int .u64 vv)) ∧ (W.cell? ⟨w5.heap.size, 0, none⟩ = some (.slice a2 n1 c2) ∧ W.cell? ⟨w5.heap.size, 1, none⟩ = some (.int .i64 x) ∧ W.cell? ⟨w5.heap.size, 2, none⟩ = some (.int .i64 y) ∧ W.cell? ⟨w5.heap.size, 3, none⟩ = some (.int .i64 z) ∧ W.cell? ⟨w5.heap.size + 1, 0, none⟩ = some (.int .i64 vt) ∧ W.cell? ⟨w5.heap.size + 1, 1, none⟩ = some (.int .i64 vd) ∧ W.cell? ⟨w5.heap.size + 1, 2, none⟩ = some (.int .i64 vn) ∧ W.cell? ⟨w5.heap.size + 1, 3, none⟩ = some (.int .i64 vs) ∧ W.cell? ⟨w5.heap.size + 1, 4, none⟩ = some (.int .u64 vv)) ∧ (W.cell? ⟨w6.heap.size, 0, none⟩ = some (.slice a3 n2 c3) ∧ W.cell? ⟨w6.heap.size, 1, none⟩ = some (.int .i64 x2) ∧ W.cell? ⟨w6.heap.size, 2, none⟩ = some (.int .i64 y2) ∧ W.cell? ⟨w6.heap.size, 3, none⟩ = some (.int .i64 z2)) ∧ (W.cell? ⟨w7.heap.size, 0, none⟩ = some (.slice a4 n2 c4) ∧ W.cell? ⟨w7.heap.size, 1, none⟩ = some (.int .i64 x2) ∧ W.cell? ⟨w7.heap.size, 2, none⟩ = some (.int .i64 y2) ∧ W.cell? ⟨w7.heap.size, 3, none⟩ = some (.int .i64 z2)) ∧ LAt W a1 l1 ∧ LAt W a2 l1 ∧ LAt W a3 l2 ∧ LAt W a4 l2 ∧ LAt W b3 g2 ∧ LAt W b4 g2) := Lib.hid (fun W t7 => by
      have t6 : Below V6.heap.size V6 W := b76.trans (t7.mono b76.size)
      have t5 : Below V5.heap.size V5 W := b75.trans (t7.mono b75.size)
      have t4 : Below V4.heap.size V4 W := b74.trans (t7.mono b74.size)
      have s7 : Below w7.heap.size w7 W := HW7.out.trans (t7.mono HW7.out.size)
      have s6 : Below w6.heap.size w6 W := HW6.out.trans (t6.mono HW6.out.size)
      have s5 : Below w5.heap.size w5 W := HW5.out.trans (t5.mono HW5.out.size)
      have s4 : Below w4.heap.size w4 W := HW4.out.trans (t4.mono HW4.out.size)
      have cl4 : ∀ {b j : Nat} {u : Value}, V4.cell? ⟨b, j, none⟩ = some u → W.cell? ⟨b, j, none⟩ = some u := fun h => (t4.cell (p := ⟨_, _, none⟩) (World.block_lt_of_cell? V4 _ h)).trans h
      have cl5 : ∀ {b j : Nat} {u : Value}, V5.cell? ⟨b, j, none⟩ = some u → W.cell? ⟨b, j, none⟩ = some u := fun h => (t5.cell (p := ⟨_, _, none⟩) (World.block_lt_of_cell? V5 _ h)).trans h
      have cl6 : ∀ {b j : Nat} {u : Value}, V6.cell? ⟨b, j, none⟩ = some u → W.cell? ⟨b, j, none⟩ = some u := fun h => (t6.cell (p := ⟨_, _, none⟩) (World.block_lt_of_cell? V6 _ h)).trans h
      have cl7 : ∀ {b j : Nat} {u : Value}, V7.cell? ⟨b, j, none⟩ = some u → W.cell? ⟨b, j, none⟩ = some u := fun h => (t7.cell (p := ⟨_, _, none⟩) (World.block_lt_of_cell? V7 _ h)).trans h
      exact ⟨⟨cl4 HC4.out.1, cl4 HC4.out.2.1, cl4 HC4.out.2.2.1, cl4 HC4.out.2.2.2.1, cl4 HC4.out.2.2.2.2.1, cl4 HC4.out.2.2.2.2.2.1, cl4 HC4.out.2.2.2.2.2.2.1, cl4 HC4.out.2.2.2.2.2.2.2.1, cl4 HC4.out.2.2.2.2.2.2.2.2⟩, ⟨cl5 HC5.out.1, cl5 HC5.out.2.1, cl5 HC5.out.2.2.1, cl5 HC5.out.2.2.2.1, cl5 HC5.out.2.2.2.2.1, cl5 HC5.out.2.2.2.2.2.1, cl5 HC5.out.2.2.2.2.2.2.1, cl5 HC5.out.2.2.2.2.2.2.2.1, cl5 HC5.out.2.2.2.2.2.2.2.2⟩, ⟨cl6 HC6.out.1, cl6 HC6.out.2.1, cl6 HC6.out.2.2.1, cl6 HC6.out.2.2.2⟩, ⟨cl7 HC7.out.1, cl7 HC7.out.2.1, cl7 HC7.out.2.2.1, cl7 HC7.out.2.2.2⟩, HLa4.out.below s4 (Nat.le_refl _), HLa5.out.below s5 (Nat.le_refl _), HLa6.out.below s6 (Nat.le_refl _), HLa7.out.below s7 (Nat.le_refl _), HLg6.out.below s6 (Nat.le_refl _), HLg7.out.below s7 (Nat.le_refl _)⟩)
    have hf := HF.out V7 (Below.refl _ _)
    rw [hV7] at hf
    obtain ⟨⟨p0, p1, p2, p3, p4, p5, p6, p7, p8⟩, ⟨q0, q1, q2, q3, q4, q5, q6, q7, q8⟩, ⟨r0, r1, r2, r3⟩, ⟨s0, s1, s2, s3⟩, t1, t2, t3, t4, t5, t6⟩ := hf
    clear b76 b75 b74 hV7
    go_wp2_with fail
    (try rw [← HV7.out])
    rw [← HV7.out] at t1 t2
    refine Calls.mono (same17 V7 a1 a2 n1 c1 c2 x y z l1 HN1.out.1 t1 t2 HN1.out.2) ?_
    rintro e w8 ⟨rfl, hb8⟩
    have HB8 := Lib.hid hb8
    clear hb8
    clear p0 p1 p2 p3 p4 p5 p6 p7 p8 q0 q1 q2 q3 q4 q5 q6 q7 q8 r0 r1 r2 r3 s0 s1 s2 s3 t1 t2 t3 t4 t5 t6
    obtain ⟨⟨p0, p1, p2, p3, p4, p5, p6, p7, p8⟩, ⟨q0, q1, q2, q3, q4, q5, q6, q7, q8⟩, ⟨r0, r1, r2, r3⟩, ⟨s0, s1, s2, s3⟩, t1, t2, t3, t4, t5, t6⟩ := HF.out w8 HB8.out
    go_wp2_with fail
    refine Calls.mono (same17 w8 a3 a4 n2 c3 c4 x2 y2 z2 l2 HN2.out.1 t3 t4 HN2.out.2) ?_
    rintro e w9 ⟨rfl, hb9⟩
    have HB9 : Hid (Below V7.heap.size V7 w9) := Lib.hid (HB8.out.trans (hb9.mono HB8.out.size))
    clear hb9
    clear p0 p1 p2 p3 p4 p5 p6 p7 p8 q0 q1 q2 q3 q4 q5 q6 q7 q8 r0 r1 r2 r3 s0 s1 s2 s3 t1 t2 t3 t4 t5 t6
    obtain ⟨⟨p0, p1, p2, p3, p4, p5, p6, p7, p8⟩, ⟨q0, q1, q2, q3, q4, q5, q6, q7, q8⟩, ⟨r0, r1, r2, r3⟩, ⟨s0, s1, s2, s3⟩, t1, t2, t3, t4, t5, t6⟩ := HF.out w9 HB9.out
    go_wp2_with fail
    refine Calls.mono (evs22 w9 b3 b4 m2 d3 d4 g2 HM2.out.1 t5 t6 HM2.out.2) ?_
    rintro e w10 ⟨rfl, hb10⟩
    have HB10 : Hid (Below V7.heap.size V7 w10) := Lib.hid (HB9.out.trans (hb10.mono HB9.out.size))
    clear hb10
    clear p0 p1 p2 p3 p4 p5 p6 p7 p8 q0 q1 q2 q3 q4 q5 q6 q7 q8 r0 r1 r2 r3 s0 s1 s2 s3 t1 t2 t3 t4 t5 t6
    go_wp2_with fail
    go_ret
    exact ⟨rfl, HX1.out.trans ((HB7.out.trans (HB10.out.mono HB7.out.size)).mono HX1.out.size)⟩
  · have d9 : decide (n ≤ 300) = false := by simpa using h9
    rw [d9]
    go_wp2_with fail
    go_ret
    exact ⟨rfl, HX1.out.trans (HB3.out.mono HX1.out.size)⟩
end Go.Proofs.Ytbhbebidkeejbaa
