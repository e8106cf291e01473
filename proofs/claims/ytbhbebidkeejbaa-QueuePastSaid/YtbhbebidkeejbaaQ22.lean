/- What is gone by does not come again (QueuePast). -/
import Derived.Test.YtbhbebidkeejbaaQ21
import Derived.Test.YtbhbebidkeejbaaP1
namespace Go.Proofs.Ytbhbebidkeejbaa
open Go.RowKit Go.Shelf
set_option linter.unusedVariables false
set_option linter.unusedSimpArgs false

theorem pushed_short {w w' : World} {now delta next : Int} {l : List EvV} {t d sig v : Int} {e : Ending} (h : Pushed w now delta next l t d sig v e w') :
    ∃ a m c x y z, e = .returned (.tuple #[.agg #[.slice a m c, .int .i64 x, .int .i64 y, .int .i64 z], .int .i64 (pushE now delta next l t d sig)]) ∧ Below w.heap.size w w' := by
  unfold Pushed at h
  by_cases h0 : pushE now delta next l t d sig = 0
  · rw [if_pos h0] at h
    obtain ⟨a, c, rfl, -, -, -, hb⟩ := h
    exact ⟨a, _, c, _, _, _, by rw [h0], hb⟩
  · rw [if_neg h0] at h
    obtain ⟨a, c, rfl, -, -, -, hb⟩ := h
    exact ⟨a, _, c, _, _, _, rfl, hb⟩
/-- What Push says of a queue that may be. -/
theorem push_says {now delta next : Int} {l : List EvV} {t d sig : Int} (h : QOk now delta next l) (hd : 0 ≤ d) (hs : 0 ≤ sig) (hx : next < 4611686018427387904) : pushE now delta next l t d sig = if goneB now delta t d = true then 140 else 0 := by
  unfold pushE
  rw [if_pos (check_ok.2 h), (lowB2 d sig).2 ⟨hd, hs⟩, decide_eq_false (by omega : ¬ 4611686018427387904 ≤ next), if_neg (by decide)]

set_option maxRecDepth 100000 in
set_option maxHeartbeats 4000000 in
theorem queuePast (w : World) (Q : QV) (hQ : QAt w Q) (hc : Q.l.length ≤ Q.c) (t : Int) (ht : I64 t) (d : Int) (hd : I64 d) (v : Int) (hv : U64 v) :
    Calls Try.prog 7 #[Q.val, .int .i64 t, .int .i64 d, .int .u64 v] w fun e w' => e = .returned (.bool true) ∧ Below w.heap.size w w' := by
  have HArg := Lib.hid (And.intro ht (And.intro hd hv))
  clear ht hd hv
  obtain ⟨a, c, l, now, delta, next⟩ := Q
  obtain ⟨h, hq1, hq2, hq3⟩ := hQ
  dsimp only at h hc hq1 hq2 hq3
  obtain ⟨n, hn⟩ : ∃ n, l.length = n := ⟨_, rfl⟩
  unfold QV.val
  dsimp only
  rw [hn] at hc ⊢
  obtain ⟨H, hH⟩ : ∃ h, h = w.heap.size := ⟨_, rfl⟩
  obtain ⟨w1, hw1⟩ : ∃ W, W = w.alloc (Obj.cells #[Value.slice a n c, Value.int IntKind.i64 now, Value.int IntKind.i64 delta, Value.int IntKind.i64 next] 24) := ⟨_, rfl⟩
  have HX1 : Hid (Below w.heap.size w w1) := Lib.hid (by rw [hw1]; exact (Below.refl _ _).alloc (Nat.le_refl _) _)
  have k0 : w1.cell? ⟨H, 0, none⟩ = some (.slice a n c) := by rw [hw1, hH]; simp
  have k1 : w1.cell? ⟨H, 1, none⟩ = some (.int .i64 now) := by rw [hw1, hH]; simp
  have k2 : w1.cell? ⟨H, 2, none⟩ = some (.int .i64 delta) := by rw [hw1, hH]; simp
  have k3 : w1.cell? ⟨H, 3, none⟩ = some (.int .i64 next) := by rw [hw1, hH]; simp
  have hl1 := h.below HX1.out (Nat.le_refl _)
  have HK : Hid (∀ W, Below w1.heap.size w1 W → W.cell? ⟨H, 0, none⟩ = some (.slice a n c) ∧ W.cell? ⟨H, 1, none⟩ = some (.int .i64 now) ∧ W.cell? ⟨H, 2, none⟩ = some (.int .i64 delta) ∧ W.cell? ⟨H, 3, none⟩ = some (.int .i64 next)) := Lib.hid (fun W hW => by
    have cl : ∀ {b j : Nat} {u : Value}, w1.cell? ⟨b, j, none⟩ = some u → W.cell? ⟨b, j, none⟩ = some u := fun h => (hW.cell (p := ⟨_, _, none⟩) (World.block_lt_of_cell? w1 _ h)).trans h
    exact ⟨cl k0, cl k1, cl k2, cl k3⟩)
  have HN := Lib.hid hn
  have HC := Lib.hid hc
  have HL1 := Lib.hid hl1
  have HQs := Lib.hid (And.intro hq1 (And.intro hq2 hq3))
  have HW1 := Lib.hid hw1
  have HHH := Lib.hid hH
  clear h hn hc hl1 hw1 hH k0 k1 k2 k3 hq1 hq2 hq3
  go_enter Try.func7, Try.ntmps7
  go_wp2_with fail
  rw [← HW1.out]
  (try rw [← HHH.out])
  refine Calls.mono (live9 w1) ?_
  rintro e w2 ⟨rfl, hb2⟩
  have HB2 := Lib.hid hb2
  clear hb2
  obtain ⟨k0, k1, k2, k3⟩ := HK.out w2 HB2.out
  go_wp2_with fail
  refine Calls.mono (few10 w2 a n c now delta next) ?_
  rintro e w3 ⟨rfl, hb3⟩
  have HB3 : Hid (Below w1.heap.size w1 w3) := Lib.hid (HB2.out.trans (hb3.mono HB2.out.size))
  clear hb3 k0 k1 k2 k3
  by_cases h9 : n ≤ 300
  · have d9 : decide (n ≤ 300) = true := by simpa using h9
    rw [d9]
    by_cases hd : d < 0
    · have dd : decide (d < 0) = true := by simpa using hd
      clear hd h9 d9
      go_wp2_with fail
      go_ret
      exact ⟨rfl, HX1.out.trans (HB3.out.mono HX1.out.size)⟩
    have dd : decide (d < 0) = false := by simpa using hd
    by_cases hx : 1000000 < next
    · have dx : decide (1000000 < next) = true := by simpa using hx
      obtain ⟨k0, k1, k2, k3⟩ := HK.out w3 HB3.out
      clear hd hx h9 d9
      go_wp2_with fail
      go_ret
      exact ⟨rfl, HX1.out.trans (HB3.out.mono HX1.out.size)⟩
    have dx : decide (1000000 < next) = false := by simpa using hx
    obtain ⟨k0, k1, k2, k3⟩ := HK.out w3 HB3.out
    go_wp2_with fail
    clear k0 k1 k2 k3 d9 dd dx
    refine Calls.mono (pop18 w3 a n c now delta next l HN.out (HL1.out.below HB3.out (Nat.le_refl _)) (by omega) HC.out) ?_
    intro e w4 hpo
    unfold Popped at hpo
    by_cases h0 : comeE now delta next l = 0
    · rw [if_pos h0] at hpo
      obtain ⟨hok, hlp⟩ := come_zero.1 h0
      have hok' := hok.come hlp 1 (Nat.le_refl _)
      have hx0 := hok.each _ (getD_in hlp)
      obtain ⟨x, hx⟩ : ∃ x, x = l.getD 0 default := ⟨_, rfl⟩
      rw [← hx] at hpo hok' hx0
      obtain ⟨xt, xd, xn, xs, xv⟩ := x
      dsimp only at hok' hx0 hpo
      obtain ⟨l1, hl1⟩ : ∃ l1, l1 = l.drop 1 := ⟨_, rfl⟩
      obtain ⟨n1, hn1⟩ : ∃ k, l1.length = k := ⟨_, rfl⟩
      rw [← hl1] at hpo hok'
      obtain ⟨a1, c1, rfl, hc1, -, hla, hb4⟩ := hpo
      rw [hn1] at hc1 ⊢
      have hn1b : n1 ≤ 1000 := by rw [← hn1, hl1, List.length_drop, HN.out]; omega
      have hE1 : pushE xt xd next l1 t d 0 = if goneB xt xd t d = true then 140 else 0 := push_says hok' (by omega) (by omega) (by omega)
      have hE2 : pushE xt xd next l1 xt xd 0 = 0 := by
        rw [push_says hok' hx0.2.1 (by omega) (by omega), if_neg]
        rw [goneB_iff]; omega
      have hIx : I64 xt ∧ I64 xd := by
        have := HL1.out.each ⟨xt, xd, xn, xs, xv⟩ (by rw [hx]; exact getD_in hlp)
        exact ⟨this.t, this.d⟩
      obtain ⟨V4, hV4⟩ : ∃ W, W = ((w4.alloc (Obj.cells #[Value.slice a1 n1 c1, Value.int IntKind.i64 xt, Value.int IntKind.i64 xd, Value.int IntKind.i64 next] 24)).alloc (Obj.cells #[Value.int IntKind.i64 xt, Value.int IntKind.i64 xd, Value.int IntKind.i64 xn, Value.int IntKind.i64 xs, Value.int IntKind.u64 xv] 35)) := ⟨_, rfl⟩
      have HW4 : Hid (Below w4.heap.size w4 V4) := Lib.hid (by rw [hV4]; exact ((Below.refl _ _).alloc (Nat.le_refl _) _).alloc (by simp) _)
      have HB4 : Hid (Below w1.heap.size w1 V4) := Lib.hid (HB3.out.trans ((hb4.trans (HW4.out.mono hb4.size)).mono HB3.out.size))
      have hq := qev_cells w4 a1 n1 c1 xt xd next xt xd xn xs xv hV4
      have HK4 : Hid (∀ W, Below V4.heap.size V4 W → (W.cell? ⟨w4.heap.size, 0, none⟩ = some (.slice a1 n1 c1) ∧ W.cell? ⟨w4.heap.size, 1, none⟩ = some (.int .i64 xt) ∧ W.cell? ⟨w4.heap.size, 2, none⟩ = some (.int .i64 xd) ∧ W.cell? ⟨w4.heap.size, 3, none⟩ = some (.int .i64 next) ∧ W.cell? ⟨w4.heap.size + 1, 0, none⟩ = some (.int .i64 xt) ∧ W.cell? ⟨w4.heap.size + 1, 1, none⟩ = some (.int .i64 xd)) ∧ LAt W a1 l1) := Lib.hid (fun W hW => by
        have cl : ∀ {b j : Nat} {u : Value}, V4.cell? ⟨b, j, none⟩ = some u → W.cell? ⟨b, j, none⟩ = some u := fun h => (hW.cell (p := ⟨_, _, none⟩) (World.block_lt_of_cell? V4 _ h)).trans h
        exact ⟨⟨cl hq.1, cl hq.2.1, cl hq.2.2.1, cl hq.2.2.2.1, cl hq.2.2.2.2.1, cl hq.2.2.2.2.2.1⟩, hla.below (HW4.out.trans (hW.mono HW4.out.size)) (Nat.le_refl _)⟩)
      have C1 : Hid (Calls Try.prog 11 #[.agg #[.slice a1 n1 c1, .int .i64 xt, .int .i64 xd, .int .i64 next], .int .i64 t, .int .i64 d, .int .i64 0, .int .u64 v] V4 (Pushed V4 xt xd next l1 t d 0 v)) := Lib.hid (push11 V4 a1 n1 c1 xt xd next l1 hn1 (HK4.out V4 (Below.refl _ _)).2 hn1b HQs.out.2.2 t d 0 v HArg.out.1 HArg.out.2.1 ⟨by decide, by decide⟩ HArg.out.2.2)
      have C2 : Hid (∀ W, Below V4.heap.size V4 W → Calls Try.prog 11 #[.agg #[.slice a1 n1 c1, .int .i64 xt, .int .i64 xd, .int .i64 next], .int .i64 xt, .int .i64 xd, .int .i64 0, .int .u64 v] W fun e w' => ∃ a m c x y z, e = .returned (.tuple #[.agg #[.slice a m c, .int .i64 x, .int .i64 y, .int .i64 z], .int .i64 0]) ∧ Below W.heap.size W w') := Lib.hid (fun W hW =>
        Calls.mono (push11 W a1 n1 c1 xt xd next l1 hn1 (HK4.out W hW).2 hn1b HQs.out.2.2 xt xd 0 v hIx.1 hIx.2 ⟨by decide, by decide⟩ HArg.out.2.2) (fun e w' h => by
          have := pushed_short h
          rw [hE2] at this
          exact this))
      have HE1 := Lib.hid hE1
      have HV4 := Lib.hid hV4
      clear h0 hok hlp hok' hx0 hx hc1 hla hb4 hn1b hE1 hE2 hIx hq hl1 hn1
      go_wp2_with fail
      (try rw [← HV4.out])
      refine Calls.mono C1.out ?_
      intro e w5 hpu
      obtain ⟨a2, m2, c2, x2, y2, z2, rfl, hb5⟩ := pushed_short hpu
      rw [HE1.out]
      clear hpu
      obtain ⟨V5, hV5⟩ : ∃ W, W = (w5.alloc (Obj.cells #[Value.slice a2 m2 c2, Value.int IntKind.i64 x2, Value.int IntKind.i64 y2, Value.int IntKind.i64 z2] 24)) := ⟨_, rfl⟩
      have HW5 : Hid (Below V4.heap.size V4 V5) := Lib.hid (by rw [hV5]; exact hb5.alloc hb5.size _)
      have HB5 : Hid (Below w1.heap.size w1 V5) := Lib.hid (HB4.out.trans (HW5.out.mono HB4.out.size))
      have hk := (HK4.out V5 HW5.out).1
      rw [hV5] at hk
      obtain ⟨p0, p1, p2, p3, q0, q1⟩ := hk
      have HV5 := Lib.hid hV5
      clear hb5 hV5
      by_cases c1 : t < xt
      · have e1 : decide (t < xt) = true := by simpa using c1
        have hg : goneB xt xd t d = true := by unfold goneB; simp; omega
        rw [hg, if_pos rfl]
        clear hg c1
        go_wp2_with fail
        (try rw [← HV5.out])
        refine Calls.mono (C2.out V5 HW5.out) ?_
        rintro e w6 ⟨a3, m3, c3, x3, y3, z3, rfl, hb6⟩
        have HB6 : Hid (Below w1.heap.size w1 w6) := Lib.hid (HB5.out.trans (hb6.mono HB5.out.size))
        clear hb6
        go_wp2_with fail
        go_ret
        exact ⟨rfl, HX1.out.trans ((HB6.out.alloc HB6.out.size _).mono HX1.out.size)⟩
      have e1 : decide (t < xt) = false := by simpa using c1
      by_cases c2 : t = xt
      · subst c2
        by_cases c3 : d < xd
        · have e3 : decide (d < xd) = true := by simpa using c3
          have hg : goneB t xd t d = true := by unfold goneB; simp; omega
          rw [hg, if_pos rfl]
          clear hg c1 c3
          go_wp2_with fail
          (try rw [← HV5.out])
          refine Calls.mono (C2.out V5 HW5.out) ?_
          rintro e w6 ⟨a3, m3, c3, x3, y3, z3, rfl, hb6⟩
          have HB6 : Hid (Below w1.heap.size w1 w6) := Lib.hid (HB5.out.trans (hb6.mono HB5.out.size))
          clear hb6
          go_wp2_with fail
          go_ret
          exact ⟨rfl, HX1.out.trans ((HB6.out.alloc HB6.out.size _).mono HX1.out.size)⟩
        · have e3 : decide (d < xd) = false := by simpa using c3
          have hg : goneB t xd t d = false := by unfold goneB; simp; omega
          rw [hg, if_neg (by decide)]
          clear hg c1 c3
          go_wp2_with fail
          (try rw [← HV5.out])
          refine Calls.mono (C2.out V5 HW5.out) ?_
          rintro e w6 ⟨a3, m3, c3, x3, y3, z3, rfl, hb6⟩
          have HB6 : Hid (Below w1.heap.size w1 w6) := Lib.hid (HB5.out.trans (hb6.mono HB5.out.size))
          clear hb6
          go_wp2_with fail
          go_ret
          exact ⟨rfl, HX1.out.trans ((HB6.out.alloc HB6.out.size _).mono HX1.out.size)⟩
      · have e2 : (t == xt) = false := by simpa using c2
        have hg : goneB xt xd t d = false := by unfold goneB; simp; omega
        rw [hg, if_neg (by decide)]
        clear hg c1 c2
        go_wp2_with fail
        (try rw [← HV5.out])
        refine Calls.mono (C2.out V5 HW5.out) ?_
        rintro e w6 ⟨a3, m3, c3, x3, y3, z3, rfl, hb6⟩
        have HB6 : Hid (Below w1.heap.size w1 w6) := Lib.hid (HB5.out.trans (hb6.mono HB5.out.size))
        clear hb6
        go_wp2_with fail
        go_ret
        exact ⟨rfl, HX1.out.trans ((HB6.out.alloc HB6.out.size _).mono HX1.out.size)⟩
    · rw [if_neg h0] at hpo
      obtain ⟨a1, c1, rfl, hc1, -, hla, hb4⟩ := hpo
      obtain ⟨E, hE⟩ : ∃ E, E = comeE now delta next l := ⟨_, rfl⟩
      rw [← hE] at h0 ⊢
      have hEb : (E == 0) = false := by simpa using h0
      have HBx : Hid (Below w1.heap.size w1 w4) := Lib.hid (HB3.out.trans (hb4.mono HB3.out.size))
      rw [List.length_nil]
      clear h0 hE hc1 hla hb4
      go_wp2_with fail
      go_ret
      exact ⟨rfl, HX1.out.trans (((HBx.out.alloc HBx.out.size _).alloc (Nat.le_trans HBx.out.size (by simp)) _).mono HX1.out.size)⟩
  · have d9 : decide (n ≤ 300) = false := by simpa using h9
    rw [d9]
    go_wp2_with fail
    go_ret
    exact ⟨rfl, HX1.out.trans (HB3.out.mono HX1.out.size)⟩
end Go.Proofs.Ytbhbebidkeejbaa
