/- Events come out in order (QueueOrder). -/
import Derived.Deep.CutBlock
import Derived.Test.YtbhbebidkeejbaaQ27
namespace Go.Proofs.Ytbhbebidkeejbaa
open Go.RowKit Go.Shelf
set_option linter.unusedVariables false
set_option linter.unusedSimpArgs false

theorem info_parts' : ∃ i5, Try.prog.info? 35 = some i5 ∧ i5.zero = some zero5 ∧ i5.size = 5 ∧ i5.bytes = 40 := by
  obtain ⟨i5, h1, h2, h3, h4⟩ := info_parts info35
  exact ⟨i5, h1, h2, h3, h4⟩
theorem own_put4 {w : World} {base n b : Nat} {v s : Value} {x y z : Int} {xs : List Value} (h : w.ownsRow base 35 5 v n xs) (hb : b < base) : (put4 w b s x y z).ownsRow base 35 5 v n xs := by
  refine own_of_block h (fun g hg => ?_)
  have hge := (h.lt g hg).1
  have hne : g ≠ b := by omega
  unfold Ytbhbebidkeejbaa.put4
  rw [Below.heap_setCell _ _ _ _ hne, Below.heap_setCell _ _ _ _ hne, Below.heap_setCell _ _ _ _ hne, Below.heap_setCell _ _ _ _ hne]
/-- Behind j Pops: a queue's box, and what came out. -/
def OSt (w3 wr : World) (H N : Nat) (L : List EvV) (s5 : Value) (j : Nat) : Prop :=
  (∃ (a : Option Addr) (n c : Nat) (now delta : Int), n + j = N ∧ QSt w3 wr H N a n c now delta (N : Int) (L.drop j)) ∧ wr.ownsRow (H + 1) 35 5 s5 j ((L.take j).flatMap EvV.cells)
theorem OSt.own {w3 wr : World} {H N : Nat} {L : List EvV} {s5 : Value} {j : Nat} (h : OSt w3 wr H N L s5 j) : wr.ownsRow (H + 1) 35 5 s5 j ((L.take j).flatMap EvV.cells) := h.2
theorem OSt.below {w3 wr wy : World} {H N : Nat} {L : List EvV} {s5 : Value} {j : Nat} (h : OSt w3 wr H N L s5 j) (hb : Below wr.heap.size wr wy) : OSt w3 wy H N L s5 j := by
  obtain ⟨⟨a, n, c, t, d, hn, hq⟩, ho⟩ := h
  exact ⟨⟨a, n, c, t, d, hn, hq.below hb⟩, own_below ho hb⟩
theorem ev_if {α : Type} {yt yd yn ys yv rt rd cN rg rv : Int} (h : ¬ (⟨yt, yd, yn, ys, yv⟩ : EvV) = ⟨rt, rd, cN, rg, rv⟩) (A B : α) : (if yt = rt then if yd = rd then if yn = cN then if ys = rg then if yv = rv then A else B else B else B else B else B) = B := by
  repeat' split
  all_goals first
    | rfl
    | (exfalso; apply h; simp [*])
/-- A Pop more. -/
theorem OSt.more {w3 wr wa : World} {H N : Nat} {L : List EvV} {s5 s5' : Value} {j n a1n c1 : Nat} {a1 : Option Addr} {x : EvV} (hw : w3.heap.size ≤ H) (hr : H < wr.heap.size) (hL : L.length = N) (hj : j < N) (hx : x = L.getD j default) (hn : n + j = N) (hb3 : Below w3.heap.size w3 wa)
    (c0 : ∃ u, wa.cell? ⟨H, 0, none⟩ = some u) (c1' : ∃ u, wa.cell? ⟨H, 1, none⟩ = some u) (c2 : ∃ u, wa.cell? ⟨H, 2, none⟩ = some u) (c3 : ∃ u, wa.cell? ⟨H, 3, none⟩ = some u) (fz : ∀ i, wa.frozen? ⟨H, i, none⟩ = false)
    (hl : (L.drop (j + 1)).length = a1n) (hla : LAt wa a1 (L.drop (j + 1))) (hc : a1n ≤ c1) (hf : ∀ p, a1 = some p → wr.heap.size ≤ p.block) (hok : QOk x.t x.d N (L.drop (j + 1))) (hN : N ≤ 60)
    (ho : wa.ownsRow (H + 1) 35 5 s5' (j + 1) ((L.take j).flatMap EvV.cells ++ x.cells)) : OSt w3 (put4 wa H (.slice a1 a1n c1) x.t x.d N) H N L s5' (j + 1) := by
  obtain ⟨_, z0⟩ := c0
  obtain ⟨_, z1⟩ := c1'
  obtain ⟨_, z2⟩ := c2
  obtain ⟨_, z3⟩ := c3
  obtain ⟨p0, p1, p2, p3⟩ := put4_cells (s := .slice a1 a1n c1) (x := x.t) (y := x.d) (z := (N : Int)) z0 z1 z2 z3
  have hne : 0 < (L.drop (j + 1)).length → ∀ p, a1 = some p → p.block ≠ H := fun _ p hp => by have := hf p hp; omega
  have hdl := hl
  rw [List.length_drop, hL] at hdl
  refine ⟨⟨a1, a1n, c1, x.t, x.d, by omega, p0, p1, p2, p3, fun i => put4_frozen.trans (fz i), hl, (((hla.setne hne).setne hne).setne hne).setne hne, hne, hc, by omega, hok, ⟨by omega, by omega⟩, put4_below hb3 hw⟩, ?_⟩
  rw [take_one L default j (by omega), List.flatMap_append, ← hx]
  have := own_put4 (b := H) (s := .slice a1 a1n c1) (x := x.t) (y := x.d) (z := (N : Int)) ho (Nat.lt_succ_self H)
  simpa using this
set_option maxRecDepth 100000 in
set_option maxHeartbeats 8000000 in
theorem queueOrder (w : World) (b2 : Option Addr) (c2 : Nat) (rs : List RowV) (hR : RowsAt w b2 rs) :
    Calls Try.prog 5 #[.slice b2 rs.length c2] w fun e w' => e = .returned (.bool true) ∧ Below w.heap.size w w' := by
  obtain ⟨m, hm⟩ : ∃ m, rs.length = m := ⟨_, rfl⟩
  rw [hm]
  have HR := Lib.hid hR
  have HM := Lib.hid hm
  clear hR hm
  go_enter Try.func5, Try.ntmps5
  go_wp2_with fail
  refine Calls.mono (live9 w) ?_
  rintro e w2 ⟨rfl, hb2⟩
  have HB2 := Lib.hid hb2
  clear hb2
  by_cases h60 : 60 < m
  · have d6 : decide (60 < m) = true := by simpa using h60
    have d6' : decide ((60 : Int) < (m : Int)) = true := by simp; omega
    clear h60
    go_wp2_with fail
    go_ret
    exact ⟨rfl, HB2.out⟩
  have d6 : decide (60 < m) = false := by simpa using h60
  have d6' : decide ((60 : Int) < (m : Int)) = false := by simp; omega
  have hm60 : m ≤ 60 := by omega
  clear h60
  go_wp2_with fail
  refine Calls.mono (filled23 w2 b2 c2 rs (HR.out.below HB2.out (Nat.le_refl _)) m HM.out hm60) ?_
  rintro e w3 ⟨a, c, rfl, hc, hla, hb3⟩
  have HB3 := Lib.hid (HB2.out.trans (hb3.mono HB2.out.size))
  have hfl := fl_len rs m
  have hfo := fl_ok rs m
  obtain ⟨N, hN⟩ : ∃ N, N = (fl rs m).2 := ⟨_, rfl⟩
  obtain ⟨L, hL⟩ : ∃ L, L = (fl rs m).1 := ⟨_, rfl⟩
  rw [← hN, ← hL] at hfl hfo
  rw [← hN] at hc ⊢
  rw [← hL] at hla
  have hNm : N ≤ m := hfl.2
  have HEa := Lib.hid hla.each
  have HNl : Hid (L.length = N) := Lib.hid hfl.1
  have HOk := Lib.hid hfo
  have HFl := Lib.hid (And.intro hN hL)
  obtain ⟨H, hH⟩ : ∃ h, h = w3.heap.size := ⟨_, rfl⟩
  obtain ⟨w4, hw4⟩ : ∃ W, W = (w3.alloc (Obj.cells #[Value.slice a N c, Value.int IntKind.i64 0, Value.int IntKind.i64 0, Value.int IntKind.i64 N] 24)).alloc (Obj.cells #[] 35) := ⟨_, rfl⟩
  have hq := q_cells w3 a N c 0 0 N
  have HS4 : Hid (OSt w3 w4 H N L (.slice (some ⟨H + 1, 0, none⟩) 0 0) 0) := Lib.hid (by
    have hs : (w3.alloc (Obj.cells #[Value.slice a N c, Value.int IntKind.i64 0, Value.int IntKind.i64 0, Value.int IntKind.i64 N] 24)).heap.size = H + 1 := by rw [hH]; simp
    rw [← hH] at hq
    refine ⟨⟨a, N, c, 0, 0, rfl, ?_, ?_, ?_, ?_, ?_, by rw [List.drop_zero]; exact HNl.out, ?_, ?_, hc, Nat.le_refl _, by rw [List.drop_zero]; exact hfo, ⟨by omega, by omega⟩, ?_⟩, ?_⟩
    · rw [hw4]; exact cell_alloc _ hq.1
    · rw [hw4]; exact cell_alloc _ hq.2.1
    · rw [hw4]; exact cell_alloc _ hq.2.2.1
    · rw [hw4]; exact cell_alloc _ hq.2.2.2
    · intro i
      rw [hw4, hH]
      refine (World.frozen?_of_block (Below.heap_alloc _ _ _ (by simp))).trans ?_
      exact fz_topF _ _ _ _
    · rw [List.drop_zero, hw4]
      exact hla.below (((Below.refl _ _).alloc (Nat.le_refl _) _).alloc (by simp) _) (Nat.le_refl _)
    · rw [List.drop_zero]
      intro h0 p hp
      obtain ⟨b, off, ha, hb, -⟩ := hla.ev 0 h0
      rw [ha] at hp
      injection hp with hp
      rw [← hp, hH]
      exact Nat.ne_of_lt hb
    · rw [hw4]; exact ((Below.refl _ _).alloc (Nat.le_refl _) _).alloc (by simp) _
    · rw [hw4, ← hs]
      exact World.ownsRow_lit (base := (w3.alloc (Obj.cells #[Value.slice a N c, Value.int IntKind.i64 0, Value.int IntKind.i64 0, Value.int IntKind.i64 N] 24)).heap.size) (size := 5) (w3.alloc (Obj.cells #[Value.slice a N c, Value.int IntKind.i64 0, Value.int IntKind.i64 0, Value.int IntKind.i64 N] 24)) #[] 0 (Nat.le_refl _) (Nat.zero_le _) rfl)
  have HB4 : Hid (Below w3.heap.size w3 w4) := Lib.hid (by rw [hw4]; exact ((Below.refl _ _).alloc (Nat.le_refl _) _).alloc (by simp) _)
  have HW4 := Lib.hid hw4
  have HHe := Lib.hid hH
  have hN60 : N ≤ 60 := by omega
  clear hfl hfo hN hL hH hw4 hq hc hla hb3 d6 d6'
  go_upto_block 0 with fail
  (try rw [← HW4.out])
  (try rw [← HHe.out])
  go_cut [5] from 25 to 62 (fun s5 wx => Hid (OSt w3 wx H N L s5 N))
  case first =>
    go_wp2_with fail
    go_loopg [5, 6] m (fun g s5 s6 wr => ∃ (v5 : Value) (j : Nat), s5 = v5 ∧ g + j = m ∧ j ≤ N ∧ s6 = .int .i64 j ∧ Hid (OSt w3 wr H N L v5 j))
    case atStart => exact ⟨_, 0, rfl, rfl, Nat.zero_le _, rfl, HS4⟩
    case round =>
      obtain ⟨v5, j, rfl, hgj, hjN, rfl, hh⟩ := hrel
      by_cases hjm : j < m
      · obtain ⟨⟨aq, nq, cq, tq, dq, hnj, HQ⟩, -⟩ := hh.out
        have k0 := HQ.c0
        have k1 := HQ.c1
        have k2 := HQ.c2
        have k3 := HQ.c3
        have HQ1 := Lib.hid HQ
        clear HQ HS4
        go_wp2_with fail
        refine Calls.mono (empty15 wr aq nq cq tq dq N) ?_
        rintro e w5 ⟨rfl, hb5⟩
        have HQ5 := Lib.hid (HQ1.out.below hb5)
        have HO5 := Lib.hid (hh.out.below hb5)
        have HB5 := Lib.hid hb5
        clear k0 k1 k2 k3 hb5
        have k0 := HQ5.out.c0
        have k1 := HQ5.out.c1
        have k2 := HQ5.out.c2
        have k3 := HQ5.out.c3
        by_cases hn0 : nq = 0
        · have dn : decide (nq = 0) = true := by simpa using hn0
          rw [dn]
          have hjN2 : j = N := by omega
          clear dn
          go_wp2_with fail
          go_meet
          exact hjN2 ▸ HO5
        · have dn : decide (nq = 0) = false := by simpa using hn0
          rw [dn]
          go_wp2_with fail
          have h0 : comeE tq dq N (L.drop j) = 0 := come_zero.2 ⟨HQ5.out.ok, by rw [HQ5.out.len]; omega⟩
          refine Calls.mono (pop18 w5 aq nq cq tq dq N (L.drop j) HQ5.out.len HQ5.out.lat (by have := HQ5.out.few; omega) HQ5.out.cap) ?_
          intro e w6 hpo
          unfold Popped at hpo
          rw [if_pos h0] at hpo
          have hok' := HQ5.out.ok.come (by rw [HQ5.out.len]; omega) 1 (Nat.le_refl _)
          have e1 : (L.drop j).drop 1 = L.drop (j + 1) := by rw [List.drop_drop]
          rw [getD_drop', Nat.add_zero, e1] at hpo hok'
          obtain ⟨x, hx⟩ : ∃ x, x = L.getD j default := ⟨_, rfl⟩
          rw [← hx] at hpo hok'
          obtain ⟨n1, hn1⟩ : ∃ k, (L.drop (j + 1)).length = k := ⟨_, rfl⟩
          have HX := Lib.hid hx
          have HOk' := Lib.hid hok'
          obtain ⟨xt, xd, xn, xs, xv⟩ := x
          dsimp only at hpo
          obtain ⟨a1, c1, rfl, hc1, hf1, hl1, hb6⟩ := hpo
          rw [hn1] at hc1 ⊢
          have HN1 := Lib.hid (And.intro hn1 (And.intro hc1 (And.intro hf1 hl1)))
          have HB6 : Hid (Below wr.heap.size wr w6) := Lib.hid (HB5.out.trans (hb6.mono HB5.out.size))
          have HHr : Hid (H < wr.heap.size) := Lib.hid HQ1.out.lt
          have HJ : Hid (j < N ∧ nq + j = N) := Lib.hid (by omega)
          obtain ⟨p0, p1, p2, p3, e0, e1, e2, e3, e4⟩ := qev_cells w6 a1 n1 c1 xt xd N xt xd xn xs xv rfl
          clear k0 k1 k2 k3 h0 hok' hx hn1 hc1 hf1 hl1 hb6 hn0 dn
          have hm60' := hm60
          obtain ⟨i5, hi5, hz0, hz1, hz2⟩ := info_parts' 
          have hB8 : Below wr.heap.size wr (((w6.alloc (Obj.cells #[Value.slice a1 n1 c1, Value.int IntKind.i64 xt, Value.int IntKind.i64 xd, Value.int IntKind.i64 N] 24)).alloc (Obj.cells #[Value.int IntKind.i64 xt, Value.int IntKind.i64 xd, Value.int IntKind.i64 xn, Value.int IntKind.i64 xs, Value.int IntKind.u64 xv] 35)).alloc (Obj.cells #[Value.int IntKind.i64 xt, Value.int IntKind.i64 xd, Value.int IntKind.i64 xn, Value.int IntKind.i64 xs, Value.int IntKind.u64 xv] 35)) := ((HB6.out.alloc HB6.out.size _).alloc (Nat.le_trans HB6.out.size (by simp)) _).alloc (Nat.le_trans HB6.out.size (by simp <;> omega)) _
          have hbs : H + 1 ≤ (((w6.alloc (Obj.cells #[Value.slice a1 n1 c1, Value.int IntKind.i64 xt, Value.int IntKind.i64 xd, Value.int IntKind.i64 N] 24)).alloc (Obj.cells #[Value.int IntKind.i64 xt, Value.int IntKind.i64 xd, Value.int IntKind.i64 xn, Value.int IntKind.i64 xs, Value.int IntKind.u64 xv] 35)).alloc (Obj.cells #[Value.int IntKind.i64 xt, Value.int IntKind.i64 xd, Value.int IntKind.i64 xn, Value.int IntKind.i64 xs, Value.int IntKind.u64 xv] 35)).heap.size := Nat.le_trans (Nat.le_trans (Nat.succ_le_of_lt HHr.out) hB8.size) (Nat.le_refl _)
          have hat : (((w6.alloc (Obj.cells #[Value.slice a1 n1 c1, Value.int IntKind.i64 xt, Value.int IntKind.i64 xd, Value.int IntKind.i64 N] 24)).alloc (Obj.cells #[Value.int IntKind.i64 xt, Value.int IntKind.i64 xd, Value.int IntKind.i64 xn, Value.int IntKind.i64 xs, Value.int IntKind.u64 xv] 35)).alloc (Obj.cells #[Value.int IntKind.i64 xt, Value.int IntKind.i64 xd, Value.int IntKind.i64 xn, Value.int IntKind.i64 xs, Value.int IntKind.u64 xv] 35)).heap[w6.heap.size + 1 + 1]? = some (.cells (EvV.cells ⟨xt, xd, xn, xs, xv⟩).toArray 35 (0, 0)) := by
            have h1 := alloc_top ((w6.alloc (Obj.cells #[Value.slice a1 n1 c1, Value.int IntKind.i64 xt, Value.int IntKind.i64 xd, Value.int IntKind.i64 N] 24)).alloc (Obj.cells #[Value.int IntKind.i64 xt, Value.int IntKind.i64 xd, Value.int IntKind.i64 xn, Value.int IntKind.i64 xs, Value.int IntKind.u64 xv] 35)) (Obj.cells #[Value.int IntKind.i64 xt, Value.int IntKind.i64 xd, Value.int IntKind.i64 xn, Value.int IntKind.i64 xs, Value.int IntKind.u64 xv] 35)
            rw [show ((w6.alloc (Obj.cells #[Value.slice a1 n1 c1, Value.int IntKind.i64 xt, Value.int IntKind.i64 xd, Value.int IntKind.i64 N] 24)).alloc (Obj.cells #[Value.int IntKind.i64 xt, Value.int IntKind.i64 xd, Value.int IntKind.i64 xn, Value.int IntKind.i64 xs, Value.int IntKind.u64 xv] 35)).heap.size = w6.heap.size + 1 + 1 by simp] at h1
            exact h1
          have hown8 : (((w6.alloc (Obj.cells #[Value.slice a1 n1 c1, Value.int IntKind.i64 xt, Value.int IntKind.i64 xd, Value.int IntKind.i64 N] 24)).alloc (Obj.cells #[Value.int IntKind.i64 xt, Value.int IntKind.i64 xd, Value.int IntKind.i64 xn, Value.int IntKind.i64 xs, Value.int IntKind.u64 xv] 35)).alloc (Obj.cells #[Value.int IntKind.i64 xt, Value.int IntKind.i64 xd, Value.int IntKind.i64 xn, Value.int IntKind.i64 xs, Value.int IntKind.u64 xv] 35)).ownsRow (H + 1) 35 5 u5 j ((L.take j).flatMap EvV.cells) := own_below hh.out.own hB8
          go_upto_region 15 with (at_builtin; go_loud (
            refine wpList_append_own _ rfl (.tmp 58) (.tmp 60) 22 rfl (H + 1) 35 i5 zero5 5 40 Try.underlying22 hi5 hz0 hz1 hz2 rfl (by decide) u5 j _ rfl hown8 ⟨w6.heap.size + 1 + 1, 0, none⟩ 1 1 (EvV.cells ⟨xt, xd, xn, xs, xv⟩) rfl rfl (ev_cells_at hat _ rfl) (cells_one _) (by unfold maxLen; omega) (by omega) hbs ?_
            intro v8 wa ho hg hnil))
          have HO8 := Lib.hid ho
          have HBa : Hid (Below (H + 1) (((w6.alloc (Obj.cells #[Value.slice a1 n1 c1, Value.int IntKind.i64 xt, Value.int IntKind.i64 xd, Value.int IntKind.i64 N] 24)).alloc (Obj.cells #[Value.int IntKind.i64 xt, Value.int IntKind.i64 xd, Value.int IntKind.i64 xn, Value.int IntKind.i64 xs, Value.int IntKind.u64 xv] 35)).alloc (Obj.cells #[Value.int IntKind.i64 xt, Value.int IntKind.i64 xd, Value.int IntKind.i64 xn, Value.int IntKind.i64 xs, Value.int IntKind.u64 xv] 35)) wa) := Lib.hid ((Below.refl _ _).grown hg hbs (fun k e => (hown8.lt k e).1))
          have HGr := Lib.hid hg
          have hgk : ∀ b, b < (((w6.alloc (Obj.cells #[Value.slice a1 n1 c1, Value.int IntKind.i64 xt, Value.int IntKind.i64 xd, Value.int IntKind.i64 N] 24)).alloc (Obj.cells #[Value.int IntKind.i64 xt, Value.int IntKind.i64 xd, Value.int IntKind.i64 xn, Value.int IntKind.i64 xs, Value.int IntKind.u64 xv] 35)).alloc (Obj.cells #[Value.int IntKind.i64 xt, Value.int IntKind.i64 xd, Value.int IntKind.i64 xn, Value.int IntKind.i64 xs, Value.int IntKind.u64 xv] 35)).heap.size → wr.heap.size ≤ b → wa.heap[b]? = (((w6.alloc (Obj.cells #[Value.slice a1 n1 c1, Value.int IntKind.i64 xt, Value.int IntKind.i64 xd, Value.int IntKind.i64 N] 24)).alloc (Obj.cells #[Value.int IntKind.i64 xt, Value.int IntKind.i64 xd, Value.int IntKind.i64 xn, Value.int IntKind.i64 xs, Value.int IntKind.u64 xv] 35)).alloc (Obj.cells #[Value.int IntKind.i64 xt, Value.int IntKind.i64 xd, Value.int IntKind.i64 xn, Value.int IntKind.i64 xs, Value.int IntKind.u64 xv] 35)).heap[b]? := fun b hb hge => hg.block b hb (fun e => by
            have := (hh.out.own.lt b e.symm).2
            omega)
          have h6s : wr.heap.size ≤ w6.heap.size := HB6.out.size
          have p0' : wa.cell? ⟨w6.heap.size, 0, none⟩ = some (.slice a1 n1 c1) := (World.cell?_of_block (w := (((w6.alloc (Obj.cells #[Value.slice a1 n1 c1, Value.int IntKind.i64 xt, Value.int IntKind.i64 xd, Value.int IntKind.i64 N] 24)).alloc (Obj.cells #[Value.int IntKind.i64 xt, Value.int IntKind.i64 xd, Value.int IntKind.i64 xn, Value.int IntKind.i64 xs, Value.int IntKind.u64 xv] 35)).alloc (Obj.cells #[Value.int IntKind.i64 xt, Value.int IntKind.i64 xd, Value.int IntKind.i64 xn, Value.int IntKind.i64 xs, Value.int IntKind.u64 xv] 35))) (hgk w6.heap.size (by simp <;> omega) h6s)).trans (cell_alloc _ p0)
          have p1' : wa.cell? ⟨w6.heap.size, 1, none⟩ = some (.int .i64 xt) := (World.cell?_of_block (w := (((w6.alloc (Obj.cells #[Value.slice a1 n1 c1, Value.int IntKind.i64 xt, Value.int IntKind.i64 xd, Value.int IntKind.i64 N] 24)).alloc (Obj.cells #[Value.int IntKind.i64 xt, Value.int IntKind.i64 xd, Value.int IntKind.i64 xn, Value.int IntKind.i64 xs, Value.int IntKind.u64 xv] 35)).alloc (Obj.cells #[Value.int IntKind.i64 xt, Value.int IntKind.i64 xd, Value.int IntKind.i64 xn, Value.int IntKind.i64 xs, Value.int IntKind.u64 xv] 35))) (hgk w6.heap.size (by simp <;> omega) h6s)).trans (cell_alloc _ p1)
          have p2' : wa.cell? ⟨w6.heap.size, 2, none⟩ = some (.int .i64 xd) := (World.cell?_of_block (w := (((w6.alloc (Obj.cells #[Value.slice a1 n1 c1, Value.int IntKind.i64 xt, Value.int IntKind.i64 xd, Value.int IntKind.i64 N] 24)).alloc (Obj.cells #[Value.int IntKind.i64 xt, Value.int IntKind.i64 xd, Value.int IntKind.i64 xn, Value.int IntKind.i64 xs, Value.int IntKind.u64 xv] 35)).alloc (Obj.cells #[Value.int IntKind.i64 xt, Value.int IntKind.i64 xd, Value.int IntKind.i64 xn, Value.int IntKind.i64 xs, Value.int IntKind.u64 xv] 35))) (hgk w6.heap.size (by simp <;> omega) h6s)).trans (cell_alloc _ p2)
          have p3' : wa.cell? ⟨w6.heap.size, 3, none⟩ = some (.int .i64 N) := (World.cell?_of_block (w := (((w6.alloc (Obj.cells #[Value.slice a1 n1 c1, Value.int IntKind.i64 xt, Value.int IntKind.i64 xd, Value.int IntKind.i64 N] 24)).alloc (Obj.cells #[Value.int IntKind.i64 xt, Value.int IntKind.i64 xd, Value.int IntKind.i64 xn, Value.int IntKind.i64 xs, Value.int IntKind.u64 xv] 35)).alloc (Obj.cells #[Value.int IntKind.i64 xt, Value.int IntKind.i64 xd, Value.int IntKind.i64 xn, Value.int IntKind.i64 xs, Value.int IntKind.u64 xv] 35))) (hgk w6.heap.size (by simp <;> omega) h6s)).trans (cell_alloc _ p3)
          have hbW : Below wr.heap.size wr (((w6.alloc (Obj.cells #[Value.slice a1 n1 c1, Value.int IntKind.i64 xt, Value.int IntKind.i64 xd, Value.int IntKind.i64 N] 24)).alloc (Obj.cells #[Value.int IntKind.i64 xt, Value.int IntKind.i64 xd, Value.int IntKind.i64 xn, Value.int IntKind.i64 xs, Value.int IntKind.u64 xv] 35)).alloc (Obj.cells #[Value.int IntKind.i64 xt, Value.int IntKind.i64 xd, Value.int IntKind.i64 xn, Value.int IntKind.i64 xs, Value.int IntKind.u64 xv] 35)) := hB8
          have hqa := HQ1.out.below hbW
          have hlH : H < H + 1 := Nat.lt_succ_self H
          have k0 := (HBa.out.cell (p := ⟨H, 0, none⟩) hlH).trans hqa.c0
          have k1 := (HBa.out.cell (p := ⟨H, 1, none⟩) hlH).trans hqa.c1
          have k2 := (HBa.out.cell (p := ⟨H, 2, none⟩) hlH).trans hqa.c2
          have k3 := (HBa.out.cell (p := ⟨H, 3, none⟩) hlH).trans hqa.c3
          have hfz : ∀ i, wa.frozen? ⟨H, i, none⟩ = false := fun i => (HBa.out.frozen (p := ⟨H, i, none⟩) hlH).trans (hqa.fz i)
          have f0 := hfz 0
          have f1 := hfz 1
          have f2 := hfz 2
          have f3 := hfz 3
          have hla : LAt wa a1 (L.drop (j + 1)) := by
            have h8 : LAt (((w6.alloc (Obj.cells #[Value.slice a1 n1 c1, Value.int IntKind.i64 xt, Value.int IntKind.i64 xd, Value.int IntKind.i64 N] 24)).alloc (Obj.cells #[Value.int IntKind.i64 xt, Value.int IntKind.i64 xd, Value.int IntKind.i64 xn, Value.int IntKind.i64 xs, Value.int IntKind.u64 xv] 35)).alloc (Obj.cells #[Value.int IntKind.i64 xt, Value.int IntKind.i64 xd, Value.int IntKind.i64 xn, Value.int IntKind.i64 xs, Value.int IntKind.u64 xv] 35)) a1 (L.drop (j + 1)) := HN1.out.2.2.2.below ((((Below.refl _ _).alloc (Nat.le_refl _) _).alloc (by simp) _).alloc (by simp <;> omega) _) (Nat.le_refl _)
            refine h8.grown (B := wr.heap.size) (fun p hp => Nat.le_trans HB5.out.size (HN1.out.2.2.1 p hp)) hg (fun k e => ?_)
            exact (hh.out.own.lt k e).2
          have HFin : Hid (OSt w3 (put4 wa H (.slice a1 n1 c1) xt xd N) H N L v8 (j + 1)) := Lib.hid (OSt.more (s5 := .bool true) (x := ⟨xt, xd, xn, xs, xv⟩) (wr := wr) (n := nq) (Nat.le_of_eq HHe.out.symm) HHr.out HNl.out HJ.out.1 HX.out HJ.out.2 ((hqa.bel).trans ((HBa.out.mono (show w3.heap.size ≤ H + 1 by rw [HHe.out]; omega)))) ⟨_, k0⟩ ⟨_, k1⟩ ⟨_, k2⟩ ⟨_, k3⟩ hfz HN1.out.1 hla HN1.out.2.1 (fun p hp => Nat.le_trans HB5.out.size (HN1.out.2.2.1 p hp)) HOk'.out (by omega) (by simpa using ho))
          have hHP : H ≠ w6.heap.size := by have := HHr.out; omega
          clear p0 p1 p2 p3 e0 e1 e2 e3 e4 hB8 hbs hown8 ho hg hnil hgk h6s hbW hqa hlH hfz hla hi5 hz0 hz1 hz2
          go_wp2_with fail
          go_roundg (m - (j + 1))
          case measure => omega
          case rel => exact ⟨v8, j + 1, rfl, by omega, by have := HJ.out.1; omega, by go_num, HFin⟩
      · have hjN2 : j = N := by omega
        have hdj : decide (j < m) = false := by simpa using hjm
        go_wp2_with fail
        go_meet
        exact hjN2 ▸ hh
  case rest =>
    obtain ⟨wS, hwS⟩ : ∃ W, W = wc := ⟨_, rfl⟩
    subst hwS
    obtain ⟨⟨aq, nq, cq, tq, dq, hnq, HQ⟩, ho⟩ := hcut.out
    obtain rfl : nq = 0 := by omega
    have HQ1 := Lib.hid HQ
    rw [List.take_of_length_le (by rw [HNl.out]; exact Nat.le_refl _)] at ho
    obtain ⟨oa, cp, hu5, hcp⟩ := own_slice ho
    subst hu5
    have hLo : LAt wS oa L := own_lat (c := cp) ho HNl.out (fun e he => HEa.out e he)
    have HLo : Hid (∀ W, Below wS.heap.size wS W → LAt W oa L) := Lib.hid (fun W hW => hLo.below hW (Nat.le_refl _))
    have HBS : Hid (Below w.heap.size w wS) := Lib.hid (HB3.out.trans (HQ1.out.bel.mono HB3.out.size))
    have HRo : Hid (∀ W, Below wS.heap.size wS W → RowsAt W b2 rs) := Lib.hid (fun W hW => HR.out.below (HBS.out.trans (hW.mono HBS.out.size)) (Nat.le_refl _))
    clear HQ ho hLo hcut hnq HS4
    go_wp2_with fail
    go_loopg [10, 11] m (fun g s10 s11 wr => ∃ i : Nat, g + i = m ∧ s10 = .int .i64 ((fl rs i).2 : Nat) ∧ s11 = .int .i64 i ∧ Hid (Below wS.heap.size wS wr))
    case atStart => exact ⟨0, rfl, rfl, rfl, Lib.hid (Below.refl _ _)⟩
    case round =>
      obtain ⟨i, hgi, rfl, rfl, hhi⟩ := hrel
      have HBi := hhi
      by_cases him : i < m
      · obtain ⟨rb, ro, hb2, -, r0, r1, r2, r3⟩ := (HRo.out wr HBi.out).row i (by rw [HM.out]; exact him)
        subst hb2
        have hfy := fl_yes (rs := rs) (k := i)
        have hfn := fl_no (rs := rs) (k := i)
        have hac := accB_iff (rs.getD i default)
        have hmem := fl_mem rs i
        obtain ⟨cN, hcN⟩ : ∃ c, c = (fl rs i).2 := ⟨_, rfl⟩
        have hcl : cN ≤ i := by rw [hcN]; exact (fl_len rs i).2
        have hrow : ∀ W, Below wS.heap.size wS W → W.cell? ⟨rb, ro + i * 4, none⟩ = some (.int .i64 (rs.getD i default).t) ∧ W.cell? ⟨rb, ro + i * 4 + 1, none⟩ = some (.int .i64 (rs.getD i default).d) ∧ W.cell? ⟨rb, ro + i * 4 + 2, none⟩ = some (.int .i64 (rs.getD i default).sig) ∧ W.cell? ⟨rb, ro + i * 4 + 3, none⟩ = some (.int .u64 (rs.getD i default).v) := fun W hW => by
          obtain ⟨b', o', hb', -, h0, h1, h2, h3⟩ := (HRo.out W hW).row i (by rw [HM.out]; exact him)
          injection hb' with hb'
          injection hb' with hb1 hb2
          subst hb1 hb2
          exact ⟨h0, h1, h2, h3⟩
        obtain ⟨row, hrw⟩ : ∃ r, r = rs.getD i default := ⟨_, rfl⟩
        rw [← hrw] at r0 r1 r2 r3 hac hmem hrow hfy hfn
        rw [← hcN] at hmem hfy ⊢
        obtain ⟨rt, rd, rg, rv⟩ := row
        dsimp only at r0 r1 r2 r3 hac hrow
        have HRw := Lib.hid hrow
        have HFn : Hid (¬ (0 ≤ rt ∧ 0 ≤ rd ∧ 0 ≤ rg) → (fl rs (i + 1)).2 = cN) := Lib.hid (fun h => by
          rw [hfn (by
            cases ha : accB ⟨rt, rd, rg, rv⟩ with
            | false => rfl
            | true => exact absurd (hac.1 ha) h), hcN])
        have HFy : Hid ((0 ≤ rt ∧ 0 ≤ rd ∧ 0 ≤ rg) → (fl rs (i + 1)).2 = cN + 1 ∧ cntE L ⟨rt, rd, cN, rg, rv⟩ N = 1) := Lib.hid (fun h => by
          have ha := hac.2 h
          refine ⟨by rw [hfy ha], ?_⟩
          have hmm := hmem ha m (by omega)
          rw [← HFl.out.2] at hmm
          have := cntE_one HOk.out.sorted hmm
          rw [HNl.out] at this
          exact this)
        clear hhi hrow hrw hfy hfn hac hmem hcN
        by_cases h1 : rt < 0
        · have d1 : decide (rt < 0) = true := by simpa using h1
          have HF := Lib.hid (HFn.out (by omega))
          clear h1
          go_wp2_with fail
          go_roundg (m - (i + 1))
          case measure => omega
          case rel => exact ⟨i + 1, by omega, by rw [HF.out], by go_num, HBi⟩
        have d1 : decide (rt < 0) = false := by simpa using h1
        by_cases h2 : rd < 0
        · have d2 : decide (rd < 0) = true := by simpa using h2
          have HF := Lib.hid (HFn.out (by omega))
          clear h1 h2
          go_wp2_with fail
          go_roundg (m - (i + 1))
          case measure => omega
          case rel => exact ⟨i + 1, by omega, by rw [HF.out], by go_num, HBi⟩
        have d2 : decide (rd < 0) = false := by simpa using h2
        by_cases h3 : rg < 0
        · have d3 : decide (rg < 0) = true := by simpa using h3
          have HF := Lib.hid (HFn.out (by omega))
          clear h1 h2 h3
          go_wp2_with fail
          go_roundg (m - (i + 1))
          case measure => omega
          case rel => exact ⟨i + 1, by omega, by rw [HF.out], by go_num, HBi⟩
        have d3 : decide (rg < 0) = false := by simpa using h3
        have HF := Lib.hid (HFy.out (by omega))
        clear h1 h2 h3
        go_wp2_with fail
        go_loopg [12, 13] N (fun g s12 s13 wq => ∃ k : Nat, g + k = N ∧ s12 = .int .i64 (cntE L ⟨rt, rd, cN, rg, rv⟩ k : Nat) ∧ s13 = .int .i64 k ∧ Hid (Below wS.heap.size wS wq))
        case atStart => exact ⟨0, by omega, rfl, rfl, HBi⟩
        case round =>
          obtain ⟨k, hgk2, rfl, rfl, HBk⟩ := hrel
          clear r0 r1 r2 r3
          by_cases hkN : k < N
          · obtain ⟨r0, r1, r2, r3⟩ := HRw.out wr HBk.out
            obtain ⟨ob, oo, rfl, -, u0, u1, u2, u3, u4⟩ := (HLo.out wr HBk.out).ev k (by rw [HNl.out]; exact hkN)
            have hyes := cntE_yes (l := L) (x := ⟨rt, rd, cN, rg, rv⟩) (k := k)
            have hno := cntE_no (l := L) (x := ⟨rt, rd, cN, rg, rv⟩) (k := k)
            have hcle := cntE_le L ⟨rt, rd, cN, rg, rv⟩ k
            obtain ⟨y, hy⟩ : ∃ y, y = L.getD k default := ⟨_, rfl⟩
            rw [← hy] at u0 u1 u2 u3 u4 hyes hno
            obtain ⟨ck, hck⟩ : ∃ c, c = cntE L ⟨rt, rd, cN, rg, rv⟩ k := ⟨_, rfl⟩
            rw [← hck] at hyes hno hcle ⊢
            obtain ⟨yt, yd, yn, ys, yv⟩ := y
            dsimp only at u0 u1 u2 u3 u4
            clear hy hck
            by_cases hE : (⟨yt, yd, yn, ys, yv⟩ : EvV) = ⟨rt, rd, cN, rg, rv⟩
            · have HYes := Lib.hid (hyes hE)
              clear hyes hno
              injection hE with q1 q2 q3 q4 q5
              subst q1 q2 q3 q4 q5
              go_wp2_with fail
              refine wp_region_held_drew (S := fun w' => w'.cell? ⟨ob, oo + k * 5, none⟩ = some (.int .i64 yt) ∧ w'.cell? ⟨ob, oo + k * 5 + 1, none⟩ = some (.int .i64 yd) ∧ w'.cell? ⟨ob, oo + k * 5 + 2, none⟩ = some (.int .i64 (cN : Int)) ∧ w'.cell? ⟨ob, oo + k * 5 + 3, none⟩ = some (.int .i64 ys) ∧ w'.cell? ⟨ob, oo + k * 5 + 4, none⟩ = some (.int .u64 yv) ∧ w'.cell? ⟨rb, ro + i * 4, none⟩ = some (.int .i64 yt) ∧ w'.cell? ⟨rb, ro + i * 4 + 1, none⟩ = some (.int .i64 yd) ∧ w'.cell? ⟨rb, ro + i * 4 + 2, none⟩ = some (.int .i64 ys) ∧ w'.cell? ⟨rb, ro + i * 4 + 3, none⟩ = some (.int .u64 yv)) (by kernel_rfl) (⟨u0, u1, u2, u3, u4, r0, r1, r2, r3⟩) (fun hHeld => ?_)
              refine wpAnyH_take (i := 0) (v := ?_) (by simp only [List.getElem?_toArray, List.getElem?_cons_succ, List.getElem?_cons_zero]; rfl) (by kernel_rfl) (by kernel_rfl) (by kernel_rfl) (by intro _ _ _ h; exact h) (Or.inl ⟨by rfl, ?_⟩) (by assumption) ?_
              rotate_left
              · intro w hSw; (try dsimp only at hSw); go_simp; try with_reducible rfl
              try simp only [Act.put, List.setIfInBounds_toArray, List.set_cons_zero, List.set_cons_succ]
              refine wpAnyH_take (i := 1) (v := ?_) (by simp only [List.getElem?_toArray, List.getElem?_cons_succ, List.getElem?_cons_zero]; rfl) (by kernel_rfl) (by kernel_rfl) (by kernel_rfl) (by intro _ _ _ h; exact h) (Or.inl ⟨by rfl, ?_⟩) (by assumption) ?_
              rotate_left
              · intro w hSw; (try dsimp only at hSw); go_simp; try with_reducible rfl
              try simp only [Act.put, List.setIfInBounds_toArray, List.set_cons_zero, List.set_cons_succ]
              refine wpAnyH_take (i := 2) (v := ?_) (by simp only [List.getElem?_toArray, List.getElem?_cons_succ, List.getElem?_cons_zero]; rfl) (by kernel_rfl) (by kernel_rfl) (by kernel_rfl) (by intro _ _ _ h; exact h) (Or.inl ⟨by rfl, ?_⟩) (by assumption) ?_
              rotate_left
              · intro w hSw; (try dsimp only at hSw); go_simp; first | with_reducible rfl | rw [if_pos (by omega)]
              try simp only [Act.put, List.setIfInBounds_toArray, List.set_cons_zero, List.set_cons_succ]
              refine wpAnyH_take (i := 3) (v := ?_) (by simp only [List.getElem?_toArray, List.getElem?_cons_succ, List.getElem?_cons_zero]; rfl) (by kernel_rfl) (by kernel_rfl) (by kernel_rfl) (by intro _ _ _ h; exact h) (Or.inl ⟨by rfl, ?_⟩) (by assumption) ?_
              rotate_left
              · intro w hSw; (try dsimp only at hSw); go_simp; try with_reducible rfl
              try simp only [Act.put, List.setIfInBounds_toArray, List.set_cons_zero, List.set_cons_succ]
              refine wpAnyH_take (i := 4) (v := ?_) (by simp only [List.getElem?_toArray, List.getElem?_cons_succ, List.getElem?_cons_zero]; rfl) (by kernel_rfl) (by kernel_rfl) (by kernel_rfl) (by intro _ _ _ h; exact h) (Or.inl ⟨by rfl, ?_⟩) (by assumption) ?_
              rotate_left
              · intro w hSw; (try dsimp only at hSw); go_simp; try with_reducible rfl
              try simp only [Act.put, List.setIfInBounds_toArray, List.set_cons_zero, List.set_cons_succ]
              refine wpAnyH_take (i := 5) (v := ?_) (by simp only [List.getElem?_toArray, List.getElem?_cons_succ, List.getElem?_cons_zero]; rfl) (by kernel_rfl) (by kernel_rfl) (by kernel_rfl) (by intro _ _ _ h; exact h) (Or.inl ⟨by rfl, ?_⟩) (by assumption) ?_
              rotate_left
              · intro w hSw; (try dsimp only at hSw); go_simp; try with_reducible rfl
              try simp only [Act.put, List.setIfInBounds_toArray, List.set_cons_zero, List.set_cons_succ]
              refine wpAnyH_take (i := 6) (v := ?_) (by simp only [List.getElem?_toArray, List.getElem?_cons_succ, List.getElem?_cons_zero]; rfl) (by kernel_rfl) (by kernel_rfl) (by kernel_rfl) (by intro _ _ _ h; exact h) (Or.inl ⟨by rfl, ?_⟩) (by assumption) ?_
              rotate_left
              · intro w hSw; (try dsimp only at hSw); go_simp; first | with_reducible rfl | rw [if_pos (by omega)]
              try simp only [Act.put, List.setIfInBounds_toArray, List.set_cons_zero, List.set_cons_succ]
              refine wpAnyH_take (i := 7) (v := ?_) (by simp only [List.getElem?_toArray, List.getElem?_cons_succ, List.getElem?_cons_zero]; rfl) (by kernel_rfl) (by kernel_rfl) (by kernel_rfl) (by intro _ _ _ h; exact h) (Or.inl ⟨by rfl, ?_⟩) (by assumption) ?_
              rotate_left
              · intro w hSw; (try dsimp only at hSw); go_simp; try with_reducible rfl
              try simp only [Act.put, List.setIfInBounds_toArray, List.set_cons_zero, List.set_cons_succ]
              refine wpAnyH_take (i := 8) (v := ?_) (by simp only [List.getElem?_toArray, List.getElem?_cons_succ, List.getElem?_cons_zero]; rfl) (by kernel_rfl) (by kernel_rfl) (by kernel_rfl) (by intro _ _ _ h; exact h) (Or.inl ⟨by rfl, ?_⟩) (by assumption) ?_
              rotate_left
              · intro w hSw; (try dsimp only at hSw); go_simp; try with_reducible rfl
              try simp only [Act.put, List.setIfInBounds_toArray, List.set_cons_zero, List.set_cons_succ]
              refine wpAnyH_take (i := 9) (v := ?_) (by simp only [List.getElem?_toArray, List.getElem?_cons_succ, List.getElem?_cons_zero]; rfl) (by kernel_rfl) (by kernel_rfl) (by kernel_rfl) (by intro _ _ _ h; exact h) (Or.inl ⟨by rfl, ?_⟩) (by assumption) ?_
              rotate_left
              · intro w hSw; (try dsimp only at hSw); go_simp; try with_reducible rfl
              try simp only [Act.put, List.setIfInBounds_toArray, List.set_cons_zero, List.set_cons_succ]
              refine wpAnyH_take (i := 10) (v := ?_) (by simp only [List.getElem?_toArray, List.getElem?_cons_succ, List.getElem?_cons_zero]; rfl) (by kernel_rfl) (by kernel_rfl) (by kernel_rfl) (by intro _ _ _ h; exact h) (Or.inl ⟨by rfl, ?_⟩) (by assumption) ?_
              rotate_left
              · intro w hSw; (try dsimp only at hSw); go_simp; try with_reducible rfl
              try simp only [Act.put, List.setIfInBounds_toArray, List.set_cons_zero, List.set_cons_succ]
              refine wpAnyH_take (i := 11) (v := ?_) (by simp only [List.getElem?_toArray, List.getElem?_cons_succ, List.getElem?_cons_zero]; rfl) (by kernel_rfl) (by kernel_rfl) (by kernel_rfl) (by intro _ _ _ h; exact h) (Or.inl ⟨by rfl, ?_⟩) (by assumption) ?_
              rotate_left
              · intro w hSw; (try dsimp only at hSw); go_simp; first | with_reducible rfl | rw [if_pos (by omega)]
              try simp only [Act.put, List.setIfInBounds_toArray, List.set_cons_zero, List.set_cons_succ]
              refine wpAnyH_take (i := 12) (v := ?_) (by simp only [List.getElem?_toArray, List.getElem?_cons_succ, List.getElem?_cons_zero]; rfl) (by kernel_rfl) (by kernel_rfl) (by kernel_rfl) (by intro _ _ _ h; exact h) (Or.inl ⟨by rfl, ?_⟩) (by assumption) ?_
              rotate_left
              · intro w hSw; (try dsimp only at hSw); go_simp; try with_reducible rfl
              try simp only [Act.put, List.setIfInBounds_toArray, List.set_cons_zero, List.set_cons_succ]
              refine wpAnyH_take (i := 13) (v := ?_) (by simp only [List.getElem?_toArray, List.getElem?_cons_succ, List.getElem?_cons_zero]; rfl) (by kernel_rfl) (by kernel_rfl) (by kernel_rfl) (by intro _ _ _ h; exact h) (Or.inl ⟨by rfl, ?_⟩) (by assumption) ?_
              rotate_left
              · intro w hSw; (try dsimp only at hSw); go_simp; try with_reducible rfl
              try simp only [Act.put, List.setIfInBounds_toArray, List.set_cons_zero, List.set_cons_succ]
              refine wpAnyH_take (i := 14) (v := ?_) (by simp only [List.getElem?_toArray, List.getElem?_cons_succ, List.getElem?_cons_zero]; rfl) (by kernel_rfl) (by kernel_rfl) (by kernel_rfl) (by intro _ _ _ h; exact h) (Or.inl ⟨by rfl, ?_⟩) (by assumption) ?_
              rotate_left
              · intro w hSw; (try dsimp only at hSw); go_simp; try with_reducible rfl
              try simp only [Act.put, List.setIfInBounds_toArray, List.set_cons_zero, List.set_cons_succ]
              refine wpAnyH_take (i := 15) (v := ?_) (by simp only [List.getElem?_toArray, List.getElem?_cons_succ, List.getElem?_cons_zero]; rfl) (by kernel_rfl) (by kernel_rfl) (by kernel_rfl) (by intro _ _ _ h; exact h) (Or.inl ⟨by rfl, ?_⟩) (by assumption) ?_
              rotate_left
              · intro w hSw; (try dsimp only at hSw); go_simp; try with_reducible rfl
              try simp only [Act.put, List.setIfInBounds_toArray, List.set_cons_zero, List.set_cons_succ]
              refine wpAnyH_take (i := 16) (v := ?_) (by simp only [List.getElem?_toArray, List.getElem?_cons_succ, List.getElem?_cons_zero]; rfl) (by kernel_rfl) (by kernel_rfl) (by kernel_rfl) (by intro _ _ _ h; exact h) (Or.inl ⟨by rfl, ?_⟩) (by assumption) ?_
              rotate_left
              · intro w hSw; (try dsimp only at hSw); go_simp; try with_reducible rfl
              try simp only [Act.put, List.setIfInBounds_toArray, List.set_cons_zero, List.set_cons_succ]
              refine wpAnyH_take (i := 17) (v := ?_) (by simp only [List.getElem?_toArray, List.getElem?_cons_succ, List.getElem?_cons_zero]; rfl) (by kernel_rfl) (by kernel_rfl) (by kernel_rfl) (by intro _ _ _ h; exact h) (Or.inl ⟨by rfl, ?_⟩) (by assumption) ?_
              rotate_left
              · intro w hSw; (try dsimp only at hSw); go_simp; first | with_reducible rfl | rw [if_pos (by omega)]
              try simp only [Act.put, List.setIfInBounds_toArray, List.set_cons_zero, List.set_cons_succ]
              refine wpAnyH_take (i := 18) (v := ?_) (by simp only [List.getElem?_toArray, List.getElem?_cons_succ, List.getElem?_cons_zero]; rfl) (by kernel_rfl) (by kernel_rfl) (by kernel_rfl) (by intro _ _ _ h; exact h) (Or.inl ⟨by rfl, ?_⟩) (by assumption) ?_
              rotate_left
              · intro w hSw; (try dsimp only at hSw); go_simp; try with_reducible rfl
              try simp only [Act.put, List.setIfInBounds_toArray, List.set_cons_zero, List.set_cons_succ]
              refine wpAnyH_take (i := 19) (v := ?_) (by simp only [List.getElem?_toArray, List.getElem?_cons_succ, List.getElem?_cons_zero]; rfl) (by kernel_rfl) (by kernel_rfl) (by kernel_rfl) (by intro _ _ _ h; exact h) (Or.inl ⟨by rfl, ?_⟩) (by assumption) ?_
              rotate_left
              · intro w hSw; (try dsimp only at hSw); go_simp; try with_reducible rfl
              try simp only [Act.put, List.setIfInBounds_toArray, List.set_cons_zero, List.set_cons_succ]
              refine wpAnyH_take (i := 20) (v := ?_) (by simp only [List.getElem?_toArray, List.getElem?_cons_succ, List.getElem?_cons_zero]; rfl) (by kernel_rfl) (by kernel_rfl) (by kernel_rfl) (by intro _ _ _ h; exact h) (Or.inl ⟨by rfl, ?_⟩) (by assumption) ?_
              rotate_left
              · intro w hSw; (try dsimp only at hSw); go_simp; try with_reducible rfl
              try simp only [Act.put, List.setIfInBounds_toArray, List.set_cons_zero, List.set_cons_succ]
              refine wpAnyH_take (i := 21) (v := ?_) (by simp only [List.getElem?_toArray, List.getElem?_cons_succ, List.getElem?_cons_zero]; rfl) (by kernel_rfl) (by kernel_rfl) (by kernel_rfl) (by intro _ _ _ h; exact h) (Or.inl ⟨by rfl, ?_⟩) (by assumption) ?_
              rotate_left
              · intro w hSw; (try dsimp only at hSw); go_simp; try with_reducible rfl
              try simp only [Act.put, List.setIfInBounds_toArray, List.set_cons_zero, List.set_cons_succ]
              refine wpAnyH_take (i := 22) (v := ?_) (by simp only [List.getElem?_toArray, List.getElem?_cons_succ, List.getElem?_cons_zero]; rfl) (by kernel_rfl) (by kernel_rfl) (by kernel_rfl) (by intro _ _ _ h; exact h) (Or.inl ⟨by rfl, ?_⟩) (by assumption) ?_
              rotate_left
              · intro w hSw; (try dsimp only at hSw); go_simp; first | with_reducible rfl | rw [if_pos (by omega)]
              try simp only [Act.put, List.setIfInBounds_toArray, List.set_cons_zero, List.set_cons_succ]
              refine wpAnyH_take (i := 23) (v := ?_) (by simp only [List.getElem?_toArray, List.getElem?_cons_succ, List.getElem?_cons_zero]; rfl) (by kernel_rfl) (by kernel_rfl) (by kernel_rfl) (by intro _ _ _ h; exact h) (Or.inl ⟨by rfl, ?_⟩) (by assumption) ?_
              rotate_left
              · intro w hSw; (try dsimp only at hSw); go_simp; try with_reducible rfl
              try simp only [Act.put, List.setIfInBounds_toArray, List.set_cons_zero, List.set_cons_succ]
              refine wpAnyH_take (i := 24) (v := ?_) (by simp only [List.getElem?_toArray, List.getElem?_cons_succ, List.getElem?_cons_zero]; rfl) (by kernel_rfl) (by kernel_rfl) (by kernel_rfl) (by intro _ _ _ h; exact h) (Or.inl ⟨by rfl, ?_⟩) (by assumption) ?_
              rotate_left
              · intro w hSw; (try dsimp only at hSw); go_simp; try with_reducible rfl
              try simp only [Act.put, List.setIfInBounds_toArray, List.set_cons_zero, List.set_cons_succ]
              refine wpAnyH_take (i := 25) (v := ?_) (by simp only [List.getElem?_toArray, List.getElem?_cons_succ, List.getElem?_cons_zero]; rfl) (by kernel_rfl) (by kernel_rfl) (by kernel_rfl) (by intro _ _ _ h; exact h) (Or.inl ⟨by rfl, ?_⟩) (by assumption) ?_
              rotate_left
              · intro w hSw; (try dsimp only at hSw); go_simp; try with_reducible rfl
              try simp only [Act.put, List.setIfInBounds_toArray, List.set_cons_zero, List.set_cons_succ]
              refine wpAnyH_take (i := 26) (v := ?_) (by simp only [List.getElem?_toArray, List.getElem?_cons_succ, List.getElem?_cons_zero]; rfl) (by kernel_rfl) (by kernel_rfl) (by kernel_rfl) (by intro _ _ _ h; exact h) (Or.inl ⟨by rfl, ?_⟩) (by assumption) ?_
              rotate_left
              · intro w hSw; (try dsimp only at hSw); go_simp; try with_reducible rfl
              try simp only [Act.put, List.setIfInBounds_toArray, List.set_cons_zero, List.set_cons_succ]
              refine wpAnyH_done (by kernel_rfl) ?_ _
              go_wp2_with fail
              go_roundg (N - (k + 1))
              case measure => omega
              case rel => exact ⟨k + 1, by omega, by rw [HYes.out]; go_num, by go_num, Lib.hid HBk.out.drew⟩
            · have HNo := Lib.hid (hno hE)
              have HNe := Lib.hid hE
              clear hyes hno
              go_wp2_with fail
              refine wp_region_held_drew (S := fun w' => w'.cell? ⟨ob, oo + k * 5, none⟩ = some (.int .i64 yt) ∧ w'.cell? ⟨ob, oo + k * 5 + 1, none⟩ = some (.int .i64 yd) ∧ w'.cell? ⟨ob, oo + k * 5 + 2, none⟩ = some (.int .i64 yn) ∧ w'.cell? ⟨ob, oo + k * 5 + 3, none⟩ = some (.int .i64 ys) ∧ w'.cell? ⟨ob, oo + k * 5 + 4, none⟩ = some (.int .u64 yv) ∧ w'.cell? ⟨rb, ro + i * 4, none⟩ = some (.int .i64 rt) ∧ w'.cell? ⟨rb, ro + i * 4 + 1, none⟩ = some (.int .i64 rd) ∧ w'.cell? ⟨rb, ro + i * 4 + 2, none⟩ = some (.int .i64 rg) ∧ w'.cell? ⟨rb, ro + i * 4 + 3, none⟩ = some (.int .u64 rv)) (by kernel_rfl) (⟨u0, u1, u2, u3, u4, r0, r1, r2, r3⟩) (fun hHeld => ?_)
              refine wpAnyH_take (i := 0) (v := ?_) (by simp only [List.getElem?_toArray, List.getElem?_cons_succ, List.getElem?_cons_zero]; rfl) (by kernel_rfl) (by kernel_rfl) (by kernel_rfl) (by intro _ _ _ h; exact h) (Or.inl ⟨by rfl, ?_⟩) (by assumption) ?_
              rotate_left
              · intro w hSw; (try dsimp only at hSw); go_simp; try with_reducible rfl
              try simp only [Act.put, List.setIfInBounds_toArray, List.set_cons_zero, List.set_cons_succ]
              refine wpAnyH_take (i := 1) (v := ?_) (by simp only [List.getElem?_toArray, List.getElem?_cons_succ, List.getElem?_cons_zero]; rfl) (by kernel_rfl) (by kernel_rfl) (by kernel_rfl) (by intro _ _ _ h; exact h) (Or.inl ⟨by rfl, ?_⟩) (by assumption) ?_
              rotate_left
              · intro w hSw; (try dsimp only at hSw); go_simp; try with_reducible rfl
              try simp only [Act.put, List.setIfInBounds_toArray, List.set_cons_zero, List.set_cons_succ]
              refine wpAnyH_take (i := 2) (v := ?_) (by simp only [List.getElem?_toArray, List.getElem?_cons_succ, List.getElem?_cons_zero]; rfl) (by kernel_rfl) (by kernel_rfl) (by kernel_rfl) (by intro _ _ _ h; exact h) (Or.inl ⟨by rfl, ?_⟩) (by assumption) ?_
              rotate_left
              · intro w hSw; (try dsimp only at hSw); go_simp; first | with_reducible rfl | rw [if_pos (by omega)]
              try simp only [Act.put, List.setIfInBounds_toArray, List.set_cons_zero, List.set_cons_succ]
              refine wpAnyH_take (i := 3) (v := ?_) (by simp only [List.getElem?_toArray, List.getElem?_cons_succ, List.getElem?_cons_zero]; rfl) (by kernel_rfl) (by kernel_rfl) (by kernel_rfl) (by intro _ _ _ h; exact h) (Or.inl ⟨by rfl, ?_⟩) (by assumption) ?_
              rotate_left
              · intro w hSw; (try dsimp only at hSw); go_simp; try with_reducible rfl
              try simp only [Act.put, List.setIfInBounds_toArray, List.set_cons_zero, List.set_cons_succ]
              refine wpAnyH_take (i := 4) (v := ?_) (by simp only [List.getElem?_toArray, List.getElem?_cons_succ, List.getElem?_cons_zero]; rfl) (by kernel_rfl) (by kernel_rfl) (by kernel_rfl) (by intro _ _ _ h; exact h) (Or.inl ⟨by rfl, ?_⟩) (by assumption) ?_
              rotate_left
              · intro w hSw; (try dsimp only at hSw); go_simp; try with_reducible rfl
              try simp only [Act.put, List.setIfInBounds_toArray, List.set_cons_zero, List.set_cons_succ]
              refine wpAnyH_take (i := 5) (v := ?_) (by simp only [List.getElem?_toArray, List.getElem?_cons_succ, List.getElem?_cons_zero]; rfl) (by kernel_rfl) (by kernel_rfl) (by kernel_rfl) (by intro _ _ _ h; exact h) (Or.inl ⟨by rfl, ?_⟩) (by assumption) ?_
              rotate_left
              · intro w hSw; (try dsimp only at hSw); go_simp; try with_reducible rfl
              try simp only [Act.put, List.setIfInBounds_toArray, List.set_cons_zero, List.set_cons_succ]
              refine wpAnyH_take (i := 6) (v := ?_) (by simp only [List.getElem?_toArray, List.getElem?_cons_succ, List.getElem?_cons_zero]; rfl) (by kernel_rfl) (by kernel_rfl) (by kernel_rfl) (by intro _ _ _ h; exact h) (Or.inl ⟨by rfl, ?_⟩) (by assumption) ?_
              rotate_left
              · intro w hSw; (try dsimp only at hSw); go_simp; first | with_reducible rfl | rw [if_pos (by omega)]
              try simp only [Act.put, List.setIfInBounds_toArray, List.set_cons_zero, List.set_cons_succ]
              refine wpAnyH_take (i := 7) (v := ?_) (by simp only [List.getElem?_toArray, List.getElem?_cons_succ, List.getElem?_cons_zero]; rfl) (by kernel_rfl) (by kernel_rfl) (by kernel_rfl) (by intro _ _ _ h; exact h) (Or.inl ⟨by rfl, ?_⟩) (by assumption) ?_
              rotate_left
              · intro w hSw; (try dsimp only at hSw); go_simp; try with_reducible rfl
              try simp only [Act.put, List.setIfInBounds_toArray, List.set_cons_zero, List.set_cons_succ]
              refine wpAnyH_take (i := 8) (v := ?_) (by simp only [List.getElem?_toArray, List.getElem?_cons_succ, List.getElem?_cons_zero]; rfl) (by kernel_rfl) (by kernel_rfl) (by kernel_rfl) (by intro _ _ _ h; exact h) (Or.inl ⟨by rfl, ?_⟩) (by assumption) ?_
              rotate_left
              · intro w hSw; (try dsimp only at hSw); go_simp; try with_reducible rfl
              try simp only [Act.put, List.setIfInBounds_toArray, List.set_cons_zero, List.set_cons_succ]
              refine wpAnyH_take (i := 9) (v := ?_) (by simp only [List.getElem?_toArray, List.getElem?_cons_succ, List.getElem?_cons_zero]; rfl) (by kernel_rfl) (by kernel_rfl) (by kernel_rfl) (by intro _ _ _ h; exact h) (Or.inl ⟨by rfl, ?_⟩) (by assumption) ?_
              rotate_left
              · intro w hSw; (try dsimp only at hSw); go_simp; try with_reducible rfl
              try simp only [Act.put, List.setIfInBounds_toArray, List.set_cons_zero, List.set_cons_succ]
              refine wpAnyH_take (i := 10) (v := ?_) (by simp only [List.getElem?_toArray, List.getElem?_cons_succ, List.getElem?_cons_zero]; rfl) (by kernel_rfl) (by kernel_rfl) (by kernel_rfl) (by intro _ _ _ h; exact h) (Or.inl ⟨by rfl, ?_⟩) (by assumption) ?_
              rotate_left
              · intro w hSw; (try dsimp only at hSw); go_simp; try with_reducible rfl
              try simp only [Act.put, List.setIfInBounds_toArray, List.set_cons_zero, List.set_cons_succ]
              refine wpAnyH_take (i := 11) (v := ?_) (by simp only [List.getElem?_toArray, List.getElem?_cons_succ, List.getElem?_cons_zero]; rfl) (by kernel_rfl) (by kernel_rfl) (by kernel_rfl) (by intro _ _ _ h; exact h) (Or.inl ⟨by rfl, ?_⟩) (by assumption) ?_
              rotate_left
              · intro w hSw; (try dsimp only at hSw); go_simp; first | with_reducible rfl | rw [if_pos (by omega)]
              try simp only [Act.put, List.setIfInBounds_toArray, List.set_cons_zero, List.set_cons_succ]
              refine wpAnyH_take (i := 12) (v := ?_) (by simp only [List.getElem?_toArray, List.getElem?_cons_succ, List.getElem?_cons_zero]; rfl) (by kernel_rfl) (by kernel_rfl) (by kernel_rfl) (by intro _ _ _ h; exact h) (Or.inl ⟨by rfl, ?_⟩) (by assumption) ?_
              rotate_left
              · intro w hSw; (try dsimp only at hSw); go_simp; try with_reducible rfl
              try simp only [Act.put, List.setIfInBounds_toArray, List.set_cons_zero, List.set_cons_succ]
              refine wpAnyH_take (i := 13) (v := ?_) (by simp only [List.getElem?_toArray, List.getElem?_cons_succ, List.getElem?_cons_zero]; rfl) (by kernel_rfl) (by kernel_rfl) (by kernel_rfl) (by intro _ _ _ h; exact h) (Or.inl ⟨by rfl, ?_⟩) (by assumption) ?_
              rotate_left
              · intro w hSw; (try dsimp only at hSw); go_simp; try with_reducible rfl
              try simp only [Act.put, List.setIfInBounds_toArray, List.set_cons_zero, List.set_cons_succ]
              refine wpAnyH_take (i := 14) (v := ?_) (by simp only [List.getElem?_toArray, List.getElem?_cons_succ, List.getElem?_cons_zero]; rfl) (by kernel_rfl) (by kernel_rfl) (by kernel_rfl) (by intro _ _ _ h; exact h) (Or.inl ⟨by rfl, ?_⟩) (by assumption) ?_
              rotate_left
              · intro w hSw; (try dsimp only at hSw); go_simp; try with_reducible rfl
              try simp only [Act.put, List.setIfInBounds_toArray, List.set_cons_zero, List.set_cons_succ]
              refine wpAnyH_take (i := 15) (v := ?_) (by simp only [List.getElem?_toArray, List.getElem?_cons_succ, List.getElem?_cons_zero]; rfl) (by kernel_rfl) (by kernel_rfl) (by kernel_rfl) (by intro _ _ _ h; exact h) (Or.inl ⟨by rfl, ?_⟩) (by assumption) ?_
              rotate_left
              · intro w hSw; (try dsimp only at hSw); go_simp; try with_reducible rfl
              try simp only [Act.put, List.setIfInBounds_toArray, List.set_cons_zero, List.set_cons_succ]
              refine wpAnyH_take (i := 16) (v := ?_) (by simp only [List.getElem?_toArray, List.getElem?_cons_succ, List.getElem?_cons_zero]; rfl) (by kernel_rfl) (by kernel_rfl) (by kernel_rfl) (by intro _ _ _ h; exact h) (Or.inl ⟨by rfl, ?_⟩) (by assumption) ?_
              rotate_left
              · intro w hSw; (try dsimp only at hSw); go_simp; try with_reducible rfl
              try simp only [Act.put, List.setIfInBounds_toArray, List.set_cons_zero, List.set_cons_succ]
              refine wpAnyH_take (i := 17) (v := ?_) (by simp only [List.getElem?_toArray, List.getElem?_cons_succ, List.getElem?_cons_zero]; rfl) (by kernel_rfl) (by kernel_rfl) (by kernel_rfl) (by intro _ _ _ h; exact h) (Or.inl ⟨by rfl, ?_⟩) (by assumption) ?_
              rotate_left
              · intro w hSw; (try dsimp only at hSw); go_simp; first | with_reducible rfl | rw [if_pos (by omega)]
              try simp only [Act.put, List.setIfInBounds_toArray, List.set_cons_zero, List.set_cons_succ]
              refine wpAnyH_take (i := 18) (v := ?_) (by simp only [List.getElem?_toArray, List.getElem?_cons_succ, List.getElem?_cons_zero]; rfl) (by kernel_rfl) (by kernel_rfl) (by kernel_rfl) (by intro _ _ _ h; exact h) (Or.inl ⟨by rfl, ?_⟩) (by assumption) ?_
              rotate_left
              · intro w hSw; (try dsimp only at hSw); go_simp; try with_reducible rfl
              try simp only [Act.put, List.setIfInBounds_toArray, List.set_cons_zero, List.set_cons_succ]
              refine wpAnyH_take (i := 19) (v := ?_) (by simp only [List.getElem?_toArray, List.getElem?_cons_succ, List.getElem?_cons_zero]; rfl) (by kernel_rfl) (by kernel_rfl) (by kernel_rfl) (by intro _ _ _ h; exact h) (Or.inl ⟨by rfl, ?_⟩) (by assumption) ?_
              rotate_left
              · intro w hSw; (try dsimp only at hSw); go_simp; try with_reducible rfl
              try simp only [Act.put, List.setIfInBounds_toArray, List.set_cons_zero, List.set_cons_succ]
              refine wpAnyH_take (i := 20) (v := ?_) (by simp only [List.getElem?_toArray, List.getElem?_cons_succ, List.getElem?_cons_zero]; rfl) (by kernel_rfl) (by kernel_rfl) (by kernel_rfl) (by intro _ _ _ h; exact h) (Or.inl ⟨by rfl, ?_⟩) (by assumption) ?_
              rotate_left
              · intro w hSw; (try dsimp only at hSw); go_simp; try with_reducible rfl
              try simp only [Act.put, List.setIfInBounds_toArray, List.set_cons_zero, List.set_cons_succ]
              refine wpAnyH_take (i := 21) (v := ?_) (by simp only [List.getElem?_toArray, List.getElem?_cons_succ, List.getElem?_cons_zero]; rfl) (by kernel_rfl) (by kernel_rfl) (by kernel_rfl) (by intro _ _ _ h; exact h) (Or.inl ⟨by rfl, ?_⟩) (by assumption) ?_
              rotate_left
              · intro w hSw; (try dsimp only at hSw); go_simp; try with_reducible rfl
              try simp only [Act.put, List.setIfInBounds_toArray, List.set_cons_zero, List.set_cons_succ]
              refine wpAnyH_take (i := 22) (v := ?_) (by simp only [List.getElem?_toArray, List.getElem?_cons_succ, List.getElem?_cons_zero]; rfl) (by kernel_rfl) (by kernel_rfl) (by kernel_rfl) (by intro _ _ _ h; exact h) (Or.inl ⟨by rfl, ?_⟩) (by assumption) ?_
              rotate_left
              · intro w hSw; (try dsimp only at hSw); go_simp; first | with_reducible rfl | rw [if_pos (by omega)]
              try simp only [Act.put, List.setIfInBounds_toArray, List.set_cons_zero, List.set_cons_succ]
              refine wpAnyH_take (i := 23) (v := ?_) (by simp only [List.getElem?_toArray, List.getElem?_cons_succ, List.getElem?_cons_zero]; rfl) (by kernel_rfl) (by kernel_rfl) (by kernel_rfl) (by intro _ _ _ h; exact h) (Or.inl ⟨by rfl, ?_⟩) (by assumption) ?_
              rotate_left
              · intro w hSw; (try dsimp only at hSw); go_simp; try with_reducible rfl
              try simp only [Act.put, List.setIfInBounds_toArray, List.set_cons_zero, List.set_cons_succ]
              refine wpAnyH_take (i := 24) (v := ?_) (by simp only [List.getElem?_toArray, List.getElem?_cons_succ, List.getElem?_cons_zero]; rfl) (by kernel_rfl) (by kernel_rfl) (by kernel_rfl) (by intro _ _ _ h; exact h) (Or.inl ⟨by rfl, ?_⟩) (by assumption) ?_
              rotate_left
              · intro w hSw; (try dsimp only at hSw); go_simp; try with_reducible rfl
              try simp only [Act.put, List.setIfInBounds_toArray, List.set_cons_zero, List.set_cons_succ]
              refine wpAnyH_take (i := 25) (v := ?_) (by simp only [List.getElem?_toArray, List.getElem?_cons_succ, List.getElem?_cons_zero]; rfl) (by kernel_rfl) (by kernel_rfl) (by kernel_rfl) (by intro _ _ _ h; exact h) (Or.inl ⟨by rfl, ?_⟩) (by assumption) ?_
              rotate_left
              · intro w hSw; (try dsimp only at hSw); go_simp; try with_reducible rfl
              try simp only [Act.put, List.setIfInBounds_toArray, List.set_cons_zero, List.set_cons_succ]
              refine wpAnyH_take (i := 26) (v := ?_) (by simp only [List.getElem?_toArray, List.getElem?_cons_succ, List.getElem?_cons_zero]; rfl) (by kernel_rfl) (by kernel_rfl) (by kernel_rfl) (by intro _ _ _ h; exact h) (Or.inl ⟨by rfl, ?_⟩) (by assumption) ?_
              rotate_left
              · intro w hSw; (try dsimp only at hSw); go_simp; exact ev_if HNe.out _ _
              try simp only [Act.put, List.setIfInBounds_toArray, List.set_cons_zero, List.set_cons_succ]
              refine wpAnyH_done (by kernel_rfl) ?_ _
              go_wp2_with fail
              go_roundg (N - (k + 1))
              case measure => omega
              case rel => exact ⟨k + 1, by omega, by rw [HNo.out], by go_num, Lib.hid HBk.out.drew⟩
          · have hkN2 : k = N := by omega
            subst hkN2
            have hc1 := HF.out.2
            have HF1 := Lib.hid HF.out.1
            rw [hc1]
            clear hc1
            go_wp2_with fail
            go_roundg (m - (i + 1))
            case measure => omega
            case rel => exact ⟨i + 1, by omega, by rw [HF1.out]; go_num, by go_num, HBk⟩
      · have him2 : i = m := by omega
        have dim : decide (i < m) = false := by simpa using him
        rw [him2, ← HFl.out.1]
        have dmm : decide (m < m) = false := by simp
        go_wp2_with fail
        go_loopg [14] N (fun g s14 wq => ∃ k : Nat, 1 ≤ k ∧ g + k = N + 1 ∧ s14 = .int .i64 k ∧ Hid (Below wS.heap.size wS wq))
        case atStart => exact ⟨1, Nat.le_refl _, rfl, rfl, HBi⟩
        case round =>
          obtain ⟨k, hk1, hgk2, rfl, HBk⟩ := hrel
          by_cases hkN : k < N
          · obtain ⟨p, hp⟩ : ∃ p, k = p + 1 := ⟨k - 1, by omega⟩
            have hpN : p < N := by omega
            obtain ⟨ob, oo, rfl, -, v0, v1, v2, v3, v4⟩ := (HLo.out wr HBk.out).ev p (by rw [HNl.out]; omega)
            obtain ⟨ob', oo', ho', -, u0, u1, u2, u3, u4⟩ := (HLo.out wr HBk.out).ev k (by rw [HNl.out]; exact hkN)
            injection ho' with ho'
            injection ho' with ho1 ho2
            subst ho1 ho2
            have hlt := pair_sorted HOk.out.sorted p k (by omega) (by rw [HNl.out]; exact hkN)
            obtain ⟨x, hx⟩ : ∃ x, x = L.getD p default := ⟨_, rfl⟩
            obtain ⟨y, hy⟩ : ∃ y, y = L.getD k default := ⟨_, rfl⟩
            rw [← hx] at v0 v1 v2 v3 v4 hlt
            rw [← hy] at u0 u1 u2 u3 u4 hlt
            obtain ⟨xt, xd, xn, xs, xv⟩ := x
            obtain ⟨yt, yd, yn, ys, yv⟩ := y
            have HAb : Hid (aheadB ⟨xt, xd, xn, xs, xv⟩ ⟨yt, yd, yn, ys, yv⟩ = true) := Lib.hid ((aheadB_iff _ _).2 hlt)
            dsimp only at v0 v1 v2 v3 v4 u0 u1 u2 u3 u4
            have HSub : Hid (IntKind.i64.wrap ((k : Int) - 1) = (p : Int)) := Lib.hid (by rw [show (k : Int) - 1 = ((p : Nat) : Int) by omega]; exact Lib.wrap_i64_small p (by omega))
            have HHp := Lib.hid hp
            clear hx hy hlt hp him2 dim dmm
            go_wp2_with fail
            refine wp_region_held_drew (S := fun w' => w'.cell? ⟨ob, oo + p * 5, none⟩ = some (.int .i64 xt) ∧ w'.cell? ⟨ob, oo + p * 5 + 1, none⟩ = some (.int .i64 xd) ∧ w'.cell? ⟨ob, oo + p * 5 + 2, none⟩ = some (.int .i64 xn) ∧ w'.cell? ⟨ob, oo + p * 5 + 3, none⟩ = some (.int .i64 xs) ∧ w'.cell? ⟨ob, oo + p * 5 + 4, none⟩ = some (.int .u64 xv) ∧ w'.cell? ⟨ob, oo + k * 5, none⟩ = some (.int .i64 yt) ∧ w'.cell? ⟨ob, oo + k * 5 + 1, none⟩ = some (.int .i64 yd) ∧ w'.cell? ⟨ob, oo + k * 5 + 2, none⟩ = some (.int .i64 yn) ∧ w'.cell? ⟨ob, oo + k * 5 + 3, none⟩ = some (.int .i64 ys) ∧ w'.cell? ⟨ob, oo + k * 5 + 4, none⟩ = some (.int .u64 yv)) (by kernel_rfl) (⟨v0, v1, v2, v3, v4, u0, u1, u2, u3, u4⟩) (fun hHeld => ?_)
            refine wpAnyH_take (i := 0) (v := ?_) (by simp only [List.getElem?_toArray, List.getElem?_cons_succ, List.getElem?_cons_zero]; rfl) (by kernel_rfl) (by kernel_rfl) (by kernel_rfl) (by intro _ _ _ h; exact h) (Or.inl ⟨by rfl, ?_⟩) (by assumption) ?_
            rotate_left
            · intro w hSw; (try dsimp only at hSw); go_simp; try with_reducible rfl
            try simp only [Act.put, List.setIfInBounds_toArray, List.set_cons_zero, List.set_cons_succ]
            refine wpAnyH_take (i := 1) (v := ?_) (by simp only [List.getElem?_toArray, List.getElem?_cons_succ, List.getElem?_cons_zero]; rfl) (by kernel_rfl) (by kernel_rfl) (by kernel_rfl) (by intro _ _ _ h; exact h) (Or.inl ⟨by rfl, ?_⟩) (by assumption) ?_
            rotate_left
            · intro w hSw; (try dsimp only at hSw); go_simp; try with_reducible rfl
            try simp only [Act.put, List.setIfInBounds_toArray, List.set_cons_zero, List.set_cons_succ]
            refine wpAnyH_take (i := 2) (v := ?_) (by simp only [List.getElem?_toArray, List.getElem?_cons_succ, List.getElem?_cons_zero]; rfl) (by kernel_rfl) (by kernel_rfl) (by kernel_rfl) (by intro _ _ _ h; exact h) (Or.inl ⟨by rfl, ?_⟩) (by assumption) ?_
            rotate_left
            · intro w hSw; (try dsimp only at hSw); go_simp; rw [HSub.out]
            try simp only [Act.put, List.setIfInBounds_toArray, List.set_cons_zero, List.set_cons_succ]
            refine wpAnyH_take (i := 3) (v := ?_) (by simp only [List.getElem?_toArray, List.getElem?_cons_succ, List.getElem?_cons_zero]; rfl) (by kernel_rfl) (by kernel_rfl) (by kernel_rfl) (by intro _ _ _ h; exact h) (Or.inl ⟨by rfl, ?_⟩) (by assumption) ?_
            rotate_left
            · intro w hSw; (try dsimp only at hSw); go_simp; first | with_reducible rfl | rw [if_pos (by omega)]
            try simp only [Act.put, List.setIfInBounds_toArray, List.set_cons_zero, List.set_cons_succ]
            refine wpAnyH_take (i := 4) (v := ?_) (by simp only [List.getElem?_toArray, List.getElem?_cons_succ, List.getElem?_cons_zero]; rfl) (by kernel_rfl) (by kernel_rfl) (by kernel_rfl) (by intro _ _ _ h; exact h) (Or.inl ⟨by rfl, ?_⟩) (by assumption) ?_
            rotate_left
            · intro w hSw; (try dsimp only at hSw); go_simp; try with_reducible rfl
            try simp only [Act.put, List.setIfInBounds_toArray, List.set_cons_zero, List.set_cons_succ]
            refine wpAnyH_take (i := 5) (v := ?_) (by simp only [List.getElem?_toArray, List.getElem?_cons_succ, List.getElem?_cons_zero]; rfl) (by kernel_rfl) (by kernel_rfl) (by kernel_rfl) (by intro _ _ _ h; exact h) (Or.inl ⟨by rfl, ?_⟩) (by assumption) ?_
            rotate_left
            · intro w hSw; (try dsimp only at hSw); go_simp; try with_reducible rfl
            try simp only [Act.put, List.setIfInBounds_toArray, List.set_cons_zero, List.set_cons_succ]
            refine wpAnyH_take (i := 6) (v := ?_) (by simp only [List.getElem?_toArray, List.getElem?_cons_succ, List.getElem?_cons_zero]; rfl) (by kernel_rfl) (by kernel_rfl) (by kernel_rfl) (by intro _ _ _ h; exact h) (Or.inl ⟨by rfl, ?_⟩) (by assumption) ?_
            rotate_left
            · intro w hSw; (try dsimp only at hSw); go_simp; try with_reducible rfl
            try simp only [Act.put, List.setIfInBounds_toArray, List.set_cons_zero, List.set_cons_succ]
            refine wpAnyH_take (i := 7) (v := ?_) (by simp only [List.getElem?_toArray, List.getElem?_cons_succ, List.getElem?_cons_zero]; rfl) (by kernel_rfl) (by kernel_rfl) (by kernel_rfl) (by intro _ _ _ h; exact h) (Or.inl ⟨by rfl, ?_⟩) (by assumption) ?_
            rotate_left
            · intro w hSw; (try dsimp only at hSw); go_simp; first | with_reducible rfl | rw [if_pos (by omega)]
            try simp only [Act.put, List.setIfInBounds_toArray, List.set_cons_zero, List.set_cons_succ]
            refine wpAnyH_take (i := 8) (v := ?_) (by simp only [List.getElem?_toArray, List.getElem?_cons_succ, List.getElem?_cons_zero]; rfl) (by kernel_rfl) (by kernel_rfl) (by kernel_rfl) (by intro _ _ _ h; exact h) (Or.inl ⟨by rfl, ?_⟩) (by assumption) ?_
            rotate_left
            · intro w hSw; (try dsimp only at hSw); go_simp; try with_reducible rfl
            try simp only [Act.put, List.setIfInBounds_toArray, List.set_cons_zero, List.set_cons_succ]
            refine wpAnyH_ready (rs := [9]) (by kernel_rfl) (by simp) ?_
            refine AllReadyH.cons (o := _) (by simp only [List.getElem?_toArray, List.getElem?_cons_succ, List.getElem?_cons_zero]; rfl) (fun K hK => ?_) AllReadyH.nil
            go_simp
            go_at_call 24
            refine Calls.mono (ahead24 wr.drew ⟨xt, xd, xn, xs, xv⟩ ⟨yt, yd, yn, ys, yv⟩) ?_
            rintro e w8 ⟨rfl, hb10⟩
            rw [HAb.out]
            have HB10 : Hid (Below wr.heap.size wr w8) := Lib.hid ((Below.refl _ _).drew.trans hb10)
            have hk8 : ∀ {b o : Nat} {v : Value}, wr.cell? ⟨b, o, none⟩ = some v → w8.cell? ⟨b, o, none⟩ = some v := fun h => (HB10.out.cell (p := ⟨_, _, none⟩) (World.block_lt_of_cell? wr _ h)).trans h
            clear hb10
            go_simp
            refine hK.out _ _ (by exact ⟨hk8 v0, hk8 v1, hk8 v2, hk8 v3, hk8 v4, hk8 u0, hk8 u1, hk8 u2, hk8 u3, hk8 u4⟩) (fun hHeld => ?_)
            clear hK K
            try simp only [Act.put, List.setIfInBounds_toArray, List.set_cons_zero, List.set_cons_succ]
            refine wpAnyH_take (i := 10) (v := ?_) (by simp only [List.getElem?_toArray, List.getElem?_cons_succ, List.getElem?_cons_zero]; rfl) (by kernel_rfl) (by kernel_rfl) (by kernel_rfl) (by intro _ _ _ h; exact h) (Or.inl ⟨by rfl, ?_⟩) (by assumption) ?_
            rotate_left
            · intro w hSw; (try dsimp only at hSw); go_simp; try with_reducible rfl
            try simp only [Act.put, List.setIfInBounds_toArray, List.set_cons_zero, List.set_cons_succ]
            refine wpAnyH_done (by kernel_rfl) ?_ _
            go_wp2_with fail
            go_roundg (N - k)
            case measure => omega
            case rel => exact ⟨k + 1, by omega, by omega, by go_num, Lib.hid (HBk.out.trans (HB10.out.mono HBk.out.size))⟩
          · have dkN : decide (k < N) = false := by simpa using hkN
            have dkN' : decide ((k : Int) < (N : Int)) = false := by simp; omega
            have HQk := HQ1.out.below HBk.out
            have k0 := HQk.c0
            have k1 := HQk.c1
            have k2 := HQk.c2
            have k3 := HQk.c3
            clear HQk
            go_wp2_with fail
            refine Calls.mono (empty15 wr aq 0 cq tq dq N) ?_
            rintro e w9 ⟨rfl, hb9⟩
            have HB9 := Lib.hid (HBk.out.trans (hb9.mono HBk.out.size))
            clear hb9 k0 k1 k2 k3
            go_wp2_with fail
            go_ret
            exact ⟨rfl, HBS.out.trans (HB9.out.mono HBS.out.size)⟩
end Go.Proofs.Ytbhbebidkeejbaa
