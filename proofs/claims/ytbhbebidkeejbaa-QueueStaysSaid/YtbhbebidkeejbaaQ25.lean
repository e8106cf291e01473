/- What may be stays so (QueueStays). -/
import Derived.Deep.CutRange
import Derived.Test.YtbhbebidkeejbaaQ24
import Derived.Test.YtbhbebidkeejbaaQ18
namespace Go.Proofs.Ytbhbebidkeejbaa
open Go.RowKit Go.Shelf
set_option linter.unusedVariables false
set_option linter.unusedSimpArgs false

theorem fz_top (w : World) (cs : Array Value) (t : TypeId) (i : Nat) : (w.alloc (.cells cs t)).frozen? ⟨w.heap.size, i, none⟩ = false := by simp
set_option maxRecDepth 100000 in
set_option maxHeartbeats 8000000 in
theorem queueStays (w : World) (Q : QV) (hQ : QAt w Q) (hc : Q.l.length ≤ Q.c) (b2 : Option Addr) (c2 : Nat) (rs : List RowV) (hR : RowsAt w b2 rs) :
    Calls Try.prog 6 #[Q.val, .slice b2 rs.length c2] w fun e w' => e = .returned (.bool true) ∧ Below w.heap.size w w' := by
  obtain ⟨m, hm⟩ : ∃ m, rs.length = m := ⟨_, rfl⟩
  rw [hm]
  have HR := Lib.hid hR
  have HM := Lib.hid hm
  clear hR hm
  obtain ⟨a, c, l, now, delta, next⟩ := Q
  obtain ⟨h, hq1, hq2, hq3⟩ := hQ
  dsimp only at h hc hq1 hq2 hq3
  obtain ⟨n, hn⟩ : ∃ n, l.length = n := ⟨_, rfl⟩
  unfold QV.val
  dsimp only
  rw [hn] at hc ⊢
  obtain ⟨H, hH⟩ : ∃ h, h = w.heap.size := ⟨_, rfl⟩
  obtain ⟨w1, hw1⟩ : ∃ W, W = w.alloc (Obj.cells #[Value.slice a n c, Value.int IntKind.i64 now, Value.int IntKind.i64 delta, Value.int IntKind.i64 next] 24) := ⟨_, rfl⟩
  have HX1 : Hid (Below w.heap.size w w1) := Lib.hid (by rw [hw1]; exact (Below.refl _ _).alloc (Nat.le_refl _) _)
  have k0 : w1.cell? ⟨H, 0, none⟩ = some (.slice a n c) := by rw [hw1, hH]; simp
  have k1 : w1.cell? ⟨H, 1, none⟩ = some (.int .i64 now) := by rw [hw1, hH]; simp
  have k2 : w1.cell? ⟨H, 2, none⟩ = some (.int .i64 delta) := by rw [hw1, hH]; simp
  have k3 : w1.cell? ⟨H, 3, none⟩ = some (.int .i64 next) := by rw [hw1, hH]; simp
  have hl1 := h.below HX1.out (Nat.le_refl _)
  have HK : Hid (∀ W, Below w1.heap.size w1 W → W.cell? ⟨H, 0, none⟩ = some (.slice a n c) ∧ W.cell? ⟨H, 1, none⟩ = some (.int .i64 now) ∧ W.cell? ⟨H, 2, none⟩ = some (.int .i64 delta) ∧ W.cell? ⟨H, 3, none⟩ = some (.int .i64 next)) := Lib.hid (fun W hW => by
    have cl : ∀ {b j : Nat} {u : Value}, w1.cell? ⟨b, j, none⟩ = some u → W.cell? ⟨b, j, none⟩ = some u := fun h => (hW.cell (p := ⟨_, _, none⟩) (World.block_lt_of_cell? w1 _ h)).trans h
    exact ⟨cl k0, cl k1, cl k2, cl k3⟩)
  have HFz : Hid (∀ i, w1.frozen? ⟨H, i, none⟩ = false) := Lib.hid (by intro i; rw [hw1, hH]; simp)
  have HL0 := Lib.hid h
  have HN := Lib.hid hn
  have HC := Lib.hid hc
  have HL1 := Lib.hid hl1
  have HQs := Lib.hid (And.intro hq1 (And.intro hq2 hq3))
  have HW1 := Lib.hid hw1
  have HHH := Lib.hid hH
  clear h hn hc hl1 hw1 hH k0 k1 k2 k3 hq1 hq2 hq3
  go_enter Try.func6, Try.ntmps6
  go_wp2_with fail
  rw [← HW1.out]
  (try rw [← HHH.out])
  refine Calls.mono (live9 w1) ?_
  rintro e w2 ⟨rfl, hb2⟩
  have HB2 := Lib.hid hb2
  clear hb2
  obtain ⟨k0, k1, k2, k3⟩ := HK.out w2 HB2.out
  go_wp2_with fail
  refine Calls.mono (few10 w2 a n c now delta next) ?_
  rintro e w3 ⟨rfl, hb3⟩
  have HB3 : Hid (Below w1.heap.size w1 w3) := Lib.hid (HB2.out.trans (hb3.mono HB2.out.size))
  clear hb3 k0 k1 k2 k3
  by_cases h9 : n ≤ 300
  · have d9 : decide (n ≤ 300) = true := by simpa using h9
    rw [d9]
    have H9 := Lib.hid h9
    by_cases h60 : 60 < m
    · have d6 : decide (60 < m) = true := by simpa using h60
      have d6' : decide ((60 : Int) < (m : Int)) = true := by simp; omega
      clear h60 h9 d9
      go_wp2_with fail
      go_ret
      exact ⟨rfl, HX1.out.trans (HB3.out.mono HX1.out.size)⟩
    have d6 : decide (60 < m) = false := by simpa using h60
    have d6' : decide ((60 : Int) < (m : Int)) = false := by simp; omega
    have H60 : Hid (m ≤ 60) := Lib.hid (by omega)
    obtain ⟨k0, k1, k2, k3⟩ := HK.out w3 HB3.out
    clear h60 h9 d9
    go_wp2_with fail
    refine Calls.mono (check13 w3 a n c now delta next l HN.out (HL1.out.below HB3.out (Nat.le_refl _)) (by have := H9.out; omega)) ?_
    rintro e w4 ⟨rfl, hb4⟩
    have HB4 : Hid (Below w1.heap.size w1 w4) := Lib.hid (HB3.out.trans (hb4.mono HB3.out.size))
    clear hb4 k0 k1 k2 k3 d6 d6'
    have hcs := checkE_01 now delta next l
    obtain ⟨E, hE⟩ : ∃ E, E = checkE now delta next l := ⟨_, rfl⟩
    rw [← hE] at hcs ⊢
    have HE := Lib.hid hE.symm
    clear hE
    rcases hcs with rfl | rfl
    · have HS4 : Hid (QSt w w4 H (300 + 0) a n c now delta next l) := Lib.hid (by
        obtain ⟨k0, k1, k2, k3⟩ := HK.out w4 HB4.out
        have hlt : H < w1.heap.size := by rw [HW1.out, HHH.out]; simp
        refine ⟨k0, k1, k2, k3, fun i => (HB4.out.frozen (p := ⟨_, _, none⟩) hlt).trans (HFz.out i), HN.out, HL1.out.below HB4.out (Nat.le_refl _), fun hp0 p hp => ?_, HC.out, H9.out, check_ok.1 HE.out, HQs.out.2.2, HX1.out.trans (HB4.out.mono HX1.out.size)⟩
        obtain ⟨b, off, ha, hb, -⟩ := HL0.out.ev 0 hp0
        rw [ha] at hp
        injection hp with hp
        rw [← hp, HHH.out]
        exact Nat.ne_of_lt hb)
      go_wp2_with fail
      go_loopg [6] m (fun g iv wr => ∃ k : Nat, g + k = m ∧ iv = .int .i64 k ∧ ∃ (a : Option Addr) (n c : Nat) (now delta next : Int) (l : List EvV), Hid (QSt w wr H (300 + k) a n c now delta next l))
      case atStart => exact ⟨0, rfl, rfl, a, n, c, now, delta, next, l, HS4⟩
      case round =>
        obtain ⟨k, hgk, rfl, aq, nq, cq, tq, dq, xq, lq, HQ⟩ := hrel
        clear HS4
        by_cases hlt : k < m
        · obtain ⟨rb, ro, ha2, hrb, r0, r1, r2, r3⟩ := (HR.out.below HQ.out.bel (Nat.le_refl _)).row k (by rw [HM.out]; exact hlt)
          have hrr := HR.out.ok k (by rw [HM.out]; exact hlt)
          obtain ⟨rw', hrw⟩ : ∃ r, r = rs.getD k default := ⟨_, rfl⟩
          rw [← hrw] at r0 r1 r2 r3 hrr
          have HRw := Lib.hid hrw
          obtain ⟨rt, rd, rg, rv⟩ := rw'
          obtain ⟨it, id', ig, iv'⟩ := hrr
          dsimp only at r0 r1 r2 r3 it id' ig iv'
          subst ha2
          have HRow := Lib.hid (And.intro it (And.intro id' (And.intro ig iv')))
          have k0 := HQ.out.c0
          have k1 := HQ.out.c1
          have k2 := HQ.out.c2
          have k3 := HQ.out.c3
          have hm60 := H60.out
          obtain ⟨E, x, y, z, l1, hE, hle, hgo, hpo⟩ := pushed_two (now := tq) (delta := dq) (next := xq) (l := lq) (t := rt) (d := rd) (sig := rg) (v := rv) HQ.out.nx
          obtain ⟨n1, hn1⟩ : ∃ k, l1.length = k := ⟨_, rfl⟩
          have C11 : Hid (∀ W, Below wr.heap.size wr W → Calls Try.prog 11 #[.agg #[.slice aq nq cq, .int .i64 tq, .int .i64 dq, .int .i64 xq], .int .i64 rt, .int .i64 rd, .int .i64 rg, .int .u64 rv] W fun e w' => ∃ a c, e = .returned (.tuple #[.agg #[.slice a n1 c, .int .i64 x, .int .i64 y, .int .i64 z], .int .i64 E]) ∧ n1 ≤ c ∧ (∀ p, a = some p → W.heap.size ≤ p.block) ∧ LAt w' a l1 ∧ Below W.heap.size W w') := Lib.hid (fun W hW =>
            Calls.mono (push11 W aq nq cq tq dq xq lq HQ.out.len (HQ.out.lat.below hW (Nat.le_refl _)) (by have := HQ.out.few; have := H60.out; omega) HQ.out.nx rt rd rg rv HRow.out.1 HRow.out.2.1 HRow.out.2.2.1 HRow.out.2.2.2) (fun e w' h => by
              obtain ⟨a', c', he, hc, hf, hl, hb⟩ := hpo _ _ _ h
              rw [← hn1]; exact ⟨a', c', he, hc, hf, hl, hb⟩))
          have HGo : Hid (E = 0 → n1 = nq + 1 ∧ QOk x y z l1 ∧ I64 z) := Lib.hid (fun h => by
            obtain ⟨h0, h1, h2, h3, h4, h5, h6⟩ := hgo h
            refine ⟨?_, h5, h6⟩
            rw [← hn1, h4, pushL_length, HQ.out.len])
          have HSS : Hid (∀ W, Below wr.heap.size wr W → W.cell? ⟨H, 0, none⟩ = some (.slice aq nq cq) ∧ W.cell? ⟨H, 1, none⟩ = some (.int .i64 tq) ∧ W.cell? ⟨H, 2, none⟩ = some (.int .i64 dq) ∧ W.cell? ⟨H, 3, none⟩ = some (.int .i64 xq) ∧ W.cell? ⟨rb, ro + k * 4, none⟩ = some (.int .i64 rt) ∧ W.cell? ⟨rb, ro + k * 4 + 1, none⟩ = some (.int .i64 rd) ∧ W.cell? ⟨rb, ro + k * 4 + 2, none⟩ = some (.int .i64 rg) ∧ W.cell? ⟨rb, ro + k * 4 + 3, none⟩ = some (.int .u64 rv)) := Lib.hid (fun W hW => by
            have cl : ∀ {b j : Nat} {u : Value}, wr.cell? ⟨b, j, none⟩ = some u → W.cell? ⟨b, j, none⟩ = some u := fun h => (hW.cell (p := ⟨_, _, none⟩) (World.block_lt_of_cell? wr _ h)).trans h
            exact ⟨cl k0, cl k1, cl k2, cl k3, cl r0, cl r1, cl r2, cl r3⟩)
          have HN1 := Lib.hid hn1
          clear hE hle hgo hpo hn1 hrw it id' ig iv' hrb
          go_wp2_with fail
          go_cut [7, 8] from 30 to 114 (fun p e wx => ∃ (P : Nat) (a1 : Option Addr) (c1 : Nat), p = .pointer (some ⟨P, 0, none⟩) ∧ e = .int .i64 E ∧ Hid (QNew wr wx P a1 n1 c1 x y z l1))
          case first =>
            refine wp_region_held_drew (S := fun w' => w'.cell? ⟨H, 0, none⟩ = some (.slice aq nq cq) ∧ w'.cell? ⟨H, 1, none⟩ = some (.int .i64 tq) ∧ w'.cell? ⟨H, 2, none⟩ = some (.int .i64 dq) ∧ w'.cell? ⟨H, 3, none⟩ = some (.int .i64 xq) ∧ w'.cell? ⟨rb, ro + k * 4, none⟩ = some (.int .i64 rt) ∧ w'.cell? ⟨rb, ro + k * 4 + 1, none⟩ = some (.int .i64 rd) ∧ w'.cell? ⟨rb, ro + k * 4 + 2, none⟩ = some (.int .i64 rg) ∧ w'.cell? ⟨rb, ro + k * 4 + 3, none⟩ = some (.int .u64 rv)) (by kernel_rfl) (HSS.out _ (Below.refl _ _).drew) (fun hHeld => ?_)
            refine wpAnyH_take (i := 0) (v := ?_) (by simp only [List.getElem?_toArray, List.getElem?_cons_succ, List.getElem?_cons_zero]; rfl) (by kernel_rfl) (by kernel_rfl) (by kernel_rfl) (by intro _ _ _ h; exact h) (Or.inl ⟨by rfl, ?_⟩) (by assumption) ?_
            rotate_left
            · intro w hSw; (try dsimp only at hSw); go_simp; try with_reducible rfl
            try simp only [Act.put, List.setIfInBounds_toArray, List.set_cons_zero, List.set_cons_succ]
            refine wpAnyH_take (i := 1) (v := ?_) (by simp only [List.getElem?_toArray, List.getElem?_cons_succ, List.getElem?_cons_zero]; rfl) (by kernel_rfl) (by kernel_rfl) (by kernel_rfl) (by intro _ _ _ h; exact h) (Or.inl ⟨by rfl, ?_⟩) (by assumption) ?_
            rotate_left
            · intro w hSw; (try dsimp only at hSw); go_simp; try with_reducible rfl
            try simp only [Act.put, List.setIfInBounds_toArray, List.set_cons_zero, List.set_cons_succ]
            refine wpAnyH_take (i := 2) (v := ?_) (by simp only [List.getElem?_toArray, List.getElem?_cons_succ, List.getElem?_cons_zero]; rfl) (by kernel_rfl) (by kernel_rfl) (by kernel_rfl) (by intro _ _ _ h; exact h) (Or.inl ⟨by rfl, ?_⟩) (by assumption) ?_
            rotate_left
            · intro w hSw; (try dsimp only at hSw); go_simp; try with_reducible rfl
            try simp only [Act.put, List.setIfInBounds_toArray, List.set_cons_zero, List.set_cons_succ]
            refine wpAnyH_take (i := 3) (v := ?_) (by simp only [List.getElem?_toArray, List.getElem?_cons_succ, List.getElem?_cons_zero]; rfl) (by kernel_rfl) (by kernel_rfl) (by kernel_rfl) (by intro _ _ _ h; exact h) (Or.inl ⟨by rfl, ?_⟩) (by assumption) ?_
            rotate_left
            · intro w hSw; (try dsimp only at hSw); go_simp; first | with_reducible rfl | rw [if_pos (by omega)]
            try simp only [Act.put, List.setIfInBounds_toArray, List.set_cons_zero, List.set_cons_succ]
            refine wpAnyH_take (i := 4) (v := ?_) (by simp only [List.getElem?_toArray, List.getElem?_cons_succ, List.getElem?_cons_zero]; rfl) (by kernel_rfl) (by kernel_rfl) (by kernel_rfl) (by intro _ _ _ h; exact h) (Or.inl ⟨by rfl, ?_⟩) (by assumption) ?_
            rotate_left
            · intro w hSw; (try dsimp only at hSw); go_simp; try with_reducible rfl
            try simp only [Act.put, List.setIfInBounds_toArray, List.set_cons_zero, List.set_cons_succ]
            refine wpAnyH_take (i := 5) (v := ?_) (by simp only [List.getElem?_toArray, List.getElem?_cons_succ, List.getElem?_cons_zero]; rfl) (by kernel_rfl) (by kernel_rfl) (by kernel_rfl) (by intro _ _ _ h; exact h) (Or.inl ⟨by rfl, ?_⟩) (by assumption) ?_
            rotate_left
            · intro w hSw; (try dsimp only at hSw); go_simp; try with_reducible rfl
            try simp only [Act.put, List.setIfInBounds_toArray, List.set_cons_zero, List.set_cons_succ]
            refine wpAnyH_take (i := 6) (v := ?_) (by simp only [List.getElem?_toArray, List.getElem?_cons_succ, List.getElem?_cons_zero]; rfl) (by kernel_rfl) (by kernel_rfl) (by kernel_rfl) (by intro _ _ _ h; exact h) (Or.inl ⟨by rfl, ?_⟩) (by assumption) ?_
            rotate_left
            · intro w hSw; (try dsimp only at hSw); go_simp; try with_reducible rfl
            try simp only [Act.put, List.setIfInBounds_toArray, List.set_cons_zero, List.set_cons_succ]
            refine wpAnyH_take (i := 7) (v := ?_) (by simp only [List.getElem?_toArray, List.getElem?_cons_succ, List.getElem?_cons_zero]; rfl) (by kernel_rfl) (by kernel_rfl) (by kernel_rfl) (by intro _ _ _ h; exact h) (Or.inl ⟨by rfl, ?_⟩) (by assumption) ?_
            rotate_left
            · intro w hSw; (try dsimp only at hSw); go_simp; try with_reducible rfl
            try simp only [Act.put, List.setIfInBounds_toArray, List.set_cons_zero, List.set_cons_succ]
            refine wpAnyH_take (i := 8) (v := ?_) (by simp only [List.getElem?_toArray, List.getElem?_cons_succ, List.getElem?_cons_zero]; rfl) (by kernel_rfl) (by kernel_rfl) (by kernel_rfl) (by intro _ _ _ h; exact h) (Or.inl ⟨by rfl, ?_⟩) (by assumption) ?_
            rotate_left
            · intro w hSw; (try dsimp only at hSw); go_simp; first | with_reducible rfl | rw [if_pos (by omega)]
            try simp only [Act.put, List.setIfInBounds_toArray, List.set_cons_zero, List.set_cons_succ]
            refine wpAnyH_take (i := 9) (v := ?_) (by simp only [List.getElem?_toArray, List.getElem?_cons_succ, List.getElem?_cons_zero]; rfl) (by kernel_rfl) (by kernel_rfl) (by kernel_rfl) (by intro _ _ _ h; exact h) (Or.inl ⟨by rfl, ?_⟩) (by assumption) ?_
            rotate_left
            · intro w hSw; (try dsimp only at hSw); go_simp; try with_reducible rfl
            try simp only [Act.put, List.setIfInBounds_toArray, List.set_cons_zero, List.set_cons_succ]
            refine wpAnyH_take (i := 10) (v := ?_) (by simp only [List.getElem?_toArray, List.getElem?_cons_succ, List.getElem?_cons_zero]; rfl) (by kernel_rfl) (by kernel_rfl) (by kernel_rfl) (by intro _ _ _ h; exact h) (Or.inl ⟨by rfl, ?_⟩) (by assumption) ?_
            rotate_left
            · intro w hSw; (try dsimp only at hSw); go_simp; try with_reducible rfl
            try simp only [Act.put, List.setIfInBounds_toArray, List.set_cons_zero, List.set_cons_succ]
            refine wpAnyH_take (i := 11) (v := ?_) (by simp only [List.getElem?_toArray, List.getElem?_cons_succ, List.getElem?_cons_zero]; rfl) (by kernel_rfl) (by kernel_rfl) (by kernel_rfl) (by intro _ _ _ h; exact h) (Or.inl ⟨by rfl, ?_⟩) (by assumption) ?_
            rotate_left
            · intro w hSw; (try dsimp only at hSw); go_simp; try with_reducible rfl
            try simp only [Act.put, List.setIfInBounds_toArray, List.set_cons_zero, List.set_cons_succ]
            refine wpAnyH_take (i := 12) (v := ?_) (by simp only [List.getElem?_toArray, List.getElem?_cons_succ, List.getElem?_cons_zero]; rfl) (by kernel_rfl) (by kernel_rfl) (by kernel_rfl) (by intro _ _ _ h; exact h) (Or.inl ⟨by rfl, ?_⟩) (by assumption) ?_
            rotate_left
            · intro w hSw; (try dsimp only at hSw); go_simp; try with_reducible rfl
            try simp only [Act.put, List.setIfInBounds_toArray, List.set_cons_zero, List.set_cons_succ]
            refine wpAnyH_take (i := 13) (v := ?_) (by simp only [List.getElem?_toArray, List.getElem?_cons_succ, List.getElem?_cons_zero]; rfl) (by kernel_rfl) (by kernel_rfl) (by kernel_rfl) (by intro _ _ _ h; exact h) (Or.inl ⟨by rfl, ?_⟩) (by assumption) ?_
            rotate_left
            · intro w hSw; (try dsimp only at hSw); go_simp; first | with_reducible rfl | rw [if_pos (by omega)]
            try simp only [Act.put, List.setIfInBounds_toArray, List.set_cons_zero, List.set_cons_succ]
            refine wpAnyH_take (i := 14) (v := ?_) (by simp only [List.getElem?_toArray, List.getElem?_cons_succ, List.getElem?_cons_zero]; rfl) (by kernel_rfl) (by kernel_rfl) (by kernel_rfl) (by intro _ _ _ h; exact h) (Or.inl ⟨by rfl, ?_⟩) (by assumption) ?_
            rotate_left
            · intro w hSw; (try dsimp only at hSw); go_simp; try with_reducible rfl
            try simp only [Act.put, List.setIfInBounds_toArray, List.set_cons_zero, List.set_cons_succ]
            refine wpAnyH_take (i := 15) (v := ?_) (by simp only [List.getElem?_toArray, List.getElem?_cons_succ, List.getElem?_cons_zero]; rfl) (by kernel_rfl) (by kernel_rfl) (by kernel_rfl) (by intro _ _ _ h; exact h) (Or.inl ⟨by rfl, ?_⟩) (by assumption) ?_
            rotate_left
            · intro w hSw; (try dsimp only at hSw); go_simp; try with_reducible rfl
            try simp only [Act.put, List.setIfInBounds_toArray, List.set_cons_zero, List.set_cons_succ]
            refine wpAnyH_take (i := 16) (v := ?_) (by simp only [List.getElem?_toArray, List.getElem?_cons_succ, List.getElem?_cons_zero]; rfl) (by kernel_rfl) (by kernel_rfl) (by kernel_rfl) (by intro _ _ _ h; exact h) (Or.inl ⟨by rfl, ?_⟩) (by assumption) ?_
            rotate_left
            · intro w hSw; (try dsimp only at hSw); go_simp; try with_reducible rfl
            try simp only [Act.put, List.setIfInBounds_toArray, List.set_cons_zero, List.set_cons_succ]
            refine wpAnyH_take (i := 17) (v := ?_) (by simp only [List.getElem?_toArray, List.getElem?_cons_succ, List.getElem?_cons_zero]; rfl) (by kernel_rfl) (by kernel_rfl) (by kernel_rfl) (by intro _ _ _ h; exact h) (Or.inl ⟨by rfl, ?_⟩) (by assumption) ?_
            rotate_left
            · intro w hSw; (try dsimp only at hSw); go_simp; try with_reducible rfl
            try simp only [Act.put, List.setIfInBounds_toArray, List.set_cons_zero, List.set_cons_succ]
            refine wpAnyH_take (i := 18) (v := ?_) (by simp only [List.getElem?_toArray, List.getElem?_cons_succ, List.getElem?_cons_zero]; rfl) (by kernel_rfl) (by kernel_rfl) (by kernel_rfl) (by intro _ _ _ h; exact h) (Or.inl ⟨by rfl, ?_⟩) (by assumption) ?_
            rotate_left
            · intro w hSw; (try dsimp only at hSw); go_simp; first | with_reducible rfl | rw [if_pos (by omega)]
            try simp only [Act.put, List.setIfInBounds_toArray, List.set_cons_zero, List.set_cons_succ]
            refine wpAnyH_take (i := 19) (v := ?_) (by simp only [List.getElem?_toArray, List.getElem?_cons_succ, List.getElem?_cons_zero]; rfl) (by kernel_rfl) (by kernel_rfl) (by kernel_rfl) (by intro _ _ _ h; exact h) (Or.inl ⟨by rfl, ?_⟩) (by assumption) ?_
            rotate_left
            · intro w hSw; (try dsimp only at hSw); go_simp; try with_reducible rfl
            try simp only [Act.put, List.setIfInBounds_toArray, List.set_cons_zero, List.set_cons_succ]
            refine wpAnyH_take (i := 20) (v := ?_) (by simp only [List.getElem?_toArray, List.getElem?_cons_succ, List.getElem?_cons_zero]; rfl) (by kernel_rfl) (by kernel_rfl) (by kernel_rfl) (by intro _ _ _ h; exact h) (Or.inl ⟨by rfl, ?_⟩) (by assumption) ?_
            rotate_left
            · intro w hSw; (try dsimp only at hSw); go_simp; try with_reducible rfl
            try simp only [Act.put, List.setIfInBounds_toArray, List.set_cons_zero, List.set_cons_succ]
            refine wpAnyH_ready (rs := [21, 25]) (by kernel_rfl) (by simp) ?_
            refine AllReadyH.cons (o := _) (by simp only [List.getElem?_toArray, List.getElem?_cons_succ, List.getElem?_cons_zero]; rfl) (fun K hK => ?_) (AllReadyH.cons (o := _) (by simp only [List.getElem?_toArray, List.getElem?_cons_succ, List.getElem?_cons_zero]; rfl) (fun K hK => ?_) AllReadyH.nil)
            · go_simp
              go_at_call 11
              refine Calls.mono (C11.out wr.drew (Below.refl _ _).drew) ?_
              rintro e w5 ⟨a1, c1, rfl, hc1, hf1, hl1, hb5⟩
              have HB5 : Hid (Below wr.heap.size wr w5) := Lib.hid (Below.trans (Below.refl _ _).drew (hb5.mono (show wr.heap.size ≤ (wr.drew).heap.size by simp)))
              have HW5 := Lib.hid hb5
              have HCf := Lib.hid (And.intro hc1 (And.intro hf1 hl1))
              clear hc1 hf1 hl1 hb5
              go_simp
              refine hK.out _ _ (by exact HSS.out _ HB5.out) (fun hHeld => ?_)
              clear hK K
              try simp only [Act.put, List.setIfInBounds_toArray, List.set_cons_zero, List.set_cons_succ]
              refine wpAnyH_take (i := 22) (v := ?_) (by simp only [List.getElem?_toArray, List.getElem?_cons_succ, List.getElem?_cons_zero]; rfl) (by kernel_rfl) (by kernel_rfl) (by kernel_rfl) (by intro _ _ _ h; exact h) (Or.inl ⟨by rfl, ?_⟩) (by assumption) ?_
              rotate_left
              · intro w hSw; (try dsimp only at hSw); go_simp; try with_reducible rfl
              try simp only [Act.put, List.setIfInBounds_toArray, List.set_cons_zero, List.set_cons_succ]
              refine wpAnyH_take (i := 23) (v := ?_) (by simp only [List.getElem?_toArray, List.getElem?_cons_succ, List.getElem?_cons_zero]; rfl) (by kernel_rfl) (by kernel_rfl) (by kernel_rfl) (by intro _ _ _ h; exact h) (Or.inl ⟨by rfl, ?_⟩) (by assumption) ?_
              rotate_left
              · intro w hSw; (try dsimp only at hSw); go_simp; try with_reducible rfl
              try simp only [Act.put, List.setIfInBounds_toArray, List.set_cons_zero, List.set_cons_succ]
              refine wpAnyH_take (i := 24) (v := ?_) (by simp only [List.getElem?_toArray, List.getElem?_cons_succ, List.getElem?_cons_zero]; rfl) (by kernel_rfl) (by kernel_rfl) (by kernel_rfl) (by intro _ _ _ h; exact h) (Or.inl ⟨by rfl, ?_⟩) (by assumption) ?_
              rotate_left
              · intro w hSw; (try dsimp only at hSw); go_simp; try with_reducible rfl
              try simp only [Act.put, List.setIfInBounds_toArray, List.set_cons_zero, List.set_cons_succ]
              refine wpAnyH_ready (rs := [25]) (by kernel_rfl) (by simp) ?_
              refine AllReadyH.cons (o := _) (by simp only [List.getElem?_toArray, List.getElem?_cons_succ, List.getElem?_cons_zero]; rfl) (fun K hK => ?_) AllReadyH.nil
              go_simp

              refine hK.out _ _ (by exact HSS.out _ (HB5.out.alloc HB5.out.size _)) (fun hHeld => ?_)
              clear hK K
              try simp only [Act.put, List.setIfInBounds_toArray, List.set_cons_zero, List.set_cons_succ]
              refine wpAnyH_ready (rs := [26]) (by kernel_rfl) (by simp) ?_
              refine AllReadyH.cons (o := _) (by simp only [List.getElem?_toArray, List.getElem?_cons_succ, List.getElem?_cons_zero]; rfl) (fun K hK => ?_) AllReadyH.nil
              go_simp

              refine hK.out _ _ (by exact HSS.out _ (HB5.out.alloc HB5.out.size _)) (fun hHeld => ?_)
              clear hK K
              try simp only [Act.put, List.setIfInBounds_toArray, List.set_cons_zero, List.set_cons_succ]
              refine wpAnyH_take (i := 27) (v := ?_) (by simp only [List.getElem?_toArray, List.getElem?_cons_succ, List.getElem?_cons_zero]; rfl) (by kernel_rfl) (by kernel_rfl) (by kernel_rfl) (by intro _ _ _ h; exact h) (Or.inl ⟨by rfl, ?_⟩) (by assumption) ?_
              rotate_left
              · intro w hSw; (try dsimp only at hSw); go_simp; try with_reducible rfl
              try simp only [Act.put, List.setIfInBounds_toArray, List.set_cons_zero, List.set_cons_succ]
              refine wpAnyH_done (by kernel_rfl) ?_ _
              go_wp2_with fail
              go_meet
              exact ⟨w5.heap.size, a1, c1, rfl, rfl, Lib.hid (QNew.made HN1.out HCf.out.2.2 HCf.out.1 (fun p hp => Nat.le_trans (by simp) (HCf.out.2.1 p hp)) HB5.out)⟩
            · go_simp

              refine hK.out _ _ (by exact HSS.out _ ((Below.refl _ _).drew.alloc (Nat.le_refl _) _)) (fun hHeld => ?_)
              clear hK K
              try simp only [Act.put, List.setIfInBounds_toArray, List.set_cons_zero, List.set_cons_succ]
              refine wpAnyH_ready (rs := [21]) (by kernel_rfl) (by simp) ?_
              refine AllReadyH.cons (o := _) (by simp only [List.getElem?_toArray, List.getElem?_cons_succ, List.getElem?_cons_zero]; rfl) (fun K hK => ?_) AllReadyH.nil
              go_simp
              go_at_call 11
              refine Calls.mono (C11.out (wr.drew.alloc (Obj.cells #[Value.slice none 0 0, Value.int IntKind.i64 0, Value.int IntKind.i64 0, Value.int IntKind.i64 0] 24)) ((Below.refl _ _).drew.alloc (Nat.le_refl _) _)) ?_
              rintro e w5 ⟨a1, c1, rfl, hc1, hf1, hl1, hb5⟩
              have HB5 : Hid (Below wr.heap.size wr w5) := Lib.hid (Below.trans ((Below.refl _ _).drew.alloc (Nat.le_refl _) _) (hb5.mono (show wr.heap.size ≤ ((wr.drew.alloc (Obj.cells #[Value.slice none 0 0, Value.int IntKind.i64 0, Value.int IntKind.i64 0, Value.int IntKind.i64 0] 24))).heap.size by simp)))
              have HW5 := Lib.hid hb5
              have HCf := Lib.hid (And.intro hc1 (And.intro hf1 hl1))
              clear hc1 hf1 hl1 hb5
              have z0 : w5.cell? ⟨wr.heap.size, 0, none⟩ = some (.slice none 0 0) := (HW5.out.cell (p := ⟨wr.heap.size, 0, none⟩) (by simp)).trans (q_cells wr.drew none 0 0 0 0 0).1
              have z1 : w5.cell? ⟨wr.heap.size, 1, none⟩ = some (.int .i64 0) := (HW5.out.cell (p := ⟨wr.heap.size, 1, none⟩) (by simp)).trans (q_cells wr.drew none 0 0 0 0 0).2.1
              have z2 : w5.cell? ⟨wr.heap.size, 2, none⟩ = some (.int .i64 0) := (HW5.out.cell (p := ⟨wr.heap.size, 2, none⟩) (by simp)).trans (q_cells wr.drew none 0 0 0 0 0).2.2.1
              have z3 : w5.cell? ⟨wr.heap.size, 3, none⟩ = some (.int .i64 0) := (HW5.out.cell (p := ⟨wr.heap.size, 3, none⟩) (by simp)).trans (q_cells wr.drew none 0 0 0 0 0).2.2.2
              have f0 : w5.frozen? ⟨wr.heap.size, 0, none⟩ = false := (HW5.out.frozen (p := ⟨wr.heap.size, 0, none⟩) (by simp)).trans (fz_top wr.drew _ _ 0)
              have f1 : w5.frozen? ⟨wr.heap.size, 1, none⟩ = false := (HW5.out.frozen (p := ⟨wr.heap.size, 1, none⟩) (by simp)).trans (fz_top wr.drew _ _ 1)
              have f2 : w5.frozen? ⟨wr.heap.size, 2, none⟩ = false := (HW5.out.frozen (p := ⟨wr.heap.size, 2, none⟩) (by simp)).trans (fz_top wr.drew _ _ 2)
              have f3 : w5.frozen? ⟨wr.heap.size, 3, none⟩ = false := (HW5.out.frozen (p := ⟨wr.heap.size, 3, none⟩) (by simp)).trans (fz_top wr.drew _ _ 3)
              go_simp
              refine hK.out _ _ (by exact HSS.out _ HB5.out) (fun hHeld => ?_)
              clear hK K
              try simp only [Act.put, List.setIfInBounds_toArray, List.set_cons_zero, List.set_cons_succ]
              refine wpAnyH_take (i := 22) (v := ?_) (by simp only [List.getElem?_toArray, List.getElem?_cons_succ, List.getElem?_cons_zero]; rfl) (by kernel_rfl) (by kernel_rfl) (by kernel_rfl) (by intro _ _ _ h; exact h) (Or.inl ⟨by rfl, ?_⟩) (by assumption) ?_
              rotate_left
              · intro w hSw; (try dsimp only at hSw); go_simp; try with_reducible rfl
              try simp only [Act.put, List.setIfInBounds_toArray, List.set_cons_zero, List.set_cons_succ]
              refine wpAnyH_take (i := 23) (v := ?_) (by simp only [List.getElem?_toArray, List.getElem?_cons_succ, List.getElem?_cons_zero]; rfl) (by kernel_rfl) (by kernel_rfl) (by kernel_rfl) (by intro _ _ _ h; exact h) (Or.inl ⟨by rfl, ?_⟩) (by assumption) ?_
              rotate_left
              · intro w hSw; (try dsimp only at hSw); go_simp; try with_reducible rfl
              try simp only [Act.put, List.setIfInBounds_toArray, List.set_cons_zero, List.set_cons_succ]
              refine wpAnyH_take (i := 24) (v := ?_) (by simp only [List.getElem?_toArray, List.getElem?_cons_succ, List.getElem?_cons_zero]; rfl) (by kernel_rfl) (by kernel_rfl) (by kernel_rfl) (by intro _ _ _ h; exact h) (Or.inl ⟨by rfl, ?_⟩) (by assumption) ?_
              rotate_left
              · intro w hSw; (try dsimp only at hSw); go_simp; try with_reducible rfl
              try simp only [Act.put, List.setIfInBounds_toArray, List.set_cons_zero, List.set_cons_succ]
              refine wpAnyH_ready (rs := [26]) (by kernel_rfl) (by simp) ?_
              refine AllReadyH.cons (o := _) (by simp only [List.getElem?_toArray, List.getElem?_cons_succ, List.getElem?_cons_zero]; rfl) (fun K hK => ?_) AllReadyH.nil
              go_simp

              refine hK.out _ _ (by exact HSS.out _ (put4_below (b := wr.heap.size) HB5.out (Nat.le_refl _))) (fun hHeld => ?_)
              clear hK K
              try simp only [Act.put, List.setIfInBounds_toArray, List.set_cons_zero, List.set_cons_succ]
              refine wpAnyH_take (i := 27) (v := ?_) (by simp only [List.getElem?_toArray, List.getElem?_cons_succ, List.getElem?_cons_zero]; rfl) (by kernel_rfl) (by kernel_rfl) (by kernel_rfl) (by intro _ _ _ h; exact h) (Or.inl ⟨by rfl, ?_⟩) (by assumption) ?_
              rotate_left
              · intro w hSw; (try dsimp only at hSw); go_simp; try with_reducible rfl
              try simp only [Act.put, List.setIfInBounds_toArray, List.set_cons_zero, List.set_cons_succ]
              refine wpAnyH_done (by kernel_rfl) ?_ _
              clear z0 z1 z2 z3 f0 f1 f2 f3
              go_wp2_with fail
              go_meet
              exact ⟨wr.heap.size, a1, c1, rfl, rfl, Lib.hid (QNew.laid HN1.out HCf.out.2.2 HCf.out.1 (fun p hp => Nat.le_trans (by simp) (HCf.out.2.1 p hp)) (Nat.le_refl _) HB5.out ((HW5.out.cell (p := ⟨wr.heap.size, 0, none⟩) (by simp)).trans (q_cells wr.drew none 0 0 0 0 0).1) ((HW5.out.cell (p := ⟨wr.heap.size, 1, none⟩) (by simp)).trans (q_cells wr.drew none 0 0 0 0 0).2.1) ((HW5.out.cell (p := ⟨wr.heap.size, 2, none⟩) (by simp)).trans (q_cells wr.drew none 0 0 0 0 0).2.2.1) ((HW5.out.cell (p := ⟨wr.heap.size, 3, none⟩) (by simp)).trans (q_cells wr.drew none 0 0 0 0 0).2.2.2))⟩
          case rest =>
            obtain ⟨wA, hwA⟩ : ∃ W, W = wc := ⟨_, rfl⟩
            subst hwA
            obtain ⟨P, a1, c1, rfl, rfl, HNw⟩ := hcut
            have HQc : Hid (QSt w wA H (300 + k) aq nq cq tq dq xq lq) := Lib.hid (HQ.out.below HNw.out.bel)
            clear k0 k1 k2 k3 r0 r1 r2 r3
            have k0 := HQc.out.c0
            have k1 := HQc.out.c1
            have k2 := HQc.out.c2
            have k3 := HQc.out.c3
            have f0 := HQc.out.fz 0
            have f1 := HQc.out.fz 1
            have f2 := HQc.out.fz 2
            have f3 := HQc.out.fz 3
            have p0 := HNw.out.c0
            have p1 := HNw.out.c1
            have p2 := HNw.out.c2
            have p3 := HNw.out.c3
            have hHP : H ≠ P := by have := HQ.out.lt; have := HNw.out.new; omega
            have hnq : nq ≤ 360 := by have := HQ.out.few; omega
            go_upto_region 8 with fail
            go_cut [72] from 30 to 114 (fun s wx => s = .bool (decide (E = 0)) ∧ wx = wA)
            case first =>
              by_cases hE : E = 0
              · subst hE
                obtain ⟨hn1, -, -⟩ := HGo.out rfl
                subst hn1
                have hw : wrap64 ((nq : Int) + 1) = (nq : Int) + 1 := by
                  rw [show (nq : Int) + 1 = ((nq + 1 : Nat) : Int) by omega, ← IntWalk.i64_left]
                  exact Lib.wrap_i64_small _ (by omega)
                go_wp2_with fail
                go_meet
                exact ⟨by simp, rfl⟩
              · have hEb : (E == 0) = false := by simpa using hE
                go_wp2_with fail
                go_meet
                exact ⟨by simp [hE], rfl⟩
            case rest =>
              obtain ⟨rfl, hwc⟩ := hcut
              subst hwc
              go_upto_if 72 with fail
              go_cut [] from 30 to 114 (fun wx => ∃ (a : Option Addr) (n c : Nat) (now delta next : Int) (l : List EvV), Hid (QSt w wx H (300 + (k + 1)) a n c now delta next l))
              case first =>
                by_cases hE : E = 0
                · have hEd : decide (E = 0) = true := by simpa using hE
                  rw [hEd]
                  obtain ⟨hn1, hok, hz⟩ := HGo.out hE
                  have HG2 := Lib.hid (And.intro hok hz)
                  have HNn := Lib.hid hn1
                  clear hE hEd hok hz hn1
                  go_wp2_with fail
                  go_meet
                  exact ⟨a1, n1, c1, x, y, z, l1, Lib.hid (HQc.out.put (by rw [HHH.out]; exact Nat.le_refl _) HNw.out.len HNw.out.lat (fun _ p hp => by have := HNw.out.fresh p hp; have := HQ.out.lt; omega) HNw.out.cap (by have := HNn.out; have := HQ.out.few; omega) HG2.out.1 HG2.out.2)⟩
                · have hEd : decide (E = 0) = false := by simpa using hE
                  rw [hEd]
                  go_wp2_with fail
                  go_meet
                  exact ⟨aq, nq, cq, tq, dq, xq, lq, Lib.hid (HQc.out.more (by omega))⟩
              case rest =>
                obtain ⟨wB, hwB⟩ : ∃ W, W = wc := ⟨_, rfl⟩
                subst hwB
                obtain ⟨aq2, nq2, cq2, tq2, dq2, xq2, lq2, HQ2⟩ := hcut
                clear k0 k1 k2 k3 f0 f1 f2 f3 p0 p1 p2 p3 hHP hnq
                have k0 := HQ2.out.c0
                have k1 := HQ2.out.c1
                have k2 := HQ2.out.c2
                have k3 := HQ2.out.c3
                have f0 := HQ2.out.fz 0
                have f1 := HQ2.out.fz 1
                have f2 := HQ2.out.fz 2
                have f3 := HQ2.out.fz 3
                obtain ⟨b', o', ha', -, -, -, -, r3⟩ := (HR.out.below HQ2.out.bel (Nat.le_refl _)).row k (by rw [HM.out]; exact hlt)
                injection ha' with ha'
                injection ha' with ha1 ha2
                subst ha1 ha2
                rw [← HRw.out] at r3
                go_upto_if 80 with fail
                go_cut [9, 10, 11] from 30 to 114 (fun _ _ _ wx => ∃ (a : Option Addr) (n c : Nat) (now delta next : Int) (l : List EvV), Hid (QSt w wx H (300 + (k + 1)) a n c now delta next l))
                case first =>
                  go_wp2_with fail
                  · refine Calls.mono (pop18 wB aq2 nq2 cq2 tq2 dq2 xq2 lq2 HQ2.out.len HQ2.out.lat (by have := HQ2.out.few; omega) HQ2.out.cap) ?_
                    intro e w6 hpo
                    unfold Popped at hpo
                    by_cases h0 : comeE tq2 dq2 xq2 lq2 = 0
                    · rw [if_pos h0] at hpo
                      obtain ⟨hok, hlp⟩ := come_zero.1 h0
                      have hok' := hok.come hlp 1 (Nat.le_refl _)
                      obtain ⟨xx, hx⟩ : ∃ x, x = lq2.getD 0 default := ⟨_, rfl⟩
                      rw [← hx] at hpo hok'
                      obtain ⟨xt, xd, xn, xs, xv⟩ := xx
                      dsimp only at hok' hpo
                      obtain ⟨nw, hnw⟩ : ∃ k, (lq2.drop 1).length = k := ⟨_, rfl⟩
                      obtain ⟨aw, cw, rfl, hcw, hfw, hlw, hb6⟩ := hpo
                      rw [hnw] at hcw ⊢
                      have hnl : nw ≤ nq2 := by rw [← hnw, List.length_drop, HQ2.out.len]; omega
                      have HB : Hid (Below wB.heap.size wB w6) := Lib.hid hb6
                      have HV := Lib.hid (QSt.below HQ2.out ((hb6.alloc hb6.size (Obj.cells #[Value.slice aw nw cw, Value.int IntKind.i64 xt, Value.int IntKind.i64 xd, Value.int IntKind.i64 xq2] 24)).alloc (Nat.le_trans hb6.size (by simp)) (Obj.cells #[Value.int IntKind.i64 xt, Value.int IntKind.i64 xd, Value.int IntKind.i64 xn, Value.int IntKind.i64 xs, Value.int IntKind.u64 xv] 35)))
                      have HW := Lib.hid (And.intro hnw (And.intro hcw (And.intro hfw (And.intro hlw (And.intro hnl hok')))))
                      have HHw : Hid (H < w6.heap.size) := Lib.hid (Nat.lt_of_lt_of_le HQ2.out.lt hb6.size)
                      obtain ⟨p0, p1, p2, p3, -⟩ := qev_cells w6 aw nw cw xt xd xq2 xt xd xn xs xv rfl
                      clear k0 k1 k2 k3 f0 f1 f2 f3 r3 h0 hok hlp hok' hx hnw hcw hfw hlw hnl hb6
                      have k0 := HV.out.c0
                      have k1 := HV.out.c1
                      have k2 := HV.out.c2
                      have k3 := HV.out.c3
                      have f0 := HV.out.fz 0
                      have f1 := HV.out.fz 1
                      have f2 := HV.out.fz 2
                      have f3 := HV.out.fz 3
                      go_wp2_with fail
                      go_meet
                      exact ⟨aw, nw, cw, xt, xd, xq2, lq2.drop 1, Lib.hid (HV.out.put (by rw [HHH.out]; exact Nat.le_refl _) HW.out.1 (HW.out.2.2.2.1.below (((Below.refl _ _).alloc (Nat.le_refl _) _).alloc (by simp) _) (Nat.le_refl _)) (fun _ p hp => by have := HW.out.2.2.1 p hp; have := HQ2.out.lt; omega) HW.out.2.1 (by have := HW.out.2.2.2.2.1; have := HQ2.out.few; omega) HW.out.2.2.2.2.2 HQ2.out.nx)⟩
                    · rw [if_neg h0] at hpo
                      obtain ⟨E2, hE2⟩ : ∃ E, E = comeE tq2 dq2 xq2 lq2 := ⟨_, rfl⟩
                      rw [← hE2] at h0 hpo
                      obtain ⟨aw, cw, rfl, hcw, hfw, hlw, hb6⟩ := hpo
                      rw [List.length_nil]
                      have hEb : (E2 == 0) = false := by simpa using h0
                      have HV := Lib.hid (QSt.below HQ2.out ((hb6.alloc hb6.size (Obj.cells #[Value.slice aw 0 cw, Value.int IntKind.i64 0, Value.int IntKind.i64 0, Value.int IntKind.i64 0] 24)).alloc (Nat.le_trans hb6.size (by simp)) (Obj.cells #[Value.int IntKind.i64 0, Value.int IntKind.i64 0, Value.int IntKind.i64 0, Value.int IntKind.i64 0, Value.int IntKind.u64 0] 35)))
                      clear k0 k1 k2 k3 f0 f1 f2 f3 r3 h0 hE2 hcw hfw hlw hb6
                      go_wp2_with fail
                      go_meet
                      exact ⟨aq2, nq2, cq2, tq2, dq2, xq2, lq2, HV⟩
                  · go_meet
                    exact ⟨aq2, nq2, cq2, tq2, dq2, xq2, lq2, HQ2⟩
                case rest =>
                  obtain ⟨wC, hwC⟩ : ∃ W, W = wc := ⟨_, rfl⟩
                  subst hwC
                  clear k0 k1 k2 k3 f0 f1 f2 f3 r3 HQ2
                  clear aq2 nq2 cq2 tq2 dq2 xq2 lq2
                  obtain ⟨aq2, nq2, cq2, tq2, dq2, xq2, lq2, HQ2⟩ := hcut
                  have k0 := HQ2.out.c0
                  have k1 := HQ2.out.c1
                  have k2 := HQ2.out.c2
                  have k3 := HQ2.out.c3
                  have f0 := HQ2.out.fz 0
                  have f1 := HQ2.out.fz 1
                  have f2 := HQ2.out.fz 2
                  have f3 := HQ2.out.fz 3
                  obtain ⟨b', o', ha', -, -, -, -, r3⟩ := (HR.out.below HQ2.out.bel (Nat.le_refl _)).row k (by rw [HM.out]; exact hlt)
                  injection ha' with ha'
                  injection ha' with ha1 ha2
                  subst ha1 ha2
                  rw [← HRw.out] at r3
                  go_upto_if 96 with fail
                  go_cut [12, 13, 14] from 30 to 114 (fun _ _ _ wx => ∃ (a : Option Addr) (n c : Nat) (now delta next : Int) (l : List EvV), Hid (QSt w wx H (300 + (k + 1)) a n c now delta next l))
                  case first =>
                    go_wp2_with fail
                    · refine Calls.mono (take20 wC aq2 nq2 cq2 tq2 dq2 xq2 lq2 HQ2.out.len HQ2.out.lat (by have := HQ2.out.few; omega) HQ2.out.cap) ?_
                      intro e w6 hpo
                      unfold Came at hpo
                      by_cases h0 : comeE tq2 dq2 xq2 lq2 = 0
                      · rw [if_pos h0] at hpo
                        obtain ⟨hok, hlp⟩ := come_zero.1 h0
                        have hok' := hok.come hlp (1 + comeR takeR lq2) (Nat.le_add_right _ _)
                        obtain ⟨xx, hx⟩ : ∃ x, x = lq2.getD 0 default := ⟨_, rfl⟩
                        rw [← hx] at hpo hok'
                        obtain ⟨xt, xd, xn, xs, xv⟩ := xx
                        dsimp only at hok' hpo
                        obtain ⟨lw, hlwd⟩ : ∃ k, lq2.drop (1 + comeR takeR lq2) = k := ⟨_, rfl⟩
                        obtain ⟨gw, hgwd⟩ : ∃ k, lq2.take (1 + comeR takeR lq2) = k := ⟨_, rfl⟩
                        obtain ⟨nw, hnw⟩ : ∃ k, lw.length = k := ⟨_, rfl⟩
                        obtain ⟨mw, hmw⟩ : ∃ k, gw.length = k := ⟨_, rfl⟩
                        rw [hlwd, hgwd] at hpo
                        rw [hlwd] at hok'
                        obtain ⟨aw, cw, bw, dw, rfl, hcw, -, hfw, -, hlw, -, hb6⟩ := hpo
                        rw [hnw] at hcw ⊢
                        rw [hmw]
                        have hnl : nw ≤ nq2 := by rw [← hnw, ← hlwd, List.length_drop, HQ2.out.len]; omega
                        have HV := Lib.hid (QSt.below HQ2.out (hb6.alloc hb6.size (Obj.cells #[Value.slice aw nw cw, Value.int IntKind.i64 xt, Value.int IntKind.i64 xd, Value.int IntKind.i64 xq2] 24)))
                        have HW := Lib.hid (And.intro hnw (And.intro hcw (And.intro hfw (And.intro hlw (And.intro hnl hok')))))
                        have HHw : Hid (H < w6.heap.size) := Lib.hid (Nat.lt_of_lt_of_le HQ2.out.lt hb6.size)
                        obtain ⟨p0, p1, p2, p3⟩ := q_cells w6 aw nw cw xt xd xq2
                        clear k0 k1 k2 k3 f0 f1 f2 f3 r3 h0 hok hlp hok' hx hnw hcw hfw hlw hnl hb6 hlwd hgwd hmw
                        have k0 := HV.out.c0
                        have k1 := HV.out.c1
                        have k2 := HV.out.c2
                        have k3 := HV.out.c3
                        have f0 := HV.out.fz 0
                        have f1 := HV.out.fz 1
                        have f2 := HV.out.fz 2
                        have f3 := HV.out.fz 3
                        go_wp2_with fail
                        go_meet
                        exact ⟨aw, nw, cw, xt, xd, xq2, lw, Lib.hid (HV.out.put (by rw [HHH.out]; exact Nat.le_refl _) HW.out.1 (HW.out.2.2.2.1.below ((Below.refl _ _).alloc (Nat.le_refl _) _) (Nat.le_refl _)) (fun _ p hp => by have := HW.out.2.2.1 p hp; have := HQ2.out.lt; omega) HW.out.2.1 (by have := HW.out.2.2.2.2.1; have := HQ2.out.few; omega) HW.out.2.2.2.2.2 HQ2.out.nx)⟩
                      · rw [if_neg h0] at hpo
                        obtain ⟨E2, hE2⟩ : ∃ E, E = comeE tq2 dq2 xq2 lq2 := ⟨_, rfl⟩
                        rw [← hE2] at h0 hpo
                        obtain ⟨aw, cw, bw, dw, rfl, hcw, -, hfw, -, hlw, -, hb6⟩ := hpo
                        rw [List.length_nil]
                        have hEb : (E2 == 0) = false := by simpa using h0
                        have HV := Lib.hid (QSt.below HQ2.out (hb6.alloc hb6.size (Obj.cells #[Value.slice aw 0 cw, Value.int IntKind.i64 0, Value.int IntKind.i64 0, Value.int IntKind.i64 0] 24)))
                        clear k0 k1 k2 k3 f0 f1 f2 f3 r3 h0 hE2 hcw hfw hlw hb6
                        go_wp2_with fail
                        go_meet
                        exact ⟨aq2, nq2, cq2, tq2, dq2, xq2, lq2, HV⟩
                    · go_meet
                      exact ⟨aq2, nq2, cq2, tq2, dq2, xq2, lq2, HQ2⟩
                  case rest =>
                    obtain ⟨wD, hwD⟩ : ∃ W, W = wc := ⟨_, rfl⟩
                    subst hwD
                    clear k0 k1 k2 k3 f0 f1 f2 f3 r3 HQ2
                    clear aq2 nq2 cq2 tq2 dq2 xq2 lq2
                    obtain ⟨aq2, nq2, cq2, tq2, dq2, xq2, lq2, HQ2⟩ := hcut
                    have k0 := HQ2.out.c0
                    have k1 := HQ2.out.c1
                    have k2 := HQ2.out.c2
                    have k3 := HQ2.out.c3
                    have f0 := HQ2.out.fz 0
                    have f1 := HQ2.out.fz 1
                    have f2 := HQ2.out.fz 2
                    have f3 := HQ2.out.fz 3
                    have hn4 : nq2 ≤ 360 := by have := HQ2.out.few; omega
                    have hd4 : decide ((400 : Int) < (nq2 : Int)) = false := by simp; omega
                    go_wp2_with fail
                    refine Calls.mono (check14 wD aq2 nq2 cq2 tq2 dq2 xq2 lq2 HQ2.out.len HQ2.out.lat (by omega)) ?_
                    rintro e w6 ⟨rfl, hb6⟩
                    rw [check_ok.2 HQ2.out.ok]
                    have HV := Lib.hid (QSt.below HQ2.out hb6)
                    clear k0 k1 k2 k3 f0 f1 f2 f3 hb6 hd4
                    go_wp2_with fail
                    go_roundg (m - (k + 1))
                    case measure => omega
                    case rel => exact ⟨k + 1, by omega, by go_num, aq2, nq2, cq2, tq2, dq2, xq2, lq2, HV⟩
        · have hkm : k = m := by omega
          have hdk : decide (k < m) = false := by simpa using hlt
          have HQb := Lib.hid HQ.out.bel
          go_wp2_with fail
          go_ret
          exact ⟨rfl, HQb.out⟩
    · go_wp2_with fail
      go_ret
      exact ⟨rfl, HX1.out.trans (HB4.out.mono HX1.out.size)⟩
  · have d9 : decide (n ≤ 300) = false := by simpa using h9
    rw [d9]
    go_wp2_with fail
    go_ret
    exact ⟨rfl, HX1.out.trans (HB3.out.mono HX1.out.size)⟩
end Go.Proofs.Ytbhbebidkeejbaa
