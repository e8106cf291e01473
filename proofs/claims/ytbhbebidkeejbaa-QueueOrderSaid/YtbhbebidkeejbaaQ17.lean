/- The first event (Pop), as the document tells. -/
import Derived.Test.YtbhbebidkeejbaaQ16
namespace Go.Proofs.Ytbhbebidkeejbaa
open Go.RowKit Go.Shelf
set_option linter.unusedVariables false
set_option linter.unusedSimpArgs false

theorem checkE_01 (now delta next : Int) (l : List EvV) : checkE now delta next l = 0 ∨ checkE now delta next l = 1 := by
  unfold checkE
  split
  · exact .inr rfl
  · split
    · exact .inr rfl
    · exact .inl rfl
theorem comeE_bad {now delta next : Int} {l : List EvV} (h : checkE now delta next l = 1) : comeE now delta next l = 1 := by
  unfold comeE; rw [h, if_neg (by decide)]
theorem comeE_nil {now delta next : Int} {l : List EvV} (h : checkE now delta next l = 0) (hl : l.length = 0) : comeE now delta next l = 141 := by
  unfold comeE; rw [h, if_pos rfl, if_pos hl]
theorem comeE_ok {now delta next : Int} {l : List EvV} (h : checkE now delta next l = 0) (hl : l.length ≠ 0) : comeE now delta next l = 0 := by
  unfold comeE; rw [h, if_pos rfl, if_neg hl]
theorem popped_err {w w' : World} {now delta next : Int} {l : List EvV} {E : Int} (hE : comeE now delta next l = E) (h0 : E ≠ 0) (hb : Below w.heap.size w w') :
    Popped w now delta next l (.returned (.tuple #[.agg #[.slice none 0 0, .int .i64 0, .int .i64 0, .int .i64 0], EvV.val ⟨0, 0, 0, 0, 0⟩, .int .i64 E])) w' := by
  unfold Popped
  rw [hE, if_neg h0]
  exact ⟨none, 0, rfl, Nat.le_refl _, (fun p h => by cases h), ⟨.inl rfl, fun e he => by cases he⟩, hb⟩
theorem results_pop19 {tmps : Array Value} {w : World} {b : Nat} {s : Value} {x y z E : Int} {v : EvV} (h2 : tmps[2]?.getD undef = .pointer (some ⟨b, 0, none⟩)) (h6 : tmps[3]?.getD undef = .pointer (some ⟨b + 1, 0, none⟩)) (h3 : tmps[4]?.getD undef = .int .i64 E)
    (h0 : w.cell? ⟨b, 0, none⟩ = some s) (h1 : w.cell? ⟨b, 1, none⟩ = some (.int .i64 x)) (h4 : w.cell? ⟨b, 2, none⟩ = some (.int .i64 y)) (h5 : w.cell? ⟨b, 3, none⟩ = some (.int .i64 z))
    (v0 : w.cell? ⟨b + 1, 0, none⟩ = some (.int .i64 v.t)) (v1 : w.cell? ⟨b + 1, 1, none⟩ = some (.int .i64 v.d)) (v2 : w.cell? ⟨b + 1, 2, none⟩ = some (.int .i64 v.no)) (v3 : w.cell? ⟨b + 1, 3, none⟩ = some (.int .i64 v.sig)) (v4 : w.cell? ⟨b + 1, 4, none⟩ = some (.int .u64 v.v)) :
    (results Try.f19 tmps).run Try.prog w = .ok (.tuple #[.agg #[s, .int .i64 x, .int .i64 y, .int .i64 z], v.val, .int .i64 E]) w := by
  simp [results, go_sem, h2, h3, h6, h0, h1, h4, h5, v0, v1, v2, v3, v4]

set_option maxRecDepth 100000 in
set_option maxHeartbeats 4000000 in
theorem pop19 (w : World) (a : Option Addr) (n c : Nat) (now delta next : Int) (l : List EvV) (hn : l.length = n) (h : LAt w a l) (h9 : n ≤ 1000) (hc : n ≤ c) :
    Calls Try.prog 19 #[.agg #[.slice a n c, .int .i64 now, .int .i64 delta, .int .i64 next]] w (Popped w now delta next l) := by
  obtain ⟨H, hH⟩ : ∃ h, h = w.heap.size := ⟨_, rfl⟩
  obtain ⟨w1, hw1⟩ : ∃ W, W = ((w.alloc (.cells #[.slice a n c, .int .i64 now, .int .i64 delta, .int .i64 next] 24)).alloc (.cells #[.slice none 0 0, .int .i64 0, .int .i64 0, .int .i64 0] 24)).alloc (.cells #[.int .i64 0, .int .i64 0, .int .i64 0, .int .i64 0, .int .u64 0] 35) := ⟨_, rfl⟩
  have HX1 : Hid (Below w.heap.size w w1) := Lib.hid (by rw [hw1]; exact (((Below.refl _ _).alloc (Nat.le_refl _) _).alloc (by simp) _).alloc (by simp <;> omega) _)
  have hs1 : w1.heap.size = H + 3 := by rw [hw1, hH]; simp
  have k0 : w1.cell? ⟨H, 0, none⟩ = some (.slice a n c) := by rw [hw1, hH]; exact cell_alloc _ (cell_alloc _ (by simp))
  have k1 : w1.cell? ⟨H, 1, none⟩ = some (.int .i64 now) := by rw [hw1, hH]; exact cell_alloc _ (cell_alloc _ (by simp))
  have k2 : w1.cell? ⟨H, 2, none⟩ = some (.int .i64 delta) := by rw [hw1, hH]; exact cell_alloc _ (cell_alloc _ (by simp))
  have k3 : w1.cell? ⟨H, 3, none⟩ = some (.int .i64 next) := by rw [hw1, hH]; exact cell_alloc _ (cell_alloc _ (by simp))
  have z0 : w1.cell? ⟨H + 1, 0, none⟩ = some (.slice none 0 0) := by rw [hw1, hH]; refine cell_alloc _ ?_; simp
  have z1 : w1.cell? ⟨H + 1, 1, none⟩ = some (.int .i64 0) := by rw [hw1, hH]; refine cell_alloc _ ?_; simp
  have z2 : w1.cell? ⟨H + 1, 2, none⟩ = some (.int .i64 0) := by rw [hw1, hH]; refine cell_alloc _ ?_; simp
  have z3 : w1.cell? ⟨H + 1, 3, none⟩ = some (.int .i64 0) := by rw [hw1, hH]; refine cell_alloc _ ?_; simp
  have hs2 : ((w.alloc (.cells #[.slice a n c, .int .i64 now, .int .i64 delta, .int .i64 next] 24)).alloc (.cells #[.slice none 0 0, .int .i64 0, .int .i64 0, .int .i64 0] 24)).heap.size = H + 1 + 1 := by rw [hH]; simp
  have eZ : ∀ W : World, W.heap.size = H + 1 + 1 → (W.alloc (.cells #[.int .i64 0, .int .i64 0, .int .i64 0, .int .i64 0, .int .u64 0] 35)).cell? ⟨H + 1 + 1, 0, none⟩ = some (.int .i64 0) ∧ (W.alloc (.cells #[.int .i64 0, .int .i64 0, .int .i64 0, .int .i64 0, .int .u64 0] 35)).cell? ⟨H + 1 + 1, 1, none⟩ = some (.int .i64 0) ∧ (W.alloc (.cells #[.int .i64 0, .int .i64 0, .int .i64 0, .int .i64 0, .int .u64 0] 35)).cell? ⟨H + 1 + 1, 2, none⟩ = some (.int .i64 0) ∧ (W.alloc (.cells #[.int .i64 0, .int .i64 0, .int .i64 0, .int .i64 0, .int .u64 0] 35)).cell? ⟨H + 1 + 1, 3, none⟩ = some (.int .i64 0) ∧
      (W.alloc (.cells #[.int .i64 0, .int .i64 0, .int .i64 0, .int .i64 0, .int .u64 0] 35)).cell? ⟨H + 1 + 1, 4, none⟩ = some (.int .u64 0) ∧ (∀ i, (W.alloc (.cells #[.int .i64 0, .int .i64 0, .int .i64 0, .int .i64 0, .int .u64 0] 35)).frozen? ⟨H + 1 + 1, i, none⟩ = false) := fun W h => by
    rw [← h]
    exact ⟨by simp, by simp, by simp, by simp, by simp, fun i => by simp⟩
  have hE := eZ _ hs2
  rw [← hw1] at hE
  have zf : ∀ i, w1.frozen? ⟨H + 1, i, none⟩ = false := by
    intro i
    rw [hw1, hH]
    refine (World.frozen?_of_block (Below.heap_alloc _ _ _ (by simp))).trans ?_
    simp
  have HL0 := Lib.hid h
  have HLA := Lib.hid (h.below HX1.out (Nat.le_refl _))
  have C14 := Lib.hid (check14 w1 a n c now delta next l hn (h.below HX1.out (Nat.le_refl _)) h9)
  have HS1 := Lib.hid hs1
  have HSt : Hid (∀ W, Below w1.heap.size w1 W → (W.cell? ⟨H, 0, none⟩ = some (.slice a n c) ∧ W.cell? ⟨H, 1, none⟩ = some (.int .i64 now) ∧ W.cell? ⟨H, 2, none⟩ = some (.int .i64 delta) ∧ W.cell? ⟨H, 3, none⟩ = some (.int .i64 next)) ∧
      (W.cell? ⟨H + 1, 0, none⟩ = some (.slice none 0 0) ∧ W.cell? ⟨H + 1, 1, none⟩ = some (.int .i64 0) ∧ W.cell? ⟨H + 1, 2, none⟩ = some (.int .i64 0) ∧ W.cell? ⟨H + 1, 3, none⟩ = some (.int .i64 0) ∧ ∀ i, W.frozen? ⟨H + 1, i, none⟩ = false) ∧
      W.cell? ⟨H + 1 + 1, 0, none⟩ = some (.int .i64 0) ∧ W.cell? ⟨H + 1 + 1, 1, none⟩ = some (.int .i64 0) ∧ W.cell? ⟨H + 1 + 1, 2, none⟩ = some (.int .i64 0) ∧ W.cell? ⟨H + 1 + 1, 3, none⟩ = some (.int .i64 0) ∧ W.cell? ⟨H + 1 + 1, 4, none⟩ = some (.int .u64 0) ∧ ∀ i, W.frozen? ⟨H + 1 + 1, i, none⟩ = false) := Lib.hid (fun W hW => by
    have cl : ∀ {b j : Nat} {u : Value}, w1.cell? ⟨b, j, none⟩ = some u → W.cell? ⟨b, j, none⟩ = some u := fun h => (hW.cell (p := ⟨_, _, none⟩) (World.block_lt_of_cell? w1 _ h)).trans h
    exact ⟨⟨cl k0, cl k1, cl k2, cl k3⟩, ⟨cl z0, cl z1, cl z2, cl z3, fun i => (hW.frozen (p := ⟨_, _, none⟩) (by simp only; omega)).trans (zf i)⟩, cl hE.1, cl hE.2.1, cl hE.2.2.1, cl hE.2.2.2.1, cl hE.2.2.2.2.1, fun i => (hW.frozen (p := ⟨_, _, none⟩) (by simp only; omega)).trans (hE.2.2.2.2.2 i)⟩)
  have HW1 := Lib.hid hw1
  have HHH := Lib.hid hH
  have HN := Lib.hid hn
  have H9 := Lib.hid h9
  have HC := Lib.hid hc
  clear h hH hw1 hs1 k0 k1 k2 k3 z0 z1 z2 z3 zf hs2 eZ hE hn h9 hc
  go_enter Try.func19, Try.ntmps19
  go_wp2_with fail
  rw [← HW1.out]
  (try rw [← HHH.out])
  refine Calls.mono C14.out ?_
  rintro e w2 ⟨rfl, hb2⟩
  have hcs := checkE_01 now delta next l
  obtain ⟨E, hE⟩ : ∃ E, E = checkE now delta next l := ⟨_, rfl⟩
  rw [← hE] at hcs ⊢
  have HE := Lib.hid hE.symm
  have HB2 := Lib.hid hb2
  clear hE hb2
  obtain ⟨⟨k0, k1, k2, k3⟩, ⟨z0, z1, z2, z3, zf⟩, y0, y1, y2, y3, y4, yf⟩ := HSt.out w2 HB2.out
  have f0 := zf 0
  have f1 := zf 1
  have f2 := zf 2
  have f3 := zf 3
  have g0 := yf 0
  have g1 := yf 1
  have g2 := yf 2
  have g3 := yf 3
  have g4 := yf 4
  have hn12 : H + 1 + 1 ≠ H + 1 := by omega
  rcases hcs with rfl | rfl
  · go_wp2_with fail
    refine Calls.mono (empty16 w2 a n c now delta next) ?_
    rintro e w3 ⟨rfl, hb3⟩
    have HB3 : Hid (Below w1.heap.size w1 w3) := Lib.hid (HB2.out.trans (hb3.mono HB2.out.size))
    clear hb3 k0 k1 k2 k3 z0 z1 z2 z3 zf y0 y1 y2 y3 y4 yf f0 f1 f2 f3 g0 g1 g2 g3 g4 hn12
    obtain ⟨⟨k0, k1, k2, k3⟩, ⟨z0, z1, z2, z3, zf⟩, y0, y1, y2, y3, y4, yf⟩ := HSt.out w3 HB3.out
    have f0 := zf 0
    have f1 := zf 1
    have f2 := zf 2
    have f3 := zf 3
    have g0 := yf 0
    have g1 := yf 1
    have g2 := yf 2
    have g3 := yf 3
    have g4 := yf 4
    have hn12 : H + 1 + 1 ≠ H + 1 := by omega
    by_cases hn0 : n = 0
    · have d0 : decide (n = 0) = true := by simpa using hn0
      rw [d0]
      have HNil : Hid (comeE now delta next l = 141) := Lib.hid (comeE_nil HE.out (by rw [HN.out]; exact hn0))
      clear hn0 d0
      go_wp2_with fail
      rw [set_same z0, set_same z1, set_same z2, set_same z3, set_same y0, set_same y1, set_same y2, set_same y3, set_same y4]
      refine bodyPost_ret (results_pop19 (b := H + 1) (v := ⟨0, 0, 0, 0, 0⟩) rfl rfl rfl z0 z1 z2 z3 y0 y1 y2 y3 y4) rfl (popped_err (HNil.out) (by decide) ?_)
      exact HX1.out.trans (HB3.out.mono HX1.out.size)
    · have d0 : decide (n = 0) = false := by simpa using hn0
      rw [d0]
      have HCo : Hid (comeE now delta next l = 0) := Lib.hid (comeE_ok HE.out (by rw [HN.out]; exact hn0))
      have hnp : 0 < n := by omega
      obtain ⟨b, off, rfl, hbb, -⟩ := HL0.out.ev 0 (by rw [HN.out]; exact hnp)
      have HBw := Lib.hid hbb
      obtain ⟨nq, hnq⟩ : ∃ k, k = (l.drop 1).length := ⟨_, rfl⟩
      have HNq := Lib.hid hnq
      obtain ⟨x, hx⟩ : ∃ x, x = l.getD 0 default := ⟨_, rfl⟩
      have HHx := Lib.hid hx
      obtain ⟨xt, xd, xn, xs, xv⟩ := x
      have HEv : Hid (∀ W, Below w1.heap.size w1 W → W.cell? ⟨b, off, none⟩ = some (.int .i64 xt) ∧ W.cell? ⟨b, off + 1, none⟩ = some (.int .i64 xd) ∧ W.cell? ⟨b, off + 2, none⟩ = some (.int .i64 xn) ∧ W.cell? ⟨b, off + 3, none⟩ = some (.int .i64 xs) ∧ W.cell? ⟨b, off + 4, none⟩ = some (.int .u64 xv)) := Lib.hid (fun W hW => by
        obtain ⟨b', off', he, -, e0, e1, e2, e3, e4⟩ := (HLA.out.below hW (Nat.le_refl _)).ev 0 (by rw [HN.out]; exact hnp)
        injection he with he
        injection he with he1 he2
        subst he1 he2
        rw [← HHx.out, Nat.zero_mul, Nat.add_zero] at e0 e1 e2 e3 e4
        exact ⟨e0, e1, e2, e3, e4⟩)
      have C36 : Hid (∀ W, Below w1.heap.size w1 W → Calls Try.prog 36 #[.agg #[.slice (some ⟨b, off, none⟩) n c, .int .i64 now, .int .i64 delta, .int .i64 next], .int .i64 1] W (NewQ1 W xt xd next (l.drop 1))) := Lib.hid (fun W hW => by
        have := first36 W (some ⟨b, off, none⟩) n c now delta next l HN.out (HLA.out.below hW (Nat.le_refl _)) H9.out HC.out 0 (by omega)
        rw [← HHx.out] at this
        exact this)
      obtain ⟨e0, e1, e2, e3, e4⟩ := HEv.out w3 HB3.out
      have hhn1 : H ≠ H + 1 := by omega
      have hhn2 : H ≠ H + 1 + 1 := by omega
      have hbn1 : b ≠ H + 1 := by have := HBw.out; have := HHH.out; omega
      have hbn2 : b ≠ H + 1 + 1 := by have := HBw.out; have := HHH.out; omega
      have hnp2 : decide (0 < n) = true := by simpa using hnp
      clear hn0 d0 hnq hx hbb
      go_wp2_with fail
      refine wp_region_held_drew (S := fun w' => w'.cell? ⟨H, 0, none⟩ = some (.slice (some ⟨b, off, none⟩) n c) ∧ w'.cell? ⟨H, 1, none⟩ = some (.int .i64 now) ∧ w'.cell? ⟨H, 2, none⟩ = some (.int .i64 delta) ∧ w'.cell? ⟨H, 3, none⟩ = some (.int .i64 next) ∧ w'.cell? ⟨b, off, none⟩ = some (.int .i64 xt) ∧ w'.cell? ⟨b, off + 1, none⟩ = some (.int .i64 xd) ∧ w'.cell? ⟨b, off + 2, none⟩ = some (.int .i64 xn) ∧ w'.cell? ⟨b, off + 3, none⟩ = some (.int .i64 xs) ∧ w'.cell? ⟨b, off + 4, none⟩ = some (.int .u64 xv)) (by kernel_rfl) (⟨k0, k1, k2, k3, e0, e1, e2, e3, e4⟩) (fun hHeld => ?_)
      refine wpAnyH_take (i := 0) (v := ?_) (by simp only [List.getElem?_toArray, List.getElem?_cons_succ, List.getElem?_cons_zero]; rfl) (by kernel_rfl) (by kernel_rfl) (by kernel_rfl) (by intro _ _ _ h; exact h) (Or.inl ⟨by rfl, ?_⟩) (by assumption) ?_
      rotate_left
      · intro w hSw; (try dsimp only at hSw); go_simp; try with_reducible rfl
      try simp only [Act.put, List.setIfInBounds_toArray, List.set_cons_zero, List.set_cons_succ]
      refine wpAnyH_take (i := 2) (v := ?_) (by simp only [List.getElem?_toArray, List.getElem?_cons_succ, List.getElem?_cons_zero]; rfl) (by kernel_rfl) (by kernel_rfl) (by kernel_rfl) (by intro _ _ _ h; exact h) (Or.inl ⟨by rfl, ?_⟩) (by assumption) ?_
      rotate_left
      · intro w hSw; (try dsimp only at hSw); go_simp; try with_reducible rfl
      try simp only [Act.put, List.setIfInBounds_toArray, List.set_cons_zero, List.set_cons_succ]
      refine wpAnyH_take (i := 3) (v := ?_) (by simp only [List.getElem?_toArray, List.getElem?_cons_succ, List.getElem?_cons_zero]; rfl) (by kernel_rfl) (by kernel_rfl) (by kernel_rfl) (by intro _ _ _ h; exact h) (Or.inl ⟨by rfl, ?_⟩) (by assumption) ?_
      rotate_left
      · intro w hSw; (try dsimp only at hSw); go_simp; try with_reducible rfl
      try simp only [Act.put, List.setIfInBounds_toArray, List.set_cons_zero, List.set_cons_succ]
      refine wpAnyH_take (i := 4) (v := ?_) (by simp only [List.getElem?_toArray, List.getElem?_cons_succ, List.getElem?_cons_zero]; rfl) (by kernel_rfl) (by kernel_rfl) (by kernel_rfl) (by intro _ _ _ h; exact h) (Or.inl ⟨by rfl, ?_⟩) (by assumption) ?_
      rotate_left
      · intro w hSw; (try dsimp only at hSw); go_simp; first | with_reducible rfl | rw [if_pos (by omega)]
      try simp only [Act.put, List.setIfInBounds_toArray, List.set_cons_zero, List.set_cons_succ]
      refine wpAnyH_take (i := 5) (v := ?_) (by simp only [List.getElem?_toArray, List.getElem?_cons_succ, List.getElem?_cons_zero]; rfl) (by kernel_rfl) (by kernel_rfl) (by kernel_rfl) (by intro _ _ _ h; exact h) (Or.inl ⟨by rfl, ?_⟩) (by assumption) ?_
      rotate_left
      · intro w hSw; (try dsimp only at hSw); go_simp; try with_reducible rfl
      try simp only [Act.put, List.setIfInBounds_toArray, List.set_cons_zero, List.set_cons_succ]
      refine wpAnyH_ready (rs := [1]) (by kernel_rfl) (by simp) ?_
      refine AllReadyH.cons (o := _) (by simp only [List.getElem?_toArray, List.getElem?_cons_succ, List.getElem?_cons_zero]; rfl) (fun K hK => ?_) AllReadyH.nil
      go_simp
      go_at_call 36
      refine Calls.mono (C36.out _ (HB3.out.drew)) ?_
      rintro e w5 ⟨aq, cq, rfl, hc', hfa, hla, hb5⟩
      have hB5 : Below w1.heap.size w1 w5 := HB3.out.drew.trans (hb5.mono HB3.out.drew.size)
      have HB5 := Lib.hid hB5
      have HR := Lib.hid (And.intro hc' (And.intro hfa hla))
      have HB35 : Hid (w1.heap.size ≤ w3.drew.heap.size) := Lib.hid HB3.out.drew.size
      clear k0 k1 k2 k3 z0 z1 z2 z3 zf y0 y1 y2 y3 y4 yf f0 f1 f2 f3 g0 g1 g2 g3 g4 hn12 hc' hfa hla hb5 hB5 e0 e1 e2 e3 e4
      obtain ⟨⟨k0, k1, k2, k3⟩, ⟨z0, z1, z2, z3, zf⟩, y0, y1, y2, y3, y4, yf⟩ := HSt.out w5 HB5.out
      have f0 := zf 0
      have f1 := zf 1
      have f2 := zf 2
      have f3 := zf 3
      have g0 := yf 0
      have g1 := yf 1
      have g2 := yf 2
      have g3 := yf 3
      have g4 := yf 4
      have hn12 : H + 1 + 1 ≠ H + 1 := by omega
      have e := HEv.out w5 HB5.out
      obtain ⟨e0, e1, e2, e3, e4⟩ := e
      rw [← HNq.out]
      go_simp
      refine hK.out _ _ (by exact ⟨k0, k1, k2, k3, e0, e1, e2, e3, e4⟩) (fun hHeld => ?_)
      clear hK K
      try simp only [Act.put, List.setIfInBounds_toArray, List.set_cons_zero, List.set_cons_succ]
      refine wpAnyH_ready (rs := [6]) (by kernel_rfl) (by simp) ?_
      refine AllReadyH.cons (o := _) (by simp only [List.getElem?_toArray, List.getElem?_cons_succ, List.getElem?_cons_zero]; rfl) (fun K hK => ?_) AllReadyH.nil
      go_simp

      refine hK.out _ _ (by exact ⟨far (far (far (far k0 hhn1) hhn1) hhn1) hhn1, far (far (far (far k1 hhn1) hhn1) hhn1) hhn1, far (far (far (far k2 hhn1) hhn1) hhn1) hhn1, far (far (far (far k3 hhn1) hhn1) hhn1) hhn1, far (far (far (far e0 hbn1) hbn1) hbn1) hbn1, far (far (far (far e1 hbn1) hbn1) hbn1) hbn1, far (far (far (far e2 hbn1) hbn1) hbn1) hbn1, far (far (far (far e3 hbn1) hbn1) hbn1) hbn1, far (far (far (far e4 hbn1) hbn1) hbn1) hbn1⟩) (fun hHeld => ?_)
      clear hK K
      try simp only [Act.put, List.setIfInBounds_toArray, List.set_cons_zero, List.set_cons_succ]
      refine wpAnyH_ready (rs := [7]) (by kernel_rfl) (by simp) ?_
      refine AllReadyH.cons (o := _) (by simp only [List.getElem?_toArray, List.getElem?_cons_succ, List.getElem?_cons_zero]; rfl) (fun K hK => ?_) AllReadyH.nil
      go_simp

      refine hK.out _ _ (by exact ⟨far (far (far (far (far (far (far (far (far k0 hhn1) hhn1) hhn1) hhn1) hhn2) hhn2) hhn2) hhn2) hhn2, far (far (far (far (far (far (far (far (far k1 hhn1) hhn1) hhn1) hhn1) hhn2) hhn2) hhn2) hhn2) hhn2, far (far (far (far (far (far (far (far (far k2 hhn1) hhn1) hhn1) hhn1) hhn2) hhn2) hhn2) hhn2) hhn2, far (far (far (far (far (far (far (far (far k3 hhn1) hhn1) hhn1) hhn1) hhn2) hhn2) hhn2) hhn2) hhn2, far (far (far (far (far (far (far (far (far e0 hbn1) hbn1) hbn1) hbn1) hbn2) hbn2) hbn2) hbn2) hbn2, far (far (far (far (far (far (far (far (far e1 hbn1) hbn1) hbn1) hbn1) hbn2) hbn2) hbn2) hbn2) hbn2, far (far (far (far (far (far (far (far (far e2 hbn1) hbn1) hbn1) hbn1) hbn2) hbn2) hbn2) hbn2) hbn2, far (far (far (far (far (far (far (far (far e3 hbn1) hbn1) hbn1) hbn1) hbn2) hbn2) hbn2) hbn2) hbn2, far (far (far (far (far (far (far (far (far e4 hbn1) hbn1) hbn1) hbn1) hbn2) hbn2) hbn2) hbn2) hbn2⟩) (fun hHeld => ?_)
      clear hK K
      try simp only [Act.put, List.setIfInBounds_toArray, List.set_cons_zero, List.set_cons_succ]
      refine wpAnyH_take (i := 8) (v := ?_) (by simp only [List.getElem?_toArray, List.getElem?_cons_succ, List.getElem?_cons_zero]; rfl) (by kernel_rfl) (by kernel_rfl) (by kernel_rfl) (by intro _ _ _ h; exact h) (Or.inl ⟨by rfl, ?_⟩) (by assumption) ?_
      rotate_left
      · intro w hSw; (try dsimp only at hSw); go_simp; try with_reducible rfl
      try simp only [Act.put, List.setIfInBounds_toArray, List.set_cons_zero, List.set_cons_succ]
      refine wpAnyH_done (by kernel_rfl) ?_ _
      obtain ⟨w6, hw6⟩ : ∃ W, W = ((((((((w5.setCell ⟨H + 1, 0, none⟩ (.slice aq nq cq)).setCell ⟨H + 1, 1, none⟩ (.int .i64 xt)).setCell ⟨H + 1, 2, none⟩ (.int .i64 xd)).setCell ⟨H + 1, 3, none⟩ (.int .i64 next)).setCell ⟨H + 1 + 1, 0, none⟩ (.int .i64 xt)).setCell ⟨H + 1 + 1, 1, none⟩ (.int .i64 xd)).setCell ⟨H + 1 + 1, 2, none⟩ (.int .i64 xn)).setCell ⟨H + 1 + 1, 3, none⟩ (.int .i64 xs)).setCell ⟨H + 1 + 1, 4, none⟩ (.int .u64 xv) := ⟨_, rfl⟩
      rw [← hw6]
      have hw6p : w6 = put5 (put4 w5 (H + 1) (.slice aq nq cq) xt xd next) (H + 1 + 1) ⟨xt, xd, xn, xs, xv⟩ := hw6
      have p4 := put4_cells (s := .slice aq nq cq) (x := xt) (y := xd) (z := next) z0 z1 z2 z3
      have p5 := put5_cells (v := ⟨xt, xd, xn, xs, xv⟩) (put4_far (s := .slice aq nq cq) (x := xt) (y := xd) (z := next) y0 hn12) (put4_far (s := .slice aq nq cq) (x := xt) (y := xd) (z := next) y1 hn12) (put4_far (s := .slice aq nq cq) (x := xt) (y := xd) (z := next) y2 hn12) (put4_far (s := .slice aq nq cq) (x := xt) (y := xd) (z := next) y3 hn12) (put4_far (s := .slice aq nq cq) (x := xt) (y := xd) (z := next) y4 hn12)
      have hn21 : H + 1 ≠ H + 1 + 1 := by omega
      have p40 := put5_far (v := ⟨xt, xd, xn, xs, xv⟩) p4.1 hn21
      have p41 := put5_far (v := ⟨xt, xd, xn, xs, xv⟩) p4.2.1 hn21
      have p42 := put5_far (v := ⟨xt, xd, xn, xs, xv⟩) p4.2.2.1 hn21
      have p43 := put5_far (v := ⟨xt, xd, xn, xs, xv⟩) p4.2.2.2 hn21
      rw [← hw6p] at p40 p41 p42 p43 p5
      obtain ⟨hc', hfa, hla⟩ := HR.out
      have hfb : ∀ p, aq = some p → w1.heap.size ≤ p.block := fun p hp => Nat.le_trans HB35.out (hfa p hp)
      have HQ6 : Hid (LAt w6 aq (l.drop 1)) := Lib.hid (by rw [hw6p]; exact (hla.put4 hfb (by have := HS1.out; omega)).put5 hfb (by have := HS1.out; omega))
      have HB6 : Hid (Below w.heap.size w w6) := Lib.hid (by rw [hw6p]; exact put5_below (put4_below (HX1.out.trans (HB5.out.mono HX1.out.size)) (by have := HHH.out; omega)) (by have := HHH.out; omega))
      have HRR := Lib.hid (And.intro hc' hfb)
      have HP := Lib.hid (And.intro p40 (And.intro p41 (And.intro p42 (And.intro p43 p5))))
      clear k0 k1 k2 k3 z0 z1 z2 z3 zf y0 y1 y2 y3 y4 yf f0 f1 f2 f3 g0 g1 g2 g3 g4 e0 e1 e2 e3 e4 p4 p5 p40 p41 p42 p43 hHeld hw6 hw6p hc' hfa hla hfb
      go_wp2_with fail
      obtain ⟨p40, p41, p42, p43, p50, p51, p52, p53, p54⟩ := HP.out
      refine bodyPost_ret (results_pop19 (b := H + 1) (v := ⟨xt, xd, xn, xs, xv⟩) rfl rfl rfl p40 p41 p42 p43 p50 p51 p52 p53 p54) rfl ?_
      unfold Popped
      rw [HCo.out, if_pos rfl, ← HHx.out]
      obtain ⟨hc', hfb⟩ := HRR.out
      rw [HNq.out]
      exact ⟨aq, cq, rfl, hc', fun p hp => Nat.le_trans HX1.out.size (hfb p hp), HQ6.out, HB6.out⟩
  · go_wp2_with fail
    rw [set_same z0, set_same z1, set_same z2, set_same z3, set_same y0, set_same y1, set_same y2, set_same y3, set_same y4]
    refine bodyPost_ret (results_pop19 (b := H + 1) (v := ⟨0, 0, 0, 0, 0⟩) rfl rfl rfl z0 z1 z2 z3 y0 y1 y2 y3 y4) rfl (popped_err (comeE_bad HE.out) (by decide) ?_)
    exact HX1.out.trans (HB2.out.mono HX1.out.size)
end Go.Proofs.Ytbhbebidkeejbaa
