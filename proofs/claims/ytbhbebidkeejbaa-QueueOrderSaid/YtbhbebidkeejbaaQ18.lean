/- The events of the first round (Take), as the document tells. -/
import Derived.Test.YtbhbebidkeejbaaQ17
namespace Go.Proofs.Ytbhbebidkeejbaa
open Go.RowKit Go.Shelf
set_option linter.unusedVariables false
set_option linter.unusedSimpArgs false

theorem comeR_is (R : EvV → EvV → Bool) (l : List EvV) (k : Nat) (h1 : 1 ≤ k) (hk : k ≤ l.length) (hy : ∀ j, 1 ≤ j → j < k → R (l.getD 0 default) (l.getD j default) = true) (hno : k < l.length → R (l.getD 0 default) (l.getD k default) = false) : 1 + comeR R l = k := by
  unfold comeR
  obtain ⟨t, ht⟩ : ∃ t, t = ((l.drop 1).takeWhile (R (l.getD 0 default))).length := ⟨_, rfl⟩
  have hl : (l.drop 1).length = l.length - 1 := by rw [List.length_drop]
  have hle : t ≤ (l.drop 1).length := by rw [ht]; exact (List.takeWhile_sublist _).length_le
  rw [← ht]
  rcases Nat.lt_trichotomy (1 + t) k with h | h | h
  · have := tw_no (R (l.getD 0 default)) default (l.drop 1) (by rw [← ht, hl]; omega)
    rw [← ht, getD_drop', hy (1 + t) (by omega) h] at this
    cases this
  · exact h
  · have := tw_yes (R (l.getD 0 default)) default (l.drop 1) (k - 1) (by rw [← ht]; omega)
    rw [getD_drop', show 1 + (k - 1) = k by omega, hno (by omega)] at this
    cases this
theorem LAt.grown {w w' : World} {a : Option Addr} {l : List EvV} {B : Nat} {row : Option Nat} (h : LAt w a l) (hf : ∀ p, a = some p → B ≤ p.block) (hg : w.grownBy w' row) (hb : ∀ k, row = some k → k < B) : LAt w' a l := by
  refine ⟨?_, h.each⟩
  rcases h.list with h0 | ⟨g, off, rfl, hc⟩
  · exact .inl h0
  · refine .inr ⟨g, off, rfl, fun j hj => ?_⟩
    have hlt := World.block_lt_of_cell? w _ (hc j hj)
    refine (World.cell?_of_block (w := w) (hg.block g hlt (fun e => ?_))).trans (hc j hj)
    have h1 := hb _ e.symm
    have h2 := hf _ rfl
    simp only at h2
    omega
theorem came_nil {w w' : World} {now delta next : Int} {l : List EvV} {E : Int} (hE : comeE now delta next l = E) (h0 : E ≠ 0) (hb : Below w.heap.size w w') :
    Came takeR w now delta next l (.returned (.tuple #[.agg #[.slice none 0 0, .int .i64 0, .int .i64 0, .int .i64 0], .slice none 0 0, .int .i64 E])) w' := came_err hE h0 hb
theorem results_take21 {tmps : Array Value} {w : World} {b : Nat} {s g : Value} {x y z E : Int} (h2 : tmps[2]?.getD undef = .pointer (some ⟨b, 0, none⟩)) (h6 : tmps[3]?.getD undef = g) (h3 : tmps[4]?.getD undef = .int .i64 E)
    (h0 : w.cell? ⟨b, 0, none⟩ = some s) (h1 : w.cell? ⟨b, 1, none⟩ = some (.int .i64 x)) (h4 : w.cell? ⟨b, 2, none⟩ = some (.int .i64 y)) (h5 : w.cell? ⟨b, 3, none⟩ = some (.int .i64 z)) :
    (results Try.f21 tmps).run Try.prog w = .ok (.tuple #[.agg #[s, .int .i64 x, .int .i64 y, .int .i64 z], g, .int .i64 E]) w := by
  simp [results, go_sem, h2, h3, h6, h0, h1, h4, h5]

set_option maxRecDepth 100000 in
set_option maxHeartbeats 8000000 in
theorem take21 (w : World) (a : Option Addr) (n c : Nat) (now delta next : Int) (l : List EvV) (hn : l.length = n) (h : LAt w a l) (h9 : n ≤ 1000) (hc : n ≤ c) :
    Calls Try.prog 21 #[.agg #[.slice a n c, .int .i64 now, .int .i64 delta, .int .i64 next]] w (Came takeR w now delta next l) := by
  obtain ⟨H, hH⟩ : ∃ h, h = w.heap.size := ⟨_, rfl⟩
  obtain ⟨w1, hw1⟩ : ∃ W, W = (w.alloc (.cells #[.slice a n c, .int .i64 now, .int .i64 delta, .int .i64 next] 24)).alloc (.cells #[.slice none 0 0, .int .i64 0, .int .i64 0, .int .i64 0] 24) := ⟨_, rfl⟩
  have HX1 : Hid (Below w.heap.size w w1) := Lib.hid (by rw [hw1]; exact ((Below.refl _ _).alloc (Nat.le_refl _) _).alloc (by simp) _)
  have hs1 : w1.heap.size = H + 2 := by rw [hw1, hH]; simp
  have k0 : w1.cell? ⟨H, 0, none⟩ = some (.slice a n c) := by rw [hw1, hH]; exact cell_alloc _ (by simp)
  have k1 : w1.cell? ⟨H, 1, none⟩ = some (.int .i64 now) := by rw [hw1, hH]; exact cell_alloc _ (by simp)
  have k2 : w1.cell? ⟨H, 2, none⟩ = some (.int .i64 delta) := by rw [hw1, hH]; exact cell_alloc _ (by simp)
  have k3 : w1.cell? ⟨H, 3, none⟩ = some (.int .i64 next) := by rw [hw1, hH]; exact cell_alloc _ (by simp)
  have z0 : w1.cell? ⟨H + 1, 0, none⟩ = some (.slice none 0 0) := by rw [hw1, hH]; simp
  have z1 : w1.cell? ⟨H + 1, 1, none⟩ = some (.int .i64 0) := by rw [hw1, hH]; simp
  have z2 : w1.cell? ⟨H + 1, 2, none⟩ = some (.int .i64 0) := by rw [hw1, hH]; simp
  have z3 : w1.cell? ⟨H + 1, 3, none⟩ = some (.int .i64 0) := by rw [hw1, hH]; simp
  have zf : ∀ i, w1.frozen? ⟨H + 1, i, none⟩ = false := by intro i; rw [hw1, hH]; simp
  have HL0 := Lib.hid h
  have HLA := Lib.hid (h.below HX1.out (Nat.le_refl _))
  have C14 := Lib.hid (check14 w1 a n c now delta next l hn (h.below HX1.out (Nat.le_refl _)) h9)
  have HS1 := Lib.hid hs1
  have HSt : Hid (∀ W, Below w1.heap.size w1 W → (W.cell? ⟨H, 0, none⟩ = some (.slice a n c) ∧ W.cell? ⟨H, 1, none⟩ = some (.int .i64 now) ∧ W.cell? ⟨H, 2, none⟩ = some (.int .i64 delta) ∧ W.cell? ⟨H, 3, none⟩ = some (.int .i64 next)) ∧
      W.cell? ⟨H + 1, 0, none⟩ = some (.slice none 0 0) ∧ W.cell? ⟨H + 1, 1, none⟩ = some (.int .i64 0) ∧ W.cell? ⟨H + 1, 2, none⟩ = some (.int .i64 0) ∧ W.cell? ⟨H + 1, 3, none⟩ = some (.int .i64 0) ∧ ∀ i, W.frozen? ⟨H + 1, i, none⟩ = false) := Lib.hid (fun W hW => by
    have cl : ∀ {b j : Nat} {u : Value}, w1.cell? ⟨b, j, none⟩ = some u → W.cell? ⟨b, j, none⟩ = some u := fun h => (hW.cell (p := ⟨_, _, none⟩) (World.block_lt_of_cell? w1 _ h)).trans h
    exact ⟨⟨cl k0, cl k1, cl k2, cl k3⟩, cl z0, cl z1, cl z2, cl z3, fun i => (hW.frozen (p := ⟨_, _, none⟩) (by simp only; omega)).trans (zf i)⟩)
  have HW1 := Lib.hid hw1
  have HHH := Lib.hid hH
  have HN := Lib.hid hn
  have H9 := Lib.hid h9
  have HC := Lib.hid hc
  clear h hH hw1 hs1 k0 k1 k2 k3 z0 z1 z2 z3 zf hn h9 hc
  go_enter Try.func21, Try.ntmps21
  go_wp2_with fail
  rw [← HW1.out]
  (try rw [← HHH.out])
  refine Calls.mono C14.out ?_
  rintro e w2 ⟨rfl, hb2⟩
  have hcs := checkE_01 now delta next l
  obtain ⟨E, hE⟩ : ∃ E, E = checkE now delta next l := ⟨_, rfl⟩
  rw [← hE] at hcs ⊢
  have HE := Lib.hid hE.symm
  have HB2 := Lib.hid hb2
  clear hE hb2
  obtain ⟨⟨k0, k1, k2, k3⟩, z0, z1, z2, z3, zf⟩ := HSt.out w2 HB2.out
  have f0 := zf 0
  have f1 := zf 1
  have f2 := zf 2
  have f3 := zf 3
  rcases hcs with rfl | rfl
  · go_wp2_with fail
    refine Calls.mono (empty16 w2 a n c now delta next) ?_
    rintro e w3 ⟨rfl, hb3⟩
    have HB3 : Hid (Below w1.heap.size w1 w3) := Lib.hid (HB2.out.trans (hb3.mono HB2.out.size))
    clear hb3
    clear k0 k1 k2 k3 z0 z1 z2 z3 zf f0 f1 f2 f3
    obtain ⟨⟨k0, k1, k2, k3⟩, z0, z1, z2, z3, zf⟩ := HSt.out w3 HB3.out
    have f0 := zf 0
    have f1 := zf 1
    have f2 := zf 2
    have f3 := zf 3
    by_cases hn0 : n = 0
    · have d0 : decide (n = 0) = true := by simpa using hn0
      rw [d0]
      have HNil : Hid (comeE now delta next l = 141) := Lib.hid (comeE_nil HE.out (by rw [HN.out]; exact hn0))
      clear hn0 d0
      go_wp2_with fail
      rw [set_same z0, set_same z1, set_same z2, set_same z3]
      refine bodyPost_ret (results_take21 (b := H + 1) (g := .slice none 0 0) rfl rfl rfl z0 z1 z2 z3) rfl (came_nil (HNil.out) (by decide) ?_)
      exact HX1.out.trans (HB3.out.mono HX1.out.size)
    · have d0 : decide (n = 0) = false := by simpa using hn0
      rw [d0]
      have HCo : Hid (comeE now delta next l = 0) := Lib.hid (comeE_ok HE.out (by rw [HN.out]; exact hn0))
      have hnp : 0 < n := by omega
      obtain ⟨b, off, rfl, hbb, -⟩ := HL0.out.ev 0 (by rw [HN.out]; exact hnp)
      have HBw := Lib.hid hbb
      obtain ⟨x, hx⟩ : ∃ x, x = l.getD 0 default := ⟨_, rfl⟩
      have HHx := Lib.hid hx
      obtain ⟨xt, xd, xn, xs, xv⟩ := x
      have HEv : Hid (∀ W, Below w1.heap.size w1 W → W.cell? ⟨b, off, none⟩ = some (.int .i64 xt) ∧ W.cell? ⟨b, off + 1, none⟩ = some (.int .i64 xd)) := Lib.hid (fun W hW => by
        obtain ⟨b', off', he, -, e0, e1, e2, e3, e4⟩ := (HLA.out.below hW (Nat.le_refl _)).ev 0 (by rw [HN.out]; exact hnp)
        injection he with he
        injection he with he1 he2
        subst he1 he2
        rw [← HHx.out, Nat.zero_mul, Nat.add_zero] at e0 e1
        exact ⟨e0, e1⟩)
      have HEk : Hid (∀ W k, Below w1.heap.size w1 W → k < n → W.cell? ⟨b, off + k * 5, none⟩ = some (.int .i64 (l.getD k default).t) ∧ W.cell? ⟨b, off + k * 5 + 1, none⟩ = some (.int .i64 (l.getD k default).d)) := Lib.hid (fun W k hW hk => by
        obtain ⟨b', off', he, -, e0, e1, e2, e3, e4⟩ := (HLA.out.below hW (Nat.le_refl _)).ev k (by rw [HN.out]; exact hk)
        injection he with he
        injection he with he1 he2
        subst he1 he2
        exact ⟨e0, e1⟩)
      have hnp2 : decide (0 < n) = true := by simpa using hnp
      clear hn0 d0 hx hbb
      go_wp2_with fail
      clear k0 k1 k2 k3 z0 z1 z2 z3 zf f0 f1 f2 f3
      go_loopw [6] (fun iv wr => ∃ k : Nat, 1 ≤ k ∧ k ≤ n ∧ iv = .int .i64 k ∧ Hid (Below w1.heap.size w1 wr ∧ ∀ j, 1 ≤ j → j < k → takeR ⟨xt, xd, xn, xs, xv⟩ (l.getD j default) = true)) (fun iv _ => n - (intOf iv).toNat)
      case atStart => exact ⟨1, by omega, by omega, rfl, Lib.hid ⟨HB3.out, fun j h1 hj => by omega⟩⟩
      case round =>
        obtain ⟨k, hk1, hk, rfl, hh⟩ := hrel
        have HRr := Lib.hid hh.out.1
        have HAll := Lib.hid hh.out.2
        clear hh
        have h9 := H9.out
        have k0 := (HSt.out wr HRr.out).1.1
        by_cases hlt : k < n
        · obtain ⟨e0, e1⟩ := HEv.out wr HRr.out
          obtain ⟨y0, y1⟩ := HEk.out wr k HRr.out hlt
          have hT : takeR ⟨xt, xd, xn, xs, xv⟩ (l.getD k default) = ((xt == (l.getD k default).t) && (xd == (l.getD k default).d)) := rfl
          obtain ⟨yt, hyt⟩ : ∃ y, y = (l.getD k default).t := ⟨_, rfl⟩
          obtain ⟨yd, hyd⟩ : ∃ y, y = (l.getD k default).d := ⟨_, rfl⟩
          rw [← hyt, ← hyd] at hT
          rw [← hyt] at y0
          rw [← hyd] at y1
          have HT := Lib.hid hT
          clear hT hyt hyd
          by_cases ht : yt = xt
          · subst ht
            by_cases hd : yd = xd
            · subst hd
              have HTk : Hid (takeR ⟨yt, yd, xn, xs, xv⟩ (l.getD k default) = true) := Lib.hid (by rw [HT.out]; simp)
              go_wp2_with fail
              refine wp_region_held_drew (S := fun w' => w'.cell? ⟨H, 0, none⟩ = some (.slice (some ⟨b, off, none⟩) n c) ∧ w'.cell? ⟨b, off, none⟩ = some (.int .i64 yt) ∧ w'.cell? ⟨b, off + 1, none⟩ = some (.int .i64 yd) ∧ w'.cell? ⟨b, off + k * 5, none⟩ = some (.int .i64 yt) ∧ w'.cell? ⟨b, off + k * 5 + 1, none⟩ = some (.int .i64 yd)) (by kernel_rfl) (⟨k0, e0, e1, y0, y1⟩) (fun hHeld => ?_)
              refine wpAnyH_take (i := 0) (v := ?_) (by simp only [List.getElem?_toArray, List.getElem?_cons_succ, List.getElem?_cons_zero]; rfl) (by kernel_rfl) (by kernel_rfl) (by kernel_rfl) (by intro _ _ _ h; exact h) (Or.inl ⟨by rfl, ?_⟩) (by assumption) ?_
              rotate_left
              · intro w hSw; (try dsimp only at hSw); go_simp; try with_reducible rfl
              try simp only [Act.put, List.setIfInBounds_toArray, List.set_cons_zero, List.set_cons_succ]
              refine wpAnyH_take (i := 1) (v := ?_) (by simp only [List.getElem?_toArray, List.getElem?_cons_succ, List.getElem?_cons_zero]; rfl) (by kernel_rfl) (by kernel_rfl) (by kernel_rfl) (by intro _ _ _ h; exact h) (Or.inl ⟨by rfl, ?_⟩) (by assumption) ?_
              rotate_left
              · intro w hSw; (try dsimp only at hSw); go_simp; try with_reducible rfl
              try simp only [Act.put, List.setIfInBounds_toArray, List.set_cons_zero, List.set_cons_succ]
              refine wpAnyH_take (i := 2) (v := ?_) (by simp only [List.getElem?_toArray, List.getElem?_cons_succ, List.getElem?_cons_zero]; rfl) (by kernel_rfl) (by kernel_rfl) (by kernel_rfl) (by intro _ _ _ h; exact h) (Or.inl ⟨by rfl, ?_⟩) (by assumption) ?_
              rotate_left
              · intro w hSw; (try dsimp only at hSw); go_simp; try with_reducible rfl
              try simp only [Act.put, List.setIfInBounds_toArray, List.set_cons_zero, List.set_cons_succ]
              refine wpAnyH_take (i := 3) (v := ?_) (by simp only [List.getElem?_toArray, List.getElem?_cons_succ, List.getElem?_cons_zero]; rfl) (by kernel_rfl) (by kernel_rfl) (by kernel_rfl) (by intro _ _ _ h; exact h) (Or.inl ⟨by rfl, ?_⟩) (by assumption) ?_
              rotate_left
              · intro w hSw; (try dsimp only at hSw); go_simp; try with_reducible rfl
              try simp only [Act.put, List.setIfInBounds_toArray, List.set_cons_zero, List.set_cons_succ]
              refine wpAnyH_take (i := 4) (v := ?_) (by simp only [List.getElem?_toArray, List.getElem?_cons_succ, List.getElem?_cons_zero]; rfl) (by kernel_rfl) (by kernel_rfl) (by kernel_rfl) (by intro _ _ _ h; exact h) (Or.inl ⟨by rfl, ?_⟩) (by assumption) ?_
              rotate_left
              · intro w hSw; (try dsimp only at hSw); go_simp; try with_reducible rfl
              try simp only [Act.put, List.setIfInBounds_toArray, List.set_cons_zero, List.set_cons_succ]
              refine wpAnyH_take (i := 5) (v := ?_) (by simp only [List.getElem?_toArray, List.getElem?_cons_succ, List.getElem?_cons_zero]; rfl) (by kernel_rfl) (by kernel_rfl) (by kernel_rfl) (by intro _ _ _ h; exact h) (Or.inl ⟨by rfl, ?_⟩) (by assumption) ?_
              rotate_left
              · intro w hSw; (try dsimp only at hSw); go_simp; try with_reducible rfl
              try simp only [Act.put, List.setIfInBounds_toArray, List.set_cons_zero, List.set_cons_succ]
              refine wpAnyH_take (i := 6) (v := ?_) (by simp only [List.getElem?_toArray, List.getElem?_cons_succ, List.getElem?_cons_zero]; rfl) (by kernel_rfl) (by kernel_rfl) (by kernel_rfl) (by intro _ _ _ h; exact h) (Or.inl ⟨by rfl, ?_⟩) (by assumption) ?_
              rotate_left
              · intro w hSw; (try dsimp only at hSw); go_simp; try with_reducible rfl
              try simp only [Act.put, List.setIfInBounds_toArray, List.set_cons_zero, List.set_cons_succ]
              refine wpAnyH_take (i := 7) (v := ?_) (by simp only [List.getElem?_toArray, List.getElem?_cons_succ, List.getElem?_cons_zero]; rfl) (by kernel_rfl) (by kernel_rfl) (by kernel_rfl) (by intro _ _ _ h; exact h) (Or.inl ⟨by rfl, ?_⟩) (by assumption) ?_
              rotate_left
              · intro w hSw; (try dsimp only at hSw); go_simp; try with_reducible rfl
              try simp only [Act.put, List.setIfInBounds_toArray, List.set_cons_zero, List.set_cons_succ]
              refine wpAnyH_take (i := 8) (v := ?_) (by simp only [List.getElem?_toArray, List.getElem?_cons_succ, List.getElem?_cons_zero]; rfl) (by kernel_rfl) (by kernel_rfl) (by kernel_rfl) (by intro _ _ _ h; exact h) (Or.inl ⟨by rfl, ?_⟩) (by assumption) ?_
              rotate_left
              · intro w hSw; (try dsimp only at hSw); go_simp; try with_reducible rfl
              try simp only [Act.put, List.setIfInBounds_toArray, List.set_cons_zero, List.set_cons_succ]
              refine wpAnyH_take (i := 9) (v := ?_) (by simp only [List.getElem?_toArray, List.getElem?_cons_succ, List.getElem?_cons_zero]; rfl) (by kernel_rfl) (by kernel_rfl) (by kernel_rfl) (by intro _ _ _ h; exact h) (Or.inl ⟨by rfl, ?_⟩) (by assumption) ?_
              rotate_left
              · intro w hSw; (try dsimp only at hSw); go_simp; first | with_reducible rfl | rw [if_pos (by omega)]
              try simp only [Act.put, List.setIfInBounds_toArray, List.set_cons_zero, List.set_cons_succ]
              refine wpAnyH_take (i := 10) (v := ?_) (by simp only [List.getElem?_toArray, List.getElem?_cons_succ, List.getElem?_cons_zero]; rfl) (by kernel_rfl) (by kernel_rfl) (by kernel_rfl) (by intro _ _ _ h; exact h) (Or.inl ⟨by rfl, ?_⟩) (by assumption) ?_
              rotate_left
              · intro w hSw; (try dsimp only at hSw); go_simp; try with_reducible rfl
              try simp only [Act.put, List.setIfInBounds_toArray, List.set_cons_zero, List.set_cons_succ]
              refine wpAnyH_take (i := 11) (v := ?_) (by simp only [List.getElem?_toArray, List.getElem?_cons_succ, List.getElem?_cons_zero]; rfl) (by kernel_rfl) (by kernel_rfl) (by kernel_rfl) (by intro _ _ _ h; exact h) (Or.inl ⟨by rfl, ?_⟩) (by assumption) ?_
              rotate_left
              · intro w hSw; (try dsimp only at hSw); go_simp; try with_reducible rfl
              try simp only [Act.put, List.setIfInBounds_toArray, List.set_cons_zero, List.set_cons_succ]
              refine wpAnyH_take (i := 12) (v := ?_) (by simp only [List.getElem?_toArray, List.getElem?_cons_succ, List.getElem?_cons_zero]; rfl) (by kernel_rfl) (by kernel_rfl) (by kernel_rfl) (by intro _ _ _ h; exact h) (Or.inl ⟨by rfl, ?_⟩) (by assumption) ?_
              rotate_left
              · intro w hSw; (try dsimp only at hSw); go_simp; try with_reducible rfl
              try simp only [Act.put, List.setIfInBounds_toArray, List.set_cons_zero, List.set_cons_succ]
              refine wpAnyH_take (i := 13) (v := ?_) (by simp only [List.getElem?_toArray, List.getElem?_cons_succ, List.getElem?_cons_zero]; rfl) (by kernel_rfl) (by kernel_rfl) (by kernel_rfl) (by intro _ _ _ h; exact h) (Or.inl ⟨by rfl, ?_⟩) (by assumption) ?_
              rotate_left
              · intro w hSw; (try dsimp only at hSw); go_simp; try with_reducible rfl
              try simp only [Act.put, List.setIfInBounds_toArray, List.set_cons_zero, List.set_cons_succ]
              refine wpAnyH_take (i := 14) (v := ?_) (by simp only [List.getElem?_toArray, List.getElem?_cons_succ, List.getElem?_cons_zero]; rfl) (by kernel_rfl) (by kernel_rfl) (by kernel_rfl) (by intro _ _ _ h; exact h) (Or.inl ⟨by rfl, ?_⟩) (by assumption) ?_
              rotate_left
              · intro w hSw; (try dsimp only at hSw); go_simp; first | with_reducible rfl | rw [if_pos (by omega)]
              try simp only [Act.put, List.setIfInBounds_toArray, List.set_cons_zero, List.set_cons_succ]
              refine wpAnyH_take (i := 15) (v := ?_) (by simp only [List.getElem?_toArray, List.getElem?_cons_succ, List.getElem?_cons_zero]; rfl) (by kernel_rfl) (by kernel_rfl) (by kernel_rfl) (by intro _ _ _ h; exact h) (Or.inl ⟨by rfl, ?_⟩) (by assumption) ?_
              rotate_left
              · intro w hSw; (try dsimp only at hSw); go_simp; try with_reducible rfl
              try simp only [Act.put, List.setIfInBounds_toArray, List.set_cons_zero, List.set_cons_succ]
              refine wpAnyH_take (i := 16) (v := ?_) (by simp only [List.getElem?_toArray, List.getElem?_cons_succ, List.getElem?_cons_zero]; rfl) (by kernel_rfl) (by kernel_rfl) (by kernel_rfl) (by intro _ _ _ h; exact h) (Or.inl ⟨by rfl, ?_⟩) (by assumption) ?_
              rotate_left
              · intro w hSw; (try dsimp only at hSw); go_simp; try with_reducible rfl
              try simp only [Act.put, List.setIfInBounds_toArray, List.set_cons_zero, List.set_cons_succ]
              refine wpAnyH_take (i := 17) (v := ?_) (by simp only [List.getElem?_toArray, List.getElem?_cons_succ, List.getElem?_cons_zero]; rfl) (by kernel_rfl) (by kernel_rfl) (by kernel_rfl) (by intro _ _ _ h; exact h) (Or.inl ⟨by rfl, ?_⟩) (by assumption) ?_
              rotate_left
              · intro w hSw; (try dsimp only at hSw); go_simp; try with_reducible rfl
              try simp only [Act.put, List.setIfInBounds_toArray, List.set_cons_zero, List.set_cons_succ]
              refine wpAnyH_take (i := 18) (v := ?_) (by simp only [List.getElem?_toArray, List.getElem?_cons_succ, List.getElem?_cons_zero]; rfl) (by kernel_rfl) (by kernel_rfl) (by kernel_rfl) (by intro _ _ _ h; exact h) (Or.inl ⟨by rfl, ?_⟩) (by assumption) ?_
              rotate_left
              · intro w hSw; (try dsimp only at hSw); go_simp; try with_reducible rfl
              try simp only [Act.put, List.setIfInBounds_toArray, List.set_cons_zero, List.set_cons_succ]
              refine wpAnyH_take (i := 19) (v := ?_) (by simp only [List.getElem?_toArray, List.getElem?_cons_succ, List.getElem?_cons_zero]; rfl) (by kernel_rfl) (by kernel_rfl) (by kernel_rfl) (by intro _ _ _ h; exact h) (Or.inl ⟨by rfl, ?_⟩) (by assumption) ?_
              rotate_left
              · intro w hSw; (try dsimp only at hSw); go_simp; try with_reducible rfl
              try simp only [Act.put, List.setIfInBounds_toArray, List.set_cons_zero, List.set_cons_succ]
              refine wpAnyH_take (i := 20) (v := ?_) (by simp only [List.getElem?_toArray, List.getElem?_cons_succ, List.getElem?_cons_zero]; rfl) (by kernel_rfl) (by kernel_rfl) (by kernel_rfl) (by intro _ _ _ h; exact h) (Or.inl ⟨by rfl, ?_⟩) (by assumption) ?_
              rotate_left
              · intro w hSw; (try dsimp only at hSw); go_simp; try with_reducible rfl
              try simp only [Act.put, List.setIfInBounds_toArray, List.set_cons_zero, List.set_cons_succ]
              refine wpAnyH_take (i := 21) (v := ?_) (by simp only [List.getElem?_toArray, List.getElem?_cons_succ, List.getElem?_cons_zero]; rfl) (by kernel_rfl) (by kernel_rfl) (by kernel_rfl) (by intro _ _ _ h; exact h) (Or.inl ⟨by rfl, ?_⟩) (by assumption) ?_
              rotate_left
              · intro w hSw; (try dsimp only at hSw); go_simp; try with_reducible rfl
              try simp only [Act.put, List.setIfInBounds_toArray, List.set_cons_zero, List.set_cons_succ]
              refine wpAnyH_take (i := 22) (v := ?_) (by simp only [List.getElem?_toArray, List.getElem?_cons_succ, List.getElem?_cons_zero]; rfl) (by kernel_rfl) (by kernel_rfl) (by kernel_rfl) (by intro _ _ _ h; exact h) (Or.inl ⟨by rfl, ?_⟩) (by assumption) ?_
              rotate_left
              · intro w hSw; (try dsimp only at hSw); go_simp; try with_reducible rfl
              try simp only [Act.put, List.setIfInBounds_toArray, List.set_cons_zero, List.set_cons_succ]
              refine wpAnyH_take (i := 23) (v := ?_) (by simp only [List.getElem?_toArray, List.getElem?_cons_succ, List.getElem?_cons_zero]; rfl) (by kernel_rfl) (by kernel_rfl) (by kernel_rfl) (by intro _ _ _ h; exact h) (Or.inl ⟨by rfl, ?_⟩) (by assumption) ?_
              rotate_left
              · intro w hSw; (try dsimp only at hSw); go_simp; first | with_reducible rfl | rw [if_pos (by omega)]
              try simp only [Act.put, List.setIfInBounds_toArray, List.set_cons_zero, List.set_cons_succ]
              refine wpAnyH_take (i := 24) (v := ?_) (by simp only [List.getElem?_toArray, List.getElem?_cons_succ, List.getElem?_cons_zero]; rfl) (by kernel_rfl) (by kernel_rfl) (by kernel_rfl) (by intro _ _ _ h; exact h) (Or.inl ⟨by rfl, ?_⟩) (by assumption) ?_
              rotate_left
              · intro w hSw; (try dsimp only at hSw); go_simp; try with_reducible rfl
              try simp only [Act.put, List.setIfInBounds_toArray, List.set_cons_zero, List.set_cons_succ]
              refine wpAnyH_take (i := 25) (v := ?_) (by simp only [List.getElem?_toArray, List.getElem?_cons_succ, List.getElem?_cons_zero]; rfl) (by kernel_rfl) (by kernel_rfl) (by kernel_rfl) (by intro _ _ _ h; exact h) (Or.inl ⟨by rfl, ?_⟩) (by assumption) ?_
              rotate_left
              · intro w hSw; (try dsimp only at hSw); go_simp; try with_reducible rfl
              try simp only [Act.put, List.setIfInBounds_toArray, List.set_cons_zero, List.set_cons_succ]
              refine wpAnyH_take (i := 26) (v := ?_) (by simp only [List.getElem?_toArray, List.getElem?_cons_succ, List.getElem?_cons_zero]; rfl) (by kernel_rfl) (by kernel_rfl) (by kernel_rfl) (by intro _ _ _ h; exact h) (Or.inl ⟨by rfl, ?_⟩) (by assumption) ?_
              rotate_left
              · intro w hSw; (try dsimp only at hSw); go_simp; try with_reducible rfl
              try simp only [Act.put, List.setIfInBounds_toArray, List.set_cons_zero, List.set_cons_succ]
              refine wpAnyH_take (i := 27) (v := ?_) (by simp only [List.getElem?_toArray, List.getElem?_cons_succ, List.getElem?_cons_zero]; rfl) (by kernel_rfl) (by kernel_rfl) (by kernel_rfl) (by intro _ _ _ h; exact h) (Or.inl ⟨by rfl, ?_⟩) (by assumption) ?_
              rotate_left
              · intro w hSw; (try dsimp only at hSw); go_simp; try with_reducible rfl
              try simp only [Act.put, List.setIfInBounds_toArray, List.set_cons_zero, List.set_cons_succ]
              refine wpAnyH_take (i := 28) (v := ?_) (by simp only [List.getElem?_toArray, List.getElem?_cons_succ, List.getElem?_cons_zero]; rfl) (by kernel_rfl) (by kernel_rfl) (by kernel_rfl) (by intro _ _ _ h; exact h) (Or.inl ⟨by rfl, ?_⟩) (by assumption) ?_
              rotate_left
              · intro w hSw; (try dsimp only at hSw); go_simp; first | with_reducible rfl | rw [if_pos (by omega)]
              try simp only [Act.put, List.setIfInBounds_toArray, List.set_cons_zero, List.set_cons_succ]
              refine wpAnyH_take (i := 29) (v := ?_) (by simp only [List.getElem?_toArray, List.getElem?_cons_succ, List.getElem?_cons_zero]; rfl) (by kernel_rfl) (by kernel_rfl) (by kernel_rfl) (by intro _ _ _ h; exact h) (Or.inl ⟨by rfl, ?_⟩) (by assumption) ?_
              rotate_left
              · intro w hSw; (try dsimp only at hSw); go_simp; try with_reducible rfl
              try simp only [Act.put, List.setIfInBounds_toArray, List.set_cons_zero, List.set_cons_succ]
              refine wpAnyH_take (i := 30) (v := ?_) (by simp only [List.getElem?_toArray, List.getElem?_cons_succ, List.getElem?_cons_zero]; rfl) (by kernel_rfl) (by kernel_rfl) (by kernel_rfl) (by intro _ _ _ h; exact h) (Or.inl ⟨by rfl, ?_⟩) (by assumption) ?_
              rotate_left
              · intro w hSw; (try dsimp only at hSw); go_simp; try with_reducible rfl
              try simp only [Act.put, List.setIfInBounds_toArray, List.set_cons_zero, List.set_cons_succ]
              refine wpAnyH_take (i := 31) (v := ?_) (by simp only [List.getElem?_toArray, List.getElem?_cons_succ, List.getElem?_cons_zero]; rfl) (by kernel_rfl) (by kernel_rfl) (by kernel_rfl) (by intro _ _ _ h; exact h) (Or.inl ⟨by rfl, ?_⟩) (by assumption) ?_
              rotate_left
              · intro w hSw; (try dsimp only at hSw); go_simp; try with_reducible rfl
              try simp only [Act.put, List.setIfInBounds_toArray, List.set_cons_zero, List.set_cons_succ]
              refine wpAnyH_take (i := 32) (v := ?_) (by simp only [List.getElem?_toArray, List.getElem?_cons_succ, List.getElem?_cons_zero]; rfl) (by kernel_rfl) (by kernel_rfl) (by kernel_rfl) (by intro _ _ _ h; exact h) (Or.inl ⟨by rfl, ?_⟩) (by assumption) ?_
              rotate_left
              · intro w hSw; (try dsimp only at hSw); go_simp; try with_reducible rfl
              try simp only [Act.put, List.setIfInBounds_toArray, List.set_cons_zero, List.set_cons_succ]
              refine wpAnyH_done (by kernel_rfl) ?_ _
              go_wp2_with fail
              go_roundw
              case rel => exact ⟨k + 1, by omega, by omega, by go_num, Lib.hid ⟨HRr.out.drew, fun j h1 hj => by
                by_cases e : j = k
                · rw [e]; exact HTk.out
                · exact HAll.out j h1 (by omega)⟩⟩
              case measure => simp [intOf]; omega
            · have hdb : (yd == xd) = false := by simpa using hd
              have HTk : Hid (takeR ⟨yt, xd, xn, xs, xv⟩ (l.getD k default) = false) := Lib.hid (by rw [HT.out]; simp; exact fun e => hd e.symm)
              clear hd
              go_wp2_with fail
              refine wp_region_held_drew (S := fun w' => w'.cell? ⟨H, 0, none⟩ = some (.slice (some ⟨b, off, none⟩) n c) ∧ w'.cell? ⟨b, off, none⟩ = some (.int .i64 yt) ∧ w'.cell? ⟨b, off + 1, none⟩ = some (.int .i64 xd) ∧ w'.cell? ⟨b, off + k * 5, none⟩ = some (.int .i64 yt) ∧ w'.cell? ⟨b, off + k * 5 + 1, none⟩ = some (.int .i64 yd)) (by kernel_rfl) (⟨k0, e0, e1, y0, y1⟩) (fun hHeld => ?_)
              refine wpAnyH_take (i := 0) (v := ?_) (by simp only [List.getElem?_toArray, List.getElem?_cons_succ, List.getElem?_cons_zero]; rfl) (by kernel_rfl) (by kernel_rfl) (by kernel_rfl) (by intro _ _ _ h; exact h) (Or.inl ⟨by rfl, ?_⟩) (by assumption) ?_
              rotate_left
              · intro w hSw; (try dsimp only at hSw); go_simp; try with_reducible rfl
              try simp only [Act.put, List.setIfInBounds_toArray, List.set_cons_zero, List.set_cons_succ]
              refine wpAnyH_take (i := 1) (v := ?_) (by simp only [List.getElem?_toArray, List.getElem?_cons_succ, List.getElem?_cons_zero]; rfl) (by kernel_rfl) (by kernel_rfl) (by kernel_rfl) (by intro _ _ _ h; exact h) (Or.inl ⟨by rfl, ?_⟩) (by assumption) ?_
              rotate_left
              · intro w hSw; (try dsimp only at hSw); go_simp; try with_reducible rfl
              try simp only [Act.put, List.setIfInBounds_toArray, List.set_cons_zero, List.set_cons_succ]
              refine wpAnyH_take (i := 2) (v := ?_) (by simp only [List.getElem?_toArray, List.getElem?_cons_succ, List.getElem?_cons_zero]; rfl) (by kernel_rfl) (by kernel_rfl) (by kernel_rfl) (by intro _ _ _ h; exact h) (Or.inl ⟨by rfl, ?_⟩) (by assumption) ?_
              rotate_left
              · intro w hSw; (try dsimp only at hSw); go_simp; try with_reducible rfl
              try simp only [Act.put, List.setIfInBounds_toArray, List.set_cons_zero, List.set_cons_succ]
              refine wpAnyH_take (i := 3) (v := ?_) (by simp only [List.getElem?_toArray, List.getElem?_cons_succ, List.getElem?_cons_zero]; rfl) (by kernel_rfl) (by kernel_rfl) (by kernel_rfl) (by intro _ _ _ h; exact h) (Or.inl ⟨by rfl, ?_⟩) (by assumption) ?_
              rotate_left
              · intro w hSw; (try dsimp only at hSw); go_simp; try with_reducible rfl
              try simp only [Act.put, List.setIfInBounds_toArray, List.set_cons_zero, List.set_cons_succ]
              refine wpAnyH_take (i := 4) (v := ?_) (by simp only [List.getElem?_toArray, List.getElem?_cons_succ, List.getElem?_cons_zero]; rfl) (by kernel_rfl) (by kernel_rfl) (by kernel_rfl) (by intro _ _ _ h; exact h) (Or.inl ⟨by rfl, ?_⟩) (by assumption) ?_
              rotate_left
              · intro w hSw; (try dsimp only at hSw); go_simp; try with_reducible rfl
              try simp only [Act.put, List.setIfInBounds_toArray, List.set_cons_zero, List.set_cons_succ]
              refine wpAnyH_take (i := 5) (v := ?_) (by simp only [List.getElem?_toArray, List.getElem?_cons_succ, List.getElem?_cons_zero]; rfl) (by kernel_rfl) (by kernel_rfl) (by kernel_rfl) (by intro _ _ _ h; exact h) (Or.inl ⟨by rfl, ?_⟩) (by assumption) ?_
              rotate_left
              · intro w hSw; (try dsimp only at hSw); go_simp; try with_reducible rfl
              try simp only [Act.put, List.setIfInBounds_toArray, List.set_cons_zero, List.set_cons_succ]
              refine wpAnyH_take (i := 6) (v := ?_) (by simp only [List.getElem?_toArray, List.getElem?_cons_succ, List.getElem?_cons_zero]; rfl) (by kernel_rfl) (by kernel_rfl) (by kernel_rfl) (by intro _ _ _ h; exact h) (Or.inl ⟨by rfl, ?_⟩) (by assumption) ?_
              rotate_left
              · intro w hSw; (try dsimp only at hSw); go_simp; try with_reducible rfl
              try simp only [Act.put, List.setIfInBounds_toArray, List.set_cons_zero, List.set_cons_succ]
              refine wpAnyH_take (i := 7) (v := ?_) (by simp only [List.getElem?_toArray, List.getElem?_cons_succ, List.getElem?_cons_zero]; rfl) (by kernel_rfl) (by kernel_rfl) (by kernel_rfl) (by intro _ _ _ h; exact h) (Or.inl ⟨by rfl, ?_⟩) (by assumption) ?_
              rotate_left
              · intro w hSw; (try dsimp only at hSw); go_simp; try with_reducible rfl
              try simp only [Act.put, List.setIfInBounds_toArray, List.set_cons_zero, List.set_cons_succ]
              refine wpAnyH_take (i := 8) (v := ?_) (by simp only [List.getElem?_toArray, List.getElem?_cons_succ, List.getElem?_cons_zero]; rfl) (by kernel_rfl) (by kernel_rfl) (by kernel_rfl) (by intro _ _ _ h; exact h) (Or.inl ⟨by rfl, ?_⟩) (by assumption) ?_
              rotate_left
              · intro w hSw; (try dsimp only at hSw); go_simp; try with_reducible rfl
              try simp only [Act.put, List.setIfInBounds_toArray, List.set_cons_zero, List.set_cons_succ]
              refine wpAnyH_take (i := 9) (v := ?_) (by simp only [List.getElem?_toArray, List.getElem?_cons_succ, List.getElem?_cons_zero]; rfl) (by kernel_rfl) (by kernel_rfl) (by kernel_rfl) (by intro _ _ _ h; exact h) (Or.inl ⟨by rfl, ?_⟩) (by assumption) ?_
              rotate_left
              · intro w hSw; (try dsimp only at hSw); go_simp; first | with_reducible rfl | rw [if_pos (by omega)]
              try simp only [Act.put, List.setIfInBounds_toArray, List.set_cons_zero, List.set_cons_succ]
              refine wpAnyH_take (i := 10) (v := ?_) (by simp only [List.getElem?_toArray, List.getElem?_cons_succ, List.getElem?_cons_zero]; rfl) (by kernel_rfl) (by kernel_rfl) (by kernel_rfl) (by intro _ _ _ h; exact h) (Or.inl ⟨by rfl, ?_⟩) (by assumption) ?_
              rotate_left
              · intro w hSw; (try dsimp only at hSw); go_simp; try with_reducible rfl
              try simp only [Act.put, List.setIfInBounds_toArray, List.set_cons_zero, List.set_cons_succ]
              refine wpAnyH_take (i := 11) (v := ?_) (by simp only [List.getElem?_toArray, List.getElem?_cons_succ, List.getElem?_cons_zero]; rfl) (by kernel_rfl) (by kernel_rfl) (by kernel_rfl) (by intro _ _ _ h; exact h) (Or.inl ⟨by rfl, ?_⟩) (by assumption) ?_
              rotate_left
              · intro w hSw; (try dsimp only at hSw); go_simp; try with_reducible rfl
              try simp only [Act.put, List.setIfInBounds_toArray, List.set_cons_zero, List.set_cons_succ]
              refine wpAnyH_take (i := 12) (v := ?_) (by simp only [List.getElem?_toArray, List.getElem?_cons_succ, List.getElem?_cons_zero]; rfl) (by kernel_rfl) (by kernel_rfl) (by kernel_rfl) (by intro _ _ _ h; exact h) (Or.inl ⟨by rfl, ?_⟩) (by assumption) ?_
              rotate_left
              · intro w hSw; (try dsimp only at hSw); go_simp; try with_reducible rfl
              try simp only [Act.put, List.setIfInBounds_toArray, List.set_cons_zero, List.set_cons_succ]
              refine wpAnyH_take (i := 13) (v := ?_) (by simp only [List.getElem?_toArray, List.getElem?_cons_succ, List.getElem?_cons_zero]; rfl) (by kernel_rfl) (by kernel_rfl) (by kernel_rfl) (by intro _ _ _ h; exact h) (Or.inl ⟨by rfl, ?_⟩) (by assumption) ?_
              rotate_left
              · intro w hSw; (try dsimp only at hSw); go_simp; try with_reducible rfl
              try simp only [Act.put, List.setIfInBounds_toArray, List.set_cons_zero, List.set_cons_succ]
              refine wpAnyH_take (i := 14) (v := ?_) (by simp only [List.getElem?_toArray, List.getElem?_cons_succ, List.getElem?_cons_zero]; rfl) (by kernel_rfl) (by kernel_rfl) (by kernel_rfl) (by intro _ _ _ h; exact h) (Or.inl ⟨by rfl, ?_⟩) (by assumption) ?_
              rotate_left
              · intro w hSw; (try dsimp only at hSw); go_simp; first | with_reducible rfl | rw [if_pos (by omega)]
              try simp only [Act.put, List.setIfInBounds_toArray, List.set_cons_zero, List.set_cons_succ]
              refine wpAnyH_take (i := 15) (v := ?_) (by simp only [List.getElem?_toArray, List.getElem?_cons_succ, List.getElem?_cons_zero]; rfl) (by kernel_rfl) (by kernel_rfl) (by kernel_rfl) (by intro _ _ _ h; exact h) (Or.inl ⟨by rfl, ?_⟩) (by assumption) ?_
              rotate_left
              · intro w hSw; (try dsimp only at hSw); go_simp; try with_reducible rfl
              try simp only [Act.put, List.setIfInBounds_toArray, List.set_cons_zero, List.set_cons_succ]
              refine wpAnyH_take (i := 16) (v := ?_) (by simp only [List.getElem?_toArray, List.getElem?_cons_succ, List.getElem?_cons_zero]; rfl) (by kernel_rfl) (by kernel_rfl) (by kernel_rfl) (by intro _ _ _ h; exact h) (Or.inl ⟨by rfl, ?_⟩) (by assumption) ?_
              rotate_left
              · intro w hSw; (try dsimp only at hSw); go_simp; try with_reducible rfl
              try simp only [Act.put, List.setIfInBounds_toArray, List.set_cons_zero, List.set_cons_succ]
              refine wpAnyH_take (i := 17) (v := ?_) (by simp only [List.getElem?_toArray, List.getElem?_cons_succ, List.getElem?_cons_zero]; rfl) (by kernel_rfl) (by kernel_rfl) (by kernel_rfl) (by intro _ _ _ h; exact h) (Or.inl ⟨by rfl, ?_⟩) (by assumption) ?_
              rotate_left
              · intro w hSw; (try dsimp only at hSw); go_simp; try with_reducible rfl
              try simp only [Act.put, List.setIfInBounds_toArray, List.set_cons_zero, List.set_cons_succ]
              refine wpAnyH_take (i := 18) (v := ?_) (by simp only [List.getElem?_toArray, List.getElem?_cons_succ, List.getElem?_cons_zero]; rfl) (by kernel_rfl) (by kernel_rfl) (by kernel_rfl) (by intro _ _ _ h; exact h) (Or.inl ⟨by rfl, ?_⟩) (by assumption) ?_
              rotate_left
              · intro w hSw; (try dsimp only at hSw); go_simp; try with_reducible rfl
              try simp only [Act.put, List.setIfInBounds_toArray, List.set_cons_zero, List.set_cons_succ]
              refine wpAnyH_take (i := 19) (v := ?_) (by simp only [List.getElem?_toArray, List.getElem?_cons_succ, List.getElem?_cons_zero]; rfl) (by kernel_rfl) (by kernel_rfl) (by kernel_rfl) (by intro _ _ _ h; exact h) (Or.inl ⟨by rfl, ?_⟩) (by assumption) ?_
              rotate_left
              · intro w hSw; (try dsimp only at hSw); go_simp; try with_reducible rfl
              try simp only [Act.put, List.setIfInBounds_toArray, List.set_cons_zero, List.set_cons_succ]
              refine wpAnyH_take (i := 20) (v := ?_) (by simp only [List.getElem?_toArray, List.getElem?_cons_succ, List.getElem?_cons_zero]; rfl) (by kernel_rfl) (by kernel_rfl) (by kernel_rfl) (by intro _ _ _ h; exact h) (Or.inl ⟨by rfl, ?_⟩) (by assumption) ?_
              rotate_left
              · intro w hSw; (try dsimp only at hSw); go_simp; try with_reducible rfl
              try simp only [Act.put, List.setIfInBounds_toArray, List.set_cons_zero, List.set_cons_succ]
              refine wpAnyH_take (i := 21) (v := ?_) (by simp only [List.getElem?_toArray, List.getElem?_cons_succ, List.getElem?_cons_zero]; rfl) (by kernel_rfl) (by kernel_rfl) (by kernel_rfl) (by intro _ _ _ h; exact h) (Or.inl ⟨by rfl, ?_⟩) (by assumption) ?_
              rotate_left
              · intro w hSw; (try dsimp only at hSw); go_simp; try with_reducible rfl
              try simp only [Act.put, List.setIfInBounds_toArray, List.set_cons_zero, List.set_cons_succ]
              refine wpAnyH_take (i := 22) (v := ?_) (by simp only [List.getElem?_toArray, List.getElem?_cons_succ, List.getElem?_cons_zero]; rfl) (by kernel_rfl) (by kernel_rfl) (by kernel_rfl) (by intro _ _ _ h; exact h) (Or.inl ⟨by rfl, ?_⟩) (by assumption) ?_
              rotate_left
              · intro w hSw; (try dsimp only at hSw); go_simp; try with_reducible rfl
              try simp only [Act.put, List.setIfInBounds_toArray, List.set_cons_zero, List.set_cons_succ]
              refine wpAnyH_take (i := 23) (v := ?_) (by simp only [List.getElem?_toArray, List.getElem?_cons_succ, List.getElem?_cons_zero]; rfl) (by kernel_rfl) (by kernel_rfl) (by kernel_rfl) (by intro _ _ _ h; exact h) (Or.inl ⟨by rfl, ?_⟩) (by assumption) ?_
              rotate_left
              · intro w hSw; (try dsimp only at hSw); go_simp; first | with_reducible rfl | rw [if_pos (by omega)]
              try simp only [Act.put, List.setIfInBounds_toArray, List.set_cons_zero, List.set_cons_succ]
              refine wpAnyH_take (i := 24) (v := ?_) (by simp only [List.getElem?_toArray, List.getElem?_cons_succ, List.getElem?_cons_zero]; rfl) (by kernel_rfl) (by kernel_rfl) (by kernel_rfl) (by intro _ _ _ h; exact h) (Or.inl ⟨by rfl, ?_⟩) (by assumption) ?_
              rotate_left
              · intro w hSw; (try dsimp only at hSw); go_simp; try with_reducible rfl
              try simp only [Act.put, List.setIfInBounds_toArray, List.set_cons_zero, List.set_cons_succ]
              refine wpAnyH_take (i := 25) (v := ?_) (by simp only [List.getElem?_toArray, List.getElem?_cons_succ, List.getElem?_cons_zero]; rfl) (by kernel_rfl) (by kernel_rfl) (by kernel_rfl) (by intro _ _ _ h; exact h) (Or.inl ⟨by rfl, ?_⟩) (by assumption) ?_
              rotate_left
              · intro w hSw; (try dsimp only at hSw); go_simp; try with_reducible rfl
              try simp only [Act.put, List.setIfInBounds_toArray, List.set_cons_zero, List.set_cons_succ]
              refine wpAnyH_take (i := 26) (v := ?_) (by simp only [List.getElem?_toArray, List.getElem?_cons_succ, List.getElem?_cons_zero]; rfl) (by kernel_rfl) (by kernel_rfl) (by kernel_rfl) (by intro _ _ _ h; exact h) (Or.inl ⟨by rfl, ?_⟩) (by assumption) ?_
              rotate_left
              · intro w hSw; (try dsimp only at hSw); go_simp; try with_reducible rfl
              try simp only [Act.put, List.setIfInBounds_toArray, List.set_cons_zero, List.set_cons_succ]
              refine wpAnyH_take (i := 27) (v := ?_) (by simp only [List.getElem?_toArray, List.getElem?_cons_succ, List.getElem?_cons_zero]; rfl) (by kernel_rfl) (by kernel_rfl) (by kernel_rfl) (by intro _ _ _ h; exact h) (Or.inl ⟨by rfl, ?_⟩) (by assumption) ?_
              rotate_left
              · intro w hSw; (try dsimp only at hSw); go_simp; try with_reducible rfl
              try simp only [Act.put, List.setIfInBounds_toArray, List.set_cons_zero, List.set_cons_succ]
              refine wpAnyH_take (i := 28) (v := ?_) (by simp only [List.getElem?_toArray, List.getElem?_cons_succ, List.getElem?_cons_zero]; rfl) (by kernel_rfl) (by kernel_rfl) (by kernel_rfl) (by intro _ _ _ h; exact h) (Or.inl ⟨by rfl, ?_⟩) (by assumption) ?_
              rotate_left
              · intro w hSw; (try dsimp only at hSw); go_simp; first | with_reducible rfl | rw [if_pos (by omega)]
              try simp only [Act.put, List.setIfInBounds_toArray, List.set_cons_zero, List.set_cons_succ]
              refine wpAnyH_take (i := 29) (v := ?_) (by simp only [List.getElem?_toArray, List.getElem?_cons_succ, List.getElem?_cons_zero]; rfl) (by kernel_rfl) (by kernel_rfl) (by kernel_rfl) (by intro _ _ _ h; exact h) (Or.inl ⟨by rfl, ?_⟩) (by assumption) ?_
              rotate_left
              · intro w hSw; (try dsimp only at hSw); go_simp; try with_reducible rfl
              try simp only [Act.put, List.setIfInBounds_toArray, List.set_cons_zero, List.set_cons_succ]
              refine wpAnyH_take (i := 30) (v := ?_) (by simp only [List.getElem?_toArray, List.getElem?_cons_succ, List.getElem?_cons_zero]; rfl) (by kernel_rfl) (by kernel_rfl) (by kernel_rfl) (by intro _ _ _ h; exact h) (Or.inl ⟨by rfl, ?_⟩) (by assumption) ?_
              rotate_left
              · intro w hSw; (try dsimp only at hSw); go_simp; try with_reducible rfl
              try simp only [Act.put, List.setIfInBounds_toArray, List.set_cons_zero, List.set_cons_succ]
              refine wpAnyH_take (i := 31) (v := ?_) (by simp only [List.getElem?_toArray, List.getElem?_cons_succ, List.getElem?_cons_zero]; rfl) (by kernel_rfl) (by kernel_rfl) (by kernel_rfl) (by intro _ _ _ h; exact h) (Or.inl ⟨by rfl, ?_⟩) (by assumption) ?_
              rotate_left
              · intro w hSw; (try dsimp only at hSw); go_simp; try with_reducible rfl
              try simp only [Act.put, List.setIfInBounds_toArray, List.set_cons_zero, List.set_cons_succ]
              refine wpAnyH_take (i := 32) (v := ?_) (by simp only [List.getElem?_toArray, List.getElem?_cons_succ, List.getElem?_cons_zero]; rfl) (by kernel_rfl) (by kernel_rfl) (by kernel_rfl) (by intro _ _ _ h; exact h) (Or.inl ⟨by rfl, ?_⟩) (by assumption) ?_
              rotate_left
              · intro w hSw; (try dsimp only at hSw); go_simp; try with_reducible rfl
              try simp only [Act.put, List.setIfInBounds_toArray, List.set_cons_zero, List.set_cons_succ]
              refine wpAnyH_done (by kernel_rfl) ?_ _
              obtain ⟨ws, hws⟩ : ∃ W, W = wr.drew := ⟨_, rfl⟩
              have HBs : Hid (Below w1.heap.size w1 ws) := Lib.hid (by rw [hws]; exact HRr.out.drew)
              have HK : Hid (1 + comeR takeR l = k) := Lib.hid (comeR_is takeR l k hk1 (by rw [HN.out]; exact hk) (fun j h1 hj => by rw [← HHx.out]; exact HAll.out j h1 hj) (fun _ => by rw [← HHx.out]; exact HTk.out))
              have C36 : Hid (∀ W, Below w1.heap.size w1 W → Calls Try.prog 36 #[.agg #[.slice (some ⟨b, off, none⟩) n c, .int .i64 now, .int .i64 delta, .int .i64 next], .int .i64 k] W (NewQ1 W yt xd next (l.drop k))) := Lib.hid (fun W hW => by
                have h36 := first36 W (some ⟨b, off, none⟩) n c now delta next l HN.out (HLA.out.below hW (Nat.le_refl _)) H9.out HC.out (k - 1) (by omega)
                have hxk : (l.getD (k - 1) default).t = yt ∧ (l.getD (k - 1) default).d = xd := by
                  by_cases e : k = 1
                  · rw [e, ← HHx.out]; exact ⟨rfl, rfl⟩
                  · have := HAll.out (k - 1) (by omega) (by omega)
                    unfold takeR at this
                    simp only [Bool.and_eq_true, beq_iff_eq] at this
                    exact ⟨this.1.symm, this.2.symm⟩
                rw [hxk.1, hxk.2, show k - 1 + 1 = k by omega] at h36
                exact h36)
              have HSS : Hid (∀ W, Below ws.heap.size ws W → W.cell? ⟨H, 0, none⟩ = some (.slice (some ⟨b, off, none⟩) n c) ∧ W.cell? ⟨H, 1, none⟩ = some (.int .i64 now) ∧ W.cell? ⟨H, 2, none⟩ = some (.int .i64 delta) ∧ W.cell? ⟨H, 3, none⟩ = some (.int .i64 next)) := Lib.hid (fun W hW => (HSt.out W (HBs.out.trans (hW.mono HBs.out.size))).1)
              have HLW : Hid (∀ W, Below ws.heap.size ws W → LAt W (some ⟨b, off, none⟩) l) := Lib.hid (fun W hW => HLA.out.below (HBs.out.trans (hW.mono HBs.out.size)) (Nat.le_refl _))
              obtain ⟨nq, hnq⟩ : ∃ q, q = (l.drop k).length := ⟨_, rfl⟩
              have HNq := Lib.hid hnq
              have hhn1 : H ≠ H + 1 := by omega
              have hkc : k ≤ c := Nat.le_trans hk HC.out
              clear k0 e0 e1 y0 y1 hdb
              go_wp2_with fail
              (try rw [← hws])
              have HWs := Lib.hid hws
              clear hws hnq
              refine wp_region_K (S := fun w' => w'.cell? ⟨H, 0, none⟩ = some (.slice (some ⟨b, off, none⟩) n c) ∧ w'.cell? ⟨H, 1, none⟩ = some (.int .i64 now) ∧ w'.cell? ⟨H, 2, none⟩ = some (.int .i64 delta) ∧ w'.cell? ⟨H, 3, none⟩ = some (.int .i64 next)) 11 (by kernel_rfl) (HSS.out _ (Below.refl _ _).drew) (fun hHeld => ?_)
              refine wpAnyK_take (i := 0) (v := ?_) (by simp only [List.getElem?_toArray, List.getElem?_cons_succ, List.getElem?_cons_zero]; rfl) (by kernel_rfl) (by kernel_rfl) (by kernel_rfl) (by kernel_rfl) (by intro _ _ _ h; exact h) (Or.inl ⟨by rfl, ?_⟩) (by assumption) ?_
              rotate_left
              · intro w hSw; (try dsimp only at hSw); go_simp; try with_reducible rfl
              try simp only [Act.put, List.setIfInBounds_toArray, List.set_cons_zero, List.set_cons_succ]
              refine wpAnyK_take (i := 1) (v := ?_) (by simp only [List.getElem?_toArray, List.getElem?_cons_succ, List.getElem?_cons_zero]; rfl) (by kernel_rfl) (by kernel_rfl) (by kernel_rfl) (by kernel_rfl) (by intro _ _ _ h; exact h) (Or.inl ⟨by rfl, ?_⟩) (by assumption) ?_
              rotate_left
              · intro w hSw; (try dsimp only at hSw); go_simp; try with_reducible rfl
              try simp only [Act.put, List.setIfInBounds_toArray, List.set_cons_zero, List.set_cons_succ]
              refine wpAnyK_take (i := 4) (v := ?_) (by simp only [List.getElem?_toArray, List.getElem?_cons_succ, List.getElem?_cons_zero]; rfl) (by kernel_rfl) (by kernel_rfl) (by kernel_rfl) (by kernel_rfl) (by intro _ _ _ h; exact h) (Or.inl ⟨by rfl, ?_⟩) (by assumption) ?_
              rotate_left
              · intro w hSw; (try dsimp only at hSw); go_simp; try with_reducible rfl
              try simp only [Act.put, List.setIfInBounds_toArray, List.set_cons_zero, List.set_cons_succ]
              refine wpAnyK_take (i := 5) (v := ?_) (by simp only [List.getElem?_toArray, List.getElem?_cons_succ, List.getElem?_cons_zero]; rfl) (by kernel_rfl) (by kernel_rfl) (by kernel_rfl) (by kernel_rfl) (by intro _ _ _ h; exact h) (Or.inl ⟨by rfl, ?_⟩) (by assumption) ?_
              rotate_left
              · intro w hSw; (try dsimp only at hSw); go_simp; try with_reducible rfl
              try simp only [Act.put, List.setIfInBounds_toArray, List.set_cons_zero, List.set_cons_succ]
              refine wpAnyK_take (i := 6) (v := ?_) (by simp only [List.getElem?_toArray, List.getElem?_cons_succ, List.getElem?_cons_zero]; rfl) (by kernel_rfl) (by kernel_rfl) (by kernel_rfl) (by kernel_rfl) (by intro _ _ _ h; exact h) (Or.inl ⟨by rfl, ?_⟩) (by assumption) ?_
              rotate_left
              · intro w hSw; (try dsimp only at hSw); go_simp; try with_reducible rfl
              try simp only [Act.put, List.setIfInBounds_toArray, List.set_cons_zero, List.set_cons_succ]
              refine wpAnyK_take (i := 7) (v := ?_) (by simp only [List.getElem?_toArray, List.getElem?_cons_succ, List.getElem?_cons_zero]; rfl) (by kernel_rfl) (by kernel_rfl) (by kernel_rfl) (by kernel_rfl) (by intro _ _ _ h; exact h) (Or.inl ⟨by rfl, ?_⟩) (by assumption) ?_
              rotate_left
              · intro w hSw; (try dsimp only at hSw); go_simp; first | with_reducible rfl | rw [if_pos (by omega)]
              try simp only [Act.put, List.setIfInBounds_toArray, List.set_cons_zero, List.set_cons_succ]
              refine wpAnyK_ready (rs := [2, 3]) (by kernel_rfl) (by simp) ?_
              refine AllReadyK.cons (o := _) (by simp only [List.getElem?_toArray, List.getElem?_cons_succ, List.getElem?_cons_zero]; rfl) (fun K hK => ?_) (AllReadyK.cons (o := _) (by simp only [List.getElem?_toArray, List.getElem?_cons_succ, List.getElem?_cons_zero]; rfl) (fun K hK => ?_) AllReadyK.nil)
              · go_simp
                go_at_call 36
                refine Calls.mono (C36.out ws.drew (HBs.out.trans ((Below.refl _ _).drew.mono HBs.out.size))) ?_
                rintro e w5 ⟨aq, cq, rfl, hc', hfa, hla, hb5⟩
                have HB5 : Hid (Below ws.heap.size ws w5) := Lib.hid ((Below.refl _ _).drew.trans (hb5.mono (show ws.heap.size ≤ ws.drew.heap.size by simp)))
                have HR := Lib.hid (And.intro hc' (And.intro hfa hla))
                have HW5 := Lib.hid hb5
                rw [← HNq.out]
                clear hc' hfa hla hb5
                go_simp
                refine hK.out _ _ (fun _ => by exact HSS.out _ HB5.out) (fun hH => ?_)
                have hHeld := hH (by decide)
                clear hK K hH
                try simp only [Act.put, List.setIfInBounds_toArray, List.set_cons_zero, List.set_cons_succ]
                refine wpAnyK_ready (rs := [3]) (by kernel_rfl) (by simp) ?_
                refine AllReadyK.cons (o := _) (by simp only [List.getElem?_toArray, List.getElem?_cons_succ, List.getElem?_cons_zero]; rfl) (fun K hK => ?_) AllReadyK.nil
                go_simp

                refine hK.out _ _ (fun _ => by exact HSS.out _ (HB5.out.alloc HB5.out.size _)) (fun hH => ?_)
                have hHeld := hH (by decide)
                clear hK K hH
                try simp only [Act.put, List.setIfInBounds_toArray, List.set_cons_zero, List.set_cons_succ]
                refine wpAnyK_ready (rs := [8]) (by kernel_rfl) (by simp) ?_
                refine AllReadyK.cons (o := _) (by simp only [List.getElem?_toArray, List.getElem?_cons_succ, List.getElem?_cons_zero]; rfl) (fun K hK => ?_) AllReadyK.nil
                rw [if_pos (by rfl)]
                have hlp : LAt (w5.alloc (Obj.cells #[] 35)) (some ⟨b, off, none⟩) l := HLW.out _ (HB5.out.alloc HB5.out.size _)
                have hrow : (w5.alloc (Obj.cells #[] 35)).ownsRow ws.heap.size 35 5 (.slice (some ⟨w5.heap.size, 0, none⟩) 0 0) 0 [] := World.ownsRow_lit (base := ws.heap.size) (size := 5) w5 #[] 0 HB5.out.size (Nat.zero_le _) rfl
                refine wp_append5 (w := (w5.alloc (Obj.cells #[] 35))) (.tmp 54) (.tmp 58) rfl ws.heap.size (.slice (some ⟨w5.heap.size, 0, none⟩) 0 0) 0 [] rfl hrow _ k c ((l.take k).flatMap EvV.cells) rfl (by rw [flat5_length, List.length_take, HN.out, Nat.min_eq_left hk, Nat.mul_comm]) (hlp.front_none k (by rw [HN.out]; exact hk)) (hlp.front k (by rw [HN.out]; exact hk)) (flat5_one _) (by have := H9.out; omega) (Below.size (HB5.out.alloc HB5.out.size _)) ?_
                clear hlp
                intro va wa ho hg
                have HOa : Hid (wa.ownsRow ws.heap.size 35 5 va k ((l.take k).flatMap EvV.cells)) := Lib.hid (by simpa using ho)
                have HBa : Hid (Below ws.heap.size ws wa) := Lib.hid ((HB5.out.alloc HB5.out.size _).grown hg (Below.size (HB5.out.alloc HB5.out.size _)) (fun k e => (hrow.lt k e).1))
                have HLq : Hid (LAt wa aq (l.drop k)) := Lib.hid ((HR.out.2.2).below (((Below.refl _ _).alloc (Nat.le_refl _) _).grown hg (by simp) (fun k e => by simp [Value.ownBlock] at e; omega)) (Nat.le_refl _))
                obtain ⟨ob, cb, rfl, hcb⟩ := own_slice HOa.out
                have HCb := Lib.hid hcb
                have HBW : Hid (Below w1.heap.size w1 wa) := Lib.hid (HBs.out.trans (HBa.out.mono HBs.out.size))
                clear ho hg hrow hcb
                obtain ⟨⟨k0, k1, k2, k3⟩, z0, z1, z2, z3, zf⟩ := HSt.out wa HBW.out
                have f0 := zf 0
                have f1 := zf 1
                have f2 := zf 2
                have f3 := zf 3

                refine hK.out _ _ (fun _ => by exact HSS.out _ HBa.out) (fun hH => ?_)
                have hHeld := hH (by decide)
                clear hK K hH
                try simp only [Act.put, List.setIfInBounds_toArray, List.set_cons_zero, List.set_cons_succ]
                refine wpAnyK_ready (rs := [9]) (by kernel_rfl) (by simp) ?_
                refine AllReadyK.cons (o := _) (by simp only [List.getElem?_toArray, List.getElem?_cons_succ, List.getElem?_cons_zero]; rfl) (fun K hK => ?_) AllReadyK.nil
                go_simp

                refine hK.out _ _ (fun _ => by exact ⟨far (far (far (far k0 hhn1) hhn1) hhn1) hhn1, far (far (far (far k1 hhn1) hhn1) hhn1) hhn1, far (far (far (far k2 hhn1) hhn1) hhn1) hhn1, far (far (far (far k3 hhn1) hhn1) hhn1) hhn1⟩) (fun hH => ?_)
                have hHeld := hH (by decide)
                clear hK K hH
                try simp only [Act.put, List.setIfInBounds_toArray, List.set_cons_zero, List.set_cons_succ]
                refine wpAnyK_take (i := 10) (v := ?_) (by simp only [List.getElem?_toArray, List.getElem?_cons_succ, List.getElem?_cons_zero]; rfl) (by kernel_rfl) (by kernel_rfl) (by kernel_rfl) (by kernel_rfl) (by intro _ _ _ h; exact h) (Or.inl ⟨by rfl, ?_⟩) (by assumption) ?_
                rotate_left
                · intro w hSw; (try dsimp only at hSw); go_simp; try with_reducible rfl
                try simp only [Act.put, List.setIfInBounds_toArray, List.set_cons_zero, List.set_cons_succ]
                refine wpAnyK_ready (rs := [11]) (by kernel_rfl) (by simp) ?_
                refine AllReadyK.cons (o := _) (by simp only [List.getElem?_toArray, List.getElem?_cons_succ, List.getElem?_cons_zero]; rfl) (fun K hK => ?_) AllReadyK.nil
                go_simp

                refine hK.out _ _ (fun h => absurd rfl h) (fun _ => ?_)
                clear hK K
                try simp only [Act.put, List.setIfInBounds_toArray, List.set_cons_zero, List.set_cons_succ]
                refine wpAnyK_done (by kernel_rfl) ?_ _
                clear k0 k1 k2 k3
                go_wp2_with fail
                refine bodyPost_ret (results_take21 (g := .slice ob k cb) (b := H + 1) rfl rfl rfl (set_keep (set_keep (set_keep (cell?_set_own z0) (by decide)) (by decide)) (by decide)) (set_keep (set_keep (cell?_set_own (set_keep z1 (by decide))) (by decide)) (by decide)) (set_keep (cell?_set_own (set_keep (set_keep z2 (by decide)) (by decide))) (by decide)) (cell?_set_own (set_keep (set_keep (set_keep z3 (by decide)) (by decide)) (by decide)))) rfl ?_
                unfold Came
                rw [HCo.out, if_pos rfl, HK.out, ← HHx.out]
                obtain ⟨hc', hfa, hla⟩ := HR.out
                have hlk : (l.take k).length = k := by rw [List.length_take, HN.out, Nat.min_eq_left hk]
                have hsz : H + 1 < ws.heap.size := by have := HBs.out.size; have := HS1.out; omega
                have hw : w.heap.size ≤ ws.heap.size := Nat.le_trans HX1.out.size HBs.out.size
                have hfq : ∀ p, aq = some p → ws.heap.size ≤ p.block := fun p hp => Nat.le_trans (by simp) (hfa p hp)
                have hlb := own_lat (c := cb) HOa.out hlk (fun e he => HLA.out.each e (List.mem_of_mem_take he))
                refine ⟨aq, cq, ob, cb, by rw [hlk, HNq.out], hc', by rw [hlk]; exact HCb.out, fun p hp => Nat.le_trans hw (hfq p hp), fun p hp => Nat.le_trans hw (own_fresh HOa.out p hp), ?_, ?_, ?_⟩
                · exact HLq.out.put4 hfq hsz
                · exact hlb.put4 (own_fresh HOa.out) hsz
                · exact put4_below (HX1.out.trans ((HBs.out.trans (HBa.out.mono HBs.out.size)).mono HX1.out.size)) (by have := HHH.out; omega)
              · go_simp

                refine hK.out _ _ (fun _ => by exact HSS.out _ ((Below.refl _ _).drew.alloc (Nat.le_refl _) _)) (fun hH => ?_)
                have hHeld := hH (by decide)
                clear hK K hH
                try simp only [Act.put, List.setIfInBounds_toArray, List.set_cons_zero, List.set_cons_succ]
                refine wpAnyK_ready (rs := [2]) (by kernel_rfl) (by simp) ?_
                refine AllReadyK.cons (o := _) (by simp only [List.getElem?_toArray, List.getElem?_cons_succ, List.getElem?_cons_zero]; rfl) (fun K hK => ?_) AllReadyK.nil
                go_simp
                go_at_call 36
                refine Calls.mono (C36.out (ws.drew.alloc (Obj.cells #[] 35)) (HBs.out.trans (((Below.refl _ _).drew.alloc (Nat.le_refl _) _).mono HBs.out.size))) ?_
                rintro e w5 ⟨aq, cq, rfl, hc', hfa, hla, hb5⟩
                have HB5 : Hid (Below ws.heap.size ws w5) := Lib.hid (((Below.refl _ _).drew.alloc (Nat.le_refl _) _).trans (hb5.mono (show ws.heap.size ≤ (ws.drew.alloc (Obj.cells #[] 35)).heap.size by simp)))
                have HR := Lib.hid (And.intro hc' (And.intro hfa hla))
                have HW5 := Lib.hid hb5
                rw [← HNq.out]
                clear hc' hfa hla hb5
                go_simp
                refine hK.out _ _ (fun _ => by exact HSS.out _ HB5.out) (fun hH => ?_)
                have hHeld := hH (by decide)
                clear hK K hH
                try simp only [Act.put, List.setIfInBounds_toArray, List.set_cons_zero, List.set_cons_succ]
                refine wpAnyK_ready (rs := [8]) (by kernel_rfl) (by simp) ?_
                refine AllReadyK.cons (o := _) (by simp only [List.getElem?_toArray, List.getElem?_cons_succ, List.getElem?_cons_zero]; rfl) (fun K hK => ?_) AllReadyK.nil
                rw [if_pos (by rfl)]
                have hlp : LAt w5 (some ⟨b, off, none⟩) l := HLW.out _ HB5.out
                have hrow : w5.ownsRow ws.heap.size 35 5 (.slice (some ⟨ws.heap.size, 0, none⟩) 0 0) 0 [] := own_below (World.ownsRow_lit (base := ws.heap.size) (size := 5) ws.drew #[] 0 (Nat.le_refl _) (Nat.zero_le _) rfl) HW5.out
                refine wp_append5 (w := w5) (.tmp 54) (.tmp 58) rfl ws.heap.size (.slice (some ⟨ws.heap.size, 0, none⟩) 0 0) 0 [] rfl hrow _ k c ((l.take k).flatMap EvV.cells) rfl (by rw [flat5_length, List.length_take, HN.out, Nat.min_eq_left hk, Nat.mul_comm]) (hlp.front_none k (by rw [HN.out]; exact hk)) (hlp.front k (by rw [HN.out]; exact hk)) (flat5_one _) (by have := H9.out; omega) (Below.size HB5.out) ?_
                clear hlp
                intro va wa ho hg
                have HOa : Hid (wa.ownsRow ws.heap.size 35 5 va k ((l.take k).flatMap EvV.cells)) := Lib.hid (by simpa using ho)
                have HBa : Hid (Below ws.heap.size ws wa) := Lib.hid (HB5.out.grown hg (Below.size HB5.out) (fun k e => (hrow.lt k e).1))
                have HLq : Hid (LAt wa aq (l.drop k)) := Lib.hid ((HR.out.2.2).grown HR.out.2.1 hg (fun k e => by simp [Value.ownBlock] at e ⊢; omega))
                obtain ⟨ob, cb, rfl, hcb⟩ := own_slice HOa.out
                have HCb := Lib.hid hcb
                have HBW : Hid (Below w1.heap.size w1 wa) := Lib.hid (HBs.out.trans (HBa.out.mono HBs.out.size))
                clear ho hg hrow hcb
                obtain ⟨⟨k0, k1, k2, k3⟩, z0, z1, z2, z3, zf⟩ := HSt.out wa HBW.out
                have f0 := zf 0
                have f1 := zf 1
                have f2 := zf 2
                have f3 := zf 3

                refine hK.out _ _ (fun _ => by exact HSS.out _ HBa.out) (fun hH => ?_)
                have hHeld := hH (by decide)
                clear hK K hH
                try simp only [Act.put, List.setIfInBounds_toArray, List.set_cons_zero, List.set_cons_succ]
                refine wpAnyK_ready (rs := [9]) (by kernel_rfl) (by simp) ?_
                refine AllReadyK.cons (o := _) (by simp only [List.getElem?_toArray, List.getElem?_cons_succ, List.getElem?_cons_zero]; rfl) (fun K hK => ?_) AllReadyK.nil
                go_simp

                refine hK.out _ _ (fun _ => by exact ⟨far (far (far (far k0 hhn1) hhn1) hhn1) hhn1, far (far (far (far k1 hhn1) hhn1) hhn1) hhn1, far (far (far (far k2 hhn1) hhn1) hhn1) hhn1, far (far (far (far k3 hhn1) hhn1) hhn1) hhn1⟩) (fun hH => ?_)
                have hHeld := hH (by decide)
                clear hK K hH
                try simp only [Act.put, List.setIfInBounds_toArray, List.set_cons_zero, List.set_cons_succ]
                refine wpAnyK_take (i := 10) (v := ?_) (by simp only [List.getElem?_toArray, List.getElem?_cons_succ, List.getElem?_cons_zero]; rfl) (by kernel_rfl) (by kernel_rfl) (by kernel_rfl) (by kernel_rfl) (by intro _ _ _ h; exact h) (Or.inl ⟨by rfl, ?_⟩) (by assumption) ?_
                rotate_left
                · intro w hSw; (try dsimp only at hSw); go_simp; try with_reducible rfl
                try simp only [Act.put, List.setIfInBounds_toArray, List.set_cons_zero, List.set_cons_succ]
                refine wpAnyK_ready (rs := [11]) (by kernel_rfl) (by simp) ?_
                refine AllReadyK.cons (o := _) (by simp only [List.getElem?_toArray, List.getElem?_cons_succ, List.getElem?_cons_zero]; rfl) (fun K hK => ?_) AllReadyK.nil
                go_simp

                refine hK.out _ _ (fun h => absurd rfl h) (fun _ => ?_)
                clear hK K
                try simp only [Act.put, List.setIfInBounds_toArray, List.set_cons_zero, List.set_cons_succ]
                refine wpAnyK_done (by kernel_rfl) ?_ _
                clear k0 k1 k2 k3
                go_wp2_with fail
                refine bodyPost_ret (results_take21 (g := .slice ob k cb) (b := H + 1) rfl rfl rfl (set_keep (set_keep (set_keep (cell?_set_own z0) (by decide)) (by decide)) (by decide)) (set_keep (set_keep (cell?_set_own (set_keep z1 (by decide))) (by decide)) (by decide)) (set_keep (cell?_set_own (set_keep (set_keep z2 (by decide)) (by decide))) (by decide)) (cell?_set_own (set_keep (set_keep (set_keep z3 (by decide)) (by decide)) (by decide)))) rfl ?_
                unfold Came
                rw [HCo.out, if_pos rfl, HK.out, ← HHx.out]
                obtain ⟨hc', hfa, hla⟩ := HR.out
                have hlk : (l.take k).length = k := by rw [List.length_take, HN.out, Nat.min_eq_left hk]
                have hsz : H + 1 < ws.heap.size := by have := HBs.out.size; have := HS1.out; omega
                have hw : w.heap.size ≤ ws.heap.size := Nat.le_trans HX1.out.size HBs.out.size
                have hfq : ∀ p, aq = some p → ws.heap.size ≤ p.block := fun p hp => Nat.le_trans (by simp) (hfa p hp)
                have hlb := own_lat (c := cb) HOa.out hlk (fun e he => HLA.out.each e (List.mem_of_mem_take he))
                refine ⟨aq, cq, ob, cb, by rw [hlk, HNq.out], hc', by rw [hlk]; exact HCb.out, fun p hp => Nat.le_trans hw (hfq p hp), fun p hp => Nat.le_trans hw (own_fresh HOa.out p hp), ?_, ?_, ?_⟩
                · exact HLq.out.put4 hfq hsz
                · exact hlb.put4 (own_fresh HOa.out) hsz
                · exact put4_below (HX1.out.trans ((HBs.out.trans (HBa.out.mono HBs.out.size)).mono HX1.out.size)) (by have := HHH.out; omega)
          · have htb : (yt == xt) = false := by simpa using ht
            have HTk : Hid (takeR ⟨xt, xd, xn, xs, xv⟩ (l.getD k default) = false) := Lib.hid (by rw [HT.out]; simp; exact fun e => absurd e.symm ht)
            clear ht
            go_wp2_with fail
            refine wp_region_held_drew (S := fun w' => w'.cell? ⟨H, 0, none⟩ = some (.slice (some ⟨b, off, none⟩) n c) ∧ w'.cell? ⟨b, off, none⟩ = some (.int .i64 xt) ∧ w'.cell? ⟨b, off + 1, none⟩ = some (.int .i64 xd) ∧ w'.cell? ⟨b, off + k * 5, none⟩ = some (.int .i64 yt) ∧ w'.cell? ⟨b, off + k * 5 + 1, none⟩ = some (.int .i64 yd)) (by kernel_rfl) (⟨k0, e0, e1, y0, y1⟩) (fun hHeld => ?_)
            refine wpAnyH_take (i := 0) (v := ?_) (by simp only [List.getElem?_toArray, List.getElem?_cons_succ, List.getElem?_cons_zero]; rfl) (by kernel_rfl) (by kernel_rfl) (by kernel_rfl) (by intro _ _ _ h; exact h) (Or.inl ⟨by rfl, ?_⟩) (by assumption) ?_
            rotate_left
            · intro w hSw; (try dsimp only at hSw); go_simp; try with_reducible rfl
            try simp only [Act.put, List.setIfInBounds_toArray, List.set_cons_zero, List.set_cons_succ]
            refine wpAnyH_take (i := 1) (v := ?_) (by simp only [List.getElem?_toArray, List.getElem?_cons_succ, List.getElem?_cons_zero]; rfl) (by kernel_rfl) (by kernel_rfl) (by kernel_rfl) (by intro _ _ _ h; exact h) (Or.inl ⟨by rfl, ?_⟩) (by assumption) ?_
            rotate_left
            · intro w hSw; (try dsimp only at hSw); go_simp; try with_reducible rfl
            try simp only [Act.put, List.setIfInBounds_toArray, List.set_cons_zero, List.set_cons_succ]
            refine wpAnyH_take (i := 2) (v := ?_) (by simp only [List.getElem?_toArray, List.getElem?_cons_succ, List.getElem?_cons_zero]; rfl) (by kernel_rfl) (by kernel_rfl) (by kernel_rfl) (by intro _ _ _ h; exact h) (Or.inl ⟨by rfl, ?_⟩) (by assumption) ?_
            rotate_left
            · intro w hSw; (try dsimp only at hSw); go_simp; try with_reducible rfl
            try simp only [Act.put, List.setIfInBounds_toArray, List.set_cons_zero, List.set_cons_succ]
            refine wpAnyH_take (i := 3) (v := ?_) (by simp only [List.getElem?_toArray, List.getElem?_cons_succ, List.getElem?_cons_zero]; rfl) (by kernel_rfl) (by kernel_rfl) (by kernel_rfl) (by intro _ _ _ h; exact h) (Or.inl ⟨by rfl, ?_⟩) (by assumption) ?_
            rotate_left
            · intro w hSw; (try dsimp only at hSw); go_simp; try with_reducible rfl
            try simp only [Act.put, List.setIfInBounds_toArray, List.set_cons_zero, List.set_cons_succ]
            refine wpAnyH_take (i := 4) (v := ?_) (by simp only [List.getElem?_toArray, List.getElem?_cons_succ, List.getElem?_cons_zero]; rfl) (by kernel_rfl) (by kernel_rfl) (by kernel_rfl) (by intro _ _ _ h; exact h) (Or.inl ⟨by rfl, ?_⟩) (by assumption) ?_
            rotate_left
            · intro w hSw; (try dsimp only at hSw); go_simp; try with_reducible rfl
            try simp only [Act.put, List.setIfInBounds_toArray, List.set_cons_zero, List.set_cons_succ]
            refine wpAnyH_take (i := 5) (v := ?_) (by simp only [List.getElem?_toArray, List.getElem?_cons_succ, List.getElem?_cons_zero]; rfl) (by kernel_rfl) (by kernel_rfl) (by kernel_rfl) (by intro _ _ _ h; exact h) (Or.inl ⟨by rfl, ?_⟩) (by assumption) ?_
            rotate_left
            · intro w hSw; (try dsimp only at hSw); go_simp; try with_reducible rfl
            try simp only [Act.put, List.setIfInBounds_toArray, List.set_cons_zero, List.set_cons_succ]
            refine wpAnyH_take (i := 6) (v := ?_) (by simp only [List.getElem?_toArray, List.getElem?_cons_succ, List.getElem?_cons_zero]; rfl) (by kernel_rfl) (by kernel_rfl) (by kernel_rfl) (by intro _ _ _ h; exact h) (Or.inl ⟨by rfl, ?_⟩) (by assumption) ?_
            rotate_left
            · intro w hSw; (try dsimp only at hSw); go_simp; try with_reducible rfl
            try simp only [Act.put, List.setIfInBounds_toArray, List.set_cons_zero, List.set_cons_succ]
            refine wpAnyH_take (i := 7) (v := ?_) (by simp only [List.getElem?_toArray, List.getElem?_cons_succ, List.getElem?_cons_zero]; rfl) (by kernel_rfl) (by kernel_rfl) (by kernel_rfl) (by intro _ _ _ h; exact h) (Or.inl ⟨by rfl, ?_⟩) (by assumption) ?_
            rotate_left
            · intro w hSw; (try dsimp only at hSw); go_simp; try with_reducible rfl
            try simp only [Act.put, List.setIfInBounds_toArray, List.set_cons_zero, List.set_cons_succ]
            refine wpAnyH_take (i := 8) (v := ?_) (by simp only [List.getElem?_toArray, List.getElem?_cons_succ, List.getElem?_cons_zero]; rfl) (by kernel_rfl) (by kernel_rfl) (by kernel_rfl) (by intro _ _ _ h; exact h) (Or.inl ⟨by rfl, ?_⟩) (by assumption) ?_
            rotate_left
            · intro w hSw; (try dsimp only at hSw); go_simp; try with_reducible rfl
            try simp only [Act.put, List.setIfInBounds_toArray, List.set_cons_zero, List.set_cons_succ]
            refine wpAnyH_take (i := 9) (v := ?_) (by simp only [List.getElem?_toArray, List.getElem?_cons_succ, List.getElem?_cons_zero]; rfl) (by kernel_rfl) (by kernel_rfl) (by kernel_rfl) (by intro _ _ _ h; exact h) (Or.inl ⟨by rfl, ?_⟩) (by assumption) ?_
            rotate_left
            · intro w hSw; (try dsimp only at hSw); go_simp; first | with_reducible rfl | rw [if_pos (by omega)]
            try simp only [Act.put, List.setIfInBounds_toArray, List.set_cons_zero, List.set_cons_succ]
            refine wpAnyH_take (i := 10) (v := ?_) (by simp only [List.getElem?_toArray, List.getElem?_cons_succ, List.getElem?_cons_zero]; rfl) (by kernel_rfl) (by kernel_rfl) (by kernel_rfl) (by intro _ _ _ h; exact h) (Or.inl ⟨by rfl, ?_⟩) (by assumption) ?_
            rotate_left
            · intro w hSw; (try dsimp only at hSw); go_simp; try with_reducible rfl
            try simp only [Act.put, List.setIfInBounds_toArray, List.set_cons_zero, List.set_cons_succ]
            refine wpAnyH_take (i := 11) (v := ?_) (by simp only [List.getElem?_toArray, List.getElem?_cons_succ, List.getElem?_cons_zero]; rfl) (by kernel_rfl) (by kernel_rfl) (by kernel_rfl) (by intro _ _ _ h; exact h) (Or.inl ⟨by rfl, ?_⟩) (by assumption) ?_
            rotate_left
            · intro w hSw; (try dsimp only at hSw); go_simp; try with_reducible rfl
            try simp only [Act.put, List.setIfInBounds_toArray, List.set_cons_zero, List.set_cons_succ]
            refine wpAnyH_take (i := 12) (v := ?_) (by simp only [List.getElem?_toArray, List.getElem?_cons_succ, List.getElem?_cons_zero]; rfl) (by kernel_rfl) (by kernel_rfl) (by kernel_rfl) (by intro _ _ _ h; exact h) (Or.inl ⟨by rfl, ?_⟩) (by assumption) ?_
            rotate_left
            · intro w hSw; (try dsimp only at hSw); go_simp; try with_reducible rfl
            try simp only [Act.put, List.setIfInBounds_toArray, List.set_cons_zero, List.set_cons_succ]
            refine wpAnyH_take (i := 13) (v := ?_) (by simp only [List.getElem?_toArray, List.getElem?_cons_succ, List.getElem?_cons_zero]; rfl) (by kernel_rfl) (by kernel_rfl) (by kernel_rfl) (by intro _ _ _ h; exact h) (Or.inl ⟨by rfl, ?_⟩) (by assumption) ?_
            rotate_left
            · intro w hSw; (try dsimp only at hSw); go_simp; try with_reducible rfl
            try simp only [Act.put, List.setIfInBounds_toArray, List.set_cons_zero, List.set_cons_succ]
            refine wpAnyH_take (i := 14) (v := ?_) (by simp only [List.getElem?_toArray, List.getElem?_cons_succ, List.getElem?_cons_zero]; rfl) (by kernel_rfl) (by kernel_rfl) (by kernel_rfl) (by intro _ _ _ h; exact h) (Or.inl ⟨by rfl, ?_⟩) (by assumption) ?_
            rotate_left
            · intro w hSw; (try dsimp only at hSw); go_simp; first | with_reducible rfl | rw [if_pos (by omega)]
            try simp only [Act.put, List.setIfInBounds_toArray, List.set_cons_zero, List.set_cons_succ]
            refine wpAnyH_take (i := 15) (v := ?_) (by simp only [List.getElem?_toArray, List.getElem?_cons_succ, List.getElem?_cons_zero]; rfl) (by kernel_rfl) (by kernel_rfl) (by kernel_rfl) (by intro _ _ _ h; exact h) (Or.inl ⟨by rfl, ?_⟩) (by assumption) ?_
            rotate_left
            · intro w hSw; (try dsimp only at hSw); go_simp; try with_reducible rfl
            try simp only [Act.put, List.setIfInBounds_toArray, List.set_cons_zero, List.set_cons_succ]
            refine wpAnyH_take (i := 16) (v := ?_) (by simp only [List.getElem?_toArray, List.getElem?_cons_succ, List.getElem?_cons_zero]; rfl) (by kernel_rfl) (by kernel_rfl) (by kernel_rfl) (by intro _ _ _ h; exact h) (Or.inl ⟨by rfl, ?_⟩) (by assumption) ?_
            rotate_left
            · intro w hSw; (try dsimp only at hSw); go_simp; try with_reducible rfl
            try simp only [Act.put, List.setIfInBounds_toArray, List.set_cons_zero, List.set_cons_succ]
            refine wpAnyH_take (i := 17) (v := ?_) (by simp only [List.getElem?_toArray, List.getElem?_cons_succ, List.getElem?_cons_zero]; rfl) (by kernel_rfl) (by kernel_rfl) (by kernel_rfl) (by intro _ _ _ h; exact h) (Or.inl ⟨by rfl, ?_⟩) (by assumption) ?_
            rotate_left
            · intro w hSw; (try dsimp only at hSw); go_simp; try with_reducible rfl
            try simp only [Act.put, List.setIfInBounds_toArray, List.set_cons_zero, List.set_cons_succ]
            refine wpAnyH_take (i := 18) (v := ?_) (by simp only [List.getElem?_toArray, List.getElem?_cons_succ, List.getElem?_cons_zero]; rfl) (by kernel_rfl) (by kernel_rfl) (by kernel_rfl) (by intro _ _ _ h; exact h) (Or.inl ⟨by rfl, ?_⟩) (by assumption) ?_
            rotate_left
            · intro w hSw; (try dsimp only at hSw); go_simp; try with_reducible rfl
            try simp only [Act.put, List.setIfInBounds_toArray, List.set_cons_zero, List.set_cons_succ]
            refine wpAnyH_take (i := 19) (v := ?_) (by simp only [List.getElem?_toArray, List.getElem?_cons_succ, List.getElem?_cons_zero]; rfl) (by kernel_rfl) (by kernel_rfl) (by kernel_rfl) (by intro _ _ _ h; exact h) (Or.inl ⟨by rfl, ?_⟩) (by assumption) ?_
            rotate_left
            · intro w hSw; (try dsimp only at hSw); go_simp; try with_reducible rfl
            try simp only [Act.put, List.setIfInBounds_toArray, List.set_cons_zero, List.set_cons_succ]
            refine wpAnyH_take (i := 20) (v := undef) (by simp only [List.getElem?_toArray, List.getElem?_cons_succ, List.getElem?_cons_zero]; rfl) (by kernel_rfl) (by kernel_rfl) (by kernel_rfl) (by intro _ _ _ h; exact h) (Or.inr ⟨by rfl, rfl⟩) (by assumption) ?_
            try simp only [Act.put, List.setIfInBounds_toArray, List.set_cons_zero, List.set_cons_succ]
            refine wpAnyH_take (i := 21) (v := undef) (by simp only [List.getElem?_toArray, List.getElem?_cons_succ, List.getElem?_cons_zero]; rfl) (by kernel_rfl) (by kernel_rfl) (by kernel_rfl) (by intro _ _ _ h; exact h) (Or.inr ⟨by rfl, rfl⟩) (by assumption) ?_
            try simp only [Act.put, List.setIfInBounds_toArray, List.set_cons_zero, List.set_cons_succ]
            refine wpAnyH_take (i := 22) (v := undef) (by simp only [List.getElem?_toArray, List.getElem?_cons_succ, List.getElem?_cons_zero]; rfl) (by kernel_rfl) (by kernel_rfl) (by kernel_rfl) (by intro _ _ _ h; exact h) (Or.inr ⟨by rfl, rfl⟩) (by assumption) ?_
            try simp only [Act.put, List.setIfInBounds_toArray, List.set_cons_zero, List.set_cons_succ]
            refine wpAnyH_take (i := 23) (v := undef) (by simp only [List.getElem?_toArray, List.getElem?_cons_succ, List.getElem?_cons_zero]; rfl) (by kernel_rfl) (by kernel_rfl) (by kernel_rfl) (by intro _ _ _ h; exact h) (Or.inr ⟨by rfl, rfl⟩) (by assumption) ?_
            try simp only [Act.put, List.setIfInBounds_toArray, List.set_cons_zero, List.set_cons_succ]
            refine wpAnyH_take (i := 24) (v := undef) (by simp only [List.getElem?_toArray, List.getElem?_cons_succ, List.getElem?_cons_zero]; rfl) (by kernel_rfl) (by kernel_rfl) (by kernel_rfl) (by intro _ _ _ h; exact h) (Or.inr ⟨by rfl, rfl⟩) (by assumption) ?_
            try simp only [Act.put, List.setIfInBounds_toArray, List.set_cons_zero, List.set_cons_succ]
            refine wpAnyH_take (i := 25) (v := undef) (by simp only [List.getElem?_toArray, List.getElem?_cons_succ, List.getElem?_cons_zero]; rfl) (by kernel_rfl) (by kernel_rfl) (by kernel_rfl) (by intro _ _ _ h; exact h) (Or.inr ⟨by rfl, rfl⟩) (by assumption) ?_
            try simp only [Act.put, List.setIfInBounds_toArray, List.set_cons_zero, List.set_cons_succ]
            refine wpAnyH_take (i := 26) (v := undef) (by simp only [List.getElem?_toArray, List.getElem?_cons_succ, List.getElem?_cons_zero]; rfl) (by kernel_rfl) (by kernel_rfl) (by kernel_rfl) (by intro _ _ _ h; exact h) (Or.inr ⟨by rfl, rfl⟩) (by assumption) ?_
            try simp only [Act.put, List.setIfInBounds_toArray, List.set_cons_zero, List.set_cons_succ]
            refine wpAnyH_take (i := 27) (v := undef) (by simp only [List.getElem?_toArray, List.getElem?_cons_succ, List.getElem?_cons_zero]; rfl) (by kernel_rfl) (by kernel_rfl) (by kernel_rfl) (by intro _ _ _ h; exact h) (Or.inr ⟨by rfl, rfl⟩) (by assumption) ?_
            try simp only [Act.put, List.setIfInBounds_toArray, List.set_cons_zero, List.set_cons_succ]
            refine wpAnyH_take (i := 28) (v := undef) (by simp only [List.getElem?_toArray, List.getElem?_cons_succ, List.getElem?_cons_zero]; rfl) (by kernel_rfl) (by kernel_rfl) (by kernel_rfl) (by intro _ _ _ h; exact h) (Or.inr ⟨by rfl, rfl⟩) (by assumption) ?_
            try simp only [Act.put, List.setIfInBounds_toArray, List.set_cons_zero, List.set_cons_succ]
            refine wpAnyH_take (i := 29) (v := undef) (by simp only [List.getElem?_toArray, List.getElem?_cons_succ, List.getElem?_cons_zero]; rfl) (by kernel_rfl) (by kernel_rfl) (by kernel_rfl) (by intro _ _ _ h; exact h) (Or.inr ⟨by rfl, rfl⟩) (by assumption) ?_
            try simp only [Act.put, List.setIfInBounds_toArray, List.set_cons_zero, List.set_cons_succ]
            refine wpAnyH_take (i := 30) (v := undef) (by simp only [List.getElem?_toArray, List.getElem?_cons_succ, List.getElem?_cons_zero]; rfl) (by kernel_rfl) (by kernel_rfl) (by kernel_rfl) (by intro _ _ _ h; exact h) (Or.inr ⟨by rfl, rfl⟩) (by assumption) ?_
            try simp only [Act.put, List.setIfInBounds_toArray, List.set_cons_zero, List.set_cons_succ]
            refine wpAnyH_take (i := 31) (v := undef) (by simp only [List.getElem?_toArray, List.getElem?_cons_succ, List.getElem?_cons_zero]; rfl) (by kernel_rfl) (by kernel_rfl) (by kernel_rfl) (by intro _ _ _ h; exact h) (Or.inr ⟨by rfl, rfl⟩) (by assumption) ?_
            try simp only [Act.put, List.setIfInBounds_toArray, List.set_cons_zero, List.set_cons_succ]
            refine wpAnyH_take (i := 32) (v := ?_) (by simp only [List.getElem?_toArray, List.getElem?_cons_succ, List.getElem?_cons_zero]; rfl) (by kernel_rfl) (by kernel_rfl) (by kernel_rfl) (by intro _ _ _ h; exact h) (Or.inl ⟨by rfl, ?_⟩) (by assumption) ?_
            rotate_left
            · intro w hSw; (try dsimp only at hSw); go_simp; try with_reducible rfl
            try simp only [Act.put, List.setIfInBounds_toArray, List.set_cons_zero, List.set_cons_succ]
            refine wpAnyH_done (by kernel_rfl) ?_ _
            obtain ⟨ws, hws⟩ : ∃ W, W = wr.drew := ⟨_, rfl⟩
            have HBs : Hid (Below w1.heap.size w1 ws) := Lib.hid (by rw [hws]; exact HRr.out.drew)
            have HK : Hid (1 + comeR takeR l = k) := Lib.hid (comeR_is takeR l k hk1 (by rw [HN.out]; exact hk) (fun j h1 hj => by rw [← HHx.out]; exact HAll.out j h1 hj) (fun _ => by rw [← HHx.out]; exact HTk.out))
            have C36 : Hid (∀ W, Below w1.heap.size w1 W → Calls Try.prog 36 #[.agg #[.slice (some ⟨b, off, none⟩) n c, .int .i64 now, .int .i64 delta, .int .i64 next], .int .i64 k] W (NewQ1 W xt xd next (l.drop k))) := Lib.hid (fun W hW => by
              have h36 := first36 W (some ⟨b, off, none⟩) n c now delta next l HN.out (HLA.out.below hW (Nat.le_refl _)) H9.out HC.out (k - 1) (by omega)
              have hxk : (l.getD (k - 1) default).t = xt ∧ (l.getD (k - 1) default).d = xd := by
                by_cases e : k = 1
                · rw [e, ← HHx.out]; exact ⟨rfl, rfl⟩
                · have := HAll.out (k - 1) (by omega) (by omega)
                  unfold takeR at this
                  simp only [Bool.and_eq_true, beq_iff_eq] at this
                  exact ⟨this.1.symm, this.2.symm⟩
              rw [hxk.1, hxk.2, show k - 1 + 1 = k by omega] at h36
              exact h36)
            have HSS : Hid (∀ W, Below ws.heap.size ws W → W.cell? ⟨H, 0, none⟩ = some (.slice (some ⟨b, off, none⟩) n c) ∧ W.cell? ⟨H, 1, none⟩ = some (.int .i64 now) ∧ W.cell? ⟨H, 2, none⟩ = some (.int .i64 delta) ∧ W.cell? ⟨H, 3, none⟩ = some (.int .i64 next)) := Lib.hid (fun W hW => (HSt.out W (HBs.out.trans (hW.mono HBs.out.size))).1)
            have HLW : Hid (∀ W, Below ws.heap.size ws W → LAt W (some ⟨b, off, none⟩) l) := Lib.hid (fun W hW => HLA.out.below (HBs.out.trans (hW.mono HBs.out.size)) (Nat.le_refl _))
            obtain ⟨nq, hnq⟩ : ∃ q, q = (l.drop k).length := ⟨_, rfl⟩
            have HNq := Lib.hid hnq
            have hhn1 : H ≠ H + 1 := by omega
            have hkc : k ≤ c := Nat.le_trans hk HC.out
            clear k0 e0 e1 y0 y1 htb
            go_wp2_with fail
            (try rw [← hws])
            have HWs := Lib.hid hws
            clear hws hnq
            refine wp_region_K (S := fun w' => w'.cell? ⟨H, 0, none⟩ = some (.slice (some ⟨b, off, none⟩) n c) ∧ w'.cell? ⟨H, 1, none⟩ = some (.int .i64 now) ∧ w'.cell? ⟨H, 2, none⟩ = some (.int .i64 delta) ∧ w'.cell? ⟨H, 3, none⟩ = some (.int .i64 next)) 11 (by kernel_rfl) (HSS.out _ (Below.refl _ _).drew) (fun hHeld => ?_)
            refine wpAnyK_take (i := 0) (v := ?_) (by simp only [List.getElem?_toArray, List.getElem?_cons_succ, List.getElem?_cons_zero]; rfl) (by kernel_rfl) (by kernel_rfl) (by kernel_rfl) (by kernel_rfl) (by intro _ _ _ h; exact h) (Or.inl ⟨by rfl, ?_⟩) (by assumption) ?_
            rotate_left
            · intro w hSw; (try dsimp only at hSw); go_simp; try with_reducible rfl
            try simp only [Act.put, List.setIfInBounds_toArray, List.set_cons_zero, List.set_cons_succ]
            refine wpAnyK_take (i := 1) (v := ?_) (by simp only [List.getElem?_toArray, List.getElem?_cons_succ, List.getElem?_cons_zero]; rfl) (by kernel_rfl) (by kernel_rfl) (by kernel_rfl) (by kernel_rfl) (by intro _ _ _ h; exact h) (Or.inl ⟨by rfl, ?_⟩) (by assumption) ?_
            rotate_left
            · intro w hSw; (try dsimp only at hSw); go_simp; try with_reducible rfl
            try simp only [Act.put, List.setIfInBounds_toArray, List.set_cons_zero, List.set_cons_succ]
            refine wpAnyK_take (i := 4) (v := ?_) (by simp only [List.getElem?_toArray, List.getElem?_cons_succ, List.getElem?_cons_zero]; rfl) (by kernel_rfl) (by kernel_rfl) (by kernel_rfl) (by kernel_rfl) (by intro _ _ _ h; exact h) (Or.inl ⟨by rfl, ?_⟩) (by assumption) ?_
            rotate_left
            · intro w hSw; (try dsimp only at hSw); go_simp; try with_reducible rfl
            try simp only [Act.put, List.setIfInBounds_toArray, List.set_cons_zero, List.set_cons_succ]
            refine wpAnyK_take (i := 5) (v := ?_) (by simp only [List.getElem?_toArray, List.getElem?_cons_succ, List.getElem?_cons_zero]; rfl) (by kernel_rfl) (by kernel_rfl) (by kernel_rfl) (by kernel_rfl) (by intro _ _ _ h; exact h) (Or.inl ⟨by rfl, ?_⟩) (by assumption) ?_
            rotate_left
            · intro w hSw; (try dsimp only at hSw); go_simp; try with_reducible rfl
            try simp only [Act.put, List.setIfInBounds_toArray, List.set_cons_zero, List.set_cons_succ]
            refine wpAnyK_take (i := 6) (v := ?_) (by simp only [List.getElem?_toArray, List.getElem?_cons_succ, List.getElem?_cons_zero]; rfl) (by kernel_rfl) (by kernel_rfl) (by kernel_rfl) (by kernel_rfl) (by intro _ _ _ h; exact h) (Or.inl ⟨by rfl, ?_⟩) (by assumption) ?_
            rotate_left
            · intro w hSw; (try dsimp only at hSw); go_simp; try with_reducible rfl
            try simp only [Act.put, List.setIfInBounds_toArray, List.set_cons_zero, List.set_cons_succ]
            refine wpAnyK_take (i := 7) (v := ?_) (by simp only [List.getElem?_toArray, List.getElem?_cons_succ, List.getElem?_cons_zero]; rfl) (by kernel_rfl) (by kernel_rfl) (by kernel_rfl) (by kernel_rfl) (by intro _ _ _ h; exact h) (Or.inl ⟨by rfl, ?_⟩) (by assumption) ?_
            rotate_left
            · intro w hSw; (try dsimp only at hSw); go_simp; first | with_reducible rfl | rw [if_pos (by omega)]
            try simp only [Act.put, List.setIfInBounds_toArray, List.set_cons_zero, List.set_cons_succ]
            refine wpAnyK_ready (rs := [2, 3]) (by kernel_rfl) (by simp) ?_
            refine AllReadyK.cons (o := _) (by simp only [List.getElem?_toArray, List.getElem?_cons_succ, List.getElem?_cons_zero]; rfl) (fun K hK => ?_) (AllReadyK.cons (o := _) (by simp only [List.getElem?_toArray, List.getElem?_cons_succ, List.getElem?_cons_zero]; rfl) (fun K hK => ?_) AllReadyK.nil)
            · go_simp
              go_at_call 36
              refine Calls.mono (C36.out ws.drew (HBs.out.trans ((Below.refl _ _).drew.mono HBs.out.size))) ?_
              rintro e w5 ⟨aq, cq, rfl, hc', hfa, hla, hb5⟩
              have HB5 : Hid (Below ws.heap.size ws w5) := Lib.hid ((Below.refl _ _).drew.trans (hb5.mono (show ws.heap.size ≤ ws.drew.heap.size by simp)))
              have HR := Lib.hid (And.intro hc' (And.intro hfa hla))
              have HW5 := Lib.hid hb5
              rw [← HNq.out]
              clear hc' hfa hla hb5
              go_simp
              refine hK.out _ _ (fun _ => by exact HSS.out _ HB5.out) (fun hH => ?_)
              have hHeld := hH (by decide)
              clear hK K hH
              try simp only [Act.put, List.setIfInBounds_toArray, List.set_cons_zero, List.set_cons_succ]
              refine wpAnyK_ready (rs := [3]) (by kernel_rfl) (by simp) ?_
              refine AllReadyK.cons (o := _) (by simp only [List.getElem?_toArray, List.getElem?_cons_succ, List.getElem?_cons_zero]; rfl) (fun K hK => ?_) AllReadyK.nil
              go_simp

              refine hK.out _ _ (fun _ => by exact HSS.out _ (HB5.out.alloc HB5.out.size _)) (fun hH => ?_)
              have hHeld := hH (by decide)
              clear hK K hH
              try simp only [Act.put, List.setIfInBounds_toArray, List.set_cons_zero, List.set_cons_succ]
              refine wpAnyK_ready (rs := [8]) (by kernel_rfl) (by simp) ?_
              refine AllReadyK.cons (o := _) (by simp only [List.getElem?_toArray, List.getElem?_cons_succ, List.getElem?_cons_zero]; rfl) (fun K hK => ?_) AllReadyK.nil
              rw [if_pos (by rfl)]
              have hlp : LAt (w5.alloc (Obj.cells #[] 35)) (some ⟨b, off, none⟩) l := HLW.out _ (HB5.out.alloc HB5.out.size _)
              have hrow : (w5.alloc (Obj.cells #[] 35)).ownsRow ws.heap.size 35 5 (.slice (some ⟨w5.heap.size, 0, none⟩) 0 0) 0 [] := World.ownsRow_lit (base := ws.heap.size) (size := 5) w5 #[] 0 HB5.out.size (Nat.zero_le _) rfl
              refine wp_append5 (w := (w5.alloc (Obj.cells #[] 35))) (.tmp 54) (.tmp 58) rfl ws.heap.size (.slice (some ⟨w5.heap.size, 0, none⟩) 0 0) 0 [] rfl hrow _ k c ((l.take k).flatMap EvV.cells) rfl (by rw [flat5_length, List.length_take, HN.out, Nat.min_eq_left hk, Nat.mul_comm]) (hlp.front_none k (by rw [HN.out]; exact hk)) (hlp.front k (by rw [HN.out]; exact hk)) (flat5_one _) (by have := H9.out; omega) (Below.size (HB5.out.alloc HB5.out.size _)) ?_
              clear hlp
              intro va wa ho hg
              have HOa : Hid (wa.ownsRow ws.heap.size 35 5 va k ((l.take k).flatMap EvV.cells)) := Lib.hid (by simpa using ho)
              have HBa : Hid (Below ws.heap.size ws wa) := Lib.hid ((HB5.out.alloc HB5.out.size _).grown hg (Below.size (HB5.out.alloc HB5.out.size _)) (fun k e => (hrow.lt k e).1))
              have HLq : Hid (LAt wa aq (l.drop k)) := Lib.hid ((HR.out.2.2).below (((Below.refl _ _).alloc (Nat.le_refl _) _).grown hg (by simp) (fun k e => by simp [Value.ownBlock] at e; omega)) (Nat.le_refl _))
              obtain ⟨ob, cb, rfl, hcb⟩ := own_slice HOa.out
              have HCb := Lib.hid hcb
              have HBW : Hid (Below w1.heap.size w1 wa) := Lib.hid (HBs.out.trans (HBa.out.mono HBs.out.size))
              clear ho hg hrow hcb
              obtain ⟨⟨k0, k1, k2, k3⟩, z0, z1, z2, z3, zf⟩ := HSt.out wa HBW.out
              have f0 := zf 0
              have f1 := zf 1
              have f2 := zf 2
              have f3 := zf 3

              refine hK.out _ _ (fun _ => by exact HSS.out _ HBa.out) (fun hH => ?_)
              have hHeld := hH (by decide)
              clear hK K hH
              try simp only [Act.put, List.setIfInBounds_toArray, List.set_cons_zero, List.set_cons_succ]
              refine wpAnyK_ready (rs := [9]) (by kernel_rfl) (by simp) ?_
              refine AllReadyK.cons (o := _) (by simp only [List.getElem?_toArray, List.getElem?_cons_succ, List.getElem?_cons_zero]; rfl) (fun K hK => ?_) AllReadyK.nil
              go_simp

              refine hK.out _ _ (fun _ => by exact ⟨far (far (far (far k0 hhn1) hhn1) hhn1) hhn1, far (far (far (far k1 hhn1) hhn1) hhn1) hhn1, far (far (far (far k2 hhn1) hhn1) hhn1) hhn1, far (far (far (far k3 hhn1) hhn1) hhn1) hhn1⟩) (fun hH => ?_)
              have hHeld := hH (by decide)
              clear hK K hH
              try simp only [Act.put, List.setIfInBounds_toArray, List.set_cons_zero, List.set_cons_succ]
              refine wpAnyK_take (i := 10) (v := ?_) (by simp only [List.getElem?_toArray, List.getElem?_cons_succ, List.getElem?_cons_zero]; rfl) (by kernel_rfl) (by kernel_rfl) (by kernel_rfl) (by kernel_rfl) (by intro _ _ _ h; exact h) (Or.inl ⟨by rfl, ?_⟩) (by assumption) ?_
              rotate_left
              · intro w hSw; (try dsimp only at hSw); go_simp; try with_reducible rfl
              try simp only [Act.put, List.setIfInBounds_toArray, List.set_cons_zero, List.set_cons_succ]
              refine wpAnyK_ready (rs := [11]) (by kernel_rfl) (by simp) ?_
              refine AllReadyK.cons (o := _) (by simp only [List.getElem?_toArray, List.getElem?_cons_succ, List.getElem?_cons_zero]; rfl) (fun K hK => ?_) AllReadyK.nil
              go_simp

              refine hK.out _ _ (fun h => absurd rfl h) (fun _ => ?_)
              clear hK K
              try simp only [Act.put, List.setIfInBounds_toArray, List.set_cons_zero, List.set_cons_succ]
              refine wpAnyK_done (by kernel_rfl) ?_ _
              clear k0 k1 k2 k3
              go_wp2_with fail
              refine bodyPost_ret (results_take21 (g := .slice ob k cb) (b := H + 1) rfl rfl rfl (set_keep (set_keep (set_keep (cell?_set_own z0) (by decide)) (by decide)) (by decide)) (set_keep (set_keep (cell?_set_own (set_keep z1 (by decide))) (by decide)) (by decide)) (set_keep (cell?_set_own (set_keep (set_keep z2 (by decide)) (by decide))) (by decide)) (cell?_set_own (set_keep (set_keep (set_keep z3 (by decide)) (by decide)) (by decide)))) rfl ?_
              unfold Came
              rw [HCo.out, if_pos rfl, HK.out, ← HHx.out]
              obtain ⟨hc', hfa, hla⟩ := HR.out
              have hlk : (l.take k).length = k := by rw [List.length_take, HN.out, Nat.min_eq_left hk]
              have hsz : H + 1 < ws.heap.size := by have := HBs.out.size; have := HS1.out; omega
              have hw : w.heap.size ≤ ws.heap.size := Nat.le_trans HX1.out.size HBs.out.size
              have hfq : ∀ p, aq = some p → ws.heap.size ≤ p.block := fun p hp => Nat.le_trans (by simp) (hfa p hp)
              have hlb := own_lat (c := cb) HOa.out hlk (fun e he => HLA.out.each e (List.mem_of_mem_take he))
              refine ⟨aq, cq, ob, cb, by rw [hlk, HNq.out], hc', by rw [hlk]; exact HCb.out, fun p hp => Nat.le_trans hw (hfq p hp), fun p hp => Nat.le_trans hw (own_fresh HOa.out p hp), ?_, ?_, ?_⟩
              · exact HLq.out.put4 hfq hsz
              · exact hlb.put4 (own_fresh HOa.out) hsz
              · exact put4_below (HX1.out.trans ((HBs.out.trans (HBa.out.mono HBs.out.size)).mono HX1.out.size)) (by have := HHH.out; omega)
            · go_simp

              refine hK.out _ _ (fun _ => by exact HSS.out _ ((Below.refl _ _).drew.alloc (Nat.le_refl _) _)) (fun hH => ?_)
              have hHeld := hH (by decide)
              clear hK K hH
              try simp only [Act.put, List.setIfInBounds_toArray, List.set_cons_zero, List.set_cons_succ]
              refine wpAnyK_ready (rs := [2]) (by kernel_rfl) (by simp) ?_
              refine AllReadyK.cons (o := _) (by simp only [List.getElem?_toArray, List.getElem?_cons_succ, List.getElem?_cons_zero]; rfl) (fun K hK => ?_) AllReadyK.nil
              go_simp
              go_at_call 36
              refine Calls.mono (C36.out (ws.drew.alloc (Obj.cells #[] 35)) (HBs.out.trans (((Below.refl _ _).drew.alloc (Nat.le_refl _) _).mono HBs.out.size))) ?_
              rintro e w5 ⟨aq, cq, rfl, hc', hfa, hla, hb5⟩
              have HB5 : Hid (Below ws.heap.size ws w5) := Lib.hid (((Below.refl _ _).drew.alloc (Nat.le_refl _) _).trans (hb5.mono (show ws.heap.size ≤ (ws.drew.alloc (Obj.cells #[] 35)).heap.size by simp)))
              have HR := Lib.hid (And.intro hc' (And.intro hfa hla))
              have HW5 := Lib.hid hb5
              rw [← HNq.out]
              clear hc' hfa hla hb5
              go_simp
              refine hK.out _ _ (fun _ => by exact HSS.out _ HB5.out) (fun hH => ?_)
              have hHeld := hH (by decide)
              clear hK K hH
              try simp only [Act.put, List.setIfInBounds_toArray, List.set_cons_zero, List.set_cons_succ]
              refine wpAnyK_ready (rs := [8]) (by kernel_rfl) (by simp) ?_
              refine AllReadyK.cons (o := _) (by simp only [List.getElem?_toArray, List.getElem?_cons_succ, List.getElem?_cons_zero]; rfl) (fun K hK => ?_) AllReadyK.nil
              rw [if_pos (by rfl)]
              have hlp : LAt w5 (some ⟨b, off, none⟩) l := HLW.out _ HB5.out
              have hrow : w5.ownsRow ws.heap.size 35 5 (.slice (some ⟨ws.heap.size, 0, none⟩) 0 0) 0 [] := own_below (World.ownsRow_lit (base := ws.heap.size) (size := 5) ws.drew #[] 0 (Nat.le_refl _) (Nat.zero_le _) rfl) HW5.out
              refine wp_append5 (w := w5) (.tmp 54) (.tmp 58) rfl ws.heap.size (.slice (some ⟨ws.heap.size, 0, none⟩) 0 0) 0 [] rfl hrow _ k c ((l.take k).flatMap EvV.cells) rfl (by rw [flat5_length, List.length_take, HN.out, Nat.min_eq_left hk, Nat.mul_comm]) (hlp.front_none k (by rw [HN.out]; exact hk)) (hlp.front k (by rw [HN.out]; exact hk)) (flat5_one _) (by have := H9.out; omega) (Below.size HB5.out) ?_
              clear hlp
              intro va wa ho hg
              have HOa : Hid (wa.ownsRow ws.heap.size 35 5 va k ((l.take k).flatMap EvV.cells)) := Lib.hid (by simpa using ho)
              have HBa : Hid (Below ws.heap.size ws wa) := Lib.hid (HB5.out.grown hg (Below.size HB5.out) (fun k e => (hrow.lt k e).1))
              have HLq : Hid (LAt wa aq (l.drop k)) := Lib.hid ((HR.out.2.2).grown HR.out.2.1 hg (fun k e => by simp [Value.ownBlock] at e ⊢; omega))
              obtain ⟨ob, cb, rfl, hcb⟩ := own_slice HOa.out
              have HCb := Lib.hid hcb
              have HBW : Hid (Below w1.heap.size w1 wa) := Lib.hid (HBs.out.trans (HBa.out.mono HBs.out.size))
              clear ho hg hrow hcb
              obtain ⟨⟨k0, k1, k2, k3⟩, z0, z1, z2, z3, zf⟩ := HSt.out wa HBW.out
              have f0 := zf 0
              have f1 := zf 1
              have f2 := zf 2
              have f3 := zf 3

              refine hK.out _ _ (fun _ => by exact HSS.out _ HBa.out) (fun hH => ?_)
              have hHeld := hH (by decide)
              clear hK K hH
              try simp only [Act.put, List.setIfInBounds_toArray, List.set_cons_zero, List.set_cons_succ]
              refine wpAnyK_ready (rs := [9]) (by kernel_rfl) (by simp) ?_
              refine AllReadyK.cons (o := _) (by simp only [List.getElem?_toArray, List.getElem?_cons_succ, List.getElem?_cons_zero]; rfl) (fun K hK => ?_) AllReadyK.nil
              go_simp

              refine hK.out _ _ (fun _ => by exact ⟨far (far (far (far k0 hhn1) hhn1) hhn1) hhn1, far (far (far (far k1 hhn1) hhn1) hhn1) hhn1, far (far (far (far k2 hhn1) hhn1) hhn1) hhn1, far (far (far (far k3 hhn1) hhn1) hhn1) hhn1⟩) (fun hH => ?_)
              have hHeld := hH (by decide)
              clear hK K hH
              try simp only [Act.put, List.setIfInBounds_toArray, List.set_cons_zero, List.set_cons_succ]
              refine wpAnyK_take (i := 10) (v := ?_) (by simp only [List.getElem?_toArray, List.getElem?_cons_succ, List.getElem?_cons_zero]; rfl) (by kernel_rfl) (by kernel_rfl) (by kernel_rfl) (by kernel_rfl) (by intro _ _ _ h; exact h) (Or.inl ⟨by rfl, ?_⟩) (by assumption) ?_
              rotate_left
              · intro w hSw; (try dsimp only at hSw); go_simp; try with_reducible rfl
              try simp only [Act.put, List.setIfInBounds_toArray, List.set_cons_zero, List.set_cons_succ]
              refine wpAnyK_ready (rs := [11]) (by kernel_rfl) (by simp) ?_
              refine AllReadyK.cons (o := _) (by simp only [List.getElem?_toArray, List.getElem?_cons_succ, List.getElem?_cons_zero]; rfl) (fun K hK => ?_) AllReadyK.nil
              go_simp

              refine hK.out _ _ (fun h => absurd rfl h) (fun _ => ?_)
              clear hK K
              try simp only [Act.put, List.setIfInBounds_toArray, List.set_cons_zero, List.set_cons_succ]
              refine wpAnyK_done (by kernel_rfl) ?_ _
              clear k0 k1 k2 k3
              go_wp2_with fail
              refine bodyPost_ret (results_take21 (g := .slice ob k cb) (b := H + 1) rfl rfl rfl (set_keep (set_keep (set_keep (cell?_set_own z0) (by decide)) (by decide)) (by decide)) (set_keep (set_keep (cell?_set_own (set_keep z1 (by decide))) (by decide)) (by decide)) (set_keep (cell?_set_own (set_keep (set_keep z2 (by decide)) (by decide))) (by decide)) (cell?_set_own (set_keep (set_keep (set_keep z3 (by decide)) (by decide)) (by decide)))) rfl ?_
              unfold Came
              rw [HCo.out, if_pos rfl, HK.out, ← HHx.out]
              obtain ⟨hc', hfa, hla⟩ := HR.out
              have hlk : (l.take k).length = k := by rw [List.length_take, HN.out, Nat.min_eq_left hk]
              have hsz : H + 1 < ws.heap.size := by have := HBs.out.size; have := HS1.out; omega
              have hw : w.heap.size ≤ ws.heap.size := Nat.le_trans HX1.out.size HBs.out.size
              have hfq : ∀ p, aq = some p → ws.heap.size ≤ p.block := fun p hp => Nat.le_trans (by simp) (hfa p hp)
              have hlb := own_lat (c := cb) HOa.out hlk (fun e he => HLA.out.each e (List.mem_of_mem_take he))
              refine ⟨aq, cq, ob, cb, by rw [hlk, HNq.out], hc', by rw [hlk]; exact HCb.out, fun p hp => Nat.le_trans hw (hfq p hp), fun p hp => Nat.le_trans hw (own_fresh HOa.out p hp), ?_, ?_, ?_⟩
              · exact HLq.out.put4 hfq hsz
              · exact hlb.put4 (own_fresh HOa.out) hsz
              · exact put4_below (HX1.out.trans ((HBs.out.trans (HBa.out.mono HBs.out.size)).mono HX1.out.size)) (by have := HHH.out; omega)
        · obtain rfl : k = n := by omega
          go_wp2_with fail
          refine wp_region_held_drew (S := fun w' => w'.cell? ⟨H, 0, none⟩ = some (.slice (some ⟨b, off, none⟩) k c)) (by kernel_rfl) (k0) (fun hHeld => ?_)
          refine wpAnyH_take (i := 0) (v := ?_) (by simp only [List.getElem?_toArray, List.getElem?_cons_succ, List.getElem?_cons_zero]; rfl) (by kernel_rfl) (by kernel_rfl) (by kernel_rfl) (by intro _ _ _ h; exact h) (Or.inl ⟨by rfl, ?_⟩) (by assumption) ?_
          rotate_left
          · intro w hSw; (try dsimp only at hSw); go_simp; try with_reducible rfl
          try simp only [Act.put, List.setIfInBounds_toArray, List.set_cons_zero, List.set_cons_succ]
          refine wpAnyH_take (i := 1) (v := ?_) (by simp only [List.getElem?_toArray, List.getElem?_cons_succ, List.getElem?_cons_zero]; rfl) (by kernel_rfl) (by kernel_rfl) (by kernel_rfl) (by intro _ _ _ h; exact h) (Or.inl ⟨by rfl, ?_⟩) (by assumption) ?_
          rotate_left
          · intro w hSw; (try dsimp only at hSw); go_simp; try with_reducible rfl
          try simp only [Act.put, List.setIfInBounds_toArray, List.set_cons_zero, List.set_cons_succ]
          refine wpAnyH_take (i := 2) (v := ?_) (by simp only [List.getElem?_toArray, List.getElem?_cons_succ, List.getElem?_cons_zero]; rfl) (by kernel_rfl) (by kernel_rfl) (by kernel_rfl) (by intro _ _ _ h; exact h) (Or.inl ⟨by rfl, ?_⟩) (by assumption) ?_
          rotate_left
          · intro w hSw; (try dsimp only at hSw); go_simp; try with_reducible rfl
          try simp only [Act.put, List.setIfInBounds_toArray, List.set_cons_zero, List.set_cons_succ]
          refine wpAnyH_take (i := 3) (v := ?_) (by simp only [List.getElem?_toArray, List.getElem?_cons_succ, List.getElem?_cons_zero]; rfl) (by kernel_rfl) (by kernel_rfl) (by kernel_rfl) (by intro _ _ _ h; exact h) (Or.inl ⟨by rfl, ?_⟩) (by assumption) ?_
          rotate_left
          · intro w hSw; (try dsimp only at hSw); go_simp; try with_reducible rfl
          try simp only [Act.put, List.setIfInBounds_toArray, List.set_cons_zero, List.set_cons_succ]
          refine wpAnyH_take (i := 4) (v := ?_) (by simp only [List.getElem?_toArray, List.getElem?_cons_succ, List.getElem?_cons_zero]; rfl) (by kernel_rfl) (by kernel_rfl) (by kernel_rfl) (by intro _ _ _ h; exact h) (Or.inl ⟨by rfl, ?_⟩) (by assumption) ?_
          rotate_left
          · intro w hSw; (try dsimp only at hSw); go_simp; try with_reducible rfl
          try simp only [Act.put, List.setIfInBounds_toArray, List.set_cons_zero, List.set_cons_succ]
          refine wpAnyH_take (i := 5) (v := ?_) (by simp only [List.getElem?_toArray, List.getElem?_cons_succ, List.getElem?_cons_zero]; rfl) (by kernel_rfl) (by kernel_rfl) (by kernel_rfl) (by intro _ _ _ h; exact h) (Or.inl ⟨by rfl, ?_⟩) (by assumption) ?_
          rotate_left
          · intro w hSw; (try dsimp only at hSw); go_simp; try with_reducible rfl
          try simp only [Act.put, List.setIfInBounds_toArray, List.set_cons_zero, List.set_cons_succ]
          refine wpAnyH_take (i := 6) (v := undef) (by simp only [List.getElem?_toArray, List.getElem?_cons_succ, List.getElem?_cons_zero]; rfl) (by kernel_rfl) (by kernel_rfl) (by kernel_rfl) (by intro _ _ _ h; exact h) (Or.inr ⟨by rfl, rfl⟩) (by assumption) ?_
          try simp only [Act.put, List.setIfInBounds_toArray, List.set_cons_zero, List.set_cons_succ]
          refine wpAnyH_take (i := 7) (v := undef) (by simp only [List.getElem?_toArray, List.getElem?_cons_succ, List.getElem?_cons_zero]; rfl) (by kernel_rfl) (by kernel_rfl) (by kernel_rfl) (by intro _ _ _ h; exact h) (Or.inr ⟨by rfl, rfl⟩) (by assumption) ?_
          try simp only [Act.put, List.setIfInBounds_toArray, List.set_cons_zero, List.set_cons_succ]
          refine wpAnyH_take (i := 8) (v := undef) (by simp only [List.getElem?_toArray, List.getElem?_cons_succ, List.getElem?_cons_zero]; rfl) (by kernel_rfl) (by kernel_rfl) (by kernel_rfl) (by intro _ _ _ h; exact h) (Or.inr ⟨by rfl, rfl⟩) (by assumption) ?_
          try simp only [Act.put, List.setIfInBounds_toArray, List.set_cons_zero, List.set_cons_succ]
          refine wpAnyH_take (i := 9) (v := undef) (by simp only [List.getElem?_toArray, List.getElem?_cons_succ, List.getElem?_cons_zero]; rfl) (by kernel_rfl) (by kernel_rfl) (by kernel_rfl) (by intro _ _ _ h; exact h) (Or.inr ⟨by rfl, rfl⟩) (by assumption) ?_
          try simp only [Act.put, List.setIfInBounds_toArray, List.set_cons_zero, List.set_cons_succ]
          refine wpAnyH_take (i := 10) (v := undef) (by simp only [List.getElem?_toArray, List.getElem?_cons_succ, List.getElem?_cons_zero]; rfl) (by kernel_rfl) (by kernel_rfl) (by kernel_rfl) (by intro _ _ _ h; exact h) (Or.inr ⟨by rfl, rfl⟩) (by assumption) ?_
          try simp only [Act.put, List.setIfInBounds_toArray, List.set_cons_zero, List.set_cons_succ]
          refine wpAnyH_take (i := 11) (v := undef) (by simp only [List.getElem?_toArray, List.getElem?_cons_succ, List.getElem?_cons_zero]; rfl) (by kernel_rfl) (by kernel_rfl) (by kernel_rfl) (by intro _ _ _ h; exact h) (Or.inr ⟨by rfl, rfl⟩) (by assumption) ?_
          try simp only [Act.put, List.setIfInBounds_toArray, List.set_cons_zero, List.set_cons_succ]
          refine wpAnyH_take (i := 12) (v := undef) (by simp only [List.getElem?_toArray, List.getElem?_cons_succ, List.getElem?_cons_zero]; rfl) (by kernel_rfl) (by kernel_rfl) (by kernel_rfl) (by intro _ _ _ h; exact h) (Or.inr ⟨by rfl, rfl⟩) (by assumption) ?_
          try simp only [Act.put, List.setIfInBounds_toArray, List.set_cons_zero, List.set_cons_succ]
          refine wpAnyH_take (i := 13) (v := undef) (by simp only [List.getElem?_toArray, List.getElem?_cons_succ, List.getElem?_cons_zero]; rfl) (by kernel_rfl) (by kernel_rfl) (by kernel_rfl) (by intro _ _ _ h; exact h) (Or.inr ⟨by rfl, rfl⟩) (by assumption) ?_
          try simp only [Act.put, List.setIfInBounds_toArray, List.set_cons_zero, List.set_cons_succ]
          refine wpAnyH_take (i := 14) (v := undef) (by simp only [List.getElem?_toArray, List.getElem?_cons_succ, List.getElem?_cons_zero]; rfl) (by kernel_rfl) (by kernel_rfl) (by kernel_rfl) (by intro _ _ _ h; exact h) (Or.inr ⟨by rfl, rfl⟩) (by assumption) ?_
          try simp only [Act.put, List.setIfInBounds_toArray, List.set_cons_zero, List.set_cons_succ]
          refine wpAnyH_take (i := 15) (v := undef) (by simp only [List.getElem?_toArray, List.getElem?_cons_succ, List.getElem?_cons_zero]; rfl) (by kernel_rfl) (by kernel_rfl) (by kernel_rfl) (by intro _ _ _ h; exact h) (Or.inr ⟨by rfl, rfl⟩) (by assumption) ?_
          try simp only [Act.put, List.setIfInBounds_toArray, List.set_cons_zero, List.set_cons_succ]
          refine wpAnyH_take (i := 16) (v := undef) (by simp only [List.getElem?_toArray, List.getElem?_cons_succ, List.getElem?_cons_zero]; rfl) (by kernel_rfl) (by kernel_rfl) (by kernel_rfl) (by intro _ _ _ h; exact h) (Or.inr ⟨by rfl, rfl⟩) (by assumption) ?_
          try simp only [Act.put, List.setIfInBounds_toArray, List.set_cons_zero, List.set_cons_succ]
          refine wpAnyH_take (i := 17) (v := undef) (by simp only [List.getElem?_toArray, List.getElem?_cons_succ, List.getElem?_cons_zero]; rfl) (by kernel_rfl) (by kernel_rfl) (by kernel_rfl) (by intro _ _ _ h; exact h) (Or.inr ⟨by rfl, rfl⟩) (by assumption) ?_
          try simp only [Act.put, List.setIfInBounds_toArray, List.set_cons_zero, List.set_cons_succ]
          refine wpAnyH_take (i := 18) (v := ?_) (by simp only [List.getElem?_toArray, List.getElem?_cons_succ, List.getElem?_cons_zero]; rfl) (by kernel_rfl) (by kernel_rfl) (by kernel_rfl) (by intro _ _ _ h; exact h) (Or.inl ⟨by rfl, ?_⟩) (by assumption) ?_
          rotate_left
          · intro w hSw; (try dsimp only at hSw); go_simp; try with_reducible rfl
          try simp only [Act.put, List.setIfInBounds_toArray, List.set_cons_zero, List.set_cons_succ]
          refine wpAnyH_take (i := 19) (v := ?_) (by simp only [List.getElem?_toArray, List.getElem?_cons_succ, List.getElem?_cons_zero]; rfl) (by kernel_rfl) (by kernel_rfl) (by kernel_rfl) (by intro _ _ _ h; exact h) (Or.inl ⟨by rfl, ?_⟩) (by assumption) ?_
          rotate_left
          · intro w hSw; (try dsimp only at hSw); go_simp; try with_reducible rfl
          try simp only [Act.put, List.setIfInBounds_toArray, List.set_cons_zero, List.set_cons_succ]
          refine wpAnyH_take (i := 20) (v := undef) (by simp only [List.getElem?_toArray, List.getElem?_cons_succ, List.getElem?_cons_zero]; rfl) (by kernel_rfl) (by kernel_rfl) (by kernel_rfl) (by intro _ _ _ h; exact h) (Or.inr ⟨by rfl, rfl⟩) (by assumption) ?_
          try simp only [Act.put, List.setIfInBounds_toArray, List.set_cons_zero, List.set_cons_succ]
          refine wpAnyH_take (i := 21) (v := undef) (by simp only [List.getElem?_toArray, List.getElem?_cons_succ, List.getElem?_cons_zero]; rfl) (by kernel_rfl) (by kernel_rfl) (by kernel_rfl) (by intro _ _ _ h; exact h) (Or.inr ⟨by rfl, rfl⟩) (by assumption) ?_
          try simp only [Act.put, List.setIfInBounds_toArray, List.set_cons_zero, List.set_cons_succ]
          refine wpAnyH_take (i := 22) (v := undef) (by simp only [List.getElem?_toArray, List.getElem?_cons_succ, List.getElem?_cons_zero]; rfl) (by kernel_rfl) (by kernel_rfl) (by kernel_rfl) (by intro _ _ _ h; exact h) (Or.inr ⟨by rfl, rfl⟩) (by assumption) ?_
          try simp only [Act.put, List.setIfInBounds_toArray, List.set_cons_zero, List.set_cons_succ]
          refine wpAnyH_take (i := 23) (v := undef) (by simp only [List.getElem?_toArray, List.getElem?_cons_succ, List.getElem?_cons_zero]; rfl) (by kernel_rfl) (by kernel_rfl) (by kernel_rfl) (by intro _ _ _ h; exact h) (Or.inr ⟨by rfl, rfl⟩) (by assumption) ?_
          try simp only [Act.put, List.setIfInBounds_toArray, List.set_cons_zero, List.set_cons_succ]
          refine wpAnyH_take (i := 24) (v := undef) (by simp only [List.getElem?_toArray, List.getElem?_cons_succ, List.getElem?_cons_zero]; rfl) (by kernel_rfl) (by kernel_rfl) (by kernel_rfl) (by intro _ _ _ h; exact h) (Or.inr ⟨by rfl, rfl⟩) (by assumption) ?_
          try simp only [Act.put, List.setIfInBounds_toArray, List.set_cons_zero, List.set_cons_succ]
          refine wpAnyH_take (i := 25) (v := undef) (by simp only [List.getElem?_toArray, List.getElem?_cons_succ, List.getElem?_cons_zero]; rfl) (by kernel_rfl) (by kernel_rfl) (by kernel_rfl) (by intro _ _ _ h; exact h) (Or.inr ⟨by rfl, rfl⟩) (by assumption) ?_
          try simp only [Act.put, List.setIfInBounds_toArray, List.set_cons_zero, List.set_cons_succ]
          refine wpAnyH_take (i := 26) (v := undef) (by simp only [List.getElem?_toArray, List.getElem?_cons_succ, List.getElem?_cons_zero]; rfl) (by kernel_rfl) (by kernel_rfl) (by kernel_rfl) (by intro _ _ _ h; exact h) (Or.inr ⟨by rfl, rfl⟩) (by assumption) ?_
          try simp only [Act.put, List.setIfInBounds_toArray, List.set_cons_zero, List.set_cons_succ]
          refine wpAnyH_take (i := 27) (v := undef) (by simp only [List.getElem?_toArray, List.getElem?_cons_succ, List.getElem?_cons_zero]; rfl) (by kernel_rfl) (by kernel_rfl) (by kernel_rfl) (by intro _ _ _ h; exact h) (Or.inr ⟨by rfl, rfl⟩) (by assumption) ?_
          try simp only [Act.put, List.setIfInBounds_toArray, List.set_cons_zero, List.set_cons_succ]
          refine wpAnyH_take (i := 28) (v := undef) (by simp only [List.getElem?_toArray, List.getElem?_cons_succ, List.getElem?_cons_zero]; rfl) (by kernel_rfl) (by kernel_rfl) (by kernel_rfl) (by intro _ _ _ h; exact h) (Or.inr ⟨by rfl, rfl⟩) (by assumption) ?_
          try simp only [Act.put, List.setIfInBounds_toArray, List.set_cons_zero, List.set_cons_succ]
          refine wpAnyH_take (i := 29) (v := undef) (by simp only [List.getElem?_toArray, List.getElem?_cons_succ, List.getElem?_cons_zero]; rfl) (by kernel_rfl) (by kernel_rfl) (by kernel_rfl) (by intro _ _ _ h; exact h) (Or.inr ⟨by rfl, rfl⟩) (by assumption) ?_
          try simp only [Act.put, List.setIfInBounds_toArray, List.set_cons_zero, List.set_cons_succ]
          refine wpAnyH_take (i := 30) (v := undef) (by simp only [List.getElem?_toArray, List.getElem?_cons_succ, List.getElem?_cons_zero]; rfl) (by kernel_rfl) (by kernel_rfl) (by kernel_rfl) (by intro _ _ _ h; exact h) (Or.inr ⟨by rfl, rfl⟩) (by assumption) ?_
          try simp only [Act.put, List.setIfInBounds_toArray, List.set_cons_zero, List.set_cons_succ]
          refine wpAnyH_take (i := 31) (v := undef) (by simp only [List.getElem?_toArray, List.getElem?_cons_succ, List.getElem?_cons_zero]; rfl) (by kernel_rfl) (by kernel_rfl) (by kernel_rfl) (by intro _ _ _ h; exact h) (Or.inr ⟨by rfl, rfl⟩) (by assumption) ?_
          try simp only [Act.put, List.setIfInBounds_toArray, List.set_cons_zero, List.set_cons_succ]
          refine wpAnyH_take (i := 32) (v := ?_) (by simp only [List.getElem?_toArray, List.getElem?_cons_succ, List.getElem?_cons_zero]; rfl) (by kernel_rfl) (by kernel_rfl) (by kernel_rfl) (by intro _ _ _ h; exact h) (Or.inl ⟨by rfl, ?_⟩) (by assumption) ?_
          rotate_left
          · intro w hSw; (try dsimp only at hSw); go_simp; try with_reducible rfl
          try simp only [Act.put, List.setIfInBounds_toArray, List.set_cons_zero, List.set_cons_succ]
          refine wpAnyH_done (by kernel_rfl) ?_ _
          obtain ⟨ws, hws⟩ : ∃ W, W = wr.drew := ⟨_, rfl⟩
          have HBs : Hid (Below w1.heap.size w1 ws) := Lib.hid (by rw [hws]; exact HRr.out.drew)
          have HK : Hid (1 + comeR takeR l = k) := Lib.hid (comeR_is takeR l k hk1 (by rw [HN.out]; exact hk) (fun j h1 hj => by rw [← HHx.out]; exact HAll.out j h1 hj) (fun h => by rw [HN.out] at h; omega))
          have C36 : Hid (∀ W, Below w1.heap.size w1 W → Calls Try.prog 36 #[.agg #[.slice (some ⟨b, off, none⟩) k c, .int .i64 now, .int .i64 delta, .int .i64 next], .int .i64 k] W (NewQ1 W xt xd next (l.drop k))) := Lib.hid (fun W hW => by
            have h36 := first36 W (some ⟨b, off, none⟩) k c now delta next l HN.out (HLA.out.below hW (Nat.le_refl _)) H9.out HC.out (k - 1) (by omega)
            have hxk : (l.getD (k - 1) default).t = xt ∧ (l.getD (k - 1) default).d = xd := by
              by_cases e : k = 1
              · rw [e, ← HHx.out]; exact ⟨rfl, rfl⟩
              · have := HAll.out (k - 1) (by omega) (by omega)
                unfold takeR at this
                simp only [Bool.and_eq_true, beq_iff_eq] at this
                exact ⟨this.1.symm, this.2.symm⟩
            rw [hxk.1, hxk.2, show k - 1 + 1 = k by omega] at h36
            exact h36)
          have HSS : Hid (∀ W, Below ws.heap.size ws W → W.cell? ⟨H, 0, none⟩ = some (.slice (some ⟨b, off, none⟩) k c) ∧ W.cell? ⟨H, 1, none⟩ = some (.int .i64 now) ∧ W.cell? ⟨H, 2, none⟩ = some (.int .i64 delta) ∧ W.cell? ⟨H, 3, none⟩ = some (.int .i64 next)) := Lib.hid (fun W hW => (HSt.out W (HBs.out.trans (hW.mono HBs.out.size))).1)
          have HLW : Hid (∀ W, Below ws.heap.size ws W → LAt W (some ⟨b, off, none⟩) l) := Lib.hid (fun W hW => HLA.out.below (HBs.out.trans (hW.mono HBs.out.size)) (Nat.le_refl _))
          obtain ⟨nq, hnq⟩ : ∃ q, q = (l.drop k).length := ⟨_, rfl⟩
          have HNq := Lib.hid hnq
          have hhn1 : H ≠ H + 1 := by omega
          have hkc : k ≤ c := Nat.le_trans hk HC.out
          clear k0
          go_wp2_with fail
          (try rw [← hws])
          have HWs := Lib.hid hws
          clear hws hnq
          refine wp_region_K (S := fun w' => w'.cell? ⟨H, 0, none⟩ = some (.slice (some ⟨b, off, none⟩) k c) ∧ w'.cell? ⟨H, 1, none⟩ = some (.int .i64 now) ∧ w'.cell? ⟨H, 2, none⟩ = some (.int .i64 delta) ∧ w'.cell? ⟨H, 3, none⟩ = some (.int .i64 next)) 11 (by kernel_rfl) (HSS.out _ (Below.refl _ _).drew) (fun hHeld => ?_)
          refine wpAnyK_take (i := 0) (v := ?_) (by simp only [List.getElem?_toArray, List.getElem?_cons_succ, List.getElem?_cons_zero]; rfl) (by kernel_rfl) (by kernel_rfl) (by kernel_rfl) (by kernel_rfl) (by intro _ _ _ h; exact h) (Or.inl ⟨by rfl, ?_⟩) (by assumption) ?_
          rotate_left
          · intro w hSw; (try dsimp only at hSw); go_simp; try with_reducible rfl
          try simp only [Act.put, List.setIfInBounds_toArray, List.set_cons_zero, List.set_cons_succ]
          refine wpAnyK_take (i := 1) (v := ?_) (by simp only [List.getElem?_toArray, List.getElem?_cons_succ, List.getElem?_cons_zero]; rfl) (by kernel_rfl) (by kernel_rfl) (by kernel_rfl) (by kernel_rfl) (by intro _ _ _ h; exact h) (Or.inl ⟨by rfl, ?_⟩) (by assumption) ?_
          rotate_left
          · intro w hSw; (try dsimp only at hSw); go_simp; try with_reducible rfl
          try simp only [Act.put, List.setIfInBounds_toArray, List.set_cons_zero, List.set_cons_succ]
          refine wpAnyK_take (i := 4) (v := ?_) (by simp only [List.getElem?_toArray, List.getElem?_cons_succ, List.getElem?_cons_zero]; rfl) (by kernel_rfl) (by kernel_rfl) (by kernel_rfl) (by kernel_rfl) (by intro _ _ _ h; exact h) (Or.inl ⟨by rfl, ?_⟩) (by assumption) ?_
          rotate_left
          · intro w hSw; (try dsimp only at hSw); go_simp; try with_reducible rfl
          try simp only [Act.put, List.setIfInBounds_toArray, List.set_cons_zero, List.set_cons_succ]
          refine wpAnyK_take (i := 5) (v := ?_) (by simp only [List.getElem?_toArray, List.getElem?_cons_succ, List.getElem?_cons_zero]; rfl) (by kernel_rfl) (by kernel_rfl) (by kernel_rfl) (by kernel_rfl) (by intro _ _ _ h; exact h) (Or.inl ⟨by rfl, ?_⟩) (by assumption) ?_
          rotate_left
          · intro w hSw; (try dsimp only at hSw); go_simp; try with_reducible rfl
          try simp only [Act.put, List.setIfInBounds_toArray, List.set_cons_zero, List.set_cons_succ]
          refine wpAnyK_take (i := 6) (v := ?_) (by simp only [List.getElem?_toArray, List.getElem?_cons_succ, List.getElem?_cons_zero]; rfl) (by kernel_rfl) (by kernel_rfl) (by kernel_rfl) (by kernel_rfl) (by intro _ _ _ h; exact h) (Or.inl ⟨by rfl, ?_⟩) (by assumption) ?_
          rotate_left
          · intro w hSw; (try dsimp only at hSw); go_simp; try with_reducible rfl
          try simp only [Act.put, List.setIfInBounds_toArray, List.set_cons_zero, List.set_cons_succ]
          refine wpAnyK_take (i := 7) (v := ?_) (by simp only [List.getElem?_toArray, List.getElem?_cons_succ, List.getElem?_cons_zero]; rfl) (by kernel_rfl) (by kernel_rfl) (by kernel_rfl) (by kernel_rfl) (by intro _ _ _ h; exact h) (Or.inl ⟨by rfl, ?_⟩) (by assumption) ?_
          rotate_left
          · intro w hSw; (try dsimp only at hSw); go_simp; first | with_reducible rfl | rw [if_pos (by omega)]
          try simp only [Act.put, List.setIfInBounds_toArray, List.set_cons_zero, List.set_cons_succ]
          refine wpAnyK_ready (rs := [2, 3]) (by kernel_rfl) (by simp) ?_
          refine AllReadyK.cons (o := _) (by simp only [List.getElem?_toArray, List.getElem?_cons_succ, List.getElem?_cons_zero]; rfl) (fun K hK => ?_) (AllReadyK.cons (o := _) (by simp only [List.getElem?_toArray, List.getElem?_cons_succ, List.getElem?_cons_zero]; rfl) (fun K hK => ?_) AllReadyK.nil)
          · go_simp
            go_at_call 36
            refine Calls.mono (C36.out ws.drew (HBs.out.trans ((Below.refl _ _).drew.mono HBs.out.size))) ?_
            rintro e w5 ⟨aq, cq, rfl, hc', hfa, hla, hb5⟩
            have HB5 : Hid (Below ws.heap.size ws w5) := Lib.hid ((Below.refl _ _).drew.trans (hb5.mono (show ws.heap.size ≤ ws.drew.heap.size by simp)))
            have HR := Lib.hid (And.intro hc' (And.intro hfa hla))
            have HW5 := Lib.hid hb5
            rw [← HNq.out]
            clear hc' hfa hla hb5
            go_simp
            refine hK.out _ _ (fun _ => by exact HSS.out _ HB5.out) (fun hH => ?_)
            have hHeld := hH (by decide)
            clear hK K hH
            try simp only [Act.put, List.setIfInBounds_toArray, List.set_cons_zero, List.set_cons_succ]
            refine wpAnyK_ready (rs := [3]) (by kernel_rfl) (by simp) ?_
            refine AllReadyK.cons (o := _) (by simp only [List.getElem?_toArray, List.getElem?_cons_succ, List.getElem?_cons_zero]; rfl) (fun K hK => ?_) AllReadyK.nil
            go_simp

            refine hK.out _ _ (fun _ => by exact HSS.out _ (HB5.out.alloc HB5.out.size _)) (fun hH => ?_)
            have hHeld := hH (by decide)
            clear hK K hH
            try simp only [Act.put, List.setIfInBounds_toArray, List.set_cons_zero, List.set_cons_succ]
            refine wpAnyK_ready (rs := [8]) (by kernel_rfl) (by simp) ?_
            refine AllReadyK.cons (o := _) (by simp only [List.getElem?_toArray, List.getElem?_cons_succ, List.getElem?_cons_zero]; rfl) (fun K hK => ?_) AllReadyK.nil
            rw [if_pos (by rfl)]
            have hlp : LAt (w5.alloc (Obj.cells #[] 35)) (some ⟨b, off, none⟩) l := HLW.out _ (HB5.out.alloc HB5.out.size _)
            have hrow : (w5.alloc (Obj.cells #[] 35)).ownsRow ws.heap.size 35 5 (.slice (some ⟨w5.heap.size, 0, none⟩) 0 0) 0 [] := World.ownsRow_lit (base := ws.heap.size) (size := 5) w5 #[] 0 HB5.out.size (Nat.zero_le _) rfl
            refine wp_append5 (w := (w5.alloc (Obj.cells #[] 35))) (.tmp 54) (.tmp 58) rfl ws.heap.size (.slice (some ⟨w5.heap.size, 0, none⟩) 0 0) 0 [] rfl hrow _ k c ((l.take k).flatMap EvV.cells) rfl (by rw [flat5_length, List.length_take, HN.out, Nat.min_eq_left hk, Nat.mul_comm]) (hlp.front_none k (by rw [HN.out]; exact hk)) (hlp.front k (by rw [HN.out]; exact hk)) (flat5_one _) (by have := H9.out; omega) (Below.size (HB5.out.alloc HB5.out.size _)) ?_
            clear hlp
            intro va wa ho hg
            have HOa : Hid (wa.ownsRow ws.heap.size 35 5 va k ((l.take k).flatMap EvV.cells)) := Lib.hid (by simpa using ho)
            have HBa : Hid (Below ws.heap.size ws wa) := Lib.hid ((HB5.out.alloc HB5.out.size _).grown hg (Below.size (HB5.out.alloc HB5.out.size _)) (fun k e => (hrow.lt k e).1))
            have HLq : Hid (LAt wa aq (l.drop k)) := Lib.hid ((HR.out.2.2).below (((Below.refl _ _).alloc (Nat.le_refl _) _).grown hg (by simp) (fun k e => by simp [Value.ownBlock] at e; omega)) (Nat.le_refl _))
            obtain ⟨ob, cb, rfl, hcb⟩ := own_slice HOa.out
            have HCb := Lib.hid hcb
            have HBW : Hid (Below w1.heap.size w1 wa) := Lib.hid (HBs.out.trans (HBa.out.mono HBs.out.size))
            clear ho hg hrow hcb
            obtain ⟨⟨k0, k1, k2, k3⟩, z0, z1, z2, z3, zf⟩ := HSt.out wa HBW.out
            have f0 := zf 0
            have f1 := zf 1
            have f2 := zf 2
            have f3 := zf 3

            refine hK.out _ _ (fun _ => by exact HSS.out _ HBa.out) (fun hH => ?_)
            have hHeld := hH (by decide)
            clear hK K hH
            try simp only [Act.put, List.setIfInBounds_toArray, List.set_cons_zero, List.set_cons_succ]
            refine wpAnyK_ready (rs := [9]) (by kernel_rfl) (by simp) ?_
            refine AllReadyK.cons (o := _) (by simp only [List.getElem?_toArray, List.getElem?_cons_succ, List.getElem?_cons_zero]; rfl) (fun K hK => ?_) AllReadyK.nil
            go_simp

            refine hK.out _ _ (fun _ => by exact ⟨far (far (far (far k0 hhn1) hhn1) hhn1) hhn1, far (far (far (far k1 hhn1) hhn1) hhn1) hhn1, far (far (far (far k2 hhn1) hhn1) hhn1) hhn1, far (far (far (far k3 hhn1) hhn1) hhn1) hhn1⟩) (fun hH => ?_)
            have hHeld := hH (by decide)
            clear hK K hH
            try simp only [Act.put, List.setIfInBounds_toArray, List.set_cons_zero, List.set_cons_succ]
            refine wpAnyK_take (i := 10) (v := ?_) (by simp only [List.getElem?_toArray, List.getElem?_cons_succ, List.getElem?_cons_zero]; rfl) (by kernel_rfl) (by kernel_rfl) (by kernel_rfl) (by kernel_rfl) (by intro _ _ _ h; exact h) (Or.inl ⟨by rfl, ?_⟩) (by assumption) ?_
            rotate_left
            · intro w hSw; (try dsimp only at hSw); go_simp; try with_reducible rfl
            try simp only [Act.put, List.setIfInBounds_toArray, List.set_cons_zero, List.set_cons_succ]
            refine wpAnyK_ready (rs := [11]) (by kernel_rfl) (by simp) ?_
            refine AllReadyK.cons (o := _) (by simp only [List.getElem?_toArray, List.getElem?_cons_succ, List.getElem?_cons_zero]; rfl) (fun K hK => ?_) AllReadyK.nil
            go_simp

            refine hK.out _ _ (fun h => absurd rfl h) (fun _ => ?_)
            clear hK K
            try simp only [Act.put, List.setIfInBounds_toArray, List.set_cons_zero, List.set_cons_succ]
            refine wpAnyK_done (by kernel_rfl) ?_ _
            clear k0 k1 k2 k3
            go_wp2_with fail
            refine bodyPost_ret (results_take21 (g := .slice ob k cb) (b := H + 1) rfl rfl rfl (set_keep (set_keep (set_keep (cell?_set_own z0) (by decide)) (by decide)) (by decide)) (set_keep (set_keep (cell?_set_own (set_keep z1 (by decide))) (by decide)) (by decide)) (set_keep (cell?_set_own (set_keep (set_keep z2 (by decide)) (by decide))) (by decide)) (cell?_set_own (set_keep (set_keep (set_keep z3 (by decide)) (by decide)) (by decide)))) rfl ?_
            unfold Came
            rw [HCo.out, if_pos rfl, HK.out, ← HHx.out]
            obtain ⟨hc', hfa, hla⟩ := HR.out
            have hlk : (l.take k).length = k := by rw [List.length_take, HN.out, Nat.min_eq_left hk]
            have hsz : H + 1 < ws.heap.size := by have := HBs.out.size; have := HS1.out; omega
            have hw : w.heap.size ≤ ws.heap.size := Nat.le_trans HX1.out.size HBs.out.size
            have hfq : ∀ p, aq = some p → ws.heap.size ≤ p.block := fun p hp => Nat.le_trans (by simp) (hfa p hp)
            have hlb := own_lat (c := cb) HOa.out hlk (fun e he => HLA.out.each e (List.mem_of_mem_take he))
            refine ⟨aq, cq, ob, cb, by rw [hlk, HNq.out], hc', by rw [hlk]; exact HCb.out, fun p hp => Nat.le_trans hw (hfq p hp), fun p hp => Nat.le_trans hw (own_fresh HOa.out p hp), ?_, ?_, ?_⟩
            · exact HLq.out.put4 hfq hsz
            · exact hlb.put4 (own_fresh HOa.out) hsz
            · exact put4_below (HX1.out.trans ((HBs.out.trans (HBa.out.mono HBs.out.size)).mono HX1.out.size)) (by have := HHH.out; omega)
          · go_simp

            refine hK.out _ _ (fun _ => by exact HSS.out _ ((Below.refl _ _).drew.alloc (Nat.le_refl _) _)) (fun hH => ?_)
            have hHeld := hH (by decide)
            clear hK K hH
            try simp only [Act.put, List.setIfInBounds_toArray, List.set_cons_zero, List.set_cons_succ]
            refine wpAnyK_ready (rs := [2]) (by kernel_rfl) (by simp) ?_
            refine AllReadyK.cons (o := _) (by simp only [List.getElem?_toArray, List.getElem?_cons_succ, List.getElem?_cons_zero]; rfl) (fun K hK => ?_) AllReadyK.nil
            go_simp
            go_at_call 36
            refine Calls.mono (C36.out (ws.drew.alloc (Obj.cells #[] 35)) (HBs.out.trans (((Below.refl _ _).drew.alloc (Nat.le_refl _) _).mono HBs.out.size))) ?_
            rintro e w5 ⟨aq, cq, rfl, hc', hfa, hla, hb5⟩
            have HB5 : Hid (Below ws.heap.size ws w5) := Lib.hid (((Below.refl _ _).drew.alloc (Nat.le_refl _) _).trans (hb5.mono (show ws.heap.size ≤ (ws.drew.alloc (Obj.cells #[] 35)).heap.size by simp)))
            have HR := Lib.hid (And.intro hc' (And.intro hfa hla))
            have HW5 := Lib.hid hb5
            rw [← HNq.out]
            clear hc' hfa hla hb5
            go_simp
            refine hK.out _ _ (fun _ => by exact HSS.out _ HB5.out) (fun hH => ?_)
            have hHeld := hH (by decide)
            clear hK K hH
            try simp only [Act.put, List.setIfInBounds_toArray, List.set_cons_zero, List.set_cons_succ]
            refine wpAnyK_ready (rs := [8]) (by kernel_rfl) (by simp) ?_
            refine AllReadyK.cons (o := _) (by simp only [List.getElem?_toArray, List.getElem?_cons_succ, List.getElem?_cons_zero]; rfl) (fun K hK => ?_) AllReadyK.nil
            rw [if_pos (by rfl)]
            have hlp : LAt w5 (some ⟨b, off, none⟩) l := HLW.out _ HB5.out
            have hrow : w5.ownsRow ws.heap.size 35 5 (.slice (some ⟨ws.heap.size, 0, none⟩) 0 0) 0 [] := own_below (World.ownsRow_lit (base := ws.heap.size) (size := 5) ws.drew #[] 0 (Nat.le_refl _) (Nat.zero_le _) rfl) HW5.out
            refine wp_append5 (w := w5) (.tmp 54) (.tmp 58) rfl ws.heap.size (.slice (some ⟨ws.heap.size, 0, none⟩) 0 0) 0 [] rfl hrow _ k c ((l.take k).flatMap EvV.cells) rfl (by rw [flat5_length, List.length_take, HN.out, Nat.min_eq_left hk, Nat.mul_comm]) (hlp.front_none k (by rw [HN.out]; exact hk)) (hlp.front k (by rw [HN.out]; exact hk)) (flat5_one _) (by have := H9.out; omega) (Below.size HB5.out) ?_
            clear hlp
            intro va wa ho hg
            have HOa : Hid (wa.ownsRow ws.heap.size 35 5 va k ((l.take k).flatMap EvV.cells)) := Lib.hid (by simpa using ho)
            have HBa : Hid (Below ws.heap.size ws wa) := Lib.hid (HB5.out.grown hg (Below.size HB5.out) (fun k e => (hrow.lt k e).1))
            have HLq : Hid (LAt wa aq (l.drop k)) := Lib.hid ((HR.out.2.2).grown HR.out.2.1 hg (fun k e => by simp [Value.ownBlock] at e ⊢; omega))
            obtain ⟨ob, cb, rfl, hcb⟩ := own_slice HOa.out
            have HCb := Lib.hid hcb
            have HBW : Hid (Below w1.heap.size w1 wa) := Lib.hid (HBs.out.trans (HBa.out.mono HBs.out.size))
            clear ho hg hrow hcb
            obtain ⟨⟨k0, k1, k2, k3⟩, z0, z1, z2, z3, zf⟩ := HSt.out wa HBW.out
            have f0 := zf 0
            have f1 := zf 1
            have f2 := zf 2
            have f3 := zf 3

            refine hK.out _ _ (fun _ => by exact HSS.out _ HBa.out) (fun hH => ?_)
            have hHeld := hH (by decide)
            clear hK K hH
            try simp only [Act.put, List.setIfInBounds_toArray, List.set_cons_zero, List.set_cons_succ]
            refine wpAnyK_ready (rs := [9]) (by kernel_rfl) (by simp) ?_
            refine AllReadyK.cons (o := _) (by simp only [List.getElem?_toArray, List.getElem?_cons_succ, List.getElem?_cons_zero]; rfl) (fun K hK => ?_) AllReadyK.nil
            go_simp

            refine hK.out _ _ (fun _ => by exact ⟨far (far (far (far k0 hhn1) hhn1) hhn1) hhn1, far (far (far (far k1 hhn1) hhn1) hhn1) hhn1, far (far (far (far k2 hhn1) hhn1) hhn1) hhn1, far (far (far (far k3 hhn1) hhn1) hhn1) hhn1⟩) (fun hH => ?_)
            have hHeld := hH (by decide)
            clear hK K hH
            try simp only [Act.put, List.setIfInBounds_toArray, List.set_cons_zero, List.set_cons_succ]
            refine wpAnyK_take (i := 10) (v := ?_) (by simp only [List.getElem?_toArray, List.getElem?_cons_succ, List.getElem?_cons_zero]; rfl) (by kernel_rfl) (by kernel_rfl) (by kernel_rfl) (by kernel_rfl) (by intro _ _ _ h; exact h) (Or.inl ⟨by rfl, ?_⟩) (by assumption) ?_
            rotate_left
            · intro w hSw; (try dsimp only at hSw); go_simp; try with_reducible rfl
            try simp only [Act.put, List.setIfInBounds_toArray, List.set_cons_zero, List.set_cons_succ]
            refine wpAnyK_ready (rs := [11]) (by kernel_rfl) (by simp) ?_
            refine AllReadyK.cons (o := _) (by simp only [List.getElem?_toArray, List.getElem?_cons_succ, List.getElem?_cons_zero]; rfl) (fun K hK => ?_) AllReadyK.nil
            go_simp

            refine hK.out _ _ (fun h => absurd rfl h) (fun _ => ?_)
            clear hK K
            try simp only [Act.put, List.setIfInBounds_toArray, List.set_cons_zero, List.set_cons_succ]
            refine wpAnyK_done (by kernel_rfl) ?_ _
            clear k0 k1 k2 k3
            go_wp2_with fail
            refine bodyPost_ret (results_take21 (g := .slice ob k cb) (b := H + 1) rfl rfl rfl (set_keep (set_keep (set_keep (cell?_set_own z0) (by decide)) (by decide)) (by decide)) (set_keep (set_keep (cell?_set_own (set_keep z1 (by decide))) (by decide)) (by decide)) (set_keep (cell?_set_own (set_keep (set_keep z2 (by decide)) (by decide))) (by decide)) (cell?_set_own (set_keep (set_keep (set_keep z3 (by decide)) (by decide)) (by decide)))) rfl ?_
            unfold Came
            rw [HCo.out, if_pos rfl, HK.out, ← HHx.out]
            obtain ⟨hc', hfa, hla⟩ := HR.out
            have hlk : (l.take k).length = k := by rw [List.length_take, HN.out, Nat.min_eq_left hk]
            have hsz : H + 1 < ws.heap.size := by have := HBs.out.size; have := HS1.out; omega
            have hw : w.heap.size ≤ ws.heap.size := Nat.le_trans HX1.out.size HBs.out.size
            have hfq : ∀ p, aq = some p → ws.heap.size ≤ p.block := fun p hp => Nat.le_trans (by simp) (hfa p hp)
            have hlb := own_lat (c := cb) HOa.out hlk (fun e he => HLA.out.each e (List.mem_of_mem_take he))
            refine ⟨aq, cq, ob, cb, by rw [hlk, HNq.out], hc', by rw [hlk]; exact HCb.out, fun p hp => Nat.le_trans hw (hfq p hp), fun p hp => Nat.le_trans hw (own_fresh HOa.out p hp), ?_, ?_, ?_⟩
            · exact HLq.out.put4 hfq hsz
            · exact hlb.put4 (own_fresh HOa.out) hsz
            · exact put4_below (HX1.out.trans ((HBs.out.trans (HBa.out.mono HBs.out.size)).mono HX1.out.size)) (by have := HHH.out; omega)
  · go_wp2_with fail
    rw [set_same z0, set_same z1, set_same z2, set_same z3]
    refine bodyPost_ret (results_take21 (b := H + 1) (g := .slice none 0 0) rfl rfl rfl z0 z1 z2 z3) rfl (came_nil (comeE_bad HE.out) (by decide) ?_)
    exact HX1.out.trans (HB2.out.mono HX1.out.size)
end Go.Proofs.Ytbhbebidkeejbaa
