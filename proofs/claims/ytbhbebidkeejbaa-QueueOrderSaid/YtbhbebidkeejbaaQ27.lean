/- A queue into which rows are pushed (filled). -/
import Derived.Deep.CutRange
import Derived.Test.YtbhbebidkeejbaaP3
import Derived.Test.YtbhbebidkeejbaaOpen
namespace Go.Proofs.Ytbhbebidkeejbaa
open Go.RowKit Go.Shelf
set_option linter.unusedVariables false
set_option linter.unusedSimpArgs false

theorem fz_topF (w : World) (cs : Array Value) (t : TypeId) (i : Nat) : (w.alloc (.cells cs t)).frozen? ⟨w.heap.size, i, none⟩ = false := by simp
theorem results_filled {tmps : Array Value} {w : World} {b : Nat} {s : Value} {x y z : Int} (h2 : tmps[2]?.getD undef = .pointer (some ⟨b, 0, none⟩))
    (h0 : w.cell? ⟨b, 0, none⟩ = some s) (h1 : w.cell? ⟨b, 1, none⟩ = some (.int .i64 x)) (h4 : w.cell? ⟨b, 2, none⟩ = some (.int .i64 y)) (h5 : w.cell? ⟨b, 3, none⟩ = some (.int .i64 z)) :
    (results Try.f23 tmps).run Try.prog w = .ok (.agg #[s, .int .i64 x, .int .i64 y, .int .i64 z]) w := by
  simp [results, go_sem, h2, h0, h1, h4, h5]
/-- The state behind k rows: a queue's box. -/
def FSt (w wr : World) (H : Nat) (rs : List RowV) (k : Nat) : Prop := ∃ (a : Option Addr) (n c : Nat), n = (fl rs k).2 ∧ (∀ p, a = some p → w.heap.size ≤ p.block) ∧ QSt w wr H k a n c 0 0 (n : Int) (fl rs k).1
set_option maxRecDepth 100000 in
set_option maxHeartbeats 8000000 in
theorem filled23 (w : World) (b2 : Option Addr) (c2 : Nat) (rs : List RowV) (hR : RowsAt w b2 rs) (m : Nat) (hm : rs.length = m) (h60 : m ≤ 60) :
    Calls Try.prog 23 #[.slice b2 m c2] w fun e w' => ∃ a c, e = .returned (.agg #[.slice a (fl rs m).2 c, .int .i64 0, .int .i64 0, .int .i64 ((fl rs m).2 : Nat)]) ∧ (fl rs m).2 ≤ c ∧ LAt w' a (fl rs m).1 ∧ Below w.heap.size w w' := by
  have HR := Lib.hid hR
  have HM := Lib.hid hm
  have H60 := Lib.hid h60
  obtain ⟨B, hB⟩ : ∃ h, h = w.heap.size := ⟨_, rfl⟩
  obtain ⟨H, hH⟩ : ∃ h, h = B + 1 := ⟨_, rfl⟩
  obtain ⟨w0, hw0⟩ : ∃ W, W = w.alloc (Obj.cells #[Value.slice none 0 0, Value.int IntKind.i64 0, Value.int IntKind.i64 0, Value.int IntKind.i64 0] 24) := ⟨_, rfl⟩
  obtain ⟨w1, hw1⟩ : ∃ W, W = (w.alloc (Obj.cells #[Value.slice none 0 0, Value.int IntKind.i64 0, Value.int IntKind.i64 0, Value.int IntKind.i64 0] 24)).alloc (Obj.cells #[Value.slice none 0 0, Value.int IntKind.i64 0, Value.int IntKind.i64 0, Value.int IntKind.i64 0] 24) := ⟨_, rfl⟩
  have hs0 : w0.heap.size = H := by rw [hw0, hH, hB]; simp
  have h01 : w1 = w0.alloc (Obj.cells #[Value.slice none 0 0, Value.int IntKind.i64 0, Value.int IntKind.i64 0, Value.int IntKind.i64 0] 24) := by rw [hw1, hw0]
  have hx0 : Below w.heap.size w w0 := by rw [hw0]; exact (Below.refl _ _).alloc (Nat.le_refl _) _
  have hr0 := hR.below hx0 (Nat.le_refl _)
  have hz := q_cells w none 0 0 0 0 0
  rw [← hw0, ← hB] at hz
  have hzf : ∀ i, w0.frozen? ⟨B, i, none⟩ = false := by intro i; rw [hw0, hB]; exact fz_topF _ _ _ _
  have HS1 : Hid (FSt w0 w1 H rs 0) := Lib.hid (by
    have hq := q_cells w0 none 0 0 0 0 0
    rw [← h01, hs0] at hq
    refine ⟨none, 0, 0, rfl, fun p hp => (by cases hp), hq.1, hq.2.1, hq.2.2.1, hq.2.2.2, ?_, rfl, ⟨.inl rfl, fun e he => (by cases he)⟩, fun _ p hp => (by cases hp), Nat.le_refl _, Nat.le_refl _, fl_ok rs 0, ⟨by decide, by decide⟩, ?_⟩
    · intro i; rw [h01, ← hs0]; exact fz_topF _ _ _ _
    · rw [h01]; exact (Below.refl _ _).alloc (Nat.le_refl _) _)
  have HX0 := Lib.hid hx0
  have HR0 := Lib.hid hr0
  have HZ := Lib.hid (And.intro hz hzf)
  have HS0 := Lib.hid hs0
  have HW1 := Lib.hid hw1
  have HBe := Lib.hid hB
  have HHe := Lib.hid hH
  have HHB : Hid (H ≠ B ∧ B < H) := Lib.hid (by omega)
  have h60' := h60
  clear hR hm hB hH hw0 hw1 hs0 h01 hx0 hr0 hz hzf
  go_enter Try.func23, Try.ntmps23
  go_wp2_with fail
  rw [← HW1.out]
  (try rw [← HBe.out])
  (try rw [← HHe.out])
  go_loopg [4] m (fun g iv wr => ∃ k : Nat, g + k = m ∧ iv = .int .i64 k ∧ Hid (FSt w0 wr H rs k))
  case atStart => exact ⟨0, rfl, rfl, HS1⟩
  case round =>
    obtain ⟨k, hgk, rfl, hh⟩ := hrel
    obtain ⟨aq, nq, cq, hnq, hfr, HQ0⟩ := hh.out
    have HFr := Lib.hid hfr
    have HQ := Lib.hid HQ0
    have HNq := Lib.hid hnq
    clear HS1 hh hnq hfr HQ0
    by_cases hlt : k < m
    · obtain ⟨rb, ro, ha2, hrb, r0, r1, r2, r3⟩ := (HR0.out.below HQ.out.bel (Nat.le_refl _)).row k (by rw [HM.out]; exact hlt)
      have hrr := HR0.out.ok k (by rw [HM.out]; exact hlt)
      obtain ⟨rw', hrw⟩ : ∃ r, r = rs.getD k default := ⟨_, rfl⟩
      have hfp := fl_push rs k (by omega)
      have hfy := fl_yes (rs := rs) (k := k)
      have hfn := fl_no (rs := rs) (k := k)
      unfold evOf at hfy
      rw [← hrw] at r0 r1 r2 r3 hrr hfp hfy hfn
      rw [← HNq.out] at hfp hfy
      obtain ⟨rt, rd, rg, rv⟩ := rw'
      obtain ⟨it, id', ig, iv'⟩ := hrr
      dsimp only at r0 r1 r2 r3 it id' ig iv' hfp hfy
      subst ha2
      have HRow := Lib.hid (And.intro it (And.intro id' (And.intro ig iv')))
      have k0 := HQ.out.c0
      have k1 := HQ.out.c1
      have k2 := HQ.out.c2
      have k3 := HQ.out.c3
      obtain ⟨xq, hxq⟩ : ∃ x : Int, x = (nq : Int) := ⟨_, rfl⟩
      rw [← hxq] at k3 hfp hfy
      obtain ⟨lq, hlq⟩ : ∃ x, x = (fl rs k).1 := ⟨_, rfl⟩
      rw [← hlq] at hfp hfy
      have HQ : Hid (QSt w0 wr H k aq nq cq 0 0 xq lq) := Lib.hid (by rw [hxq, hlq]; exact HQ.out)
      obtain ⟨E, x, y, z, l1, hE, hle, hgo, hpo⟩ := pushed_two (now := 0) (delta := 0) (next := xq) (l := lq) (t := rt) (d := rd) (sig := rg) (v := rv) HQ.out.nx
      obtain ⟨n1, hn1⟩ : ∃ k, l1.length = k := ⟨_, rfl⟩
      rw [← hE] at hfp
      have C11 : Hid (∀ W, Below wr.heap.size wr W → Calls Try.prog 11 #[.agg #[.slice aq nq cq, .int .i64 0, .int .i64 0, .int .i64 xq], .int .i64 rt, .int .i64 rd, .int .i64 rg, .int .u64 rv] W fun e w' => ∃ a c, e = .returned (.tuple #[.agg #[.slice a n1 c, .int .i64 x, .int .i64 y, .int .i64 z], .int .i64 E]) ∧ n1 ≤ c ∧ (∀ p, a = some p → W.heap.size ≤ p.block) ∧ LAt w' a l1 ∧ Below W.heap.size W w') := Lib.hid (fun W hW =>
        Calls.mono (push11 W aq nq cq 0 0 xq lq HQ.out.len (HQ.out.lat.below hW (Nat.le_refl _)) (by have := HQ.out.few; omega) HQ.out.nx rt rd rg rv HRow.out.1 HRow.out.2.1 HRow.out.2.2.1 HRow.out.2.2.2) (fun e w' h => by
          obtain ⟨a', c', he, hc, hf, hl, hb⟩ := hpo _ _ _ h
          rw [← hn1]; exact ⟨a', c', he, hc, hf, hl, hb⟩))
      have HGo : Hid (E = 0 → n1 = nq + 1 ∧ x = 0 ∧ y = 0 ∧ z = ((nq + 1 : Nat) : Int) ∧ fl rs (k + 1) = (l1, nq + 1) ∧ QOk x y z l1 ∧ I64 z) := Lib.hid (fun h => by
        obtain ⟨h0, h1, h2, h3, h4, h5, h6⟩ := hgo h
        refine ⟨?_, h1, h2, ?_, ?_, h5, h6⟩
        · rw [← hn1, h4, pushL_length, HQ.out.len]
        · rw [h3, hxq]; omega
        · rw [hfy (hfp.1 h), h4])
      have HNo : Hid (¬ E = 0 → fl rs (k + 1) = fl rs k) := Lib.hid (fun h => hfn (by
        cases ha : accB ⟨rt, rd, rg, rv⟩ with
        | false => rfl
        | true => exact absurd (hfp.2 ha) h))
      have HSS : Hid (∀ W, Below wr.heap.size wr W → W.cell? ⟨H, 0, none⟩ = some (.slice aq nq cq) ∧ W.cell? ⟨H, 1, none⟩ = some (.int .i64 0) ∧ W.cell? ⟨H, 2, none⟩ = some (.int .i64 0) ∧ W.cell? ⟨H, 3, none⟩ = some (.int .i64 xq) ∧ W.cell? ⟨rb, ro + k * 4, none⟩ = some (.int .i64 rt) ∧ W.cell? ⟨rb, ro + k * 4 + 1, none⟩ = some (.int .i64 rd) ∧ W.cell? ⟨rb, ro + k * 4 + 2, none⟩ = some (.int .i64 rg) ∧ W.cell? ⟨rb, ro + k * 4 + 3, none⟩ = some (.int .u64 rv)) := Lib.hid (fun W hW => by
        have cl : ∀ {b j : Nat} {u : Value}, wr.cell? ⟨b, j, none⟩ = some u → W.cell? ⟨b, j, none⟩ = some u := fun h => (hW.cell (p := ⟨_, _, none⟩) (World.block_lt_of_cell? wr _ h)).trans h
        exact ⟨cl k0, cl k1, cl k2, cl k3, cl r0, cl r1, cl r2, cl r3⟩)
      have HN1 := Lib.hid hn1
      have HXq := Lib.hid hxq
      have HLq := Lib.hid hlq
      clear hE hle hgo hpo hn1 hrw it id' ig iv' hrb hfp hfy hfn hxq hlq
      go_wp2_with fail
      go_cut [5, 6] from 8 to 41 (fun p e wx => ∃ (P : Nat) (a1 : Option Addr) (c1 : Nat), p = .pointer (some ⟨P, 0, none⟩) ∧ e = .int .i64 E ∧ Hid (QNew wr wx P a1 n1 c1 x y z l1))
      case first =>
        refine wp_region_held_drew (S := fun w' => w'.cell? ⟨H, 0, none⟩ = some (.slice aq nq cq) ∧ w'.cell? ⟨H, 1, none⟩ = some (.int .i64 0) ∧ w'.cell? ⟨H, 2, none⟩ = some (.int .i64 0) ∧ w'.cell? ⟨H, 3, none⟩ = some (.int .i64 xq) ∧ w'.cell? ⟨rb, ro + k * 4, none⟩ = some (.int .i64 rt) ∧ w'.cell? ⟨rb, ro + k * 4 + 1, none⟩ = some (.int .i64 rd) ∧ w'.cell? ⟨rb, ro + k * 4 + 2, none⟩ = some (.int .i64 rg) ∧ w'.cell? ⟨rb, ro + k * 4 + 3, none⟩ = some (.int .u64 rv)) (by kernel_rfl) (HSS.out _ (Below.refl _ _).drew) (fun hHeld => ?_)
        refine wpAnyH_take (i := 0) (v := ?_) (by simp only [List.getElem?_toArray, List.getElem?_cons_succ, List.getElem?_cons_zero]; rfl) (by kernel_rfl) (by kernel_rfl) (by kernel_rfl) (by intro _ _ _ h; exact h) (Or.inl ⟨by rfl, ?_⟩) (by assumption) ?_
        rotate_left
        · intro w hSw; (try dsimp only at hSw); go_simp; try with_reducible rfl
        try simp only [Act.put, List.setIfInBounds_toArray, List.set_cons_zero, List.set_cons_succ]
        refine wpAnyH_take (i := 1) (v := ?_) (by simp only [List.getElem?_toArray, List.getElem?_cons_succ, List.getElem?_cons_zero]; rfl) (by kernel_rfl) (by kernel_rfl) (by kernel_rfl) (by intro _ _ _ h; exact h) (Or.inl ⟨by rfl, ?_⟩) (by assumption) ?_
        rotate_left
        · intro w hSw; (try dsimp only at hSw); go_simp; try with_reducible rfl
        try simp only [Act.put, List.setIfInBounds_toArray, List.set_cons_zero, List.set_cons_succ]
        refine wpAnyH_take (i := 2) (v := ?_) (by simp only [List.getElem?_toArray, List.getElem?_cons_succ, List.getElem?_cons_zero]; rfl) (by kernel_rfl) (by kernel_rfl) (by kernel_rfl) (by intro _ _ _ h; exact h) (Or.inl ⟨by rfl, ?_⟩) (by assumption) ?_
        rotate_left
        · intro w hSw; (try dsimp only at hSw); go_simp; try with_reducible rfl
        try simp only [Act.put, List.setIfInBounds_toArray, List.set_cons_zero, List.set_cons_succ]
        refine wpAnyH_take (i := 3) (v := ?_) (by simp only [List.getElem?_toArray, List.getElem?_cons_succ, List.getElem?_cons_zero]; rfl) (by kernel_rfl) (by kernel_rfl) (by kernel_rfl) (by intro _ _ _ h; exact h) (Or.inl ⟨by rfl, ?_⟩) (by assumption) ?_
        rotate_left
        · intro w hSw; (try dsimp only at hSw); go_simp; first | with_reducible rfl | rw [if_pos (by omega)]
        try simp only [Act.put, List.setIfInBounds_toArray, List.set_cons_zero, List.set_cons_succ]
        refine wpAnyH_take (i := 4) (v := ?_) (by simp only [List.getElem?_toArray, List.getElem?_cons_succ, List.getElem?_cons_zero]; rfl) (by kernel_rfl) (by kernel_rfl) (by kernel_rfl) (by intro _ _ _ h; exact h) (Or.inl ⟨by rfl, ?_⟩) (by assumption) ?_
        rotate_left
        · intro w hSw; (try dsimp only at hSw); go_simp; try with_reducible rfl
        try simp only [Act.put, List.setIfInBounds_toArray, List.set_cons_zero, List.set_cons_succ]
        refine wpAnyH_take (i := 5) (v := ?_) (by simp only [List.getElem?_toArray, List.getElem?_cons_succ, List.getElem?_cons_zero]; rfl) (by kernel_rfl) (by kernel_rfl) (by kernel_rfl) (by intro _ _ _ h; exact h) (Or.inl ⟨by rfl, ?_⟩) (by assumption) ?_
        rotate_left
        · intro w hSw; (try dsimp only at hSw); go_simp; try with_reducible rfl
        try simp only [Act.put, List.setIfInBounds_toArray, List.set_cons_zero, List.set_cons_succ]
        refine wpAnyH_take (i := 6) (v := ?_) (by simp only [List.getElem?_toArray, List.getElem?_cons_succ, List.getElem?_cons_zero]; rfl) (by kernel_rfl) (by kernel_rfl) (by kernel_rfl) (by intro _ _ _ h; exact h) (Or.inl ⟨by rfl, ?_⟩) (by assumption) ?_
        rotate_left
        · intro w hSw; (try dsimp only at hSw); go_simp; try with_reducible rfl
        try simp only [Act.put, List.setIfInBounds_toArray, List.set_cons_zero, List.set_cons_succ]
        refine wpAnyH_take (i := 7) (v := ?_) (by simp only [List.getElem?_toArray, List.getElem?_cons_succ, List.getElem?_cons_zero]; rfl) (by kernel_rfl) (by kernel_rfl) (by kernel_rfl) (by intro _ _ _ h; exact h) (Or.inl ⟨by rfl, ?_⟩) (by assumption) ?_
        rotate_left
        · intro w hSw; (try dsimp only at hSw); go_simp; try with_reducible rfl
        try simp only [Act.put, List.setIfInBounds_toArray, List.set_cons_zero, List.set_cons_succ]
        refine wpAnyH_take (i := 8) (v := ?_) (by simp only [List.getElem?_toArray, List.getElem?_cons_succ, List.getElem?_cons_zero]; rfl) (by kernel_rfl) (by kernel_rfl) (by kernel_rfl) (by intro _ _ _ h; exact h) (Or.inl ⟨by rfl, ?_⟩) (by assumption) ?_
        rotate_left
        · intro w hSw; (try dsimp only at hSw); go_simp; first | with_reducible rfl | rw [if_pos (by omega)]
        try simp only [Act.put, List.setIfInBounds_toArray, List.set_cons_zero, List.set_cons_succ]
        refine wpAnyH_take (i := 9) (v := ?_) (by simp only [List.getElem?_toArray, List.getElem?_cons_succ, List.getElem?_cons_zero]; rfl) (by kernel_rfl) (by kernel_rfl) (by kernel_rfl) (by intro _ _ _ h; exact h) (Or.inl ⟨by rfl, ?_⟩) (by assumption) ?_
        rotate_left
        · intro w hSw; (try dsimp only at hSw); go_simp; try with_reducible rfl
        try simp only [Act.put, List.setIfInBounds_toArray, List.set_cons_zero, List.set_cons_succ]
        refine wpAnyH_take (i := 10) (v := ?_) (by simp only [List.getElem?_toArray, List.getElem?_cons_succ, List.getElem?_cons_zero]; rfl) (by kernel_rfl) (by kernel_rfl) (by kernel_rfl) (by intro _ _ _ h; exact h) (Or.inl ⟨by rfl, ?_⟩) (by assumption) ?_
        rotate_left
        · intro w hSw; (try dsimp only at hSw); go_simp; try with_reducible rfl
        try simp only [Act.put, List.setIfInBounds_toArray, List.set_cons_zero, List.set_cons_succ]
        refine wpAnyH_take (i := 11) (v := ?_) (by simp only [List.getElem?_toArray, List.getElem?_cons_succ, List.getElem?_cons_zero]; rfl) (by kernel_rfl) (by kernel_rfl) (by kernel_rfl) (by intro _ _ _ h; exact h) (Or.inl ⟨by rfl, ?_⟩) (by assumption) ?_
        rotate_left
        · intro w hSw; (try dsimp only at hSw); go_simp; try with_reducible rfl
        try simp only [Act.put, List.setIfInBounds_toArray, List.set_cons_zero, List.set_cons_succ]
        refine wpAnyH_take (i := 12) (v := ?_) (by simp only [List.getElem?_toArray, List.getElem?_cons_succ, List.getElem?_cons_zero]; rfl) (by kernel_rfl) (by kernel_rfl) (by kernel_rfl) (by intro _ _ _ h; exact h) (Or.inl ⟨by rfl, ?_⟩) (by assumption) ?_
        rotate_left
        · intro w hSw; (try dsimp only at hSw); go_simp; try with_reducible rfl
        try simp only [Act.put, List.setIfInBounds_toArray, List.set_cons_zero, List.set_cons_succ]
        refine wpAnyH_take (i := 13) (v := ?_) (by simp only [List.getElem?_toArray, List.getElem?_cons_succ, List.getElem?_cons_zero]; rfl) (by kernel_rfl) (by kernel_rfl) (by kernel_rfl) (by intro _ _ _ h; exact h) (Or.inl ⟨by rfl, ?_⟩) (by assumption) ?_
        rotate_left
        · intro w hSw; (try dsimp only at hSw); go_simp; first | with_reducible rfl | rw [if_pos (by omega)]
        try simp only [Act.put, List.setIfInBounds_toArray, List.set_cons_zero, List.set_cons_succ]
        refine wpAnyH_take (i := 14) (v := ?_) (by simp only [List.getElem?_toArray, List.getElem?_cons_succ, List.getElem?_cons_zero]; rfl) (by kernel_rfl) (by kernel_rfl) (by kernel_rfl) (by intro _ _ _ h; exact h) (Or.inl ⟨by rfl, ?_⟩) (by assumption) ?_
        rotate_left
        · intro w hSw; (try dsimp only at hSw); go_simp; try with_reducible rfl
        try simp only [Act.put, List.setIfInBounds_toArray, List.set_cons_zero, List.set_cons_succ]
        refine wpAnyH_take (i := 15) (v := ?_) (by simp only [List.getElem?_toArray, List.getElem?_cons_succ, List.getElem?_cons_zero]; rfl) (by kernel_rfl) (by kernel_rfl) (by kernel_rfl) (by intro _ _ _ h; exact h) (Or.inl ⟨by rfl, ?_⟩) (by assumption) ?_
        rotate_left
        · intro w hSw; (try dsimp only at hSw); go_simp; try with_reducible rfl
        try simp only [Act.put, List.setIfInBounds_toArray, List.set_cons_zero, List.set_cons_succ]
        refine wpAnyH_take (i := 16) (v := ?_) (by simp only [List.getElem?_toArray, List.getElem?_cons_succ, List.getElem?_cons_zero]; rfl) (by kernel_rfl) (by kernel_rfl) (by kernel_rfl) (by intro _ _ _ h; exact h) (Or.inl ⟨by rfl, ?_⟩) (by assumption) ?_
        rotate_left
        · intro w hSw; (try dsimp only at hSw); go_simp; try with_reducible rfl
        try simp only [Act.put, List.setIfInBounds_toArray, List.set_cons_zero, List.set_cons_succ]
        refine wpAnyH_take (i := 17) (v := ?_) (by simp only [List.getElem?_toArray, List.getElem?_cons_succ, List.getElem?_cons_zero]; rfl) (by kernel_rfl) (by kernel_rfl) (by kernel_rfl) (by intro _ _ _ h; exact h) (Or.inl ⟨by rfl, ?_⟩) (by assumption) ?_
        rotate_left
        · intro w hSw; (try dsimp only at hSw); go_simp; try with_reducible rfl
        try simp only [Act.put, List.setIfInBounds_toArray, List.set_cons_zero, List.set_cons_succ]
        refine wpAnyH_take (i := 18) (v := ?_) (by simp only [List.getElem?_toArray, List.getElem?_cons_succ, List.getElem?_cons_zero]; rfl) (by kernel_rfl) (by kernel_rfl) (by kernel_rfl) (by intro _ _ _ h; exact h) (Or.inl ⟨by rfl, ?_⟩) (by assumption) ?_
        rotate_left
        · intro w hSw; (try dsimp only at hSw); go_simp; first | with_reducible rfl | rw [if_pos (by omega)]
        try simp only [Act.put, List.setIfInBounds_toArray, List.set_cons_zero, List.set_cons_succ]
        refine wpAnyH_take (i := 19) (v := ?_) (by simp only [List.getElem?_toArray, List.getElem?_cons_succ, List.getElem?_cons_zero]; rfl) (by kernel_rfl) (by kernel_rfl) (by kernel_rfl) (by intro _ _ _ h; exact h) (Or.inl ⟨by rfl, ?_⟩) (by assumption) ?_
        rotate_left
        · intro w hSw; (try dsimp only at hSw); go_simp; try with_reducible rfl
        try simp only [Act.put, List.setIfInBounds_toArray, List.set_cons_zero, List.set_cons_succ]
        refine wpAnyH_take (i := 20) (v := ?_) (by simp only [List.getElem?_toArray, List.getElem?_cons_succ, List.getElem?_cons_zero]; rfl) (by kernel_rfl) (by kernel_rfl) (by kernel_rfl) (by intro _ _ _ h; exact h) (Or.inl ⟨by rfl, ?_⟩) (by assumption) ?_
        rotate_left
        · intro w hSw; (try dsimp only at hSw); go_simp; try with_reducible rfl
        try simp only [Act.put, List.setIfInBounds_toArray, List.set_cons_zero, List.set_cons_succ]
        refine wpAnyH_ready (rs := [21, 25]) (by kernel_rfl) (by simp) ?_
        refine AllReadyH.cons (o := _) (by simp only [List.getElem?_toArray, List.getElem?_cons_succ, List.getElem?_cons_zero]; rfl) (fun K hK => ?_) (AllReadyH.cons (o := _) (by simp only [List.getElem?_toArray, List.getElem?_cons_succ, List.getElem?_cons_zero]; rfl) (fun K hK => ?_) AllReadyH.nil)
        · go_simp
          go_at_call 11
          refine Calls.mono (C11.out wr.drew (Below.refl _ _).drew) ?_
          rintro e w5 ⟨a1, c1, rfl, hc1, hf1, hl1, hb5⟩
          have HB5 : Hid (Below wr.heap.size wr w5) := Lib.hid (Below.trans (Below.refl _ _).drew (hb5.mono (show wr.heap.size ≤ (wr.drew).heap.size by simp)))
          have HW5 := Lib.hid hb5
          have HCf := Lib.hid (And.intro hc1 (And.intro hf1 hl1))
          clear hc1 hf1 hl1 hb5
          go_simp
          refine hK.out _ _ (by exact HSS.out _ HB5.out) (fun hHeld => ?_)
          clear hK K
          try simp only [Act.put, List.setIfInBounds_toArray, List.set_cons_zero, List.set_cons_succ]
          refine wpAnyH_take (i := 22) (v := ?_) (by simp only [List.getElem?_toArray, List.getElem?_cons_succ, List.getElem?_cons_zero]; rfl) (by kernel_rfl) (by kernel_rfl) (by kernel_rfl) (by intro _ _ _ h; exact h) (Or.inl ⟨by rfl, ?_⟩) (by assumption) ?_
          rotate_left
          · intro w hSw; (try dsimp only at hSw); go_simp; try with_reducible rfl
          try simp only [Act.put, List.setIfInBounds_toArray, List.set_cons_zero, List.set_cons_succ]
          refine wpAnyH_take (i := 23) (v := ?_) (by simp only [List.getElem?_toArray, List.getElem?_cons_succ, List.getElem?_cons_zero]; rfl) (by kernel_rfl) (by kernel_rfl) (by kernel_rfl) (by intro _ _ _ h; exact h) (Or.inl ⟨by rfl, ?_⟩) (by assumption) ?_
          rotate_left
          · intro w hSw; (try dsimp only at hSw); go_simp; try with_reducible rfl
          try simp only [Act.put, List.setIfInBounds_toArray, List.set_cons_zero, List.set_cons_succ]
          refine wpAnyH_take (i := 24) (v := ?_) (by simp only [List.getElem?_toArray, List.getElem?_cons_succ, List.getElem?_cons_zero]; rfl) (by kernel_rfl) (by kernel_rfl) (by kernel_rfl) (by intro _ _ _ h; exact h) (Or.inl ⟨by rfl, ?_⟩) (by assumption) ?_
          rotate_left
          · intro w hSw; (try dsimp only at hSw); go_simp; try with_reducible rfl
          try simp only [Act.put, List.setIfInBounds_toArray, List.set_cons_zero, List.set_cons_succ]
          refine wpAnyH_ready (rs := [25]) (by kernel_rfl) (by simp) ?_
          refine AllReadyH.cons (o := _) (by simp only [List.getElem?_toArray, List.getElem?_cons_succ, List.getElem?_cons_zero]; rfl) (fun K hK => ?_) AllReadyH.nil
          go_simp

          refine hK.out _ _ (by exact HSS.out _ (HB5.out.alloc HB5.out.size _)) (fun hHeld => ?_)
          clear hK K
          try simp only [Act.put, List.setIfInBounds_toArray, List.set_cons_zero, List.set_cons_succ]
          refine wpAnyH_ready (rs := [26]) (by kernel_rfl) (by simp) ?_
          refine AllReadyH.cons (o := _) (by simp only [List.getElem?_toArray, List.getElem?_cons_succ, List.getElem?_cons_zero]; rfl) (fun K hK => ?_) AllReadyH.nil
          go_simp

          refine hK.out _ _ (by exact HSS.out _ (HB5.out.alloc HB5.out.size _)) (fun hHeld => ?_)
          clear hK K
          try simp only [Act.put, List.setIfInBounds_toArray, List.set_cons_zero, List.set_cons_succ]
          refine wpAnyH_take (i := 27) (v := ?_) (by simp only [List.getElem?_toArray, List.getElem?_cons_succ, List.getElem?_cons_zero]; rfl) (by kernel_rfl) (by kernel_rfl) (by kernel_rfl) (by intro _ _ _ h; exact h) (Or.inl ⟨by rfl, ?_⟩) (by assumption) ?_
          rotate_left
          · intro w hSw; (try dsimp only at hSw); go_simp; try with_reducible rfl
          try simp only [Act.put, List.setIfInBounds_toArray, List.set_cons_zero, List.set_cons_succ]
          refine wpAnyH_done (by kernel_rfl) ?_ _
          go_wp2_with fail
          go_meet
          exact ⟨w5.heap.size, a1, c1, rfl, rfl, Lib.hid (QNew.made HN1.out HCf.out.2.2 HCf.out.1 (fun p hp => Nat.le_trans (by simp) (HCf.out.2.1 p hp)) HB5.out)⟩
        · go_simp

          refine hK.out _ _ (by exact HSS.out _ ((Below.refl _ _).drew.alloc (Nat.le_refl _) _)) (fun hHeld => ?_)
          clear hK K
          try simp only [Act.put, List.setIfInBounds_toArray, List.set_cons_zero, List.set_cons_succ]
          refine wpAnyH_ready (rs := [21]) (by kernel_rfl) (by simp) ?_
          refine AllReadyH.cons (o := _) (by simp only [List.getElem?_toArray, List.getElem?_cons_succ, List.getElem?_cons_zero]; rfl) (fun K hK => ?_) AllReadyH.nil
          go_simp
          go_at_call 11
          refine Calls.mono (C11.out (wr.drew.alloc (Obj.cells #[Value.slice none 0 0, Value.int IntKind.i64 0, Value.int IntKind.i64 0, Value.int IntKind.i64 0] 24)) ((Below.refl _ _).drew.alloc (Nat.le_refl _) _)) ?_
          rintro e w5 ⟨a1, c1, rfl, hc1, hf1, hl1, hb5⟩
          have HB5 : Hid (Below wr.heap.size wr w5) := Lib.hid (Below.trans ((Below.refl _ _).drew.alloc (Nat.le_refl _) _) (hb5.mono (show wr.heap.size ≤ ((wr.drew.alloc (Obj.cells #[Value.slice none 0 0, Value.int IntKind.i64 0, Value.int IntKind.i64 0, Value.int IntKind.i64 0] 24))).heap.size by simp)))
          have HW5 := Lib.hid hb5
          have HCf := Lib.hid (And.intro hc1 (And.intro hf1 hl1))
          clear hc1 hf1 hl1 hb5
          have z0 : w5.cell? ⟨wr.heap.size, 0, none⟩ = some (.slice none 0 0) := (HW5.out.cell (p := ⟨wr.heap.size, 0, none⟩) (by simp)).trans (q_cells wr.drew none 0 0 0 0 0).1
          have z1 : w5.cell? ⟨wr.heap.size, 1, none⟩ = some (.int .i64 0) := (HW5.out.cell (p := ⟨wr.heap.size, 1, none⟩) (by simp)).trans (q_cells wr.drew none 0 0 0 0 0).2.1
          have z2 : w5.cell? ⟨wr.heap.size, 2, none⟩ = some (.int .i64 0) := (HW5.out.cell (p := ⟨wr.heap.size, 2, none⟩) (by simp)).trans (q_cells wr.drew none 0 0 0 0 0).2.2.1
          have z3 : w5.cell? ⟨wr.heap.size, 3, none⟩ = some (.int .i64 0) := (HW5.out.cell (p := ⟨wr.heap.size, 3, none⟩) (by simp)).trans (q_cells wr.drew none 0 0 0 0 0).2.2.2
          have f0 : w5.frozen? ⟨wr.heap.size, 0, none⟩ = false := (HW5.out.frozen (p := ⟨wr.heap.size, 0, none⟩) (by simp)).trans (fz_topF wr.drew _ _ 0)
          have f1 : w5.frozen? ⟨wr.heap.size, 1, none⟩ = false := (HW5.out.frozen (p := ⟨wr.heap.size, 1, none⟩) (by simp)).trans (fz_topF wr.drew _ _ 1)
          have f2 : w5.frozen? ⟨wr.heap.size, 2, none⟩ = false := (HW5.out.frozen (p := ⟨wr.heap.size, 2, none⟩) (by simp)).trans (fz_topF wr.drew _ _ 2)
          have f3 : w5.frozen? ⟨wr.heap.size, 3, none⟩ = false := (HW5.out.frozen (p := ⟨wr.heap.size, 3, none⟩) (by simp)).trans (fz_topF wr.drew _ _ 3)
          go_simp
          refine hK.out _ _ (by exact HSS.out _ HB5.out) (fun hHeld => ?_)
          clear hK K
          try simp only [Act.put, List.setIfInBounds_toArray, List.set_cons_zero, List.set_cons_succ]
          refine wpAnyH_take (i := 22) (v := ?_) (by simp only [List.getElem?_toArray, List.getElem?_cons_succ, List.getElem?_cons_zero]; rfl) (by kernel_rfl) (by kernel_rfl) (by kernel_rfl) (by intro _ _ _ h; exact h) (Or.inl ⟨by rfl, ?_⟩) (by assumption) ?_
          rotate_left
          · intro w hSw; (try dsimp only at hSw); go_simp; try with_reducible rfl
          try simp only [Act.put, List.setIfInBounds_toArray, List.set_cons_zero, List.set_cons_succ]
          refine wpAnyH_take (i := 23) (v := ?_) (by simp only [List.getElem?_toArray, List.getElem?_cons_succ, List.getElem?_cons_zero]; rfl) (by kernel_rfl) (by kernel_rfl) (by kernel_rfl) (by intro _ _ _ h; exact h) (Or.inl ⟨by rfl, ?_⟩) (by assumption) ?_
          rotate_left
          · intro w hSw; (try dsimp only at hSw); go_simp; try with_reducible rfl
          try simp only [Act.put, List.setIfInBounds_toArray, List.set_cons_zero, List.set_cons_succ]
          refine wpAnyH_take (i := 24) (v := ?_) (by simp only [List.getElem?_toArray, List.getElem?_cons_succ, List.getElem?_cons_zero]; rfl) (by kernel_rfl) (by kernel_rfl) (by kernel_rfl) (by intro _ _ _ h; exact h) (Or.inl ⟨by rfl, ?_⟩) (by assumption) ?_
          rotate_left
          · intro w hSw; (try dsimp only at hSw); go_simp; try with_reducible rfl
          try simp only [Act.put, List.setIfInBounds_toArray, List.set_cons_zero, List.set_cons_succ]
          refine wpAnyH_ready (rs := [26]) (by kernel_rfl) (by simp) ?_
          refine AllReadyH.cons (o := _) (by simp only [List.getElem?_toArray, List.getElem?_cons_succ, List.getElem?_cons_zero]; rfl) (fun K hK => ?_) AllReadyH.nil
          go_simp

          refine hK.out _ _ (by exact HSS.out _ (put4_below (b := wr.heap.size) HB5.out (Nat.le_refl _))) (fun hHeld => ?_)
          clear hK K
          try simp only [Act.put, List.setIfInBounds_toArray, List.set_cons_zero, List.set_cons_succ]
          refine wpAnyH_take (i := 27) (v := ?_) (by simp only [List.getElem?_toArray, List.getElem?_cons_succ, List.getElem?_cons_zero]; rfl) (by kernel_rfl) (by kernel_rfl) (by kernel_rfl) (by intro _ _ _ h; exact h) (Or.inl ⟨by rfl, ?_⟩) (by assumption) ?_
          rotate_left
          · intro w hSw; (try dsimp only at hSw); go_simp; try with_reducible rfl
          try simp only [Act.put, List.setIfInBounds_toArray, List.set_cons_zero, List.set_cons_succ]
          refine wpAnyH_done (by kernel_rfl) ?_ _
          clear z0 z1 z2 z3 f0 f1 f2 f3
          go_wp2_with fail
          go_meet
          exact ⟨wr.heap.size, a1, c1, rfl, rfl, Lib.hid (QNew.laid HN1.out HCf.out.2.2 HCf.out.1 (fun p hp => Nat.le_trans (by simp) (HCf.out.2.1 p hp)) (Nat.le_refl _) HB5.out ((HW5.out.cell (p := ⟨wr.heap.size, 0, none⟩) (by simp)).trans (q_cells wr.drew none 0 0 0 0 0).1) ((HW5.out.cell (p := ⟨wr.heap.size, 1, none⟩) (by simp)).trans (q_cells wr.drew none 0 0 0 0 0).2.1) ((HW5.out.cell (p := ⟨wr.heap.size, 2, none⟩) (by simp)).trans (q_cells wr.drew none 0 0 0 0 0).2.2.1) ((HW5.out.cell (p := ⟨wr.heap.size, 3, none⟩) (by simp)).trans (q_cells wr.drew none 0 0 0 0 0).2.2.2))⟩
      case rest =>
        obtain ⟨wA, hwA⟩ : ∃ W, W = wc := ⟨_, rfl⟩
        subst hwA
        obtain ⟨P, a1, c1, rfl, rfl, HNw⟩ := hcut
        have HQc : Hid (QSt w0 wA H k aq nq cq 0 0 xq lq) := Lib.hid (HQ.out.below HNw.out.bel)
        clear k0 k1 k2 k3 r0 r1 r2 r3
        have k0 := HQc.out.c0
        have k1 := HQc.out.c1
        have k2 := HQc.out.c2
        have k3 := HQc.out.c3
        have f0 := HQc.out.fz 0
        have f1 := HQc.out.fz 1
        have f2 := HQc.out.fz 2
        have f3 := HQc.out.fz 3
        have p0 := HNw.out.c0
        have p1 := HNw.out.c1
        have p2 := HNw.out.c2
        have p3 := HNw.out.c3
        have hHP : H ≠ P := by have := HQ.out.lt; have := HNw.out.new; omega
        by_cases hE : E = 0
        · obtain ⟨hn1, hx, hy, hz, hf, hok, hiz⟩ := HGo.out hE
          have HG2 := Lib.hid (And.intro hn1 (And.intro hf (And.intro hok hiz)))
          have HXYZ := Lib.hid (And.intro hx (And.intro hy hz))
          subst hE
          clear hn1 hx hy hz hf hok hiz
          go_wp2_with fail
          go_roundg (m - (k + 1))
          case measure => omega
          case rel => exact ⟨k + 1, by omega, by go_num, Lib.hid ⟨a1, n1, c1, by rw [HG2.out.2.1]; exact HG2.out.1, fun p hp => Nat.le_trans HQ.out.bel.size (HNw.out.fresh p hp), by
            have hput := (HQc.out).put (m' := k + 1) (Nat.le_of_eq HS0.out) HNw.out.len HNw.out.lat (fun _ p hp => by have := HNw.out.fresh p hp; have := HQ.out.lt; omega) HNw.out.cap (by have := HG2.out.1; have := HQ.out.few; omega) HG2.out.2.2.1 HG2.out.2.2.2
            have hxx := HXYZ.out.1
            have hyy := HXYZ.out.2.1
            have hzz : z = (n1 : Int) := by rw [HXYZ.out.2.2, HG2.out.1]
            have hll : l1 = (fl rs (k + 1)).1 := by rw [HG2.out.2.1]
            rw [← hll]
            rw [hzz, hxx, hyy] at hput
            rw [hxx, hyy, hzz]
            exact hput⟩⟩
        · have hEb : (E == 0) = false := by simpa using hE
          have HNo2 := Lib.hid (HNo.out hE)
          clear hE
          go_wp2_with fail
          go_roundg (m - (k + 1))
          case measure => omega
          case rel => exact ⟨k + 1, by omega, by go_num, Lib.hid ⟨aq, nq, cq, by rw [HNo2.out]; exact HNq.out, HFr.out, by
            rw [HNo2.out, ← HLq.out, ← HXq.out]
            exact HQc.out.more (Nat.le_succ k)⟩⟩
    · have hkm : k = m := by omega
      have k0 := HQ.out.c0
      have k1 := HQ.out.c1
      have k2 := HQ.out.c2
      have k3 := HQ.out.c3
      have hlB : B < w0.heap.size := by rw [HS0.out]; exact HHB.out.2
      have z0 := (HQ.out.bel.cell (p := ⟨B, 0, none⟩) hlB).trans HZ.out.1.1
      have z1 := (HQ.out.bel.cell (p := ⟨B, 1, none⟩) hlB).trans HZ.out.1.2.1
      have z2 := (HQ.out.bel.cell (p := ⟨B, 2, none⟩) hlB).trans HZ.out.1.2.2.1
      have z3 := (HQ.out.bel.cell (p := ⟨B, 3, none⟩) hlB).trans HZ.out.1.2.2.2
      have f0 := (HQ.out.bel.frozen (p := ⟨B, 0, none⟩) hlB).trans (HZ.out.2 0)
      have f1 := (HQ.out.bel.frozen (p := ⟨B, 1, none⟩) hlB).trans (HZ.out.2 1)
      have f2 := (HQ.out.bel.frozen (p := ⟨B, 2, none⟩) hlB).trans (HZ.out.2 2)
      have f3 := (HQ.out.bel.frozen (p := ⟨B, 3, none⟩) hlB).trans (HZ.out.2 3)
      clear hlB
      subst hkm
      go_wp2_with fail
      refine bodyPost_ret (results_filled (b := B) rfl (set_keep (set_keep (set_keep (cell?_set_own z0) (by decide)) (by decide)) (by decide)) (set_keep (set_keep (cell?_set_own (set_keep z1 (by decide))) (by decide)) (by decide)) (set_keep (cell?_set_own (set_keep (set_keep z2 (by decide)) (by decide))) (by decide)) (cell?_set_own (set_keep (set_keep (set_keep z3 (by decide)) (by decide)) (by decide)))) rfl ?_
      refine ⟨aq, cq, by rw [← HNq.out], by rw [← HNq.out]; exact HQ.out.cap, ?_, ?_⟩
      · have hne : 0 < (fl rs k).1.length → ∀ p, aq = some p → p.block ≠ B := fun _ p hp => by
          have h1 := HFr.out p hp
          have h2 := HS0.out
          have h3 := HHB.out.2
          omega
        exact (((HQ.out.lat.setne hne).setne hne).setne hne).setne hne
      · exact put4_below (HX0.out.trans (HQ.out.bel.mono HX0.out.size)) (by rw [HBe.out]; exact Nat.le_refl _)
end Go.Proofs.Ytbhbebidkeejbaa
