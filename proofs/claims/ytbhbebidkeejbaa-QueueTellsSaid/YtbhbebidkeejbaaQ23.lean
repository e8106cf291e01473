/- Whether any queue may be, and what becomes of it by an event more (QueueTells). -/
import Derived.Test.YtbhbebidkeejbaaQ12
import Derived.Test.YtbhbebidkeejbaaQ21
import Derived.Test.YtbhbebidkeejbaaP1
namespace Go.Proofs.Ytbhbebidkeejbaa
open Go.RowKit Go.Shelf
set_option linter.unusedVariables false
set_option linter.unusedSimpArgs false

theorem pushed_alike (now delta next : Int) (l : List EvV) (t d sig v : Int) : ∃ (E x y z : Int) (l' : List EvV), l'.length ≤ l.length + 1 ∧ ∀ W e w', Pushed W now delta next l t d sig v e w' → NewQ W E x y z l' e w' := by
  by_cases h0 : pushE now delta next l t d sig = 0
  · exact ⟨0, _, _, next + 1, pushL l ⟨t, d, next, sig, v⟩, by rw [pushL_length]; exact Nat.le_refl _, fun W e w' h => by unfold Pushed at h; rw [if_pos h0] at h; exact h⟩
  · exact ⟨_, 0, 0, 0, [], by simp, fun W e w' h => by unfold Pushed at h; rw [if_neg h0] at h; exact h⟩

set_option maxRecDepth 100000 in
set_option maxHeartbeats 4000000 in
theorem queueTells (w : World) (Q : QV) (hQ : QAt w Q) (hc : Q.l.length ≤ Q.c) (t : Int) (ht : I64 t) (d : Int) (hd : I64 d) (sig : Int) (hs : I64 sig) (v : Int) (hv : U64 v) :
    Calls Try.prog 3 #[Q.val, .int .i64 t, .int .i64 d, .int .i64 sig, .int .u64 v] w fun e w' => e = .returned (.bool true) ∧ Below w.heap.size w w' := by
  have HArg := Lib.hid (And.intro ht (And.intro hd (And.intro hs hv)))
  clear ht hd hs hv
  obtain ⟨a, c, l, now, delta, next⟩ := Q
  obtain ⟨h, hq1, hq2, hq3⟩ := hQ
  dsimp only at h hc hq1 hq2 hq3
  obtain ⟨n, hn⟩ : ∃ n, l.length = n := ⟨_, rfl⟩
  unfold QV.val
  dsimp only
  rw [hn] at hc ⊢
  obtain ⟨H, hH⟩ : ∃ h, h = w.heap.size := ⟨_, rfl⟩
  obtain ⟨w1, hw1⟩ : ∃ W, W = w.alloc (Obj.cells #[Value.slice a n c, Value.int IntKind.i64 now, Value.int IntKind.i64 delta, Value.int IntKind.i64 next] 24) := ⟨_, rfl⟩
  have HX1 : Hid (Below w.heap.size w w1) := Lib.hid (by rw [hw1]; exact (Below.refl _ _).alloc (Nat.le_refl _) _)
  have k0 : w1.cell? ⟨H, 0, none⟩ = some (.slice a n c) := by rw [hw1, hH]; simp
  have k1 : w1.cell? ⟨H, 1, none⟩ = some (.int .i64 now) := by rw [hw1, hH]; simp
  have k2 : w1.cell? ⟨H, 2, none⟩ = some (.int .i64 delta) := by rw [hw1, hH]; simp
  have k3 : w1.cell? ⟨H, 3, none⟩ = some (.int .i64 next) := by rw [hw1, hH]; simp
  have hl1 := h.below HX1.out (Nat.le_refl _)
  have HK : Hid (∀ W, Below w1.heap.size w1 W → W.cell? ⟨H, 0, none⟩ = some (.slice a n c) ∧ W.cell? ⟨H, 1, none⟩ = some (.int .i64 now) ∧ W.cell? ⟨H, 2, none⟩ = some (.int .i64 delta) ∧ W.cell? ⟨H, 3, none⟩ = some (.int .i64 next)) := Lib.hid (fun W hW => by
    have cl : ∀ {b j : Nat} {u : Value}, w1.cell? ⟨b, j, none⟩ = some u → W.cell? ⟨b, j, none⟩ = some u := fun h => (hW.cell (p := ⟨_, _, none⟩) (World.block_lt_of_cell? w1 _ h)).trans h
    exact ⟨cl k0, cl k1, cl k2, cl k3⟩)
  have HN := Lib.hid hn
  have HC := Lib.hid hc
  have HL1 := Lib.hid hl1
  have HQs := Lib.hid (And.intro hq1 (And.intro hq2 hq3))
  have HW1 := Lib.hid hw1
  have HHH := Lib.hid hH
  clear h hn hc hl1 hw1 hH k0 k1 k2 k3 hq1 hq2 hq3
  go_enter Try.func3, Try.ntmps3
  go_wp2_with fail
  rw [← HW1.out]
  (try rw [← HHH.out])
  refine Calls.mono (live9 w1) ?_
  rintro e w2 ⟨rfl, hb2⟩
  have HB2 := Lib.hid hb2
  clear hb2
  obtain ⟨k0, k1, k2, k3⟩ := HK.out w2 HB2.out
  go_wp2_with fail
  refine Calls.mono (few10 w2 a n c now delta next) ?_
  rintro e w3 ⟨rfl, hb3⟩
  have HB3 : Hid (Below w1.heap.size w1 w3) := Lib.hid (HB2.out.trans (hb3.mono HB2.out.size))
  clear hb3 k0 k1 k2 k3
  by_cases h9 : n ≤ 300
  · have d9 : decide (n ≤ 300) = true := by simpa using h9
    rw [d9]
    obtain ⟨E, x, y, z, l1, hle, hpo⟩ := pushed_alike now delta next l t d sig v
    obtain ⟨n1, hn1⟩ : ∃ k, k = l1.length := ⟨_, rfl⟩
    have C11 : Hid (∀ W, Below w1.heap.size w1 W → Calls Try.prog 11 #[.agg #[.slice a n c, .int .i64 now, .int .i64 delta, .int .i64 next], .int .i64 t, .int .i64 d, .int .i64 sig, .int .u64 v] W fun e w' => ∃ a c, e = .returned (.tuple #[.agg #[.slice a n1 c, .int .i64 x, .int .i64 y, .int .i64 z], .int .i64 E]) ∧ LAt w' a l1 ∧ Below W.heap.size W w') := Lib.hid (fun W hW =>
      Calls.mono (push11 W a n c now delta next l HN.out (HL1.out.below hW (Nat.le_refl _)) (by omega) HQs.out.2.2 t d sig v HArg.out.1 HArg.out.2.1 HArg.out.2.2.1 HArg.out.2.2.2) (fun e w' h => by
        obtain ⟨a', c', he, -, -, hl, hb⟩ := hpo _ _ _ h
        rw [hn1]; exact ⟨a', c', he, hl, hb⟩))
    have C12 : Hid (∀ W, Below w1.heap.size w1 W → Calls Try.prog 12 #[.agg #[.slice a n c, .int .i64 now, .int .i64 delta, .int .i64 next], .int .i64 t, .int .i64 d, .int .i64 sig, .int .u64 v] W fun e w' => ∃ a c, e = .returned (.tuple #[.agg #[.slice a n1 c, .int .i64 x, .int .i64 y, .int .i64 z], .int .i64 E]) ∧ LAt w' a l1 ∧ Below W.heap.size W w') := Lib.hid (fun W hW =>
      Calls.mono (push12 W a n c now delta next l HN.out (HL1.out.below hW (Nat.le_refl _)) (by omega) HC.out HQs.out.2.2 t d sig v HArg.out.1 HArg.out.2.1 HArg.out.2.2.1 HArg.out.2.2.2) (fun e w' h => by
        obtain ⟨a', c', he, -, -, hl, hb⟩ := hpo _ _ _ h
        rw [hn1]; exact ⟨a', c', he, hl, hb⟩))
    have HN1 : Hid (l1.length = n1 ∧ n1 ≤ 2000) := Lib.hid ⟨hn1.symm, by have := HN.out; omega⟩
    have H9 := Lib.hid h9
    clear hle hpo hn1 h9 d9
    obtain ⟨k0, k1, k2, k3⟩ := HK.out w3 HB3.out
    go_wp2_with fail
    refine Calls.mono (C11.out _ HB3.out) ?_
    rintro e w4 ⟨a1, c1, rfl, hl, hb⟩
    have HLa4 := Lib.hid hl
    have HBk4 := Lib.hid hb
    clear hl hb k0 k1 k2 k3
    obtain ⟨V4, hV4⟩ : ∃ V, V = (w4.alloc (Obj.cells #[Value.slice a1 n1 c1, Value.int IntKind.i64 x, Value.int IntKind.i64 y, Value.int IntKind.i64 z] 24)) := ⟨_, rfl⟩
    have HV4 := Lib.hid hV4
    have HW4 : Hid (Below w4.heap.size w4 V4) := Lib.hid (by rw [hV4]; exact (Below.refl _ _).alloc (Nat.le_refl _) _)
    have HB4 : Hid (Below w1.heap.size w1 V4) := Lib.hid (HB3.out.trans ((HBk4.out.trans (HW4.out.mono HBk4.out.size)).mono HB3.out.size))
    have HC4 := q_cells w4 a1 n1 c1 x y z
    rw [← hV4] at HC4
    have HC4 := Lib.hid HC4
    have hk := HK.out V4 HB4.out
    rw [hV4] at hk
    obtain ⟨k0, k1, k2, k3⟩ := hk
    clear hV4
    go_wp2_with fail
    (try rw [← HV4.out])
    refine Calls.mono (C12.out _ HB4.out) ?_
    rintro e w5 ⟨a2, c2, rfl, hl, hb⟩
    have HLa5 := Lib.hid hl
    have HBk5 := Lib.hid hb
    clear hl hb k0 k1 k2 k3
    obtain ⟨V5, hV5⟩ : ∃ V, V = (w5.alloc (Obj.cells #[Value.slice a2 n1 c2, Value.int IntKind.i64 x, Value.int IntKind.i64 y, Value.int IntKind.i64 z] 24)) := ⟨_, rfl⟩
    have HV5 := Lib.hid hV5
    have HW5 : Hid (Below w5.heap.size w5 V5) := Lib.hid (by rw [hV5]; exact (Below.refl _ _).alloc (Nat.le_refl _) _)
    have HB5 : Hid (Below w1.heap.size w1 V5) := Lib.hid (HB4.out.trans ((HBk5.out.trans (HW5.out.mono HBk5.out.size)).mono HB4.out.size))
    have HC5 := q_cells w5 a2 n1 c2 x y z
    rw [← hV5] at HC5
    have HC5 := Lib.hid HC5
    obtain ⟨P4, hP4⟩ : ∃ p, p = w4.heap.size := ⟨_, rfl⟩
    obtain ⟨P5, hP5⟩ : ∃ p, p = w5.heap.size := ⟨_, rfl⟩
    have hc4 := HC4.out
    have hc5 := HC5.out
    rw [← hP4] at hc4
    rw [← hP5] at hc5
    have b54 : Below V4.heap.size V4 V5 := HBk5.out.trans (HW5.out.mono HBk5.out.size)
    have HF : Hid (∀ W, Below V5.heap.size V5 W → (W.cell? ⟨H, 0, none⟩ = some (.slice a n c) ∧ W.cell? ⟨H, 1, none⟩ = some (.int .i64 now) ∧ W.cell? ⟨H, 2, none⟩ = some (.int .i64 delta) ∧ W.cell? ⟨H, 3, none⟩ = some (.int .i64 next) ∧ W.cell? ⟨P4, 0, none⟩ = some (.slice a1 n1 c1) ∧ W.cell? ⟨P4, 1, none⟩ = some (.int .i64 x) ∧ W.cell? ⟨P4, 2, none⟩ = some (.int .i64 y) ∧ W.cell? ⟨P4, 3, none⟩ = some (.int .i64 z) ∧ W.cell? ⟨P5, 0, none⟩ = some (.slice a2 n1 c2) ∧ W.cell? ⟨P5, 1, none⟩ = some (.int .i64 x) ∧ W.cell? ⟨P5, 2, none⟩ = some (.int .i64 y) ∧ W.cell? ⟨P5, 3, none⟩ = some (.int .i64 z)) ∧ LAt W a1 l1 ∧ LAt W a2 l1) := Lib.hid (fun W t5 => by
      have t4 : Below V4.heap.size V4 W := b54.trans (t5.mono b54.size)
      have s5 : Below w5.heap.size w5 W := HW5.out.trans (t5.mono HW5.out.size)
      have s4 : Below w4.heap.size w4 W := HW4.out.trans (t4.mono HW4.out.size)
      have cl4 : ∀ {b j : Nat} {u : Value}, V4.cell? ⟨b, j, none⟩ = some u → W.cell? ⟨b, j, none⟩ = some u := fun h => (t4.cell (p := ⟨_, _, none⟩) (World.block_lt_of_cell? V4 _ h)).trans h
      have cl5 : ∀ {b j : Nat} {u : Value}, V5.cell? ⟨b, j, none⟩ = some u → W.cell? ⟨b, j, none⟩ = some u := fun h => (t5.cell (p := ⟨_, _, none⟩) (World.block_lt_of_cell? V5 _ h)).trans h
      obtain ⟨k0, k1, k2, k3⟩ := HK.out W (HB5.out.trans (t5.mono HB5.out.size))
      exact ⟨⟨k0, k1, k2, k3, cl4 hc4.1, cl4 hc4.2.1, cl4 hc4.2.2.1, cl4 hc4.2.2.2, cl5 hc5.1, cl5 hc5.2.1, cl5 hc5.2.2.1, cl5 hc5.2.2.2⟩, HLa4.out.below s4 (Nat.le_refl _), HLa5.out.below s5 (Nat.le_refl _)⟩)
    have HP4 := Lib.hid hP4
    have HP5 := Lib.hid hP5
    obtain ⟨eE, heE⟩ : ∃ E, E = checkE now delta next l := ⟨_, rfl⟩
    have HeE := Lib.hid heE
    obtain ⟨eB, heB⟩ : ∃ E, E = decide (n = 0) := ⟨_, rfl⟩
    have HeB := Lib.hid heB
    clear b54 hc4 hc5 hP4 hP5 hV5 heE heB
    go_wp2_with fail
    (try rw [← HV5.out])
    (try rw [← HP4.out])
    (try rw [← HP5.out])
    refine wp_region_held_drew (S := fun w' => w'.cell? ⟨H, 0, none⟩ = some (.slice a n c) ∧ w'.cell? ⟨H, 1, none⟩ = some (.int .i64 now) ∧ w'.cell? ⟨H, 2, none⟩ = some (.int .i64 delta) ∧ w'.cell? ⟨H, 3, none⟩ = some (.int .i64 next) ∧ w'.cell? ⟨P4, 0, none⟩ = some (.slice a1 n1 c1) ∧ w'.cell? ⟨P4, 1, none⟩ = some (.int .i64 x) ∧ w'.cell? ⟨P4, 2, none⟩ = some (.int .i64 y) ∧ w'.cell? ⟨P4, 3, none⟩ = some (.int .i64 z) ∧ w'.cell? ⟨P5, 0, none⟩ = some (.slice a2 n1 c2) ∧ w'.cell? ⟨P5, 1, none⟩ = some (.int .i64 x) ∧ w'.cell? ⟨P5, 2, none⟩ = some (.int .i64 y) ∧ w'.cell? ⟨P5, 3, none⟩ = some (.int .i64 z)) (by kernel_rfl) ((HF.out V5 (Below.refl _ _)).1) (fun hHeld => ?_)
    refine wpAnyH_take (i := 0) (v := ?_) (by simp only [List.getElem?_toArray, List.getElem?_cons_succ, List.getElem?_cons_zero]; rfl) (by kernel_rfl) (by kernel_rfl) (by kernel_rfl) (by intro _ _ _ h; exact h) (Or.inl ⟨by rfl, ?_⟩) (by assumption) ?_
    rotate_left
    · intro w hSw; (try dsimp only at hSw); go_simp; try with_reducible rfl
    try simp only [Act.put, List.setIfInBounds_toArray, List.set_cons_zero, List.set_cons_succ]
    refine wpAnyH_take (i := 1) (v := ?_) (by simp only [List.getElem?_toArray, List.getElem?_cons_succ, List.getElem?_cons_zero]; rfl) (by kernel_rfl) (by kernel_rfl) (by kernel_rfl) (by intro _ _ _ h; exact h) (Or.inl ⟨by rfl, ?_⟩) (by assumption) ?_
    rotate_left
    · intro w hSw; (try dsimp only at hSw); go_simp; try with_reducible rfl
    try simp only [Act.put, List.setIfInBounds_toArray, List.set_cons_zero, List.set_cons_succ]
    refine wpAnyH_take (i := 2) (v := ?_) (by simp only [List.getElem?_toArray, List.getElem?_cons_succ, List.getElem?_cons_zero]; rfl) (by kernel_rfl) (by kernel_rfl) (by kernel_rfl) (by intro _ _ _ h; exact h) (Or.inl ⟨by rfl, ?_⟩) (by assumption) ?_
    rotate_left
    · intro w hSw; (try dsimp only at hSw); go_simp; try with_reducible rfl
    try simp only [Act.put, List.setIfInBounds_toArray, List.set_cons_zero, List.set_cons_succ]
    refine wpAnyH_take (i := 4) (v := ?_) (by simp only [List.getElem?_toArray, List.getElem?_cons_succ, List.getElem?_cons_zero]; rfl) (by kernel_rfl) (by kernel_rfl) (by kernel_rfl) (by intro _ _ _ h; exact h) (Or.inl ⟨by rfl, ?_⟩) (by assumption) ?_
    rotate_left
    · intro w hSw; (try dsimp only at hSw); go_simp; try with_reducible rfl
    try simp only [Act.put, List.setIfInBounds_toArray, List.set_cons_zero, List.set_cons_succ]
    refine wpAnyH_ready (rs := [3]) (by kernel_rfl) (by simp) ?_
    refine AllReadyH.cons (o := _) (by simp only [List.getElem?_toArray, List.getElem?_cons_succ, List.getElem?_cons_zero]; rfl) (fun K hK => ?_) AllReadyH.nil
    go_simp
    go_at_call 13
    refine Calls.mono (check13 V5.drew a n c now delta next l HN.out (HL1.out.below (HB5.out.trans (((Below.refl _ _).drew).mono HB5.out.size)) (Nat.le_refl _)) (by have := H9.out; omega)) ?_
    rintro e w6 ⟨rfl, hb6⟩
    have HB6 : Hid (Below V5.heap.size V5 w6) := Lib.hid ((Below.refl _ _).drew.trans hb6)
    clear hb6
    rw [← HeE.out]
    go_simp
    refine hK.out _ _ (by exact (HF.out _ HB6.out).1) (fun hHeld => ?_)
    clear hK K
    try simp only [Act.put, List.setIfInBounds_toArray, List.set_cons_zero, List.set_cons_succ]
    refine wpAnyH_ready (rs := [5]) (by kernel_rfl) (by simp) ?_
    refine AllReadyH.cons (o := _) (by simp only [List.getElem?_toArray, List.getElem?_cons_succ, List.getElem?_cons_zero]; rfl) (fun K hK => ?_) AllReadyH.nil
    go_simp
    go_at_call 14
    refine Calls.mono (check14 w6 a n c now delta next l HN.out (HL1.out.below (HB5.out.trans ((HB6.out).mono HB5.out.size)) (Nat.le_refl _)) (by have := H9.out; omega)) ?_
    rintro e w7 ⟨rfl, hb7⟩
    have HB7 : Hid (Below V5.heap.size V5 w7) := Lib.hid (HB6.out.trans (hb7.mono HB6.out.size))
    clear hb7
    rw [← HeE.out]
    go_simp
    refine hK.out _ _ (by exact (HF.out _ HB7.out).1) (fun hHeld => ?_)
    clear hK K
    try simp only [Act.put, List.setIfInBounds_toArray, List.set_cons_zero, List.set_cons_succ]
    refine wpAnyH_take (i := 6) (v := ?_) (by simp only [List.getElem?_toArray, List.getElem?_cons_succ, List.getElem?_cons_zero]; rfl) (by kernel_rfl) (by kernel_rfl) (by kernel_rfl) (by intro _ _ _ h; exact h) (Or.inl ⟨by rfl, ?_⟩) (by assumption) ?_
    rotate_left
    · intro w hSw; (try dsimp only at hSw); go_simp; try with_reducible rfl
    try simp only [Act.put, List.setIfInBounds_toArray, List.set_cons_zero, List.set_cons_succ]
    refine wpAnyH_take (i := 7) (v := ?_) (by simp only [List.getElem?_toArray, List.getElem?_cons_succ, List.getElem?_cons_zero]; rfl) (by kernel_rfl) (by kernel_rfl) (by kernel_rfl) (by intro _ _ _ h; exact h) (Or.inl ⟨by rfl, ?_⟩) (by assumption) ?_
    rotate_left
    · intro w hSw; (try dsimp only at hSw); go_simp; try with_reducible rfl
    try simp only [Act.put, List.setIfInBounds_toArray, List.set_cons_zero, List.set_cons_succ]
    refine wpAnyH_take (i := 8) (v := ?_) (by simp only [List.getElem?_toArray, List.getElem?_cons_succ, List.getElem?_cons_zero]; rfl) (by kernel_rfl) (by kernel_rfl) (by kernel_rfl) (by intro _ _ _ h; exact h) (Or.inl ⟨by rfl, ?_⟩) (by assumption) ?_
    rotate_left
    · intro w hSw; (try dsimp only at hSw); go_simp; try with_reducible rfl
    try simp only [Act.put, List.setIfInBounds_toArray, List.set_cons_zero, List.set_cons_succ]
    refine wpAnyH_take (i := 9) (v := ?_) (by simp only [List.getElem?_toArray, List.getElem?_cons_succ, List.getElem?_cons_zero]; rfl) (by kernel_rfl) (by kernel_rfl) (by kernel_rfl) (by intro _ _ _ h; exact h) (Or.inl ⟨by rfl, ?_⟩) (by assumption) ?_
    rotate_left
    · intro w hSw; (try dsimp only at hSw); go_simp; try with_reducible rfl
    try simp only [Act.put, List.setIfInBounds_toArray, List.set_cons_zero, List.set_cons_succ]
    refine wpAnyH_take (i := 11) (v := ?_) (by simp only [List.getElem?_toArray, List.getElem?_cons_succ, List.getElem?_cons_zero]; rfl) (by kernel_rfl) (by kernel_rfl) (by kernel_rfl) (by intro _ _ _ h; exact h) (Or.inl ⟨by rfl, ?_⟩) (by assumption) ?_
    rotate_left
    · intro w hSw; (try dsimp only at hSw); go_simp; try with_reducible rfl
    try simp only [Act.put, List.setIfInBounds_toArray, List.set_cons_zero, List.set_cons_succ]
    refine wpAnyH_ready (rs := [10]) (by kernel_rfl) (by simp) ?_
    refine AllReadyH.cons (o := _) (by simp only [List.getElem?_toArray, List.getElem?_cons_succ, List.getElem?_cons_zero]; rfl) (fun K hK => ?_) AllReadyH.nil
    go_simp
    go_at_call 15
    refine Calls.mono (empty15 w7 a n c now delta next) ?_
    rintro e w8 ⟨rfl, hb8⟩
    have HB8 : Hid (Below V5.heap.size V5 w8) := Lib.hid (HB7.out.trans (hb8.mono HB7.out.size))
    clear hb8
    rw [← HeB.out]
    go_simp
    refine hK.out _ _ (by exact (HF.out _ HB8.out).1) (fun hHeld => ?_)
    clear hK K
    try simp only [Act.put, List.setIfInBounds_toArray, List.set_cons_zero, List.set_cons_succ]
    refine wpAnyH_ready (rs := [12]) (by kernel_rfl) (by simp) ?_
    refine AllReadyH.cons (o := _) (by simp only [List.getElem?_toArray, List.getElem?_cons_succ, List.getElem?_cons_zero]; rfl) (fun K hK => ?_) AllReadyH.nil
    go_simp
    go_at_call 16
    refine Calls.mono (empty16 w8 a n c now delta next) ?_
    rintro e w9 ⟨rfl, hb9⟩
    have HB9 : Hid (Below V5.heap.size V5 w9) := Lib.hid (HB8.out.trans (hb9.mono HB8.out.size))
    clear hb9
    rw [← HeB.out]
    go_simp
    refine hK.out _ _ (by exact (HF.out _ HB9.out).1) (fun hHeld => ?_)
    clear hK K
    try simp only [Act.put, List.setIfInBounds_toArray, List.set_cons_zero, List.set_cons_succ]
    refine wpAnyH_take (i := 13) (v := ?_) (by simp only [List.getElem?_toArray, List.getElem?_cons_succ, List.getElem?_cons_zero]; rfl) (by kernel_rfl) (by kernel_rfl) (by kernel_rfl) (by intro _ _ _ h; exact h) (Or.inl ⟨by rfl, ?_⟩) (by assumption) ?_
    rotate_left
    · intro w hSw; (try dsimp only at hSw); go_simp; try with_reducible rfl
    try simp only [Act.put, List.setIfInBounds_toArray, List.set_cons_zero, List.set_cons_succ]
    refine wpAnyH_take (i := 14) (v := ?_) (by simp only [List.getElem?_toArray, List.getElem?_cons_succ, List.getElem?_cons_zero]; rfl) (by kernel_rfl) (by kernel_rfl) (by kernel_rfl) (by intro _ _ _ h; exact h) (Or.inl ⟨by rfl, ?_⟩) (by assumption) ?_
    rotate_left
    · intro w hSw; (try dsimp only at hSw); go_simp; try with_reducible rfl
    try simp only [Act.put, List.setIfInBounds_toArray, List.set_cons_zero, List.set_cons_succ]
    refine wpAnyH_take (i := 15) (v := ?_) (by simp only [List.getElem?_toArray, List.getElem?_cons_succ, List.getElem?_cons_zero]; rfl) (by kernel_rfl) (by kernel_rfl) (by kernel_rfl) (by intro _ _ _ h; exact h) (Or.inl ⟨by rfl, ?_⟩) (by assumption) ?_
    rotate_left
    · intro w hSw; (try dsimp only at hSw); go_simp; try with_reducible rfl
    try simp only [Act.put, List.setIfInBounds_toArray, List.set_cons_zero, List.set_cons_succ]
    refine wpAnyH_take (i := 16) (v := ?_) (by simp only [List.getElem?_toArray, List.getElem?_cons_succ, List.getElem?_cons_zero]; rfl) (by kernel_rfl) (by kernel_rfl) (by kernel_rfl) (by intro _ _ _ h; exact h) (Or.inl ⟨by rfl, ?_⟩) (by assumption) ?_
    rotate_left
    · intro w hSw; (try dsimp only at hSw); go_simp; try with_reducible rfl
    try simp only [Act.put, List.setIfInBounds_toArray, List.set_cons_zero, List.set_cons_succ]
    refine wpAnyH_take (i := 17) (v := ?_) (by simp only [List.getElem?_toArray, List.getElem?_cons_succ, List.getElem?_cons_zero]; rfl) (by kernel_rfl) (by kernel_rfl) (by kernel_rfl) (by intro _ _ _ h; exact h) (Or.inl ⟨by rfl, ?_⟩) (by assumption) ?_
    rotate_left
    · intro w hSw; (try dsimp only at hSw); go_simp; try with_reducible rfl
    try simp only [Act.put, List.setIfInBounds_toArray, List.set_cons_zero, List.set_cons_succ]
    refine wpAnyH_ready (rs := [18]) (by kernel_rfl) (by simp) ?_
    refine AllReadyH.cons (o := _) (by simp only [List.getElem?_toArray, List.getElem?_cons_succ, List.getElem?_cons_zero]; rfl) (fun K hK => ?_) AllReadyH.nil
    go_simp
    go_at_call 17
    refine Calls.mono (same17 w9 a1 a2 n1 c1 c2 x y z l1 HN1.out.1 (HF.out w9 HB9.out).2.1 (HF.out w9 HB9.out).2.2 HN1.out.2) ?_
    rintro e w10 ⟨rfl, hb10⟩
    have HB10 : Hid (Below V5.heap.size V5 w10) := Lib.hid (HB9.out.trans (hb10.mono HB9.out.size))
    clear hb10
    go_simp
    refine hK.out _ _ (by exact (HF.out _ HB10.out).1) (fun hHeld => ?_)
    clear hK K
    try simp only [Act.put, List.setIfInBounds_toArray, List.set_cons_zero, List.set_cons_succ]
    refine wpAnyH_take (i := 19) (v := ?_) (by simp only [List.getElem?_toArray, List.getElem?_cons_succ, List.getElem?_cons_zero]; rfl) (by kernel_rfl) (by kernel_rfl) (by kernel_rfl) (by intro _ _ _ h; exact h) (Or.inl ⟨by rfl, ?_⟩) (by assumption) ?_
    rotate_left
    · intro w hSw; (try dsimp only at hSw); go_simp; try with_reducible rfl
    try simp only [Act.put, List.setIfInBounds_toArray, List.set_cons_zero, List.set_cons_succ]
    refine wpAnyH_take (i := 20) (v := ?_) (by simp only [List.getElem?_toArray, List.getElem?_cons_succ, List.getElem?_cons_zero]; rfl) (by kernel_rfl) (by kernel_rfl) (by kernel_rfl) (by intro _ _ _ h; exact h) (Or.inl ⟨by rfl, ?_⟩) (by assumption) ?_
    rotate_left
    · intro w hSw; (try dsimp only at hSw); go_simp; try with_reducible rfl
    try simp only [Act.put, List.setIfInBounds_toArray, List.set_cons_zero, List.set_cons_succ]
    refine wpAnyH_take (i := 21) (v := ?_) (by simp only [List.getElem?_toArray, List.getElem?_cons_succ, List.getElem?_cons_zero]; rfl) (by kernel_rfl) (by kernel_rfl) (by kernel_rfl) (by intro _ _ _ h; exact h) (Or.inl ⟨by rfl, ?_⟩) (by assumption) ?_
    rotate_left
    · intro w hSw; (try dsimp only at hSw); go_simp; try with_reducible rfl
    try simp only [Act.put, List.setIfInBounds_toArray, List.set_cons_zero, List.set_cons_succ]
    refine wpAnyH_take (i := 22) (v := ?_) (by simp only [List.getElem?_toArray, List.getElem?_cons_succ, List.getElem?_cons_zero]; rfl) (by kernel_rfl) (by kernel_rfl) (by kernel_rfl) (by intro _ _ _ h; exact h) (Or.inl ⟨by rfl, ?_⟩) (by assumption) ?_
    rotate_left
    · intro w hSw; (try dsimp only at hSw); go_simp; try with_reducible rfl
    try simp only [Act.put, List.setIfInBounds_toArray, List.set_cons_zero, List.set_cons_succ]
    refine wpAnyH_take (i := 23) (v := ?_) (by simp only [List.getElem?_toArray, List.getElem?_cons_succ, List.getElem?_cons_zero]; rfl) (by kernel_rfl) (by kernel_rfl) (by kernel_rfl) (by intro _ _ _ h; exact h) (Or.inl ⟨by rfl, ?_⟩) (by assumption) ?_
    rotate_left
    · intro w hSw; (try dsimp only at hSw); go_simp; try with_reducible rfl
    try simp only [Act.put, List.setIfInBounds_toArray, List.set_cons_zero, List.set_cons_succ]
    refine wpAnyH_take (i := 24) (v := ?_) (by simp only [List.getElem?_toArray, List.getElem?_cons_succ, List.getElem?_cons_zero]; rfl) (by kernel_rfl) (by kernel_rfl) (by kernel_rfl) (by intro _ _ _ h; exact h) (Or.inl ⟨by rfl, ?_⟩) (by assumption) ?_
    rotate_left
    · intro w hSw; (try dsimp only at hSw); go_simp; try with_reducible rfl
    try simp only [Act.put, List.setIfInBounds_toArray, List.set_cons_zero, List.set_cons_succ]
    refine wpAnyH_take (i := 25) (v := ?_) (by simp only [List.getElem?_toArray, List.getElem?_cons_succ, List.getElem?_cons_zero]; rfl) (by kernel_rfl) (by kernel_rfl) (by kernel_rfl) (by intro _ _ _ h; exact h) (Or.inl ⟨by rfl, ?_⟩) (by assumption) ?_
    rotate_left
    · intro w hSw; (try dsimp only at hSw); go_simp; try with_reducible rfl
    try simp only [Act.put, List.setIfInBounds_toArray, List.set_cons_zero, List.set_cons_succ]
    refine wpAnyH_done (by kernel_rfl) ?_ _
    go_wp2_with fail
    go_ret
    exact ⟨rfl, HX1.out.trans ((HB5.out.trans (HB10.out.mono HB5.out.size)).mono HX1.out.size)⟩
  · have d9 : decide (n ≤ 300) = false := by simpa using h9
    rw [d9]
    go_wp2_with fail
    go_ret
    exact ⟨rfl, HX1.out.trans (HB3.out.mono HX1.out.size)⟩
end Go.Proofs.Ytbhbebidkeejbaa
