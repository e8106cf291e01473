/- The chapter's example (live). -/
import Derived.Test.YtbhbebidkeejbaaQ15
namespace Go.Proofs.Ytbhbebidkeejbaa
open Go.RowKit Go.Shelf
set_option linter.unusedVariables false
set_option linter.unusedSimpArgs false

def L1 : List EvV := [⟨2, 0, 0, 5, 50⟩]
def L2 : List EvV := [⟨1, 1, 1, 6, 60⟩, ⟨2, 0, 0, 5, 50⟩]
def L3 : List EvV := [⟨1, 0, 2, 7, 70⟩, ⟨1, 1, 1, 6, 60⟩, ⟨2, 0, 0, 5, 50⟩]
theorem posL_eq (l : List EvV) (y : WhenV) : posL l y = (l.takeWhile (fun e => decide (e.t < y.t ∨ (e.t = y.t ∧ (e.d < y.d ∨ (e.d = y.d ∧ e.no < y.no)))))).length := by
  unfold posL
  congr 1
theorem nil_lat (w : World) (a : Option Addr) : LAt w a [] := ⟨.inl rfl, fun e he => by cases he⟩
theorem live1 (W : World) : Calls Try.prog 11 #[.agg #[.slice none 0 0, .int .i64 0, .int .i64 0, .int .i64 0], .int .i64 2, .int .i64 0, .int .i64 5, .int .u64 50] W fun e w' =>
    ∃ a c, e = .returned (.tuple #[.agg #[.slice a 1 c, .int .i64 0, .int .i64 0, .int .i64 1], .int .i64 0]) ∧ 1 ≤ c ∧ LAt w' a L1 ∧ Below W.heap.size W w' := by
  refine Calls.mono (push11 W none 0 0 0 0 0 [] rfl (nil_lat _ _) (by omega) ⟨by decide, by decide⟩ 2 0 5 50 ⟨by decide, by decide⟩ ⟨by decide, by decide⟩ ⟨by decide, by decide⟩ ⟨by decide, by decide⟩) ?_
  intro e w' h
  unfold Pushed at h
  rw [if_pos (by decide)] at h
  have hL : pushL [] ⟨2, 0, 0, 5, 50⟩ = L1 := by unfold pushL; rw [posL_eq]; rfl
  rw [hL] at h
  obtain ⟨a, c, rfl, h1, h2, h3, h4⟩ := h
  exact ⟨a, c, rfl, h1, h3, h4⟩
theorem live2 (W : World) (a : Option Addr) (c : Nat) (h : LAt W a L1) : Calls Try.prog 11 #[.agg #[.slice a 1 c, .int .i64 0, .int .i64 0, .int .i64 1], .int .i64 1, .int .i64 1, .int .i64 6, .int .u64 60] W fun e w' =>
    ∃ a c, e = .returned (.tuple #[.agg #[.slice a 2 c, .int .i64 0, .int .i64 0, .int .i64 2], .int .i64 0]) ∧ 2 ≤ c ∧ LAt w' a L2 ∧ Below W.heap.size W w' := by
  refine Calls.mono (push11 W a 1 c 0 0 1 L1 rfl h (by omega) ⟨by decide, by decide⟩ 1 1 6 60 ⟨by decide, by decide⟩ ⟨by decide, by decide⟩ ⟨by decide, by decide⟩ ⟨by decide, by decide⟩) ?_
  intro e w' h
  unfold Pushed at h
  rw [if_pos (by decide)] at h
  have hL : pushL L1 ⟨1, 1, 1, 6, 60⟩ = L2 := by unfold pushL; rw [posL_eq]; rfl
  rw [hL] at h
  obtain ⟨a, c, rfl, h1, h2, h3, h4⟩ := h
  exact ⟨a, c, rfl, h1, h3, h4⟩
theorem live3 (W : World) (a : Option Addr) (c : Nat) (h : LAt W a L2) : Calls Try.prog 11 #[.agg #[.slice a 2 c, .int .i64 0, .int .i64 0, .int .i64 2], .int .i64 1, .int .i64 0, .int .i64 7, .int .u64 70] W fun e w' =>
    ∃ a c, e = .returned (.tuple #[.agg #[.slice a 3 c, .int .i64 0, .int .i64 0, .int .i64 3], .int .i64 0]) ∧ 3 ≤ c ∧ LAt w' a L3 ∧ Below W.heap.size W w' := by
  refine Calls.mono (push11 W a 2 c 0 0 2 L2 rfl h (by omega) ⟨by decide, by decide⟩ 1 0 7 70 ⟨by decide, by decide⟩ ⟨by decide, by decide⟩ ⟨by decide, by decide⟩ ⟨by decide, by decide⟩) ?_
  intro e w' h
  unfold Pushed at h
  rw [if_pos (by decide)] at h
  have hL : pushL L2 ⟨1, 0, 2, 7, 70⟩ = L3 := by unfold pushL; rw [posL_eq]; rfl
  rw [hL] at h
  obtain ⟨a, c, rfl, h1, h2, h3, h4⟩ := h
  exact ⟨a, c, rfl, h1, h3, h4⟩
theorem live4 (W : World) (a : Option Addr) (c : Nat) (h : LAt W a L3) (hc : 3 ≤ c) : Calls Try.prog 18 #[.agg #[.slice a 3 c, .int .i64 0, .int .i64 0, .int .i64 3]] W fun e w' =>
    ∃ a c, e = .returned (.tuple #[.agg #[.slice a 2 c, .int .i64 1, .int .i64 0, .int .i64 3], .agg #[.int .i64 1, .int .i64 0, .int .i64 2, .int .i64 7, .int .u64 70], .int .i64 0]) ∧ 2 ≤ c ∧ LAt w' a L2 ∧ Below W.heap.size W w' := by
  refine Calls.mono (pop18 W a 3 c 0 0 3 L3 rfl h (by omega) hc) ?_
  intro e w' h
  unfold Popped at h
  rw [if_pos (by decide)] at h
  obtain ⟨a, c, rfl, h1, h2, h3, h4⟩ := h
  exact ⟨a, c, rfl, h1, h3, h4⟩
theorem live5 (W : World) (a : Option Addr) (c : Nat) (h : LAt W a L2) (hc : 2 ≤ c) : Calls Try.prog 20 #[.agg #[.slice a 2 c, .int .i64 1, .int .i64 0, .int .i64 3]] W fun e w' =>
    ∃ a c b d, e = .returned (.tuple #[.agg #[.slice a 1 c, .int .i64 1, .int .i64 1, .int .i64 3], .slice b 1 d, .int .i64 0]) ∧ 1 ≤ c ∧ LAt w' a L1 ∧ LAt w' b [⟨1, 1, 1, 6, 60⟩] ∧ Below W.heap.size W w' := by
  refine Calls.mono (take20 W a 2 c 1 0 3 L2 rfl h (by omega) hc) ?_
  intro e w' h
  unfold Came at h
  rw [if_pos (by decide), show comeR takeR L2 = 0 by decide] at h
  obtain ⟨a, c, b, d, rfl, h1, h2, h3, h4, h5, h6, h7⟩ := h
  exact ⟨a, c, b, d, rfl, h1, h5, h6, h7⟩
theorem live6 (W : World) (a : Option Addr) (c : Nat) (h : LAt W a L1) : Calls Try.prog 11 #[.agg #[.slice a 1 c, .int .i64 1, .int .i64 1, .int .i64 3], .int .i64 1, .int .i64 0, .int .i64 1, .int .u64 1] W fun e w' =>
    ∃ a c, e = .returned (.tuple #[.agg #[.slice a 0 c, .int .i64 0, .int .i64 0, .int .i64 0], .int .i64 140]) ∧ Below W.heap.size W w' := by
  refine Calls.mono (push11 W a 1 c 1 1 3 L1 rfl h (by omega) ⟨by decide, by decide⟩ 1 0 1 1 ⟨by decide, by decide⟩ ⟨by decide, by decide⟩ ⟨by decide, by decide⟩ ⟨by decide, by decide⟩) ?_
  intro e w' h
  unfold Pushed at h
  rw [show pushE 1 1 3 L1 1 0 1 = 140 by decide, if_neg (by decide)] at h
  obtain ⟨a, c, rfl, h1, h2, h3, h4⟩ := h
  exact ⟨a, c, rfl, h4⟩
theorem live7 (W : World) (a : Option Addr) (c : Nat) (h : LAt W a L1) : Calls Try.prog 11 #[.agg #[.slice a 1 c, .int .i64 1, .int .i64 1, .int .i64 3], .int .i64 1, .int .i64 (-1), .int .i64 1, .int .u64 1] W fun e w' =>
    ∃ a c, e = .returned (.tuple #[.agg #[.slice a 0 c, .int .i64 0, .int .i64 0, .int .i64 0], .int .i64 1]) ∧ Below W.heap.size W w' := by
  refine Calls.mono (push11 W a 1 c 1 1 3 L1 rfl h (by omega) ⟨by decide, by decide⟩ 1 (-1) 1 1 ⟨by decide, by decide⟩ ⟨by decide, by decide⟩ ⟨by decide, by decide⟩ ⟨by decide, by decide⟩) ?_
  intro e w' h
  unfold Pushed at h
  rw [show pushE 1 1 3 L1 1 (-1) 1 = 1 by decide, if_neg (by decide)] at h
  obtain ⟨a, c, rfl, h1, h2, h3, h4⟩ := h
  exact ⟨a, c, rfl, h4⟩
theorem live8 (W : World) : Calls Try.prog 18 #[.agg #[.slice none 0 0, .int .i64 0, .int .i64 0, .int .i64 0]] W fun e w' =>
    ∃ a c, e = .returned (.tuple #[.agg #[.slice a 0 c, .int .i64 0, .int .i64 0, .int .i64 0], .agg #[.int .i64 0, .int .i64 0, .int .i64 0, .int .i64 0, .int .u64 0], .int .i64 141]) ∧ Below W.heap.size W w' := by
  refine Calls.mono (pop18 W none 0 0 0 0 0 [] rfl (nil_lat _ _) (by omega) (by omega)) ?_
  intro e w' h
  unfold Popped at h
  rw [show comeE 0 0 0 [] = 141 by decide, if_neg (by decide)] at h
  obtain ⟨a, c, rfl, h1, h2, h3, h4⟩ := h
  exact ⟨a, c, rfl, h4⟩

set_option maxRecDepth 100000 in
set_option maxHeartbeats 4000000 in
theorem live9 (w : World) : Calls Try.prog 9 #[] w fun e w' => e = .returned (.bool true) ∧ Below w.heap.size w w' := by
  go_enter Try.func9, Try.ntmps9
  go_wp2_with fail
  refine Calls.mono (live1 _) ?_
  rintro e w1 ⟨a1, c1, rfl, hc1, hl1, hb1⟩
  have HB1 := Lib.hid hb1
  have HL1 := Lib.hid hl1
  clear hc1 hl1 hb1
  go_wp2_with fail
  obtain ⟨V1, hV1⟩ : ∃ V, V = w1.alloc (Obj.cells #[Value.slice a1 1 c1, Value.int IntKind.i64 0, Value.int IntKind.i64 0, Value.int IntKind.i64 1] 24) := ⟨_, rfl⟩
  rw [← hV1]
  have HV1 := Lib.hid hV1
  clear hV1
  have HW1 : Hid (Below w1.heap.size w1 V1) := Lib.hid (by rw [HV1.out]; exact (Below.refl _ _).alloc (Nat.le_refl _) _)
  refine Calls.mono (live2 V1 a1 c1 (HL1.out.below HW1.out (Nat.le_refl _))) ?_
  rintro e w2 ⟨a2, c2, rfl, hc2, hl2, hb2⟩
  have HB2 := Lib.hid hb2
  have HL2 := Lib.hid hl2
  clear hc2 hl2 hb2
  go_wp2_with fail
  obtain ⟨V2, hV2⟩ : ∃ V, V = w2.alloc (Obj.cells #[Value.slice a2 2 c2, Value.int IntKind.i64 0, Value.int IntKind.i64 0, Value.int IntKind.i64 2] 24) := ⟨_, rfl⟩
  rw [← hV2]
  have HV2 := Lib.hid hV2
  clear hV2
  have HW2 : Hid (Below w2.heap.size w2 V2) := Lib.hid (by rw [HV2.out]; exact (Below.refl _ _).alloc (Nat.le_refl _) _)
  refine Calls.mono (live3 V2 a2 c2 (HL2.out.below HW2.out (Nat.le_refl _))) ?_
  rintro e w3 ⟨a3, c3, rfl, hc3, hl3, hb3⟩
  have HB3 := Lib.hid hb3
  have HL3 := Lib.hid hl3
  have HC3 := Lib.hid hc3
  clear hc3 hl3 hb3
  go_wp2_with fail
  obtain ⟨V3, hV3⟩ : ∃ V, V = w3.alloc (Obj.cells #[Value.slice a3 3 c3, Value.int IntKind.i64 0, Value.int IntKind.i64 0, Value.int IntKind.i64 3] 24) := ⟨_, rfl⟩
  rw [← hV3]
  have HV3 := Lib.hid hV3
  clear hV3
  have HW3 : Hid (Below w3.heap.size w3 V3) := Lib.hid (by rw [HV3.out]; exact (Below.refl _ _).alloc (Nat.le_refl _) _)
  have p0 : V3.cell? ⟨w3.heap.size, 0, none⟩ = some (.slice a3 3 c3) := by rw [HV3.out]; simp
  have p1 : V3.cell? ⟨w3.heap.size, 1, none⟩ = some (.int .i64 0) := by rw [HV3.out]; simp
  have p2 : V3.cell? ⟨w3.heap.size, 2, none⟩ = some (.int .i64 0) := by rw [HV3.out]; simp
  have p3 : V3.cell? ⟨w3.heap.size, 3, none⟩ = some (.int .i64 3) := by rw [HV3.out]; simp
  obtain ⟨P5, hP5⟩ : ∃ p, p = w3.heap.size := ⟨_, rfl⟩
  rw [← hP5] at p0 p1 p2 p3 ⊢
  have HP5 := Lib.hid hP5
  have HF3 := Lib.hid (And.intro p0 (And.intro p1 (And.intro p2 (And.intro p3 (HL3.out.below HW3.out (Nat.le_refl _))))))
  clear p0 p1 p2 p3 hP5
  refine Calls.mono (live4 V3 a3 c3 HF3.out.2.2.2.2 HC3.out) ?_
  rintro e w4 ⟨a4, c4, rfl, hc4, hl4, hb4⟩
  have HB4 := Lib.hid hb4
  have HL4 := Lib.hid hl4
  have HC4 := Lib.hid hc4
  clear hc4 hl4 hb4
  go_wp2_with fail
  obtain ⟨V4, hV4⟩ : ∃ V, V = (w4.alloc (Obj.cells #[Value.slice a4 2 c4, Value.int IntKind.i64 1, Value.int IntKind.i64 0, Value.int IntKind.i64 3] 24)).alloc (Obj.cells #[Value.int IntKind.i64 1, Value.int IntKind.i64 0, Value.int IntKind.i64 2, Value.int IntKind.i64 7, Value.int IntKind.u64 70] 35) := ⟨_, rfl⟩
  rw [← hV4]
  have HV4 := Lib.hid hV4
  clear hV4
  have HW4 : Hid (Below w4.heap.size w4 V4) := Lib.hid (by rw [HV4.out]; exact ((Below.refl _ _).alloc (Nat.le_refl _) _).alloc (by simp) _)
  have eZ : ∀ W : World, (W.alloc (Obj.cells #[Value.int IntKind.i64 1, Value.int IntKind.i64 0, Value.int IntKind.i64 2, Value.int IntKind.i64 7, Value.int IntKind.u64 70] 35)).cell? ⟨W.heap.size, 0, none⟩ = some (.int .i64 1) ∧ (W.alloc (Obj.cells #[Value.int IntKind.i64 1, Value.int IntKind.i64 0, Value.int IntKind.i64 2, Value.int IntKind.i64 7, Value.int IntKind.u64 70] 35)).cell? ⟨W.heap.size, 1, none⟩ = some (.int .i64 0) ∧ (W.alloc (Obj.cells #[Value.int IntKind.i64 1, Value.int IntKind.i64 0, Value.int IntKind.i64 2, Value.int IntKind.i64 7, Value.int IntKind.u64 70] 35)).cell? ⟨W.heap.size, 2, none⟩ = some (.int .i64 2) ∧ (W.alloc (Obj.cells #[Value.int IntKind.i64 1, Value.int IntKind.i64 0, Value.int IntKind.i64 2, Value.int IntKind.i64 7, Value.int IntKind.u64 70] 35)).cell? ⟨W.heap.size, 3, none⟩ = some (.int .i64 7) ∧ (W.alloc (Obj.cells #[Value.int IntKind.i64 1, Value.int IntKind.i64 0, Value.int IntKind.i64 2, Value.int IntKind.i64 7, Value.int IntKind.u64 70] 35)).cell? ⟨W.heap.size, 4, none⟩ = some (.int .u64 70) := fun W => ⟨by simp, by simp, by simp, by simp, by simp⟩
  have HF4 := eZ (w4.alloc (Obj.cells #[Value.slice a4 2 c4, Value.int IntKind.i64 1, Value.int IntKind.i64 0, Value.int IntKind.i64 3] 24))
  rw [← HV4.out, show (w4.alloc (Obj.cells #[Value.slice a4 2 c4, Value.int IntKind.i64 1, Value.int IntKind.i64 0, Value.int IntKind.i64 3] 24)).heap.size = w4.heap.size + 1 by simp] at HF4
  obtain ⟨P8, hP8⟩ : ∃ p, p = w4.heap.size + 1 := ⟨_, rfl⟩
  (try rw [← hP8] at HF4 ⊢)
  have HP8 := Lib.hid hP8
  have HF4 := Lib.hid HF4
  clear hP8 eZ
  refine Calls.mono (live5 V4 a4 c4 (HL4.out.below HW4.out (Nat.le_refl _)) HC4.out) ?_
  rintro e w5 ⟨a5, c5, b5, d5, rfl, hc5, hl5, hm5, hb5⟩
  have HB5 := Lib.hid hb5
  have HL5 := Lib.hid hl5
  have HM5 := Lib.hid hm5
  clear hc5 hl5 hm5 hb5
  go_wp2_with fail
  obtain ⟨V5, hV5⟩ : ∃ V, V = w5.alloc (Obj.cells #[Value.slice a5 1 c5, Value.int IntKind.i64 1, Value.int IntKind.i64 1, Value.int IntKind.i64 3] 24) := ⟨_, rfl⟩
  rw [← hV5]
  have HV5 := Lib.hid hV5
  clear hV5
  have HW5 : Hid (Below w5.heap.size w5 V5) := Lib.hid (by rw [HV5.out]; exact (Below.refl _ _).alloc (Nat.le_refl _) _)
  have p0 : V5.cell? ⟨w5.heap.size, 0, none⟩ = some (.slice a5 1 c5) := by rw [HV5.out]; simp
  have p1 : V5.cell? ⟨w5.heap.size, 1, none⟩ = some (.int .i64 1) := by rw [HV5.out]; simp
  have p2 : V5.cell? ⟨w5.heap.size, 2, none⟩ = some (.int .i64 1) := by rw [HV5.out]; simp
  have p3 : V5.cell? ⟨w5.heap.size, 3, none⟩ = some (.int .i64 3) := by rw [HV5.out]; simp
  obtain ⟨P10, hP10⟩ : ∃ p, p = w5.heap.size := ⟨_, rfl⟩
  rw [← hP10] at p0 p1 p2 p3 ⊢
  have HP10 := Lib.hid hP10
  have HF5 := Lib.hid (And.intro p0 (And.intro p1 (And.intro p2 (And.intro p3 (HL5.out.below HW5.out (Nat.le_refl _))))))
  clear p0 p1 p2 p3 hP10
  refine Calls.mono (live6 V5 a5 c5 HF5.out.2.2.2.2) ?_
  rintro e w6 ⟨a6, c6, rfl, hb6⟩
  have HB6 := Lib.hid hb6
  clear hb6
  have HK6 : Hid (∀ W, Below w6.heap.size w6 W → W.cell? ⟨P10, 0, none⟩ = some (.slice a5 1 c5) ∧ W.cell? ⟨P10, 1, none⟩ = some (.int .i64 1) ∧ W.cell? ⟨P10, 2, none⟩ = some (.int .i64 1) ∧ W.cell? ⟨P10, 3, none⟩ = some (.int .i64 3) ∧ LAt W a5 L1) := Lib.hid (fun W hW => by
    have hb : Below V5.heap.size V5 W := HB6.out.trans (hW.mono HB6.out.size)
    have cl : ∀ {b j : Nat} {u : Value}, V5.cell? ⟨b, j, none⟩ = some u → W.cell? ⟨b, j, none⟩ = some u := fun h => (hb.cell (p := ⟨_, _, none⟩) (World.block_lt_of_cell? V5 _ h)).trans h
    exact ⟨cl HF5.out.1, cl HF5.out.2.1, cl HF5.out.2.2.1, cl HF5.out.2.2.2.1, HF5.out.2.2.2.2.below hb (Nat.le_refl _)⟩)
  obtain ⟨p0, p1, p2, p3, -⟩ := HK6.out _ ((Below.refl _ _).alloc (Nat.le_refl _) (Obj.cells #[Value.slice a6 0 c6, Value.int IntKind.i64 0, Value.int IntKind.i64 0, Value.int IntKind.i64 0] 24))
  go_wp2_with fail
  clear p0 p1 p2 p3
  obtain ⟨V6, hV6⟩ : ∃ V, V = w6.alloc (Obj.cells #[Value.slice a6 0 c6, Value.int IntKind.i64 0, Value.int IntKind.i64 0, Value.int IntKind.i64 0] 24) := ⟨_, rfl⟩
  rw [← hV6]
  have HV6 := Lib.hid hV6
  clear hV6
  have HW6 : Hid (Below w6.heap.size w6 V6) := Lib.hid (by rw [HV6.out]; exact (Below.refl _ _).alloc (Nat.le_refl _) _)
  refine Calls.mono (live7 V6 a5 c5 (HK6.out _ HW6.out).2.2.2.2) ?_
  rintro e w7 ⟨a7, c7, rfl, hb7⟩
  have HB7 := Lib.hid hb7
  clear hb7
  go_wp2_with fail
  obtain ⟨V7, hV7⟩ : ∃ V, V = w7.alloc (Obj.cells #[Value.slice a7 0 c7, Value.int IntKind.i64 0, Value.int IntKind.i64 0, Value.int IntKind.i64 0] 24) := ⟨_, rfl⟩
  rw [← hV7]
  have HV7 := Lib.hid hV7
  clear hV7
  have HW7 : Hid (Below w7.heap.size w7 V7) := Lib.hid (by rw [HV7.out]; exact (Below.refl _ _).alloc (Nat.le_refl _) _)
  refine Calls.mono (live8 V7) ?_
  rintro e w8 ⟨a8, c8, rfl, hb8⟩
  obtain ⟨V8, hV8⟩ : ∃ V, V = (w8.alloc (Obj.cells #[Value.slice a8 0 c8, Value.int IntKind.i64 0, Value.int IntKind.i64 0, Value.int IntKind.i64 0] 24)).alloc (Obj.cells #[Value.int IntKind.i64 0, Value.int IntKind.i64 0, Value.int IntKind.i64 0, Value.int IntKind.i64 0, Value.int IntKind.u64 0] 35) := ⟨_, rfl⟩
  have HV8 := Lib.hid hV8
  have HW8 : Hid (Below w8.heap.size w8 V8) := Lib.hid (by rw [hV8]; exact ((Below.refl _ _).alloc (Nat.le_refl _) _).alloc (by simp) _)
  have b6 : Below V6.heap.size V6 V8 := HB7.out.trans ((HW7.out.trans ((hb8.trans (HW8.out.mono hb8.size)).mono HW7.out.size)).mono HB7.out.size)
  have b5 : Below V5.heap.size V5 V8 := HB6.out.trans ((HW6.out.trans (b6.mono HW6.out.size)).mono HB6.out.size)
  have b4 : Below V4.heap.size V4 V8 := HB5.out.trans ((HW5.out.trans (b5.mono HW5.out.size)).mono HB5.out.size)
  have b3 : Below V3.heap.size V3 V8 := HB4.out.trans ((HW4.out.trans (b4.mono HW4.out.size)).mono HB4.out.size)
  have b1 : Below w.heap.size w V8 := HB1.out.trans ((HW1.out.trans ((HB2.out.trans ((HW2.out.trans ((HB3.out.trans ((HW3.out.trans (b3.mono HW3.out.size)).mono HB3.out.size)).mono HW2.out.size)).mono HB2.out.size)).mono HW1.out.size)).mono HB1.out.size)
  obtain ⟨eb, eo, rfl, -, -, -, -, e3, -⟩ := HM5.out.ev 0 (by decide)
  rw [Nat.zero_mul, Nat.add_zero] at e3
  have e3' : V5.cell? ⟨eb, eo + 3, none⟩ = some (.int .i64 6) := (HW5.out.cell (p := ⟨_, _, none⟩) (World.block_lt_of_cell? w5 _ e3)).trans e3
  have HF : Hid (∀ W, Below V8.heap.size V8 W → W.cell? ⟨P5, 0, none⟩ = some (.slice a3 3 c3) ∧ W.cell? ⟨P5, 1, none⟩ = some (.int .i64 0) ∧ W.cell? ⟨P5, 2, none⟩ = some (.int .i64 0) ∧ W.cell? ⟨P5, 3, none⟩ = some (.int .i64 3) ∧ W.cell? ⟨P8, 0, none⟩ = some (.int .i64 1) ∧ W.cell? ⟨P8, 1, none⟩ = some (.int .i64 0) ∧ W.cell? ⟨P8, 2, none⟩ = some (.int .i64 2) ∧ W.cell? ⟨P8, 3, none⟩ = some (.int .i64 7) ∧ W.cell? ⟨P8, 4, none⟩ = some (.int .u64 70) ∧ W.cell? ⟨P10, 0, none⟩ = some (.slice a5 1 c5) ∧ W.cell? ⟨P10, 1, none⟩ = some (.int .i64 1) ∧ W.cell? ⟨P10, 2, none⟩ = some (.int .i64 1) ∧ W.cell? ⟨P10, 3, none⟩ = some (.int .i64 3) ∧ W.cell? ⟨eb, eo + 3, none⟩ = some (.int .i64 6) ∧ LAt W a3 L3) := Lib.hid (fun W hW => by
    have t3 : Below V3.heap.size V3 W := b3.trans (hW.mono b3.size)
    have t4 : Below V4.heap.size V4 W := b4.trans (hW.mono b4.size)
    have t5 : Below V5.heap.size V5 W := b5.trans (hW.mono b5.size)
    have cl3 : ∀ {b j : Nat} {u : Value}, V3.cell? ⟨b, j, none⟩ = some u → W.cell? ⟨b, j, none⟩ = some u := fun h => (t3.cell (p := ⟨_, _, none⟩) (World.block_lt_of_cell? V3 _ h)).trans h
    have cl4 : ∀ {b j : Nat} {u : Value}, V4.cell? ⟨b, j, none⟩ = some u → W.cell? ⟨b, j, none⟩ = some u := fun h => (t4.cell (p := ⟨_, _, none⟩) (World.block_lt_of_cell? V4 _ h)).trans h
    have cl5 : ∀ {b j : Nat} {u : Value}, V5.cell? ⟨b, j, none⟩ = some u → W.cell? ⟨b, j, none⟩ = some u := fun h => (t5.cell (p := ⟨_, _, none⟩) (World.block_lt_of_cell? V5 _ h)).trans h
    exact ⟨cl3 HF3.out.1, cl3 HF3.out.2.1, cl3 HF3.out.2.2.1, cl3 HF3.out.2.2.2.1, cl4 HF4.out.1, cl4 HF4.out.2.1, cl4 HF4.out.2.2.1, cl4 HF4.out.2.2.2.1, cl4 HF4.out.2.2.2.2, cl5 HF5.out.1, cl5 HF5.out.2.1, cl5 HF5.out.2.2.1, cl5 HF5.out.2.2.2.1, cl5 e3', HF3.out.2.2.2.2.below t3 (Nat.le_refl _)⟩)
  have HBw := Lib.hid b1
  have hFV := HF.out V8 (Below.refl _ _)
  rw [hV8] at hFV
  obtain ⟨q0, q1, q2, q3, x0, x1, x2, x3, x4, p0, p1, p2, p3, ev, hq⟩ := hFV
  clear b1 b3 b4 b5 b6 e3 e3' hV8 hb8
  go_wp2_with fail
  (try rw [← HV8.out])
  refine Calls.mono (empty15 _ none 0 0 0 0 0) ?_
  rintro e w9 ⟨rfl, hb9⟩
  clear q0 q1 q2 q3 x0 x1 x2 x3 x4 p0 p1 p2 p3 ev hq
  have HB9 : Hid (Below V8.heap.size V8 w9) := Lib.hid (hb9)
  clear hb9
  obtain ⟨q0, q1, q2, q3, x0, x1, x2, x3, x4, p0, p1, p2, p3, ev, hq⟩ := HF.out w9 HB9.out
  go_wp2_with fail
  refine Calls.mono (empty15 _ a5 1 c5 1 1 3) ?_
  rintro e w10 ⟨rfl, hb10⟩
  clear q0 q1 q2 q3 x0 x1 x2 x3 x4 p0 p1 p2 p3 ev hq
  have HB10 : Hid (Below V8.heap.size V8 w10) := Lib.hid (HB9.out.trans (hb10.mono HB9.out.size))
  clear hb10
  obtain ⟨q0, q1, q2, q3, x0, x1, x2, x3, x4, p0, p1, p2, p3, ev, hq⟩ := HF.out w10 HB10.out
  go_wp2_with fail
  refine Calls.mono (check13 _ none 0 0 (-1) 0 0 [] rfl (nil_lat _ _) (by omega)) ?_
  rintro e w11 ⟨rfl, hb11⟩
  rw [show checkE (-1) 0 0 [] = 1 by decide]
  clear q0 q1 q2 q3 x0 x1 x2 x3 x4 p0 p1 p2 p3 ev hq
  have HB11 : Hid (Below V8.heap.size V8 w11) := Lib.hid (HB10.out.trans (hb11.mono HB10.out.size))
  clear hb11
  obtain ⟨q0, q1, q2, q3, x0, x1, x2, x3, x4, p0, p1, p2, p3, ev, hq⟩ := HF.out w11 HB11.out
  go_wp2_with fail
  refine Calls.mono (check13 _ a3 3 c3 0 0 3 L3 rfl hq (by omega)) ?_
  rintro e w12 ⟨rfl, hb12⟩
  rw [show checkE 0 0 3 L3 = 0 by decide]
  clear q0 q1 q2 q3 x0 x1 x2 x3 x4 p0 p1 p2 p3 ev hq
  have HB12 : Hid (Below V8.heap.size V8 w12) := Lib.hid (HB11.out.trans (hb12.mono HB11.out.size))
  clear hb12
  obtain ⟨q0, q1, q2, q3, x0, x1, x2, x3, x4, p0, p1, p2, p3, ev, hq⟩ := HF.out w12 HB12.out
  go_wp2_with fail
  go_ret
  exact ⟨rfl, HBw.out.trans (HB12.out.mono HBw.out.size)⟩
end Go.Proofs.Ytbhbebidkeejbaa
