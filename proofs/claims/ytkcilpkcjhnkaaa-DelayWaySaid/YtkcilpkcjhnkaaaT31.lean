import Derived.Test.YtkcilpkcjhnkaaaP6
namespace Go.Proofs.Ytkcilpkcjhnkaaa
open Go.RowKit
set_option linter.unusedVariables false
set_option linter.unusedSimpArgs false

theorem NetAt.hold {w : World} {N : NetV} (h : NetAt w N) (k : Nat) (hk : k < N.holds.length) :
    ∃ b off, N.ha = some ⟨b, off, none⟩ ∧ b < w.heap.size ∧ w.cell? ⟨b, off + k * 2, none⟩ = some (.int .i64 (N.holds.getD k default).d) ∧
      w.cell? ⟨b, off + k * 2 + 1, none⟩ = some (.bool (N.holds.getD k default).init) := by
  obtain ⟨b, off, ha, hb, hc⟩ := h.holds.at (2 * k) (by omega)
  refine ⟨b, off, ha, hb, ?_, ?_⟩
  · have := hc (k * 2) (by omega)
    rw [this]; simp only [holdCell]
    rw [if_pos (by omega), show k * 2 / 2 = k by omega]
  · have := hc (k * 2 + 1) (by omega)
    rw [Nat.add_assoc, this]; simp only [holdCell]
    rw [if_neg (by omega), show (k * 2 + 1) / 2 = k by omega]

set_option maxHeartbeats 1000000 in
theorem cloneInts (w : World) (a : Option Addr) (n c : Nat) (l : List Int) (hl : l.length = n) (hn : n ≤ 100000) (S : Seq w a n (ints l)) :
    Calls Try.prog 62 #[.slice a n c] w (NewList w l) := by
  have q : ∀ (w : World) (a : Option Addr) (n c n' c' : Nat), (binOp .eql 24 (.slice a n c) (.slice none n' c')).run Try.prog w = .ok (.bool a.isNone) w := fun w a n c n' c' => Lib.run_eql_slice_nil w _ _ a n c n' c' Try.underlying24
  cases a with
  | none =>
    obtain rfl : n = 0 := by rcases S with h | ⟨b, off, h, _⟩; exact h; cases h
    obtain rfl : l = [] := List.eq_nil_of_length_eq_zero hl
    go_enter Try.func62, Try.ntmps62
    go_wp2
    go_ret
    exact ⟨_, rfl, World.ownsRow_nil _ _ _ _, Below.refl _ _⟩
  | some ad =>
    have HS := Lib.hid S
    have HL := Lib.hid hl
    clear S
    subst hl
    obtain ⟨i0, hi, hz0, hz1, hz2⟩ := info_parts info3
    have HB : Below w.heap.size w (w.alloc (Obj.cells #[] 3)) := (Below.refl _ _).alloc (Nat.le_refl _) _
    go_enter Try.func62, Try.ntmps62
    go_wp2_with (at_builtin; refine wpList_append_seq rfl _ _ 24 rfl w.heap.size 3 i0 (.int .i64 0) 8 Try.underlying24 hi hz0 hz1 hz2 rfl _ _ _ rfl (World.ownsRow_lit w #[] 0 (Nat.le_refl _) (Nat.zero_le _) rfl) (some ad) l.length c (l.map (Value.int .i64)) (ints l) rfl ?c1 ?c2 ?c3 (ints_one l) ?c4 ?c5 ?c6 ?_)
    case c2 => exact HS.out.below HB (Nat.le_refl _)
    case c3 => intro j hj; have := ints_get l j hj; simpa using this
    case c4 => unfold maxLen; omega
    case c5 => omega
    intro v' w1 hown hgrow
    go_wp2
    go_ret
    exact ⟨v', rfl, by simpa using hown, HB.grown hgrow (by simp) (by intro k hk; simp [Value.ownBlock] at hk; omega)⟩

set_option maxRecDepth 100000 in
set_option maxHeartbeats 2000000 in
theorem ends (w : World) (N : NetV) (h : NetAt w N) (f : Few N) : Calls Try.prog 39 #[N.val] w (NewList w (endsOf N)) := by
  have hb := Box.start w N
  have HBX := Lib.hid hb
  have e1 := hb.c1
  have e3 := hb.c3
  have hs := hb.size
  have hf1 := f.holds
  have hf4 := f.outs
  have hO := h.outs
  have H := Lib.hid h
  have HSO := Lib.hid hO
  obtain ⟨i0, hi, hz0, hz1, hz2⟩ := info_parts info3
  obtain ⟨EE, hEE⟩ : ∃ E, E = endsOf N := ⟨_, rfl⟩
  rw [← hEE]
  have HEE := Lib.hid hEE
  obtain ⟨W0, hW0⟩ : ∃ W, W = w.alloc N.obj := ⟨_, rfl⟩
  rw [← hW0] at e1 e3 hs HBX
  have HW0 := Lib.hid hW0
  clear hb h f hO hW0 hEE
  obtain ⟨ins, ha, hc, holds, la, lc, luts, oa, oc, outs⟩ := N
  dsimp only at hf1 hf4 e1 e3
  go_enter Try.func39, Try.ntmps39
  go_wp2_with fail
  rw [← HW0.out]
  refine (cloneInts W0 oa outs.length oc outs rfl (by omega) (HSO.out.below HBX.out.below (Nat.le_refl _))).mono ?_
  rintro e w1 ⟨v1, rfl, hown1, hb1⟩
  have hbx := HBX.out.step (hb1.mono hs) (Nat.le_refl _)
  have HOwn1 := Lib.hid (hown1.base_le (base' := w.heap.size + 1) hs)
  clear hown1 hb1
  have HBX1 := Lib.hid hbx
  have k1 := hbx.c1
  dsimp only at k1
  clear hbx e1 e3
  go_wp2
  go_loopw [3, 12] (fun v i wr => ∃ k : Nat, k ≤ holds.length ∧ i = .int .i64 k ∧ Hid (Box w.heap.size w ⟨ins, ha, hc, holds, la, lc, luts, oa, oc, outs⟩ wr ∧ wr.ownsRow (w.heap.size + 1) 3 1 v (outs.length + k) ((outs ++ (holds.take k).map HoldV.d).map (Value.int .i64)))) (fun _ i _ => holds.length - (intOf i).toNat)
  case atStart => exact ⟨0, by omega, rfl, HBX1.out, by simpa using HOwn1.out⟩
  case round =>
    obtain ⟨k, hk, rfl, hh⟩ := hrel
    have hsz := hh.out.1.size
    by_cases hlt : k < holds.length
    · obtain ⟨b, off, rfl, hbb, t0, t1⟩ := (H.out.below hh.out.1.below (Nat.le_refl _)).hold k hlt
      have hst : (outs ++ (holds.take (k + 1)).map HoldV.d).map (Value.int .i64) = (outs ++ (holds.take k).map HoldV.d).map (Value.int .i64) ++ [.int .i64 (holds.getD k default).d] := by
        have e : (holds.take (k + 1)).map HoldV.d = (holds.take k).map HoldV.d ++ [(holds.getD k default).d] := by
          rw [List.take_succ_eq_append_getElem hlt, List.map_append]
          simp [List.getD, List.getElem?_eq_getElem hlt]
        rw [e, ← List.append_assoc, List.map_append, List.map_append]; rfl
      dsimp only at t0 t1
      obtain ⟨d, hd⟩ : ∃ d, d = (holds.getD k default).d := ⟨_, rfl⟩
      obtain ⟨z, hz⟩ : ∃ d, d = (holds.getD k default).init := ⟨_, rfl⟩
      rw [← hd] at t0 hst
      rw [← hz] at t1
      have HSt := Lib.hid hst
      clear hst hd hz
      go_wp2_with (at_builtin; refine wpList_append_seq rfl _ _ 24 rfl (w.heap.size + 1) 3 i0 (.int .i64 0) 8 Try.underlying24 hi hz0 hz1 hz2 rfl _ _ _ rfl ((hh.out.2.alloc _).alloc _) (some ⟨wr.heap.size + 1, 0, none⟩) 1 1 [.int .i64 d] (fun _ => .int .i64 d) rfl rfl ?_ ?_ ?_ ?_ ?_ ?_ ?_)
      · refine .inr ⟨wr.heap.size + 1, 0, rfl, fun j hj => ?_⟩
        obtain rfl : j = 0 := by omega
        simp
      · intro j hj
        obtain rfl : j = 0 := by omega
        rfl
      · simp [Value.oneCell']
      · unfold maxLen; omega
      · omega
      · simp; omega
      intro v' w2 hown2 hgrow2
      have hb2 := ((((Below.refl (w.heap.size + 1) wr).alloc hsz (Obj.cells #[Value.int IntKind.i64 d, Value.bool z] 79)).alloc (by simp; omega) (Obj.cells #[Value.int IntKind.i64 d] 3)).grown hgrow2 (by simp; omega) (fun q e => (hh.out.2.lt q e).1))
      have HB2 := Lib.hid (hh.out.1.step hb2 (Nat.le_refl _))
      have HOwn2 := Lib.hid hown2
      clear hb2 hown2 hgrow2
      go_wp2
      go_roundw
      case rel => exact ⟨k + 1, by omega, by go_num, HB2.out, by rw [HSt.out, ← Nat.add_assoc]; have := HOwn2.out; simpa using this⟩
      case measure => simp [intOf]; omega
    · obtain rfl : k = holds.length := by omega
      go_wp2
      go_ret
      refine ⟨_, rfl, ?_, hh.out.1.below⟩
      have h2 := hh.out.2.base_le (base' := w.heap.size) (by omega)
      rw [List.take_length] at h2
      rw [HEE.out, show (endsOf ⟨ins, ha, hc, holds, la, lc, luts, oa, oc, outs⟩).length = outs.length + holds.length by simp [endsOf]]
      exact h2

set_option maxRecDepth 100000 in
set_option maxHeartbeats 2000000 in
theorem endsR (w : World) (N : NetV) (h : NetAt w N) (f : Few N) : Calls Try.prog 41 #[N.val] w (NewList w (endsOf N)) := by
  have hb := Box.start w N
  have HBX := Lib.hid hb
  have e1 := hb.c1
  have e3 := hb.c3
  have hs := hb.size
  have hf1 := f.holds
  have hf4 := f.outs
  have hO := h.outs
  have H := Lib.hid h
  have HSO := Lib.hid hO
  obtain ⟨i0, hi, hz0, hz1, hz2⟩ := info_parts info3
  obtain ⟨EE, hEE⟩ : ∃ E, E = endsOf N := ⟨_, rfl⟩
  rw [← hEE]
  have HEE := Lib.hid hEE
  obtain ⟨W0, hW0⟩ : ∃ W, W = w.alloc N.obj := ⟨_, rfl⟩
  rw [← hW0] at e1 e3 hs HBX
  have HW0 := Lib.hid hW0
  clear hb h f hO hW0 hEE
  obtain ⟨ins, ha, hc, holds, la, lc, luts, oa, oc, outs⟩ := N
  dsimp only at hf1 hf4 e1 e3
  go_enter Try.func41, Try.ntmps41
  go_wp2_with (at_builtin; rw [← HW0.out]; refine wpList_append_seq rfl _ _ 24 rfl W0.heap.size 3 i0 (.int .i64 0) 8 Try.underlying24 hi hz0 hz1 hz2 rfl _ _ _ rfl (World.ownsRow_nil _ _ _ _) oa outs.length oc (outs.map (Value.int .i64)) (ints outs) rfl (List.length_map _) (HSO.out.below HBX.out.below (Nat.le_refl _)) (ints_get outs) (ints_one outs) (by unfold maxLen; omega) (by omega) (Nat.le_refl _) ?_)
  intro v1 w1 hown1 hgrow1
  have hb1 : Below W0.heap.size W0 w1 := (Below.refl _ _).grown hgrow1 (Nat.le_refl _) (fun k e => by cases e)
  have hbx := HBX.out.step (hb1.mono hs) (Nat.le_refl _)
  have HOwn1 : Hid (w1.ownsRow (w.heap.size + 1) 3 1 v1 outs.length (outs.map (Value.int .i64))) := Lib.hid (by have := hown1.base_le (base' := w.heap.size + 1) hs; simpa using this)
  clear hown1 hb1 hgrow1
  have HBX1 := Lib.hid hbx
  have k1 := hbx.c1
  dsimp only at k1
  clear hbx e1 e3
  go_wp2
  go_loopw [3, 12] (fun v i wr => ∃ k : Nat, k ≤ holds.length ∧ i = .int .i64 k ∧ Hid (Box w.heap.size w ⟨ins, ha, hc, holds, la, lc, luts, oa, oc, outs⟩ wr ∧ wr.ownsRow (w.heap.size + 1) 3 1 v (outs.length + k) ((outs ++ (holds.take k).map HoldV.d).map (Value.int .i64)))) (fun _ i _ => holds.length - (intOf i).toNat)
  case atStart => exact ⟨0, by omega, rfl, HBX1.out, by simpa using HOwn1.out⟩
  case round =>
    obtain ⟨k, hk, rfl, hh⟩ := hrel
    have hsz := hh.out.1.size
    by_cases hlt : k < holds.length
    · obtain ⟨b, off, rfl, hbb, t0, t1⟩ := (H.out.below hh.out.1.below (Nat.le_refl _)).hold k hlt
      have hst : (outs ++ (holds.take (k + 1)).map HoldV.d).map (Value.int .i64) = (outs ++ (holds.take k).map HoldV.d).map (Value.int .i64) ++ [.int .i64 (holds.getD k default).d] := by
        have e : (holds.take (k + 1)).map HoldV.d = (holds.take k).map HoldV.d ++ [(holds.getD k default).d] := by
          rw [List.take_succ_eq_append_getElem hlt, List.map_append]
          simp [List.getD, List.getElem?_eq_getElem hlt]
        rw [e, ← List.append_assoc, List.map_append, List.map_append]; rfl
      dsimp only at t0 t1
      obtain ⟨d, hd⟩ : ∃ d, d = (holds.getD k default).d := ⟨_, rfl⟩
      obtain ⟨z, hz⟩ : ∃ d, d = (holds.getD k default).init := ⟨_, rfl⟩
      rw [← hd] at t0 hst
      rw [← hz] at t1
      have HSt := Lib.hid hst
      clear hst hd hz
      go_wp2_with (at_builtin; refine wpList_append_seq rfl _ _ 24 rfl (w.heap.size + 1) 3 i0 (.int .i64 0) 8 Try.underlying24 hi hz0 hz1 hz2 rfl _ _ _ rfl ((hh.out.2.alloc _).alloc _) (some ⟨wr.heap.size + 1, 0, none⟩) 1 1 [.int .i64 d] (fun _ => .int .i64 d) rfl rfl ?_ ?_ ?_ ?_ ?_ ?_ ?_)
      · refine .inr ⟨wr.heap.size + 1, 0, rfl, fun j hj => ?_⟩
        obtain rfl : j = 0 := by omega
        simp
      · intro j hj
        obtain rfl : j = 0 := by omega
        rfl
      · simp [Value.oneCell']
      · unfold maxLen; omega
      · omega
      · simp; omega
      intro v' w2 hown2 hgrow2
      have hb2 := ((((Below.refl (w.heap.size + 1) wr).alloc hsz (Obj.cells #[Value.int IntKind.i64 d, Value.bool z] 79)).alloc (by simp; omega) (Obj.cells #[Value.int IntKind.i64 d] 3)).grown hgrow2 (by simp; omega) (fun q e => (hh.out.2.lt q e).1))
      have HB2 := Lib.hid (hh.out.1.step hb2 (Nat.le_refl _))
      have HOwn2 := Lib.hid hown2
      clear hb2 hown2 hgrow2
      go_wp2
      go_roundw
      case rel => exact ⟨k + 1, by omega, by go_num, HB2.out, by rw [HSt.out, ← Nat.add_assoc]; have := HOwn2.out; simpa using this⟩
      case measure => simp [intOf]; omega
    · obtain rfl : k = holds.length := by omega
      go_wp2
      go_ret
      refine ⟨_, rfl, ?_, hh.out.1.below⟩
      have h2 := hh.out.2.base_le (base' := w.heap.size) (by omega)
      rw [List.take_length] at h2
      rw [HEE.out, show (endsOf ⟨ins, ha, hc, holds, la, lc, luts, oa, oc, outs⟩).length = outs.length + holds.length by simp [endsOf]]
      exact h2
end Go.Proofs.Ytkcilpkcjhnkaaa
