import Derived.Test.YtkcilpkcjhnkaaaB5
/- T31 -/
namespace Go.Proofs.Ytkcilpkcjhnkaaa
open Go.RowKit
set_option linter.unusedVariables false
set_option linter.unusedSimpArgs false

theorem NetAt.hold {w : World} {N : NetV} (h : NetAt w N) (k : Nat) (hk : k < N.holds.length) :
    ∃ b off, N.ha = some ⟨b, off, none⟩ ∧ b < w.heap.size ∧ w.cell? ⟨b, off + k * 2, none⟩ = some (.int .i64 (N.holds.getD k default).d) ∧
      w.cell? ⟨b, off + k * 2 + 1, none⟩ = some (.bool (N.holds.getD k default).init) := by
  obtain ⟨b, off, ha, hb, hc⟩ := h.holds.at (2 * k) (by omega)
  refine ⟨b, off, ha, hb, ?_, ?_⟩
  · have := hc (k * 2) (by omega)
    rw [this]; simp only [holdCell]
    rw [if_pos (by omega), show k * 2 / 2 = k by omega]
  · have := hc (k * 2 + 1) (by omega)
    rw [Nat.add_assoc, this]; simp only [holdCell]
    rw [if_neg (by omega), show (k * 2 + 1) / 2 = k by omega]

set_option maxHeartbeats 1000000 in
theorem cloneInts (w : World) (a : Option Addr) (n c : Nat) (l : List Int) (hl : l.length = n) (hn : n ≤ 100000) (S : Seq w a n (ints l)) :
    Calls Try.prog 62 #[.slice a n c] w (NewList w l) := by
  have q : ∀ (w : World) (a : Option Addr) (n c n' c' : Nat), (binOp .eql 24 (.slice a n c) (.slice none n' c')).run Try.prog w = .ok (.bool a.isNone) w := fun w a n c n' c' => Lib.run_eql_slice_nil w _ _ a n c n' c' Try.underlying24
  cases a with
  | none =>
    obtain rfl : n = 0 := by rcases S with h | ⟨b, off, h, _⟩; exact h; cases h
    obtain rfl : l = [] := List.eq_nil_of_length_eq_zero hl
    go_enter Try.func62, Try.ntmps62
    go_wp2
    go_ret
    exact ⟨_, rfl, World.ownsRow_nil _ _ _ _, Below.refl _ _⟩
  | some ad =>
    have HS := Lib.hid S
    have HL := Lib.hid hl
    clear S
    subst hl
    obtain ⟨i0, hi, hz0, hz1, hz2⟩ := info_parts info3
    have HB : Below w.heap.size w (w.alloc (Obj.cells #[] 3)) := (Below.refl _ _).alloc (Nat.le_refl _) _
    go_enter Try.func62, Try.ntmps62
    go_wp2_with (at_builtin; refine wpList_append_seq rfl _ _ 24 rfl w.heap.size 3 i0 (.int .i64 0) 8 Try.underlying24 hi hz0 hz1 hz2 rfl _ _ _ rfl (World.ownsRow_lit w #[] 0 (Nat.le_refl _) (Nat.zero_le _) rfl) (some ad) l.length c (l.map (Value.int .i64)) (ints l) rfl ?c1 ?c2 ?c3 (ints_one l) ?c4 ?c5 ?c6 ?_)
    case c2 => exact HS.out.below HB (Nat.le_refl _)
    case c3 => intro j hj; have := ints_get l j hj; simpa using this
    case c4 => unfold maxLen; omega
    case c5 => omega
    intro v' w1 hown hgrow
    go_wp2
    go_ret
    exact ⟨v', rfl, by simpa using hown, HB.grown hgrow (by simp) (by intro k hk; simp [Value.ownBlock] at hk; omega)⟩

set_option maxRecDepth 100000 in
set_option maxHeartbeats 2000000 in
theorem ends (w : World) (N : NetV) (h : NetAt w N) (f : Few N) : Calls Try.prog 39 #[N.val] w (NewList w (endsOf N)) := by
  have hb := Box.start w N
  have HBX := Lib.hid hb
  have e1 := hb.c1
  have e3 := hb.c3
  have hs := hb.size
  have hf1 := f.holds
  have hf4 := f.outs
  have hO := h.outs
  have H := Lib.hid h
  have HSO := Lib.hid hO
  obtain ⟨i0, hi, hz0, hz1, hz2⟩ := info_parts info3
  obtain ⟨EE, hEE⟩ : ∃ E, E = endsOf N := ⟨_, rfl⟩
  rw [← hEE]
  have HEE := Lib.hid hEE
  obtain ⟨W0, hW0⟩ : ∃ W, W = w.alloc N.obj := ⟨_, rfl⟩
  rw [← hW0] at e1 e3 hs HBX
  have HW0 := Lib.hid hW0
  clear hb h f hO hW0 hEE
  obtain ⟨ins, ha, hc, holds, la, lc, luts, oa, oc, outs⟩ := N
  dsimp only at hf1 hf4 e1 e3
  go_enter Try.func39, Try.ntmps39
  go_wp2_with fail
  rw [← HW0.out]
  refine (cloneInts W0 oa outs.length oc outs rfl (by omega) (HSO.out.below HBX.out.below (Nat.le_refl _))).mono ?_
  rintro e w1 ⟨v1, rfl, hown1, hb1⟩
  have hbx := HBX.out.step (hb1.mono hs) (Nat.le_refl _)
  have HOwn1 := Lib.hid (hown1.base_le (base' := w.heap.size + 1) hs)
  clear hown1 hb1
  have HBX1 := Lib.hid hbx
  have k1 := hbx.c1
  dsimp only at k1
  clear hbx e1 e3
  go_wp2
  go_loopw [3, 12] (fun v i wr => ∃ k : Nat, k ≤ holds.length ∧ i = .int .i64 k ∧ Hid (Box w.heap.size w ⟨ins, ha, hc, holds, la, lc, luts, oa, oc, outs⟩ wr ∧ wr.ownsRow (w.heap.size + 1) 3 1 v (outs.length + k) ((outs ++ (holds.take k).map HoldV.d).map (Value.int .i64)))) (fun _ i _ => holds.length - (intOf i).toNat)
  case atStart => exact ⟨0, by omega, rfl, HBX1.out, by simpa using HOwn1.out⟩
  case round =>
    obtain ⟨k, hk, rfl, hh⟩ := hrel
    have hsz := hh.out.1.size
    by_cases hlt : k < holds.length
    · obtain ⟨b, off, rfl, hbb, t0, t1⟩ := (H.out.below hh.out.1.below (Nat.le_refl _)).hold k hlt
      have hst : (outs ++ (holds.take (k + 1)).map HoldV.d).map (Value.int .i64) = (outs ++ (holds.take k).map HoldV.d).map (Value.int .i64) ++ [.int .i64 (holds.getD k default).d] := by
        have e : (holds.take (k + 1)).map HoldV.d = (holds.take k).map HoldV.d ++ [(holds.getD k default).d] := by
          rw [List.take_succ_eq_append_getElem hlt, List.map_append]
          simp [List.getD, List.getElem?_eq_getElem hlt]
        rw [e, ← List.append_assoc, List.map_append, List.map_append]; rfl
      dsimp only at t0 t1
      obtain ⟨d, hd⟩ : ∃ d, d = (holds.getD k default).d := ⟨_, rfl⟩
      obtain ⟨z, hz⟩ : ∃ d, d = (holds.getD k default).init := ⟨_, rfl⟩
      rw [← hd] at t0 hst
      rw [← hz] at t1
      have HSt := Lib.hid hst
      clear hst hd hz
      go_wp2_with (at_builtin; refine wpList_append_seq rfl _ _ 24 rfl (w.heap.size + 1) 3 i0 (.int .i64 0) 8 Try.underlying24 hi hz0 hz1 hz2 rfl _ _ _ rfl ((hh.out.2.alloc _).alloc _) (some ⟨wr.heap.size + 1, 0, none⟩) 1 1 [.int .i64 d] (fun _ => .int .i64 d) rfl rfl ?_ ?_ ?_ ?_ ?_ ?_ ?_)
      · refine .inr ⟨wr.heap.size + 1, 0, rfl, fun j hj => ?_⟩
        obtain rfl : j = 0 := by omega
        simp
      · intro j hj
        obtain rfl : j = 0 := by omega
        rfl
      · simp [Value.oneCell']
      · unfold maxLen; omega
      · omega
      · simp; omega
      intro v' w2 hown2 hgrow2
      have hb2 := ((((Below.refl (w.heap.size + 1) wr).alloc hsz (Obj.cells #[Value.int IntKind.i64 d, Value.bool z] 79)).alloc (by simp; omega) (Obj.cells #[Value.int IntKind.i64 d] 3)).grown hgrow2 (by simp; omega) (fun q e => (hh.out.2.lt q e).1))
      have HB2 := Lib.hid (hh.out.1.step hb2 (Nat.le_refl _))
      have HOwn2 := Lib.hid hown2
      clear hb2 hown2 hgrow2
      go_wp2
      go_roundw
      case rel => exact ⟨k + 1, by omega, by go_num, HB2.out, by rw [HSt.out, ← Nat.add_assoc]; have := HOwn2.out; simpa using this⟩
      case measure => simp [intOf]; omega
    · obtain rfl : k = holds.length := by omega
      go_wp2
      go_ret
      refine ⟨_, rfl, ?_, hh.out.1.below⟩
      have h2 := hh.out.2.base_le (base' := w.heap.size) (by omega)
      rw [List.take_length] at h2
      rw [HEE.out, show (endsOf ⟨ins, ha, hc, holds, la, lc, luts, oa, oc, outs⟩).length = outs.length + holds.length by simp [endsOf]]
      exact h2

set_option maxRecDepth 100000 in
set_option maxHeartbeats 2000000 in
theorem endsR (w : World) (N : NetV) (h : NetAt w N) (f : Few N) : Calls Try.prog 41 #[N.val] w (NewList w (endsOf N)) := by
  have hb := Box.start w N
  have HBX := Lib.hid hb
  have e1 := hb.c1
  have e3 := hb.c3
  have hs := hb.size
  have hf1 := f.holds
  have hf4 := f.outs
  have hO := h.outs
  have H := Lib.hid h
  have HSO := Lib.hid hO
  obtain ⟨i0, hi, hz0, hz1, hz2⟩ := info_parts info3
  obtain ⟨EE, hEE⟩ : ∃ E, E = endsOf N := ⟨_, rfl⟩
  rw [← hEE]
  have HEE := Lib.hid hEE
  obtain ⟨W0, hW0⟩ : ∃ W, W = w.alloc N.obj := ⟨_, rfl⟩
  rw [← hW0] at e1 e3 hs HBX
  have HW0 := Lib.hid hW0
  clear hb h f hO hW0 hEE
  obtain ⟨ins, ha, hc, holds, la, lc, luts, oa, oc, outs⟩ := N
  dsimp only at hf1 hf4 e1 e3
  go_enter Try.func41, Try.ntmps41
  go_wp2_with (at_builtin; rw [← HW0.out]; refine wpList_append_seq rfl _ _ 24 rfl W0.heap.size 3 i0 (.int .i64 0) 8 Try.underlying24 hi hz0 hz1 hz2 rfl _ _ _ rfl (World.ownsRow_nil _ _ _ _) oa outs.length oc (outs.map (Value.int .i64)) (ints outs) rfl (List.length_map _) (HSO.out.below HBX.out.below (Nat.le_refl _)) (ints_get outs) (ints_one outs) (by unfold maxLen; omega) (by omega) (Nat.le_refl _) ?_)
  intro v1 w1 hown1 hgrow1
  have hb1 : Below W0.heap.size W0 w1 := (Below.refl _ _).grown hgrow1 (Nat.le_refl _) (fun k e => by cases e)
  have hbx := HBX.out.step (hb1.mono hs) (Nat.le_refl _)
  have HOwn1 : Hid (w1.ownsRow (w.heap.size + 1) 3 1 v1 outs.length (outs.map (Value.int .i64))) := Lib.hid (by have := hown1.base_le (base' := w.heap.size + 1) hs; simpa using this)
  clear hown1 hb1 hgrow1
  have HBX1 := Lib.hid hbx
  have k1 := hbx.c1
  dsimp only at k1
  clear hbx e1 e3
  go_wp2
  go_loopw [3, 12] (fun v i wr => ∃ k : Nat, k ≤ holds.length ∧ i = .int .i64 k ∧ Hid (Box w.heap.size w ⟨ins, ha, hc, holds, la, lc, luts, oa, oc, outs⟩ wr ∧ wr.ownsRow (w.heap.size + 1) 3 1 v (outs.length + k) ((outs ++ (holds.take k).map HoldV.d).map (Value.int .i64)))) (fun _ i _ => holds.length - (intOf i).toNat)
  case atStart => exact ⟨0, by omega, rfl, HBX1.out, by simpa using HOwn1.out⟩
  case round =>
    obtain ⟨k, hk, rfl, hh⟩ := hrel
    have hsz := hh.out.1.size
    by_cases hlt : k < holds.length
    · obtain ⟨b, off, rfl, hbb, t0, t1⟩ := (H.out.below hh.out.1.below (Nat.le_refl _)).hold k hlt
      have hst : (outs ++ (holds.take (k + 1)).map HoldV.d).map (Value.int .i64) = (outs ++ (holds.take k).map HoldV.d).map (Value.int .i64) ++ [.int .i64 (holds.getD k default).d] := by
        have e : (holds.take (k + 1)).map HoldV.d = (holds.take k).map HoldV.d ++ [(holds.getD k default).d] := by
          rw [List.take_succ_eq_append_getElem hlt, List.map_append]
          simp [List.getD, List.getElem?_eq_getElem hlt]
        rw [e, ← List.append_assoc, List.map_append, List.map_append]; rfl
      dsimp only at t0 t1
      obtain ⟨d, hd⟩ : ∃ d, d = (holds.getD k default).d := ⟨_, rfl⟩
      obtain ⟨z, hz⟩ : ∃ d, d = (holds.getD k default).init := ⟨_, rfl⟩
      rw [← hd] at t0 hst
      rw [← hz] at t1
      have HSt := Lib.hid hst
      clear hst hd hz
      go_wp2_with (at_builtin; refine wpList_append_seq rfl _ _ 24 rfl (w.heap.size + 1) 3 i0 (.int .i64 0) 8 Try.underlying24 hi hz0 hz1 hz2 rfl _ _ _ rfl ((hh.out.2.alloc _).alloc _) (some ⟨wr.heap.size + 1, 0, none⟩) 1 1 [.int .i64 d] (fun _ => .int .i64 d) rfl rfl ?_ ?_ ?_ ?_ ?_ ?_ ?_)
      · refine .inr ⟨wr.heap.size + 1, 0, rfl, fun j hj => ?_⟩
        obtain rfl : j = 0 := by omega
        simp
      · intro j hj
        obtain rfl : j = 0 := by omega
        rfl
      · simp [Value.oneCell']
      · unfold maxLen; omega
      · omega
      · simp; omega
      intro v' w2 hown2 hgrow2
      have hb2 := ((((Below.refl (w.heap.size + 1) wr).alloc hsz (Obj.cells #[Value.int IntKind.i64 d, Value.bool z] 79)).alloc (by simp; omega) (Obj.cells #[Value.int IntKind.i64 d] 3)).grown hgrow2 (by simp; omega) (fun q e => (hh.out.2.lt q e).1))
      have HB2 := Lib.hid (hh.out.1.step hb2 (Nat.le_refl _))
      have HOwn2 := Lib.hid hown2
      clear hb2 hown2 hgrow2
      go_wp2
      go_roundw
      case rel => exact ⟨k + 1, by omega, by go_num, HB2.out, by rw [HSt.out, ← Nat.add_assoc]; have := HOwn2.out; simpa using this⟩
      case measure => simp [intOf]; omega
    · obtain rfl : k = holds.length := by omega
      go_wp2
      go_ret
      refine ⟨_, rfl, ?_, hh.out.1.below⟩
      have h2 := hh.out.2.base_le (base' := w.heap.size) (by omega)
      rw [List.take_length] at h2
      rw [HEE.out, show (endsOf ⟨ins, ha, hc, holds, la, lc, luts, oa, oc, outs⟩).length = outs.length + holds.length by simp [endsOf]]
      exact h2
end Go.Proofs.Ytkcilpkcjhnkaaa

/- T37 -/
namespace Go.Proofs.Ytkcilpkcjhnkaaa
open Go.RowKit
set_option linter.unusedVariables false
set_option linter.unusedSimpArgs false

def NRow (M : Need) : List Value := M.map fun o => .int .i64 (o.getD 0)
def ARow (M : Need) : List Value := M.map fun o => .bool o.isSome

/-- The two rows of ref Slack: what each node has to be there at, and whether anything asks for it. -/
structure Two (w : World) (B gN cN gA cA n : Nat) (M : Need) : Prop where
  need : w.ownsRow B 3 1 (.slice (some ⟨gN, 0, none⟩) n cN) n (NRow M)
  asked : w.ownsRow B 4 1 (.slice (some ⟨gA, 0, none⟩) n cA) n (ARow M)
  ne : gN ≠ gA
  len : M.length = n

/-- Nothing but two blocks has turned. -/
structure Upd (gN gA : Nat) (w w' : World) : Prop where
  os : w'.os = w.os
  tape : w'.tape = w.tape
  output : w'.output = w.output
  size : w.heap.size ≤ w'.heap.size
  block : ∀ b, b < w.heap.size → b ≠ gN → b ≠ gA → w'.heap[b]? = w.heap[b]?

theorem Upd.refl (gN gA : Nat) (w : World) : Upd gN gA w w := ⟨rfl, rfl, rfl, Nat.le_refl _, fun _ _ _ _ => rfl⟩
theorem Upd.trans {gN gA : Nat} {a b c : World} (h : Upd gN gA a b) (k : Upd gN gA b c) : Upd gN gA a c :=
  ⟨k.os.trans h.os, k.tape.trans h.tape, k.output.trans h.output, Nat.le_trans h.size k.size, fun x hx h1 h2 => (k.block x (Nat.lt_of_lt_of_le hx h.size) h1 h2).trans (h.block x hx h1 h2)⟩
theorem Upd.ofN {gN gA : Nat} {a b : World} (h : a.grownBy b (some gN)) : Upd gN gA a b :=
  ⟨h.os, h.tape, h.output, h.size, fun x hx h1 _ => h.block x hx (by simp; omega)⟩
theorem Upd.ofA {gN gA : Nat} {a b : World} (h : a.grownBy b (some gA)) : Upd gN gA a b :=
  ⟨h.os, h.tape, h.output, h.size, fun x hx _ h2 => h.block x hx (by simp; omega)⟩
theorem Upd.ofBelow {gN gA : Nat} {a b : World} (h : Below a.heap.size a b) : Upd gN gA a b :=
  ⟨h.os, h.tape, h.output, h.size, fun x hx _ _ => h.block x hx⟩
theorem Upd.below {gN gA B : Nat} {a b : World} (h : Upd gN gA a b) (hN : B ≤ gN) (hA : B ≤ gA) (hB : B ≤ a.heap.size) : Below B a b :=
  ⟨h.os, h.tape, h.output, h.size, fun x hx => h.block x (by omega) (by omega) (by omega)⟩
theorem Upd.cell {gN gA : Nat} {a b : World} (h : Upd gN gA a b) {p : Addr} (hp : p.block < a.heap.size) (h1 : p.block ≠ gN) (h2 : p.block ≠ gA) : b.cell? p = a.cell? p :=
  World.cell?_of_block (h.block p.block hp h1 h2)

theorem NRow_set (M : Need) (k : Nat) (o : Option Int) : (NRow M).set k (.int .i64 (o.getD 0)) = NRow (M.set k o) := by simp [NRow, List.map_set]
theorem ARow_set (M : Need) (k : Nat) (o : Option Int) : (ARow M).set k (.bool o.isSome) = ARow (M.set k o) := by simp [ARow, List.map_set]
theorem NRow_get (M : Need) (k : Nat) (h : k < M.length) : (NRow M)[k]? = some (.int .i64 ((M.getD k none).getD 0)) := by simp [NRow, List.getD, List.getElem?_eq_getElem h]
theorem ARow_get (M : Need) (k : Nat) (h : k < M.length) : (ARow M)[k]? = some (.bool (M.getD k none).isSome) := by simp [ARow, List.getD, List.getElem?_eq_getElem h]
theorem set_same (M : Need) (k : Nat) (o : Option Int) (h : M.getD k none = o) (hk : k < M.length) : M.set k o = M := by
  apply List.ext_getElem?
  intro j
  by_cases e : j = k
  · subst e
    simp [hk]
    rw [← h]; simp [List.getD, hk]
  · rw [List.getElem?_set_ne (Ne.symm e)]

theorem Two.needAt {w : World} {B gN cN gA cA n : Nat} {M : Need} (h : Two w B gN cN gA cA n M) (k : Nat) (hk : k < n) : w.cell? ⟨gN, k, none⟩ = some (.int .i64 ((M.getD k none).getD 0)) := by
  rw [h.need.cellAt k (by omega), NRow_get M k (by rw [h.len]; exact hk)]
theorem Two.askedAt {w : World} {B gN cN gA cA n : Nat} {M : Need} (h : Two w B gN cN gA cA n M) (k : Nat) (hk : k < n) : w.cell? ⟨gA, k, none⟩ = some (.bool (M.getD k none).isSome) := by
  rw [h.asked.cellAt k (by omega), ARow_get M k (by rw [h.len]; exact hk)]

theorem Two.setN {w : World} {B gN cN gA cA n : Nat} {M : Need} (h : Two w B gN cN gA cA n M) (k : Nat) (t : Int) :
    (w.setCell ⟨gN, k, none⟩ (.int .i64 t)).ownsRow B 3 1 (.slice (some ⟨gN, 0, none⟩) n cN) n ((NRow M).set k (.int .i64 t)) ∧ (w.setCell ⟨gN, k, none⟩ (.int .i64 t)).ownsRow B 4 1 (.slice (some ⟨gA, 0, none⟩) n cA) n (ARow M) ∧ Upd gN gA w (w.setCell ⟨gN, k, none⟩ (.int .i64 t)) := by
  have hs := own_store h.need k (.int .i64 t)
  refine ⟨hs.1, h.asked.kept hs.2 (.inr (by simp [Value.ownBlock]; exact Ne.symm h.ne)), Upd.ofN hs.2⟩

set_option maxHeartbeats 1000000 in
/-- ref ask. -/
theorem askR (w : World) (B gN cN gA cA n : Nat) (M : Need) (h : Two w B gN cN gA cA n M) (k : Nat) (hk : k < n) (t : Int) :
    Calls Try.prog 42 #[.slice (some ⟨gN, 0, none⟩) n cN, .slice (some ⟨gA, 0, none⟩) n cA, .int .i64 (k : Int), .int .i64 t] w fun e w' => (∃ v, e = .returned v) ∧ Two w' B gN cN gA cA n (askM M k t) ∧ Upd gN gA w w' := by
  have z0 := h.needAt k hk
  have z1 := h.askedAt k hk
  have f0 := h.need.frozenAt k
  have f1 := h.asked.frozenAt k
  have H := Lib.hid h
  have hne := h.ne
  obtain ⟨s1, s2, s3⟩ := h.setN k t
  have y1 := s2.cellAt k (by omega)
  rw [ARow_get M k (by rw [h.len]; exact hk)] at y1
  have g1 := s2.frozenAt k
  have hA := own_store h.asked k (.bool true)
  have hAN := own_store s2 k (.bool true)
  have HS1 := Lib.hid s1
  have HS3 := Lib.hid s3
  have HA := Lib.hid hA
  have HAN := Lib.hid hAN
  have hl := h.len
  have HL := Lib.hid hl
  cases hm : M.getD k none with
  | none =>
    have HM := Lib.hid hm
    rw [hm] at z0 z1 y1
    simp only [Option.getD_none, Option.isSome_none] at z0 z1 y1
    clear h s1 s2 s3 hA hAN hm hl
    go_enter Try.func42, Try.ntmps42
    go_wp2
    go_end0
    have e : askM M (k : Int) t = M.set k (some t) := by unfold askM; rw [Int.toNat_natCast, HM.out]
    refine ⟨⟨_, rfl⟩, ⟨?_, ?_, hne, ?_⟩, HS3.out.trans (Upd.ofA HAN.out.2)⟩
    · rw [e, ← NRow_set M k (some t)]
      exact HS1.out.kept HAN.out.2 (.inr (by simp [Value.ownBlock]; exact hne))
    · rw [e, ← ARow_set M k (some t)]; exact HAN.out.1
    · rw [e, List.length_set]; exact HL.out
  | some was =>
    have HM := Lib.hid hm
    rw [hm] at z0 z1 y1
    simp only [Option.getD_some, Option.isSome_some] at z0 z1 y1
    have hself : (ARow M).set k (.bool true) = ARow M := by
      rw [show (Value.bool true) = .bool (some was : Option Int).isSome from rfl, ARow_set, set_same M k _ hm (by rw [hl]; exact hk)]
    have HSelf := Lib.hid hself
    by_cases hlt : t < was
    · clear h s1 s2 s3 hA hAN hm hl hself
      go_enter Try.func42, Try.ntmps42
      go_wp2
      go_end0
      have e : askM M (k : Int) t = M.set k (some t) := by unfold askM; rw [Int.toNat_natCast, HM.out]; simp [hlt]
      refine ⟨⟨_, rfl⟩, ⟨?_, ?_, hne, ?_⟩, HS3.out.trans (Upd.ofA HAN.out.2)⟩
      · rw [e, ← NRow_set M k (some t)]
        exact HS1.out.kept HAN.out.2 (.inr (by simp [Value.ownBlock]; exact hne))
      · rw [e, ← ARow_set M k (some t)]; exact HAN.out.1
      · rw [e, List.length_set]; exact HL.out
    · clear h s1 s2 s3 hA hAN hm hl hself
      go_enter Try.func42, Try.ntmps42
      go_wp2
      go_end0
      have e : askM M (k : Int) t = M := by unfold askM; rw [Int.toNat_natCast, HM.out]; exact if_neg (by omega)
      refine ⟨⟨_, rfl⟩, ⟨?_, ?_, hne, ?_⟩, Upd.ofA HA.out.2⟩
      · rw [e]; exact H.out.need.kept HA.out.2 (.inr (by simp [Value.ownBlock]; exact hne))
      · have := HA.out.1
        rw [HSelf.out] at this
        rw [e]; exact this
      · rw [e]; exact HL.out
end Go.Proofs.Ytkcilpkcjhnkaaa
