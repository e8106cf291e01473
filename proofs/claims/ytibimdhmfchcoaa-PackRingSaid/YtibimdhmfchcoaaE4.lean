import Derived.Test.YtibimdhmfchcoaaK1
import Derived.Test.YtibimdhmfchcoaaN2
namespace Go.Proofs.Ytibimdhmfchcoaa
open Go.RowKit Go.Shelf Go.Maps
set_option linter.unusedVariables false
set_option linter.unusedSimpArgs false
/-- The ring as it grows. -/
structure Ring (W0 : World) (H n : Nat) (T : Int) (i : Nat) (bv : Value) (bs : List BlkV) (wr : World) : Prop where
  below : Below (H + 1) W0 wr
  size : H + 2 ≤ wr.heap.size
  c0 : wr.cell? ⟨H + 1, 0, none⟩ = some (.int .i64 1)
  c1 : wr.cell? ⟨H + 1, 1, none⟩ = some bv
  c2 : wr.cell? ⟨H + 1, 2, none⟩ = some (.slice (some ⟨H, 0, none⟩) 1 1)
  fz : ∀ j, wr.frozen? ⟨H + 1, j, none⟩ = false
  rows : Rows (H + 2) bs bv [] (.slice none 0 0) wr
  data : bs.map BlkV.data = (List.range i).map (ringB n T n)
theorem Ring.step {W0 wr w9 : World} {H n i k : Nat} {T : Int} {bv v' : Value} {bs : List BlkV} {gB cB : Nat} (h : Ring W0 H n T i bv bs wr) (hv : v' = .slice (some ⟨gB, 0, none⟩) (bs.length + 1) cB) (hk : k = (i + 1) % n) (hi : i < n)
    (ho : w9.ownsRow (H + 2) 43 4 v' (bs.length + 1) (bs.flatMap BlkV.cells ++ [Value.slice (some ⟨wr.heap.size, 0, none⟩) 2 2, Value.int IntKind.i64 (T % 16), Value.bool false, Value.bool false]))
    (hg9 : ((wr.alloc (Obj.cells #[Value.int IntKind.i64 0, Value.int IntKind.i64 (1 + (k : Int))] 3)).alloc (Obj.cells #[Value.slice (some ⟨wr.heap.size, 0, none⟩) 2 2, Value.int IntKind.i64 (T % 16), Value.bool false, Value.bool false] 43)).grownBy w9 bv.ownBlock)
    (hat : bv.ownBlock = some gB ∨ gB = wr.heap.size + 2) (hlt : gB < w9.heap.size) :
    Ring W0 H n T (i + 1) v' (bs ++ [⟨some ⟨wr.heap.size, 0, none⟩, 2, [0, (1 + (k : Int))], T % 16, false, false⟩]) (w9.setCell ⟨H + 1, 1, none⟩ v') := by
  obtain ⟨w8, hw8⟩ : ∃ W, W = (wr.alloc (Obj.cells #[Value.int IntKind.i64 0, Value.int IntKind.i64 (1 + (k : Int))] 3)).alloc (Obj.cells #[Value.slice (some ⟨wr.heap.size, 0, none⟩) 2 2, Value.int IntKind.i64 (T % 16), Value.bool false, Value.bool false] 43) := ⟨_, rfl⟩
  rw [← hw8] at hg9
  have hb8 : Below wr.heap.size wr w8 := by rw [hw8]; exact ((Below.refl _ _).alloc (Nat.le_refl _) _).alloc (by simp) _
  have hs8 : w8.heap.size = wr.heap.size + 2 := by rw [hw8]; simp
  have hsz := h.size
  have n0 : w8.cell? ⟨wr.heap.size, 0, none⟩ = some (.int .i64 0) := by rw [hw8]; simp
  have n1 : w8.cell? ⟨wr.heap.size, 1, none⟩ = some (.int .i64 (1 + (k : Int))) := by rw [hw8]; simp
  have hol := fun b (e : bv.ownBlock = some b) => h.rows.own.lt b e
  have hne : some (H + 1) ≠ bv.ownBlock := fun e => by have := hol _ e.symm; omega
  have hr8 := h.rows.below hb8
  have kc : ∀ {j : Nat} {v : Value}, wr.cell? ⟨H + 1, j, none⟩ = some v → w9.cell? ⟨H + 1, j, none⟩ = some v := fun {j v} e => hg9.cell ((hb8.cell (p := ⟨_, _, none⟩) (by simp only; omega)).trans e) hne
  have kf : ∀ j, w9.frozen? ⟨H + 1, j, none⟩ = false := fun j => (World.frozen?_of_block (a := ⟨_, _, none⟩) (hg9.block _ (by simp only; omega) hne)).trans ((hb8.frozen (p := ⟨_, _, none⟩) (by simp only; omega)).trans (h.fz j))
  have hIn : InAt (H + 2) bv (.slice none 0 0) w8 ⟨some ⟨wr.heap.size, 0, none⟩, 2, [0, (1 + (k : Int))], T % 16, false, false⟩ := by
    refine .inr ⟨wr.heap.size, 0, rfl, by omega, by omega, fun e => by have := (hol _ e).2; omega, by simp [Value.ownBlock], fun j hj => ?_⟩
    match j, hj with
    | 0, _ => exact n0
    | 1, _ => exact n1
  have hadd := hr8.addB (b := ⟨some ⟨wr.heap.size, 0, none⟩, 2, [0, (1 + (k : Int))], T % 16, false, false⟩) hIn hg9 (bv' := v') (g := gB) (H := wr.heap.size + 2) (by rw [hv]; rfl) hat (by omega) hlt ho
  have hbw : Below (H + 1) W0 w9 := (h.below.trans (hb8.mono (by omega))).grown hg9 (by have := h.below.size; omega) (fun b e => by have := (hol _ e).1; omega)
  refine ⟨hbw.setCell (Nat.le_refl _) _, ?_, set_keep (kc h.c0) (by decide), cell?_set_own (kc h.c1), set_keep (kc h.c2) (by decide), fun j => by rw [set_frozen]; exact kf j, hadd.grown (grownBy_set _ (H + 1) 1 _) (fun b e => by injection e with e; omega), ?_⟩
  · rw [set_size]; have := hg9.size; omega
  · rw [List.map_append, h.data, List.range_succ, List.map_append, hk, List.map_cons, List.map_nil, List.map_cons, List.map_nil]
    unfold ringB BlkV.data
    rw [decide_eq_false (by omega), Int.natCast_add]
    rfl
def ringV (H g bc : Nat) (bs : List BlkV) : PackV := ⟨1, some ⟨g, 0, none⟩, bc, bs, some ⟨H, 0, none⟩, 1, [0]⟩
theorem ring_mem {n q : Nat} {T : Int} {bs : List BlkV} (h : bs.map BlkV.data = (List.range n).map (ringB n T q)) : bs.length = n ∧ ∀ b ∈ bs, ∃ i, i < n ∧ b.ins = [0, ((1 + (i + 1) % n : Nat) : Int)] ∧ b.tab = T % 16 := by
  refine ⟨by have := congrArg List.length h; simpa using this, fun b hb => ?_⟩
  have h1 : b.data ∈ (List.range n).map (ringB n T q) := by rw [← h]; exact List.mem_map_of_mem hb
  obtain ⟨i, hi, he⟩ := List.mem_map.1 h1
  have e1 := congrArg BlkD.ins he
  have e2 := congrArg BlkD.tab he
  exact ⟨i, List.mem_range.1 hi, e1.symm, e2.symm⟩
theorem ring_reads {wr : World} {H g bc n q : Nat} {T : Int} {bs : List BlkV} (hd : bs.map BlkV.data = (List.range n).map (ringB n T q)) (hn1 : 0 < n) (hn : n ≤ 40)
    (hc : Seq wr (some ⟨g, 0, none⟩) (4 * bs.length) (blkCell bs)) (hi : ∀ b ∈ bs, Seq wr b.a b.ins.length (ints b.ins)) (ho : Seq wr (some ⟨H, 0, none⟩) 1 (ints [0])) :
    PackAt wr (ringV H g bc bs) ∧ FewP (ringV H g bc bs) ∧ (ringV H g bc bs).data = ringD n T q := by
  obtain ⟨hl, hm⟩ := ring_mem hd
  refine ⟨⟨⟨by show (-9223372036854775808 : Int) ≤ 1; omega, by show (1 : Int) ≤ _; omega⟩, hc, ho, fun b hb => ?_, fun x hx => ?_, by show bs.length ≤ _; omega, by show (1 : Nat) ≤ _; omega⟩, ⟨by show (1 : Int) ≤ 100; omega, by show bs.length ≤ 150; omega, by show (1 : Nat) ≤ 150; omega, fun b hb => ?_⟩, ?_⟩
  · obtain ⟨i, hi2, e1, e2⟩ := hm b hb
    have hk : (i + 1) % n < n := Nat.mod_lt _ hn1
    obtain ⟨k, hkk⟩ : ∃ k, k = (i + 1) % n := ⟨_, rfl⟩
    rw [← hkk] at e1 hk
    refine ⟨hi b hb, fun x hx => ?_, ?_, by rw [e1]; simp⟩
    · rw [e1] at hx
      simp at hx
      rcases hx with rfl | rfl
      · exact ⟨by omega, by omega⟩
      · exact ⟨by omega, by omega⟩
    · rw [e2]; exact ⟨by omega, by omega⟩
  · have hx : x ∈ ([0] : List Int) := hx
    simp at hx; subst hx
    exact ⟨by omega, by omega⟩
  · obtain ⟨i, _, e1, _⟩ := hm b hb
    rw [e1]; simp
  · show (⟨1, bs.map BlkV.data, [0]⟩ : PackD) = _
    rw [hd]; rfl
theorem ring_end {W0 wr : World} {H n : Nat} {T : Int} {bv : Value} {bs : List BlkV} (h : Ring W0 H n T n bv bs wr) (hn1 : 0 < n) : ∃ g bc, bv = .slice (some ⟨g, 0, none⟩) n bc ∧ H + 2 ≤ g ∧ g < wr.heap.size ∧ (∀ j, wr.frozen? ⟨g, j, none⟩ = false) ∧ Seq wr (some ⟨g, 0, none⟩) (4 * bs.length) (blkCell bs) ∧ ∀ b ∈ bs, Seq wr b.a b.ins.length (ints b.ins) ∧ ∀ off r, b.a ≠ some ⟨g, off, r⟩ := by
  obtain ⟨hl, hm⟩ := ring_mem h.data
  have ho := h.rows.own
  obtain ⟨g, bc, rfl, h1, h2, hc⟩ := owns_cells ho (by omega)
  refine ⟨g, bc, by rw [hl], h1, h2, fun j => ho.frozenAt j, .inr ⟨g, 0, rfl, fun j hj => ?_⟩, fun b hb => ?_⟩
  · have hj2 : j < (bs.flatMap BlkV.cells).length := by rw [flat_length]; exact hj
    rw [Nat.zero_add, hc j hj2, blk_flat]
  · obtain ⟨i, _, e1, _⟩ := hm b hb
    rcases h.rows.ins b hb with h0 | ⟨g2, off, ha, k1, k2, k3, k4, kc⟩
    · rw [e1] at h0; simp at h0
    · refine ⟨.inr ⟨g2, off, ha, kc⟩, fun off2 r e => k3 ?_⟩
      rw [ha] at e
      injection e with e
      injection e with e _ _
      rw [e]; rfl
theorem ring_flop {wr : World} {g n q : Nat} {T : Int} {bs : List BlkV} (hd : bs.map BlkV.data = (List.range n).map (ringB n T n)) (hq : q < n)
    (hc : Seq wr (some ⟨g, 0, none⟩) (4 * bs.length) (blkCell bs)) (hi : ∀ b ∈ bs, Seq wr b.a b.ins.length (ints b.ins) ∧ ∀ off r, b.a ≠ some ⟨g, off, r⟩) :
    ∃ bs' : List BlkV, bs'.length = bs.length ∧ bs'.map BlkV.data = (List.range n).map (ringB n T q) ∧ Seq (wr.setCell ⟨g, q * 4 + 2, none⟩ (.bool true)) (some ⟨g, 0, none⟩) (4 * bs'.length) (blkCell bs') ∧ ∀ b ∈ bs', Seq (wr.setCell ⟨g, q * 4 + 2, none⟩ (.bool true)) b.a b.ins.length (ints b.ins) := by
  obtain ⟨hl, hm⟩ := ring_mem hd
  obtain ⟨fb, hfb⟩ : ∃ b : BlkV, b = { bs.getD q default with ff := true } := ⟨_, rfl⟩
  have hget : ∀ j, (bs.set q fb).getD j default = if j = q then fb else bs.getD j default := by
    intro j
    simp only [List.getD_eq_getElem?_getD, List.getElem?_set]
    by_cases e : q = j
    · subst e; rw [if_pos rfl, if_pos (by omega), if_pos rfl]; rfl
    · rw [if_neg e, if_neg (fun h => e h.symm)]
  refine ⟨bs.set q fb, by simp, ?_, ?_, fun b hb => ?_⟩
  · apply List.ext_getElem (by simp [hl])
    intro j h1 h2
    have hj : j < n := by simpa using h2
    have h3 := congrArg (fun l => l.getD j default) hd
    have h4 := congrArg (fun l => l.getD q default) hd
    have g1 : (bs.set q fb)[j]'(by simpa using h1) = (bs.set q fb).getD j default := by
      rw [List.getD_eq_getElem?_getD, List.getElem?_eq_getElem (by simpa using h1)]; rfl
    rw [List.getElem_map, List.getElem_map, List.getElem_range, g1, hget]
    have h3 : (bs.getD j default).data = ringB n T n j := by
      rw [← getD_map_blk, hd, List.getD_eq_getElem?_getD, List.getElem?_map, List.getElem?_range hj]; rfl
    by_cases e : j = q
    · subst e
      rw [if_pos rfl, hfb]
      have e1 := congrArg BlkD.ins h3
      have e2 := congrArg BlkD.tab h3
      have e3 := congrArg BlkD.init h3
      unfold ringB at e1 e2 e3 ⊢
      dsimp only at e1 e2 e3 ⊢
      rw [e1, e2, e3, decide_eq_true rfl]
    · rw [if_neg e, h3]
      unfold ringB
      rw [decide_eq_false (show ¬ j = n by omega), decide_eq_false e]
  · rcases hc with h0 | ⟨b, off, ha, hcc⟩
    · exact .inl (by rw [List.length_set]; exact h0)
    · injection ha with ha
      injection ha with ha1 ha2
      subst ha1 ha2
      refine .inr ⟨g, 0, rfl, fun j hj => ?_⟩
      rw [List.length_set] at hj
      have h1 := hcc j hj
      rw [Nat.zero_add] at h1 ⊢
      by_cases e : j = q * 4 + 2
      · subst e
        rw [cell?_set_own h1]
        unfold blkCell
        rw [hget, show (q * 4 + 2) / 4 = q by omega, show (q * 4 + 2) % 4 = 2 by omega, if_pos rfl, hfb]
        rfl
      · rw [set_keep h1 e]
        unfold blkCell
        rw [hget]
        by_cases e2 : j / 4 = q
        · rw [if_pos e2, e2, hfb]
          by_cases e3 : j % 4 = 2
          · omega
          · dsimp only
            split
            · rfl
            · split
              · rfl
              · first | rfl | (rw [if_neg e3])
        · rw [if_neg e2]
  · have hset : ∀ b ∈ bs, Seq (wr.setCell ⟨g, q * 4 + 2, none⟩ (.bool true)) b.a b.ins.length (ints b.ins) := by
      intro b hb
      obtain ⟨s1, s2⟩ := hi b hb
      rcases s1 with h0 | ⟨g2, off, ha, kc⟩
      · exact .inl h0
      · exact .inr ⟨g2, off, ha, fun j hj => (cell?_set_far (fun e => s2 off none (by rw [ha, e]))).trans (kc j hj)⟩
    rcases List.mem_or_eq_of_mem_set hb with hb | rfl
    · exact hset b hb
    · have h9 := hset _ (getD_mem bs default (show q < bs.length by omega))
      rw [hfb]; exact h9
set_option maxRecDepth 100000 in
set_option maxHeartbeats 8000000 in
theorem packRing (w : World) (x : Int) (hx : I64 x) (t : Int) (ht : 0 ≤ t ∧ t ≤ 255) (y : Int) (hy : I64 y) :
    Calls Try.prog 10 #[.int .i64 x, .int .u8 t, .int .i64 y] w fun e w' => e = .returned (.bool true) ∧ Below w.heap.size w w' := by
  obtain ⟨i4, hi, hz0, hz1, hz2⟩ := info_parts info43
  obtain ⟨ht0, ht1⟩ := ht
  go_enter Try.func10, Try.ntmps10
  go_wp2_with fail
  refine (live14 _).mono ?_
  rintro e w1 ⟨rfl, hb1⟩
  have HB1 := Lib.hid hb1
  clear hb1
  by_cases c1 : x < 1
  · have d1 : decide (x < 1) = true := by simpa using c1
    go_wp2_with fail
    go_ret
    exact ⟨rfl, HB1.out⟩
  have d1 : decide (x < 1) = false := by simpa using c1
  by_cases c2 : x > 40
  · have d2 : decide (x > 40) = true := by simpa using c2
    go_wp2_with fail
    go_ret
    exact ⟨rfl, HB1.out⟩
  have d2 : decide (x > 40) = false := by simpa using c2
  by_cases c3 : y < 0
  · have d3 : decide (y < 0) = true := by simpa using c3
    go_wp2_with fail
    go_ret
    exact ⟨rfl, HB1.out⟩
  have d3 : decide (y < 0) = false := by simpa using c3
  by_cases c4 : y ≥ x
  · have d4 : decide (y ≥ x) = true := by simpa using c4
    go_wp2_with fail
    go_ret
    exact ⟨rfl, HB1.out⟩
  have d4 : decide (y ≥ x) = false := by simpa using c4
  obtain ⟨n, rfl⟩ : ∃ k : Nat, x = k := ⟨x.toNat, by omega⟩
  obtain ⟨q, rfl⟩ : ∃ k : Nat, y = k := ⟨y.toNat, by omega⟩
  have hn1 : 0 < n := by omega
  have HTm : Hid ((IntKind.i64.wrap t).tmod 16 = t % 16) := Lib.hid (by
    obtain ⟨tn, rfl⟩ : ∃ k : Nat, t = k := ⟨t.toNat, by omega⟩
    rw [Lib.wrap_i64_small _ (by omega), Int.tmod_eq_emod_of_nonneg (by omega)])
  have hn2 : n ≤ 40 := by omega
  have hqn : q < n := by omega
  have d5 : decide (n ≤ q) = false := by simp; omega
  go_wp2_with fail
  clear d1 d2 d3 d4 c1 c2 c3 c4
  obtain ⟨H, hH⟩ : ∃ H, H = w1.heap.size := ⟨_, rfl⟩
  obtain ⟨W0, hW0⟩ : ∃ W, W = (w1.alloc (Obj.cells #[Value.int IntKind.i64 0] 3)).alloc (Obj.cells #[Value.int IntKind.i64 1, Value.slice none 0 0, Value.slice (some ⟨H, 0, none⟩) 1 1] 31) := ⟨_, rfl⟩
  have hRing0 : Ring W0 H n t 0 (.slice none 0 0) [] W0 := by
    refine ⟨Below.refl _ _, ?_, ?_, ?_, ?_, ?_, Rows.nil _ _, rfl⟩
    · rw [hW0, hH]; simp
    · rw [hW0, hH]; simp
    · rw [hW0, hH]; simp
    · rw [hW0, hH]; simp
    · intro j; rw [hW0, hH]; simp
  have hOut : Seq W0 (some ⟨H, 0, none⟩) 1 (ints [0]) := .inr ⟨H, 0, rfl, fun i hi => by
    obtain rfl : i = 0 := by omega
    rw [hW0, hH]
    exact cell_alloc _ (cell_newW _ _ _)⟩
  have hB0 : Below w.heap.size w W0 := HB1.out.trans (by rw [hW0]; exact ((Below.refl _ _).alloc (HB1.out.size) _).alloc (by simp; have := HB1.out.size; omega) _)
  have hHw : w.heap.size ≤ H := by rw [hH]; exact HB1.out.size
  have HRing0 := Lib.hid hRing0
  have HOut := Lib.hid hOut
  have HB0 := Lib.hid hB0
  have HH := Lib.hid hH
  have HW0 := Lib.hid hW0
  clear hRing0 hOut hB0 hH hW0
  rw [← HH.out, ← HW0.out]
  go_loopw [34] (fun iv wr => ∃ i : Nat, i ≤ n ∧ iv = .int .i64 i ∧ Hid (∃ bv bs, Ring W0 H n t i bv bs wr)) (fun iv _ => n - (intOf iv).toNat)
  case atStart => exact ⟨0, by omega, rfl, Lib.hid ⟨_, _, HRing0.out⟩⟩
  case round =>
    obtain ⟨i, hi', rfl, hh⟩ := hrel
    obtain ⟨bv, bs, hR⟩ := hh.out
    by_cases hlt : i < n
    · have p1 := hR.c1
      have HR := Lib.hid hR
      have hsz := hR.size
      have hbl : bs.length = i := by have := congrArg List.length hR.data; simpa using this
      obtain ⟨k, hk⟩ : ∃ k, k = (i + 1) % n := ⟨_, rfl⟩
      have hkn : k < n := by rw [hk]; exact Nat.mod_lt _ hn1
      have HRem : Hid (Int.tmod (IntKind.i64.wrap ((i : Int) + 1)) (n : Int) = (k : Int)) := Lib.hid (by rw [show (i : Int) + 1 = ((i + 1 : Nat) : Int) by omega, Lib.wrap_i64_small _ (by omega), hk]; rfl)
      have HAdd : Hid (IntKind.i64.wrap (1 + (k : Int)) = (1 + (k : Int))) := Lib.hid (by rw [show 1 + (k : Int) = (Nat.cast (1 + k) : Int) from (by omega), Lib.wrap_i64_small _ (by omega)])
      have HK := Lib.hid hk
      have HBl := Lib.hid hbl
      clear hR hh hk hbl
      go_wp2_with fail
      refine wp_region_K (S := fun w' => w'.cell? ⟨H + 1, 1, none⟩ = some bv) 15 (by kernel_rfl) (p1) (fun hHeld => ?_)
      refine wpAnyK_take (i := 0) (v := ?_) (by simp only [List.getElem?_toArray, List.getElem?_cons_succ, List.getElem?_cons_zero]; rfl) (by kernel_rfl) (by kernel_rfl) (by kernel_rfl) (by kernel_rfl) (by intro _ _ _ h; exact h) (Or.inl ⟨by rfl, ?_⟩) (by assumption) ?_
      rotate_left
      · intro w hSw; (try dsimp only at hSw); go_simp; try with_reducible rfl
      try simp only [Act.put, List.setIfInBounds_toArray, List.set_cons_zero, List.set_cons_succ]
      refine wpAnyK_take (i := 1) (v := ?_) (by simp only [List.getElem?_toArray, List.getElem?_cons_succ, List.getElem?_cons_zero]; rfl) (by kernel_rfl) (by kernel_rfl) (by kernel_rfl) (by kernel_rfl) (by intro _ _ _ h; exact h) (Or.inl ⟨by rfl, ?_⟩) (by assumption) ?_
      rotate_left
      · intro w hSw; (try dsimp only at hSw); go_simp; try with_reducible rfl
      try simp only [Act.put, List.setIfInBounds_toArray, List.set_cons_zero, List.set_cons_succ]
      refine wpAnyK_take (i := 2) (v := ?_) (by simp only [List.getElem?_toArray, List.getElem?_cons_succ, List.getElem?_cons_zero]; rfl) (by kernel_rfl) (by kernel_rfl) (by kernel_rfl) (by kernel_rfl) (by intro _ _ _ h; exact h) (Or.inl ⟨by rfl, ?_⟩) (by assumption) ?_
      rotate_left
      · intro w hSw; (try dsimp only at hSw); go_simp; try with_reducible rfl
      try simp only [Act.put, List.setIfInBounds_toArray, List.set_cons_zero, List.set_cons_succ]
      refine wpAnyK_take (i := 3) (v := ?_) (by simp only [List.getElem?_toArray, List.getElem?_cons_succ, List.getElem?_cons_zero]; rfl) (by kernel_rfl) (by kernel_rfl) (by kernel_rfl) (by kernel_rfl) (by intro _ _ _ h; exact h) (Or.inl ⟨by rfl, ?_⟩) (by assumption) ?_
      rotate_left
      · intro w hSw; (try dsimp only at hSw); go_simp; try with_reducible rfl
      try simp only [Act.put, List.setIfInBounds_toArray, List.set_cons_zero, List.set_cons_succ]
      refine wpAnyK_take (i := 4) (v := ?_) (by simp only [List.getElem?_toArray, List.getElem?_cons_succ, List.getElem?_cons_zero]; rfl) (by kernel_rfl) (by kernel_rfl) (by kernel_rfl) (by kernel_rfl) (by intro _ _ _ h; exact h) (Or.inl ⟨by rfl, ?_⟩) (by assumption) ?_
      rotate_left
      · intro w hSw; (try dsimp only at hSw); go_simp; try with_reducible rfl
      try simp only [Act.put, List.setIfInBounds_toArray, List.set_cons_zero, List.set_cons_succ]
      refine wpAnyK_take (i := 5) (v := ?_) (by simp only [List.getElem?_toArray, List.getElem?_cons_succ, List.getElem?_cons_zero]; rfl) (by kernel_rfl) (by kernel_rfl) (by kernel_rfl) (by kernel_rfl) (by intro _ _ _ h; exact h) (Or.inl ⟨by rfl, ?_⟩) (by assumption) ?_
      rotate_left
      · intro w hSw; (try dsimp only at hSw); go_simp; rw [if_neg (by omega), HRem.out]
      try simp only [Act.put, List.setIfInBounds_toArray, List.set_cons_zero, List.set_cons_succ]
      refine wpAnyK_take (i := 6) (v := ?_) (by simp only [List.getElem?_toArray, List.getElem?_cons_succ, List.getElem?_cons_zero]; rfl) (by kernel_rfl) (by kernel_rfl) (by kernel_rfl) (by kernel_rfl) (by intro _ _ _ h; exact h) (Or.inl ⟨by rfl, ?_⟩) (by assumption) ?_
      rotate_left
      · intro w hSw; (try dsimp only at hSw); go_simp; rw [HAdd.out]
      try simp only [Act.put, List.setIfInBounds_toArray, List.set_cons_zero, List.set_cons_succ]
      refine wpAnyK_take (i := 8) (v := ?_) (by simp only [List.getElem?_toArray, List.getElem?_cons_succ, List.getElem?_cons_zero]; rfl) (by kernel_rfl) (by kernel_rfl) (by kernel_rfl) (by kernel_rfl) (by intro _ _ _ h; exact h) (Or.inl ⟨by rfl, ?_⟩) (by assumption) ?_
      rotate_left
      · intro w hSw; (try dsimp only at hSw); go_simp; try with_reducible rfl
      try simp only [Act.put, List.setIfInBounds_toArray, List.set_cons_zero, List.set_cons_succ]
      refine wpAnyK_take (i := 9) (v := ?_) (by simp only [List.getElem?_toArray, List.getElem?_cons_succ, List.getElem?_cons_zero]; rfl) (by kernel_rfl) (by kernel_rfl) (by kernel_rfl) (by kernel_rfl) (by intro _ _ _ h; exact h) (Or.inl ⟨by rfl, ?_⟩) (by assumption) ?_
      rotate_left
      · intro w hSw; (try dsimp only at hSw); go_simp; try with_reducible rfl
      try simp only [Act.put, List.setIfInBounds_toArray, List.set_cons_zero, List.set_cons_succ]
      refine wpAnyK_take (i := 10) (v := ?_) (by simp only [List.getElem?_toArray, List.getElem?_cons_succ, List.getElem?_cons_zero]; rfl) (by kernel_rfl) (by kernel_rfl) (by kernel_rfl) (by kernel_rfl) (by intro _ _ _ h; exact h) (Or.inl ⟨by rfl, ?_⟩) (by assumption) ?_
      rotate_left
      · intro w hSw; (try dsimp only at hSw); go_simp; rw [HTm.out]
      try simp only [Act.put, List.setIfInBounds_toArray, List.set_cons_zero, List.set_cons_succ]
      refine wpAnyK_ready (rs := [7]) (by kernel_rfl) (by simp) ?_
      refine AllReadyK.cons (o := _) (by simp only [List.getElem?_toArray, List.getElem?_cons_succ, List.getElem?_cons_zero]; rfl) (fun K hK => ?_) AllReadyK.nil
      go_simp

      refine hK.out _ _ (fun _ => by exact cell_alloc _ p1) (fun hH => ?_)
      have hHeld := hH (by decide)
      clear hK K hH
      try simp only [Act.put, List.setIfInBounds_toArray, List.set_cons_zero, List.set_cons_succ]
      refine wpAnyK_take (i := 11) (v := ?_) (by simp only [List.getElem?_toArray, List.getElem?_cons_succ, List.getElem?_cons_zero]; rfl) (by kernel_rfl) (by kernel_rfl) (by kernel_rfl) (by kernel_rfl) (by intro _ _ _ h; exact h) (Or.inl ⟨by rfl, ?_⟩) (by assumption) ?_
      rotate_left
      · intro w hSw; (try dsimp only at hSw); go_simp; try with_reducible rfl
      try simp only [Act.put, List.setIfInBounds_toArray, List.set_cons_zero, List.set_cons_succ]
      refine wpAnyK_ready (rs := [12]) (by kernel_rfl) (by simp) ?_
      refine AllReadyK.cons (o := _) (by simp only [List.getElem?_toArray, List.getElem?_cons_succ, List.getElem?_cons_zero]; rfl) (fun K hK => ?_) AllReadyK.nil
      go_simp

      refine hK.out _ _ (fun _ => by exact cell_alloc _ (cell_alloc _ p1)) (fun hH => ?_)
      have hHeld := hH (by decide)
      clear hK K hH
      try simp only [Act.put, List.setIfInBounds_toArray, List.set_cons_zero, List.set_cons_succ]
      refine wpAnyK_ready (rs := [13]) (by kernel_rfl) (by simp) ?_
      refine AllReadyK.cons (o := _) (by simp only [List.getElem?_toArray, List.getElem?_cons_succ, List.getElem?_cons_zero]; rfl) (fun K hK => ?_) AllReadyK.nil
      rw [if_pos (by rfl)]
      have hoB8 : ((wr.alloc (Obj.cells #[Value.int IntKind.i64 0, Value.int IntKind.i64 (1 + (k : Int))] 3)).alloc (Obj.cells #[Value.slice (some ⟨wr.heap.size, 0, none⟩) 2 2, Value.int IntKind.i64 (t % 16), Value.bool false, Value.bool false] 43)).ownsRow (H + 2) 43 4 bv bs.length (bs.flatMap BlkV.cells) := (HR.out.rows.own.alloc _).alloc _
      have hbl9 : bs.length ≤ 40 := by rw [HBl.out]; omega
      refine wp_append_lies _ (.tmp 38) (.tmp 49) 29 rfl (H + 2) 43 i4 (.agg #[.slice none 0 0, .int .i64 0, .bool false, .bool false]) 4 40 Try.underlying29 hi hz0 hz1 hz2 rfl (by decide) bv bs.length (bs.flatMap BlkV.cells) rfl hoB8 ⟨wr.heap.size + 1, 0, none⟩ 1 1 [Value.slice (some ⟨wr.heap.size, 0, none⟩) 2 2, Value.int IntKind.i64 (t % 16), Value.bool false, Value.bool false] rfl rfl (four_new (by simp) (by simp) (by simp) (by simp)) (by simp [Value.oneCell']) (by omega) (by unfold maxLen; omega) (by omega) (by simp; omega) (wr.heap.size + 2) (by simp) ?_
      intro gB cB w9 hoB9 hg9 hat9 hlt9
      have HN := Lib.hid (HR.out.step rfl HK.out hlt hoB9 (ggrown (grownBy_drew _ _) hg9) hat9 hlt9)
      have hgr9 : wr.grownBy w9 bv.ownBlock := ggrown (World.grownBy_alloc _ _ _) (ggrown (World.grownBy_alloc _ _ _) (ggrown (grownBy_drew _ _) hg9))
      have y1 : w9.cell? ⟨H + 1, 1, none⟩ = some bv := hgr9.cell p1 (fun e => Nat.not_succ_le_self (H + 1) (HR.out.rows.own.lt _ e.symm).1)
      have yf : w9.frozen? ⟨H + 1, 1, none⟩ = false := (World.frozen?_of_block (a := ⟨_, _, none⟩) (hgr9.block _ (World.block_lt_of_cell? wr _ p1) (fun e => Nat.not_succ_le_self (H + 1) (HR.out.rows.own.lt _ e.symm).1))).trans (HR.out.fz 1)
      clear hgr9 hoB8 hoB9 hg9 hat9 hlt9 hbl9
      refine hK.out _ _ (fun _ => by exact y1) (fun hH => ?_)
      have hHeld := hH (by decide)
      clear hK K hH
      try simp only [Act.put, List.setIfInBounds_toArray, List.set_cons_zero, List.set_cons_succ]
      refine wpAnyK_ready (rs := [14]) (by kernel_rfl) (by simp) ?_
      refine AllReadyK.cons (o := _) (by simp only [List.getElem?_toArray, List.getElem?_cons_succ, List.getElem?_cons_zero]; rfl) (fun K hK => ?_) AllReadyK.nil
      go_simp

      refine hK.out _ _ (fun _ => by exact y1) (fun hH => ?_)
      have hHeld := hH (by decide)
      clear hK K hH
      try simp only [Act.put, List.setIfInBounds_toArray, List.set_cons_zero, List.set_cons_succ]
      refine wpAnyK_ready (rs := [15]) (by kernel_rfl) (by simp) ?_
      refine AllReadyK.cons (o := _) (by simp only [List.getElem?_toArray, List.getElem?_cons_succ, List.getElem?_cons_zero]; rfl) (fun K hK => ?_) AllReadyK.nil
      go_simp

      refine hK.out _ _ (fun h => absurd rfl h) (fun _ => ?_)
      clear hK K
      try simp only [Act.put, List.setIfInBounds_toArray, List.set_cons_zero, List.set_cons_succ]
      refine wpAnyK_done (by kernel_rfl) ?_ _
      go_wp2_with fail
      go_roundw
      case rel => exact ⟨i + 1, by omega, by go_num, Lib.hid ⟨_, _, HN.out⟩⟩
      case measure => simp [intOf]; omega
    · obtain rfl : n = i := by omega
      obtain ⟨g, bc, rfl, hg1, hg2, hgf, hgc, hge⟩ := ring_end hR hn1
      have hOutR : Seq wr (some ⟨H, 0, none⟩) 1 (ints [0]) := by
        rcases HOut.out with h0 | ⟨b, off, ha, hc⟩
        · omega
        · injection ha with ha
          injection ha with ha1 ha2
          subst ha1 ha2
          exact .inr ⟨H, 0, rfl, fun j hj => (hR.below.cell (p := ⟨_, _, none⟩) (by simp only; omega)).trans (hc j hj)⟩
      obtain ⟨hP, hF, hD⟩ := ring_reads (bc := bc) hR.data hn1 hn2 hgc (fun b hb => (hge b hb).1) hOutR
      have hl := (ring_mem hR.data).1
      have hvv : (ringV H g bc bs).val = .agg #[.int .i64 1, .slice (some ⟨g, 0, none⟩) n bc, .slice (some ⟨H, 0, none⟩) 1 1] := by rw [← hl]; rfl
      have hE := ring_E (T := t) hn1 hn2
      have C33 := check33 wr (ringV H g bc bs) hP hF
      rw [hvv, hD, hE] at C33
      have HC33 := Lib.hid C33
      have p0 := hR.c0
      have p1 := hR.c1
      have p2 := hR.c2
      have hsz := hR.size
      have HR := Lib.hid hR
      have HP := Lib.hid hP
      have HF := Lib.hid hF
      have HD := Lib.hid hD
      have HVv := Lib.hid hvv
      have HE := Lib.hid hE
      have HL := Lib.hid hl
      have HGc := Lib.hid hgc
      have HGe := Lib.hid hge
      have HGf := Lib.hid hgf
      have HOr := Lib.hid hOutR
      clear C33 hR hP hF hD hvv hE hl hgc hge hgf hOutR hlt hi' hh
      go_wp2_with fail
      refine Calls.mono HC33.out ?_
      rintro e wA ⟨rfl, hbA⟩
      have HBA := Lib.hid hbA
      have a0 := (hbA.cell (p := ⟨H + 1, 0, none⟩) (by simp only; omega)).trans p0
      have a1 := (hbA.cell (p := ⟨H + 1, 1, none⟩) (by simp only; omega)).trans p1
      have a2 := (hbA.cell (p := ⟨H + 1, 2, none⟩) (by simp only; omega)).trans p2
      have hsA := hbA.size
      have C29 := order29 wA (ringV H g bc bs) (HP.out.below hbA (Nat.le_refl _)) HF.out
      rw [HVv.out, HD.out] at C29
      have HC29 := Lib.hid C29
      clear hbA C29 p0 p1 p2
      go_wp2_with fail
      refine Calls.mono HC29.out ?_
      rintro e wB ⟨x1, x2, rfl, _, hbB⟩
      rw [HE.out]
      have HBB : Hid (Below wr.heap.size wr wB) := Lib.hid (HBA.out.trans (hbB.mono hsA))
      have b0 := (hbB.cell (p := ⟨H + 1, 0, none⟩) (by simp only; omega)).trans a0
      have b1 := (hbB.cell (p := ⟨H + 1, 1, none⟩) (by simp only; omega)).trans a1
      have b2 := (hbB.cell (p := ⟨H + 1, 2, none⟩) (by simp only; omega)).trans a2
      have hsB := hbB.size
      have hgcB := HGc.out.below HBB.out (Nat.le_refl _)
      obtain ⟨bs', hl', hd', hc', hi'⟩ := ring_flop HR.out.data hqn hgcB (fun b hb => ⟨(HGe.out b hb).1.below HBB.out (Nat.le_refl _), (HGe.out b hb).2⟩)
      have hbS : Below (H + 2) wr (wB.setCell ⟨g, q * 4 + 2, none⟩ (.bool true)) := (HBB.out.mono (by omega)).setCell (by omega) _
      have hoS : Seq (wB.setCell ⟨g, q * 4 + 2, none⟩ (.bool true)) (some ⟨H, 0, none⟩) 1 (ints [0]) := by
        rcases HOr.out with h0 | ⟨b, off, ha, hc⟩
        · omega
        · injection ha with ha
          injection ha with ha1 ha2
          subst ha1 ha2
          exact .inr ⟨H, 0, rfl, fun j hj => (hbS.cell (p := ⟨_, _, none⟩) (by simp only; omega)).trans (hc j hj)⟩
      obtain ⟨hP', hF', hD'⟩ := ring_reads (bc := bc) hd' hn1 hn2 hc' hi' hoS
      have hvv' : (ringV H g bc bs').val = .agg #[.int .i64 1, .slice (some ⟨g, 0, none⟩) n bc, .slice (some ⟨H, 0, none⟩) 1 1] := by rw [← HL.out, ← hl']; rfl
      have C29 := order29 _ (ringV H g bc bs') hP' hF'
      rw [hvv', hD'] at C29
      obtain ⟨o1, o2⟩ := ring_ok (T := t) hn1 hn2 hqn
      have d2 : ∃ v, wB.cell? ⟨g, q * 4 + 2, none⟩ = some v := by
        rcases hgcB with h0 | ⟨b, off, ha, hc⟩
        · rw [HL.out] at h0; omega
        · injection ha with ha
          injection ha with ha1 ha2
          subst ha1 ha2
          have := hc (q * 4 + 2) (by rw [HL.out]; omega)
          rw [Nat.zero_add] at this
          exact ⟨_, this⟩
      obtain ⟨v2, d2⟩ := d2
      have df : wB.frozen? ⟨g, q * 4 + 2, none⟩ = false := (HBB.out.frozen (p := ⟨_, _, none⟩) hg2).trans (HGf.out _)
      have HC29' := Lib.hid C29
      have HO1 := Lib.hid o1
      have HO2 := Lib.hid o2
      have HBS : Hid (Below w.heap.size w (wB.setCell ⟨g, q * 4 + 2, none⟩ (.bool true))) := Lib.hid (HB0.out.trans ((HR.out.below.mono (by omega)).trans (hbS.mono (by omega))))
      clear hbB hl' hd' hc' hi' hbS hoS hP' hF' hD' hvv' C29 o1 o2 hgcB a0 a1 a2
      go_wp2_with fail
      refine Calls.mono HC29'.out ?_
      rintro e wC ⟨x3, x4, rfl, _, hbC⟩
      rw [HO1.out, HO2.out]
      have HBC := Lib.hid (HBS.out.trans (hbC.mono HBS.out.size))
      have hsub : (n : Int) - 1 = (Nat.cast (n - 1) : Int) := by omega
      have HW1 : Hid (IntKind.i64.wrap ((n : Int) - 1) = (Nat.cast (n - 1) : Int)) := Lib.hid (by rw [hsub, Lib.wrap_i64_small _ (by omega)])
      clear hbC hsub
      go_wp2_with fail
      go_ret
      exact ⟨ret_bool (by simp; omega), HBC.out⟩
end Go.Proofs.Ytibimdhmfchcoaa
