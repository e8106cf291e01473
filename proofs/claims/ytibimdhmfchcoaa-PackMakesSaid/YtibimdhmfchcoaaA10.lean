import Derived.Test.YtibimdhmfchcoaaA9
namespace Go.Proofs.Ytibimdhmfchcoaa
open Go.RowKit Go.Shelf Go.Maps
set_option linter.unusedVariables false
set_option linter.unusedSimpArgs false
theorem results_pack1 {tmps : Array Value} {w : World} {b : Nat} {x : Int} {ba oa : Option Addr} {n bc m oc : Nat} (h2 : tmps[2]?.getD undef = .pointer (some ⟨b, 0, none⟩)) (h3 : tmps[3]?.getD undef = .int .i64 1)
    (h0 : w.cell? ⟨b, 0, none⟩ = some (.int .i64 x)) (h1 : w.cell? ⟨b, 1, none⟩ = some (.slice ba n bc)) (h4 : w.cell? ⟨b, 2, none⟩ = some (.slice oa m oc)) :
    (results Try.f16 tmps).run Try.prog w = .ok (.tuple #[.agg #[.int .i64 x, .slice ba n bc, .slice oa m oc], .int .i64 1]) w := by
  simp [results, go_sem, h2, h3, h0, h1, h4]


/-- What rows that the call made hold. -/
theorem owns_cells {w : World} {base e size n : Nat} {v : Value} {xs : List Value} (h : w.ownsRow base e size v n xs) (hn : 0 < n) : ∃ g cap, v = .slice (some ⟨g, 0, none⟩) n cap ∧ base ≤ g ∧ g < w.heap.size ∧ ∀ j (hj : j < xs.length), w.cell? ⟨g, j, none⟩ = some xs[j] := by
  rcases h.2 with ⟨_, h0⟩ | ⟨g, cap, cur, hv, hb, hg, hnc, hm, hs, ht⟩
  · omega
  · subst hv
    exact ⟨g, cap, rfl, hb, (Array.getElem?_eq_some_iff.1 hg).1, fun j hj => (h.cellAt j (h.1 ▸ hj)).trans (List.getElem?_eq_getElem hj)⟩

def blkCell (bs : List BlkV) : Nat → Value := fun i =>
  if i % 4 = 0 then .slice (bs.getD (i / 4) default).a (bs.getD (i / 4) default).ins.length (bs.getD (i / 4) default).c
  else if i % 4 = 1 then .int .i64 (bs.getD (i / 4) default).tab
  else if i % 4 = 2 then .bool (bs.getD (i / 4) default).ff else .bool (bs.getD (i / 4) default).init

/-- How a pack reads in a world. -/
structure PackAt (w : World) (P : PackV) : Prop where
  insR : I64 P.ins
  blocks : Seq w P.ba (4 * P.bs.length) (blkCell P.bs)
  outs : Seq w P.oa P.os.length (ints P.os)
  each : ∀ b ∈ P.bs, Seq w b.a b.ins.length (ints b.ins) ∧ (∀ x ∈ b.ins, I64 x) ∧ I64 b.tab ∧ b.ins.length ≤ 9223372036854775807
  outsR : ∀ x ∈ P.os, I64 x
  blocksL : P.bs.length ≤ 9223372036854775807
  outsL : P.os.length ≤ 9223372036854775807

theorem PackAt.below {w w' : World} {B : Nat} {P : PackV} (h : PackAt w P) (hb : Below B w w') (hB : w.heap.size ≤ B) : PackAt w' P :=
  ⟨h.insR, h.blocks.below hb hB, h.outs.below hb hB, fun b hb' => ⟨(h.each b hb').1.below hb hB, (h.each b hb').2⟩, h.outsR, h.blocksL, h.outsL⟩

theorem blk_flat (bs : List BlkV) : ∀ j (hj : j < (bs.flatMap BlkV.cells).length), (bs.flatMap BlkV.cells)[j] = blkCell bs j := by
  induction bs with
  | nil => intro j hj; simp at hj
  | cons b bs ih =>
    intro j hj
    rw [List.getElem_of_eq List.flatMap_cons]
    rcases Nat.lt_or_ge j 4 with h | h
    · rw [List.getElem_append_left (by simpa using h)]
      match j, h with
      | 0, _ => rfl
      | 1, _ => rfl
      | 2, _ => rfl
      | 3, _ => rfl
    · rw [List.getElem_append_right (by simpa using h)]
      have hl : b.cells.length = 4 := rfl
      simp only [hl]
      rw [ih (j - 4) (by rw [List.flatMap_cons, List.length_append, hl] at hj; omega)]
      unfold blkCell
      rw [show j % 4 = (j - 4) % 4 by omega, show j / 4 = (j - 4) / 4 + 1 by omega, List.getD_cons_succ]
theorem flat_length (bs : List BlkV) : (bs.flatMap BlkV.cells).length = 4 * bs.length := by
  induction bs with
  | nil => rfl
  | cons b bs ih => rw [List.flatMap_cons, List.length_append, ih, List.length_cons]; simp; omega

theorem toldD_tab (g : Int → Int) (ins : List Int) (T : Nat) (ff init : Bool) (h : ins.length ≤ 4) : 0 ≤ (toldD g ins T ff init).tab ∧ (toldD g ins T ff init).tab < 65536 ∧ (toldD g ins T ff init).ins.length ≤ 4 := by
  have hk := keptTo_length ins ins.length
  have h1 := tabTo_lt T (keptTo ins ins.length) (2 ^ (keptTo ins ins.length).length)
  have h2 : (2 : Nat) ^ (keptTo ins ins.length).length ≤ 2 ^ 4 := Nat.pow_le_pow_right (by omega) (by omega)
  have h3 : (2 : Nat) ^ (2 ^ (keptTo ins ins.length).length) ≤ 2 ^ 16 := Nat.pow_le_pow_right (by omega) (by omega)
  have hl := liveTo_length g ins ins.length
  unfold toldD
  dsimp only
  exact ⟨by omega, by omega, by omega⟩
theorem liveTo_mem (g : Int → Int) (ins : List Int) (k : Nat) : ∀ x ∈ liveTo g ins k, ∃ y, x = g y := by
  induction k with
  | zero => intro x hx; cases hx
  | succ k ih =>
    intro x hx
    unfold liveTo at hx
    split at hx
    · exact ih x hx
    · rcases List.mem_append.1 hx with h | h
      · exact ih x h
      · rw [List.mem_singleton] at h; exact ⟨_, h⟩

/-- A block that Pack makes is small, and hangs on wires alone. -/
structure BlkFine (f : Int → Int) (b : BlkD) : Prop where
  tab0 : 0 ≤ b.tab
  tab : b.tab < 65536
  len : b.ins.length ≤ 4
  ins : ∀ x ∈ b.ins, ∃ y, x = f y

theorem lut_len (N : NetV) (hok : NetOk N 4) (i : Nat) : (N.luts.getD i default).ins.length ≤ 4 := by
  rcases Nat.lt_or_ge i N.luts.length with h | h
  · have := (hok.lut i h).len; omega
  · simp [List.getD, List.getElem?_eq_none h]; exact Nat.zero_le _
theorem told_fine (f : Int → Int) (ins : List Int) (T : Nat) (ff init : Bool) (h : ins.length ≤ 4) : BlkFine f (toldD f ins T ff init) :=
  ⟨(toldD_tab f ins T ff init h).1, (toldD_tab f ins T ff init h).2.1, (toldD_tab f ins T ff init h).2.2, liveTo_mem f ins ins.length⟩
theorem zero_fine (f : Int → Int) (ff init : Bool) : BlkFine f ⟨[], 0, ff, init⟩ := ⟨Int.le_refl 0, (by decide : (0 : Int) < 65536), Nat.zero_le 4, fun x hx => by cases hx⟩
theorem holdBlk_fine (N : NetV) (hok : NetOk N 4) (g : Int → Bool) (f : Int → Int) (h : HoldV) : BlkFine f (holdBlk N g f h) := by
  unfold holdBlk
  split
  · exact told_fine f _ _ _ _ (lut_len N hok _)
  · split
    · exact zero_fine f _ _
    · exact ⟨by dsimp only; omega, by dsimp only; omega, by simp, fun x hx => ⟨h.d, by simpa using hx⟩⟩
theorem packBlks_fine (N : NetV) (hok : NetOk N 4) : ∀ b ∈ packBlks N, BlkFine (wiresF N) b := by
  intro b hb
  unfold packBlks at hb
  rcases List.mem_append.1 hb with hb | hb
  · rcases List.mem_append.1 hb with hb | hb
    · unfold holdBlks at hb
      obtain ⟨h, _, rfl⟩ := List.mem_map.1 hb
      exact holdBlk_fine N hok _ _ h
    · revert hb
      generalize N.luts.length = k
      intro hb
      induction k with
      | zero => cases hb
      | succ k ih =>
        unfold lutBlks at hb
        split at hb
        · exact ih hb
        · rcases List.mem_append.1 hb with hb | hb
          · exact ih hb
          · rw [List.mem_singleton] at hb; subst hb; exact told_fine _ _ _ _ _ (lut_len N hok _)
  · split at hb
    · rw [List.mem_singleton] at hb; subst hb; exact zero_fine _ _ _
    · cases hb
theorem wiresF_bound (N : NetV) (hf : Few N) (h0 : 0 ≤ N.ins) (x : Int) : 0 ≤ wiresF N x ∧ wiresF N x ≤ 400 := by
  have h := wireTo_bound N (whoF N) h0 N.luts.length x
  have h1 := hf.ins; have h2 := hf.holds; have h3 := hf.luts
  unfold wiresF; omega
theorem wiresE_bound (N : NetV) (hf : Few N) (h0 : 0 ≤ N.ins) (x : Int) : 0 ≤ wiresE N x ∧ wiresE N x ≤ 400 := by
  have h := wiresF_bound N hf h0 x
  have h4 := nextTo_bound N (whoF N) N.luts.length
  have h1 := hf.ins; have h2 := hf.holds; have h3 := hf.luts
  unfold wiresE; split
  · dsimp only; split <;> omega
  · exact h
theorem packBlks_length (N : NetV) : (packBlks N).length ≤ N.holds.length + N.luts.length + 1 ∧ N.holds.length ≤ (packBlks N).length := by
  have h := lutBlks_length N (whoF N) (wiresF N) N.luts.length
  unfold packBlks holdBlks
  rw [List.length_append, List.length_append, List.length_map, List.length_take]
  split <;> simp <;> omega

/-- What lies where a pack was made reads as one. -/
theorem pack_at {w : World} {N : NetV} {P : PackV} {lo : Nat} (hok : NetOk N 4) (hf : Few N) (hi : P.ins = N.ins) (hI : I64 N.ins) (hb : P.bs.map BlkV.data = packBlks N) (ho : P.os = packOuts N)
    (hr : Rows lo P.bs (.slice P.ba P.bs.length P.bc) P.os (.slice P.oa P.os.length P.oc) w) : PackAt w P := by
  have hfine : ∀ b ∈ P.bs, BlkFine (wiresF N) b.data := fun b hbm => packBlks_fine N hok _ (hb ▸ List.mem_map_of_mem hbm)
  have hlen : P.bs.length ≤ 500 := by
    have h := congrArg List.length hb
    rw [List.length_map] at h
    have := packBlks_length N; have := hf.holds; have := hf.luts; omega
  refine ⟨hi ▸ hI, ?_, ?_, fun b hbm => ⟨?_, fun x hx => ?_, ?_, ?_⟩, fun x hx => ?_, by omega, ?_⟩
  · rcases Nat.eq_zero_or_pos P.bs.length with h0 | h0
    · exact .inl (by omega)
    · obtain ⟨g, cap, hv, _, _, hc⟩ := owns_cells hr.own h0
      injection hv with hv
      refine .inr ⟨g, 0, hv, fun i hi => ?_⟩
      have hi' : i < (P.bs.flatMap BlkV.cells).length := by rw [flat_length]; omega
      rw [Nat.zero_add, hc i hi', blk_flat]
  · rcases Nat.eq_zero_or_pos P.os.length with h0 | h0
    · exact .inl h0
    · obtain ⟨g, cap, hv, _, _, _, hc⟩ := owns_shape hr.oown h0
      injection hv with hv
      exact .inr ⟨g, 0, hv, fun i hi => by rw [Nat.zero_add]; exact hc i hi⟩
  · rcases hr.ins b hbm with h | ⟨g, off, ha, _, _, _, _, hc⟩
    · exact .inl h
    · exact .inr ⟨g, off, ha, hc⟩
  · obtain ⟨y, rfl⟩ := (hfine b hbm).ins x hx
    have := wiresF_bound N hf hok.ins0 y
    exact ⟨by omega, by omega⟩
  · have h1 := (hfine b hbm).tab0
    have h2 := (hfine b hbm).tab
    have : b.data.tab = b.tab := rfl
    exact ⟨by omega, by omega⟩
  · have h1 := (hfine b hbm).len
    have : b.data.ins.length = b.ins.length := rfl
    omega
  · rw [ho] at hx
    obtain ⟨y, _, rfl⟩ := List.mem_map.1 hx
    have := wiresE_bound N hf hok.ins0 y
    exact ⟨by omega, by omega⟩
  · rw [ho]; unfold packOuts; rw [List.length_map]; have := hf.outs; omega

set_option maxRecDepth 100000 in
set_option maxHeartbeats 8000000 in
theorem pack_bad (w : World) (N : NetV) (hN : NetAt w N) (hf : Few N) (hok : ¬ NetOk N 4) : Calls Try.prog 16 #[N.val] w fun e w' => e = .returned (.tuple #[.agg #[.int .i64 0, .slice none 0 0, .slice none 0 0], .int .i64 1]) ∧ Below w.heap.size w w' := by
  go_enter Try.func16, Try.ntmps16
  go_wp2_with fail
  refine (check _ N (hN.below (((Below.refl _ _).alloc (Nat.le_refl _) _).alloc (by simp) _) (Nat.le_refl _)) hf 4 (by omega)).mono ?_
  rintro e w1 ⟨rfl, hb1⟩
  obtain ⟨c, hc⟩ : ∃ c, c = chk N 4 := ⟨_, rfl⟩
  have hc0 : c = 1 := by rw [hc]; unfold chk; rw [if_neg hok]
  rw [← hc, hc0]
  clear hc hc0
  have hb1 : Below (w.heap.size + 2) ((w.alloc N.obj).alloc (.cells #[.int .i64 0, .slice none 0 0, .slice none 0 0] 31)) w1 := hb1.mono (by simp)
  have zr : w1.heap[w.heap.size + 1]? = some (.cells #[.int .i64 0, .slice none 0 0, .slice none 0 0] 31) := by
    refine (hb1.block _ (by omega)).trans ?_
    have h := alloc_top (w.alloc N.obj) (.cells #[.int .i64 0, .slice none 0 0, .slice none 0 0] 31)
    rwa [show (w.alloc N.obj).heap.size = w.heap.size + 1 by simp] at h
  have hw : Below w.heap.size w w1 := (((Below.refl _ _).alloc (Nat.le_refl _) _).alloc (by simp) _).trans (hb1.mono (by omega))
  have hws : w.heap.size + 2 ≤ w1.heap.size := by have := hb1.size; simpa using this
  obtain ⟨zr0, zf⟩ := cells_at zr 0
  have zr1 := (cells_at zr 1).1
  have zr2 := (cells_at zr 2).1
  have zf1 := (cells_at zr 1).2
  have zf2 := (cells_at zr 2).2
  simp only [List.getElem?_toArray, List.getElem?_cons_zero, List.getElem?_cons_succ] at zr0 zr1 zr2
  have HW := Lib.hid hw
  clear hw hb1 zr
  go_wp2_with fail
  refine bodyPost_ret (results_pack1 (b := w.heap.size + 1) rfl rfl (set_keep (set_keep (cell?_set_own zr0) (by decide)) (by decide)) (set_keep (cell?_set_own (set_keep zr1 (by decide))) (by decide)) (cell?_set_own (set_keep (set_keep zr2 (by decide)) (by decide)))) rfl ⟨rfl, ?_⟩
  have hg := ggrown (ggrown (grownBy_set w1 (w.heap.size + 1) 0 (.int .i64 0)) (grownBy_set _ (w.heap.size + 1) 1 (.slice none 0 0))) (grownBy_set _ (w.heap.size + 1) 2 (.slice none 0 0))
  exact HW.out.grown hg (by omega) (fun k e => by injection e with e; omega)

theorem packs (w : World) (N : NetV) (hN : NetAt w N) (hf : Few N) : Calls Try.prog 16 #[N.val] w fun e w' =>
    (NetOk N 4 ∧ NewPack w N e w') ∨ (¬ NetOk N 4 ∧ e = .returned (.tuple #[.agg #[.int .i64 0, .slice none 0 0, .slice none 0 0], .int .i64 1]) ∧ Below w.heap.size w w') := by
  by_cases hok : NetOk N 4
  · exact pack_ok w N hN hf hok _ (fun e w' h => .inl ⟨hok, h⟩)
  · exact (pack_bad w N hN hf hok).mono (fun e w' h => .inr ⟨hok, h⟩)
end Go.Proofs.Ytibimdhmfchcoaa

