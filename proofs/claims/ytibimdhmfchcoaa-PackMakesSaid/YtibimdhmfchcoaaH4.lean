/- container/heap's Push and Pop at the heap of numbers. -/
import Derived.Test.YtibimdhmfchcoaaH3
namespace Go.Proofs.Ytibimdhmfchcoaa
open Go.RowKit Go.Shelf Go.Maps
set_option linter.unusedVariables false
set_option linter.unusedSimpArgs false

/-- The variable in block R is a heap of the numbers l, which lie in a row behind R. -/
structure Heap (w : World) (R : Nat) (l : List Int) (v : Value) : Prop where
  cell : w.cell? ⟨R, 0, none⟩ = some v
  fz : w.frozen? ⟨R, 0, none⟩ = false
  own : w.ownsRow (R + 1) 3 1 v l.length (l.map (Value.int .i64))
  heap : IsHeap l l.length
/-- Nothing is written but block R and one row, which may be a new one. -/
structure Wrote (w w' : World) (R : Nat) (o o' : Option Nat) : Prop where
  os : w'.os = w.os
  tape : w'.tape = w.tape
  output : w'.output = w.output
  size : w.heap.size ≤ w'.heap.size
  block : ∀ b, b < w.heap.size → b ≠ R → some b ≠ o → w'.heap[b]? = w.heap[b]?
  at_ : ∀ b, o' = some b → o = some b ∨ w.heap.size ≤ b
section
variable {w w' w'' : World} {R : Nat} {o o' o'' row : Option Nat}
theorem Wrote.of_grown (h : w.grownBy w' o) (R : Nat) : Wrote w w' R o o := ⟨h.os, h.tape, h.output, h.size, fun b hb _ ho => h.block b hb ho, fun b hb => .inl hb⟩
theorem Wrote.grown (h : Wrote w w' R o o') (hg : w'.grownBy w'' o') : Wrote w w'' R o o' :=
  ⟨hg.os.trans h.os, hg.tape.trans h.tape, hg.output.trans h.output, Nat.le_trans h.size hg.size,
   fun b hb hr ho => (hg.block b (by have := h.size; omega) (fun e => by rcases h.at_ b e.symm with e | e; exact ho e.symm; omega)).trans (h.block b hb hr ho), h.at_⟩
theorem Wrote.set (h : Wrote w w' R o o') (u : Value) : Wrote w (w'.setCell ⟨R, 0, none⟩ u) R o o' :=
  ⟨h.os, h.tape, h.output, by rw [set_size]; exact h.size, fun b hb hr ho => ((grownBy_set w' R 0 u).block b (by have := h.size; omega) (fun e => by injection e with e; exact hr e)).trans (h.block b hb hr ho), h.at_⟩
theorem Wrote.trans (h : Wrote w w' R o o') (k : Wrote w' w'' R o' o'') : Wrote w w'' R o o'' :=
  ⟨k.os.trans h.os, k.tape.trans h.tape, k.output.trans h.output, Nat.le_trans h.size k.size,
   fun b hb hr ho => (k.block b (by have := h.size; omega) hr (fun e => by rcases h.at_ b e.symm with e | e; exact ho e.symm; omega)).trans (h.block b hb hr ho),
   fun b hb => by rcases k.at_ b hb with e | e; exact h.at_ b e; exact .inr (by have := h.size; omega)⟩
theorem Wrote.below {B : Nat} (h : Wrote w w' R o o') (hR : B ≤ R) (ho : ∀ b, o = some b → B ≤ b) (hB : B ≤ w.heap.size) : Below B w w' :=
  ⟨h.os, h.tape, h.output, h.size, fun b hb => h.block b (by omega) (by omega) (fun e => by have := ho b e.symm; omega)⟩
theorem Wrote.cell (h : Wrote w w' R o o') {b i : Nat} {v : Value} (hr : b ≠ R) (ho : some b ≠ o) (hc : w.cell? ⟨b, i, none⟩ = some v) : w'.cell? ⟨b, i, none⟩ = some v :=
  (World.cell?_of_block (a := ⟨_, _, none⟩) (h.block b (World.block_lt_of_cell? w _ hc) hr ho)).trans hc
end

theorem RowAt.of_own {w : World} {base g n c : Nat} {l : List Int} (h : w.ownsRow base 3 1 (.slice (some ⟨g, 0, none⟩) n c) n (l.map (Value.int .i64))) : RowAt w base g n c l := ⟨by have := h.1; simpa using this, h⟩

set_option maxRecDepth 100000 in
set_option maxHeartbeats 4000000 in
theorem push58 (w : World) (R : Nat) (l : List Int) (v : Value) (x : Int) (h : Heap w R l v) (hl : l.length ≤ 60000) :
    Calls Try.prog 58 #[.iface 95 (.pointer (some ⟨R, 0, none⟩)), .iface 3 (.int .i64 x)] w fun e w' => e = .returned (.tuple #[]) ∧ ∃ l' v', l'.Perm (l ++ [x]) ∧ Heap w' R l' v' ∧ Wrote w w' R v.ownBlock v'.ownBlock := by
  have H := Lib.hid h
  have hRs : R < w.heap.size := World.block_lt_of_cell? w _ h.cell
  have hne : some R ≠ v.ownBlock := fun e => by have := (h.own.lt R e.symm).1; omega
  have HNe := Lib.hid hne
  clear h hne
  have hm := m_push w (.pointer (some ⟨R, 0, none⟩))
  go_enter Try.func58, Try.ntmps58
  go_wp2_with fail
  refine (push98 w (R + 1) R v l x H.out.cell H.out.fz H.out.own HNe.out (by omega) (by omega)).mono ?_
  rintro e w1 ⟨g, c, w9, rfl, hg, rfl, hrow, hat, hlt⟩
  have hRw9 : R < w9.heap.size := by have := hg.size; omega
  have hc9 : w9.cell? ⟨R, 0, none⟩ = some v := (World.cell?_of_block (a := ⟨_, _, none⟩) (hg.block _ hRs HNe.out)).trans H.out.cell
  have hf9 : w9.frozen? ⟨R, 0, none⟩ = false := (World.frozen?_of_block (a := ⟨_, _, none⟩) (hg.block _ hRs HNe.out)).trans H.out.fz
  have hRg : R ≠ g := by
    rcases hat with e | e
    · intro e2; exact HNe.out (by rw [e, e2])
    · omega
  have hc1 : (w9.setCell ⟨R, 0, none⟩ (.slice (some ⟨g, 0, none⟩) (l.length + 1) c)).cell? ⟨R, 0, none⟩ = some (.slice (some ⟨g, 0, none⟩) (l.length + 1) c) := cell?_set_own hc9
  have hf1 : (w9.setCell ⟨R, 0, none⟩ (.slice (some ⟨g, 0, none⟩) (l.length + 1) c)).frozen? ⟨R, 0, none⟩ = false := by rw [set_frozen]; exact hf9
  have hrow1 : RowAt (w9.setCell ⟨R, 0, none⟩ (.slice (some ⟨g, 0, none⟩) (l.length + 1) c)) (R + 1) g (l.length + 1) c (l ++ [x]) :=
    ⟨hrow.len, hrow.own.kept (grownBy_set w9 R 0 _) (.inr (by intro e; simp only [Value.ownBlock] at e; injection e with e; exact hRg e.symm))⟩
  have hwr : Wrote w (w9.setCell ⟨R, 0, none⟩ (.slice (some ⟨g, 0, none⟩) (l.length + 1) c)) R v.ownBlock (some g) := by
    have h0 := (Wrote.of_grown hg R).set (.slice (some ⟨g, 0, none⟩) (l.length + 1) c)
    refine ⟨h0.os, h0.tape, h0.output, h0.size, h0.block, fun b hb => ?_⟩
    injection hb with hb
    subst hb
    rcases hat with e | e
    · exact .inl e
    · exact .inr (by omega)
  obtain ⟨W1, hW1⟩ : ∃ W, W = w9.setCell ⟨R, 0, none⟩ (.slice (some ⟨g, 0, none⟩) (l.length + 1) c) := ⟨_, rfl⟩
  rw [← hW1] at hc1 hf1 hrow1 hwr ⊢
  obtain ⟨n, hn⟩ : ∃ n, n = l.length := ⟨_, rfl⟩
  have hup : UpAt (l ++ [x]) (n + 1) n := by rw [hn]; exact up_start H.out.heap
  rw [← hn] at hc1 hrow1 hl
  have HRow := Lib.hid hrow1
  have HUp := Lib.hid hup
  have HWr := Lib.hid hwr
  have HF1 := Lib.hid hf1
  have HC1 := Lib.hid hc1
  have HN := Lib.hid hn
  have hm2 := m_len W1 R _ hc1
  clear hrow1 hup hwr hf1 hn hc9 hf9 hrow hW1 hg hat hlt hm hc1
  go_wp2_with fail
  refine (len94 W1 _ (n + 1) c).mono ?_
  rintro e w2 ⟨rfl, rfl⟩
  go_wp2_with fail
  refine (up71 W1 R g (n + 1) c (R + 1) n (l ++ [x]) HC1.out HRow.out hRg (by omega) HUp.out (by omega)).mono ?_
  rintro e w3 ⟨rfl, l', hp, hh, hr, hg3⟩
  have HP := Lib.hid hp
  have HH := Lib.hid hh
  have HR := Lib.hid hr
  have HG := Lib.hid hg3
  clear hp hh hr hg3
  go_wp2_with fail
  go_end0
  have hlen : l'.length = n + 1 := HR.out.len
  refine ⟨rfl, l', .slice (some ⟨g, 0, none⟩) (n + 1) c, HP.out, ⟨?_, ?_, by rw [hlen]; exact HR.out.own, by rw [hlen]; exact HH.out⟩, HWr.out.grown HG.out⟩
  · exact (World.cell?_of_block (a := ⟨_, _, none⟩) (HG.out.block _ (World.block_lt_of_cell? W1 _ HC1.out) (by intro e; injection e with e; exact hRg e))).trans HC1.out
  · exact (World.frozen?_of_block (a := ⟨_, _, none⟩) (HG.out.block _ (World.block_lt_of_cell? W1 _ HC1.out) (by intro e; injection e with e; exact hRg e))).trans HF1.out

set_option maxRecDepth 100000 in
set_option maxHeartbeats 4000000 in
theorem pop59 (w : World) (R n : Nat) (l : List Int) (v : Value) (h : Heap w R l v) (hn : l.length = n + 1) (hl : n ≤ 60000) :
    Calls Try.prog 59 #[.iface 95 (.pointer (some ⟨R, 0, none⟩))] w fun e w' => e = .returned (.iface 3 (.int .i64 (l.getD 0 0))) ∧ ∃ l' v', l.Perm (l' ++ [l.getD 0 0]) ∧ Heap w' R l' v' ∧ Wrote w w' R v.ownBlock v'.ownBlock ∧ l'.length = n := by
  have hRs : R < w.heap.size := World.block_lt_of_cell? w _ h.cell
  have hown := h.own
  rw [hn] at hown
  obtain ⟨g, c, rfl, hg1, hg2, hc1, _⟩ := owns_shape hown (by omega)
  have hc2 : c ≤ maxLen := by
    rcases hown.2 with ⟨hv, _⟩ | ⟨g', cap, cur, hv, _, _, _, hcm, _⟩
    · cases hv
    · injection hv with _ _ hv; rw [hv]; exact hcm
  have hrow : RowAt w (R + 1) g (n + 1) c l := ⟨hn, hown⟩
  have hRg : R ≠ g := by omega
  have hsw := hrow.swap (i := 0) (j := n) (by omega) (by omega)
  have hdn := dn_start (n := n) (by rw [← hn]; exact h.heap) hn
  have hc := h.cell
  have HF := Lib.hid h.fz
  have c0 := hrow.cell (i := 0) (by omega)
  have cn := hrow.cell (i := n) (by omega)
  have f0 := hrow.frozen 0
  have fn := hrow.frozen n
  have hpp := swapL_perm l 0 n (by omega) (by omega)
  have hsg := swapL_get l 0 n n (by omega) (by omega)
  rw [if_pos rfl] at hsg
  have hsl := swapL_length l 0 n
  obtain ⟨x, hx⟩ : ∃ x, x = l.getD 0 0 := ⟨_, rfl⟩
  obtain ⟨y, hy⟩ : ∃ x, x = l.getD n 0 := ⟨_, rfl⟩
  obtain ⟨l1, hl1⟩ : ∃ x, x = swapL l 0 n := ⟨_, rfl⟩
  rw [← hl1] at hsw hdn hpp hsg hsl
  rw [← hx] at hsw c0 hsg ⊢
  rw [← hy] at hsw cn
  have HSw := Lib.hid hsw
  have HDn := Lib.hid hdn
  have HPp := Lib.hid hpp
  have HSg := Lib.hid hsg
  have HSl := Lib.hid hsl
  have HN := Lib.hid hn
  have HC := Lib.hid hc
  clear hsw hdn hpp hsg hsl hn hx hy hl1 hown hrow h
  have hm := m_len w R _ hc
  have hm2 := m_swap w R _ hc
  clear hc
  go_enter Try.func59, Try.ntmps59
  go_wp2_with fail
  refine (len94 w _ (n + 1) c).mono ?_
  rintro e w2 ⟨rfl, rfl⟩
  go_wp2_with fail
  refine Calls.mono (swap96' _ _ w g (n + 1) c 0 n x y rfl (by omega) (by omega) (by omega) (by omega) c0 cn f0 fn) ?_
  rintro e w1 ⟨rfl, q, rfl⟩
  obtain ⟨W1, hW1⟩ : ∃ W, W = ((w.setCell ⟨g, 0, none⟩ (.int .i64 y)).setCell ⟨g, n, none⟩ (.int .i64 x)).drewN q := ⟨_, rfl⟩
  have hs1 : RowAt W1 (R + 1) g (n + 1) c l1 := by rw [hW1]; exact HSw.out.1.drewN q
  have hg1' : w.grownBy W1 (some g) := by rw [hW1]; exact grownBy_trans HSw.out.2 (grownBy_drewN _ q _)
  rw [← hW1]
  have hc1' : W1.cell? ⟨R, 0, none⟩ = some (.slice (some ⟨g, 0, none⟩) (n + 1) c) := (World.cell?_of_block (a := ⟨_, _, none⟩) (hg1'.block _ hRs (by intro e; injection e with e; exact hRg e))).trans HC.out
  have HS1 := Lib.hid hs1
  have HG1 := Lib.hid hg1'
  have HC1 := Lib.hid hc1'
  clear hs1 hg1' hc1' hW1 c0 cn f0 fn hm hm2
  go_wp2_with fail
  refine Calls.mono (down72 W1 R g (n + 1) c (R + 1) n l1 HC1.out HS1.out hRg (by omega) HDn.out (by omega)) ?_
  rintro e w3 ⟨b, rfl, l2, hp2, hh2, hr2, hk2, hg2'⟩
  have hc2' : w3.cell? ⟨R, 0, none⟩ = some (.slice (some ⟨g, 0, none⟩) (n + 1) c) := (World.cell?_of_block (a := ⟨_, _, none⟩) (hg2'.block _ (World.block_lt_of_cell? W1 _ HC1.out) (by intro e; injection e with e; exact hRg e))).trans HC1.out
  have hf3 : w3.frozen? ⟨R, 0, none⟩ = false := (World.frozen?_of_block (a := ⟨_, _, none⟩) ((hg2'.block _ (World.block_lt_of_cell? W1 _ HC1.out) (by intro e; injection e with e; exact hRg e)).trans (HG1.out.block _ hRs (by intro e; injection e with e; exact hRg e)))).trans HF.out
  have hxn : l2.getD n 0 = x := (hk2 n (Nat.le_refl _)).trans HSg.out
  have cn := hr2.cell (i := n) (by omega)
  rw [hxn] at cn
  have hm3 := m_pop w3 (.pointer (some ⟨R, 0, none⟩))
  have HP2 := Lib.hid hp2
  have HH2 := Lib.hid hh2
  have HR2 := Lib.hid hr2
  have HG2 := Lib.hid hg2'
  have HC2 := Lib.hid hc2'
  have HF3 := Lib.hid hf3
  have HXn := Lib.hid hxn
  have HCn := Lib.hid cn
  clear hp2 hh2 hr2 hg2' hc2' hf3 hxn cn hk2
  go_wp2_with fail
  refine Calls.mono (pop97 w3 R g n c x HC2.out HF3.out HCn.out (by omega) hc2 (by omega)) ?_
  rintro e w4 ⟨rfl, rfl⟩
  go_wp2_with fail
  go_ret
  have hl2 : l2.length = n + 1 := HR2.out.len
  have hlt : (l2.take n).length = n := by rw [List.length_take]; omega
  refine ⟨rfl, l2.take n, .slice (some ⟨g, 0, none⟩) n c, ?_, ⟨cell?_set_own HC2.out, by rw [set_frozen]; exact HF3.out, ?_, ?_⟩, ((Wrote.of_grown (grownBy_trans HG1.out HG2.out) R).set _), hlt⟩
  · have h2 : l2 = l2.take n ++ [x] := by
      have := List.take_append_drop n l2
      rw [List.drop_eq_getElem_cons (by omega), List.drop_eq_nil_of_le (by omega)] at this
      rw [← HXn.out, List.getD_eq_getElem?_getD, List.getElem?_eq_getElem (by omega)]
      exact this.symm
    rw [← h2]
    exact (HP2.out.trans HPp.out).symm
  · rw [hlt, List.map_take]
    exact (own_short HR2.out.own (by omega)).kept (grownBy_set w3 R 0 _) (.inr (by intro e; simp only [Value.ownBlock] at e; injection e with e; exact hRg e.symm))
  · rw [hlt]
    intro k k0 hk
    have := HH2.out k k0 hk
    have hpk := par_lt k0
    simp only [List.getD_eq_getElem?_getD, List.getElem?_take, if_pos hk, if_pos (show par k < n by omega)]
    simpa only [List.getD_eq_getElem?_getD] using this
end Go.Proofs.Ytibimdhmfchcoaa
