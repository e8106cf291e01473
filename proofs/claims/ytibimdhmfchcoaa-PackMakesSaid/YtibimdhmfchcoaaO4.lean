/- The memory of pack.Order: what waits, who waits, the heap. -/
import Derived.Test.YtibimdhmfchcoaaO3
namespace Go.Proofs.Ytibimdhmfchcoaa
open Go.RowKit Go.Shelf Go.Maps
set_option linter.unusedVariables false
set_option linter.unusedSimpArgs false

theorem own_of_block {w w' : World} {base e size n : Nat} {v : Value} {xs : List Value} (h : w.ownsRow base e size v n xs) (hk : ∀ g, v.ownBlock = some g → w'.heap[g]? = w.heap[g]?) : w'.ownsRow base e size v n xs := by
  rcases h.2 with ⟨rfl, rfl⟩ | ⟨g, cap, cur, rfl, hb, hg, r⟩
  · exact ⟨h.1, .inl ⟨rfl, rfl⟩⟩
  · exact ⟨h.1, .inr ⟨g, cap, cur, rfl, hb, (hk g rfl).trans hg, r⟩⟩

structure OS (w0 : World) (P : PackV) (wb hb R : Nat) (wt : Nat → Nat) (vs : Nat → Value) (bh : Nat → List Nat) (l : List Int) (hv : Value) (wr : World) : Prop where
  box : PBox w0.heap.size w0 P wr
  l1 : w0.heap.size < wb
  l2 : w0.heap.size < hb
  l3 : wb < R
  l4 : hb < R
  l5 : wb ≠ hb
  waits : wr.rowIs wb 3 P.bs.length (fun j => .int .i64 (wt j))
  heads : wr.rowIs hb 24 P.bs.length vs
  rows : ∀ j, j < P.bs.length → wr.ownsRow (R + 1) 3 1 (vs j) (bh j).length (nums (bh j))
  apart : ∀ j k g, j < P.bs.length → k < P.bs.length → (vs j).ownBlock = some g → (vs k).ownBlock = some g → j = k
  heap : Heap wr R l hv
  far : ∀ j g, j < P.bs.length → (vs j).ownBlock = some g → hv.ownBlock ≠ some g
section
variable {w0 wr w' : World} {P : PackV} {wb hb R : Nat} {wt : Nat → Nat} {vs : Nat → Value} {bh : Nat → List Nat} {l : List Int} {hv : Value}
theorem OS.rsize (h : OS w0 P wb hb R wt vs bh l hv wr) : R < wr.heap.size := World.block_lt_of_cell? wr _ h.heap.cell
theorem OS.keep (h : OS w0 P wb hb R wt vs bh l hv wr) (hB : Below (w0.heap.size + 1) wr w') (kw : w'.heap[wb]? = wr.heap[wb]?) (kh : w'.heap[hb]? = wr.heap[hb]?) (kR : w'.heap[R]? = wr.heap[R]?)
    (kr : ∀ j g, j < P.bs.length → (vs j).ownBlock = some g → w'.heap[g]? = wr.heap[g]?) (ko : ∀ g, hv.ownBlock = some g → w'.heap[g]? = wr.heap[g]?) : OS w0 P wb hb R wt vs bh l hv w' :=
  ⟨h.box.step hB (Nat.le_refl _), h.l1, h.l2, h.l3, h.l4, h.l5, h.waits.of_block kw, h.heads.of_block kh, fun j hj => own_of_block (h.rows j hj) (fun g hg => kr j g hj hg), h.apart,
   ⟨(World.cell?_of_block (a := ⟨_, _, none⟩) kR).trans h.heap.cell, (World.frozen?_of_block (a := ⟨_, _, none⟩) kR).trans h.heap.fz, own_of_block h.heap.own ko, h.heap.heap⟩, h.far⟩
theorem OS.low (h : OS w0 P wb hb R wt vs bh l hv wr) (hB : Below wr.heap.size wr w') : OS w0 P wb hb R wt vs bh l hv w' := by
  have hR := h.rsize
  have := h.l1; have := h.l2; have := h.l3; have := h.l4
  exact h.keep (hB.mono (by omega)) (hB.block _ (by omega)) (hB.block _ (by omega)) (hB.block _ hR) (fun j g hj hg => hB.block _ ((h.rows j hj).lt g hg).2) (fun g hg => hB.block _ (h.heap.own.lt g hg).2)
/-- One row is grown, which is none of these. -/
theorem OS.grown (h : OS w0 P wb hb R wt vs bh l hv wr) {row : Option Nat} (hg : wr.grownBy w' row) (hr : ∀ k, row = some k → R < k) (hv2 : ∀ k, row = some k → hv.ownBlock ≠ some k) (hrow : ∀ j k, j < P.bs.length → row = some k → (vs j).ownBlock ≠ some k) : OS w0 P wb hb R wt vs bh l hv w' := by
  have hR := h.rsize
  have := h.l1; have := h.l2; have := h.l3; have := h.l4
  have nb : ∀ b, b ≤ R → some b ≠ row := fun b hb e => by have := hr b e.symm; omega
  exact h.keep ((Below.refl _ _).grown hg (by omega) (fun k e => by have := hr k e; omega)) (hg.block _ (by omega) (nb _ (by omega))) (hg.block _ (by omega) (nb _ (by omega))) (hg.block _ hR (nb _ (by omega)))
    (fun j g hj hjg => hg.block _ ((h.rows j hj).lt g hjg).2 (fun e => hrow j g hj e.symm hjg)) (fun g ho => hg.block _ (h.heap.own.lt g ho).2 (fun e => hv2 g e.symm ho))
theorem OS.wset (h : OS w0 P wb hb R wt vs bh l hv wr) {i x : Nat} : OS w0 P wb hb R (upd wt i x) vs bh l hv (wr.setCell ⟨wb, i, none⟩ (.int .i64 x)) := by
  have hR := h.rsize
  have h1 := h.l1; have h2 := h.l2; have h3 := h.l3; have h4 := h.l4
  have hg := grownBy_set wr wb i (.int .i64 x)
  have nb : ∀ b, b ≠ wb → some b ≠ some wb := fun b hb e => hb (by injection e)
  have hk : ∀ b, b < wr.heap.size → b ≠ wb → (wr.setCell ⟨wb, i, none⟩ (.int .i64 x)).heap[b]? = wr.heap[b]? := fun b hl hne => hg.block b hl (nb b hne)
  refine ⟨h.box.step ((Below.refl _ _).setCell (by simp only; omega) _) (Nat.le_refl _), h1, h2, h3, h4, h.l5, ?_, h.heads.of_block (hk _ (by omega) h.l5.symm), fun j hj => own_of_block (h.rows j hj) (fun g hg => ?_), h.apart,
   ⟨(World.cell?_of_block (a := ⟨_, _, none⟩) (hk R hR (by omega))).trans h.heap.cell, (World.frozen?_of_block (a := ⟨_, _, none⟩) (hk R hR (by omega))).trans h.heap.fz, own_of_block h.heap.own (fun g hg => ?_), h.heap.heap⟩, h.far⟩
  · refine (h.waits.set i (.int .i64 x)).congr (fun j hj => ?_)
    by_cases e : j = i
    · subst e; rw [if_pos rfl, upd_same]
    · rw [if_neg e, upd_other _ _ _ e]
  · have := (h.rows j hj).lt g hg; exact hk g this.2 (by omega)
  · have := h.heap.own.lt g hg; exact hk g this.2 (by omega)
/-- The heap has been written. -/
theorem OS.heaped (h : OS w0 P wb hb R wt vs bh l hv wr) {l' : List Int} {hv' : Value} (hw : Wrote wr w' R hv.ownBlock hv'.ownBlock) (hh : Heap w' R l' hv') : OS w0 P wb hb R wt vs bh l' hv' w' := by
  have hR := h.rsize
  have h1 := h.l1; have h2 := h.l2; have h3 := h.l3; have h4 := h.l4
  have no : ∀ b, b ≤ R → some b ≠ hv.ownBlock := fun b hb e => by have := (h.heap.own.lt b e.symm).1; omega
  refine ⟨h.box.step (hw.below (B := w0.heap.size + 1) (by omega) (fun b e => by have := (h.heap.own.lt b e).1; omega) (by omega)) (Nat.le_refl _), h1, h2, h3, h4, h.l5,
    h.waits.of_block (hw.block _ (by omega) (by omega) (no _ (by omega))), h.heads.of_block (hw.block _ (by omega) (by omega) (no _ (by omega))), fun j hj => own_of_block (h.rows j hj) (fun g hg => ?_), h.apart, hh, fun j g hj hjg e => ?_⟩
  · have := (h.rows j hj).lt g hg
    exact hw.block g this.2 (by omega) (fun e => h.far j g hj hg e.symm)
  · rcases hw.at_ g e with e2 | e2
    · exact h.far j g hj hjg e2
    · have := ((h.rows j hj).lt g hjg).2; omega
/-- One more waits for block k. -/
theorem OS.app (h : OS w0 P wb hb R wt vs bh l hv wr) {k i g c : Nat} {w9 : World} (hk : k < P.bs.length) (hg : wr.grownBy w9 (vs k).ownBlock) (ho : w9.ownsRow (R + 1) 3 1 (.slice (some ⟨g, 0, none⟩) ((bh k).length + 1) c) ((bh k).length + 1) (nums (bh k) ++ [Value.int .i64 i]))
    (hat : (vs k).ownBlock = some g ∨ g = wr.heap.size + 1) : OS w0 P wb hb R wt (upd vs k (.slice (some ⟨g, 0, none⟩) ((bh k).length + 1) c)) (upd bh k (bh k ++ [i])) l hv (w9.setCell ⟨hb, k, none⟩ (.slice (some ⟨g, 0, none⟩) ((bh k).length + 1) c)) := by
  have hR := h.rsize
  have h1 := h.l1; have h2 := h.l2; have h3 := h.l3; have h4 := h.l4
  have hs := hg.size
  have hgl := (ho.lt g rfl).1
  have nb : ∀ b, b ≤ R → some b ≠ (vs k).ownBlock := fun b hb e => by have := ((h.rows k hk).lt b e.symm).1; omega
  have hset := grownBy_set w9 hb k (.slice (some ⟨g, 0, none⟩) ((bh k).length + 1) c)
  have keep : ∀ b, b < wr.heap.size → b ≠ hb → some b ≠ (vs k).ownBlock → (w9.setCell ⟨hb, k, none⟩ (.slice (some ⟨g, 0, none⟩) ((bh k).length + 1) c)).heap[b]? = wr.heap[b]? := fun b hl hne hn =>
    (hset.block b (by omega) (fun e => hne (by injection e))).trans (hg.block b hl hn)
  have hB : Below (w0.heap.size + 1) wr (w9.setCell ⟨hb, k, none⟩ (.slice (some ⟨g, 0, none⟩) ((bh k).length + 1) c)) := ((Below.refl _ _).grown hg (by omega) (fun b e => by have := ((h.rows k hk).lt b e).1; omega)).setCell (by simp only; omega) _
  refine ⟨h.box.step hB (Nat.le_refl _), h1, h2, h3, h4, h.l5, h.waits.of_block (keep _ (by omega) h.l5 (nb _ (by omega))), ?_, fun j hj => ?_, fun j m b hj hm e1 e2 => ?_,
    ⟨(World.cell?_of_block (a := ⟨_, _, none⟩) (keep R hR (by omega) (nb _ (Nat.le_refl _)))).trans h.heap.cell, (World.frozen?_of_block (a := ⟨_, _, none⟩) (keep R hR (by omega) (nb _ (Nat.le_refl _)))).trans h.heap.fz, own_of_block h.heap.own (fun b hb => ?_), h.heap.heap⟩, fun j b hj hjb e => ?_⟩
  · refine ((h.heads.of_block (hg.block hb (by omega) (nb _ (by omega)))).set k _).congr (fun j hj => ?_)
    by_cases e : j = k
    · subst e; rw [if_pos rfl, upd_same]
    · rw [if_neg e, upd_other _ _ _ e]
  · by_cases e : j = k
    · subst e
      rw [upd_same, upd_same, nums_snoc, List.length_append]
      exact ho.kept hset (.inr (by intro e; simp only [Value.ownBlock] at e; injection e with e; omega))
    · rw [upd_other _ _ _ e, upd_other _ _ _ e]
      refine own_of_block (h.rows j hj) (fun b hb => ?_)
      have hl := (h.rows j hj).lt b hb
      exact keep b hl.2 (by omega) (fun e2 => e (h.apart j k b hj hk hb e2.symm))
  · by_cases ej : j = k
    · by_cases em : m = k
      · omega
      · exfalso
        subst ej
        rw [upd_same] at e1
        rw [upd_other _ _ _ em] at e2
        simp only [Value.ownBlock] at e1
        injection e1 with e1
        subst e1
        rcases hat with e3 | e3
        · exact em (h.apart m j _ hm hj e2 e3)
        · have := ((h.rows m hm).lt _ e2).2; omega
    · by_cases em : m = k
      · exfalso
        subst em
        rw [upd_same] at e2
        rw [upd_other _ _ _ ej] at e1
        simp only [Value.ownBlock] at e2
        injection e2 with e2
        subst e2
        rcases hat with e3 | e3
        · exact ej (h.apart j m _ hj hm e1 e3)
        · have := ((h.rows j hj).lt _ e1).2; omega
      · rw [upd_other _ _ _ ej] at e1
        rw [upd_other _ _ _ em] at e2
        exact h.apart j m b hj hm e1 e2
  · have hl := h.heap.own.lt b hb
    exact keep b hl.2 (by omega) (fun e => h.far k b hk e.symm hb)
  · by_cases ej : j = k
    · subst ej
      rw [upd_same] at hjb
      simp only [Value.ownBlock] at hjb
      injection hjb with hjb
      subst hjb
      rcases hat with e3 | e3
      · exact h.far j _ hj e3 e
      · have := (h.heap.own.lt _ e).2; omega
    · rw [upd_other _ _ _ ej] at hjb
      exact h.far j b hj hjb e

/-- .. and what has been told, in a row of its own. -/
structure OT (w0 : World) (P : PackV) (wb hb R : Nat) (wt : Nat → Nat) (vs : Nat → Value) (bh : Nat → List Nat) (l : List Int) (hv : Value) (out : List Nat) (ov : Value) (wr : World) : Prop where
  os : OS w0 P wb hb R wt vs bh l hv wr
  own : wr.ownsRow (R + 1) 3 1 ov out.length (nums out)
  far1 : ∀ j g, j < P.bs.length → (vs j).ownBlock = some g → ov.ownBlock ≠ some g
  far2 : ∀ g, hv.ownBlock = some g → ov.ownBlock ≠ some g
variable {out : List Nat} {ov : Value}
theorem OT.wset (h : OT w0 P wb hb R wt vs bh l hv out ov wr) {i x : Nat} : OT w0 P wb hb R (upd wt i x) vs bh l hv out ov (wr.setCell ⟨wb, i, none⟩ (.int .i64 x)) := by
  have h3 := h.os.l3
  exact ⟨h.os.wset, h.own.kept (grownBy_set _ _ _ _) (.inr (fun e => by have := (h.own.lt wb e).1; omega)), h.far1, h.far2⟩
theorem OT.heaped (h : OT w0 P wb hb R wt vs bh l hv out ov wr) {l' : List Int} {hv' : Value} (hw : Wrote wr w' R hv.ownBlock hv'.ownBlock) (hh : Heap w' R l' hv') : OT w0 P wb hb R wt vs bh l' hv' out ov w' := by
  refine ⟨h.os.heaped hw hh, own_of_block h.own (fun g hg => ?_), h.far1, fun g hg e => ?_⟩
  · have := h.own.lt g hg
    exact hw.block g this.2 (by omega) (fun e => h.far2 g e.symm hg)
  · rcases hw.at_ g hg with e2 | e2
    · exact h.far2 g e2 e
    · have := (h.own.lt g e).2; omega
theorem OT.told (h : OT w0 P wb hb R wt vs bh l hv out ov wr) {b g c : Nat} (hg : wr.grownBy w' ov.ownBlock) (ho : w'.ownsRow (R + 1) 3 1 (.slice (some ⟨g, 0, none⟩) (out.length + 1) c) (out.length + 1) (nums out ++ [Value.int .i64 b])) (hat : ov.ownBlock = some g ∨ g = wr.heap.size + 1) :
    OT w0 P wb hb R wt vs bh l hv (out ++ [b]) (.slice (some ⟨g, 0, none⟩) (out.length + 1) c) w' := by
  refine ⟨h.os.grown hg (fun k e => by have := (h.own.lt k e).1; omega) (fun k e e2 => h.far2 k e2 e) (fun j k hj e e2 => h.far1 j k hj e2 e), by rw [nums_snoc, List.length_append]; exact ho, fun j k hj e1 e2 => ?_, fun k e1 e2 => ?_⟩
  · simp only [Value.ownBlock] at e2
    injection e2 with e2
    subst e2
    rcases hat with e3 | e3
    · exact h.far1 j _ hj e1 e3
    · have := ((h.os.rows j hj).lt _ e1).2; omega
  · simp only [Value.ownBlock] at e2
    injection e2 with e2
    subst e2
    rcases hat with e3 | e3
    · exact h.far2 _ e1 e3
    · have := (h.os.heap.own.lt _ e1).2; omega
theorem OS.told0 (h : OS w0 P wb hb R wt vs bh l hv wr) : OT w0 P wb hb R wt vs bh l hv [] (.slice none 0 0) wr :=
  ⟨h, World.ownsRow_nil _ _ _ _, fun j g hj _ => by simp [Value.ownBlock], fun g _ => by simp [Value.ownBlock]⟩
end
end Go.Proofs.Ytibimdhmfchcoaa
