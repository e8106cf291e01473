import Derived.Test.YtkcilpkcjhnkaaaT44
namespace Go.Proofs.Ytkcilpkcjhnkaaa
open Go.RowKit Go.Shelf Go.Maps
set_option linter.unusedVariables false
set_option linter.unusedSimpArgs false
attribute [local go_sem] Oper.semAt_some

theorem Upd.kept {mb : Nat} {A W W' : World} {row : Option Nat} (u : Upd mb mb A W) (hg : W.grownBy W' row) (hr : ∀ r, row = some r → A.heap.size ≤ r) : Upd mb mb A W' :=
  ⟨hg.os.trans u.os, hg.tape.trans u.tape, hg.output.trans u.output, Nat.le_trans u.size hg.size, fun b hb h1 h2 => (hg.block b (Nat.lt_of_lt_of_le hb u.size) (fun e => by have := hr b e.symm; omega)).trans (u.block b hb h1 h2)⟩

/-- What the tables that have come ask. -/
def foldT (N : NetV) (cost : List Int) (till : Int) (M0 : Need) (pre : List (Fin N.luts.length)) : Need := pre.foldl (fun M i => tabM N cost till M i.val) M0
theorem foldT_snoc (N : NetV) (cost : List Int) (till : Int) (M0 : Need) (pre : List (Fin N.luts.length)) (x : Fin N.luts.length) : foldT N cost till M0 (pre ++ [x]) = tabM N cost till (foldT N cost till M0 pre) x.val := by simp [foldT]
theorem foldT_take (N : NetV) (cost : List Int) (till : Int) (M0 : Need) (k : Nat) (hk : k ≤ N.luts.length) : foldT N cost till M0 ((idxs N.luts.length).take k) = backM N cost till M0 k := by
  induction k with
  | zero => simp [foldT, backM]
  | succ k ih => rw [idxs_succ _ _ (by omega), foldT_snoc, ih (by omega), backM]
theorem foldT_all (N : NetV) (cost : List Int) (till : Int) (M0 : Need) : foldT N cost till M0 (idxs N.luts.length) = backM N cost till M0 N.luts.length := by
  have := foldT_take N cost till M0 N.luts.length (Nat.le_refl _)
  rwa [List.take_of_length_le (by rw [idxs_length]; exact Nat.le_refl _)] at this
theorem foldT_length (N : NetV) (cost : List Int) (till : Int) (M0 : Need) (pre : List (Fin N.luts.length)) : (foldT N cost till M0 pre).length = M0.length := by
  unfold foldT
  induction pre generalizing M0 with
  | nil => rfl
  | cons x pre ih => rw [List.foldl_cons, ih, tabM, askIns_length, openM_length]

/-- The act of a round: the place and the table's box. -/
def roundAct (a : Act) (N : NetV) (x : Fin N.luts.length) (Bx : Nat) : Act :=
  { tmps := (((a.tmps.setIfInBounds 57 (.int .i64 (x.val : Int))).setIfInBounds 58 (lutVal (N.luts.getD x.val default))).setIfInBounds 14 (.int .i64 (x.val : Int))).setIfInBounds 15 (.pointer (some ⟨Bx, 0, none⟩)), defers := [] }

def lutCells (l : LutV) : Obj := .cells #[.slice l.a l.ins.length l.c, .int .u64 l.tab] 48

abbrev lutEnc (N : NetV) (x : Fin N.luts.length) : Array Value := #[.int .i64 (x.val : Int), lutVal (N.luts.getD x.val default)]

/-- A loop over the tables, the last one first: its body sees the table in a box of the round's own. -/
theorem range_lut {g : Operand} {ps : Array Tmp} {assign body : Code} {Q : Exit → Act → World → Prop} {a : Act} {w : World} {n : Nat} (N : NetV) (h1 : 1 ≤ n) {gf : Nat} {lb : Array Value} (hg : a.eval g = .func (.func gf) #[] lb)
    (eg : ∀ args w, (callFunc gf args).run Try.prog w = .ok (.enter gf args) w) {Kp : World → World → Prop} {S Sp : List (Fin N.luts.length) → Prop} (hseq : SeqStopsK Fence.wide (n - 1) Try.prog gf lb (lutEnc N) Kp S Sp N.luts.length w)
    (hKt : ∀ {A B C : World}, Kp A B → Kp B C → Kp A C) (hKb : ∀ (W : World) (l : Nat) (o o' : Obj), w.heap.size ≤ l → W.heap[l]? = some o → o.isCells = false → o.isWalk = false → Kp W (W.putObj l o')) (hps : 2 = ps.size)
    (I : List (Fin N.luts.length) → World → Prop) (hI : OwnFrom w.heap.size I) (h0 : I [] w)
    (hassign : ∀ (l : Nat) (pre : List (Fin N.luts.length)) (x : Fin N.luts.length) (W : World) (K : Act → World → Prop), I pre W →
      (∀ Bx W', KeepsFrom w.heap.size W W' → Kp W W' → I pre W' → w.heap.size ≤ Bx → W'.heap[Bx]? = some (lutCells (N.luts.getD x.val default)) → K (roundAct a N x Bx) W') →
      assign.wpIn (Fence.wide.inRound l) (n - 1 - 1) Try.prog (Exit.then K (fun _ _ _ => False)) { tmps := (ps.zip (lutEnc N x)).foldl (fun t (p, v) => t.setIfInBounds p v) a.tmps, defers := [] } W)
    (hbody : ∀ (l : Nat) (pre : List (Fin N.luts.length)) (x : Fin N.luts.length) (Bx : Nat) (W : World), I pre W → w.heap.size ≤ Bx → W.heap[Bx]? = some (lutCells (N.luts.getD x.val default)) → pre.length < N.luts.length →
      body.wpIn (Fence.wide.inRound l) (n - 1 - 1) Try.prog (ownPostG w.heap.size Kp I (fun _ _ _ => False) (pre ++ [x]) W) (roundAct a N x Bx) W)
    (hdone : ∀ (D : Nat) (xs : List (Fin N.luts.length)) (W : World), w.heap.size ≤ D → S xs → I xs W → W.heap[D]? = some (.deferred (some [])) → Q .normal { a with defers := { target := .collected D, args := #[] } :: a.defers } W) :
    (Code.rangeFunc g ps assign body).wpIn Fence.wide n Try.prog Q a w := by
  refine wpIn_rangeFunc_ownH rfl h1 hg trivial eg hseq hKt hKb (Below.refl _ _) (fun x => hps) I (fun _ _ _ => False) hI (fun _ _ _ _ _ hs _ _ => hs) h0
    (fun x a' W => ∃ Bx, w.heap.size ≤ Bx ∧ W.heap[Bx]? = some (lutCells (N.luts.getD x.val default)) ∧ a' = roundAct a N x Bx) ?_ ?_ ?_ hdone ?_
  · rintro x a' _ A B row ⟨Bx, h1, h2, h3⟩ hgr hr
    refine ⟨Bx, h1, ?_, h3⟩
    have hlt := (Array.getElem?_eq_some_iff.1 h2).1
    refine (hgr.block Bx hlt (fun e => ?_)).trans h2
    obtain ⟨_, o, ho, hc⟩ := hr Bx e.symm
    rw [h2] at ho
    cases ho
    simp [lutCells, Obj.isCells] at hc
  · intro l pre x W K hi hK
    exact hassign l pre x W K hi (fun Bx W' h1 h2 h3 h4 h5 => hK _ W' h1 h2 h3 ⟨Bx, h4, h5, rfl⟩)
  · rintro l pre x a' W _ _ hi ⟨Bx, h1, h2, rfl⟩ hlt
    exact hbody l pre x Bx W hi h1 h2 hlt
  · intro D c pre W _ _ h _
    exact h.elim

theorem cell_newW (X : World) (v : Value) (t : TypeId) : (X.alloc (Obj.cells #[v] t)).cell? ⟨X.heap.size, 0, none⟩ = some v := by simp

set_option maxRecDepth 100000 in
set_option maxHeartbeats 8000000 in
theorem slack_ok (w : World) (N : NetV) (h : NetAt w N) (f : Few N) (a : Option Addr) (n0 c : Nat) (cost : List Int) (hlen : cost.length = n0) (hn : n0 ≤ 300) (S : Seq w a n0 (ints cost)) (ok : CostOk N cost) (till : Int) (ht : -1099511627776 ≤ till ∧ till ≤ 1099511627776) :
    Calls Try.prog 21 #[N.val, .slice a n0 c, .int .i64 till] w (NewInts w (slackL N cost (arrL N cost) till) 0) := by
  have hf0 := f.ins
  have hf1 := f.holds
  have hf2 := f.luts
  have hi0 := ok.net.ins0
  obtain ⟨ht0, ht1⟩ := ht
  have C := fun W (hW : Below w.heap.size w W) => arrive W N (h.below hW (Nat.le_refl _)) f a n0 c cost hlen hn (S.below hW (Nat.le_refl _))
  have C2 := fun W => first W N h.insR hf0 hf1
  have C3 := fun W (hW : Below w.heap.size w W) => ends W N (h.below hW (Nat.le_refl _)) f
  rw [arrO, if_pos ok, arrE, if_pos ok] at C
  rw [← firstN_eq hi0] at C2
  have hEr := endsOf_range ok.net
  have hEl := endsOf_length N f
  have hTl : (arrL N cost).length = firstN N + N.luts.length := arrTo_length _ _ _
  have hTb := fun x hx => arrTo_bound N cost ok.each N.luts.length x hx
  have hfe := firstN_eq hi0
  obtain ⟨T, hT⟩ : ∃ T, T = arrL N cost := ⟨_, rfl⟩
  obtain ⟨E, hE⟩ : ∃ E, E = endsOf N := ⟨_, rfl⟩
  obtain ⟨F0, hF0⟩ : ∃ F, F = firstN N := ⟨_, rfl⟩
  obtain ⟨n, hnn⟩ : ∃ n, n = F0 + N.luts.length := ⟨_, rfl⟩
  obtain ⟨SL, hSL⟩ : ∃ s, s = slackL N cost (arrL N cost) till := ⟨_, rfl⟩
  rw [← hSL]
  rw [← hT] at C hTl hSL
  rw [← hE] at C3 hEr hEl
  rw [← hF0] at C2 hEr hTl hfe
  rw [← hnn] at hTl hEr
  have hF0u : F0 ≤ 201 := by omega
  have hF1 : 0 < F0 := by omega
  have hnu : n ≤ 401 := by omega
  have H := Lib.hid h
  have HS := Lib.hid S
  have HOk := Lib.hid ok
  have HC := Lib.hid C
  have HC2 := Lib.hid C2
  have HC3 := Lib.hid C3
  have HTl := Lib.hid hTl
  have HFe := Lib.hid hfe
  have HEr := Lib.hid hEr
  have HF0 := Lib.hid hF0
  have HE := Lib.hid hE
  have HSL := Lib.hid hSL
  have HN := Lib.hid hnn
  have HLen := Lib.hid hlen
  have HTb : Hid (∀ x ∈ T, 0 ≤ x ∧ x ≤ 1048576 * (N.luts.length : Int)) := Lib.hid (fun x hx => by rw [hT] at hx; exact hTb x hx)
  -- three boxes: the net, the costs, the time
  obtain ⟨W0, hW0⟩ : ∃ W, W = ((w.alloc N.obj).alloc (Obj.cells #[Value.slice a n0 c] 24)).alloc (Obj.cells #[Value.int .i64 till] 3) := ⟨_, rfl⟩
  have hs0 : W0.heap.size = w.heap.size + 3 := by rw [hW0]; simp
  have hb0 : Below w.heap.size w W0 := by rw [hW0]; exact (((Below.refl _ _).alloc (Nat.le_refl _) _).alloc (by simp) _).alloc (by simp; omega) _
  have hz1 : (w.alloc N.obj).heap.size = w.heap.size + 1 := by simp
  have hz2 : ((w.alloc N.obj).alloc (Obj.cells #[Value.slice a n0 c] 24)).heap.size = w.heap.size + 2 := by simp
  have e0 : W0.cell? ⟨w.heap.size, 0, none⟩ = some (.int .i64 N.ins) := by rw [hW0]; exact cell_alloc _ (cell_alloc _ (Box.start w N).c0)
  have e1 : W0.cell? ⟨w.heap.size, 1, none⟩ = some (Value.slice N.ha N.holds.length N.hc) := by rw [hW0]; exact cell_alloc _ (cell_alloc _ (Box.start w N).c1)
  have e2 : W0.cell? ⟨w.heap.size, 2, none⟩ = some (Value.slice N.la N.luts.length N.lc) := by rw [hW0]; exact cell_alloc _ (cell_alloc _ (Box.start w N).c2)
  have e3 : W0.cell? ⟨w.heap.size, 3, none⟩ = some (Value.slice N.oa N.outs.length N.oc) := by rw [hW0]; exact cell_alloc _ (cell_alloc _ (Box.start w N).c3)
  have e4 : W0.cell? ⟨w.heap.size + 1, 0, none⟩ = some (Value.slice a n0 c) := by rw [hW0]; exact cell_alloc _ (by rw [← hz1]; simp)
  have e5 : W0.cell? ⟨w.heap.size + 1 + 1, 0, none⟩ = some (Value.int .i64 till) := by
    have h5 := cell_newW ((w.alloc N.obj).alloc (Obj.cells #[Value.slice a n0 c] 24)) (.int .i64 till) 3
    rw [hz2] at h5
    rw [hW0]; exact h5
  have HW0 := Lib.hid hW0
  have HB0 := Lib.hid hb0
  clear hz1 hz2 C C2 C3 ok h f S hW0 hb0 hT hE hF0 hEr hTl hfe hlen hSL hTb
  obtain ⟨ins, ha, hc, holds, la, lc, luts, oa, oc, outs⟩ := N
  dsimp only at hf0 hf1 hf2 hi0 e0 e1 e2 e3 hnn HN
  have hnL : luts.length ≤ n := by omega
  have hn0 : 0 < n := by omega
  clear hnn
  refine (callsIn_wide (n := 5)).1 ?_
  refine callsIn_of_wp_marks Try.func21 rfl trivial ?_ rfl
  simp only [Try.ntmps21, List.size_toArray, List.length_cons, List.length_nil, Nat.reduceAdd, Nat.reduceSub, Array.replicate_succ, Array.replicate_zero, List.push_toArray, List.append_toArray, List.nil_append, List.cons_append]
  have hbe := HB0.out
  rw [HW0.out] at hbe
  have hmm := @run_makeMap Try.prog
  gi_wp2_with (refine ⟨trivial, ?_⟩; gi_at_call 15; refine (callsIn_wide.2 (HC.out _ hbe)).mono ?_; rintro e w1 ⟨v, rfl, hown, hb1⟩; rw [HTl.out] at hown; obtain ⟨gT, cT, rfl, hgT, hgTs, hgc, hTc⟩ := owns_shape hown hn0; rw [← show W0 = _ from HW0.out] at hb1 hown hgT; have q0 := (hb1.cell (p := ⟨_, _, none⟩) (by simp only; omega)).trans e0; have q1 := (hb1.cell (p := ⟨_, _, none⟩) (by simp only; omega)).trans e1; have q2 := (hb1.cell (p := ⟨_, _, none⟩) (by simp only; omega)).trans e2; have q3 := (hb1.cell (p := ⟨_, _, none⟩) (by simp only; omega)).trans e3; have q4 := (hb1.cell (p := ⟨_, _, none⟩) (by simp only; omega)).trans e4; have q5 := (hb1.cell (p := ⟨_, _, none⟩) (by simp only; omega)).trans e5; have hs1 := hb1.size; have r0 := fun o1 o2 o3 => cell_alloc o3 (cell_alloc o2 (cell_alloc o1 q0)); have r1 := fun o1 o2 o3 => cell_alloc o3 (cell_alloc o2 (cell_alloc o1 q1)); have r2 := fun o1 o2 o3 => cell_alloc o3 (cell_alloc o2 (cell_alloc o1 q2)); have r3 := fun o1 o2 o3 => cell_alloc o3 (cell_alloc o2 (cell_alloc o1 q3)); clear hTc e0 e1 e2 e3 e4 e5 hbe)
  have hz2 : ((w1.alloc (Obj.map #[] 0)).alloc (Obj.cells #[Value.map (some w1.heap.size)] 60)).heap.size = w1.heap.size + 1 + 1 := by simp
  have hz1 : (w1.alloc (Obj.map #[] 0)).heap.size = w1.heap.size + 1 := by simp
  obtain ⟨W2, hW2⟩ : ∃ W, W = (((w1.alloc (Obj.map #[] 0)).alloc (Obj.cells #[Value.map (some w1.heap.size)] 60)).alloc (Obj.cells #[Value.func (Fn.func 38) #[] #[Value.pointer (some { block := w1.heap.size + 1, off := 0 })]] 62)) := ⟨_, rfl⟩
  have hb12 : Below w1.heap.size w1 W2 := by rw [hW2]; exact (((Below.refl _ _).alloc (Nat.le_refl _) _).alloc (by simp) _).alloc (by simp; omega) _
  have hs2 : W2.heap.size = w1.heap.size + 3 := by rw [hW2]; simp
  have p1 : W2.cell? ⟨w1.heap.size + 1, 0, none⟩ = some (.map (some w1.heap.size)) := by
    have h5 := cell_newW (w1.alloc (Obj.map #[] 0)) (.map (some w1.heap.size)) 60
    rw [hz1] at h5
    rw [hW2]; exact cell_alloc _ h5
  have p2 : W2.cell? ⟨w1.heap.size + 1 + 1, 0, none⟩ = some (.func (.func 38) #[] #[.pointer (some ⟨w1.heap.size + 1, 0, none⟩)]) := by
    have h5 := cell_newW ((w1.alloc (Obj.map #[] 0)).alloc (Obj.cells #[Value.map (some w1.heap.size)] 60)) (Value.func (Fn.func 38) #[] #[Value.pointer (some { block := w1.heap.size + 1, off := 0 })]) 62
    rw [hz2] at h5
    rw [hW2]; exact h5
  have hmap : W2.ownsMap Try.prog 3 (plainElem (H := Unit) Try.prog 3) w1.heap.size 0 (.map []) := by
    rw [hW2]; exact ((World.ownsMap_made w1 Try.prog 3 _).alloc _).alloc _
  obtain ⟨M00, hM00⟩ : ∃ M, M = (List.replicate n none : Need) := ⟨_, rfl⟩
  have hM0 : MapIs W2 w1.heap.size 0 M00 := by
    refine ⟨_, hmap, isMap_empty, fun k hk => ?_, fun k v hv => ?_⟩
    · rw [hM00, List.length_replicate] at hk
      rw [hM00]; simp [List.getD, hk]; rfl
    · rw [hM00] at hv
      by_cases hk : k < n
      · simp [List.getD, hk] at hv
      · simp [List.getD, hk] at hv
  have hbw1 : Below w.heap.size w w1 := HB0.out.trans (hb1.mono (by omega))
  have hbw2 : Below w.heap.size w W2 := hbw1.trans (hb12.mono (by omega))
  rw [← hW2]
  have HM0 := Lib.hid hM0
  have HM00 := Lib.hid hM00
  have HOwnT := Lib.hid (own_below hown hb12)
  have HBW2 := Lib.hid hbw2
  have f0 := (hb12.cell (p := ⟨_, _, none⟩) (by simp only; omega)).trans q0
  have f1 := (hb12.cell (p := ⟨_, _, none⟩) (by simp only; omega)).trans q1
  have f2 := (hb12.cell (p := ⟨_, _, none⟩) (by simp only; omega)).trans q2
  have f3 := (hb12.cell (p := ⟨_, _, none⟩) (by simp only; omega)).trans q3
  have f4 := (hb12.cell (p := ⟨_, _, none⟩) (by simp only; omega)).trans q4
  have f5 := (hb12.cell (p := ⟨_, _, none⟩) (by simp only; omega)).trans q5
  obtain ⟨mb, hmb⟩ : ∃ m, m = w1.heap.size := ⟨_, rfl⟩
  rw [← hmb] at hs2 p1 p2 HM0 ⊢
  have hmbT : gT < mb := by omega
  have hmbw : w.heap.size + 3 ≤ mb := by omega
  clear hz1 hz2 hW2 hb12 hmap hM0 hM00 hown hbw1 hbw2 r0 r1 r2 r3 q0 q1 q2 q3 q4 q5 hb1 hmb hgTs
  refine ⟨trivial, ?_⟩
  refine (callsIn_wide.2 (HC3.out _ HBW2.out)).mono ?_
  rintro e w3 ⟨v3, rfl, hown3, hb3⟩
  obtain ⟨ea, ec, rfl, hES, _, _⟩ := owns_seq hown3
  have hs3 := hb3.size
  have g0 := (hb3.cell (p := ⟨_, _, none⟩) (by simp only; omega)).trans f0
  have g1 := (hb3.cell (p := ⟨_, _, none⟩) (by simp only; omega)).trans f1
  have g2 := (hb3.cell (p := ⟨_, _, none⟩) (by simp only; omega)).trans f2
  have g3 := (hb3.cell (p := ⟨_, _, none⟩) (by simp only; omega)).trans f3
  have g4 := (hb3.cell (p := ⟨_, _, none⟩) (by simp only; omega)).trans f4
  have g5 := (hb3.cell (p := ⟨_, _, none⟩) (by simp only; omega)).trans f5
  have g6 := (hb3.cell (p := ⟨_, _, none⟩) (by simp only; omega)).trans p1
  have g7 := (hb3.cell (p := ⟨_, _, none⟩) (by simp only; omega)).trans p2
  have HOwnE := Lib.hid hown3
  have HM3 : Hid (MapIs w3 mb 0 M00) := Lib.hid (by
    obtain ⟨D, h1, h2⟩ := HM0.out
    exact ⟨D, h1.kept (row := none) ⟨hb3.os, hb3.tape, hb3.output, hb3.size, fun b hb _ => hb3.block b hb⟩ (by simp), h2⟩)
  have HOwnT3 := Lib.hid (own_below HOwnT.out hb3)
  have HBW3 := Lib.hid (HBW2.out.trans (hb3.mono (by omega)))
  have HG := Lib.hid (And.intro g0 (And.intro g1 (And.intro g2 (And.intro g3 (And.intro g4 (And.intro g5 (And.intro g6 g7)))))))
  clear f0 f1 f2 f3 f4 f5 p1 p2 hown3 hES g0 g1 g2 g3 g4 g5 g6 g7
  gi_wp2
  gi_loopw [45] (fun i wr => ∃ j : Nat, j ≤ E.length ∧ i = .int .i64 j ∧ Hid (MapIs wr mb j (askAll M00 (E.take j) till) ∧ w3.grownBy wr (some mb))) (fun i _ => E.length - (intOf i).toNat)
  case atStart => exact ⟨0, by omega, rfl, HM3.out, World.grownBy.refl _ _⟩
  case round =>
    obtain ⟨j, hj_, rfl, hh⟩ := hrel
    by_cases hlt : j < E.length
    · have hstep := askAll_take M00 E till j hlt
      obtain ⟨gE, cE, hva, hgE, hgEs, _, hcE⟩ := owns_shape HOwnE.out (by omega)
      cases hva
      have kc : ∀ b i, b < w3.heap.size → b ≠ mb → wr.cell? ⟨b, i, none⟩ = w3.cell? ⟨b, i, none⟩ := fun b i h1 h2 => World.cell?_of_block (hh.out.2.block b h1 (by simp; omega))
      have x0 := (kc gE j hgEs (by omega)).trans (hcE j hlt)
      obtain ⟨g0, g1, g2, g3, g4, g5, g6, g7⟩ := HG.out
      have y5 := (kc _ 0 (by omega) (by omega)).trans g5
      have y6 := (kc _ 0 (by omega) (by omega)).trans g6
      have y7 := (kc _ 0 (by omega) (by omega)).trans g7
      have hx := HEr.out _ (getD_mem E 0 hlt)
      obtain ⟨x, hxx⟩ : ∃ x, x = E.getD j 0 := ⟨_, rfl⟩
      rw [← hxx] at x0 hx hstep
      obtain ⟨xn, hxn0⟩ := Int.eq_ofNat_of_zero_le hx.1
      subst hxn0
      have hxn : xn < n := by omega
      have HStep := Lib.hid hstep
      have hlM : (askAll M00 (E.take j) till).length = n := by rw [askAll_length, HM00.out, List.length_replicate]
      have HAsk := Lib.hid (ask_in Fence.wide 4 trivial rfl wr (mb + 1) mb j (askAll M00 (E.take j) till) hh.out.1 y6 xn (by rw [hlM]; exact hxn) (by omega) till (by omega) (by omega))
      clear hcE hxx hstep kc g0 g1 g2 g3 g4 g5 g6 g7 hlM
      gi_wp2_with fail
      refine ⟨trivial, HAsk.out.mono ?_⟩
      rintro e w5 ⟨⟨v5, rfl⟩, h5, u5⟩
      have H5 : Hid (MapIs w5 mb (j + 1) (askAll M00 (E.take (j + 1)) till)) := Lib.hid (by rw [HStep.out]; exact h5)
      have U5 := Lib.hid (grownBy_trans hh.out.2 u5)
      clear h5 u5
      gi_wp2
      go_roundw
      case rel => exact ⟨j + 1, by omega, by go_num, Lib.hid ⟨H5.out, U5.out⟩⟩
      case measure => simp [intOf]; omega
    · obtain rfl : j = E.length := by omega
      have hh1 := hh.out
      rw [List.take_length] at hh1
      obtain ⟨M0, hM0⟩ : ∃ M, M = askAll M00 E till := ⟨_, rfl⟩
      rw [← hM0] at hh1
      have kc : ∀ b i, b < w3.heap.size → b ≠ mb → wr.cell? ⟨b, i, none⟩ = w3.cell? ⟨b, i, none⟩ := fun b i h1 h2 => World.cell?_of_block (hh1.2.block b h1 (by simp; omega))
      obtain ⟨g0, g1, g2, g3, g4, g5, g6, g7⟩ := HG.out
      have y0 := (kc _ 0 (by omega) (by omega)).trans g0
      have y1 := (kc _ 1 (by omega) (by omega)).trans g1
      have y2 := (kc _ 2 (by omega) (by omega)).trans g2
      have y3 := (kc _ 3 (by omega) (by omega)).trans g3
      have hsr := hh1.2.size
      have HM0 := Lib.hid hM0
      have HH1 := Lib.hid hh1
      clear kc g0 g1 g2 g3 g4 g5 g6 g7 hh1 hM0
      gi_wp2_with fail
      refine ⟨trivial, (bwdL_in Fence.wide 4 trivial rfl la luts.length lc wr).mono ?_⟩
      rintro e w6 ⟨rfl, rfl⟩
      gi_wp2_with fail
      obtain ⟨W6, hW6⟩ : ∃ W, W = wr.alloc (Obj.cells #[Value.slice la luts.length lc] 23) := ⟨_, rfl⟩
      have hs6 : W6.heap.size = wr.heap.size + 1 := by rw [hW6]; simp
      have zB : W6.cell? ⟨wr.heap.size, 0, none⟩ = some (.slice la luts.length lc) := by rw [hW6]; exact cell_newW _ _ _
      have hg6 : wr.grownBy W6 none := by rw [hW6]; exact World.grownBy_alloc _ _ none
      have hM6 := HH1.out.1.kept hg6 (by simp)
      have hlM0 : M0.length = n := by rw [HM0.out, askAll_length, HM00.out, List.length_replicate]
      have hWi0 : Within M0 till till := by
        rw [HM0.out]
        refine Within.askAll till (by omega) E ?_
        intro k v hv
        rw [HM00.out] at hv
        by_cases hk : k < n
        · simp [List.getD, hk] at hv
        · simp [List.getD, hk] at hv
      have hb36 : w3.grownBy W6 (some mb) := grownBy_trans HH1.out.2 ⟨hg6.os, hg6.tape, hg6.output, hg6.size, fun b hb _ => hg6.block b hb (by simp)⟩
      have hbw6 : Below w.heap.size w W6 := HBW3.out.trans (grownBy_below hb36 (by omega) (by omega))
      rw [← hW6]
      have HW6 := Lib.hid hW6
      have HKC : Hid (∀ W, Upd mb mb W6 W → ∀ b i, b < w3.heap.size → b ≠ mb → W.cell? ⟨b, i, none⟩ = w3.cell? ⟨b, i, none⟩) := Lib.hid (fun W u b i h1 h2 => World.cell?_of_block ((u.block b (by have := hb36.size; omega) h2 h2).trans (hb36.block b h1 (by simp; omega))))
      clear hW6 hg6
      have hN6 : ∀ W', Below w.heap.size W6 W' → NetAt W' ⟨ins, ha, hc, holds, la, lc, luts, oa, oc, outs⟩ := fun W' hW' => H.out.below (hbw6.trans hW') (Nat.le_refl _)
      refine range_lut ⟨ins, ha, hc, holds, la, lc, luts, oa, oc, outs⟩ (by omega) (gf := 63) (lb := #[.pointer (some ⟨wr.heap.size, 0, none⟩)]) rfl (enters_of Try.func63 (by kernel_rfl) rfl)
        (Kp := KpB w.heap.size wr.heap.size) (S := fun ys => ys = idxs luts.length) (Sp := fun _ => True)
        (fun l J Jx W hW _ _ hY h0 => bwdL1_in Fence.wide 4 trivial rfl (by omega) l wr.heap.size w.heap.size ⟨ins, ha, hc, holds, la, lc, luts, oa, oc, outs⟩ (by simp only; omega) J Jx hY W ((hW.cell (p := ⟨_, _, none⟩) (by simp only; omega)).trans zB) (fun W' hW' => hN6 W' ((hW.mono (by omega)).trans hW')) h0)
        KpB.trans (KpB.put (by omega) (by omega)) rfl
        (fun pre W => (MapIs W mb (E.length + 8 * pre.length) (foldT ⟨ins, ha, hc, holds, la, lc, luts, oa, oc, outs⟩ cost till M0 pre) ∧ Within (foldT ⟨ins, ha, hc, holds, la, lc, luts, oa, oc, outs⟩ cost till M0 pre) (till - 1048576 * (pre.length : Int)) till) ∧ Upd mb mb W6 W)
        (fun s A B row hs hg hr => ⟨⟨hs.1.1.kept hg (fun e => by have := (hr mb e.symm).1; omega), hs.1.2⟩, hs.2.kept hg (fun r e => (hr r e).1)⟩)
        ⟨⟨hM6, by simpa [foldT] using hWi0⟩, Upd.refl _ _ _⟩ ?assign ?body ?done
      case assign =>
        intro l pre x W K hi hK
        dsimp only at hK
        simp only [lutEnc, lutVal]
        simp only [roundAct, lutVal] at hK
        obtain ⟨L, hL⟩ : ∃ L, L = luts.getD x.val default := ⟨_, rfl⟩
        rw [← hL] at hK ⊢
        have HK := Lib.hid hK
        clear hK hL
        gi_wp2
        have hsW := hi.2.size
        have hgw := World.grownBy_alloc W (lutCells L) none
        have hk := HK.out W.heap.size (W.alloc (lutCells L)) ((KeepsOthers.alloc _ _).from _) ⟨(Below.refl _ _).alloc (by omega) _, hgw.block wr.heap.size (by omega) (by simp)⟩
          ⟨⟨hi.1.1.kept hgw (by simp), hi.1.2⟩, hi.2.kept hgw (fun r e => by cases e)⟩ hsW (World.alloc_heap_new W _)
        simp only [List.setIfInBounds_toArray, List.set_cons_zero, List.set_cons_succ] at hk
        exact hk
      case body =>
        intro l pre x Bx W hi hBx hcell hlt
        dsimp only at hi hcell hlt ⊢
        simp only [roundAct, lutVal, List.setIfInBounds_toArray, List.set_cons_zero, List.set_cons_succ]
        obtain ⟨⟨hMp, hWp⟩, hUp⟩ := hi
        have hsW := hUp.size
        obtain ⟨g0, g1, g2, g3, g4, g5, g6, g7⟩ := HG.out
        have kc := HKC.out W hUp
        have b0 := (kc _ 0 (by omega) (by omega)).trans g0
        have b1 := (kc _ 1 (by omega) (by omega)).trans g1
        have b2 := (kc _ 2 (by omega) (by omega)).trans g2
        have b3 := (kc _ 3 (by omega) (by omega)).trans g3
        obtain ⟨M, hM⟩ : ∃ M, M = foldT ⟨ins, ha, hc, holds, la, lc, luts, oa, oc, outs⟩ cost till M0 pre := ⟨_, rfl⟩
        rw [← hM] at hMp hWp
        have HM := Lib.hid hM
        have HMp := Lib.hid hMp
        have HWp := Lib.hid hWp
        have HUp := Lib.hid hUp
        have HCell := Lib.hid hcell
        clear hMp hWp hUp kc hM g0 g1 g2 g3 g4 g5 g6 g7 hcell
        gi_wp2_with fail
        refine ⟨trivial, (CallsIn.inRound l (callsIn_wide.2 (HC2.out _))).mono ?_⟩
        rintro e w5 ⟨rfl, hb5⟩
        have hU5 : Upd mb mb W6 w5 := HUp.out.kept (row := none) ⟨hb5.os, hb5.tape, hb5.output, hb5.size, fun b hb _ => hb5.block b hb⟩ (fun r e => by cases e)
        have hM5 := HMp.out.kept (row := none) (w' := w5) ⟨hb5.os, hb5.tape, hb5.output, hb5.size, fun b hb _ => hb5.block b hb⟩ (by simp)
        have hBx2 := (Array.getElem?_eq_some_iff.1 HCell.out).1
        have hcell5 := (hb5.block Bx hBx2).trans HCell.out
        have HgW5 : Hid (W.grownBy w5 (some mb)) := Lib.hid ⟨hb5.os, hb5.tape, hb5.output, hb5.size, fun b hb _ => hb5.block b hb⟩
        have hBx5 : Bx < w5.heap.size := (Array.getElem?_eq_some_iff.1 hcell5).1
        have hBxm : Bx ≠ mb := by omega
        obtain ⟨L, hL⟩ : ∃ L, L = luts.getD x.val default := ⟨_, rfl⟩
        rw [← hL] at hcell5
        have l0 : w5.cell? ⟨Bx, 0, none⟩ = some (.slice L.a L.ins.length L.c) := by unfold World.cell?; rw [hcell5]; rfl
        have l1 : w5.cell? ⟨Bx, 1, none⟩ = some (.int .u64 L.tab) := by unfold World.cell?; rw [hcell5]; rfl
        obtain ⟨node, hnd⟩ : ∃ m, m = F0 + x.val := ⟨_, rfl⟩
        have hxL := x.isLt
        dsimp only at hxL
        have hnode : node < n := by have := HN.out; omega
        have hndi : (F0 : Int) + (x.val : Int) = (node : Int) := by omega
        have hmi : IntKind.i64.wrap (node : Int) = (node : Int) := IntWalk.i64_in _ (by omega)
        have kc := HKC.out w5 hU5
        obtain ⟨g0, g1, g2, g3, g4, g5, g6, g7⟩ := HG.out
        have y4 := (kc _ 0 (by omega) (by omega)).trans g4
        have y5 := (kc _ 0 (by omega) (by omega)).trans g5
        have y6 := (kc _ 0 (by omega) (by omega)).trans g6
        have y7 := (kc _ 0 (by omega) (by omega)).trans g7
        have hlM : M.length = n := by rw [HM.out, foldT_length]; exact hlM0
        obtain ⟨D, hown5, hD⟩ := hM5
        have hkey : keyOf Try.prog 3 (.int .i64 (node : Int)) = some (.int .i64 (node : Int)) := keyOf_int_mk Try.underlying3 (wfI (by omega))
        have hhas := hD.has node (by omega)
        have hput := hD.put node till (by omega)
        obtain ⟨om, hom⟩ : ∃ o, M.getD node none = o := ⟨_, rfl⟩
        rw [hom] at hhas
        have HD := Lib.hid hD
        have HPut := Lib.hid hput
        have HOwn5 := Lib.hid hown5
        have HU5 := Lib.hid hU5
        have HL := Lib.hid hL
        have HNd := Lib.hid hnd
        have HlM := Lib.hid hlM
        have hcnt : E.length + 8 * pre.length ≤ 100000 := by omega
        have hwt := wfI (x := till) (by omega)
        clear hD hput hb5 hcell5 kc g0 g1 g2 g3 g4 g5 g6 g7 hU5 hL hnd hlM b0 b1 b2 b3
        obtain ⟨M1, hM1⟩ : ∃ M1, M1 = openM M node till := ⟨_, rfl⟩
        have HM1 := Lib.hid hM1
        obtain ⟨nv, hnv⟩ := openM_some M node till (by rw [HlM.out]; exact hnode)
        rw [← hM1] at hnv
        have hW1 := HWp.out.open node till (by omega)
        rw [← hM1] at hW1
        have hnvb := hW1 node nv hnv
        obtain ⟨hU, _, _, _⟩ := H.out.lutAt x.val hxL
        have hl6 := (HOk.out.net.lut x.val hxL).len
        have hrng := HOk.out.net.range x.val hxL
        dsimp only at hU hl6 hrng
        rw [← HL.out] at hU hl6 hrng
        rw [← HF0.out, ← HNd.out] at hrng
        have hcxb := HOk.out.each _ (getD_mem cost 0 (show x.val < cost.length by rw [HOk.out.len]; exact hxL))
        obtain ⟨cx, hcx⟩ : ∃ c, c = cost.getD x.val 0 := ⟨_, rfl⟩
        rw [← hcx] at hcxb
        obtain ⟨ml, hml⟩ : ∃ m, m = L.ins.length := ⟨_, rfl⟩
        rw [← hml] at l0 hU hl6
        have HNv := Lib.hid hnv
        have HW1 := Lib.hid hW1
        have HLS := Lib.hid hU
        have HRng := Lib.hid hrng
        have HCxe := Lib.hid hcx
        have HMl := Lib.hid hml
        have HKne : Hid (∀ k ∈ L.ins, k.toNat ≠ node) := Lib.hid (fun k hk => by have := hrng k hk; omega)
        clear hM1 hnv hW1 hU hrng hcx hml
        have hbw5 : Below w.heap.size w w5 := hbw6.trans (HU5.out.below (by omega) (by omega) (by omega))
        have hxn0 : x.val < n0 := by rw [← HLen.out, HOk.out.len]; exact hxL
        obtain ⟨cb, coff, ha2, hcb, hcc⟩ := HS.out.at x.val hxn0
        have HCc : Hid (w5.cell? ⟨cb, coff + x.val, none⟩ = some (.int .i64 cx)) := Lib.hid (by
          have := (hbw5.cell (p := ⟨cb, coff + x.val, none⟩) hcb).trans (hcc x.val hxn0)
          unfold ints at this
          rwa [← HCxe.out] at this)
        have hcb5 : cb < w5.heap.size := by have := HU5.out.size; omega
        have hmb5 : mb + 2 < w5.heap.size := by have := HU5.out.size; omega
        have HLS5 := Lib.hid (HLS.out.below hbw5 (Nat.le_refl _))
        have HAp : Hid (∀ b off, 0 < ml → L.a = some ⟨b, off, none⟩ → b ≠ mb) := Lib.hid (fun b off h0 he => by
          obtain ⟨b3, off3, hLa, hb3, _⟩ := HLS.out.at 0 h0
          rw [hLa] at he
          injection he with he; injection he
          omega)
        clear hcc
        subst ha2
        cases om with
        | none =>
          simp only [Option.isSome_none] at hhas
          gi_wp2_with (first
            | (gi_at_lookup; refine wpListIn_lookup_own_ok_int _ rfl _ _ 60 rfl 3 3 .i64 law3 Try.underlying60 Try.underlying3 (zero3 _) mb (E.length + 8 * pre.length) D rfl hown5 _ _ rfl hkey ?_; intro c9 hat hwc; rw [hhas])
            | (gi_at_mapUpdate; refine wpListIn_mapUpdate_own _ rfl _ _ _ 60 rfl 3 3 law3 Try.underlying60 _ mb (E.length + 8 * pre.length) D rfl hown5 (by unfold maxLen; omega) _ _ _ rfl rfl hkey _ [] (plainElem_int Try.underlying3 hwt) ?_; intro w6 hown6 hgrow6; have l6 := (World.cell?_of_block (hgrow6.block Bx hBx5 (by simp; omega)) (w' := w6) (a := ⟨Bx, 0, none⟩)).trans l0)
            | fail)
          have HIn : Hid (MapIs w6 mb (E.length + 8 * pre.length + 1) M1 ∧ w5.grownBy w6 (some mb)) := Lib.hid ⟨⟨_, hown6, by rw [HM1.out]; unfold openM; rw [hom]; exact HPut.out⟩, hgrow6⟩
          refine slack_inner l _ (by intro _ _ h; exact h) (by intro _ _ _ h; exact h) w5 w6 (w.heap.size + 1) mb cb coff x.val n0 c node ml L.c L.a cx nv L.ins M1 (E.length + 8 * pre.length + 1) (by omega) (by omega) (by omega) (by omega) (by omega) (by omega) hxn0 hn (by rw [HM1.out, openM_length, HlM.out]; exact hnode) (by rw [HM1.out, openM_length, HlM.out]; omega) hcxb (by omega) (by omega) y4 HCc.out y6 y7 HMl HLS5 HAp HRng HKne HNv HIn ?_ _ _ _ _ _ _ _ _ _ _ _ _ _ _ _ _ _ _ _ _ _ _ _ _ _ _ _ _ _ _ _ _ _ _ _ _ _ _ _ _ _ _ _ _ _ _ _ _ _ _ _ _ _ _ _ _ _ _ _ _ _ _ _ _ _ _ _ _ _ _ _ _ _ _ _ _ _ _ _ _ _ _ _ _ _ _ _ _ _ _ _ _ _ _ _ _ _ _ _ _ _ _ _ _ _ _ _ _ _ _ _ _ _ 
          intro a9 w9 h9 u9
          have hTab : foldT ⟨ins, ha, hc, holds, la, lc, luts, oa, oc, outs⟩ cost till M0 (pre ++ [x]) = askIns M1 L.ins node cx := by rw [foldT_snoc, ← HM.out, tabM, ← HF0.out, ← HNd.out, ← HM1.out, ← HL.out, ← HCxe.out]
          have hWi := askIns_within HW1.out L.ins node cx nv hcxb HNv.out HKne.out L.ins.length (Nat.le_refl _)
          rw [List.take_length] at hWi
          have hgW := grownBy_trans HgW5.out u9
          refine ⟨KeepsFrom.of_grownBy hgW (fun j e => by cases e; omega), ⟨grownBy_below hgW (by omega) (by omega), hgW.block _ (by omega) (by simp; omega)⟩, ⟨⟨?_, ?_⟩, HUp.out.trans (Upd.ofN hgW)⟩⟩
          · rw [hTab]
            exact h9.mono (by rw [List.length_append, List.length_singleton]; omega)
          · rw [hTab]
            exact hWi.mono (by rw [List.length_append, List.length_singleton]; omega)
        | some sv =>
          simp only [Option.isSome_some] at hhas
          gi_wp2_with (first
            | (gi_at_lookup; refine wpListIn_lookup_own_ok_int _ rfl _ _ 60 rfl 3 3 .i64 law3 Try.underlying60 Try.underlying3 (zero3 _) mb (E.length + 8 * pre.length) D rfl hown5 _ _ rfl hkey ?_; intro c9 hat hwc; rw [hhas])
            | fail)
          have HIn : Hid (MapIs w5 mb (E.length + 8 * pre.length + 1) M1 ∧ w5.grownBy w5 (some mb)) := Lib.hid ⟨⟨_, hown5.mono (by omega), by rw [HM1.out]; unfold openM; rw [hom]; exact HD.out⟩, World.grownBy.refl _ _⟩
          refine slack_inner l _ (by intro _ _ h; exact h) (by intro _ _ _ h; exact h) w5 w5 (w.heap.size + 1) mb cb coff x.val n0 c node ml L.c L.a cx nv L.ins M1 (E.length + 8 * pre.length + 1) (by omega) (by omega) (by omega) (by omega) (by omega) (by omega) hxn0 hn (by rw [HM1.out, openM_length, HlM.out]; exact hnode) (by rw [HM1.out, openM_length, HlM.out]; omega) hcxb (by omega) (by omega) y4 HCc.out y6 y7 HMl HLS5 HAp HRng HKne HNv HIn ?_ _ _ _ _ _ _ _ _ _ _ _ _ _ _ _ _ _ _ _ _ _ _ _ _ _ _ _ _ _ _ _ _ _ _ _ _ _ _ _ _ _ _ _ _ _ _ _ _ _ _ _ _ _ _ _ _ _ _ _ _ _ _ _ _ _ _ _ _ _ _ _ _ _ _ _ _ _ _ _ _ _ _ _ _ _ _ _ _ _ _ _ _ _ _ _ _ _ _ _ _ _ _ _ _ _ _ _ _ _ _ _ _ _ 
          intro a9 w9 h9 u9
          have hTab : foldT ⟨ins, ha, hc, holds, la, lc, luts, oa, oc, outs⟩ cost till M0 (pre ++ [x]) = askIns M1 L.ins node cx := by rw [foldT_snoc, ← HM.out, tabM, ← HF0.out, ← HNd.out, ← HM1.out, ← HL.out, ← HCxe.out]
          have hWi := askIns_within HW1.out L.ins node cx nv hcxb HNv.out HKne.out L.ins.length (Nat.le_refl _)
          rw [List.take_length] at hWi
          have hgW := grownBy_trans HgW5.out u9
          refine ⟨KeepsFrom.of_grownBy hgW (fun j e => by cases e; omega), ⟨grownBy_below hgW (by omega) (by omega), hgW.block _ (by omega) (by simp; omega)⟩, ⟨⟨?_, ?_⟩, HUp.out.trans (Upd.ofN hgW)⟩⟩
          · rw [hTab]
            exact h9.mono (by rw [List.length_append, List.length_singleton]; omega)
          · rw [hTab]
            exact hWi.mono (by rw [List.length_append, List.length_singleton]; omega)
      case done =>
        rintro D ys W hD rfl ⟨⟨hMF, hWF⟩, hU⟩ hKD
        rw [foldT_all] at hMF hWF
        have hMFe : slackM ⟨ins, ha, hc, holds, la, lc, luts, oa, oc, outs⟩ cost till = backM ⟨ins, ha, hc, holds, la, lc, luts, oa, oc, outs⟩ cost till M0 luts.length := by rw [slackM, HM0.out, HM00.out, HN.out, HF0.out, HE.out]
        have hgl := fun k hk => slackL_get ⟨ins, ha, hc, holds, la, lc, luts, oa, oc, outs⟩ cost T till k hk
        have hll := slackL_length ⟨ins, ha, hc, holds, la, lc, luts, oa, oc, outs⟩ cost T till
        rw [← HSL.out] at hgl hll
        rw [hMFe] at hgl
        dsimp only at hgl hll hMF hWF
        rw [← HF0.out, ← HN.out] at hgl hll
        obtain ⟨MF, hMFd⟩ : ∃ M, M = backM ⟨ins, ha, hc, holds, la, lc, luts, oa, oc, outs⟩ cost till M0 luts.length := ⟨_, rfl⟩
        have hlMF : MF.length = n := by rw [hMFd, backM_length]; exact hlM0
        rw [← hMFd] at hMF hWF hgl
        have hil := idxs_length luts.length
        have hgTb : W.heap[gT]? = w3.heap[gT]? := ((hU.block gT (by have := hb36.size; omega) (by omega) (by omega)).trans (hb36.block gT (by omega) (by simp; omega)))
        have hoT0 := own_block HOwnT3.out hgTb
        obtain ⟨C9, hC9⟩ : ∃ m, m = E.length + 8 * (idxs luts.length).length := ⟨_, rfl⟩
        rw [← hC9] at hMF
        have hC9b : C9 ≤ 50000 := by omega
        have hTbd : ∀ x ∈ T, 0 ≤ x ∧ x ≤ 1048576 * 200 := by
          intro x hx
          have h4 := HTb.out x hx
          try dsimp only at h4
          omega
        have hWb : Within MF (till - 1048576 * 200) till := hWF.mono (by omega)
        obtain ⟨g0, g1, g2, g3, g4, g5, g6, g7⟩ := HG.out
        have kc := HKC.out W hU
        have y5 := (kc _ 0 (by omega) (by omega)).trans g5
        have y6 := (kc _ 0 (by omega) (by omega)).trans g6
        have hbW : Below w.heap.size w W := hbw6.trans (hU.below (by omega) (by omega) (by omega))
        have hsU := hU.size
        have hs36 := hb36.size
        have hDs : D < W.heap.size := (Array.getElem?_eq_some_iff.1 hKD).1
        have HTbd := Lib.hid hTbd
        have HWb := Lib.hid hWb
        have HGl := Lib.hid hgl
        have HLl := Lib.hid hll
        have HlMF := Lib.hid hlMF
        have HMF := Lib.hid hMF
        have HoT0 := Lib.hid hoT0
        have HKD := Lib.hid hKD
        have HBW := Lib.hid hbW
        clear hMFe hgl hll hMFd hlMF hgTb hoT0 hWF hWb hTbd hMF hil hC9 kc g0 g1 g2 g3 g4 g5 g6 g7 hU hKD hbW hN6 zB y0 y1 y2 y3 hsr hM6 hlM0 hWi0
        simp only [List.setIfInBounds_toArray, List.set_cons_zero, List.set_cons_succ]
        gi_wp2
        gi_loopw [95] (fun kv wq => ∃ k : Nat, k ≤ n ∧ kv = .int .i64 k ∧ Hid (wq.ownsRow W0.heap.size 3 1 (.slice (some ⟨gT, 0, none⟩) n cT) n ((mixTo SL T k).map (Value.int .i64)) ∧ W.grownBy wq (some gT))) (fun kv _ => n - (intOf kv).toNat)
        case atStart => exact ⟨0, by omega, rfl, Lib.hid ⟨by simpa [mixTo] using HoT0.out, World.grownBy.refl _ _⟩⟩
        case round =>
          obtain ⟨k, hk, rfl, hh3⟩ := hrel
          obtain ⟨hoT, hgT3⟩ := hh3.out
          by_cases hlt3 : k < n
          · have zT := hoT.cellAt k (by omega)
            rw [List.getElem?_map, mixTo_get SL T k (by rw [HLl.out, HTl.out]) (by rw [HTl.out]; exact hlt3)] at zT
            simp only [Option.map_some] at zT
            have fT := hoT.frozenAt k
            have hmix := mixTo_set SL T k (by rw [HLl.out, HTl.out]) (by rw [HTl.out]; exact hlt3)
            have hslk := HGl.out k hlt3
            have htk := HTbd.out _ (getD_mem T 0 (show k < T.length by rw [HTl.out]; exact hlt3))
            have kc : ∀ b i, b < W.heap.size → b ≠ gT → wr.cell? ⟨b, i, none⟩ = W.cell? ⟨b, i, none⟩ := fun b i h1 h2 => World.cell?_of_block (hgT3.block b h1 (by simp; omega))
            have z5 := (kc _ 0 (by omega) (by omega)).trans y5
            have z6 := (kc _ 0 (by omega) (by omega)).trans y6
            obtain ⟨tk, htke⟩ : ∃ t, t = T.getD k 0 := ⟨_, rfl⟩
            rw [← htke] at zT hslk htk
            obtain ⟨DD, hown5, hAg⟩ := HMF.out.kept hgT3 (by simp; omega)
            have hkey : keyOf Try.prog 3 (.int .i64 (k : Int)) = some (.int .i64 (k : Int)) := keyOf_int_mk Try.underlying3 (wfI (by omega))
            have hhas := hAg.has k (by rw [HlMF.out]; exact hlt3)
            obtain ⟨om, hom⟩ : ∃ o, MF.getD k none = o := ⟨_, rfl⟩
            rw [hom] at hslk hhas
            rw [hslk] at hmix
            cases om with
            | none =>
              simp only [Option.isSome_none, Option.getD_none] at hhas hmix
              have hwrp : IntKind.i64.wrap (till - tk) = till - tk := IntWalk.i64_in _ (by omega)
              have hst := own_store hoT k (.int .i64 (till - tk))
              rw [hmix] at hst
              have HSt := Lib.hid hst
              have HAg := Lib.hid hAg
              have HgT3 := Lib.hid hgT3
              clear hst hmix hslk htke hom kc hAg hoT hgT3
              gi_wp2_with (first
                | (gi_at_lookup; refine wpListIn_lookup_own_ok_int _ rfl _ _ 60 rfl 3 3 .i64 law3 Try.underlying60 Try.underlying3 (zero3 _) mb C9 DD rfl hown5 _ _ rfl hkey ?_; intro c9 hat hwc; rw [hhas])
                | fail)
              go_roundw
              case rel => exact ⟨k + 1, by omega, by go_num, Lib.hid ⟨HSt.out.1, grownBy_trans HgT3.out HSt.out.2⟩⟩
              case measure => simp [intOf]; omega
            | some sv =>
              simp only [Option.isSome_some, Option.getD_some] at hhas hmix
              have hwf := HWb.out k sv hom
              have hwrp : IntKind.i64.wrap (sv - tk) = sv - tk := IntWalk.i64_in _ (by omega)
              have hat3 := hAg.at_ k sv hom
              have hst := own_store hoT k (.int .i64 (sv - tk))
              rw [hmix] at hst
              have HSt := Lib.hid hst
              have HAt := Lib.hid hat3
              have HAg := Lib.hid hAg
              have HgT3 := Lib.hid hgT3
              clear hst hmix hslk htke hom kc hAg hoT hgT3 hat3
              gi_wp2_with (first
                | (gi_at_lookup; refine wpListIn_lookup_own_ok_int _ rfl _ _ 60 rfl 3 3 .i64 law3 Try.underlying60 Try.underlying3 (zero3 _) mb C9 DD rfl hown5 _ _ rfl hkey ?_; intro c9 hat hwc; (obtain rfl : c9 = sv := by have := hat.symm.trans HAt.out; injection this with this; injection this); rw [hhas])
                | fail)
              go_roundw
              case rel => exact ⟨k + 1, by omega, by go_num, Lib.hid ⟨HSt.out.1, grownBy_trans HgT3.out HSt.out.2⟩⟩
              case measure => simp [intOf]; omega
          · obtain rfl : k = n := by omega
            rw [mixTo, List.take_of_length_le (by rw [HLl.out]; exact Nat.le_refl _), List.drop_eq_nil_of_le (by rw [HTl.out]; exact Nat.le_refl _), List.append_nil] at hoT
            have HoT := Lib.hid hoT
            have HgT3 := Lib.hid hgT3
            clear hoT hgT3
            have hKD3 := (HgT3.out.block D hDs (by simp; omega)).trans HKD.out
            have hbr3 := HBW.out.trans (grownBy_below HgT3.out (B := w.heap.size) (by omega) (by omega))
            have HbF := Lib.hid (hbr3.trans (belowK_b (w := w) (Nat.le_refl _) wr D _ (.deferred none) (by omega) hKD3 rfl rfl))
            have HoF := Lib.hid (HoT.out.kept (w' := wr.putObj D (.deferred none)) (row := some D) (grownBy_putObj' wr D (.deferred none)) (.inr (by simp [Value.ownBlock]; omega)))
            have HKD3 := Lib.hid hKD3
            clear hKD3 hbr3
            gi_wp2
            refine ⟨by simp, .inl ⟨_, _, rfl, run_takeDeferred HKD3.out, ?_⟩⟩
            refine ⟨_, results_tmp2 rfl _ _ _, ?_⟩
            refine ⟨_, rfl, ?_, HbF.out⟩
            rw [HLl.out]
            exact HoF.out.base_le (by omega)
end Go.Proofs.Ytkcilpkcjhnkaaa
