import Derived.Test.YtibimdhmfchcoaaA4
namespace Go.Proofs.Ytibimdhmfchcoaa
open Go.RowKit Go.Shelf Go.Maps
set_option linter.unusedVariables false
set_option linter.unusedSimpArgs false

/-- All places at which a net names a node. -/
def occ (N : NetV) : List Int := N.luts.flatMap LutV.ins ++ N.holds.map HoldV.d ++ N.outs
def cntF (l : List Int) : Int → Int := fun x => (l.count x : Int)

theorem take_one {α : Type} (l : List α) (d : α) (j : Nat) (hj : j < l.length) : l.take (j + 1) = l.take j ++ [l.getD j d] := by
  rw [List.take_add_one, List.getElem?_eq_getElem hj]
  simp [List.getD_eq_getElem?_getD, List.getElem?_eq_getElem hj]
theorem take_flat (l : List LutV) (j : Nat) (hj : j < l.length) : (l.take (j + 1)).flatMap LutV.ins = (l.take j).flatMap LutV.ins ++ (l.getD j default).ins := by
  rw [take_one l default j hj, List.flatMap_append]
  simp only [List.flatMap_cons, List.flatMap_nil, List.append_nil]
theorem take_map (l : List HoldV) (j : Nat) (hj : j < l.length) : (l.take (j + 1)).map HoldV.d = (l.take j).map HoldV.d ++ [(l.getD j default).d] := by
  rw [take_one l default j hj, List.map_append]
  simp only [List.map_cons, List.map_nil]
theorem cntF_step (l : List Int) (k : Int) : (fun x => if x = k then cntF l k + 1 else cntF l x) = cntF (l ++ [k]) := by
  funext x
  simp only [cntF, List.count_append, List.count_singleton]
  by_cases h : x = k
  · subst h; simp
  · rw [if_neg h, show (k == x) = false by simpa using fun e => h e.symm]; simp
theorem cntF_le (l : List Int) (k : Int) : 0 ≤ cntF l k ∧ cntF l k ≤ l.length := by
  have := List.count_le_length (a := k) (l := l)
  unfold cntF; omega
theorem flat_len (l : List LutV) (h : ∀ x ∈ l, x.ins.length ≤ 20) : (l.flatMap LutV.ins).length ≤ 20 * l.length := by
  induction l with
  | nil => simp
  | cons a l ih =>
    have h1 := h a (by simp)
    have h2 := ih (fun x hx => h x (by simp [hx]))
    simp only [List.flatMap_cons, List.length_append, List.length_cons]; omega

/-- first() -/
theorem first38 (w : World) (pk : Nat) (n h c : Nat) (x : Int) (ha : Option Addr) (hx : I64 x) (hx1 : x ≤ 100) (hn : n ≤ 100) (p3 : w.cell? ⟨pk, 3, none⟩ = some (.int .i64 x)) (p4 : w.cell? ⟨pk, 4, none⟩ = some (.slice ha n c)) :
    Calls Try.prog 38 #[.pointer (some ⟨pk, 0, none⟩)] w fun e w' => e = .returned (.int .i64 (1 + x + n)) ∧ ∃ q, w' = w.drewN q := by
  obtain ⟨h1, h2⟩ := hx
  go_enter Try.func38, Try.ntmps38
  go_wp2_with fail
  go_quiet (fail)
  go_wp2
  go_ret
  exact ⟨rfl, _, rfl⟩

set_option maxRecDepth 100000 in
set_option maxHeartbeats 4000000 in
theorem counts (w : World) (pk : Nat) (N : NetV) (hN : NetAt w N) (hf : Few N) (p4 : w.cell? ⟨pk, 4, none⟩ = some (.slice N.ha N.holds.length N.hc)) (p5 : w.cell? ⟨pk, 5, none⟩ = some (.slice N.la N.luts.length N.lc)) (p6 : w.cell? ⟨pk, 6, none⟩ = some (.slice N.oa N.outs.length N.oc)) :
    Calls Try.prog 37 #[.pointer (some ⟨pk, 0, none⟩)] w fun e w' => ∃ ub, e = .returned (.map (some ub)) ∧ w.heap.size ≤ ub ∧ IMap w' ub 10000 (cntF (occ N)) ∧ Below w.heap.size w w' := by
  have hpl : pk < w.heap.size := World.block_lt_of_cell? w _ p4
  have hlens : N.luts.length ≤ 200 ∧ N.holds.length ≤ 100 ∧ N.outs.length ≤ 100 ∧ ∀ l ∈ N.luts, l.ins.length ≤ 20 := ⟨hf.luts, hf.holds, hf.outs, hf.lut⟩
  have hfl := flat_len N.luts hlens.2.2.2
  have H := Lib.hid hN
  have HFl := Lib.hid hlens.2.2.2
  obtain ⟨l1, l2, l3, _⟩ := hlens
  have HTot : Hid ((N.luts.flatMap LutV.ins).length ≤ 4000) := Lib.hid (by omega)
  clear hN hf hfl
  obtain ⟨ins, ha, hc, holds, la, lc, luts, oa, oc, outs⟩ := N
  dsimp only at l1 l2 l3 p4 p5 p6 HFl HTot ⊢
  have hlens : luts.length ≤ 200 ∧ holds.length ≤ 100 ∧ outs.length ≤ 100 := ⟨l1, l2, l3⟩
  have HP := Lib.hid (And.intro p4 p6)
  have hmm := @run_makeMap Try.prog
  go_enter Try.func37, Try.ntmps37
  go_wp2
  clear hmm
  obtain ⟨W1, hW1⟩ : ∃ W1, W1 = w.alloc (.map #[] 0) := ⟨_, rfl⟩
  have hs1 : W1.heap.size = w.heap.size + 1 := by rw [hW1]; simp
  have hst : Hid (IMap W1 w.heap.size 0 (cntF []) ∧ Below w.heap.size w W1) := Lib.hid (by
    rw [hW1]; exact ⟨IMap.made w, (Below.refl _ _).alloc (Nat.le_refl _) _⟩)
  rw [← hW1]
  clear hW1
  have HPc : Hid (∀ X : World, Below w.heap.size w X → X.cell? ⟨pk, 4, none⟩ = some (.slice ha holds.length hc) ∧ X.cell? ⟨pk, 6, none⟩ = some (.slice oa outs.length oc)) := Lib.hid (fun X hX => ⟨(hX.cell (p := ⟨_, _, none⟩) hpl).trans HP.out.1, (hX.cell (p := ⟨_, _, none⟩) hpl).trans HP.out.2⟩)
  go_loopw [19] (fun iv wr => ∃ j : Nat, j ≤ luts.length ∧ iv = .int .i64 j ∧ Hid (IMap wr w.heap.size ((luts.take j).flatMap LutV.ins).length (cntF ((luts.take j).flatMap LutV.ins)) ∧ Below w.heap.size w wr ∧ w.heap.size + 1 ≤ wr.heap.size)) (fun iv _ => luts.length - (intOf iv).toNat)
  case atStart => exact ⟨0, by omega, rfl, Lib.hid ⟨by simpa using hst.out.1, hst.out.2, by omega⟩⟩
  case round =>
    obtain ⟨j, hj, rfl, hh⟩ := hrel
    have hsz := hh.out.2.2
    by_cases hlt : j < luts.length
    · obtain ⟨b, off, hLa0, hbb, d0, d1⟩ := (H.out.below hh.out.2.1 (Nat.le_refl _)).lut j hlt
      obtain ⟨hLS, hLu, hLi, _⟩ := (H.out.below hh.out.2.1 (Nat.le_refl _)).lutAt j hlt
      have hL20 := HFl.out _ (getD_mem luts default hlt)
      have htf := take_flat luts j hlt
      dsimp only at hLa0 d0 d1 hLS hLu hLi
      have hpre : ((luts.take j).flatMap LutV.ins).length ≤ 4000 := by
        have h1 := HTot.out
        have h2 : luts.flatMap LutV.ins = (luts.take j).flatMap LutV.ins ++ (luts.drop j).flatMap LutV.ins := by rw [← List.flatMap_append, List.take_append_drop]
        rw [h2, List.length_append] at h1; omega
      obtain ⟨L, hLe⟩ : ∃ L, L = luts.getD j default := ⟨_, rfl⟩
      rw [← hLe] at d0 d1 hLS hLu hLi hL20 htf
      obtain ⟨La, Lc, Li, Lt⟩ := L
      obtain ⟨pre, hpe⟩ : ∃ l, l = (luts.take j).flatMap LutV.ins := ⟨_, rfl⟩
      rw [← hpe] at hpre htf hh
      dsimp only at d0 d1 hLS hLu hLi hL20 htf
      subst hLa0
      obtain ⟨W2, hW2⟩ : ∃ W2, W2 = wr.alloc (Obj.cells #[Value.slice La Li.length Lc, Value.int IntKind.u64 Lt] 41) := ⟨_, rfl⟩
      have hin : Hid (IMap W2 w.heap.size pre.length (cntF pre) ∧ Below w.heap.size w W2 ∧ Below wr.heap.size wr W2 ∧ w.heap.size + 1 ≤ W2.heap.size) := Lib.hid (by
        have hb2 : Below wr.heap.size wr W2 := by rw [hW2]; exact (Below.refl _ _).alloc (Nat.le_refl _) _
        exact ⟨hh.out.1.below hb2 (by omega), hh.out.2.1.trans (hb2.mono (by omega)), hb2, by rw [hW2]; simp; omega⟩)
      have HLS := Lib.hid hLS
      have HLi := Lib.hid hLi
      have HTF := Lib.hid htf
      have HLe := Lib.hid hLe
      have HPe := Lib.hid hpe
      clear hLS hLi htf hLe hpe
      obtain ⟨Wr, hWr⟩ : ∃ Wr, Wr = wr := ⟨_, rfl⟩
      go_wp2
      rw [← hW2]
      go_loopw [26] (fun qv wq => ∃ q : Nat, q ≤ Li.length ∧ qv = .int .i64 q ∧ Hid (IMap wq w.heap.size (pre ++ Li.take q).length (cntF (pre ++ Li.take q)) ∧ Below w.heap.size w wq ∧ w.heap.size + 1 ≤ wq.heap.size)) (fun qv _ => Li.length - (intOf qv).toNat)
      case atStart => exact ⟨0, by omega, rfl, Lib.hid ⟨by simpa using hin.out.1, hin.out.2.1, hin.out.2.2.2⟩⟩
      case round =>
        obtain ⟨q, hq, rfl, hi_⟩ := hrel
        by_cases hlq : q < Li.length
        · obtain ⟨hm, hbw, hsz2⟩ := hi_.out
          have hLS2 := ((H.out.below hbw (Nat.le_refl _)).lutAt j hlt).1
          dsimp only at hLS2
          rw [← HLe.out] at hLS2
          dsimp only at hLS2
          obtain ⟨b3, off3, hLa, hb3, hc3⟩ := hLS2.at q hlq
          have x0 := hc3 q hlq
          unfold ints at x0
          have hxI := HLi.out _ (getD_mem Li 0 hlq)
          have htk := take_one Li 0 q hlq
          obtain ⟨x, hx⟩ : ∃ x, x = Li.getD q 0 := ⟨_, rfl⟩
          rw [← hx] at x0 hxI htk
          have hcb := cntF_le (pre ++ Li.take q) x
          have hll : (pre ++ Li.take q).length ≤ 5000 := by rw [List.length_append, List.length_take]; omega
          have hlk := hm.look x hxI
          obtain ⟨w5, hput, hm5, hg5⟩ := hm.put x (cntF (pre ++ Li.take q) x + 1) hxI ⟨by omega, by omega⟩ (by omega)
          rw [cntF_step] at hm5
          obtain ⟨cx, hcx⟩ : ∃ c, c = cntF (pre ++ Li.take q) x := ⟨_, rfl⟩
          rw [← hcx] at hlk hput hcb
          have hstep : pre ++ Li.take (q + 1) = pre ++ Li.take q ++ [x] := by rw [htk, List.append_assoc]
          have Hm5 : Hid (IMap w5 w.heap.size (pre ++ Li.take (q + 1)).length (cntF (pre ++ Li.take (q + 1))) ∧ Below w.heap.size w w5 ∧ w.heap.size + 1 ≤ w5.heap.size) := Lib.hid (by
            rw [hstep]
            exact ⟨by rw [List.length_append (bs := [x])]; exact hm5, hbw.grown hg5 (by omega) (fun k e => by injection e with e; omega), by have := hg5.size; omega⟩)
          have hcb2 : cx ≤ 5000 := by omega
          clear hstep hm5 hc3 htk hx hcx hll hm hg5 hLS2
          subst hLa
          go_wp2
          go_roundw
          case rel => exact ⟨q + 1, by omega, by go_num, Hm5⟩
          case measure => simp [intOf]; omega
        · obtain rfl : q = Li.length := by omega
          have hend : Hid (IMap _ w.heap.size ((luts.take (j + 1)).flatMap LutV.ins).length (cntF ((luts.take (j + 1)).flatMap LutV.ins)) ∧ Below w.heap.size w _ ∧ w.heap.size + 1 ≤ _) := Lib.hid (by
            rw [HTF.out]
            have h := hi_.out
            rw [List.take_length] at h
            exact h)
          go_wp2
          go_roundw
          case rel => exact ⟨j + 1, by omega, by go_num, hend⟩
          case measure => simp [intOf]; omega
    · obtain rfl : j = luts.length := by omega
      have h0 : Hid (IMap wr w.heap.size (luts.flatMap LutV.ins).length (cntF (luts.flatMap LutV.ins ++ (holds.take 0).map HoldV.d)) ∧ Below w.heap.size w wr ∧ w.heap.size + 1 ≤ wr.heap.size) := Lib.hid (by
        have h := hh.out
        rw [List.take_length] at h
        simpa using h)
      obtain ⟨l4, l6⟩ := HPc.out _ h0.out.2.1
      obtain ⟨F, hF⟩ : ∃ F, F = luts.flatMap LutV.ins := ⟨_, rfl⟩
      rw [← hF] at h0
      have hF4 : F.length ≤ 4000 := by rw [hF]; exact HTot.out
      have HF := Lib.hid hF
      clear hF
      go_wp2
      go_loopw [42] (fun iv wr => ∃ j : Nat, j ≤ holds.length ∧ iv = .int .i64 j ∧ Hid (IMap wr w.heap.size (F.length + j) (cntF (F ++ (holds.take j).map HoldV.d)) ∧ Below w.heap.size w wr ∧ w.heap.size + 1 ≤ wr.heap.size)) (fun iv _ => holds.length - (intOf iv).toNat)
      case atStart => exact ⟨0, by omega, rfl, h0⟩
      case round =>
        obtain ⟨j, hj, rfl, hh⟩ := hrel
        obtain ⟨hm, hbw, hsz⟩ := hh.out
        by_cases hlt : j < holds.length
        · obtain ⟨b, off, hLa0, hbb, hcs⟩ := (H.out.below hbw (Nat.le_refl _)).holds.at (2 * j) (by simp only; omega)
          dsimp only at hLa0 hcs
          have d0 := hcs (j * 2) (by omega)
          have d1 := hcs (j * 2 + 1) (by omega)
          simp only [holdCell] at d0 d1
          rw [if_pos (by omega), show j * 2 / 2 = j by omega] at d0
          rw [if_neg (by omega), show (j * 2 + 1) / 2 = j by omega, ← Nat.add_assoc] at d1
          have hxI := (H.out.holdsR : ∀ h ∈ holds, I64 h.d) _ (getD_mem holds default hlt)
          have htk := take_map holds j hlt
          obtain ⟨hd, hhd⟩ : ∃ z, z = holds.getD j default := ⟨_, rfl⟩
          rw [← hhd] at d0 d1 hxI htk
          obtain ⟨x, xi⟩ := hd
          dsimp only at d0 d1 hxI htk
          have hcb := cntF_le (F ++ (holds.take j).map HoldV.d) x
          have hll : (F ++ (holds.take j).map HoldV.d).length ≤ 5000 := by rw [List.length_append, List.length_map, List.length_take]; omega
          obtain ⟨W2, hW2⟩ : ∃ W2, W2 = wr.alloc (Obj.cells #[Value.int IntKind.i64 x, Value.bool xi] 63) := ⟨_, rfl⟩
          have hb2 : Below wr.heap.size wr W2 := by rw [hW2]; exact (Below.refl _ _).alloc (Nat.le_refl _) _
          have hm2 := hm.below hb2 (by omega)
          have hlk := hm2.look x hxI
          obtain ⟨w5, hput, hm5, hg5⟩ := hm2.put x (cntF (F ++ (holds.take j).map HoldV.d) x + 1) hxI ⟨by omega, by omega⟩ (by omega)
          rw [cntF_step] at hm5
          obtain ⟨cx, hcx⟩ : ∃ c, c = cntF (F ++ (holds.take j).map HoldV.d) x := ⟨_, rfl⟩
          rw [← hcx] at hlk hput hcb
          have hstep : F ++ (holds.take (j + 1)).map HoldV.d = F ++ (holds.take j).map HoldV.d ++ [x] := by rw [htk, List.append_assoc]
          have Hm5 : Hid (IMap w5 w.heap.size (F.length + (j + 1)) (cntF (F ++ (holds.take (j + 1)).map HoldV.d)) ∧ Below w.heap.size w w5 ∧ w.heap.size + 1 ≤ w5.heap.size) := Lib.hid (by
            rw [hstep]
            exact ⟨hm5, (hbw.trans (hb2.mono (by omega))).grown hg5 (by have := hb2.size; omega) (fun k e => by injection e with e; omega), by have := hg5.size; have := hb2.size; omega⟩)
          have hcb2 : cx ≤ 5000 := by omega
          have q0 : W2.cell? ⟨wr.heap.size, 0, none⟩ = some (.int .i64 x) := by rw [hW2]; simp
          clear hstep hm5 hcs htk hhd hcx hll hm hm2 hg5 hb2
          subst hLa0
          rw [hW2] at hlk hput
          go_wp2
          go_roundw
          case rel => exact ⟨j + 1, by omega, by go_num, Hm5⟩
          case measure => simp [intOf]; omega
        · obtain rfl : j = holds.length := by omega
          rw [List.take_length] at hm
          obtain ⟨l4, l6⟩ := HPc.out _ hbw
          have h0 : Hid (IMap wr w.heap.size (F.length + holds.length + 0) (cntF (F ++ holds.map HoldV.d ++ outs.take 0)) ∧ Below w.heap.size w wr ∧ w.heap.size + 1 ≤ wr.heap.size) := Lib.hid ⟨by simpa using hm, hbw, hsz⟩
          obtain ⟨G, hG⟩ : ∃ G, G = F ++ holds.map HoldV.d := ⟨_, rfl⟩
          rw [← hG] at h0
          have hG4 : G.length ≤ 4200 := by rw [hG, List.length_append, List.length_map]; omega
          have HG := Lib.hid hG
          obtain ⟨c0, hc0⟩ : ∃ c0, c0 = F.length + holds.length := ⟨_, rfl⟩
          rw [← hc0] at h0
          have hc04 : c0 ≤ 4200 := by omega
          clear hG hm hc0
          go_wp2
          go_loopw [58] (fun iv wr => ∃ j : Nat, j ≤ outs.length ∧ iv = .int .i64 j ∧ Hid (IMap wr w.heap.size (c0 + j) (cntF (G ++ outs.take j)) ∧ Below w.heap.size w wr ∧ w.heap.size + 1 ≤ wr.heap.size)) (fun iv _ => outs.length - (intOf iv).toNat)
          case atStart => exact ⟨0, by omega, rfl, h0⟩
          case round =>
            obtain ⟨j, hj, rfl, hh⟩ := hrel
            obtain ⟨hm, hbw, hsz⟩ := hh.out
            by_cases hlt : j < outs.length
            · obtain ⟨b, off, hLa0, hbb, hcs⟩ := (H.out.below hbw (Nat.le_refl _)).outs.at j (by simp only; omega)
              dsimp only at hLa0 hcs
              have d0 := hcs j hlt
              unfold ints at d0
              have hxI := (H.out.outsR : ∀ h ∈ outs, I64 h) _ (getD_mem outs 0 hlt)
              have htk := take_one outs 0 j hlt
              obtain ⟨x, hhd⟩ : ∃ z, z = outs.getD j 0 := ⟨_, rfl⟩
              rw [← hhd] at d0 hxI htk
              have hcb := cntF_le (G ++ outs.take j) x
              have hll : (G ++ outs.take j).length ≤ 5000 := by rw [List.length_append, List.length_take]; omega
              have hlk := hm.look x hxI
              obtain ⟨w5, hput, hm5, hg5⟩ := hm.put x (cntF (G ++ outs.take j) x + 1) hxI ⟨by omega, by omega⟩ (by omega)
              rw [cntF_step] at hm5
              obtain ⟨cx, hcx⟩ : ∃ c, c = cntF (G ++ outs.take j) x := ⟨_, rfl⟩
              rw [← hcx] at hlk hput hcb
              have hstep : G ++ outs.take (j + 1) = G ++ outs.take j ++ [x] := by rw [htk, List.append_assoc]
              have Hm5 : Hid (IMap w5 w.heap.size (c0 + (j + 1)) (cntF (G ++ outs.take (j + 1))) ∧ Below w.heap.size w w5 ∧ w.heap.size + 1 ≤ w5.heap.size) := Lib.hid (by
                rw [hstep]
                exact ⟨hm5, hbw.grown hg5 (by omega) (fun k e => by injection e with e; omega), by have := hg5.size; omega⟩)
              have hcb2 : cx ≤ 5000 := by omega
              clear hstep hm5 hcs htk hhd hcx hll hm hg5
              subst hLa0
              go_wp2
              go_roundw
              case rel => exact ⟨j + 1, by omega, by go_num, Hm5⟩
              case measure => simp [intOf]; omega
            · obtain rfl : j = outs.length := by omega
              rw [List.take_length] at hm
              go_wp2
              go_ret
              refine ⟨_, rfl, Nat.le_refl _, ?_, hbw⟩
              have : occ ⟨ins, ha, hc, holds, la, lc, luts, oa, oc, outs⟩ = G ++ outs := by rw [HG.out, HF.out]; rfl
              rw [this]
              exact hm.mono (by omega)
end Go.Proofs.Ytibimdhmfchcoaa
