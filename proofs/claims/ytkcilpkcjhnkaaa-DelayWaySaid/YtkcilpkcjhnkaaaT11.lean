import Derived.Test.YtkcilpkcjhnkaaaT10
import Derived.Deep.OwnRows
namespace Go.Proofs.Ytkcilpkcjhnkaaa
open Go.RowKit

set_option maxHeartbeats 2000000 in
theorem arrive_ok (w : World) (N : NetV) (h : NetAt w N) (f : Few N) (a : Option Addr) (n c : Nat) (cost : List Int) (hlen : cost.length = n) (hn : n ≤ 300) (S : Seq w a n (ints cost)) (ok : CostOk N cost) :
    Calls Try.prog 15 #[N.val, .slice a n c] w (NewInts w (arrL N cost) 0) := by
  have HBX := Lib.hid (Box.start w N)
  have C := check (w.alloc N.obj) N (h.below HBX.out.below (Nat.le_refl _)) f 6 (by omega)
  have D := fun W (hW : Below w.heap.size w W) => costBad W a n c cost hlen hn (S.below hW (Nat.le_refl _))
  rw [show (cost.any fun x => !(decide (0 ≤ x) && decide (x ≤ 1048576))) = false by
    rw [List.any_eq_false]; intro x hx; have := ok.each x hx; simp; omega] at D
  rw [show chk N 6 = 0 from if_pos ok.net] at C
  have hf0 := f.ins
  have hf1 := f.holds
  have hf2 := f.luts
  have hi0 := ok.net.ins0
  have C2 := fun W => first W N h.insR hf0 hf1
  rw [← firstN_eq hi0] at C2
  have hfl : firstN N ≤ 201 := by unfold firstN; omega
  have hfl0 : 0 < firstN N := by unfold firstN; omega
  have hfe := firstN_eq hi0
  obtain ⟨F0, hF0⟩ : ∃ F0, F0 = firstN N := ⟨_, rfl⟩
  rw [← hF0] at C2 hfl hfl0 hfe
  have HFE := Lib.hid hfe
  have HF0 := Lib.hid hF0
  clear hfe hF0
  have HC2 := Lib.hid C2
  have HD := Lib.hid D
  have HC := Lib.hid C
  have HS := Lib.hid S
  have HLen := Lib.hid hlen
  have H := Lib.hid h
  have F := Lib.hid f
  have HOk := Lib.hid ok
  have hnl : n = N.luts.length := by rw [← hlen, ok.len]
  have hnl' : ((n : Int) != N.luts.length) = false := by rw [bne_eq_false_iff_eq]; omega
  have HN := Lib.hid hnl
  have hn' : N.luts.length ≤ n := by omega
  clear C C2 D S hlen h f ok hnl
  have hmk := run_make_row' (P := Try.prog) 24 3 (.int .i64 0) 8 Try.underlying24 info3 rfl .i64 .i64 (F0 + N.luts.length) (by omega) (by omega)
  rw [show ((F0 + N.luts.length : Nat) : Int) = (F0 : Int) + N.luts.length by omega] at hmk
  obtain ⟨ins, ha, hc, holds, la, lc, luts, oa, oc, outs⟩ := N
  dsimp only at hf0 hf1 hf2 hi0 hn' HN hnl' hmk ⊢
  go_enter Try.func15, Try.ntmps15
  go_wp2_with fail
  refine HC.out.mono ?_
  rintro e w1 ⟨rfl, hb1⟩
  have hbx := HBX.out.step hb1 (by simp)
  have HBx := Lib.hid hbx
  have c0 := hbx.c0
  have c1 := hbx.c1
  have c2 := hbx.c2
  have c3 := hbx.c3
  have hs1 := hbx.size
  clear hbx
  dsimp only at c0 c1 c2 c3
  go_wp2_with fail
  refine (HD.out _ HBx.out.below).mono ?_
  rintro e w2 ⟨rfl, rfl⟩
  have hwr : IntKind.i64.wrap ((F0 : Int) + luts.length) = (F0 : Int) + luts.length := IntWalk.i64_in _ (by omega)
  go_wp2_with fail
  go_region_held3 (fun w' => w'.cell? ⟨w.heap.size, 0, none⟩ = some (.int .i64 ins) ∧ w'.cell? ⟨w.heap.size, 1, none⟩ = some (Value.slice ha holds.length hc) ∧ w'.cell? ⟨w.heap.size, 2, none⟩ = some (Value.slice la luts.length lc) ∧ w'.cell? ⟨w.heap.size, 3, none⟩ = some (Value.slice oa outs.length oc))
    (first | exact ⟨c0, c1, c2, c3⟩ | exact ⟨(hb2.cell (p := ⟨_, _, none⟩) (by simp; omega)).trans c0, (hb2.cell (p := ⟨_, _, none⟩) (by simp; omega)).trans c1, (hb2.cell (p := ⟨_, _, none⟩) (by simp; omega)).trans c2, (hb2.cell (p := ⟨_, _, none⟩) (by simp; omega)).trans c3⟩ | exact ⟨cell_alloc _ ((hb2.cell (p := ⟨_, _, none⟩) (by simp; omega)).trans c0), cell_alloc _ ((hb2.cell (p := ⟨_, _, none⟩) (by simp; omega)).trans c1), cell_alloc _ ((hb2.cell (p := ⟨_, _, none⟩) (by simp; omega)).trans c2), cell_alloc _ ((hb2.cell (p := ⟨_, _, none⟩) (by simp; omega)).trans c3)⟩)
    (first | (go_at_call 33; refine (HC2.out _).mono ?_; rintro e w2 ⟨rfl, hb2⟩))
  go_wp2
  have hb3 : Below w1.heap.size w1 w2 := (Below.refl _ _).drew.trans hb2
  have hs2 : w1.heap.size ≤ w2.heap.size := hb3.size
  have HBx2 := Lib.hid ((HBx.out.step hb3 HBx.out.size).step (C := w2.heap.size) (w' := w2.alloc (Obj.cells (madeCells #[Value.int IntKind.i64 0] (F0 + luts.length)) 3)) ((Below.refl _ _).alloc (Nat.le_refl _) _) (by omega))
  have hown : (w2.alloc (Obj.cells (madeCells #[Value.int IntKind.i64 0] (F0 + luts.length)) 3)).ownsRow (w.heap.size + 1) 3 1 (.slice (some ⟨w2.heap.size, 0, none⟩) (F0 + luts.length) (F0 + luts.length)) (F0 + luts.length) ((arrTo ⟨ins, ha, hc, holds, la, lc, luts, oa, oc, outs⟩ cost 0 ++ List.replicate (luts.length - 0) 0).map (Value.int .i64)) := by
    have h := World.ownsRow_lit (size := 1) (e := 3) (base := w.heap.size + 1) w2 (madeCells #[Value.int IntKind.i64 0] (F0 + luts.length)) (F0 + luts.length) (by omega) (by unfold maxLen; omega) (by simp [madeCells])
    rw [toList_madeCells_one] at h
    simpa [arrTo, ← HF0.out, ← List.replicate_append_replicate] using h
  obtain ⟨W3, hW3⟩ : ∃ W3, W3 = w2.alloc (Obj.cells (madeCells #[Value.int IntKind.i64 0] (F0 + luts.length)) 3) := ⟨_, rfl⟩
  rw [← hW3] at hown HBx2 ⊢
  have hgB : w.heap.size + 1 ≤ w2.heap.size := by omega
  obtain ⟨g, hg⟩ : ∃ g, g = w2.heap.size := ⟨_, rfl⟩
  rw [← hg] at hown hgB ⊢
  have HOwn := Lib.hid hown
  clear hown hW3 hg hb2 hb3 hs2 hs1 hmk hwr c0 c1 c2 c3
  go_loopw [39] (fun i wr => ∃ j : Nat, j ≤ luts.length ∧ i = .int .i64 j ∧ Hid (Box w.heap.size w ⟨ins, ha, hc, holds, la, lc, luts, oa, oc, outs⟩ wr ∧ wr.ownsRow (w.heap.size + 1) 3 1 (.slice (some ⟨g, 0, none⟩) (F0 + luts.length) (F0 + luts.length)) (F0 + luts.length) ((arrTo ⟨ins, ha, hc, holds, la, lc, luts, oa, oc, outs⟩ cost j ++ List.replicate (luts.length - j) 0).map (Value.int .i64)))) (fun i _ => luts.length - (intOf i).toNat)
  case atStart => exact ⟨0, by omega, rfl, HBx2.out, HOwn.out⟩
  case round =>
    obtain ⟨j, hj, rfl, hh⟩ := hrel
    by_cases hlt : j < luts.length
    · obtain ⟨b, off, rfl, hbb, d0, d1⟩ := (H.out.below hh.out.1.below (Nat.le_refl _)).lut j hlt
      have hU := (H.out.lutAt j hlt).1
      have hrng := (HOk.out.net.lut j hlt).ins
      have h20 := F.out.lut _ (getD_mem luts default hlt)
      obtain ⟨L, hLe⟩ : ∃ L, L = luts.getD j default := ⟨_, rfl⟩
      dsimp only at d0 d1 hU hrng
      rw [← hLe] at d0 d1 hU hrng h20
      have HL := Lib.hid hLe
      clear hLe
      obtain ⟨P, hP⟩ : ∃ P, P = arrTo ⟨ins, ha, hc, holds, some ⟨b, off, none⟩, lc, luts, oa, oc, outs⟩ cost j := ⟨_, rfl⟩
      have hPl : P.length = F0 + j := by rw [hP, arrTo_length, ← HF0.out]
      obtain ⟨Z, hZ⟩ : ∃ Z : List Int, Z = List.replicate (luts.length - (j + 1)) 0 := ⟨_, rfl⟩
      have hown := hh.out.2
      rw [← hP, show List.replicate (luts.length - j) (0 : Int) = 0 :: Z by rw [hZ, ← List.replicate_succ]; congr 1; omega] at hown
      have hPb := arrTo_bound ⟨ins, ha, hc, holds, some ⟨b, off, none⟩, lc, luts, oa, oc, outs⟩ cost HOk.out.each j
      rw [← hP] at hPb
      have HPb := Lib.hid hPb
      have HP := Lib.hid hP
      have HPl := Lib.hid hPl
      have HZ := Lib.hid hZ
      have hsc := HS.out.at j (by omega)
      obtain ⟨bc, oc', rfl, hbc, hcc⟩ := hsc
      have hcr : 0 ≤ cost.getD j 0 ∧ cost.getD j 0 ≤ 1048576 := HOk.out.each _ (getD_mem _ _ (by rw [HLen.out]; omega))
      have f00 := hcc j (by omega)
      unfold ints at f00
      obtain ⟨cx, hcx⟩ : ∃ x, x = cost.getD j 0 := ⟨_, rfl⟩
      rw [← hcx] at f00 hcr
      have HCX := Lib.hid hcx
      have HRng := Lib.hid hrng
      have HF00 := Lib.hid f00
      have HU := Lib.hid hU
      have hsw := hh.out.1.size
      have HOwn2 := Lib.hid hown
      clear hP hPb hPl hZ hU hcc hcx hrng hown f00
      have M2 := @run_max2 Try.prog
      obtain ⟨La, Lc, Li, Lt⟩ := L
      dsimp only at d0 d1 h20
      have hm := mostOf_le P Li (1048576 * j) (by omega) (fun x hx => (HPb.out x hx).2)
      have hm0 := mostOf_nonneg P Li
      have hwlt : w.heap.size < wr.heap.size := by omega
      have c0 := hh.out.1.c0
      have c1 := hh.out.1.c1
      have c2 := hh.out.1.c2
      have c3 := hh.out.1.c3
      dsimp only at c0 c1 c2 c3
      go_wp2_with fail
      refine (HC2.out _).mono ?_
      rintro e w5 ⟨rfl, hb5⟩
      obtain ⟨W2, hW2⟩ : ∃ W2, W2 = wr.alloc (Obj.cells #[Value.slice La Li.length Lc, Value.int IntKind.u64 Lt] 48) := ⟨_, rfl⟩
      rw [← hW2] at hb5
      have hs2 : W2.heap.size = wr.heap.size + 1 := by rw [hW2]; simp
      have hs5 := hb5.size
      have e0 : w5.cell? ⟨wr.heap.size, 0, none⟩ = some (.slice La Li.length Lc) := (hb5.cell (p := ⟨_, _, none⟩) (by simp; omega)).trans (by rw [hW2]; simp)
      have hbw : Below wr.heap.size wr w5 := ((Below.refl _ _).alloc (Nat.le_refl _) _).trans (by rw [← hW2]; exact hb5.mono (by omega))
      have HBx5 := Lib.hid (hh.out.1.step hbw hsw)
      have hg0 := HOwn2.out.lt g rfl
      have hown5 : w5.ownsRow (w.heap.size + 1) 3 1 (.slice (some ⟨g, 0, none⟩) (F0 + luts.length) (F0 + luts.length)) (F0 + luts.length) ((P ++ mostOf P (Li.take 0) :: Z).map (Value.int .i64)) :=
        HOwn2.out.kept (row := none) ⟨hbw.os, hbw.tape, hbw.output, hbw.size, fun k hk _ => hbw.block k hk⟩ (.inr (by simp [Value.ownBlock]))
      have HOwn5 := Lib.hid hown5
      have HBw := Lib.hid hbw
      clear hb5 hW2 hbw hown5 c0 c1 c2 c3 d0 d1
      go_wp2
      go_loopw [53] (fun q wq => ∃ r : Nat, r ≤ Li.length ∧ q = .int .i64 r ∧ Hid (w5.grownBy wq (some g) ∧ wq.ownsRow (w.heap.size + 1) 3 1 (.slice (some ⟨g, 0, none⟩) (F0 + luts.length) (F0 + luts.length)) (F0 + luts.length) ((P ++ mostOf P (Li.take r) :: Z).map (Value.int .i64)))) (fun q _ => Li.length - (intOf q).toNat)
      case atStart => exact ⟨0, by omega, rfl, World.grownBy.refl _ _, HOwn5.out⟩
      case round =>
        obtain ⟨r, hr, rfl, hq⟩ := hrel
        have hgq := hq.out.1
        obtain ⟨g', cap', hsl, _, hgs, _, hcell⟩ := owns_shape hq.out.2 (by omega)
        obtain ⟨rfl, rfl⟩ : g = g' ∧ F0 + luts.length = cap' := by simpa using hsl
        clear hsl
        by_cases hlr : r < Li.length
        · obtain ⟨b', off', hLa, hbb', hcl⟩ := HU.out.at r hlr
          try dsimp only at hLa
          subst hLa
          have g0 := hcl r hlr
          unfold ints at g0
          try dsimp only at g0
          have hx := HRng.out _ (getD_mem Li 0 hlr)
          have hfe := HFE.out
          try dsimp only at hx hfe
          obtain ⟨xn, hxn⟩ := Int.eq_ofNat_of_zero_le hx.1
          have HTk := Lib.hid (mostOf_take P Li r hlr)
          rw [hxn] at g0 hx HTk
          have hxlt : xn < F0 + j := by omega
          rw [Int.toNat_natCast] at HTk
          have g1 := hcell xn (by omega)
          rw [getD_left _ _ _ (by rw [HPl.out]; exact hxlt)] at g1
          have g2 := hcell (F0 + j) (by omega)
          rw [getD_mid _ _ _ _ (by rw [HPl.out])] at g2
          have g3 := hq.out.2.frozenAt (F0 + j)
          obtain ⟨y, hy⟩ : ∃ y, y = P.getD xn 0 := ⟨_, rfl⟩
          rw [← hy] at HTk g1
          obtain ⟨m, hmm⟩ : ∃ m, m = mostOf P (Li.take r) := ⟨_, rfl⟩
          rw [← hmm] at HTk g2
          have g0' := hgq.cell (HBw.out.cell (p := ⟨b', off' + r, none⟩) (by simp; omega) |>.trans ((hh.out.1.below.cell (p := ⟨b', off' + r, none⟩) hbb').trans g0)) (by simp; omega)
          have hPlen := HPl.out
          have hgne : b' ≠ g := by omega
          have hxi : (xn : Int) < (F0 + luts.length : Nat) := by omega
          clear hcell hxn hy hmm hcl hfe hx g0
          go_wp2_with fail
          go_region
          go_wp2
          go_roundw
          case rel =>
            have hst := own_store hq.out.2 (F0 + j) (.int .i64 (max m y))
            refine ⟨r + 1, by omega, by go_num, grownBy_trans (grownBy_trans hgq hst.2) (grownBy_drew _ _), ?_⟩
            have h4 := hst.1
            rw [set_mid _ _ _ _ _ (by rw [HPl.out])] at h4
            rw [HTk.out]
            exact h4
          case measure => simp [intOf]; omega
        · obtain rfl : r = Li.length := by omega
          rw [List.take_length] at hq
          have g2 := hcell (F0 + j) (by omega)
          rw [List.take_length, getD_mid _ _ _ _ (by rw [HPl.out])] at g2
          have g3 := hq.out.2.frozenAt (F0 + j)
          have f0 : wr.cell? ⟨bc, oc' + j, none⟩ = some (.int .i64 cx) := hgq.cell (HBw.out.cell (p := ⟨bc, oc' + j, none⟩) (by simp; omega) |>.trans ((hh.out.1.below.cell (p := ⟨bc, oc' + j, none⟩) hbc).trans HF00.out)) (by simp; omega)
          have hwr : IntKind.i64.wrap (mostOf P Li + cx) = mostOf P Li + cx := IntWalk.i64_in _ (by omega)
          have hji : (j : Int) < n := by omega
          clear hcell
          go_wp2_with fail
          go_region
          go_wp2
          go_roundw
          case rel =>
            have hst := own_store hq.out.2 (F0 + j) (.int .i64 (mostOf P Li + cx))
            have hb6 : Below (w.heap.size + 1) w5 (wr.setCell ⟨g, F0 + j, none⟩ (.int .i64 (mostOf P Li + cx))).drew :=
              grownBy_below (grownBy_trans (grownBy_trans hgq hst.2) (grownBy_drew _ _)) HBx5.out.size (by omega)
            refine ⟨j + 1, by omega, by go_num, HBx5.out.step hb6 (Nat.le_refl _), ?_⟩
            have h4 := hst.1
            rw [set_mid _ _ _ _ _ (by rw [HPl.out])] at h4
            rw [show arrTo ⟨ins, ha, hc, holds, some ⟨b, off, none⟩, lc, luts, oa, oc, outs⟩ cost (j + 1) = P ++ [cx + mostOf P Li] by
              simp only [arrTo]; rw [← HP.out, ← HCX.out, ← HL.out], ← HZ.out, List.append_assoc, Int.add_comm cx]
            exact h4
          case measure => simp [intOf]; omega
    · obtain rfl : j = luts.length := by omega
      go_wp2
      go_ret2
      refine ⟨_, rfl, ?_, hh.out.1.below⟩
      have h1 := hh.out.2
      have h2 : (arrTo ⟨ins, ha, hc, holds, la, lc, luts, oa, oc, outs⟩ cost luts.length).length = F0 + luts.length := by rw [arrTo_length, ← HF0.out]
      show World.ownsRow _ _ _ _ _ (arrTo ⟨ins, ha, hc, holds, la, lc, luts, oa, oc, outs⟩ cost luts.length).length _
      rw [h2]
      simpa [arrL] using h1.base_le (Nat.le_succ _)
end Go.Proofs.Ytkcilpkcjhnkaaa
