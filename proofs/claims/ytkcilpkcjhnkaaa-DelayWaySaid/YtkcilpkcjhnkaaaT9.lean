import Derived.Test.YtkcilpkcjhnkaaaT8
import Derived.Test.YtkcilpkcjhnkaaaP2
namespace Go.Proofs.Ytkcilpkcjhnkaaa
open Go.RowKit

theorem info3 : (Try.prog.info? 3).map (fun i => (i.zero, i.size, i.bytes)) = some (some (.int .i64 0), 1, 8) := by kernel_rfl

/-- A new list of numbers, and an error's number. -/
def NewInts (w : World) (l : List Int) (c : Int) (e : Ending) (w' : World) : Prop :=
  ∃ v, e = .returned (.tuple #[v, .int .i64 c]) ∧ w'.ownsRow w.heap.size 3 1 v l.length (l.map (Value.int .i64)) ∧ Below w.heap.size w w'

theorem firstN_eq {N : NetV} (h : 0 ≤ N.ins) : ((firstN N : Nat) : Int) = 1 + N.ins + N.holds.length := by unfold firstN; omega

theorem arriveR_bad (w : World) (N : NetV) (h : NetAt w N) (f : Few N) (a : Option Addr) (n c : Nat) (cost : List Int) (hlen : cost.length = n) (hn : n ≤ 300) (S : Seq w a n (ints cost)) (ok : ¬ CostOk N cost) :
    Calls Try.prog 16 #[N.val, .slice a n c] w (NewInts w [] 1) := by
  have HBX := Lib.hid (Box.start w N)
  have C := may (w.alloc N.obj) N (h.below HBX.out.below (Nat.le_refl _)) f a n c cost hlen hn (S.below HBX.out.below (Nat.le_refl _))
  rw [mayB_false _ _ ok] at C
  have HC := Lib.hid C
  clear C S hlen h f ok
  go_enter Try.func16, Try.ntmps16
  go_wp2_with fail
  refine HC.out.mono ?_
  rintro e w1 ⟨rfl, hb1⟩
  go_wp2
  go_ret2
  exact ⟨_, rfl, World.ownsRow_nil _ _ _ _, HBX.out.below.trans (hb1.mono (by simp))⟩

set_option maxHeartbeats 1000000 in
theorem arriveR_ok (w : World) (N : NetV) (h : NetAt w N) (f : Few N) (a : Option Addr) (n c : Nat) (cost : List Int) (hlen : cost.length = n) (hn : n ≤ 300) (S : Seq w a n (ints cost)) (ok : CostOk N cost) :
    Calls Try.prog 16 #[N.val, .slice a n c] w (NewInts w (arrL N cost) 0) := by
  have HBX := Lib.hid (Box.start w N)
  have C := may (w.alloc N.obj) N (h.below HBX.out.below (Nat.le_refl _)) f a n c cost hlen hn (S.below HBX.out.below (Nat.le_refl _))
  rw [(mayB_iff _ _).2 ok] at C
  have hf0 := f.ins
  have hf1 := f.holds
  have hf2 := f.luts
  have hi0 := ok.net.ins0
  have C2 := fun W => firstR W N h.insR hf0 hf1
  rw [← firstN_eq hi0] at C2
  have hfl : firstN N ≤ 201 := by unfold firstN; omega
  have hfl0 : 0 < firstN N := by unfold firstN; omega
  have hfe := firstN_eq hi0
  obtain ⟨F0, hF0⟩ : ∃ F0, F0 = firstN N := ⟨_, rfl⟩
  rw [← hF0] at C2 hfl hfl0 hfe
  have HFE := Lib.hid hfe
  have HF0 := Lib.hid hF0
  clear hfe hF0
  have HC2 := Lib.hid C2
  have HC := Lib.hid C
  have HS := Lib.hid S
  have HLen := Lib.hid hlen
  have H := Lib.hid h
  have F := Lib.hid f
  have HOk := Lib.hid ok
  have hnl : n = N.luts.length := by rw [← hlen, ok.len]
  have HN := Lib.hid hnl
  have hn' : N.luts.length ≤ n := by omega
  clear C C2 S hlen h f ok hnl
  obtain ⟨i0, hi, hz0, hz1, hz2⟩ := info_parts info3
  obtain ⟨ins, ha, hc, holds, la, lc, luts, oa, oc, outs⟩ := N
  dsimp only at hf0 hf1 hf2 hi0 hn' HN ⊢
  go_enter Try.func16, Try.ntmps16
  go_wp2_with fail
  refine HC.out.mono ?_
  rintro e w1 ⟨rfl, hb1⟩
  have hbx := HBX.out.step hb1 (by simp)
  have HBx := Lib.hid hbx
  have c0 := hbx.c0
  have c1 := hbx.c1
  have c2 := hbx.c2
  have c3 := hbx.c3
  clear hbx
  dsimp only at c0 c1 c2 c3
  go_wp2_with fail
  refine (HC2.out _).mono ?_
  rintro e w2 ⟨rfl, hb2⟩
  have HBx2 := Lib.hid (HBx.out.step hb2 HBx.out.size)
  have d2 := HBx2.out.c2
  have hs2 := HBx2.out.size
  dsimp only at d2
  clear c0 c1 c2 c3 hb1 hb2
  go_wp2_with (at_make; refine wpList_make_full _ rfl (.tmp 17) (.tmp 17) 24 rfl (w.heap.size + 1) 3 i0 (.int .i64 0) 1 Try.underlying24 hi hz0 hz1 .i64 .i64 _ _ _ rfl rfl rfl rfl (by rw [hz2]; omega) (by unfold maxLen; omega) (by omega) ?_)
  intro w3 hown hgrow
  have HBx3 := Lib.hid (HBx2.out.step (C := w.heap.size + 1) ((Below.refl _ _).grown hgrow hs2 (fun k e => by cases e)) (Nat.le_refl _))
  have e2 := HBx3.out.c2
  dsimp only at e2
  have hs3 := HBx3.out.size
  have HOwn := Lib.hid hown
  clear hown hgrow d2 hs2
  go_wp2
  go_loopw [6, 22] (fun v i wr => ∃ j : Nat, j ≤ luts.length ∧ i = .int .i64 j ∧ Hid (Box w.heap.size w ⟨ins, ha, hc, holds, la, lc, luts, oa, oc, outs⟩ wr ∧ wr.ownsRow (w.heap.size + 1) 3 1 v (F0 + j) ((arrTo ⟨ins, ha, hc, holds, la, lc, luts, oa, oc, outs⟩ cost j).map (Value.int .i64)))) (fun _ i _ => luts.length - (intOf i).toNat)
  case atStart =>
    refine ⟨0, by omega, rfl, HBx3.out, ?_⟩
    have := HOwn.out
    rw [Nat.add_zero]
    simpa [arrTo, toList_madeCells_one, ← HF0.out] using this
  case round =>
    obtain ⟨j, hj, rfl, hh⟩ := hrel
    by_cases hlt : j < luts.length
    · obtain ⟨b, off, rfl, hbb, d0, d1⟩ := (H.out.below hh.out.1.below (Nat.le_refl _)).lut j hlt
      have hU := (H.out.lutAt j hlt).1
      have hrng := (HOk.out.net.lut j hlt).ins
      have h20 := F.out.lut _ (getD_mem luts default hlt)
      obtain ⟨L, hLe⟩ : ∃ L, L = luts.getD j default := ⟨_, rfl⟩
      dsimp only at d0 d1 hU hrng
      rw [← hLe] at d0 d1 hU hrng h20
      have HL := Lib.hid hLe
      clear hLe
      obtain ⟨P, hP⟩ : ∃ P, P = arrTo ⟨ins, ha, hc, holds, some ⟨b, off, none⟩, lc, luts, oa, oc, outs⟩ cost j := ⟨_, rfl⟩
      have hown := hh.out.2
      rw [← hP] at hown
      have hPb := arrTo_bound ⟨ins, ha, hc, holds, some ⟨b, off, none⟩, lc, luts, oa, oc, outs⟩ cost HOk.out.each j
      rw [← hP] at hPb
      obtain ⟨g, cap, rfl, hgB, hgs, hgc, hcell⟩ := owns_shape hown (by omega)
      have HPb := Lib.hid hPb
      have HP := Lib.hid hP
      have HSL := Lib.hid (hU.below hh.out.1.below (Nat.le_refl _))
      have hsc := (HS.out.below hh.out.1.below (Nat.le_refl _)).at j (by omega)
      obtain ⟨bc, oc', rfl, hbc, hcc⟩ := hsc
      have f0 := hcc j (by omega)
      unfold ints at f0
      have hcr : 0 ≤ cost.getD j 0 ∧ cost.getD j 0 ≤ 1048576 := HOk.out.each _ (getD_mem _ _ (by rw [HLen.out]; omega))
      obtain ⟨cx, hcx⟩ : ∃ x, x = cost.getD j 0 := ⟨_, rfl⟩
      rw [← hcx] at f0 hcr
      have HCX := Lib.hid hcx
      have HRng := Lib.hid hrng
      have HCell := Lib.hid hcell
      have hsw := hh.out.1.size
      have HOwn2 := Lib.hid hown
      clear hP hPb hU hcc hcx hrng hcell hown
      have M2 := @run_max2 Try.prog
      obtain ⟨La, Lc, Li, Lt⟩ := L
      dsimp only at d0 d1 h20
      have hm := mostOf_le P Li (1048576 * j) (by omega) (fun x hx => (HPb.out x hx).2)
      have hm0 := mostOf_nonneg P Li
      go_wp2
      go_loop [9, 30] (fun m q => ∃ r : Nat, r ≤ Li.length ∧ q = .int .i64 r ∧ m = .int .i64 (mostOf P (Li.take r))) (fun _ q => Li.length - (intOf q).toNat)
      case atStart => exact ⟨0, by omega, rfl, rfl⟩
      case round =>
        obtain ⟨r, hr, rfl, rfl⟩ := hrel
        by_cases hlr : r < Li.length
        · obtain ⟨b', off', hLa, hbb', hcl⟩ := HSL.out.at r hlr
          try dsimp only at hLa
          subst hLa
          have g0 := hcl r hlr
          unfold ints at g0
          try dsimp only at g0
          have hx := HRng.out _ (getD_mem Li 0 hlr)
          have hfe := HFE.out
          try dsimp only at hx hfe
          obtain ⟨xn, hxn⟩ := Int.eq_ofNat_of_zero_le hx.1
          have HTk := Lib.hid (mostOf_take P Li r hlr)
          rw [hxn] at g0 hx HTk
          have hxlt : xn < F0 + j := by omega
          have g1 := HCell.out xn hxlt
          have hxi : (xn : Int) < (F0 + j : Nat) := by omega
          rw [Int.toNat_natCast] at HTk
          obtain ⟨y, hy⟩ : ∃ y, y = P.getD xn 0 := ⟨_, rfl⟩
          rw [← hy] at HTk g1
          clear hy hxn hcl hfe hx
          go_wp2
          go_round
          case rel => exact ⟨r + 1, by omega, by go_num, by rw [HTk.out]⟩
          case measure => simp [intOf]; omega
        · obtain rfl : r = Li.length := by omega
          rw [List.take_length]
          go_wp2_with (at_builtin; refine wpList_append_own _ rfl (.tmp 41) (.tmp 48) 24 rfl (w.heap.size + 1) 3 i0 (.int .i64 0) 1 8 Try.underlying24 hi hz0 hz1 hz2 rfl (by decide) _ _ _ rfl ((HOwn2.out.alloc _).alloc _) ⟨wr.heap.size + 1, 0, none⟩ 1 1 [.int .i64 (cx + mostOf P Li)] rfl rfl ?c1 ?c2 ?c3 ?c4 ?c5 ?_)
          case c2 => rfl
          case c3 => unfold maxLen; omega
          case c4 => omega
          case c5 => omega
          intro v' w4 hown4 hgrow4 _
          have HB4 : Below (w.heap.size + 1) wr w4 := (((Below.refl _ _).alloc hsw _).alloc (by simp; omega) _).grown hgrow4 (by simp; omega) (fun k e => by cases e; exact hgB)
          have HBx4 := Lib.hid (hh.out.1.step HB4 (Nat.le_refl _))
          have HOwn4 := Lib.hid hown4
          clear hown4 hgrow4 HB4
          go_wp2
          go_roundw
          case rel =>
            refine ⟨j + 1, by omega, by go_num, HBx4.out, ?_⟩
            have := HOwn4.out
            rw [show arrTo ⟨ins, ha, hc, holds, some ⟨b, off, none⟩, lc, luts, oa, oc, outs⟩ cost (j + 1) = P ++ [cx + mostOf P Li] by
              simp only [arrTo]; rw [← HP.out, ← HCX.out, ← HL.out]]
            simpa [Nat.add_assoc] using this
          case measure => simp [intOf]; omega
    · obtain rfl : j = luts.length := by omega
      go_wp2
      go_ret2
      refine ⟨_, rfl, ?_, hh.out.1.below⟩
      have h1 := hh.out.2
      have h2 : (arrTo ⟨ins, ha, hc, holds, la, lc, luts, oa, oc, outs⟩ cost luts.length).length = F0 + luts.length := by rw [arrTo_length, ← HF0.out]
      show World.ownsRow _ _ _ _ _ (arrTo ⟨ins, ha, hc, holds, la, lc, luts, oa, oc, outs⟩ cost luts.length).length _
      rw [h2]
      exact h1.base_le (Nat.le_succ _)
end Go.Proofs.Ytkcilpkcjhnkaaa
