import Derived.Test.YtkcilpkcjhnkaaaP5
namespace Go.Proofs.Ytkcilpkcjhnkaaa
open Go.RowKit
set_option linter.unusedVariables false
set_option linter.unusedSimpArgs false

theorem lastOf_small (N : NetV) (ok : CostOk N (unitsOf N)) (f : Few N) (j : Nat) : lastOf ((arrO N (unitsOf N)).take j) ≤ 1048576 * 200 := by
  refine lastOf_le _ _ (by omega) fun x hx => ?_
  rw [arrO, if_pos ok, arrL] at hx
  have := arrTo_bound N (unitsOf N) ok.each N.luts.length x (List.mem_of_mem_take hx)
  have := f.luts
  omega

set_option maxRecDepth 100000 in
set_option maxHeartbeats 4000000 in
theorem delayRests (w : World) (N : NetV) (h : NetAt w N) (a0 : Option Addr) (n0 c0 : Nat) (was : List Bool) (e0 : was.length = n0) (hc0 : n0 ≤ c0) (hc1 : c0 ≤ 9223372036854775807) (S0 : Seq w a0 n0 (bools was))
    (a1 : Option Addr) (n1 c1 : Nat) (inn : List Bool) (e1 : inn.length = n1) (g1 : n1 ≤ c1) (g1' : c1 ≤ 9223372036854775807) (S1 : Seq w a1 n1 (bools inn))
    (a2 : Option Addr) (n2 c2 : Nat) (st : List Bool) (e2 : st.length = n2) (g2 : n2 ≤ c2) (g2' : c2 ≤ 9223372036854775807) (S2 : Seq w a2 n2 (bools st)) :
    Calls Try.prog 10 #[N.val, .slice a0 n0 c0, .slice a1 n1 c1, .slice a2 n2 c2] w fun e w' => e = .returned (.bool true) ∧ Below w.heap.size w w' := by
  have HBX := Lib.hid (Box.start w N)
  have H := Lib.hid h
  have HS0 := Lib.hid S0
  have HS1 := Lib.hid S1
  have HS2 := Lib.hid S2
  have HE0 := Lib.hid e0
  have HE1 := Lib.hid e1
  have HE2 := Lib.hid e2
  clear h S0 S1 S2 e0 e1 e2
  obtain ⟨fb, hfb⟩ : ∃ b, b = fewB N := ⟨_, rfl⟩
  have HF := Lib.hid hfb
  clear hfb
  go_enter Try.func10, Try.ntmps10
  go_wp2_with fail
  refine (live _).mono ?_
  rintro e w1 ⟨rfl, hb1⟩
  have hbx := HBX.out.step hb1 (by simp)
  have HBx := Lib.hid hbx
  have k0 := hbx.c0
  have k1 := hbx.c1
  have k2 := hbx.c2
  have k3 := hbx.c3
  clear hbx hb1
  go_wp2_with fail
  have hC := fewNet w1 N (H.out.below HBx.out.below (Nat.le_refl _))
  rw [← HF.out] at hC
  refine hC.mono ?_
  rintro e w2 ⟨rfl, hb2⟩
  have hbx := HBx.out.step hb2 HBx.out.size
  have HBx2 := Lib.hid hbx
  have d0 := hbx.c0
  have d1 := hbx.c1
  have d2 := hbx.c2
  have d3 := hbx.c3
  clear hbx hb2 k0 k1 k2 k3 hC
  cases fb
  · go_wp2
    go_ret
    exact ⟨ret_bool (by simp), HBx2.out.below⟩
  · by_cases hall : n0 ≤ 500 ∧ n1 ≤ 300 ∧ n2 ≤ 300
    · obtain ⟨b0, b1, b2⟩ := hall
      have F := few_of N HF.out.symm
      have HFw := Lib.hid F
      have hAl := waitO_length N was inn st F
      have hl2 := F.luts
      have hUl := arrO_length N (unitsOf N) F
      go_wp2_with fail
      have hC := wait w2 N (H.out.below HBx2.out.below (Nat.le_refl _)) F a0 a1 a2 c0 c1 c2 was inn st (by rw [HE0.out]; exact HS0.out.below HBx2.out.below (Nat.le_refl _)) (by rw [HE1.out]; exact HS1.out.below HBx2.out.below (Nat.le_refl _)) (by rw [HE2.out]; exact HS2.out.below HBx2.out.below (Nat.le_refl _)) (by rw [HE0.out]; exact b0) (by rw [HE1.out]; exact b1) (by rw [HE2.out]; exact b2) (by rw [HE0.out]; exact hc0) hc1
      by_cases ok : WaitOk N was.length inn.length st.length
      · have hfin := wait_fin ok
        have hlast := wait_last ok
        have hsm := lastOf_small N ok.units F
        have hCost : arrE N (unitsOf N) = 0 := by rw [arrE, if_pos ok.units]
        have hNE : nodesE N inn st = 0 := by rw [nodesE, if_pos ok.nodes]
        have hWE : waitE N was inn st = 0 := by rw [waitE, if_pos ok]
        rw [HE0.out, HE1.out, HE2.out, hWE] at hC
        obtain ⟨A, hA⟩ : ∃ A, A = waitO N was inn st := ⟨_, rfl⟩
        rw [← hA] at hC hAl hfin
        obtain ⟨T, hT⟩ : ∃ T, T = waitS N was inn st := ⟨_, rfl⟩
        rw [← hT] at hC hlast
        obtain ⟨U, hU⟩ : ∃ U, U = arrO N (unitsOf N) := ⟨_, rfl⟩
        rw [← hU] at hlast hsm hUl
        have HU := Lib.hid hU
        have HFin := Lib.hid hfin
        have HSm := Lib.hid hsm
        have HCost := Lib.hid hCost
        have HNE := Lib.hid hNE
        clear F hA hT hfin hsm hCost hNE ok hWE hU
        refine hC.mono ?_
        rintro e w3 ⟨v, rfl, hown, hb3⟩
        obtain ⟨va, vc, rfl, hVS, _, _⟩ := ownb_seq hown
        have hbx := HBx2.out.step hb3 HBx2.out.size
        have HBx3 := Lib.hid hbx
        have k0 := hbx.c0
        have k1 := hbx.c1
        have k2 := hbx.c2
        have k3 := hbx.c3
        have HVS := Lib.hid hVS
        clear hbx hb3 hC hown hVS d0 d1 d2 d3
        go_wp2_with fail
        have hC := nodes w3 N (H.out.below HBx3.out.below (Nat.le_refl _)) HFw.out a1 a2 c1 c2 inn st (by rw [HE1.out]; exact HS1.out.below HBx3.out.below (Nat.le_refl _)) (by rw [HE2.out]; exact HS2.out.below HBx3.out.below (Nat.le_refl _)) (by rw [HE1.out]; exact b1) (by rw [HE2.out]; exact b2)
        rw [HE1.out, HE2.out, HNE.out, ← HFin.out] at hC
        refine hC.mono ?_
        rintro e w4 ⟨v, rfl, hown, hb4⟩
        obtain ⟨ra, rc, rfl, hRS, _, _⟩ := ownb_seq hown
        have hbx := HBx3.out.step hb4 HBx3.out.size
        have HBx4 := Lib.hid hbx
        have d0 := hbx.c0
        have d1 := hbx.c1
        have d2 := hbx.c2
        have d3 := hbx.c3
        have hs4 := hbx.size
        have HRS := Lib.hid hRS
        have HVS4 := Lib.hid (HVS.out.below hb4 (Nat.le_refl _))
        clear hbx hb4 hC hown hRS k0 k1 k2 k3
        go_wp2_with fail
        go_region_held3 (fun w' => w'.cell? ⟨w.heap.size, 0, none⟩ = some (.int .i64 N.ins) ∧ w'.cell? ⟨w.heap.size, 1, none⟩ = some (Value.slice N.ha N.holds.length N.hc) ∧ w'.cell? ⟨w.heap.size, 2, none⟩ = some (Value.slice N.la N.luts.length N.lc) ∧ w'.cell? ⟨w.heap.size, 3, none⟩ = some (Value.slice N.oa N.outs.length N.oc))
          (first | exact ⟨d0, d1, d2, d3⟩ | exact ⟨(hk6 _).trans d0, (hk6 _).trans d1, (hk6 _).trans d2, (hk6 _).trans d3⟩ | exact ⟨(hk5 _).trans d0, (hk5 _).trans d1, (hk5 _).trans d2, (hk5 _).trans d3⟩)
          (first | (go_at_call 19; refine (units _ N hl2).mono ?_; rintro e w5 ⟨v5, rfl, hown5, hb5⟩; obtain ⟨ua, uc, rfl, hUq, _, _⟩ := owns_seq hown5; rw [List.length_replicate] at hUq ⊢; have hs5 : w4.heap.size ≤ w5.heap.size := hb5.size; have hk5 : ∀ i, w5.cell? ⟨w.heap.size, i, none⟩ = w4.cell? ⟨w.heap.size, i, none⟩ := (fun i => hb5.cell (p := ⟨w.heap.size, i, none⟩) (by show w.heap.size < w4.heap.size; omega)); have hb45 : Below w4.heap.size w4 w5 := (Below.refl _ _).drew.trans hb5; have hbx5 := HBx4.out.step (C := w4.heap.size) hb45 hs4)
                 | (go_at_call 15; refine (arrive _ N (H.out.below hbx5.below (Nat.le_refl _)) HFw.out ua N.luts.length uc (List.replicate N.luts.length 1) (List.length_replicate ..) (by omega) hUq).mono ?_; rintro e w6 ⟨v6, rfl, hown6, hb6⟩; obtain ⟨ta, tc, rfl, hT, _, _⟩ := owns_seq hown6; have hk6 : ∀ i, w6.cell? ⟨w.heap.size, i, none⟩ = w4.cell? ⟨w.heap.size, i, none⟩ := (fun i => (hb6.cell (p := ⟨w.heap.size, i, none⟩) (by show w.heap.size < w5.heap.size; omega)).trans (hk5 i))))
        have hb46 : Below w4.heap.size w4 w6 := hb45.trans (hb6.mono hs5)
        have HBx6 := Lib.hid (HBx4.out.step (C := w4.heap.size) hb46 hs4)
        rw [show arrE N (List.replicate N.luts.length 1) = 0 from HCost.out, show arrO N (List.replicate N.luts.length 1) = U from HU.out.symm] at *
        have HTS := Lib.hid hT
        have HVS6 := Lib.hid (HVS4.out.below hb46 (Nat.le_refl _))
        have HRS6 := Lib.hid (HRS.out.below hb46 (Nat.le_refl _))
        clear hb5 hb6 hown5 hown6 hUq hT hk5 hk6 hbx5 hb45 hb46 d0 d1 d2 d3 hs4 hs5
        have M2 := @run_max2 Try.prog
        go_wp2
        go_loop [16, 73] (fun m k => ∃ j : Nat, j ≤ U.length ∧ k = .int .i64 j ∧ m = .int .i64 (lastOf (U.take j))) (fun _ k => U.length - (intOf k).toNat)
        case atStart => exact ⟨0, by omega, rfl, rfl⟩
        case round =>
          obtain ⟨j, hj, rfl, rfl⟩ := hrel
          have hs1 := HSm.out j
          have hs0 := lastOf_nonneg (U.take j)
          by_cases hlt : j < U.length
          · obtain ⟨b', off', rfl, hbb', hcl⟩ := HTS.out.at j hlt
            have y0 := hcl j hlt
            unfold ints at y0
            have hst := lastOf_take U j hlt
            obtain ⟨x, hx⟩ : ∃ x, x = U.getD j 0 := ⟨_, rfl⟩
            rw [← hx] at y0 hst
            obtain ⟨m, hm⟩ : ∃ m, m = lastOf (U.take j) := ⟨_, rfl⟩
            rw [← hm] at hst hs1 hs0 ⊢
            have HSt := Lib.hid hst
            clear hcl hst hx hm
            go_wp2
            go_round
            case rel => exact ⟨j + 1, by omega, by go_num, by rw [HSt.out]⟩
            case measure => simp [intOf]; omega
          · obtain rfl : j = U.length := by omega
            rw [List.take_length] at *
            obtain ⟨m, hm⟩ : ∃ m, m = lastOf U := ⟨_, rfl⟩
            rw [← hm] at hlast hs1 hs0 ⊢
            clear hm
            have hC := sameBools w6 va ra A.length vc A.length rc A A rfl rfl (by omega) (by omega) HVS6.out HRS6.out
            rw [decide_eq_true (rfl : A = A)] at hC
            have HC := Lib.hid hC
            clear hC
            go_wp2_with fail
            refine HC.out.mono ?_
            rintro e w7 ⟨rfl, hb7⟩
            have HB7 := Lib.hid (HBx6.out.below.trans (hb7.mono (by have := HBx6.out.size; omega)))
            clear hb7
            go_wp2
            go_ret
            exact ⟨ret_bool (by simp), HB7.out⟩
      · rw [waitO, if_neg ok, waitS, if_neg ok, waitE, if_neg ok, HE0.out, HE1.out, HE2.out] at hC
        clear ok F hAl
        refine hC.mono ?_
        rintro e w3 ⟨v, rfl, hown, hb3⟩
        have HB3 := Lib.hid (HBx2.out.step hb3 HBx2.out.size)
        obtain ⟨va, vc, rfl, hVS, _, _⟩ := ownb_seq (l := []) hown
        clear hown hC hb3 hVS
        go_wp2
        go_ret
        exact ⟨ret_bool (by simp), HB3.out.below⟩
    · by_cases h0 : n0 ≤ 500
      · by_cases h1 : n1 ≤ 300
        · have h2 : ¬ n2 ≤ 300 := fun h => hall ⟨h0, h1, h⟩
          clear hall
          go_wp2
          go_ret
          exact ⟨ret_bool (by simp), HBx2.out.below⟩
        · clear hall
          go_wp2
          go_ret
          exact ⟨ret_bool (by simp), HBx2.out.below⟩
      · clear hall
        go_wp2
        go_ret
        exact ⟨ret_bool (by simp), HBx2.out.below⟩
end Go.Proofs.Ytkcilpkcjhnkaaa
