import Derived.Test.YtkcilpkcjhnkaaaP5
namespace Go.Proofs.Ytkcilpkcjhnkaaa
open Go.RowKit
set_option linter.unusedVariables false
set_option linter.unusedSimpArgs false

set_option maxRecDepth 100000 in
set_option maxHeartbeats 2000000 in
theorem delayStill (w : World) (N : NetV) (h : NetAt w N)
    (a1 : Option Addr) (n1 c1 : Nat) (inn : List Bool) (e1 : inn.length = n1) (g1 : n1 ≤ c1) (g1' : c1 ≤ 9223372036854775807) (S1 : Seq w a1 n1 (bools inn))
    (a2 : Option Addr) (n2 c2 : Nat) (st : List Bool) (e2 : st.length = n2) (g2 : n2 ≤ c2) (g2' : c2 ≤ 9223372036854775807) (S2 : Seq w a2 n2 (bools st)) :
    Calls Try.prog 11 #[N.val, .slice a1 n1 c1, .slice a2 n2 c2] w fun e w' => e = .returned (.bool true) ∧ Below w.heap.size w w' := by
  have HBX := Lib.hid (Box.start w N)
  have H := Lib.hid h
  have HS1 := Lib.hid S1
  have HS2 := Lib.hid S2
  have HE1 := Lib.hid e1
  have HE2 := Lib.hid e2
  clear h S1 S2 e1 e2
  obtain ⟨fb, hfb⟩ : ∃ b, b = fewB N := ⟨_, rfl⟩
  have HF := Lib.hid hfb
  clear hfb
  go_enter Try.func11, Try.ntmps11
  go_wp2_with fail
  refine (live _).mono ?_
  rintro e w1 ⟨rfl, hb1⟩
  have hbx := HBX.out.step hb1 (by simp)
  have HBx := Lib.hid hbx
  have k0 := hbx.c0
  have k1 := hbx.c1
  have k2 := hbx.c2
  have k3 := hbx.c3
  clear hbx hb1
  go_wp2_with fail
  have hC := fewNet w1 N (H.out.below HBx.out.below (Nat.le_refl _))
  rw [← HF.out] at hC
  refine hC.mono ?_
  rintro e w2 ⟨rfl, hb2⟩
  have hbx := HBx.out.step hb2 HBx.out.size
  have HBx2 := Lib.hid hbx
  have d0 := hbx.c0
  have d1 := hbx.c1
  have d2 := hbx.c2
  have d3 := hbx.c3
  clear hbx hb2 k0 k1 k2 k3 hC
  cases fb
  · go_wp2
    go_ret
    exact ⟨ret_bool (by simp), HBx2.out.below⟩
  · by_cases h1 : n1 ≤ 300
    · by_cases h2 : n2 ≤ 300
      · have F := few_of N HF.out.symm
        have HFw := Lib.hid F
        have C := fun W (hW : Below w.heap.size w W) => check W N (H.out.below hW (Nat.le_refl _)) F 6 (by omega)
        rcases chk_cases N 6 with ⟨hc, nok⟩ | ⟨hc, nok⟩
        · rw [hc] at C
          have HC := Lib.hid C
          have HNok := Lib.hid nok
          clear C F hc nok
          go_wp2_with fail
          refine (HC.out _ HBx2.out.below).mono ?_
          rintro e w3 ⟨rfl, hb3⟩
          have hbx := HBx2.out.step hb3 HBx2.out.size
          have HBx3 := Lib.hid hbx
          have k0 := hbx.c0
          have k1 := hbx.c1
          have k2 := hbx.c2
          have k3 := hbx.c3
          clear hbx hb3 d0 d1 d2 d3
          go_wp2_with fail
          have hC := nodes w3 N (H.out.below HBx3.out.below (Nat.le_refl _)) HFw.out a1 a2 c1 c2 inn st (by rw [HE1.out]; exact HS1.out.below HBx3.out.below (Nat.le_refl _)) (by rw [HE2.out]; exact HS2.out.below HBx3.out.below (Nat.le_refl _)) (by rw [HE1.out]; exact h1) (by rw [HE2.out]; exact h2)
          rw [HE1.out, HE2.out] at hC
          by_cases ok : NodesOk N inn.length st.length
          · obtain ⟨hw, hO, hS, hE⟩ := still ok
            rw [nodesE, if_pos ok] at hC
            have hl : (nodesO N inn st).length ≤ 401 := by
              rw [nodesO, if_pos ok, valTo_length, v0Of_length ok.net.ins0 ok.inn ok.st, firstN]
              have := HFw.out.ins
              have := HFw.out.holds
              have := HFw.out.luts
              omega
            obtain ⟨A, hA⟩ : ∃ A, A = nodesO N inn st := ⟨_, rfl⟩
            rw [← hA] at hC hw hO hS hE hl
            have HW := Lib.hid hw
            have HO := Lib.hid hO
            have HS := Lib.hid hS
            have HE := Lib.hid hE
            clear hw hO hS hE hA ok
            refine hC.mono ?_
            rintro e w4 ⟨v, rfl, hown, hb4⟩
            obtain ⟨va, vc, rfl, hVS, hvc, hvm⟩ := ownb_seq hown
            have hbx := HBx3.out.step hb4 HBx3.out.size
            have HBx4 := Lib.hid hbx
            have e0 := hbx.c0
            have e1 := hbx.c1
            have e2 := hbx.c2
            have e3 := hbx.c3
            have HVS := Lib.hid hVS
            clear hbx hb4 hC hown hVS k0 k1 k2 k3
            go_wp2_with fail
            have hC := wait w4 N (H.out.below HBx4.out.below (Nat.le_refl _)) HFw.out va a1 a2 vc c1 c2 A inn st HVS.out (by rw [HE1.out]; exact HS1.out.below HBx4.out.below (Nat.le_refl _)) (by rw [HE2.out]; exact HS2.out.below HBx4.out.below (Nat.le_refl _)) (by omega) (by rw [HE1.out]; exact h1) (by rw [HE2.out]; exact h2) hvc (by unfold maxLen at hvm; omega)
            rw [HO.out, HS.out, HE.out, HE1.out, HE2.out] at hC
            refine hC.mono ?_
            rintro e w5 ⟨v, rfl, hown, hb5⟩
            obtain ⟨ua, uc, rfl, hUS, _, _⟩ := ownb_seq hown
            have HBx5 := Lib.hid (HBx4.out.step hb5 HBx4.out.size)
            have HVS5 := Lib.hid (HVS.out.below hb5 (Nat.le_refl _))
            have HUS := Lib.hid hUS
            clear hb5 hC hown hUS e0 e1 e2 e3
            simp only [Int.natCast_zero]
            go_wp2_with fail
            have hC := sameBools w5 va ua A.length vc A.length uc A A rfl rfl (by omega) (by omega) HVS5.out HUS.out
            rw [decide_eq_true (rfl : A = A)] at hC
            refine hC.mono ?_
            rintro e w6 ⟨rfl, hb6⟩
            have HB6 := Lib.hid (HBx5.out.below.trans (hb6.mono (by have := HBx5.out.size; omega)))
            clear hb6 hC
            go_wp2
            go_ret
            exact ⟨ret_bool (by simp), HB6.out⟩
          · rw [nodesE, if_neg ok, nodesO, if_neg ok] at hC
            clear ok
            refine hC.mono ?_
            rintro e w4 ⟨v, rfl, hown, hb4⟩
            have HB4 := Lib.hid (HBx3.out.step hb4 HBx3.out.size)
            clear hown hC hb4
            go_wp2
            go_ret
            exact ⟨ret_bool (by simp), HB4.out.below⟩
        · rw [hc] at C
          have HC := Lib.hid C
          clear C F hc nok
          go_wp2_with fail
          refine (HC.out _ HBx2.out.below).mono ?_
          rintro e w3 ⟨rfl, hb3⟩
          have HB3 := Lib.hid (HBx2.out.step hb3 HBx2.out.size)
          clear hb3
          go_wp2
          go_ret
          exact ⟨ret_bool (by simp), HB3.out.below⟩
      · go_wp2
        go_ret
        exact ⟨ret_bool (by simp), HBx2.out.below⟩
    · go_wp2
      go_ret
      exact ⟨ret_bool (by simp), HBx2.out.below⟩
end Go.Proofs.Ytkcilpkcjhnkaaa
