import Derived.Test.YtkcilpkcjhnkaaaT25
import Derived.Test.YtkcilpkcjhnkaaaL1
namespace Go.Proofs.Ytkcilpkcjhnkaaa
open Go.RowKit
set_option linter.unusedVariables false

set_option maxHeartbeats 1000000 in
theorem delayWaits (w : World) (N : NetV) (h : NetAt w N) (a0 : Option Addr) (n0 c0 : Nat) (was : List Bool) (e0 : was.length = n0) (hc0 : n0 ≤ c0) (hc1 : c0 ≤ 9223372036854775807) (S0 : Seq w a0 n0 (bools was))
    (a1 : Option Addr) (n1 c1 : Nat) (inn : List Bool) (e1 : inn.length = n1) (d1 : n1 ≤ c1) (g1 : c1 ≤ 9223372036854775807) (S1 : Seq w a1 n1 (bools inn))
    (a2 : Option Addr) (n2 c2 : Nat) (st : List Bool) (e2 : st.length = n2) (d2 : n2 ≤ c2) (g2 : c2 ≤ 9223372036854775807) (S2 : Seq w a2 n2 (bools st)) :
    Calls Try.prog 7 #[N.val, .slice a0 n0 c0, .slice a1 n1 c1, .slice a2 n2 c2] w fun e w' => e = .returned (.bool true) ∧ Below w.heap.size w w' := by
  have HBX := Lib.hid (Box.start w N)
  have H := Lib.hid h
  have HS0 := Lib.hid S0
  have HS1 := Lib.hid S1
  have HS2 := Lib.hid S2
  have HE0 := Lib.hid e0
  have HE1 := Lib.hid e1
  have HE2 := Lib.hid e2
  clear h S0 S1 S2 e0 e1 e2
  obtain ⟨fb, hfb⟩ : ∃ b, b = fewB N := ⟨_, rfl⟩
  have HF := Lib.hid hfb
  clear hfb
  go_enter Try.func7, Try.ntmps7
  go_wp2_with fail
  refine (live _).mono ?_
  rintro e w1 ⟨rfl, hb1⟩
  have hbx := HBX.out.step hb1 (by simp)
  have HBx := Lib.hid hbx
  have k0 := hbx.c0
  have k1 := hbx.c1
  have k2 := hbx.c2
  have k3 := hbx.c3
  clear hbx hb1
  go_wp2_with fail
  have hC := fewNet w1 N (H.out.below HBx.out.below (Nat.le_refl _))
  rw [← HF.out] at hC
  refine hC.mono ?_
  rintro e w2 ⟨rfl, hb2⟩
  have hbx := HBx.out.step hb2 HBx.out.size
  have HBx2 := Lib.hid hbx
  have d0 := hbx.c0
  have d1 := hbx.c1
  have d2 := hbx.c2
  have d3 := hbx.c3
  clear hbx hb2 k0 k1 k2 k3 hC
  cases fb
  · go_wp2
    go_ret
    exact ⟨ret_bool (by simp), HBx2.out.below⟩
  · by_cases hall : n0 ≤ 500 ∧ n1 ≤ 300 ∧ n2 ≤ 300
    · obtain ⟨b0, b1, b2⟩ := hall
      have F := few_of N HF.out.symm
      have hAl := waitO_length N was inn st F
      obtain ⟨A, hA⟩ : ∃ A, A = waitO N was inn st := ⟨_, rfl⟩
      obtain ⟨T, hT⟩ : ∃ T, T = (waitS N was inn st : Int) := ⟨_, rfl⟩
      obtain ⟨E, hE⟩ : ∃ E, E = waitE N was inn st := ⟨_, rfl⟩
      have HF := Lib.hid F
      rw [← hA] at hAl
      have HA := Lib.hid hA
      have HT := Lib.hid hT
      have HE := Lib.hid hE
      have HAl := Lib.hid hAl
      clear F hA hE hT hAl
      go_wp2_with fail
      have hC := wait w2 N (H.out.below HBx2.out.below (Nat.le_refl _)) HF.out a0 a1 a2 c0 c1 c2 was inn st (by rw [HE0.out]; exact HS0.out.below HBx2.out.below (Nat.le_refl _)) (by rw [HE1.out]; exact HS1.out.below HBx2.out.below (Nat.le_refl _)) (by rw [HE2.out]; exact HS2.out.below HBx2.out.below (Nat.le_refl _)) (by rw [HE0.out]; exact b0) (by rw [HE1.out]; exact b1) (by rw [HE2.out]; exact b2) (by rw [HE0.out]; exact hc0) hc1
      rw [← HA.out, ← HT.out, ← HE.out, HE0.out, HE1.out, HE2.out] at hC
      refine hC.mono ?_
      rintro e w3 ⟨v, rfl, hown, hb3⟩
      obtain ⟨va, vc, rfl, hVS, _, _⟩ := ownb_seq hown
      have hbx := HBx2.out.step hb3 HBx2.out.size
      have HBx3 := Lib.hid hbx
      have e0 := hbx.c0
      have e1 := hbx.c1
      have e2 := hbx.c2
      have e3 := hbx.c3
      have HVS := Lib.hid hVS
      clear hbx hb3 hC hown hVS d0 d1 d2 d3
      go_wp2_with fail
      have hC := waitR w3 N (H.out.below HBx3.out.below (Nat.le_refl _)) HF.out a0 a1 a2 c0 c1 c2 was inn st (by rw [HE0.out]; exact HS0.out.below HBx3.out.below (Nat.le_refl _)) (by rw [HE1.out]; exact HS1.out.below HBx3.out.below (Nat.le_refl _)) (by rw [HE2.out]; exact HS2.out.below HBx3.out.below (Nat.le_refl _)) (by rw [HE0.out]; exact b0) (by rw [HE1.out]; exact b1) (by rw [HE2.out]; exact b2) (by rw [HE0.out]; exact hc0) hc1
      rw [← HA.out, ← HT.out, ← HE.out, HE0.out, HE1.out, HE2.out] at hC
      refine hC.mono ?_
      rintro e w4 ⟨v, rfl, hown, hb4⟩
      obtain ⟨ua, uc, rfl, hUS, _, _⟩ := ownb_seq hown
      have HBx4 := Lib.hid (HBx3.out.step hb4 HBx3.out.size)
      have HVS4 := Lib.hid (HVS.out.below hb4 (Nat.le_refl _))
      have HUS := Lib.hid hUS
      clear hb4 hC hown hUS e0 e1 e2 e3
      go_wp2_with fail
      have hC := sameBools w4 va ua A.length vc A.length uc A A rfl rfl (by have := HAl.out; omega) (by have := HAl.out; omega) HVS4.out HUS.out
      rw [decide_eq_true (rfl : A = A)] at hC
      refine hC.mono ?_
      rintro e w5 ⟨rfl, hb5⟩
      have HB5 := Lib.hid (HBx4.out.below.trans (hb5.mono (by have := HBx4.out.size; omega)))
      clear hb5 hC
      go_wp2
      go_ret
      exact ⟨ret_bool (by simp), HB5.out⟩
    · by_cases h0 : n0 ≤ 500
      · by_cases h1 : n1 ≤ 300
        · have h2 : ¬ n2 ≤ 300 := fun h => hall ⟨h0, h1, h⟩
          clear hall
          go_wp2
          go_ret
          exact ⟨ret_bool (by simp), HBx2.out.below⟩
        · clear hall
          go_wp2
          go_ret
          exact ⟨ret_bool (by simp), HBx2.out.below⟩
      · clear hall
        go_wp2
        go_ret
        exact ⟨ret_bool (by simp), HBx2.out.below⟩
end Go.Proofs.Ytkcilpkcjhnkaaa
