import Derived.Test.YtkcilpkcjhnkaaaT36
namespace Go.Proofs.Ytkcilpkcjhnkaaa
open Go.RowKit
set_option linter.unusedVariables false
set_option linter.unusedSimpArgs false

theorem pathO_length (N : NetV) (cost : List Int) (f : Few N) : (pathO N cost).length ≤ 401 := by
  unfold pathO
  split
  · rename_i ok
    have h := (wayOf_is (cost := cost) ok.net).2.1
    have h1 := f.ins
    have h2 := f.holds
    have h3 := f.luts
    rw [List.length_reverse]
    unfold firstN at h
    omega
  · simp

set_option maxRecDepth 100000 in
set_option maxHeartbeats 1000000 in
theorem delayPaths (w : World) (N : NetV) (h : NetAt w N) (a : Option Addr) (n c : Nat) (cost : List Int) (hlen : cost.length = n) (hn : n ≤ 9223372036854775807) (S : Seq w a n (ints cost)) :
    Calls Try.prog 8 #[N.val, .slice a n c] w fun e w' => e = .returned (.bool true) ∧ Below w.heap.size w w' := by
  have HBX := Lib.hid (Box.start w N)
  have H := Lib.hid h
  have HS := Lib.hid S
  have HLen := Lib.hid hlen
  clear h S hlen
  obtain ⟨fb, hfb⟩ : ∃ b, b = fewB N := ⟨_, rfl⟩
  have HF := Lib.hid hfb
  clear hfb
  go_enter Try.func8, Try.ntmps8
  go_wp2_with fail
  refine (live _).mono ?_
  rintro e w1 ⟨rfl, hb1⟩
  have hbx := HBX.out.step hb1 (by simp)
  have HBx := Lib.hid hbx
  have c0 := hbx.c0
  have c1 := hbx.c1
  have c2 := hbx.c2
  have c3 := hbx.c3
  clear hbx hb1
  go_wp2_with fail
  have hC := few w1 N (H.out.below HBx.out.below (Nat.le_refl _)) a n c hn
  rw [← HF.out] at hC
  refine hC.mono ?_
  rintro e w2 ⟨rfl, hb2⟩
  have hbx := HBx.out.step hb2 HBx.out.size
  have HBx2 := Lib.hid hbx
  have d0 := hbx.c0
  have d1 := hbx.c1
  have d2 := hbx.c2
  have d3 := hbx.c3
  clear hbx hb2 c0 c1 c2 c3 hC
  cases fb
  · go_wp2
    go_ret
    exact ⟨ret_bool (by simp), HBx2.out.below⟩
  · by_cases h300 : n ≤ 300
    · have F := few_of N HF.out.symm
      have hAl := pathO_length N cost F
      obtain ⟨A, hA⟩ : ∃ A, A = pathO N cost := ⟨_, rfl⟩
      obtain ⟨T, hT⟩ : ∃ A, A = pathT N cost := ⟨_, rfl⟩
      obtain ⟨E, hE⟩ : ∃ E, E = arrE N cost := ⟨_, rfl⟩
      have HF := Lib.hid F
      rw [← hA] at hAl
      have HA := Lib.hid hA
      have HT := Lib.hid hT
      have HE := Lib.hid hE
      clear F hA hE hT
      go_wp2_with fail
      have hC := path w2 N (H.out.below HBx2.out.below (Nat.le_refl _)) HF.out a n c cost HLen.out h300 (HS.out.below HBx2.out.below (Nat.le_refl _))
      rw [← HA.out, ← HT.out, ← HE.out] at hC
      refine hC.mono ?_
      rintro e w3 ⟨v, rfl, hown, hb3⟩
      obtain ⟨va, vc, rfl, hVS, _, _⟩ := owns_seq hown
      have hbx := HBx2.out.step hb3 HBx2.out.size
      have HBx3 := Lib.hid hbx
      have e0 := hbx.c0
      have e1 := hbx.c1
      have e2 := hbx.c2
      have e3 := hbx.c3
      have HVS := Lib.hid hVS
      clear hbx hb3 hC hown hVS d0 d1 d2 d3
      go_wp2_with fail
      have hC := pathR w3 N (H.out.below HBx3.out.below (Nat.le_refl _)) HF.out a n c cost HLen.out h300 (HS.out.below HBx3.out.below (Nat.le_refl _))
      rw [← HA.out, ← HT.out, ← HE.out] at hC
      refine hC.mono ?_
      rintro e w4 ⟨v, rfl, hown, hb4⟩
      obtain ⟨ua, uc, rfl, hUS, _, _⟩ := owns_seq hown
      have HBx4 := Lib.hid (HBx3.out.step hb4 HBx3.out.size)
      have HVS4 := Lib.hid (HVS.out.below hb4 (Nat.le_refl _))
      have HUS := Lib.hid hUS
      clear hb4 hC hown hUS e0 e1 e2 e3
      go_wp2_with fail
      have hC := sameInts w4 va ua A.length vc A.length uc A A rfl rfl (by omega) (by omega) HVS4.out HUS.out
      rw [decide_eq_true (rfl : A = A)] at hC
      refine hC.mono ?_
      rintro e w5 ⟨rfl, hb5⟩
      have HB5 := Lib.hid (HBx4.out.below.trans (hb5.mono (by have := HBx4.out.size; omega)))
      clear hb5 hC
      go_wp2
      go_ret
      exact ⟨ret_bool (by simp), HB5.out⟩
    · go_wp2
      go_ret
      exact ⟨ret_bool (by simp), HBx2.out.below⟩
end Go.Proofs.Ytkcilpkcjhnkaaa
