import Derived.Test.YtibimdhmfchcoaaV4
import Derived.Test.YtibimdhmfchcoaaBA
namespace Go.Proofs.Ytibimdhmfchcoaa
open Go.RowKit Go.Shelf Go.Maps
set_option linter.unusedVariables false
set_option linter.unusedSimpArgs false
/-- SameBools, whatever the two lists. -/
theorem sameBools (w : World) (a0 a1 : Option Addr) (n0 c0 n1 c1 : Nat) (l0 l1 : List Bool) (e0 : l0.length = n0) (e1 : l1.length = n1) (b0 : n0 ≤ 9223372036854775807) (b1 : n1 ≤ 9223372036854775807)
    (h0 : Seq w a0 n0 (bools l0)) (h1 : Seq w a1 n1 (bools l1)) :
    Calls Try.prog 22 #[.slice a0 n0 c0, .slice a1 n1 c1] w fun e w' => e = .returned (.bool (decide (l0 = l1))) ∧ Below w.heap.size w w' := by
  have H0 := Lib.hid h0
  have H1 := Lib.hid h1
  have E0 := Lib.hid e0
  have E1 := Lib.hid e1
  clear h0 h1 e0 e1
  by_cases hn : n0 = n1
  · subst hn
    go_enter Try.func22, Try.ntmps22
    go_wp2
    go_loopw [13] (fun i wr => ∃ k : Nat, k ≤ n0 ∧ i = .int .i64 k ∧ Hid ((∀ j, j < k → l0.getD j false = l1.getD j false) ∧ ∃ nq, wr = w.drewN nq)) (fun i _ => n0 - (intOf i).toNat)
    case atStart => exact ⟨0, by omega, rfl, ⟨fun j hj => by omega, 0, rfl⟩⟩
    case round =>
      obtain ⟨k, hk, rfl, hh⟩ := hrel
      obtain ⟨ht, nq, rfl⟩ := hh
      have Ht := Lib.hid ht
      clear ht
      by_cases hlt : k < n0
      · obtain ⟨b, off, rfl, _, hc0⟩ := H0.out.at k hlt
        obtain ⟨b', off', rfl, _, hc1⟩ := H1.out.at k hlt
        have d0 := hc0 k hlt
        have d1 := hc1 k hlt
        clear hc0 hc1
        unfold bools at d0 d1
        obtain ⟨x, hx⟩ : ∃ x, x = l0.getD k false := ⟨_, rfl⟩
        obtain ⟨y, hy⟩ : ∃ y, y = l1.getD k false := ⟨_, rfl⟩
        rw [← hx] at d0
        rw [← hy] at d1
        have HX := Lib.hid hx
        have HY := Lib.hid hy
        clear hx hy
        by_cases hv : x = y
        · subst hv
          go_wp2
          go_quiet (fail)
          go_wp2
          go_roundw
          case rel => exact ⟨k + 1, by omega, by go_num, fun j hj => by
            rcases Nat.lt_succ_iff_lt_or_eq.1 hj with h | rfl
            · exact Ht.out j h
            · rw [← HX.out, ← HY.out], _, rfl⟩
          case measure => simp [intOf]; omega
        · have hv' : (!(x == y)) = true := by simpa using hv
          have HV := Lib.hid hv
          clear hv
          go_wp2
          go_quiet (fail)
          go_wp2
          go_ret
          refine ⟨ret_bool ?_, by first | exact belowN (Below.refl _ _) | exact belowN (belowN (Below.refl _ _))⟩
          refine (decide_eq_false (fun h => HV.out ?_)).symm
          rw [HX.out, HY.out, h]
      · obtain rfl : k = n0 := by omega
        go_wp2
        go_ret
        refine ⟨ret_bool ?_, by first | exact belowN (Below.refl _ _) | exact belowN (belowN (Below.refl _ _))⟩
        refine (decide_eq_true ?_).symm
        apply List.ext_getElem (by rw [E0.out, E1.out])
        intro i h1 h2
        have := Ht.out i (by rw [← E0.out]; exact h1)
        simpa [List.getD, List.getElem?_eq_getElem h1, List.getElem?_eq_getElem h2] using this
  · have hn' : ((n0 : Int) != n1) = true := by rw [bne_iff_ne]; omega
    have HN := Lib.hid hn
    clear hn
    go_enter Try.func22, Try.ntmps22
    go_wp2
    go_ret
    refine ⟨ret_bool ?_, (Below.refl _ _)⟩
    refine (decide_eq_false (fun h => HN.out ?_)).symm
    rw [← E0.out, ← E1.out, h]

theorem evalO_len (D : PackD) (inn st : List Bool) : (evalO D inn st).length ≤ D.outs.length := by
  unfold evalO; split
  · rw [List.length_map]; exact Nat.le_refl _
  · simp
theorem evalN_len (D : PackD) (inn st : List Bool) : (evalN D inn st).length ≤ D.n := by
  unfold evalN; split
  · unfold nextOf; rw [List.length_map]; exact flopsTo_len D D.n
  · simp
set_option maxRecDepth 100000 in
set_option maxHeartbeats 8000000 in
theorem packEvals (w : World) (P : PackV) (h : PackAt w P) (a0 : Option Addr) (n0 c0 : Nat) (l0 : List Bool) (e0 : l0.length = n0) (b0 : n0 ≤ 9223372036854775807) (h0 : Seq w a0 n0 (bools l0)) (a1 : Option Addr) (n1 c1 : Nat) (l1 : List Bool) (e1 : l1.length = n1) (b1 : n1 ≤ 9223372036854775807) (h1 : Seq w a1 n1 (bools l1)) :
    Calls Try.prog 11 #[P.val, .slice a0 n0 c0, .slice a1 n1 c1] w fun e w' => e = .returned (.bool true) ∧ Below w.heap.size w w' := by
  have HX := Lib.hid (PBox.start w P)
  have H := Lib.hid h
  have H0 := Lib.hid h0
  have H1 := Lib.hid h1
  have E0 := Lib.hid e0
  have E1 := Lib.hid e1
  clear h h0 h1 e0 e1
  obtain ⟨fb, hfb⟩ : ∃ b, b = fewPB P := ⟨_, rfl⟩
  have HFb := Lib.hid hfb
  clear hfb
  go_enter Try.func11, Try.ntmps11
  go_wp2_with fail
  refine (live14 _).mono ?_
  rintro e w1 ⟨rfl, hb1⟩
  have hx1 := HX.out.step hb1 (by simp)
  have HX1 := Lib.hid hx1
  have k0 := hx1.c0
  have k1 := hx1.c1
  have k2 := hx1.c2
  clear hb1 hx1
  go_wp2_with fail
  refine (few28 w1 P (H.out.below HX1.out.below (Nat.le_refl _))).mono ?_
  rintro e w2 ⟨rfl, hb2⟩
  rw [← HFb.out]
  have hx2 := HX1.out.step hb2 HX1.out.size
  have HX2 := Lib.hid hx2
  have m0 := hx2.c0
  have m1 := hx2.c1
  have m2 := hx2.c2
  clear hb2 hx2
  cases fb
  · go_wp2_with fail
    go_ret
    exact ⟨rfl, HX2.out.below⟩
  · by_cases g0 : n0 ≤ 300
    rotate_left
    · have g0' : decide ((n0 : Int) > 300) = true := by simp; omega
      go_wp2_with fail
      go_ret
      exact ⟨rfl, HX2.out.below⟩
    by_cases g1 : n1 ≤ 300
    rotate_left
    · have g1' : decide ((n1 : Int) > 300) = true := by simp; omega
      have g0' : decide ((n0 : Int) > 300) = false := by simp; omega
      go_wp2_with fail
      go_ret
      exact ⟨rfl, HX2.out.below⟩
    have HF := Lib.hid ((fewPB_iff P).1 HFb.out.symm)
    have hbs := HF.out.bs
    have hos := HF.out.os
    have lO := evalO_len P.data l0 l1
    have lN := evalN_len P.data l0 l1
    rw [data_n] at lN
    have lO : (evalO P.data l0 l1).length ≤ P.os.length := lO
    obtain ⟨O, hO⟩ : ∃ O, O = evalO P.data l0 l1 := ⟨_, rfl⟩
    obtain ⟨N, hN⟩ : ∃ O, O = evalN P.data l0 l1 := ⟨_, rfl⟩
    obtain ⟨E, hE⟩ : ∃ O, O = evalE P.data l0 l1 := ⟨_, rfl⟩
    rw [← hO] at lO
    rw [← hN] at lN
    obtain ⟨on, hon⟩ : ∃ n, n = O.length := ⟨_, rfl⟩
    obtain ⟨nn, hnn⟩ : ∃ n, n = N.length := ⟨_, rfl⟩
    rw [← hon] at lO
    rw [← hnn] at lN
    have HO := Lib.hid hO
    have HN := Lib.hid hN
    have HE := Lib.hid hE
    have HOn := Lib.hid hon
    have HNn := Lib.hid hnn
    clear hO hN hE hon hnn
    go_wp2_with fail
    obtain rfl := E0.out
    obtain rfl := E1.out
    refine Calls.mono (eval20 w2 P (H.out.below HX2.out.below (Nat.le_refl _)) HF.out a0 c0 l0 (H0.out.below HX2.out.below (Nat.le_refl _)) (Nat.le_trans g0 (by omega)) a1 c1 l1 (H1.out.below HX2.out.below (Nat.le_refl _)) (Nat.le_trans g1 (by omega))) ?_
    rintro e w3 ⟨p1, q1, p2, q2, rfl, s1, s2, hb3⟩
    rw [← HO.out, ← HOn.out] at s1
    rw [← HN.out, ← HNn.out] at s2
    rw [← HO.out, ← HN.out, ← HE.out, ← HOn.out, ← HNn.out]
    have hx3 := HX2.out.step hb3 HX2.out.size
    have HX3 := Lib.hid hx3
    have n0 := hx3.c0
    have n1 := hx3.c1
    have n2 := hx3.c2
    have HS1 : Hid (Seq w3 p1 on (bools O)) := Lib.hid s1.seq
    have HS2 : Hid (Seq w3 p2 nn (bools N)) := Lib.hid s2.seq
    clear hb3 hx3 s1 s2 k0 k1 k2 m0 m1 m2
    go_wp2_with fail
    refine Calls.mono (eval35 w3 P (H.out.below HX3.out.below (Nat.le_refl _)) HF.out a0 c0 l0 (H0.out.below HX3.out.below (Nat.le_refl _)) (Nat.le_trans g0 (by omega)) a1 c1 l1 (H1.out.below HX3.out.below (Nat.le_refl _)) (Nat.le_trans g1 (by omega))) ?_
    rintro e w4 ⟨p3, q3, p4, q4, rfl, s3, s4, hb4⟩
    rw [← HO.out, ← HOn.out] at s3
    rw [← HN.out, ← HNn.out] at s4
    rw [← HO.out, ← HN.out, ← HE.out, ← HOn.out, ← HNn.out]
    have hx4 := HX3.out.step hb4 HX3.out.size
    have HX4 := Lib.hid hx4
    have HS3 : Hid (Seq w4 p3 on (bools O)) := Lib.hid s3.seq
    have HS4 : Hid (Seq w4 p4 nn (bools N)) := Lib.hid s4.seq
    have HT1 := Lib.hid (HS1.out.below hb4 (Nat.le_refl _))
    have HT2 := Lib.hid (HS2.out.below hb4 (Nat.le_refl _))
    clear hb4 hx4 s3 s4 n0 n1 n2
    go_wp2_with fail
    refine Calls.mono (sameBools w4 p1 p3 on q1 on q3 O O HOn.out.symm HOn.out.symm (by omega) (by omega) HT1.out HS3.out) ?_
    rintro e w5 ⟨rfl, hb5⟩
    rw [show decide (O = O) = true by simp]
    have hx5 := HX4.out.step hb5 HX4.out.size
    have HX5 := Lib.hid hx5
    have HU2 := Lib.hid (HT2.out.below hb5 (Nat.le_refl _))
    have HU4 := Lib.hid (HS4.out.below hb5 (Nat.le_refl _))
    clear hb5 hx5
    go_wp2_with fail
    refine Calls.mono (sameBools w5 p2 p4 nn q2 nn q4 N N HNn.out.symm HNn.out.symm (by omega) (by omega) HU2.out HU4.out) ?_
    rintro e w6 ⟨rfl, hb6⟩
    rw [show decide (N = N) = true by simp]
    have hx6 := HX5.out.step hb6 HX5.out.size
    have HX6 := Lib.hid hx6
    clear hb6 hx6
    go_wp2_with fail
    go_ret
    exact ⟨by simp, HX6.out.below⟩
end Go.Proofs.Ytibimdhmfchcoaa
