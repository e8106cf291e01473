import Derived.Test.YtkcilpkcjhnkaaaT5
namespace Go.Proofs.Ytkcilpkcjhnkaaa
open Go.RowKit

/-- SameBools, whatever the two lists. -/
theorem sameBools (w : World) (a0 a1 : Option Addr) (n0 c0 n1 c1 : Nat) (l0 l1 : List Bool) (e0 : l0.length = n0) (e1 : l1.length = n1) (b0 : n0 ≤ 9223372036854775807) (b1 : n1 ≤ 9223372036854775807)
    (h0 : Seq w a0 n0 (bools l0)) (h1 : Seq w a1 n1 (bools l1)) :
    Calls Try.prog 25 #[.slice a0 n0 c0, .slice a1 n1 c1] w fun e w' => e = .returned (.bool (decide (l0 = l1))) ∧ Below w.heap.size w w' := by
  have H0 := Lib.hid h0
  have H1 := Lib.hid h1
  have E0 := Lib.hid e0
  have E1 := Lib.hid e1
  clear h0 h1 e0 e1
  by_cases hn : n0 = n1
  · subst hn
    go_enter Try.func25, Try.ntmps25
    go_wp2
    go_loopw [13] (fun i wr => ∃ k : Nat, k ≤ n0 ∧ i = .int .i64 k ∧ Hid ((∀ j, j < k → l0.getD j false = l1.getD j false) ∧ ∃ nq, wr = w.drewN nq)) (fun i _ => n0 - (intOf i).toNat)
    case atStart => exact ⟨0, by omega, rfl, ⟨fun j hj => by omega, 0, rfl⟩⟩
    case round =>
      obtain ⟨k, hk, rfl, hh⟩ := hrel
      obtain ⟨ht, nq, rfl⟩ := hh
      have Ht := Lib.hid ht
      clear ht
      by_cases hlt : k < n0
      · obtain ⟨b, off, rfl, _, hc0⟩ := H0.out.at k hlt
        obtain ⟨b', off', rfl, _, hc1⟩ := H1.out.at k hlt
        have d0 := hc0 k hlt
        have d1 := hc1 k hlt
        clear hc0 hc1
        unfold bools at d0 d1
        obtain ⟨x, hx⟩ : ∃ x, x = l0.getD k false := ⟨_, rfl⟩
        obtain ⟨y, hy⟩ : ∃ y, y = l1.getD k false := ⟨_, rfl⟩
        rw [← hx] at d0
        rw [← hy] at d1
        have HX := Lib.hid hx
        have HY := Lib.hid hy
        clear hx hy
        by_cases hv : x = y
        · subst hv
          go_wp2
          go_quiet (fail)
          go_wp2
          go_roundw
          case rel => exact ⟨k + 1, by omega, by go_num, fun j hj => by
            rcases Nat.lt_succ_iff_lt_or_eq.1 hj with h | rfl
            · exact Ht.out j h
            · rw [← HX.out, ← HY.out], _, rfl⟩
          case measure => simp [intOf]; omega
        · have hv' : (!(x == y)) = true := by simpa using hv
          have HV := Lib.hid hv
          clear hv
          go_wp2
          go_quiet (fail)
          go_wp2
          go_ret
          refine ⟨ret_bool ?_, by first | exact belowN (Below.refl _ _) | exact belowN (belowN (Below.refl _ _))⟩
          refine (decide_eq_false (fun h => HV.out ?_)).symm
          rw [HX.out, HY.out, h]
      · obtain rfl : k = n0 := by omega
        go_wp2
        go_ret
        refine ⟨ret_bool ?_, by first | exact belowN (Below.refl _ _) | exact belowN (belowN (Below.refl _ _))⟩
        refine (decide_eq_true ?_).symm
        apply List.ext_getElem (by rw [E0.out, E1.out])
        intro i h1 h2
        have := Ht.out i (by rw [← E0.out]; exact h1)
        simpa [List.getD, List.getElem?_eq_getElem h1, List.getElem?_eq_getElem h2] using this
  · have hn' : ((n0 : Int) != n1) = true := by rw [bne_iff_ne]; omega
    have HN := Lib.hid hn
    clear hn
    go_enter Try.func25, Try.ntmps25
    go_wp2
    go_ret
    refine ⟨ret_bool ?_, (Below.refl _ _)⟩
    refine (decide_eq_false (fun h => HN.out ?_)).symm
    rw [← E0.out, ← E1.out, h]
/-- slices.Equal of bools, whatever the two lists. -/
theorem equalBools (w : World) (a0 a1 : Option Addr) (n0 c0 n1 c1 : Nat) (l0 l1 : List Bool) (e0 : l0.length = n0) (e1 : l1.length = n1) (b0 : n0 ≤ 9223372036854775807) (b1 : n1 ≤ 9223372036854775807)
    (h0 : Seq w a0 n0 (bools l0)) (h1 : Seq w a1 n1 (bools l1)) :
    Calls Try.prog 45 #[.slice a0 n0 c0, .slice a1 n1 c1] w fun e w' => e = .returned (.bool (decide (l0 = l1))) ∧ Below w.heap.size w w' := by
  have H0 := Lib.hid h0
  have H1 := Lib.hid h1
  have E0 := Lib.hid e0
  have E1 := Lib.hid e1
  clear h0 h1 e0 e1
  by_cases hn : n0 = n1
  · subst hn
    go_enter Try.func45, Try.ntmps45
    go_wp2
    go_loopw [13] (fun i wr => ∃ k : Nat, k ≤ n0 ∧ i = .int .i64 k ∧ Hid ((∀ j, j < k → l0.getD j false = l1.getD j false) ∧ ∃ nq, wr = w.drewN nq)) (fun i _ => n0 - (intOf i).toNat)
    case atStart => exact ⟨0, by omega, rfl, ⟨fun j hj => by omega, 0, rfl⟩⟩
    case round =>
      obtain ⟨k, hk, rfl, hh⟩ := hrel
      obtain ⟨ht, nq, rfl⟩ := hh
      have Ht := Lib.hid ht
      clear ht
      by_cases hlt : k < n0
      · obtain ⟨b, off, rfl, _, hc0⟩ := H0.out.at k hlt
        obtain ⟨b', off', rfl, _, hc1⟩ := H1.out.at k hlt
        have d0 := hc0 k hlt
        have d1 := hc1 k hlt
        clear hc0 hc1
        unfold bools at d0 d1
        obtain ⟨x, hx⟩ : ∃ x, x = l0.getD k false := ⟨_, rfl⟩
        obtain ⟨y, hy⟩ : ∃ y, y = l1.getD k false := ⟨_, rfl⟩
        rw [← hx] at d0
        rw [← hy] at d1
        have HX := Lib.hid hx
        have HY := Lib.hid hy
        clear hx hy
        by_cases hv : x = y
        · subst hv
          go_wp2
          go_quiet (fail)
          go_wp2
          go_roundw
          case rel => exact ⟨k + 1, by omega, by go_num, fun j hj => by
            rcases Nat.lt_succ_iff_lt_or_eq.1 hj with h | rfl
            · exact Ht.out j h
            · rw [← HX.out, ← HY.out], _, rfl⟩
          case measure => simp [intOf]; omega
        · have hv' : (!(x == y)) = true := by simpa using hv
          have HV := Lib.hid hv
          clear hv
          go_wp2
          go_quiet (fail)
          go_wp2
          go_ret
          refine ⟨ret_bool ?_, by first | exact belowN (Below.refl _ _) | exact belowN (belowN (Below.refl _ _))⟩
          refine (decide_eq_false (fun h => HV.out ?_)).symm
          rw [HX.out, HY.out, h]
      · obtain rfl : k = n0 := by omega
        go_wp2
        go_ret
        refine ⟨ret_bool ?_, by first | exact belowN (Below.refl _ _) | exact belowN (belowN (Below.refl _ _))⟩
        refine (decide_eq_true ?_).symm
        apply List.ext_getElem (by rw [E0.out, E1.out])
        intro i h1 h2
        have := Ht.out i (by rw [← E0.out]; exact h1)
        simpa [List.getD, List.getElem?_eq_getElem h1, List.getElem?_eq_getElem h2] using this
  · have hn' : ((n0 : Int) != n1) = true := by rw [bne_iff_ne]; omega
    have HN := Lib.hid hn
    clear hn
    go_enter Try.func45, Try.ntmps45
    go_wp2
    go_ret
    refine ⟨ret_bool ?_, (Below.refl _ _)⟩
    refine (decide_eq_false (fun h => HN.out ?_)).symm
    rw [← E0.out, ← E1.out, h]
end Go.Proofs.Ytkcilpkcjhnkaaa
