import Derived.Test.YtkcilpkcjhnkaaaT7
namespace Go.Proofs.Ytkcilpkcjhnkaaa
open Go.RowKit

structure CostOk (N : NetV) (cost : List Int) : Prop where
  net : NetOk N 6
  len : cost.length = N.luts.length
  each : ∀ c ∈ cost, 0 ≤ c ∧ c ≤ 1048576

open Classical in
noncomputable def mayB (N : NetV) (cost : List Int) : Bool := decide (CostOk N cost)

theorem mayB_iff (N : NetV) (cost : List Int) : mayB N cost = true ↔ CostOk N cost := by
  simp [mayB]

theorem mayB_false (N : NetV) (cost : List Int) (h : ¬ CostOk N cost) : mayB N cost = false := by
  rw [Bool.eq_false_iff]; exact fun h' => h ((mayB_iff _ _).1 h')

theorem chk_cases (N : NetV) (k : Int) : (chk N k = 0 ∧ NetOk N k) ∨ (chk N k = 1 ∧ ¬ NetOk N k) := by
  unfold chk
  by_cases h : NetOk N k
  · exact .inl ⟨if_pos h, h⟩
  · exact .inr ⟨if_neg h, h⟩

set_option maxHeartbeats 1000000 in
theorem may (w : World) (N : NetV) (h : NetAt w N) (f : Few N) (a : Option Addr) (n c : Nat) (cost : List Int) (hlen : cost.length = n) (hn : n ≤ 300) (S : Seq w a n (ints cost)) :
    Calls Try.prog 34 #[N.val, .slice a n c] w fun e w' => e = .returned (.bool (mayB N cost)) ∧ Below w.heap.size w w' := by
  have HBX := Lib.hid (Box.start w N)
  have C := check25 (w.alloc N.obj) N (h.below HBX.out.below (Nat.le_refl _)) f 6 (by omega)
  have hf2 := f.luts
  have HS := Lib.hid S
  have HL := Lib.hid hlen
  clear S hlen h f
  rcases chk_cases N 6 with ⟨hc, ok⟩ | ⟨hc, ok⟩
  · rw [hc] at C
    have HC := Lib.hid C
    have HOk := Lib.hid ok
    clear C ok hc
    by_cases hnl : n = N.luts.length
    · have hnl' : ((n : Int) != N.luts.length) = false := by rw [bne_eq_false_iff_eq]; omega
      have HN := Lib.hid hnl
      clear hnl
      go_enter Try.func34, Try.ntmps34
      go_wp2_with fail
      refine HC.out.mono ?_
      rintro e w1 ⟨rfl, hb1⟩
      have hbx := HBX.out.step hb1 (by simp)
      have c2 := hbx.c2
      have HBx := Lib.hid hbx
      clear hbx
      go_wp2
      go_loop [20] (fun i => ∃ j : Nat, j ≤ n ∧ i = .int .i64 j ∧ Hid (∀ i, i < j → 0 ≤ cost.getD i 0 ∧ cost.getD i 0 ≤ 1048576)) (fun i => n - (intOf i).toNat)
      case atStart => exact ⟨0, by omega, rfl, fun j hj => by omega⟩
      case round =>
        obtain ⟨j, hj, rfl, hh⟩ := hrel
        by_cases hlt : j < n
        · obtain ⟨b, off, rfl, hbb, hc⟩ := (HS.out.below HBx.out.below (Nat.le_refl _)).at j hlt
          have d0 : w1.cell? ⟨b, off + j, none⟩ = some (.int .i64 (cost.getD j 0)) := hc j hlt
          clear hc
          obtain ⟨x, hx⟩ : ∃ x, x = cost.getD j 0 := ⟨_, rfl⟩
          rw [← hx] at d0
          have HX := Lib.hid hx
          clear hx
          by_cases h0 : 0 ≤ x
          · by_cases h1 : x ≤ 1048576
            · go_wp2
              go_round
              case rel => exact ⟨j + 1, by omega, by go_num, fun i hi => by
                rcases Nat.lt_succ_iff_lt_or_eq.1 hi with h | rfl
                · exact hh.out i h
                · rw [← HX.out]; exact ⟨h0, h1⟩⟩
              case measure => simp [intOf]; omega
            · go_wp2
              go_ret
              refine ⟨ret_bool ?_, HBx.out.below⟩
              refine (mayB_false _ _ (fun ok => ?_)).symm
              have := ok.each x (by rw [HX.out]; exact getD_mem _ _ (by rw [HL.out]; exact hlt))
              omega
          · go_wp2
            go_ret
            refine ⟨ret_bool ?_, HBx.out.below⟩
            refine (mayB_false _ _ (fun ok => ?_)).symm
            have := ok.each x (by rw [HX.out]; exact getD_mem _ _ (by rw [HL.out]; exact hlt))
            omega
        · obtain rfl : j = n := by omega
          go_wp2
          go_ret
          refine ⟨ret_bool ?_, HBx.out.below⟩
          refine ((mayB_iff _ _).2 ⟨HOk.out, by rw [HL.out, HN.out], fun x hx => ?_⟩).symm
          obtain ⟨i, hi, rfl⟩ := List.getElem_of_mem hx
          have := hh.out i (by rw [← HL.out]; exact hi)
          simpa [List.getD, List.getElem?_eq_getElem hi] using this
    · have hnl' : ((n : Int) != N.luts.length) = true := by rw [bne_iff_ne]; omega
      have HN := Lib.hid hnl
      clear hnl
      go_enter Try.func34, Try.ntmps34
      go_wp2_with fail
      refine HC.out.mono ?_
      rintro e w1 ⟨rfl, hb1⟩
      have hbx := HBX.out.step hb1 (by simp)
      have c2 := hbx.c2
      have HBx := Lib.hid hbx
      clear hbx
      go_wp2
      go_ret
      refine ⟨ret_bool ?_, HBx.out.below⟩
      exact (mayB_false _ _ (fun ok => HN.out (by rw [← HL.out, ok.len]))).symm
  · rw [hc] at C
    have HC := Lib.hid C
    have HOk := Lib.hid ok
    clear C ok hc
    go_enter Try.func34, Try.ntmps34
    go_wp2_with fail
    refine HC.out.mono ?_
    rintro e w1 ⟨rfl, hb1⟩
    have HBx := Lib.hid (HBX.out.step hb1 (by simp))
    go_wp2
    go_ret
    refine ⟨ret_bool ?_, HBx.out.below⟩
    exact (mayB_false _ _ (fun ok => HOk.out ok.net)).symm
end Go.Proofs.Ytkcilpkcjhnkaaa
