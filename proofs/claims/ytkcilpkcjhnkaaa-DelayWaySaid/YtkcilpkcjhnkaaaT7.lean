import Derived.Test.YtkcilpkcjhnkaaaT6
import Derived.Test.YtkcilpkcjhnkaaaBox
import Derived.Deep.RegionHeld3
namespace Go.Proofs.Ytkcilpkcjhnkaaa
open Go.RowKit

set_option maxHeartbeats 4000000 in
theorem check25 (w : World) (N : NetV) (h : NetAt w N) (f : Few N) (k : Int) (hk : 2 ≤ k ∧ k ≤ 6) :
    Calls Try.prog 46 #[N.val, .int .i64 k] w fun e w' => e = .returned (.int .i64 (chk N k)) ∧ Below w.heap.size w w' := by
  have H := Lib.hid h
  have F := Lib.hid f
  have hf0 := f.ins
  have hf1 := f.holds
  have hf2 := f.luts
  have hf3 := f.outs
  have hi := h.insR.1
  have hI := h.insR
  obtain ⟨hk1, hk2⟩ := hk
  clear h f
  have HBX := Lib.hid (Box.start w N)
  have HI := Lib.hid hI
  clear hI
  by_cases hneg : N.ins < 0
  · go_enter Try.func46, Try.ntmps46
    go_wp2
    go_ret
    refine ⟨ret_int ?_, HBX.out.below⟩
    exact (if_neg (fun ok => by have := ok.ins0; omega)).symm
  · obtain ⟨ins, ha, hc, holds, la, lc, luts, oa, oc, outs⟩ := N
    dsimp only at hf0 hf1 hf2 hf3 hi hneg ⊢
    go_enter Try.func46, Try.ntmps46
    go_wp2
    go_loopw [6] (fun i wr => ∃ j : Nat, j ≤ luts.length ∧ i = .int .i64 j ∧ Hid (Box w.heap.size w ⟨ins, ha, hc, holds, la, lc, luts, oa, oc, outs⟩ wr ∧ ∀ i, i < j → LutOk k (1 + ins + holds.length + i) (luts.getD i default))) (fun i _ => luts.length - (intOf i).toNat)
    case atStart => exact ⟨0, by omega, rfl, HBX.out, fun j hj => by omega⟩
    case round =>
      obtain ⟨j, hj, rfl, hh⟩ := hrel
      have hb := hh.out.1
      have hdone := hh.out.2
      have HD := Lib.hid hdone
      have HBx := Lib.hid hb
      have c1 := hb.c1
      have c2 := hb.c2
      have c3 := hb.c3
      have hsz := hb.size
      dsimp only at c1 c2 c3
      clear hdone hb
      by_cases hlt : j < luts.length
      · obtain ⟨b, off, rfl, hbb, d0, d1⟩ := (H.out.below HBx.out.below (Nat.le_refl _)).lut j hlt
        have hL20 := F.out.lut _ (getD_mem luts default hlt)
        have hU := ((H.out.lutAt j hlt).2).1
        have hsq := (H.out.lutAt j hlt).1
        obtain ⟨L, hLe⟩ : ∃ L, L = luts.getD j default := ⟨_, rfl⟩
        dsimp only at d0 d1 hU hsq
        rw [← hLe] at d0 d1 hL20 hU hsq
        have T := table25 wr L (hsq.below HBx.out.below (Nat.le_refl _)) hU hL20 (1 + ins + holds.length + j) k
        have HL := Lib.hid hLe
        clear hLe hU hsq
        obtain ⟨ok, hok⟩ : ∃ b, b = lutB k (1 + ins + holds.length + j) L := ⟨_, rfl⟩
        rw [← hok] at T
        have HT := Lib.hid T
        have HOk := Lib.hid hok
        clear T hok
        go_wp2_with fail
        refine HT.out.mono ?_
        rintro e w1 ⟨rfl, hb1⟩
        cases ok
        · go_wp2
          go_ret
          refine ⟨ret_int ?_, HBx.out.below.trans (hb1.mono (by omega))⟩
          refine (if_neg (fun ok => ?_)).symm
          have h1 := ok.lut j hlt
          dsimp only at h1
          rw [← HL.out, ← lutB_iff, ← HOk.out] at h1
          simp at h1
        · go_wp2
          go_roundw
          case rel => exact ⟨j + 1, by omega, by go_num, HBx.out.step hb1 (by omega), fun i hi => by
            rcases Nat.lt_succ_iff_lt_or_eq.1 hi with h | rfl
            · exact HD.out i h
            · rw [← HL.out, ← lutB_iff, ← HOk.out]⟩
          case measure => simp [intOf]; omega
      · obtain rfl : j = luts.length := by omega
        go_wp2
        have HN := Lib.hid (H.out.below HBx.out.below (Nat.le_refl _))
        go_loopw [7] (fun i wq => ∃ j : Nat, j ≤ holds.length ∧ i = .int .i64 j ∧ Hid (Box w.heap.size w ⟨ins, ha, hc, holds, la, lc, luts, oa, oc, outs⟩ wq ∧ ∀ i, i < j → 0 ≤ (holds.getD i default).d ∧ (holds.getD i default).d < 1 + ins + holds.length + luts.length)) (fun i _ => holds.length - (intOf i).toNat)
        case atStart => exact ⟨0, by omega, rfl, HBx.out, fun j hj => by omega⟩
        case round =>
          obtain ⟨j, hj, rfl, hh⟩ := hrel
          have hb := hh.out.1
          have hdone := hh.out.2
          have HD2 := Lib.hid hdone
          have HBx2 := Lib.hid hb
          have c0 := hb.c0
          have c1 := hb.c1
          have c2 := hb.c2
          have c3 := hb.c3
          have hsz := hb.size
          dsimp only at c0 c1 c2 c3
          clear hdone hb
          have HN2 := Lib.hid (H.out.below HBx2.out.below (Nat.le_refl _))
          by_cases hlt : j < holds.length
          · obtain ⟨b, off, rfl, hbb, hcell⟩ := HN2.out.holds.at (2 * j) (by dsimp only; omega)
            have d0 : wr.cell? ⟨b, off + j * 2, none⟩ = some (.int .i64 (holds.getD j default).d) := by
              have := hcell (j * 2) (by dsimp only; omega)
              rw [this]; simp only [holdCell]; rw [if_pos (by omega), show j * 2 / 2 = j by omega]
            clear hcell
            obtain ⟨L, hLe⟩ : ∃ L, L = holds.getD j default := ⟨_, rfl⟩
            rw [← hLe] at d0
            have HL := Lib.hid hLe
            clear hLe
            by_cases h0 : 0 ≤ L.d
            · have hx0 : decide (L.d < 0) = false := by simp; omega
              have hj0 : (0 : Int) ≤ (j : Int) := by omega
              have hj1 : (j : Int) < holds.length := by omega
              obtain ⟨x, hx⟩ : ∃ x, x = L.d := ⟨_, rfl⟩
              rw [← hx] at d0 hx0 h0
              have HX := Lib.hid hx
              clear hx
              have hbel : ∀ w1, Below wr.heap.size wr w1 → Below w.heap.size w w1 := fun w1 h => HBx2.out.below.trans (h.mono (by omega))
              have HBel := Lib.hid hbel
              clear hbel
              by_cases h1 : x < 1 + ins + holds.length + luts.length
              · have hlt0 : 1 + ins + holds.length + luts.length ≤ 100000 := by omega
                go_wp2_with fail
                go_region_held3 (fun w' => w'.cell? ⟨w.heap.size, 0, none⟩ = some (.int .i64 ins) ∧ w'.cell? ⟨w.heap.size, 1, none⟩ = some (Value.slice (some ⟨b, off, none⟩) holds.length hc) ∧ w'.cell? ⟨w.heap.size, 2, none⟩ = some (Value.slice la luts.length lc) ∧ w'.cell? ⟨w.heap.size, 3, none⟩ = some (Value.slice oa outs.length oc) ∧ w'.cell? ⟨b, off + j * 2, none⟩ = some (.int .i64 x))
                  (first | exact ⟨c0, c1, c2, c3, d0⟩ | exact ⟨(hb1.cell (p := ⟨_, _, none⟩) (by simp; omega)).trans c0, (hb1.cell (p := ⟨_, _, none⟩) (by simp; omega)).trans c1, (hb1.cell (p := ⟨_, _, none⟩) (by simp; omega)).trans c2, (hb1.cell (p := ⟨_, _, none⟩) (by simp; omega)).trans c3, (hb1.cell (p := ⟨_, _, none⟩) (by simp; omega)).trans d0⟩)
                  (first | (go_at_call 66; refine (count25 _ ⟨ins, some ⟨b, off, none⟩, hc, holds, la, lc, luts, oa, oc, outs⟩ HI.out hf0 hf1 hf2).mono ?_; rintro e w1 ⟨rfl, hb1⟩))
                go_wp2
                go_roundw
                case rel => exact ⟨j + 1, by omega, by go_num, HBx2.out.step (C := wr.heap.size) (by first | exact hb1 | exact (Below.refl _ _).drew.trans hb1 | exact (belowN (Below.refl _ _)).trans hb1) (by omega), fun i hi => by
                  rcases Nat.lt_succ_iff_lt_or_eq.1 hi with h | rfl
                  · exact HD2.out i h
                  · rw [← HL.out, ← HX.out]; exact ⟨h0, h1⟩⟩
                case measure => simp [intOf]; omega
              · have hlt0 : 1 + ins + holds.length + luts.length ≤ 100000 := by omega
                go_wp2_with fail
                go_region_held3 (fun w' => w'.cell? ⟨w.heap.size, 0, none⟩ = some (.int .i64 ins) ∧ w'.cell? ⟨w.heap.size, 1, none⟩ = some (Value.slice (some ⟨b, off, none⟩) holds.length hc) ∧ w'.cell? ⟨w.heap.size, 2, none⟩ = some (Value.slice la luts.length lc) ∧ w'.cell? ⟨w.heap.size, 3, none⟩ = some (Value.slice oa outs.length oc) ∧ w'.cell? ⟨b, off + j * 2, none⟩ = some (.int .i64 x))
                  (first | exact ⟨c0, c1, c2, c3, d0⟩ | exact ⟨(hb1.cell (p := ⟨_, _, none⟩) (by simp; omega)).trans c0, (hb1.cell (p := ⟨_, _, none⟩) (by simp; omega)).trans c1, (hb1.cell (p := ⟨_, _, none⟩) (by simp; omega)).trans c2, (hb1.cell (p := ⟨_, _, none⟩) (by simp; omega)).trans c3, (hb1.cell (p := ⟨_, _, none⟩) (by simp; omega)).trans d0⟩)
                  (first | (go_at_call 66; refine (count25 _ ⟨ins, some ⟨b, off, none⟩, hc, holds, la, lc, luts, oa, oc, outs⟩ HI.out hf0 hf1 hf2).mono ?_; rintro e w1 ⟨rfl, hb1⟩))
                go_wp2
                go_ret
                refine ⟨ret_int ?_, HBel.out _ (by first | exact hb1 | exact (Below.refl _ _).drew.trans hb1 | exact (belowN (Below.refl _ _)).trans hb1)⟩
                refine (if_neg (fun ok => ?_)).symm
                have := ok.holds _ (getD_mem holds default hlt)
                dsimp only at this
                rw [← HL.out, ← HX.out] at this
                omega
            · have hx0 : decide (L.d < 0) = true := by simp; omega
              have hj0 : (0 : Int) ≤ (j : Int) := by omega
              have hj1 : (j : Int) < holds.length := by omega
              go_wp2_with fail
              go_quiet (fail)
              go_wp2
              go_ret
              refine ⟨ret_int ?_, belowN HBx2.out.below⟩
              refine (if_neg (fun ok => ?_)).symm
              have := ok.holds _ (getD_mem holds default hlt)
              rw [← HL.out] at this
              omega
          · obtain rfl : j = holds.length := by omega
            go_wp2
            go_loopw [8] (fun i wq => ∃ j : Nat, j ≤ outs.length ∧ i = .int .i64 j ∧ Hid (Box w.heap.size w ⟨ins, ha, hc, holds, la, lc, luts, oa, oc, outs⟩ wq ∧ ∀ i, i < j → 0 ≤ outs.getD i 0 ∧ outs.getD i 0 < 1 + ins + holds.length + luts.length)) (fun i _ => outs.length - (intOf i).toNat)
            case atStart => exact ⟨0, by omega, rfl, HBx2.out, fun j hj => by omega⟩
            case round =>
              obtain ⟨j, hj, rfl, hh⟩ := hrel
              have hb := hh.out.1
              have hdone := hh.out.2
              have HD3 := Lib.hid hdone
              have HBx3 := Lib.hid hb
              have c0 := hb.c0
              have c1 := hb.c1
              have c2 := hb.c2
              have c3 := hb.c3
              have hsz := hb.size
              dsimp only at c0 c1 c2 c3
              clear hdone hb
              have HN3 := Lib.hid (H.out.below HBx3.out.below (Nat.le_refl _))
              by_cases hlt : j < outs.length
              · obtain ⟨b, off, rfl, hbb, hcell⟩ := HN3.out.outs.at j hlt
                have d0 : wr.cell? ⟨b, off + j, none⟩ = some (.int .i64 (outs.getD j 0)) := hcell j hlt
                clear hcell
                obtain ⟨L, hLe⟩ : ∃ L, L = outs.getD j 0 := ⟨_, rfl⟩
                rw [← hLe] at d0
                have HL := Lib.hid hLe
                clear hLe
                by_cases h0 : 0 ≤ L
                · have hx0 : decide (L < 0) = false := by simp; omega
                  have hj0 : (0 : Int) ≤ (j : Int) := by omega
                  have hj1 : (j : Int) < outs.length := by omega
                  obtain ⟨x, hx⟩ : ∃ x, x = L := ⟨_, rfl⟩
                  rw [← hx] at d0 hx0 h0
                  have HX := Lib.hid hx
                  clear hx
                  have hbel : ∀ w1, Below wr.heap.size wr w1 → Below w.heap.size w w1 := fun w1 h => HBx3.out.below.trans (h.mono (by omega))
                  have HBel := Lib.hid hbel
                  clear hbel
                  by_cases h1 : x < 1 + ins + holds.length + luts.length
                  · have hlt0 : 1 + ins + holds.length + luts.length ≤ 100000 := by omega
                    go_wp2_with fail
                    go_region_held3 (fun w' => w'.cell? ⟨w.heap.size, 0, none⟩ = some (.int .i64 ins) ∧ w'.cell? ⟨w.heap.size, 1, none⟩ = some (Value.slice ha holds.length hc) ∧ w'.cell? ⟨w.heap.size, 2, none⟩ = some (Value.slice la luts.length lc) ∧ w'.cell? ⟨w.heap.size, 3, none⟩ = some (Value.slice (some ⟨b, off, none⟩) outs.length oc) ∧ w'.cell? ⟨b, off + j, none⟩ = some (.int .i64 x))
                      (first | exact ⟨c0, c1, c2, c3, d0⟩ | exact ⟨(hb1.cell (p := ⟨_, _, none⟩) (by simp; omega)).trans c0, (hb1.cell (p := ⟨_, _, none⟩) (by simp; omega)).trans c1, (hb1.cell (p := ⟨_, _, none⟩) (by simp; omega)).trans c2, (hb1.cell (p := ⟨_, _, none⟩) (by simp; omega)).trans c3, (hb1.cell (p := ⟨_, _, none⟩) (by simp; omega)).trans d0⟩)
                      (first | (go_at_call 66; refine (count25 _ ⟨ins, ha, hc, holds, la, lc, luts, some ⟨b, off, none⟩, oc, outs⟩ HI.out hf0 hf1 hf2).mono ?_; rintro e w1 ⟨rfl, hb1⟩))
                    go_wp2
                    go_roundw
                    case rel => exact ⟨j + 1, by omega, by go_num, HBx3.out.step (C := wr.heap.size) (by first | exact hb1 | exact (Below.refl _ _).drew.trans hb1 | exact (belowN (Below.refl _ _)).trans hb1) (by omega), fun i hi => by
                      rcases Nat.lt_succ_iff_lt_or_eq.1 hi with h | rfl
                      · exact HD3.out i h
                      · rw [← HL.out, ← HX.out]; exact ⟨h0, h1⟩⟩
                    case measure => simp [intOf]; omega
                  · have hlt0 : 1 + ins + holds.length + luts.length ≤ 100000 := by omega
                    go_wp2_with fail
                    go_region_held3 (fun w' => w'.cell? ⟨w.heap.size, 0, none⟩ = some (.int .i64 ins) ∧ w'.cell? ⟨w.heap.size, 1, none⟩ = some (Value.slice ha holds.length hc) ∧ w'.cell? ⟨w.heap.size, 2, none⟩ = some (Value.slice la luts.length lc) ∧ w'.cell? ⟨w.heap.size, 3, none⟩ = some (Value.slice (some ⟨b, off, none⟩) outs.length oc) ∧ w'.cell? ⟨b, off + j, none⟩ = some (.int .i64 x))
                      (first | exact ⟨c0, c1, c2, c3, d0⟩ | exact ⟨(hb1.cell (p := ⟨_, _, none⟩) (by simp; omega)).trans c0, (hb1.cell (p := ⟨_, _, none⟩) (by simp; omega)).trans c1, (hb1.cell (p := ⟨_, _, none⟩) (by simp; omega)).trans c2, (hb1.cell (p := ⟨_, _, none⟩) (by simp; omega)).trans c3, (hb1.cell (p := ⟨_, _, none⟩) (by simp; omega)).trans d0⟩)
                      (first | (go_at_call 66; refine (count25 _ ⟨ins, ha, hc, holds, la, lc, luts, some ⟨b, off, none⟩, oc, outs⟩ HI.out hf0 hf1 hf2).mono ?_; rintro e w1 ⟨rfl, hb1⟩))
                    go_wp2
                    go_ret
                    refine ⟨ret_int ?_, HBel.out _ (by first | exact hb1 | exact (Below.refl _ _).drew.trans hb1 | exact (belowN (Below.refl _ _)).trans hb1)⟩
                    refine (if_neg (fun ok => ?_)).symm
                    have := ok.outs _ (getD_mem outs 0 hlt)
                    dsimp only at this
                    rw [← HL.out, ← HX.out] at this
                    omega
                · have hx0 : decide (L < 0) = true := by simp; omega
                  have hj0 : (0 : Int) ≤ (j : Int) := by omega
                  have hj1 : (j : Int) < outs.length := by omega
                  go_wp2_with fail
                  go_quiet (fail)
                  go_wp2
                  go_ret
                  refine ⟨ret_int ?_, belowN HBx3.out.below⟩
                  refine (if_neg (fun ok => ?_)).symm
                  have := ok.outs _ (getD_mem outs 0 hlt)
                  rw [← HL.out] at this
                  omega
              · obtain rfl : j = outs.length := by omega
                go_wp2
                go_ret
                refine ⟨ret_int ?_, HBx3.out.below⟩
                refine (if_pos ⟨by dsimp only; omega, HD.out, fun x hx => ?_, fun x hx => ?_⟩).symm
                · obtain ⟨i, hi, rfl⟩ := List.getElem_of_mem hx
                  have := HD3.out i hi
                  simpa [List.getD, List.getElem?_eq_getElem hi] using this
                · obtain ⟨i, hi, rfl⟩ := List.getElem_of_mem hx
                  have := HD2.out i hi
                  simpa [List.getD, List.getElem?_eq_getElem hi] using this
end Go.Proofs.Ytkcilpkcjhnkaaa
