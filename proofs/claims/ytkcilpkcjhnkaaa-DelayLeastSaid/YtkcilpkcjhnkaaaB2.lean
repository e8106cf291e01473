import Derived.Test.YtkcilpkcjhnkaaaB1
import Derived.Deep.RegionHeld3
import Derived.Deep.OwnRows
/- T6 -/
namespace Go.Proofs.Ytkcilpkcjhnkaaa
open Go.RowKit

def lutB (k at_ : Int) (L : LutV) : Bool := decide ((L.ins.length : Int) ≤ k) && decide (L.tab ≤ rowsN L.ins.length) && L.ins.all (fun x => decide (0 ≤ x) && decide (x < at_))

theorem lutB_iff (k at_ : Int) (L : LutV) : lutB k at_ L = true ↔ LutOk k at_ L := by
  unfold lutB
  simp only [Bool.and_eq_true, decide_eq_true_eq, List.all_eq_true]
  exact ⟨fun ⟨⟨h1, h2⟩, h3⟩ => ⟨h1, h2, h3⟩, fun h => ⟨⟨h.len, h.tab⟩, h.ins⟩⟩

theorem table25 (w : World) (L : LutV) (hS : Seq w L.a L.ins.length (ints L.ins)) (hU : U64 L.tab) (h20 : L.ins.length ≤ 20) (at_ k : Int) :
    Calls Try.prog 65 #[.agg #[.slice L.a L.ins.length L.c, .int .u64 L.tab], .int .i64 at_, .int .i64 k] w fun e w' => e = .returned (.bool (lutB k at_ L)) ∧ Below w.heap.size w w' := by
  have htb := tab_bad L.tab L.ins.length hU
  have HU := Lib.hid hU
  have HS := Lib.hid hS
  clear hU hS
  obtain ⟨a, c, ins, tab⟩ := L
  dsimp only at h20 htb ⊢
  have HB : Below w.heap.size w (w.alloc (Obj.cells #[Value.slice a ins.length c, Value.int IntKind.u64 tab] 48)) := (Below.refl _ _).alloc (Nat.le_refl _) _
  have HBB := Lib.hid HB
  clear HB
  by_cases hlen : (ins.length : Int) ≤ k
  · have hlenb : decide (k < (ins.length : Int)) = false := by simp; omega
    by_cases htab : tab ≤ rowsN ins.length
    · rw [decide_eq_true htab] at htb
      go_enter Try.func65, Try.ntmps65
      go_wp2_with fail
      obtain ⟨W1, hW1⟩ : ∃ W1, W1 = w.alloc (Obj.cells #[Value.slice a ins.length c, Value.int IntKind.u64 tab] 48) := ⟨_, rfl⟩
      have hs : W1.heap.size = w.heap.size + 1 := by rw [hW1]; simp
      have c0 : W1.cell? ⟨w.heap.size, 0, none⟩ = some (.slice a ins.length c) := by rw [hW1]; simp
      have c1 : W1.cell? ⟨w.heap.size, 1, none⟩ = some (.int .u64 tab) := by rw [hW1]; simp
      have hSeq := HS.out.below (w' := W1) (by rw [hW1]; exact HBB.out) (Nat.le_refl _)
      try dsimp only at hSeq
      have HSeq := Lib.hid hSeq
      rw [← hW1]
      rw [← hW1] at HBB
      clear hW1 hSeq HS
      go_quiet ((go_at_call 71; exact quiet_same (rows25 _ _ (by omega))))
      go_wp2
      go_loopw [7] (fun i wr => ∃ j : Nat, j ≤ ins.length ∧ i = .int .i64 j ∧ Hid ((∃ q, wr = W1.drewN q) ∧ ∀ i, i < j → 0 ≤ ins.getD i 0 ∧ ins.getD i 0 < at_)) (fun i _ => ins.length - (intOf i).toNat)
      case atStart => exact ⟨0, by omega, rfl, ⟨_, rfl⟩, fun j hj => by omega⟩
      case round =>
        obtain ⟨j, hj, rfl, hh⟩ := hrel
        obtain ⟨⟨q, rfl⟩, hdone⟩ := hh
        have HD := Lib.hid hdone
        clear hdone
        by_cases hlt : j < ins.length
        · obtain ⟨b, off, rfl, hbb, hc⟩ := HSeq.out.at j hlt
          have d0 := hc j hlt
          unfold ints at d0
          obtain ⟨x, hx⟩ : ∃ x, x = ins.getD j 0 := ⟨_, rfl⟩
          rw [← hx] at d0
          have HX := Lib.hid hx
          clear hx hc
          by_cases h0 : 0 ≤ x
          · by_cases h1 : x < at_
            · go_wp2
              go_roundw
              case rel => exact ⟨j + 1, by omega, by go_num, ⟨_, rfl⟩, fun i hi => by
                rcases Nat.lt_succ_iff_lt_or_eq.1 hi with h | rfl
                · exact HD.out i h
                · rw [← HX.out]; exact ⟨h0, h1⟩⟩
              case measure => simp [intOf]; omega
            · go_wp2
              go_ret
              refine ⟨ret_bool ?_, belowN HBB.out⟩
              rw [eq_comm, Bool.eq_false_iff]
              intro hB
              have := ((lutB_iff _ _ _).1 hB).ins x (by rw [HX.out]; exact getD_mem _ _ hlt)
              omega
          · go_wp2
            go_ret
            refine ⟨ret_bool ?_, belowN HBB.out⟩
            rw [eq_comm, Bool.eq_false_iff]
            intro hB
            have := ((lutB_iff _ _ _).1 hB).ins x (by rw [HX.out]; exact getD_mem _ _ hlt)
            omega
        · obtain rfl : j = ins.length := by omega
          go_wp2
          go_ret
          refine ⟨ret_bool ?_, belowN HBB.out⟩
          rw [eq_comm, lutB_iff]
          refine ⟨hlen, htab, fun x hx => ?_⟩
          obtain ⟨i, hi, rfl⟩ := List.getElem_of_mem hx
          have := HD.out i hi
          simpa [List.getD, List.getElem?_eq_getElem hi] using this
    · rw [decide_eq_false htab] at htb
      go_enter Try.func65, Try.ntmps65
      go_wp2_with fail
      go_quiet ((go_at_call 71; exact quiet_same (rows25 _ _ (by omega))))
      go_wp2
      go_ret
      refine ⟨ret_bool ?_, belowN HBB.out⟩
      rw [eq_comm, Bool.eq_false_iff]
      intro hB
      have := ((lutB_iff _ _ _).1 hB).tab
      dsimp only at this
      omega
  · have hlenb : decide (k < (ins.length : Int)) = true := by simp; omega
    go_enter Try.func65, Try.ntmps65
    go_wp2_with fail
    go_quiet (fail)
    go_wp2
    go_ret
    refine ⟨ret_bool ?_, belowN HBB.out⟩
    rw [eq_comm, Bool.eq_false_iff]
    intro hB
    have := ((lutB_iff _ _ _).1 hB).len
    dsimp only at this
    omega
end Go.Proofs.Ytkcilpkcjhnkaaa

/- T7 -/
namespace Go.Proofs.Ytkcilpkcjhnkaaa
open Go.RowKit

set_option maxHeartbeats 4000000 in
theorem check25 (w : World) (N : NetV) (h : NetAt w N) (f : Few N) (k : Int) (hk : 2 ≤ k ∧ k ≤ 6) :
    Calls Try.prog 46 #[N.val, .int .i64 k] w fun e w' => e = .returned (.int .i64 (chk N k)) ∧ Below w.heap.size w w' := by
  have H := Lib.hid h
  have F := Lib.hid f
  have hf0 := f.ins
  have hf1 := f.holds
  have hf2 := f.luts
  have hf3 := f.outs
  have hi := h.insR.1
  have hI := h.insR
  obtain ⟨hk1, hk2⟩ := hk
  clear h f
  have HBX := Lib.hid (Box.start w N)
  have HI := Lib.hid hI
  clear hI
  by_cases hneg : N.ins < 0
  · go_enter Try.func46, Try.ntmps46
    go_wp2
    go_ret
    refine ⟨ret_int ?_, HBX.out.below⟩
    exact (if_neg (fun ok => by have := ok.ins0; omega)).symm
  · obtain ⟨ins, ha, hc, holds, la, lc, luts, oa, oc, outs⟩ := N
    dsimp only at hf0 hf1 hf2 hf3 hi hneg ⊢
    go_enter Try.func46, Try.ntmps46
    go_wp2
    go_loopw [6] (fun i wr => ∃ j : Nat, j ≤ luts.length ∧ i = .int .i64 j ∧ Hid (Box w.heap.size w ⟨ins, ha, hc, holds, la, lc, luts, oa, oc, outs⟩ wr ∧ ∀ i, i < j → LutOk k (1 + ins + holds.length + i) (luts.getD i default))) (fun i _ => luts.length - (intOf i).toNat)
    case atStart => exact ⟨0, by omega, rfl, HBX.out, fun j hj => by omega⟩
    case round =>
      obtain ⟨j, hj, rfl, hh⟩ := hrel
      have hb := hh.out.1
      have hdone := hh.out.2
      have HD := Lib.hid hdone
      have HBx := Lib.hid hb
      have c1 := hb.c1
      have c2 := hb.c2
      have c3 := hb.c3
      have hsz := hb.size
      dsimp only at c1 c2 c3
      clear hdone hb
      by_cases hlt : j < luts.length
      · obtain ⟨b, off, rfl, hbb, d0, d1⟩ := (H.out.below HBx.out.below (Nat.le_refl _)).lut j hlt
        have hL20 := F.out.lut _ (getD_mem luts default hlt)
        have hU := ((H.out.lutAt j hlt).2).1
        have hsq := (H.out.lutAt j hlt).1
        obtain ⟨L, hLe⟩ : ∃ L, L = luts.getD j default := ⟨_, rfl⟩
        dsimp only at d0 d1 hU hsq
        rw [← hLe] at d0 d1 hL20 hU hsq
        have T := table25 wr L (hsq.below HBx.out.below (Nat.le_refl _)) hU hL20 (1 + ins + holds.length + j) k
        have HL := Lib.hid hLe
        clear hLe hU hsq
        obtain ⟨ok, hok⟩ : ∃ b, b = lutB k (1 + ins + holds.length + j) L := ⟨_, rfl⟩
        rw [← hok] at T
        have HT := Lib.hid T
        have HOk := Lib.hid hok
        clear T hok
        go_wp2_with fail
        refine HT.out.mono ?_
        rintro e w1 ⟨rfl, hb1⟩
        cases ok
        · go_wp2
          go_ret
          refine ⟨ret_int ?_, HBx.out.below.trans (hb1.mono (by omega))⟩
          refine (if_neg (fun ok => ?_)).symm
          have h1 := ok.lut j hlt
          dsimp only at h1
          rw [← HL.out, ← lutB_iff, ← HOk.out] at h1
          simp at h1
        · go_wp2
          go_roundw
          case rel => exact ⟨j + 1, by omega, by go_num, HBx.out.step hb1 (by omega), fun i hi => by
            rcases Nat.lt_succ_iff_lt_or_eq.1 hi with h | rfl
            · exact HD.out i h
            · rw [← HL.out, ← lutB_iff, ← HOk.out]⟩
          case measure => simp [intOf]; omega
      · obtain rfl : j = luts.length := by omega
        go_wp2
        have HN := Lib.hid (H.out.below HBx.out.below (Nat.le_refl _))
        go_loopw [7] (fun i wq => ∃ j : Nat, j ≤ holds.length ∧ i = .int .i64 j ∧ Hid (Box w.heap.size w ⟨ins, ha, hc, holds, la, lc, luts, oa, oc, outs⟩ wq ∧ ∀ i, i < j → 0 ≤ (holds.getD i default).d ∧ (holds.getD i default).d < 1 + ins + holds.length + luts.length)) (fun i _ => holds.length - (intOf i).toNat)
        case atStart => exact ⟨0, by omega, rfl, HBx.out, fun j hj => by omega⟩
        case round =>
          obtain ⟨j, hj, rfl, hh⟩ := hrel
          have hb := hh.out.1
          have hdone := hh.out.2
          have HD2 := Lib.hid hdone
          have HBx2 := Lib.hid hb
          have c0 := hb.c0
          have c1 := hb.c1
          have c2 := hb.c2
          have c3 := hb.c3
          have hsz := hb.size
          dsimp only at c0 c1 c2 c3
          clear hdone hb
          have HN2 := Lib.hid (H.out.below HBx2.out.below (Nat.le_refl _))
          by_cases hlt : j < holds.length
          · obtain ⟨b, off, rfl, hbb, hcell⟩ := HN2.out.holds.at (2 * j) (by dsimp only; omega)
            have d0 : wr.cell? ⟨b, off + j * 2, none⟩ = some (.int .i64 (holds.getD j default).d) := by
              have := hcell (j * 2) (by dsimp only; omega)
              rw [this]; simp only [holdCell]; rw [if_pos (by omega), show j * 2 / 2 = j by omega]
            clear hcell
            obtain ⟨L, hLe⟩ : ∃ L, L = holds.getD j default := ⟨_, rfl⟩
            rw [← hLe] at d0
            have HL := Lib.hid hLe
            clear hLe
            by_cases h0 : 0 ≤ L.d
            · have hx0 : decide (L.d < 0) = false := by simp; omega
              have hj0 : (0 : Int) ≤ (j : Int) := by omega
              have hj1 : (j : Int) < holds.length := by omega
              obtain ⟨x, hx⟩ : ∃ x, x = L.d := ⟨_, rfl⟩
              rw [← hx] at d0 hx0 h0
              have HX := Lib.hid hx
              clear hx
              have hbel : ∀ w1, Below wr.heap.size wr w1 → Below w.heap.size w w1 := fun w1 h => HBx2.out.below.trans (h.mono (by omega))
              have HBel := Lib.hid hbel
              clear hbel
              by_cases h1 : x < 1 + ins + holds.length + luts.length
              · have hlt0 : 1 + ins + holds.length + luts.length ≤ 100000 := by omega
                go_wp2_with fail
                go_region_held3 (fun w' => w'.cell? ⟨w.heap.size, 0, none⟩ = some (.int .i64 ins) ∧ w'.cell? ⟨w.heap.size, 1, none⟩ = some (Value.slice (some ⟨b, off, none⟩) holds.length hc) ∧ w'.cell? ⟨w.heap.size, 2, none⟩ = some (Value.slice la luts.length lc) ∧ w'.cell? ⟨w.heap.size, 3, none⟩ = some (Value.slice oa outs.length oc) ∧ w'.cell? ⟨b, off + j * 2, none⟩ = some (.int .i64 x))
                  (first | exact ⟨c0, c1, c2, c3, d0⟩ | exact ⟨(hb1.cell (p := ⟨_, _, none⟩) (by simp; omega)).trans c0, (hb1.cell (p := ⟨_, _, none⟩) (by simp; omega)).trans c1, (hb1.cell (p := ⟨_, _, none⟩) (by simp; omega)).trans c2, (hb1.cell (p := ⟨_, _, none⟩) (by simp; omega)).trans c3, (hb1.cell (p := ⟨_, _, none⟩) (by simp; omega)).trans d0⟩)
                  (first | (go_at_call 66; refine (count25 _ ⟨ins, some ⟨b, off, none⟩, hc, holds, la, lc, luts, oa, oc, outs⟩ HI.out hf0 hf1 hf2).mono ?_; rintro e w1 ⟨rfl, hb1⟩))
                go_wp2
                go_roundw
                case rel => exact ⟨j + 1, by omega, by go_num, HBx2.out.step (C := wr.heap.size) (by first | exact hb1 | exact (Below.refl _ _).drew.trans hb1 | exact (belowN (Below.refl _ _)).trans hb1) (by omega), fun i hi => by
                  rcases Nat.lt_succ_iff_lt_or_eq.1 hi with h | rfl
                  · exact HD2.out i h
                  · rw [← HL.out, ← HX.out]; exact ⟨h0, h1⟩⟩
                case measure => simp [intOf]; omega
              · have hlt0 : 1 + ins + holds.length + luts.length ≤ 100000 := by omega
                go_wp2_with fail
                go_region_held3 (fun w' => w'.cell? ⟨w.heap.size, 0, none⟩ = some (.int .i64 ins) ∧ w'.cell? ⟨w.heap.size, 1, none⟩ = some (Value.slice (some ⟨b, off, none⟩) holds.length hc) ∧ w'.cell? ⟨w.heap.size, 2, none⟩ = some (Value.slice la luts.length lc) ∧ w'.cell? ⟨w.heap.size, 3, none⟩ = some (Value.slice oa outs.length oc) ∧ w'.cell? ⟨b, off + j * 2, none⟩ = some (.int .i64 x))
                  (first | exact ⟨c0, c1, c2, c3, d0⟩ | exact ⟨(hb1.cell (p := ⟨_, _, none⟩) (by simp; omega)).trans c0, (hb1.cell (p := ⟨_, _, none⟩) (by simp; omega)).trans c1, (hb1.cell (p := ⟨_, _, none⟩) (by simp; omega)).trans c2, (hb1.cell (p := ⟨_, _, none⟩) (by simp; omega)).trans c3, (hb1.cell (p := ⟨_, _, none⟩) (by simp; omega)).trans d0⟩)
                  (first | (go_at_call 66; refine (count25 _ ⟨ins, some ⟨b, off, none⟩, hc, holds, la, lc, luts, oa, oc, outs⟩ HI.out hf0 hf1 hf2).mono ?_; rintro e w1 ⟨rfl, hb1⟩))
                go_wp2
                go_ret
                refine ⟨ret_int ?_, HBel.out _ (by first | exact hb1 | exact (Below.refl _ _).drew.trans hb1 | exact (belowN (Below.refl _ _)).trans hb1)⟩
                refine (if_neg (fun ok => ?_)).symm
                have := ok.holds _ (getD_mem holds default hlt)
                dsimp only at this
                rw [← HL.out, ← HX.out] at this
                omega
            · have hx0 : decide (L.d < 0) = true := by simp; omega
              have hj0 : (0 : Int) ≤ (j : Int) := by omega
              have hj1 : (j : Int) < holds.length := by omega
              go_wp2_with fail
              go_quiet (fail)
              go_wp2
              go_ret
              refine ⟨ret_int ?_, belowN HBx2.out.below⟩
              refine (if_neg (fun ok => ?_)).symm
              have := ok.holds _ (getD_mem holds default hlt)
              rw [← HL.out] at this
              omega
          · obtain rfl : j = holds.length := by omega
            go_wp2
            go_loopw [8] (fun i wq => ∃ j : Nat, j ≤ outs.length ∧ i = .int .i64 j ∧ Hid (Box w.heap.size w ⟨ins, ha, hc, holds, la, lc, luts, oa, oc, outs⟩ wq ∧ ∀ i, i < j → 0 ≤ outs.getD i 0 ∧ outs.getD i 0 < 1 + ins + holds.length + luts.length)) (fun i _ => outs.length - (intOf i).toNat)
            case atStart => exact ⟨0, by omega, rfl, HBx2.out, fun j hj => by omega⟩
            case round =>
              obtain ⟨j, hj, rfl, hh⟩ := hrel
              have hb := hh.out.1
              have hdone := hh.out.2
              have HD3 := Lib.hid hdone
              have HBx3 := Lib.hid hb
              have c0 := hb.c0
              have c1 := hb.c1
              have c2 := hb.c2
              have c3 := hb.c3
              have hsz := hb.size
              dsimp only at c0 c1 c2 c3
              clear hdone hb
              have HN3 := Lib.hid (H.out.below HBx3.out.below (Nat.le_refl _))
              by_cases hlt : j < outs.length
              · obtain ⟨b, off, rfl, hbb, hcell⟩ := HN3.out.outs.at j hlt
                have d0 : wr.cell? ⟨b, off + j, none⟩ = some (.int .i64 (outs.getD j 0)) := hcell j hlt
                clear hcell
                obtain ⟨L, hLe⟩ : ∃ L, L = outs.getD j 0 := ⟨_, rfl⟩
                rw [← hLe] at d0
                have HL := Lib.hid hLe
                clear hLe
                by_cases h0 : 0 ≤ L
                · have hx0 : decide (L < 0) = false := by simp; omega
                  have hj0 : (0 : Int) ≤ (j : Int) := by omega
                  have hj1 : (j : Int) < outs.length := by omega
                  obtain ⟨x, hx⟩ : ∃ x, x = L := ⟨_, rfl⟩
                  rw [← hx] at d0 hx0 h0
                  have HX := Lib.hid hx
                  clear hx
                  have hbel : ∀ w1, Below wr.heap.size wr w1 → Below w.heap.size w w1 := fun w1 h => HBx3.out.below.trans (h.mono (by omega))
                  have HBel := Lib.hid hbel
                  clear hbel
                  by_cases h1 : x < 1 + ins + holds.length + luts.length
                  · have hlt0 : 1 + ins + holds.length + luts.length ≤ 100000 := by omega
                    go_wp2_with fail
                    go_region_held3 (fun w' => w'.cell? ⟨w.heap.size, 0, none⟩ = some (.int .i64 ins) ∧ w'.cell? ⟨w.heap.size, 1, none⟩ = some (Value.slice ha holds.length hc) ∧ w'.cell? ⟨w.heap.size, 2, none⟩ = some (Value.slice la luts.length lc) ∧ w'.cell? ⟨w.heap.size, 3, none⟩ = some (Value.slice (some ⟨b, off, none⟩) outs.length oc) ∧ w'.cell? ⟨b, off + j, none⟩ = some (.int .i64 x))
                      (first | exact ⟨c0, c1, c2, c3, d0⟩ | exact ⟨(hb1.cell (p := ⟨_, _, none⟩) (by simp; omega)).trans c0, (hb1.cell (p := ⟨_, _, none⟩) (by simp; omega)).trans c1, (hb1.cell (p := ⟨_, _, none⟩) (by simp; omega)).trans c2, (hb1.cell (p := ⟨_, _, none⟩) (by simp; omega)).trans c3, (hb1.cell (p := ⟨_, _, none⟩) (by simp; omega)).trans d0⟩)
                      (first | (go_at_call 66; refine (count25 _ ⟨ins, ha, hc, holds, la, lc, luts, some ⟨b, off, none⟩, oc, outs⟩ HI.out hf0 hf1 hf2).mono ?_; rintro e w1 ⟨rfl, hb1⟩))
                    go_wp2
                    go_roundw
                    case rel => exact ⟨j + 1, by omega, by go_num, HBx3.out.step (C := wr.heap.size) (by first | exact hb1 | exact (Below.refl _ _).drew.trans hb1 | exact (belowN (Below.refl _ _)).trans hb1) (by omega), fun i hi => by
                      rcases Nat.lt_succ_iff_lt_or_eq.1 hi with h | rfl
                      · exact HD3.out i h
                      · rw [← HL.out, ← HX.out]; exact ⟨h0, h1⟩⟩
                    case measure => simp [intOf]; omega
                  · have hlt0 : 1 + ins + holds.length + luts.length ≤ 100000 := by omega
                    go_wp2_with fail
                    go_region_held3 (fun w' => w'.cell? ⟨w.heap.size, 0, none⟩ = some (.int .i64 ins) ∧ w'.cell? ⟨w.heap.size, 1, none⟩ = some (Value.slice ha holds.length hc) ∧ w'.cell? ⟨w.heap.size, 2, none⟩ = some (Value.slice la luts.length lc) ∧ w'.cell? ⟨w.heap.size, 3, none⟩ = some (Value.slice (some ⟨b, off, none⟩) outs.length oc) ∧ w'.cell? ⟨b, off + j, none⟩ = some (.int .i64 x))
                      (first | exact ⟨c0, c1, c2, c3, d0⟩ | exact ⟨(hb1.cell (p := ⟨_, _, none⟩) (by simp; omega)).trans c0, (hb1.cell (p := ⟨_, _, none⟩) (by simp; omega)).trans c1, (hb1.cell (p := ⟨_, _, none⟩) (by simp; omega)).trans c2, (hb1.cell (p := ⟨_, _, none⟩) (by simp; omega)).trans c3, (hb1.cell (p := ⟨_, _, none⟩) (by simp; omega)).trans d0⟩)
                      (first | (go_at_call 66; refine (count25 _ ⟨ins, ha, hc, holds, la, lc, luts, some ⟨b, off, none⟩, oc, outs⟩ HI.out hf0 hf1 hf2).mono ?_; rintro e w1 ⟨rfl, hb1⟩))
                    go_wp2
                    go_ret
                    refine ⟨ret_int ?_, HBel.out _ (by first | exact hb1 | exact (Below.refl _ _).drew.trans hb1 | exact (belowN (Below.refl _ _)).trans hb1)⟩
                    refine (if_neg (fun ok => ?_)).symm
                    have := ok.outs _ (getD_mem outs 0 hlt)
                    dsimp only at this
                    rw [← HL.out, ← HX.out] at this
                    omega
                · have hx0 : decide (L < 0) = true := by simp; omega
                  have hj0 : (0 : Int) ≤ (j : Int) := by omega
                  have hj1 : (j : Int) < outs.length := by omega
                  go_wp2_with fail
                  go_quiet (fail)
                  go_wp2
                  go_ret
                  refine ⟨ret_int ?_, belowN HBx3.out.below⟩
                  refine (if_neg (fun ok => ?_)).symm
                  have := ok.outs _ (getD_mem outs 0 hlt)
                  rw [← HL.out] at this
                  omega
              · obtain rfl : j = outs.length := by omega
                go_wp2
                go_ret
                refine ⟨ret_int ?_, HBx3.out.below⟩
                refine (if_pos ⟨by dsimp only; omega, HD.out, fun x hx => ?_, fun x hx => ?_⟩).symm
                · obtain ⟨i, hi, rfl⟩ := List.getElem_of_mem hx
                  have := HD3.out i hi
                  simpa [List.getD, List.getElem?_eq_getElem hi] using this
                · obtain ⟨i, hi, rfl⟩ := List.getElem_of_mem hx
                  have := HD2.out i hi
                  simpa [List.getD, List.getElem?_eq_getElem hi] using this
end Go.Proofs.Ytkcilpkcjhnkaaa

/- T8 -/
namespace Go.Proofs.Ytkcilpkcjhnkaaa
open Go.RowKit

structure CostOk (N : NetV) (cost : List Int) : Prop where
  net : NetOk N 6
  len : cost.length = N.luts.length
  each : ∀ c ∈ cost, 0 ≤ c ∧ c ≤ 1048576

open Classical in
noncomputable def mayB (N : NetV) (cost : List Int) : Bool := decide (CostOk N cost)

theorem mayB_iff (N : NetV) (cost : List Int) : mayB N cost = true ↔ CostOk N cost := by
  simp [mayB]

theorem mayB_false (N : NetV) (cost : List Int) (h : ¬ CostOk N cost) : mayB N cost = false := by
  rw [Bool.eq_false_iff]; exact fun h' => h ((mayB_iff _ _).1 h')

theorem chk_cases (N : NetV) (k : Int) : (chk N k = 0 ∧ NetOk N k) ∨ (chk N k = 1 ∧ ¬ NetOk N k) := by
  unfold chk
  by_cases h : NetOk N k
  · exact .inl ⟨if_pos h, h⟩
  · exact .inr ⟨if_neg h, h⟩

set_option maxHeartbeats 1000000 in
theorem may (w : World) (N : NetV) (h : NetAt w N) (f : Few N) (a : Option Addr) (n c : Nat) (cost : List Int) (hlen : cost.length = n) (hn : n ≤ 300) (S : Seq w a n (ints cost)) :
    Calls Try.prog 34 #[N.val, .slice a n c] w fun e w' => e = .returned (.bool (mayB N cost)) ∧ Below w.heap.size w w' := by
  have HBX := Lib.hid (Box.start w N)
  have C := check25 (w.alloc N.obj) N (h.below HBX.out.below (Nat.le_refl _)) f 6 (by omega)
  have hf2 := f.luts
  have HS := Lib.hid S
  have HL := Lib.hid hlen
  clear S hlen h f
  rcases chk_cases N 6 with ⟨hc, ok⟩ | ⟨hc, ok⟩
  · rw [hc] at C
    have HC := Lib.hid C
    have HOk := Lib.hid ok
    clear C ok hc
    by_cases hnl : n = N.luts.length
    · have hnl' : ((n : Int) != N.luts.length) = false := by rw [bne_eq_false_iff_eq]; omega
      have HN := Lib.hid hnl
      clear hnl
      go_enter Try.func34, Try.ntmps34
      go_wp2_with fail
      refine HC.out.mono ?_
      rintro e w1 ⟨rfl, hb1⟩
      have hbx := HBX.out.step hb1 (by simp)
      have c2 := hbx.c2
      have HBx := Lib.hid hbx
      clear hbx
      go_wp2
      go_loop [20] (fun i => ∃ j : Nat, j ≤ n ∧ i = .int .i64 j ∧ Hid (∀ i, i < j → 0 ≤ cost.getD i 0 ∧ cost.getD i 0 ≤ 1048576)) (fun i => n - (intOf i).toNat)
      case atStart => exact ⟨0, by omega, rfl, fun j hj => by omega⟩
      case round =>
        obtain ⟨j, hj, rfl, hh⟩ := hrel
        by_cases hlt : j < n
        · obtain ⟨b, off, rfl, hbb, hc⟩ := (HS.out.below HBx.out.below (Nat.le_refl _)).at j hlt
          have d0 : w1.cell? ⟨b, off + j, none⟩ = some (.int .i64 (cost.getD j 0)) := hc j hlt
          clear hc
          obtain ⟨x, hx⟩ : ∃ x, x = cost.getD j 0 := ⟨_, rfl⟩
          rw [← hx] at d0
          have HX := Lib.hid hx
          clear hx
          by_cases h0 : 0 ≤ x
          · by_cases h1 : x ≤ 1048576
            · go_wp2
              go_round
              case rel => exact ⟨j + 1, by omega, by go_num, fun i hi => by
                rcases Nat.lt_succ_iff_lt_or_eq.1 hi with h | rfl
                · exact hh.out i h
                · rw [← HX.out]; exact ⟨h0, h1⟩⟩
              case measure => simp [intOf]; omega
            · go_wp2
              go_ret
              refine ⟨ret_bool ?_, HBx.out.below⟩
              refine (mayB_false _ _ (fun ok => ?_)).symm
              have := ok.each x (by rw [HX.out]; exact getD_mem _ _ (by rw [HL.out]; exact hlt))
              omega
          · go_wp2
            go_ret
            refine ⟨ret_bool ?_, HBx.out.below⟩
            refine (mayB_false _ _ (fun ok => ?_)).symm
            have := ok.each x (by rw [HX.out]; exact getD_mem _ _ (by rw [HL.out]; exact hlt))
            omega
        · obtain rfl : j = n := by omega
          go_wp2
          go_ret
          refine ⟨ret_bool ?_, HBx.out.below⟩
          refine ((mayB_iff _ _).2 ⟨HOk.out, by rw [HL.out, HN.out], fun x hx => ?_⟩).symm
          obtain ⟨i, hi, rfl⟩ := List.getElem_of_mem hx
          have := hh.out i (by rw [← HL.out]; exact hi)
          simpa [List.getD, List.getElem?_eq_getElem hi] using this
    · have hnl' : ((n : Int) != N.luts.length) = true := by rw [bne_iff_ne]; omega
      have HN := Lib.hid hnl
      clear hnl
      go_enter Try.func34, Try.ntmps34
      go_wp2_with fail
      refine HC.out.mono ?_
      rintro e w1 ⟨rfl, hb1⟩
      have hbx := HBX.out.step hb1 (by simp)
      have c2 := hbx.c2
      have HBx := Lib.hid hbx
      clear hbx
      go_wp2
      go_ret
      refine ⟨ret_bool ?_, HBx.out.below⟩
      exact (mayB_false _ _ (fun ok => HN.out (by rw [← HL.out, ok.len]))).symm
  · rw [hc] at C
    have HC := Lib.hid C
    have HOk := Lib.hid ok
    clear C ok hc
    go_enter Try.func34, Try.ntmps34
    go_wp2_with fail
    refine HC.out.mono ?_
    rintro e w1 ⟨rfl, hb1⟩
    have HBx := Lib.hid (HBX.out.step hb1 (by simp))
    go_wp2
    go_ret
    refine ⟨ret_bool ?_, HBx.out.below⟩
    exact (mayB_false _ _ (fun ok => HOk.out ok.net)).symm
end Go.Proofs.Ytkcilpkcjhnkaaa

/- T9 -/
namespace Go.Proofs.Ytkcilpkcjhnkaaa
open Go.RowKit

theorem info3 : (Try.prog.info? 3).map (fun i => (i.zero, i.size, i.bytes)) = some (some (.int .i64 0), 1, 8) := by kernel_rfl

/-- A new list of numbers, and an error's number. -/
def NewInts (w : World) (l : List Int) (c : Int) (e : Ending) (w' : World) : Prop :=
  ∃ v, e = .returned (.tuple #[v, .int .i64 c]) ∧ w'.ownsRow w.heap.size 3 1 v l.length (l.map (Value.int .i64)) ∧ Below w.heap.size w w'

theorem firstN_eq {N : NetV} (h : 0 ≤ N.ins) : ((firstN N : Nat) : Int) = 1 + N.ins + N.holds.length := by unfold firstN; omega

theorem arriveR_bad (w : World) (N : NetV) (h : NetAt w N) (f : Few N) (a : Option Addr) (n c : Nat) (cost : List Int) (hlen : cost.length = n) (hn : n ≤ 300) (S : Seq w a n (ints cost)) (ok : ¬ CostOk N cost) :
    Calls Try.prog 16 #[N.val, .slice a n c] w (NewInts w [] 1) := by
  have HBX := Lib.hid (Box.start w N)
  have C := may (w.alloc N.obj) N (h.below HBX.out.below (Nat.le_refl _)) f a n c cost hlen hn (S.below HBX.out.below (Nat.le_refl _))
  rw [mayB_false _ _ ok] at C
  have HC := Lib.hid C
  clear C S hlen h f ok
  go_enter Try.func16, Try.ntmps16
  go_wp2_with fail
  refine HC.out.mono ?_
  rintro e w1 ⟨rfl, hb1⟩
  go_wp2
  go_ret2
  exact ⟨_, rfl, World.ownsRow_nil _ _ _ _, HBX.out.below.trans (hb1.mono (by simp))⟩

set_option maxHeartbeats 1000000 in
theorem arriveR_ok (w : World) (N : NetV) (h : NetAt w N) (f : Few N) (a : Option Addr) (n c : Nat) (cost : List Int) (hlen : cost.length = n) (hn : n ≤ 300) (S : Seq w a n (ints cost)) (ok : CostOk N cost) :
    Calls Try.prog 16 #[N.val, .slice a n c] w (NewInts w (arrL N cost) 0) := by
  have HBX := Lib.hid (Box.start w N)
  have C := may (w.alloc N.obj) N (h.below HBX.out.below (Nat.le_refl _)) f a n c cost hlen hn (S.below HBX.out.below (Nat.le_refl _))
  rw [(mayB_iff _ _).2 ok] at C
  have hf0 := f.ins
  have hf1 := f.holds
  have hf2 := f.luts
  have hi0 := ok.net.ins0
  have C2 := fun W => firstR W N h.insR hf0 hf1
  rw [← firstN_eq hi0] at C2
  have hfl : firstN N ≤ 201 := by unfold firstN; omega
  have hfl0 : 0 < firstN N := by unfold firstN; omega
  have hfe := firstN_eq hi0
  obtain ⟨F0, hF0⟩ : ∃ F0, F0 = firstN N := ⟨_, rfl⟩
  rw [← hF0] at C2 hfl hfl0 hfe
  have HFE := Lib.hid hfe
  have HF0 := Lib.hid hF0
  clear hfe hF0
  have HC2 := Lib.hid C2
  have HC := Lib.hid C
  have HS := Lib.hid S
  have HLen := Lib.hid hlen
  have H := Lib.hid h
  have F := Lib.hid f
  have HOk := Lib.hid ok
  have hnl : n = N.luts.length := by rw [← hlen, ok.len]
  have HN := Lib.hid hnl
  have hn' : N.luts.length ≤ n := by omega
  clear C C2 S hlen h f ok hnl
  obtain ⟨i0, hi, hz0, hz1, hz2⟩ := info_parts info3
  obtain ⟨ins, ha, hc, holds, la, lc, luts, oa, oc, outs⟩ := N
  dsimp only at hf0 hf1 hf2 hi0 hn' HN ⊢
  go_enter Try.func16, Try.ntmps16
  go_wp2_with fail
  refine HC.out.mono ?_
  rintro e w1 ⟨rfl, hb1⟩
  have hbx := HBX.out.step hb1 (by simp)
  have HBx := Lib.hid hbx
  have c0 := hbx.c0
  have c1 := hbx.c1
  have c2 := hbx.c2
  have c3 := hbx.c3
  clear hbx
  dsimp only at c0 c1 c2 c3
  go_wp2_with fail
  refine (HC2.out _).mono ?_
  rintro e w2 ⟨rfl, hb2⟩
  have HBx2 := Lib.hid (HBx.out.step hb2 HBx.out.size)
  have d2 := HBx2.out.c2
  have hs2 := HBx2.out.size
  dsimp only at d2
  clear c0 c1 c2 c3 hb1 hb2
  go_wp2_with (at_make; refine wpList_make_full _ rfl (.tmp 17) (.tmp 17) 24 rfl (w.heap.size + 1) 3 i0 (.int .i64 0) 1 Try.underlying24 hi hz0 hz1 .i64 .i64 _ _ _ rfl rfl rfl rfl (by rw [hz2]; omega) (by unfold maxLen; omega) (by omega) ?_)
  intro w3 hown hgrow
  have HBx3 := Lib.hid (HBx2.out.step (C := w.heap.size + 1) ((Below.refl _ _).grown hgrow hs2 (fun k e => by cases e)) (Nat.le_refl _))
  have e2 := HBx3.out.c2
  dsimp only at e2
  have hs3 := HBx3.out.size
  have HOwn := Lib.hid hown
  clear hown hgrow d2 hs2
  go_wp2
  go_loopw [6, 22] (fun v i wr => ∃ j : Nat, j ≤ luts.length ∧ i = .int .i64 j ∧ Hid (Box w.heap.size w ⟨ins, ha, hc, holds, la, lc, luts, oa, oc, outs⟩ wr ∧ wr.ownsRow (w.heap.size + 1) 3 1 v (F0 + j) ((arrTo ⟨ins, ha, hc, holds, la, lc, luts, oa, oc, outs⟩ cost j).map (Value.int .i64)))) (fun _ i _ => luts.length - (intOf i).toNat)
  case atStart =>
    refine ⟨0, by omega, rfl, HBx3.out, ?_⟩
    have := HOwn.out
    rw [Nat.add_zero]
    simpa [arrTo, toList_madeCells_one, ← HF0.out] using this
  case round =>
    obtain ⟨j, hj, rfl, hh⟩ := hrel
    by_cases hlt : j < luts.length
    · obtain ⟨b, off, rfl, hbb, d0, d1⟩ := (H.out.below hh.out.1.below (Nat.le_refl _)).lut j hlt
      have hU := (H.out.lutAt j hlt).1
      have hrng := (HOk.out.net.lut j hlt).ins
      have h20 := F.out.lut _ (getD_mem luts default hlt)
      obtain ⟨L, hLe⟩ : ∃ L, L = luts.getD j default := ⟨_, rfl⟩
      dsimp only at d0 d1 hU hrng
      rw [← hLe] at d0 d1 hU hrng h20
      have HL := Lib.hid hLe
      clear hLe
      obtain ⟨P, hP⟩ : ∃ P, P = arrTo ⟨ins, ha, hc, holds, some ⟨b, off, none⟩, lc, luts, oa, oc, outs⟩ cost j := ⟨_, rfl⟩
      have hown := hh.out.2
      rw [← hP] at hown
      have hPb := arrTo_bound ⟨ins, ha, hc, holds, some ⟨b, off, none⟩, lc, luts, oa, oc, outs⟩ cost HOk.out.each j
      rw [← hP] at hPb
      obtain ⟨g, cap, rfl, hgB, hgs, hgc, hcell⟩ := owns_shape hown (by omega)
      have HPb := Lib.hid hPb
      have HP := Lib.hid hP
      have HSL := Lib.hid (hU.below hh.out.1.below (Nat.le_refl _))
      have hsc := (HS.out.below hh.out.1.below (Nat.le_refl _)).at j (by omega)
      obtain ⟨bc, oc', rfl, hbc, hcc⟩ := hsc
      have f0 := hcc j (by omega)
      unfold ints at f0
      have hcr : 0 ≤ cost.getD j 0 ∧ cost.getD j 0 ≤ 1048576 := HOk.out.each _ (getD_mem _ _ (by rw [HLen.out]; omega))
      obtain ⟨cx, hcx⟩ : ∃ x, x = cost.getD j 0 := ⟨_, rfl⟩
      rw [← hcx] at f0 hcr
      have HCX := Lib.hid hcx
      have HRng := Lib.hid hrng
      have HCell := Lib.hid hcell
      have hsw := hh.out.1.size
      have HOwn2 := Lib.hid hown
      clear hP hPb hU hcc hcx hrng hcell hown
      have M2 := @run_max2 Try.prog
      obtain ⟨La, Lc, Li, Lt⟩ := L
      dsimp only at d0 d1 h20
      have hm := mostOf_le P Li (1048576 * j) (by omega) (fun x hx => (HPb.out x hx).2)
      have hm0 := mostOf_nonneg P Li
      go_wp2
      go_loop [9, 30] (fun m q => ∃ r : Nat, r ≤ Li.length ∧ q = .int .i64 r ∧ m = .int .i64 (mostOf P (Li.take r))) (fun _ q => Li.length - (intOf q).toNat)
      case atStart => exact ⟨0, by omega, rfl, rfl⟩
      case round =>
        obtain ⟨r, hr, rfl, rfl⟩ := hrel
        by_cases hlr : r < Li.length
        · obtain ⟨b', off', hLa, hbb', hcl⟩ := HSL.out.at r hlr
          try dsimp only at hLa
          subst hLa
          have g0 := hcl r hlr
          unfold ints at g0
          try dsimp only at g0
          have hx := HRng.out _ (getD_mem Li 0 hlr)
          have hfe := HFE.out
          try dsimp only at hx hfe
          obtain ⟨xn, hxn⟩ := Int.eq_ofNat_of_zero_le hx.1
          have HTk := Lib.hid (mostOf_take P Li r hlr)
          rw [hxn] at g0 hx HTk
          have hxlt : xn < F0 + j := by omega
          have g1 := HCell.out xn hxlt
          have hxi : (xn : Int) < (F0 + j : Nat) := by omega
          rw [Int.toNat_natCast] at HTk
          obtain ⟨y, hy⟩ : ∃ y, y = P.getD xn 0 := ⟨_, rfl⟩
          rw [← hy] at HTk g1
          clear hy hxn hcl hfe hx
          go_wp2
          go_round
          case rel => exact ⟨r + 1, by omega, by go_num, by rw [HTk.out]⟩
          case measure => simp [intOf]; omega
        · obtain rfl : r = Li.length := by omega
          rw [List.take_length]
          go_wp2_with (at_builtin; refine wpList_append_own _ rfl (.tmp 41) (.tmp 48) 24 rfl (w.heap.size + 1) 3 i0 (.int .i64 0) 1 8 Try.underlying24 hi hz0 hz1 hz2 rfl (by decide) _ _ _ rfl ((HOwn2.out.alloc _).alloc _) ⟨wr.heap.size + 1, 0, none⟩ 1 1 [.int .i64 (cx + mostOf P Li)] rfl rfl ?c1 ?c2 ?c3 ?c4 ?c5 ?_)
          case c2 => rfl
          case c3 => unfold maxLen; omega
          case c4 => omega
          case c5 => omega
          intro v' w4 hown4 hgrow4 _
          have HB4 : Below (w.heap.size + 1) wr w4 := (((Below.refl _ _).alloc hsw _).alloc (by simp; omega) _).grown hgrow4 (by simp; omega) (fun k e => by cases e; exact hgB)
          have HBx4 := Lib.hid (hh.out.1.step HB4 (Nat.le_refl _))
          have HOwn4 := Lib.hid hown4
          clear hown4 hgrow4 HB4
          go_wp2
          go_roundw
          case rel =>
            refine ⟨j + 1, by omega, by go_num, HBx4.out, ?_⟩
            have := HOwn4.out
            rw [show arrTo ⟨ins, ha, hc, holds, some ⟨b, off, none⟩, lc, luts, oa, oc, outs⟩ cost (j + 1) = P ++ [cx + mostOf P Li] by
              simp only [arrTo]; rw [← HP.out, ← HCX.out, ← HL.out]]
            simpa [Nat.add_assoc] using this
          case measure => simp [intOf]; omega
    · obtain rfl : j = luts.length := by omega
      go_wp2
      go_ret2
      refine ⟨_, rfl, ?_, hh.out.1.below⟩
      have h1 := hh.out.2
      have h2 : (arrTo ⟨ins, ha, hc, holds, la, lc, luts, oa, oc, outs⟩ cost luts.length).length = F0 + luts.length := by rw [arrTo_length, ← HF0.out]
      show World.ownsRow _ _ _ _ _ (arrTo ⟨ins, ha, hc, holds, la, lc, luts, oa, oc, outs⟩ cost luts.length).length _
      rw [h2]
      exact h1.base_le (Nat.le_succ _)
end Go.Proofs.Ytkcilpkcjhnkaaa

/- T10 -/
namespace Go.Proofs.Ytkcilpkcjhnkaaa
open Go.RowKit

theorem set_mid (P Z : List Int) (m m' : Int) (n : Nat) (h : n = P.length) : ((P ++ m :: Z).map (Value.int .i64)).set n (.int .i64 m') = (P ++ m' :: Z).map (Value.int .i64) := by
  subst h
  simp

theorem getD_left (P Z : List Int) (n : Nat) (h : n < P.length) : (P ++ Z).getD n 0 = P.getD n 0 := by
  simp [List.getD, List.getElem?_append_left h]

theorem getD_mid (P Z : List Int) (m : Int) (n : Nat) (h : n = P.length) : (P ++ m :: Z).getD n 0 = m := by
  subst h
  simp [List.getD]

theorem costBad (w : World) (a : Option Addr) (n c : Nat) (cost : List Int) (hlen : cost.length = n) (hn : n ≤ 300) (S : Seq w a n (ints cost)) :
    Calls Try.prog 32 #[.slice a n c, .func (.func 31) #[] #[]] w fun e w' => e = .returned (.bool (cost.any fun x => !(decide (0 ≤ x) && decide (x ≤ 1048576)))) ∧ w = w' :=
  containsFunc w a n c cost hlen S (by omega) 31 (enters_of Try.func31 (by kernel_rfl) rfl) #[] _ (fun x _ => bad w x)

theorem arrive_bad (w : World) (N : NetV) (h : NetAt w N) (f : Few N) (a : Option Addr) (n c : Nat) (cost : List Int) (hlen : cost.length = n) (hn : n ≤ 300) (S : Seq w a n (ints cost)) (ok : ¬ CostOk N cost) :
    Calls Try.prog 15 #[N.val, .slice a n c] w (NewInts w [] 1) := by
  have HBX := Lib.hid (Box.start w N)
  have C := check (w.alloc N.obj) N (h.below HBX.out.below (Nat.le_refl _)) f 6 (by omega)
  have D := fun W (hW : Below w.heap.size w W) => costBad W a n c cost hlen hn (S.below hW (Nat.le_refl _))
  obtain ⟨cb, hcb⟩ : ∃ cb, cb = cost.any fun x => !(decide (0 ≤ x) && decide (x ≤ 1048576)) := ⟨_, rfl⟩
  rw [← hcb] at D
  have HD := Lib.hid D
  have HCb := Lib.hid hcb
  have HOk := Lib.hid ok
  have HLen := Lib.hid hlen
  have hf2 := f.luts
  clear D hcb S ok hlen h f
  rcases chk_cases N 6 with ⟨hc, nok⟩ | ⟨hc, nok⟩
  · rw [hc] at C
    have HC := Lib.hid C
    have HNk := Lib.hid nok
    clear C nok hc
    by_cases hnl : n = N.luts.length
    · have hnl' : ((n : Int) != N.luts.length) = false := by rw [bne_eq_false_iff_eq]; omega
      have HN := Lib.hid hnl
      clear hnl
      obtain rfl : cb = true := by
        rw [HCb.out]
        cases hx : cost.any fun x => !(decide (0 ≤ x) && decide (x ≤ 1048576))
        · exfalso
          rw [List.any_eq_false] at hx
          refine HOk.out ⟨HNk.out, by rw [HLen.out, HN.out], fun x hm => ?_⟩
          have := hx x hm
          simp at this
          omega
        · rfl
      go_enter Try.func15, Try.ntmps15
      go_wp2_with fail
      refine HC.out.mono ?_
      rintro e w1 ⟨rfl, hb1⟩
      have hbx := HBX.out.step hb1 (by simp)
      have c2 := hbx.c2
      have HBx := Lib.hid hbx
      clear hbx
      go_wp2_with fail
      refine (HD.out _ HBx.out.below).mono ?_
      rintro e w2 ⟨rfl, rfl⟩
      go_wp2
      go_ret2
      exact ⟨_, rfl, World.ownsRow_nil _ _ _ _, HBx.out.below⟩
    · have hnl' : ((n : Int) != N.luts.length) = true := by rw [bne_iff_ne]; omega
      have HN := Lib.hid hnl
      clear hnl
      go_enter Try.func15, Try.ntmps15
      go_wp2_with fail
      refine HC.out.mono ?_
      rintro e w1 ⟨rfl, hb1⟩
      have hbx := HBX.out.step hb1 (by simp)
      have c2 := hbx.c2
      have HBx := Lib.hid hbx
      clear hbx
      go_wp2
      go_ret2
      exact ⟨_, rfl, World.ownsRow_nil _ _ _ _, HBx.out.below⟩
  · rw [hc] at C
    have HC := Lib.hid C
    clear C
    go_enter Try.func15, Try.ntmps15
    go_wp2_with fail
    refine HC.out.mono ?_
    rintro e w1 ⟨rfl, hb1⟩
    have HBx := Lib.hid (HBX.out.step hb1 (by simp))
    go_wp2
    go_ret2
    exact ⟨_, rfl, World.ownsRow_nil _ _ _ _, HBx.out.below⟩
end Go.Proofs.Ytkcilpkcjhnkaaa

/- T11 -/
namespace Go.Proofs.Ytkcilpkcjhnkaaa
open Go.RowKit

set_option maxHeartbeats 2000000 in
theorem arrive_ok (w : World) (N : NetV) (h : NetAt w N) (f : Few N) (a : Option Addr) (n c : Nat) (cost : List Int) (hlen : cost.length = n) (hn : n ≤ 300) (S : Seq w a n (ints cost)) (ok : CostOk N cost) :
    Calls Try.prog 15 #[N.val, .slice a n c] w (NewInts w (arrL N cost) 0) := by
  have HBX := Lib.hid (Box.start w N)
  have C := check (w.alloc N.obj) N (h.below HBX.out.below (Nat.le_refl _)) f 6 (by omega)
  have D := fun W (hW : Below w.heap.size w W) => costBad W a n c cost hlen hn (S.below hW (Nat.le_refl _))
  rw [show (cost.any fun x => !(decide (0 ≤ x) && decide (x ≤ 1048576))) = false by
    rw [List.any_eq_false]; intro x hx; have := ok.each x hx; simp; omega] at D
  rw [show chk N 6 = 0 from if_pos ok.net] at C
  have hf0 := f.ins
  have hf1 := f.holds
  have hf2 := f.luts
  have hi0 := ok.net.ins0
  have C2 := fun W => first W N h.insR hf0 hf1
  rw [← firstN_eq hi0] at C2
  have hfl : firstN N ≤ 201 := by unfold firstN; omega
  have hfl0 : 0 < firstN N := by unfold firstN; omega
  have hfe := firstN_eq hi0
  obtain ⟨F0, hF0⟩ : ∃ F0, F0 = firstN N := ⟨_, rfl⟩
  rw [← hF0] at C2 hfl hfl0 hfe
  have HFE := Lib.hid hfe
  have HF0 := Lib.hid hF0
  clear hfe hF0
  have HC2 := Lib.hid C2
  have HD := Lib.hid D
  have HC := Lib.hid C
  have HS := Lib.hid S
  have HLen := Lib.hid hlen
  have H := Lib.hid h
  have F := Lib.hid f
  have HOk := Lib.hid ok
  have hnl : n = N.luts.length := by rw [← hlen, ok.len]
  have hnl' : ((n : Int) != N.luts.length) = false := by rw [bne_eq_false_iff_eq]; omega
  have HN := Lib.hid hnl
  have hn' : N.luts.length ≤ n := by omega
  clear C C2 D S hlen h f ok hnl
  have hmk := run_make_row' (P := Try.prog) 24 3 (.int .i64 0) 8 Try.underlying24 info3 rfl .i64 .i64 (F0 + N.luts.length) (by omega) (by omega)
  rw [show ((F0 + N.luts.length : Nat) : Int) = (F0 : Int) + N.luts.length by omega] at hmk
  obtain ⟨ins, ha, hc, holds, la, lc, luts, oa, oc, outs⟩ := N
  dsimp only at hf0 hf1 hf2 hi0 hn' HN hnl' hmk ⊢
  go_enter Try.func15, Try.ntmps15
  go_wp2_with fail
  refine HC.out.mono ?_
  rintro e w1 ⟨rfl, hb1⟩
  have hbx := HBX.out.step hb1 (by simp)
  have HBx := Lib.hid hbx
  have c0 := hbx.c0
  have c1 := hbx.c1
  have c2 := hbx.c2
  have c3 := hbx.c3
  have hs1 := hbx.size
  clear hbx
  dsimp only at c0 c1 c2 c3
  go_wp2_with fail
  refine (HD.out _ HBx.out.below).mono ?_
  rintro e w2 ⟨rfl, rfl⟩
  have hwr : IntKind.i64.wrap ((F0 : Int) + luts.length) = (F0 : Int) + luts.length := IntWalk.i64_in _ (by omega)
  go_wp2_with fail
  go_region_held3 (fun w' => w'.cell? ⟨w.heap.size, 0, none⟩ = some (.int .i64 ins) ∧ w'.cell? ⟨w.heap.size, 1, none⟩ = some (Value.slice ha holds.length hc) ∧ w'.cell? ⟨w.heap.size, 2, none⟩ = some (Value.slice la luts.length lc) ∧ w'.cell? ⟨w.heap.size, 3, none⟩ = some (Value.slice oa outs.length oc))
    (first | exact ⟨c0, c1, c2, c3⟩ | exact ⟨(hb2.cell (p := ⟨_, _, none⟩) (by simp; omega)).trans c0, (hb2.cell (p := ⟨_, _, none⟩) (by simp; omega)).trans c1, (hb2.cell (p := ⟨_, _, none⟩) (by simp; omega)).trans c2, (hb2.cell (p := ⟨_, _, none⟩) (by simp; omega)).trans c3⟩ | exact ⟨cell_alloc _ ((hb2.cell (p := ⟨_, _, none⟩) (by simp; omega)).trans c0), cell_alloc _ ((hb2.cell (p := ⟨_, _, none⟩) (by simp; omega)).trans c1), cell_alloc _ ((hb2.cell (p := ⟨_, _, none⟩) (by simp; omega)).trans c2), cell_alloc _ ((hb2.cell (p := ⟨_, _, none⟩) (by simp; omega)).trans c3)⟩)
    (first | (go_at_call 33; refine (HC2.out _).mono ?_; rintro e w2 ⟨rfl, hb2⟩))
  go_wp2
  have hb3 : Below w1.heap.size w1 w2 := (Below.refl _ _).drew.trans hb2
  have hs2 : w1.heap.size ≤ w2.heap.size := hb3.size
  have HBx2 := Lib.hid ((HBx.out.step hb3 HBx.out.size).step (C := w2.heap.size) (w' := w2.alloc (Obj.cells (madeCells #[Value.int IntKind.i64 0] (F0 + luts.length)) 3)) ((Below.refl _ _).alloc (Nat.le_refl _) _) (by omega))
  have hown : (w2.alloc (Obj.cells (madeCells #[Value.int IntKind.i64 0] (F0 + luts.length)) 3)).ownsRow (w.heap.size + 1) 3 1 (.slice (some ⟨w2.heap.size, 0, none⟩) (F0 + luts.length) (F0 + luts.length)) (F0 + luts.length) ((arrTo ⟨ins, ha, hc, holds, la, lc, luts, oa, oc, outs⟩ cost 0 ++ List.replicate (luts.length - 0) 0).map (Value.int .i64)) := by
    have h := World.ownsRow_lit (size := 1) (e := 3) (base := w.heap.size + 1) w2 (madeCells #[Value.int IntKind.i64 0] (F0 + luts.length)) (F0 + luts.length) (by omega) (by unfold maxLen; omega) (by simp [madeCells])
    rw [toList_madeCells_one] at h
    simpa [arrTo, ← HF0.out, ← List.replicate_append_replicate] using h
  obtain ⟨W3, hW3⟩ : ∃ W3, W3 = w2.alloc (Obj.cells (madeCells #[Value.int IntKind.i64 0] (F0 + luts.length)) 3) := ⟨_, rfl⟩
  rw [← hW3] at hown HBx2 ⊢
  have hgB : w.heap.size + 1 ≤ w2.heap.size := by omega
  obtain ⟨g, hg⟩ : ∃ g, g = w2.heap.size := ⟨_, rfl⟩
  rw [← hg] at hown hgB ⊢
  have HOwn := Lib.hid hown
  clear hown hW3 hg hb2 hb3 hs2 hs1 hmk hwr c0 c1 c2 c3
  go_loopw [39] (fun i wr => ∃ j : Nat, j ≤ luts.length ∧ i = .int .i64 j ∧ Hid (Box w.heap.size w ⟨ins, ha, hc, holds, la, lc, luts, oa, oc, outs⟩ wr ∧ wr.ownsRow (w.heap.size + 1) 3 1 (.slice (some ⟨g, 0, none⟩) (F0 + luts.length) (F0 + luts.length)) (F0 + luts.length) ((arrTo ⟨ins, ha, hc, holds, la, lc, luts, oa, oc, outs⟩ cost j ++ List.replicate (luts.length - j) 0).map (Value.int .i64)))) (fun i _ => luts.length - (intOf i).toNat)
  case atStart => exact ⟨0, by omega, rfl, HBx2.out, HOwn.out⟩
  case round =>
    obtain ⟨j, hj, rfl, hh⟩ := hrel
    by_cases hlt : j < luts.length
    · obtain ⟨b, off, rfl, hbb, d0, d1⟩ := (H.out.below hh.out.1.below (Nat.le_refl _)).lut j hlt
      have hU := (H.out.lutAt j hlt).1
      have hrng := (HOk.out.net.lut j hlt).ins
      have h20 := F.out.lut _ (getD_mem luts default hlt)
      obtain ⟨L, hLe⟩ : ∃ L, L = luts.getD j default := ⟨_, rfl⟩
      dsimp only at d0 d1 hU hrng
      rw [← hLe] at d0 d1 hU hrng h20
      have HL := Lib.hid hLe
      clear hLe
      obtain ⟨P, hP⟩ : ∃ P, P = arrTo ⟨ins, ha, hc, holds, some ⟨b, off, none⟩, lc, luts, oa, oc, outs⟩ cost j := ⟨_, rfl⟩
      have hPl : P.length = F0 + j := by rw [hP, arrTo_length, ← HF0.out]
      obtain ⟨Z, hZ⟩ : ∃ Z : List Int, Z = List.replicate (luts.length - (j + 1)) 0 := ⟨_, rfl⟩
      have hown := hh.out.2
      rw [← hP, show List.replicate (luts.length - j) (0 : Int) = 0 :: Z by rw [hZ, ← List.replicate_succ]; congr 1; omega] at hown
      have hPb := arrTo_bound ⟨ins, ha, hc, holds, some ⟨b, off, none⟩, lc, luts, oa, oc, outs⟩ cost HOk.out.each j
      rw [← hP] at hPb
      have HPb := Lib.hid hPb
      have HP := Lib.hid hP
      have HPl := Lib.hid hPl
      have HZ := Lib.hid hZ
      have hsc := HS.out.at j (by omega)
      obtain ⟨bc, oc', rfl, hbc, hcc⟩ := hsc
      have hcr : 0 ≤ cost.getD j 0 ∧ cost.getD j 0 ≤ 1048576 := HOk.out.each _ (getD_mem _ _ (by rw [HLen.out]; omega))
      have f00 := hcc j (by omega)
      unfold ints at f00
      obtain ⟨cx, hcx⟩ : ∃ x, x = cost.getD j 0 := ⟨_, rfl⟩
      rw [← hcx] at f00 hcr
      have HCX := Lib.hid hcx
      have HRng := Lib.hid hrng
      have HF00 := Lib.hid f00
      have HU := Lib.hid hU
      have hsw := hh.out.1.size
      have HOwn2 := Lib.hid hown
      clear hP hPb hPl hZ hU hcc hcx hrng hown f00
      have M2 := @run_max2 Try.prog
      obtain ⟨La, Lc, Li, Lt⟩ := L
      dsimp only at d0 d1 h20
      have hm := mostOf_le P Li (1048576 * j) (by omega) (fun x hx => (HPb.out x hx).2)
      have hm0 := mostOf_nonneg P Li
      have hwlt : w.heap.size < wr.heap.size := by omega
      have c0 := hh.out.1.c0
      have c1 := hh.out.1.c1
      have c2 := hh.out.1.c2
      have c3 := hh.out.1.c3
      dsimp only at c0 c1 c2 c3
      go_wp2_with fail
      refine (HC2.out _).mono ?_
      rintro e w5 ⟨rfl, hb5⟩
      obtain ⟨W2, hW2⟩ : ∃ W2, W2 = wr.alloc (Obj.cells #[Value.slice La Li.length Lc, Value.int IntKind.u64 Lt] 48) := ⟨_, rfl⟩
      rw [← hW2] at hb5
      have hs2 : W2.heap.size = wr.heap.size + 1 := by rw [hW2]; simp
      have hs5 := hb5.size
      have e0 : w5.cell? ⟨wr.heap.size, 0, none⟩ = some (.slice La Li.length Lc) := (hb5.cell (p := ⟨_, _, none⟩) (by simp; omega)).trans (by rw [hW2]; simp)
      have hbw : Below wr.heap.size wr w5 := ((Below.refl _ _).alloc (Nat.le_refl _) _).trans (by rw [← hW2]; exact hb5.mono (by omega))
      have HBx5 := Lib.hid (hh.out.1.step hbw hsw)
      have hg0 := HOwn2.out.lt g rfl
      have hown5 : w5.ownsRow (w.heap.size + 1) 3 1 (.slice (some ⟨g, 0, none⟩) (F0 + luts.length) (F0 + luts.length)) (F0 + luts.length) ((P ++ mostOf P (Li.take 0) :: Z).map (Value.int .i64)) :=
        HOwn2.out.kept (row := none) ⟨hbw.os, hbw.tape, hbw.output, hbw.size, fun k hk _ => hbw.block k hk⟩ (.inr (by simp [Value.ownBlock]))
      have HOwn5 := Lib.hid hown5
      have HBw := Lib.hid hbw
      clear hb5 hW2 hbw hown5 c0 c1 c2 c3 d0 d1
      go_wp2
      go_loopw [53] (fun q wq => ∃ r : Nat, r ≤ Li.length ∧ q = .int .i64 r ∧ Hid (w5.grownBy wq (some g) ∧ wq.ownsRow (w.heap.size + 1) 3 1 (.slice (some ⟨g, 0, none⟩) (F0 + luts.length) (F0 + luts.length)) (F0 + luts.length) ((P ++ mostOf P (Li.take r) :: Z).map (Value.int .i64)))) (fun q _ => Li.length - (intOf q).toNat)
      case atStart => exact ⟨0, by omega, rfl, World.grownBy.refl _ _, HOwn5.out⟩
      case round =>
        obtain ⟨r, hr, rfl, hq⟩ := hrel
        have hgq := hq.out.1
        obtain ⟨g', cap', hsl, _, hgs, _, hcell⟩ := owns_shape hq.out.2 (by omega)
        obtain ⟨rfl, rfl⟩ : g = g' ∧ F0 + luts.length = cap' := by simpa using hsl
        clear hsl
        by_cases hlr : r < Li.length
        · obtain ⟨b', off', hLa, hbb', hcl⟩ := HU.out.at r hlr
          try dsimp only at hLa
          subst hLa
          have g0 := hcl r hlr
          unfold ints at g0
          try dsimp only at g0
          have hx := HRng.out _ (getD_mem Li 0 hlr)
          have hfe := HFE.out
          try dsimp only at hx hfe
          obtain ⟨xn, hxn⟩ := Int.eq_ofNat_of_zero_le hx.1
          have HTk := Lib.hid (mostOf_take P Li r hlr)
          rw [hxn] at g0 hx HTk
          have hxlt : xn < F0 + j := by omega
          rw [Int.toNat_natCast] at HTk
          have g1 := hcell xn (by omega)
          rw [getD_left _ _ _ (by rw [HPl.out]; exact hxlt)] at g1
          have g2 := hcell (F0 + j) (by omega)
          rw [getD_mid _ _ _ _ (by rw [HPl.out])] at g2
          have g3 := hq.out.2.frozenAt (F0 + j)
          obtain ⟨y, hy⟩ : ∃ y, y = P.getD xn 0 := ⟨_, rfl⟩
          rw [← hy] at HTk g1
          obtain ⟨m, hmm⟩ : ∃ m, m = mostOf P (Li.take r) := ⟨_, rfl⟩
          rw [← hmm] at HTk g2
          have g0' := hgq.cell (HBw.out.cell (p := ⟨b', off' + r, none⟩) (by simp; omega) |>.trans ((hh.out.1.below.cell (p := ⟨b', off' + r, none⟩) hbb').trans g0)) (by simp; omega)
          have hPlen := HPl.out
          have hgne : b' ≠ g := by omega
          have hxi : (xn : Int) < (F0 + luts.length : Nat) := by omega
          clear hcell hxn hy hmm hcl hfe hx g0
          go_wp2_with fail
          go_region
          go_wp2
          go_roundw
          case rel =>
            have hst := own_store hq.out.2 (F0 + j) (.int .i64 (max m y))
            refine ⟨r + 1, by omega, by go_num, grownBy_trans (grownBy_trans hgq hst.2) (grownBy_drew _ _), ?_⟩
            have h4 := hst.1
            rw [set_mid _ _ _ _ _ (by rw [HPl.out])] at h4
            rw [HTk.out]
            exact h4
          case measure => simp [intOf]; omega
        · obtain rfl : r = Li.length := by omega
          rw [List.take_length] at hq
          have g2 := hcell (F0 + j) (by omega)
          rw [List.take_length, getD_mid _ _ _ _ (by rw [HPl.out])] at g2
          have g3 := hq.out.2.frozenAt (F0 + j)
          have f0 : wr.cell? ⟨bc, oc' + j, none⟩ = some (.int .i64 cx) := hgq.cell (HBw.out.cell (p := ⟨bc, oc' + j, none⟩) (by simp; omega) |>.trans ((hh.out.1.below.cell (p := ⟨bc, oc' + j, none⟩) hbc).trans HF00.out)) (by simp; omega)
          have hwr : IntKind.i64.wrap (mostOf P Li + cx) = mostOf P Li + cx := IntWalk.i64_in _ (by omega)
          have hji : (j : Int) < n := by omega
          clear hcell
          go_wp2_with fail
          go_region
          go_wp2
          go_roundw
          case rel =>
            have hst := own_store hq.out.2 (F0 + j) (.int .i64 (mostOf P Li + cx))
            have hb6 : Below (w.heap.size + 1) w5 (wr.setCell ⟨g, F0 + j, none⟩ (.int .i64 (mostOf P Li + cx))).drew :=
              grownBy_below (grownBy_trans (grownBy_trans hgq hst.2) (grownBy_drew _ _)) HBx5.out.size (by omega)
            refine ⟨j + 1, by omega, by go_num, HBx5.out.step hb6 (Nat.le_refl _), ?_⟩
            have h4 := hst.1
            rw [set_mid _ _ _ _ _ (by rw [HPl.out])] at h4
            rw [show arrTo ⟨ins, ha, hc, holds, some ⟨b, off, none⟩, lc, luts, oa, oc, outs⟩ cost (j + 1) = P ++ [cx + mostOf P Li] by
              simp only [arrTo]; rw [← HP.out, ← HCX.out, ← HL.out], ← HZ.out, List.append_assoc, Int.add_comm cx]
            exact h4
          case measure => simp [intOf]; omega
    · obtain rfl : j = luts.length := by omega
      go_wp2
      go_ret2
      refine ⟨_, rfl, ?_, hh.out.1.below⟩
      have h1 := hh.out.2
      have h2 : (arrTo ⟨ins, ha, hc, holds, la, lc, luts, oa, oc, outs⟩ cost luts.length).length = F0 + luts.length := by rw [arrTo_length, ← HF0.out]
      show World.ownsRow _ _ _ _ _ (arrTo ⟨ins, ha, hc, holds, la, lc, luts, oa, oc, outs⟩ cost luts.length).length _
      rw [h2]
      simpa [arrL] using h1.base_le (Nat.le_succ _)
end Go.Proofs.Ytkcilpkcjhnkaaa

/- T5 -/
namespace Go.Proofs.Ytkcilpkcjhnkaaa
open Go.RowKit

theorem drewN_cell (w : World) (n : Nat) (a : Addr) : (w.drewN n).cell? a = w.cell? a := rfl

/-- SameInts, whatever the two lists. -/
theorem sameInts (w : World) (a0 a1 : Option Addr) (n0 c0 n1 c1 : Nat) (l0 l1 : List Int) (e0 : l0.length = n0) (e1 : l1.length = n1) (b0 : n0 ≤ 9223372036854775807) (b1 : n1 ≤ 9223372036854775807)
    (h0 : Seq w a0 n0 (ints l0)) (h1 : Seq w a1 n1 (ints l1)) :
    Calls Try.prog 17 #[.slice a0 n0 c0, .slice a1 n1 c1] w fun e w' => e = .returned (.bool (decide (l0 = l1))) ∧ Below w.heap.size w w' := by
  have H0 := Lib.hid h0
  have H1 := Lib.hid h1
  have E0 := Lib.hid e0
  have E1 := Lib.hid e1
  clear h0 h1 e0 e1
  by_cases hn : n0 = n1
  · subst hn
    go_enter Try.func17, Try.ntmps17
    go_wp2
    go_loopw [13] (fun i wr => ∃ k : Nat, k ≤ n0 ∧ i = .int .i64 k ∧ Hid ((∀ j, j < k → l0.getD j 0 = l1.getD j 0) ∧ ∃ nq, wr = w.drewN nq)) (fun i _ => n0 - (intOf i).toNat)
    case atStart => exact ⟨0, by omega, rfl, ⟨fun j hj => by omega, 0, rfl⟩⟩
    case round =>
      obtain ⟨k, hk, rfl, hh⟩ := hrel
      obtain ⟨ht, nq, rfl⟩ := hh
      have Ht := Lib.hid ht
      clear ht
      by_cases hlt : k < n0
      · obtain ⟨b, off, rfl, _, hc0⟩ := H0.out.at k hlt
        obtain ⟨b', off', rfl, _, hc1⟩ := H1.out.at k hlt
        have d0 := hc0 k hlt
        have d1 := hc1 k hlt
        clear hc0 hc1
        unfold ints at d0 d1
        obtain ⟨x, hx⟩ : ∃ x, x = l0.getD k 0 := ⟨_, rfl⟩
        obtain ⟨y, hy⟩ : ∃ y, y = l1.getD k 0 := ⟨_, rfl⟩
        rw [← hx] at d0
        rw [← hy] at d1
        have HX := Lib.hid hx
        have HY := Lib.hid hy
        clear hx hy
        by_cases hv : x = y
        · subst hv
          go_wp2
          go_quiet (fail)
          go_wp2
          go_roundw
          case rel => exact ⟨k + 1, by omega, by go_num, fun j hj => by
            rcases Nat.lt_succ_iff_lt_or_eq.1 hj with h | rfl
            · exact Ht.out j h
            · rw [← HX.out, ← HY.out], _, rfl⟩
          case measure => simp [intOf]; omega
        · have hv' : (x != y) = true := by simpa using hv
          have HV := Lib.hid hv
          clear hv
          go_wp2
          go_quiet (fail)
          go_wp2
          go_ret
          refine ⟨ret_bool ?_, by first | exact belowN (Below.refl _ _) | exact belowN (belowN (Below.refl _ _))⟩
          refine (decide_eq_false (fun h => HV.out ?_)).symm
          rw [HX.out, HY.out, h]
      · obtain rfl : k = n0 := by omega
        go_wp2
        go_ret
        refine ⟨ret_bool ?_, by first | exact belowN (Below.refl _ _) | exact belowN (belowN (Below.refl _ _))⟩
        refine (decide_eq_true ?_).symm
        apply List.ext_getElem (by rw [E0.out, E1.out])
        intro i h1 h2
        have := Ht.out i (by rw [← E0.out]; exact h1)
        simpa [List.getD, List.getElem?_eq_getElem h1, List.getElem?_eq_getElem h2] using this
  · have hn' : ((n0 : Int) != n1) = true := by rw [bne_iff_ne]; omega
    have HN := Lib.hid hn
    clear hn
    go_enter Try.func17, Try.ntmps17
    go_wp2
    go_ret
    refine ⟨ret_bool ?_, (Below.refl _ _)⟩
    refine (decide_eq_false (fun h => HN.out ?_)).symm
    rw [← E0.out, ← E1.out, h]
end Go.Proofs.Ytkcilpkcjhnkaaa

/- T12 -/
namespace Go.Proofs.Ytkcilpkcjhnkaaa
open Go.RowKit

/-- The chapter's two tables, as 'two' lays them from block B on. -/
def twoN (B : Nat) : NetV := ⟨1, none, 0, [], some ⟨B + 1 + 1 + 1, 0, none⟩, 2, [⟨some ⟨B + 1, 0, none⟩, 1, [1], 1⟩, ⟨some ⟨B + 1 + 1, 0, none⟩, 1, [2], 1⟩], some ⟨B + 1 + 1 + 1 + 1, 0, none⟩, 1, [3]⟩

theorem two (w : World) :
    Calls Try.prog 30 #[] w fun e w' => e = .returned (twoN w.heap.size).val ∧ NetAt w' (twoN w.heap.size) ∧ Below w.heap.size w w' := by
  go_enter Try.func30, Try.ntmps30
  go_wp2
  go_returns
  refine ⟨rfl, ?_, ((((((Below.refl _ _).alloc (Nat.le_refl _) _).alloc (by simp) _).alloc (by simp; omega) _).alloc (by simp; omega) _).alloc (by simp; omega) _)⟩
  refine ⟨by simp [twoN, I64], .inl rfl, .inr ⟨_, 0, rfl, ?_⟩, .inr ⟨_, 0, rfl, ?_⟩, ?_, by simp [twoN], by simp [twoN, I64], by simp [twoN], by simp [twoN], by simp [twoN]⟩
  · intro i hi
    simp only [twoN, List.length_cons, List.length_nil] at hi
    have h : i = 0 ∨ i = 1 ∨ i = 2 ∨ i = 3 := by omega
    rcases h with rfl | rfl | rfl | rfl <;> simp [go_sem, lutCell, twoN]
  · intro i hi
    simp only [twoN, List.length_cons, List.length_nil] at hi
    obtain rfl : i = 0 := by omega
    simp [go_sem, ints, twoN]
  · intro l hl
    simp only [twoN, List.mem_cons, List.not_mem_nil, or_false] at hl
    rcases hl with rfl | rfl
    · refine ⟨.inr ⟨_, 0, rfl, fun i hi => ?_⟩, by simp [U64], by simp [I64], by simp⟩
      obtain rfl : i = 0 := by simp at hi; exact hi
      simp [go_sem, ints]
    · refine ⟨.inr ⟨_, 0, rfl, fun i hi => ?_⟩, by simp [U64], by simp [I64], by simp⟩
      obtain rfl : i = 0 := by simp at hi; exact hi
      simp [go_sem, ints]

theorem twoN_few (B : Nat) : Few (twoN B) :=
  ⟨by simp [twoN], by simp [twoN], by simp [twoN], by simp [twoN], by simp [twoN]⟩

theorem twoN_ok (B : Nat) : NetOk (twoN B) 6 := by
  refine ⟨by simp [twoN], ?_, by simp [twoN], by simp [twoN]⟩
  intro i hi
  simp only [twoN, List.length_cons, List.length_nil] at hi
  have h : i = 0 ∨ i = 1 := by omega
  rcases h with rfl | rfl <;> exact ⟨by simp [twoN], by simp [twoN, rowsN], by simp [twoN]⟩

theorem twoN_cost (B : Nat) : CostOk (twoN B) [3, 4] := ⟨twoN_ok B, by simp [twoN], by simp⟩

theorem twoN_arr (B : Nat) : arrL (twoN B) [3, 4] = [0, 0, 3, 7] := by rfl

set_option maxHeartbeats 1000000 in
theorem live (w : World) : Calls Try.prog 13 #[] w fun e w' => e = .returned (.bool true) ∧ Below w.heap.size w w' := by
  go_enter Try.func13, Try.ntmps13
  go_wp2_with fail
  refine (two _).mono ?_
  rintro e w1 ⟨rfl, hN, hb1⟩
  have HN := Lib.hid hN
  have HB1 := Lib.hid hb1
  clear hN hb1
  go_wp2_with fail
  have hA := arrive_ok (w1.alloc (Obj.cells #[Value.int IntKind.i64 3, Value.int IntKind.i64 4] 3)) (twoN w.heap.size) (HN.out.below ((Below.refl _ _).alloc (Nat.le_refl _) _) (Nat.le_refl _)) (twoN_few _)
    (some ⟨w1.heap.size, 0, none⟩) 2 2 [3, 4] rfl (by omega) (.inr ⟨_, 0, rfl, fun i hi => by
      have h : i = 0 ∨ i = 1 := by omega
      rcases h with rfl | rfl <;> simp [go_sem, ints]⟩) (twoN_cost _)
  refine hA.mono ?_
  rintro e w2 ⟨v, rfl, hown, hb2⟩
  rw [twoN_arr] at hown
  obtain ⟨a, cap, rfl, hS, _, _⟩ := owns_seq hown
  have HB2 := Lib.hid (HB1.out.trans (((Below.refl (w1.heap.size) w1).alloc (Nat.le_refl _) _).trans (hb2.mono (by simp)) |>.mono HB1.out.size))
  have HS := Lib.hid hS
  clear hA hown hb2 hS
  go_wp2_with fail
  have hC := sameInts (w2.alloc (Obj.cells #[Value.int IntKind.i64 0, Value.int IntKind.i64 0, Value.int IntKind.i64 3, Value.int IntKind.i64 7] 3)) a (some ⟨w2.heap.size, 0, none⟩) 4 cap 4 4 [0, 0, 3, 7] [0, 0, 3, 7] rfl rfl (by omega) (by omega)
    (HS.out.below ((Below.refl _ _).alloc (Nat.le_refl _) _) (Nat.le_refl _)) (.inr ⟨_, 0, rfl, fun i hi => by
      have h : i = 0 ∨ i = 1 ∨ i = 2 ∨ i = 3 := by omega
      rcases h with rfl | rfl | rfl | rfl <;> simp [go_sem, ints]⟩)
  refine hC.mono ?_
  rintro e w3 ⟨rfl, hb3⟩
  go_wp2
  go_ret
  exact ⟨ret_bool (by simp), HB2.out.trans (((Below.refl (w2.heap.size) w2).alloc (Nat.le_refl _) _).trans (hb3.mono (by simp)) |>.mono HB2.out.size)⟩
end Go.Proofs.Ytkcilpkcjhnkaaa

/- L1 -/
namespace Go.Proofs.Ytkcilpkcjhnkaaa
open Go.RowKit

theorem few_of (N : NetV) (h : fewB N = true) : Few N := by
  simp only [fewB, Bool.and_eq_true, decide_eq_true_eq, List.all_eq_true] at h
  obtain ⟨⟨⟨⟨h1, h2⟩, h3⟩, h4⟩, h5⟩ := h
  exact ⟨h1, h2, h3, h4, h5⟩

open Classical in
noncomputable def arrO (N : NetV) (cost : List Int) : List Int := if CostOk N cost then arrL N cost else []
open Classical in
noncomputable def arrE (N : NetV) (cost : List Int) : Int := if CostOk N cost then 0 else 1

theorem arrive (w : World) (N : NetV) (h : NetAt w N) (f : Few N) (a : Option Addr) (n c : Nat) (cost : List Int) (hlen : cost.length = n) (hn : n ≤ 300) (S : Seq w a n (ints cost)) :
    Calls Try.prog 15 #[N.val, .slice a n c] w (NewInts w (arrO N cost) (arrE N cost)) := by
  by_cases ok : CostOk N cost
  · rw [arrO, if_pos ok, arrE, if_pos ok]; exact arrive_ok w N h f a n c cost hlen hn S ok
  · rw [arrO, if_neg ok, arrE, if_neg ok]; exact arrive_bad w N h f a n c cost hlen hn S ok

theorem arriveR (w : World) (N : NetV) (h : NetAt w N) (f : Few N) (a : Option Addr) (n c : Nat) (cost : List Int) (hlen : cost.length = n) (hn : n ≤ 300) (S : Seq w a n (ints cost)) :
    Calls Try.prog 16 #[N.val, .slice a n c] w (NewInts w (arrO N cost) (arrE N cost)) := by
  by_cases ok : CostOk N cost
  · rw [arrO, if_pos ok, arrE, if_pos ok]; exact arriveR_ok w N h f a n c cost hlen hn S ok
  · rw [arrO, if_neg ok, arrE, if_neg ok]; exact arriveR_bad w N h f a n c cost hlen hn S ok

theorem arrO_length (N : NetV) (cost : List Int) (f : Few N) : (arrO N cost).length ≤ 401 := by
  unfold arrO
  split
  · have h1 := f.ins
    have h2 := f.holds
    have h3 := f.luts
    rw [arrL, arrTo_length, firstN]; omega
  · simp

set_option maxHeartbeats 1000000 in
theorem delayArrives (w : World) (N : NetV) (h : NetAt w N) (a : Option Addr) (n c : Nat) (cost : List Int) (hlen : cost.length = n) (hn : n ≤ 9223372036854775807) (S : Seq w a n (ints cost)) :
    Calls Try.prog 3 #[N.val, .slice a n c] w fun e w' => e = .returned (.bool true) ∧ Below w.heap.size w w' := by
  have HBX := Lib.hid (Box.start w N)
  have H := Lib.hid h
  have HS := Lib.hid S
  have HLen := Lib.hid hlen
  clear h S hlen
  obtain ⟨fb, hfb⟩ : ∃ b, b = fewB N := ⟨_, rfl⟩
  have HF := Lib.hid hfb
  clear hfb
  go_enter Try.func3, Try.ntmps3
  go_wp2_with fail
  refine (live _).mono ?_
  rintro e w1 ⟨rfl, hb1⟩
  have hbx := HBX.out.step hb1 (by simp)
  have HBx := Lib.hid hbx
  have c0 := hbx.c0
  have c1 := hbx.c1
  have c2 := hbx.c2
  have c3 := hbx.c3
  clear hbx hb1
  go_wp2_with fail
  have hC := few w1 N (H.out.below HBx.out.below (Nat.le_refl _)) a n c hn
  rw [← HF.out] at hC
  refine hC.mono ?_
  rintro e w2 ⟨rfl, hb2⟩
  have hbx := HBx.out.step hb2 HBx.out.size
  have HBx2 := Lib.hid hbx
  have d0 := hbx.c0
  have d1 := hbx.c1
  have d2 := hbx.c2
  have d3 := hbx.c3
  clear hbx hb2 c0 c1 c2 c3 hC
  cases fb
  · go_wp2
    go_ret
    exact ⟨ret_bool (by simp), HBx2.out.below⟩
  · by_cases h300 : n ≤ 300
    · have F := few_of N HF.out.symm
      have hAl := arrO_length N cost F
      obtain ⟨A, hA⟩ : ∃ A, A = arrO N cost := ⟨_, rfl⟩
      obtain ⟨E, hE⟩ : ∃ E, E = arrE N cost := ⟨_, rfl⟩
      have HF := Lib.hid F
      rw [← hA] at hAl
      have HA := Lib.hid hA
      have HE := Lib.hid hE
      clear F hA hE
      go_wp2_with fail
      have hC := arrive w2 N (H.out.below HBx2.out.below (Nat.le_refl _)) HF.out a n c cost HLen.out h300 (HS.out.below HBx2.out.below (Nat.le_refl _))
      rw [← HA.out, ← HE.out] at hC
      refine hC.mono ?_
      rintro e w3 ⟨v, rfl, hown, hb3⟩
      obtain ⟨va, vc, rfl, hVS, _, _⟩ := owns_seq hown
      have hbx := HBx2.out.step hb3 HBx2.out.size
      have HBx3 := Lib.hid hbx
      have e0 := hbx.c0
      have e1 := hbx.c1
      have e2 := hbx.c2
      have e3 := hbx.c3
      have HVS := Lib.hid hVS
      clear hbx hb3 hC hown hVS d0 d1 d2 d3
      go_wp2_with fail
      have hC := arriveR w3 N (H.out.below HBx3.out.below (Nat.le_refl _)) HF.out a n c cost HLen.out h300 (HS.out.below HBx3.out.below (Nat.le_refl _))
      rw [← HA.out, ← HE.out] at hC
      refine hC.mono ?_
      rintro e w4 ⟨v, rfl, hown, hb4⟩
      obtain ⟨ua, uc, rfl, hUS, _, _⟩ := owns_seq hown
      have HBx4 := Lib.hid (HBx3.out.step hb4 HBx3.out.size)
      have HVS4 := Lib.hid (HVS.out.below hb4 (Nat.le_refl _))
      have HUS := Lib.hid hUS
      clear hb4 hC hown hUS e0 e1 e2 e3
      go_wp2_with fail
      have hC := sameInts w4 va ua A.length vc A.length uc A A rfl rfl (by omega) (by omega) HVS4.out HUS.out
      rw [decide_eq_true (rfl : A = A)] at hC
      refine hC.mono ?_
      rintro e w5 ⟨rfl, hb5⟩
      have HB5 := Lib.hid (HBx4.out.below.trans (hb5.mono (by have := HBx4.out.size; omega)))
      clear hb5 hC
      go_wp2
      go_ret
      exact ⟨ret_bool (by simp), HB5.out⟩
    · go_wp2
      go_ret
      exact ⟨ret_bool (by simp), HBx2.out.below⟩
end Go.Proofs.Ytkcilpkcjhnkaaa
