import Derived.Test.YtibimdhmfchcoaaA1
namespace Go.Proofs.Ytibimdhmfchcoaa
open Go.RowKit

theorem count25 (w : World) (N : NetV) (h1 : I64 N.ins) (h2 : N.ins ≤ 100) (h3 : N.holds.length ≤ 100) (h4 : N.luts.length ≤ 200) :
    Calls Try.prog 56 #[N.val] w fun e w' => e = .returned (.int .i64 (1 + N.ins + N.holds.length + N.luts.length)) ∧ Below w.heap.size w w' := by
  obtain ⟨h1, _⟩ := h1
  go_enter Try.func56, Try.ntmps56
  go_wp2
  go_ret
  exact ⟨rfl, (Below.refl _ _).alloc (Nat.le_refl _) _⟩

theorem rows25 (w : World) (n : Nat) (hn : n ≤ 20) :
    Calls Try.prog 69 #[.int .i64 (n : Int)] w fun e w' => e = .returned (.int .u64 (rowsN n : Nat)) ∧ w = w' := by
  have hc : n = 0 ∨ n = 1 ∨ n = 2 ∨ n = 3 ∨ n = 4 ∨ n = 5 ∨ 6 ≤ n := by omega
  rcases hc with rfl | rfl | rfl | rfl | rfl | rfl | h6
  case inr.inr.inr.inr.inr.inr =>
    have e : rowsN n = 18446744073709551615 := by unfold rowsN; rw [show min n 6 = 6 by omega]
    have E := Lib.hid e
    clear e
    go_enter Try.func69, Try.ntmps69
    go_wp2
    go_ret
    exact ⟨ret_int (by rw [E.out]; rfl), rfl⟩
  all_goals
    go_enter Try.func69, Try.ntmps69
    go_wp2
    go_ret
    exact ⟨rfl, rfl⟩

end Go.Proofs.Ytibimdhmfchcoaa


namespace Go.Proofs.Ytibimdhmfchcoaa
open Go.RowKit

/-- A net's box (a parameter's) at block B; below B nothing has turned since w. -/
structure Box (B : Nat) (w : World) (N : NetV) (wr : World) : Prop where
  below : Below B w wr
  size : B + 1 ≤ wr.heap.size
  c0 : wr.cell? ⟨B, 0, none⟩ = some (.int .i64 N.ins)
  c1 : wr.cell? ⟨B, 1, none⟩ = some (Value.slice N.ha N.holds.length N.hc)
  c2 : wr.cell? ⟨B, 2, none⟩ = some (Value.slice N.la N.luts.length N.lc)
  c3 : wr.cell? ⟨B, 3, none⟩ = some (Value.slice N.oa N.outs.length N.oc)

abbrev NetV.obj (N : NetV) : Obj := .cells #[Value.int IntKind.i64 N.ins, Value.slice N.ha N.holds.length N.hc, Value.slice N.la N.luts.length N.lc, Value.slice N.oa N.outs.length N.oc] 26

theorem Box.start (w : World) (N : NetV) : Box w.heap.size w N (w.alloc N.obj) :=
  ⟨(Below.refl _ _).alloc (Nat.le_refl _) _, by simp, by simp, by simp, by simp, by simp⟩

theorem Box.step {B C : Nat} {w wr w' : World} {N : NetV} (h : Box B w N wr) (hb : Below C wr w') (hC : B + 1 ≤ C) : Box B w N w' :=
  ⟨h.below.trans (hb.mono (by omega)), Nat.le_trans h.size hb.size, (hb.cell (p := ⟨B, 0, none⟩) (by simp; omega)).trans h.c0, (hb.cell (p := ⟨B, 1, none⟩) (by simp; omega)).trans h.c1,
    (hb.cell (p := ⟨B, 2, none⟩) (by simp; omega)).trans h.c2, (hb.cell (p := ⟨B, 3, none⟩) (by simp; omega)).trans h.c3⟩

end Go.Proofs.Ytibimdhmfchcoaa
namespace Go.Proofs.Ytibimdhmfchcoaa
open Go.RowKit

theorem drewN_cell (w : World) (n : Nat) (a : Addr) : (w.drewN n).cell? a = w.cell? a := rfl

/-- SameInts, whatever the two lists. -/
theorem sameInts (w : World) (a0 a1 : Option Addr) (n0 c0 n1 c1 : Nat) (l0 l1 : List Int) (e0 : l0.length = n0) (e1 : l1.length = n1) (b0 : n0 ≤ 9223372036854775807) (b1 : n1 ≤ 9223372036854775807)
    (h0 : Seq w a0 n0 (ints l0)) (h1 : Seq w a1 n1 (ints l1)) :
    Calls Try.prog 32 #[.slice a0 n0 c0, .slice a1 n1 c1] w fun e w' => e = .returned (.bool (decide (l0 = l1))) ∧ Below w.heap.size w w' := by
  have H0 := Lib.hid h0
  have H1 := Lib.hid h1
  have E0 := Lib.hid e0
  have E1 := Lib.hid e1
  clear h0 h1 e0 e1
  by_cases hn : n0 = n1
  · subst hn
    go_enter Try.func32, Try.ntmps32
    go_wp2
    go_loopw [13] (fun i wr => ∃ k : Nat, k ≤ n0 ∧ i = .int .i64 k ∧ Hid ((∀ j, j < k → l0.getD j 0 = l1.getD j 0) ∧ ∃ nq, wr = w.drewN nq)) (fun i _ => n0 - (intOf i).toNat)
    case atStart => exact ⟨0, by omega, rfl, ⟨fun j hj => by omega, 0, rfl⟩⟩
    case round =>
      obtain ⟨k, hk, rfl, hh⟩ := hrel
      obtain ⟨ht, nq, rfl⟩ := hh
      have Ht := Lib.hid ht
      clear ht
      by_cases hlt : k < n0
      · obtain ⟨b, off, rfl, _, hc0⟩ := H0.out.at k hlt
        obtain ⟨b', off', rfl, _, hc1⟩ := H1.out.at k hlt
        have d0 := hc0 k hlt
        have d1 := hc1 k hlt
        clear hc0 hc1
        unfold ints at d0 d1
        obtain ⟨x, hx⟩ : ∃ x, x = l0.getD k 0 := ⟨_, rfl⟩
        obtain ⟨y, hy⟩ : ∃ y, y = l1.getD k 0 := ⟨_, rfl⟩
        rw [← hx] at d0
        rw [← hy] at d1
        have HX := Lib.hid hx
        have HY := Lib.hid hy
        clear hx hy
        by_cases hv : x = y
        · subst hv
          go_wp2
          go_quiet (fail)
          go_wp2
          go_roundw
          case rel => exact ⟨k + 1, by omega, by go_num, fun j hj => by
            rcases Nat.lt_succ_iff_lt_or_eq.1 hj with h | rfl
            · exact Ht.out j h
            · rw [← HX.out, ← HY.out], _, rfl⟩
          case measure => simp [intOf]; omega
        · have hv' : (x != y) = true := by simpa using hv
          have HV := Lib.hid hv
          clear hv
          go_wp2
          go_quiet (fail)
          go_wp2
          go_ret
          refine ⟨ret_bool ?_, by first | exact belowN (Below.refl _ _) | exact belowN (belowN (Below.refl _ _))⟩
          refine (decide_eq_false (fun h => HV.out ?_)).symm
          rw [HX.out, HY.out, h]
      · obtain rfl : k = n0 := by omega
        go_wp2
        go_ret
        refine ⟨ret_bool ?_, by first | exact belowN (Below.refl _ _) | exact belowN (belowN (Below.refl _ _))⟩
        refine (decide_eq_true ?_).symm
        apply List.ext_getElem (by rw [E0.out, E1.out])
        intro i h1 h2
        have := Ht.out i (by rw [← E0.out]; exact h1)
        simpa [List.getD, List.getElem?_eq_getElem h1, List.getElem?_eq_getElem h2] using this
  · have hn' : ((n0 : Int) != n1) = true := by rw [bne_iff_ne]; omega
    have HN := Lib.hid hn
    clear hn
    go_enter Try.func32, Try.ntmps32
    go_wp2
    go_ret
    refine ⟨ret_bool ?_, (Below.refl _ _)⟩
    refine (decide_eq_false (fun h => HN.out ?_)).symm
    rw [← E0.out, ← E1.out, h]
end Go.Proofs.Ytibimdhmfchcoaa

namespace Go.Proofs.Ytibimdhmfchcoaa
open Go.RowKit

def lutB (k at_ : Int) (L : LutV) : Bool := decide ((L.ins.length : Int) ≤ k) && decide (L.tab ≤ rowsN L.ins.length) && L.ins.all (fun x => decide (0 ≤ x) && decide (x < at_))

theorem lutB_iff (k at_ : Int) (L : LutV) : lutB k at_ L = true ↔ LutOk k at_ L := by
  unfold lutB
  simp only [Bool.and_eq_true, decide_eq_true_eq, List.all_eq_true]
  exact ⟨fun ⟨⟨h1, h2⟩, h3⟩ => ⟨h1, h2, h3⟩, fun h => ⟨⟨h.len, h.tab⟩, h.ins⟩⟩

theorem table25 (w : World) (L : LutV) (hS : Seq w L.a L.ins.length (ints L.ins)) (hU : U64 L.tab) (h20 : L.ins.length ≤ 20) (at_ k : Int) :
    Calls Try.prog 55 #[.agg #[.slice L.a L.ins.length L.c, .int .u64 L.tab], .int .i64 at_, .int .i64 k] w fun e w' => e = .returned (.bool (lutB k at_ L)) ∧ Below w.heap.size w w' := by
  have htb := tab_bad L.tab L.ins.length hU
  have HU := Lib.hid hU
  have HS := Lib.hid hS
  clear hU hS
  obtain ⟨a, c, ins, tab⟩ := L
  dsimp only at h20 htb ⊢
  have HB : Below w.heap.size w (w.alloc (Obj.cells #[Value.slice a ins.length c, Value.int IntKind.u64 tab] 41)) := (Below.refl _ _).alloc (Nat.le_refl _) _
  have HBB := Lib.hid HB
  clear HB
  by_cases hlen : (ins.length : Int) ≤ k
  · have hlenb : decide (k < (ins.length : Int)) = false := by simp; omega
    by_cases htab : tab ≤ rowsN ins.length
    · rw [decide_eq_true htab] at htb
      go_enter Try.func55, Try.ntmps55
      go_wp2_with fail
      obtain ⟨W1, hW1⟩ : ∃ W1, W1 = w.alloc (Obj.cells #[Value.slice a ins.length c, Value.int IntKind.u64 tab] 41) := ⟨_, rfl⟩
      have hs : W1.heap.size = w.heap.size + 1 := by rw [hW1]; simp
      have c0 : W1.cell? ⟨w.heap.size, 0, none⟩ = some (.slice a ins.length c) := by rw [hW1]; simp
      have c1 : W1.cell? ⟨w.heap.size, 1, none⟩ = some (.int .u64 tab) := by rw [hW1]; simp
      have hSeq := HS.out.below (w' := W1) (by rw [hW1]; exact HBB.out) (Nat.le_refl _)
      try dsimp only at hSeq
      have HSeq := Lib.hid hSeq
      rw [← hW1]
      rw [← hW1] at HBB
      clear hW1 hSeq HS
      go_quiet ((go_at_call 69; exact quiet_same (rows25 _ _ (by omega))))
      go_wp2
      go_loopw [7] (fun i wr => ∃ j : Nat, j ≤ ins.length ∧ i = .int .i64 j ∧ Hid ((∃ q, wr = W1.drewN q) ∧ ∀ i, i < j → 0 ≤ ins.getD i 0 ∧ ins.getD i 0 < at_)) (fun i _ => ins.length - (intOf i).toNat)
      case atStart => exact ⟨0, by omega, rfl, ⟨_, rfl⟩, fun j hj => by omega⟩
      case round =>
        obtain ⟨j, hj, rfl, hh⟩ := hrel
        obtain ⟨⟨q, rfl⟩, hdone⟩ := hh
        have HD := Lib.hid hdone
        clear hdone
        by_cases hlt : j < ins.length
        · obtain ⟨b, off, rfl, hbb, hc⟩ := HSeq.out.at j hlt
          have d0 := hc j hlt
          unfold ints at d0
          obtain ⟨x, hx⟩ : ∃ x, x = ins.getD j 0 := ⟨_, rfl⟩
          rw [← hx] at d0
          have HX := Lib.hid hx
          clear hx hc
          by_cases h0 : 0 ≤ x
          · by_cases h1 : x < at_
            · go_wp2
              go_roundw
              case rel => exact ⟨j + 1, by omega, by go_num, ⟨_, rfl⟩, fun i hi => by
                rcases Nat.lt_succ_iff_lt_or_eq.1 hi with h | rfl
                · exact HD.out i h
                · rw [← HX.out]; exact ⟨h0, h1⟩⟩
              case measure => simp [intOf]; omega
            · go_wp2
              go_ret
              refine ⟨ret_bool ?_, belowN HBB.out⟩
              rw [eq_comm, Bool.eq_false_iff]
              intro hB
              have := ((lutB_iff _ _ _).1 hB).ins x (by rw [HX.out]; exact getD_mem _ _ hlt)
              omega
          · go_wp2
            go_ret
            refine ⟨ret_bool ?_, belowN HBB.out⟩
            rw [eq_comm, Bool.eq_false_iff]
            intro hB
            have := ((lutB_iff _ _ _).1 hB).ins x (by rw [HX.out]; exact getD_mem _ _ hlt)
            omega
        · obtain rfl : j = ins.length := by omega
          go_wp2
          go_ret
          refine ⟨ret_bool ?_, belowN HBB.out⟩
          rw [eq_comm, lutB_iff]
          refine ⟨hlen, htab, fun x hx => ?_⟩
          obtain ⟨i, hi, rfl⟩ := List.getElem_of_mem hx
          have := HD.out i hi
          simpa [List.getD, List.getElem?_eq_getElem hi] using this
    · rw [decide_eq_false htab] at htb
      go_enter Try.func55, Try.ntmps55
      go_wp2_with fail
      go_quiet ((go_at_call 69; exact quiet_same (rows25 _ _ (by omega))))
      go_wp2
      go_ret
      refine ⟨ret_bool ?_, belowN HBB.out⟩
      rw [eq_comm, Bool.eq_false_iff]
      intro hB
      have := ((lutB_iff _ _ _).1 hB).tab
      dsimp only at this
      omega
  · have hlenb : decide (k < (ins.length : Int)) = true := by simp; omega
    go_enter Try.func55, Try.ntmps55
    go_wp2_with fail
    go_quiet (fail)
    go_wp2
    go_ret
    refine ⟨ret_bool ?_, belowN HBB.out⟩
    rw [eq_comm, Bool.eq_false_iff]
    intro hB
    have := ((lutB_iff _ _ _).1 hB).len
    dsimp only at this
    omega
end Go.Proofs.Ytibimdhmfchcoaa

namespace Go.Proofs.Ytibimdhmfchcoaa
open Go.RowKit

set_option maxHeartbeats 4000000 in
theorem check25 (w : World) (N : NetV) (h : NetAt w N) (f : Few N) (k : Int) (hk : 2 ≤ k ∧ k ≤ 6) :
    Calls Try.prog 23 #[N.val, .int .i64 k] w fun e w' => e = .returned (.int .i64 (chk N k)) ∧ Below w.heap.size w w' := by
  have H := Lib.hid h
  have F := Lib.hid f
  have hf0 := f.ins
  have hf1 := f.holds
  have hf2 := f.luts
  have hf3 := f.outs
  have hi := h.insR.1
  have hI := h.insR
  obtain ⟨hk1, hk2⟩ := hk
  clear h f
  have HBX := Lib.hid (Box.start w N)
  have HI := Lib.hid hI
  clear hI
  by_cases hneg : N.ins < 0
  · go_enter Try.func23, Try.ntmps23
    go_wp2
    go_ret
    refine ⟨ret_int ?_, HBX.out.below⟩
    exact (if_neg (fun ok => by have := ok.ins0; omega)).symm
  · obtain ⟨ins, ha, hc, holds, la, lc, luts, oa, oc, outs⟩ := N
    dsimp only at hf0 hf1 hf2 hf3 hi hneg ⊢
    go_enter Try.func23, Try.ntmps23
    go_wp2
    go_loopw [6] (fun i wr => ∃ j : Nat, j ≤ luts.length ∧ i = .int .i64 j ∧ Hid (Box w.heap.size w ⟨ins, ha, hc, holds, la, lc, luts, oa, oc, outs⟩ wr ∧ ∀ i, i < j → LutOk k (1 + ins + holds.length + i) (luts.getD i default))) (fun i _ => luts.length - (intOf i).toNat)
    case atStart => exact ⟨0, by omega, rfl, HBX.out, fun j hj => by omega⟩
    case round =>
      obtain ⟨j, hj, rfl, hh⟩ := hrel
      have hb := hh.out.1
      have hdone := hh.out.2
      have HD := Lib.hid hdone
      have HBx := Lib.hid hb
      have c1 := hb.c1
      have c2 := hb.c2
      have c3 := hb.c3
      have hsz := hb.size
      dsimp only at c1 c2 c3
      clear hdone hb
      by_cases hlt : j < luts.length
      · obtain ⟨b, off, rfl, hbb, d0, d1⟩ := (H.out.below HBx.out.below (Nat.le_refl _)).lut j hlt
        have hL20 := F.out.lut _ (getD_mem luts default hlt)
        have hU := ((H.out.lutAt j hlt).2).1
        have hsq := (H.out.lutAt j hlt).1
        obtain ⟨L, hLe⟩ : ∃ L, L = luts.getD j default := ⟨_, rfl⟩
        dsimp only at d0 d1 hU hsq
        rw [← hLe] at d0 d1 hL20 hU hsq
        have T := table25 wr L (hsq.below HBx.out.below (Nat.le_refl _)) hU hL20 (1 + ins + holds.length + j) k
        have HL := Lib.hid hLe
        clear hLe hU hsq
        obtain ⟨ok, hok⟩ : ∃ b, b = lutB k (1 + ins + holds.length + j) L := ⟨_, rfl⟩
        rw [← hok] at T
        have HT := Lib.hid T
        have HOk := Lib.hid hok
        clear T hok
        go_wp2_with fail
        refine HT.out.mono ?_
        rintro e w1 ⟨rfl, hb1⟩
        cases ok
        · go_wp2
          go_ret
          refine ⟨ret_int ?_, HBx.out.below.trans (hb1.mono (by omega))⟩
          refine (if_neg (fun ok => ?_)).symm
          have h1 := ok.lut j hlt
          dsimp only at h1
          rw [← HL.out, ← lutB_iff, ← HOk.out] at h1
          simp at h1
        · go_wp2
          go_roundw
          case rel => exact ⟨j + 1, by omega, by go_num, HBx.out.step hb1 (by omega), fun i hi => by
            rcases Nat.lt_succ_iff_lt_or_eq.1 hi with h | rfl
            · exact HD.out i h
            · rw [← HL.out, ← lutB_iff, ← HOk.out]⟩
          case measure => simp [intOf]; omega
      · obtain rfl : j = luts.length := by omega
        go_wp2
        have HN := Lib.hid (H.out.below HBx.out.below (Nat.le_refl _))
        go_loopw [7] (fun i wq => ∃ j : Nat, j ≤ holds.length ∧ i = .int .i64 j ∧ Hid (Box w.heap.size w ⟨ins, ha, hc, holds, la, lc, luts, oa, oc, outs⟩ wq ∧ ∀ i, i < j → 0 ≤ (holds.getD i default).d ∧ (holds.getD i default).d < 1 + ins + holds.length + luts.length)) (fun i _ => holds.length - (intOf i).toNat)
        case atStart => exact ⟨0, by omega, rfl, HBx.out, fun j hj => by omega⟩
        case round =>
          obtain ⟨j, hj, rfl, hh⟩ := hrel
          have hb := hh.out.1
          have hdone := hh.out.2
          have HD2 := Lib.hid hdone
          have HBx2 := Lib.hid hb
          have c0 := hb.c0
          have c1 := hb.c1
          have c2 := hb.c2
          have c3 := hb.c3
          have hsz := hb.size
          dsimp only at c0 c1 c2 c3
          clear hdone hb
          have HN2 := Lib.hid (H.out.below HBx2.out.below (Nat.le_refl _))
          by_cases hlt : j < holds.length
          · obtain ⟨b, off, rfl, hbb, hcell⟩ := HN2.out.holds.at (2 * j) (by dsimp only; omega)
            have d0 : wr.cell? ⟨b, off + j * 2, none⟩ = some (.int .i64 (holds.getD j default).d) := by
              have := hcell (j * 2) (by dsimp only; omega)
              rw [this]; simp only [holdCell]; rw [if_pos (by omega), show j * 2 / 2 = j by omega]
            clear hcell
            obtain ⟨L, hLe⟩ : ∃ L, L = holds.getD j default := ⟨_, rfl⟩
            rw [← hLe] at d0
            have HL := Lib.hid hLe
            clear hLe
            by_cases h0 : 0 ≤ L.d
            · have hx0 : decide (L.d < 0) = false := by simp; omega
              have hj0 : (0 : Int) ≤ (j : Int) := by omega
              have hj1 : (j : Int) < holds.length := by omega
              obtain ⟨x, hx⟩ : ∃ x, x = L.d := ⟨_, rfl⟩
              rw [← hx] at d0 hx0 h0
              have HX := Lib.hid hx
              clear hx
              have hbel : ∀ w1, Below wr.heap.size wr w1 → Below w.heap.size w w1 := fun w1 h => HBx2.out.below.trans (h.mono (by omega))
              have HBel := Lib.hid hbel
              clear hbel
              by_cases h1 : x < 1 + ins + holds.length + luts.length
              · have hlt0 : 1 + ins + holds.length + luts.length ≤ 100000 := by omega
                go_wp2_with fail
                go_region_held3 (fun w' => w'.cell? ⟨w.heap.size, 0, none⟩ = some (.int .i64 ins) ∧ w'.cell? ⟨w.heap.size, 1, none⟩ = some (Value.slice (some ⟨b, off, none⟩) holds.length hc) ∧ w'.cell? ⟨w.heap.size, 2, none⟩ = some (Value.slice la luts.length lc) ∧ w'.cell? ⟨w.heap.size, 3, none⟩ = some (Value.slice oa outs.length oc) ∧ w'.cell? ⟨b, off + j * 2, none⟩ = some (.int .i64 x))
                  (first | exact ⟨c0, c1, c2, c3, d0⟩ | exact ⟨(hb1.cell (p := ⟨_, _, none⟩) (by simp; omega)).trans c0, (hb1.cell (p := ⟨_, _, none⟩) (by simp; omega)).trans c1, (hb1.cell (p := ⟨_, _, none⟩) (by simp; omega)).trans c2, (hb1.cell (p := ⟨_, _, none⟩) (by simp; omega)).trans c3, (hb1.cell (p := ⟨_, _, none⟩) (by simp; omega)).trans d0⟩)
                  (first | (go_at_call 56; refine (count25 _ ⟨ins, some ⟨b, off, none⟩, hc, holds, la, lc, luts, oa, oc, outs⟩ HI.out hf0 hf1 hf2).mono ?_; rintro e w1 ⟨rfl, hb1⟩))
                go_wp2
                go_roundw
                case rel => exact ⟨j + 1, by omega, by go_num, HBx2.out.step (C := wr.heap.size) (by first | exact hb1 | exact (Below.refl _ _).drew.trans hb1 | exact (belowN (Below.refl _ _)).trans hb1) (by omega), fun i hi => by
                  rcases Nat.lt_succ_iff_lt_or_eq.1 hi with h | rfl
                  · exact HD2.out i h
                  · rw [← HL.out, ← HX.out]; exact ⟨h0, h1⟩⟩
                case measure => simp [intOf]; omega
              · have hlt0 : 1 + ins + holds.length + luts.length ≤ 100000 := by omega
                go_wp2_with fail
                go_region_held3 (fun w' => w'.cell? ⟨w.heap.size, 0, none⟩ = some (.int .i64 ins) ∧ w'.cell? ⟨w.heap.size, 1, none⟩ = some (Value.slice (some ⟨b, off, none⟩) holds.length hc) ∧ w'.cell? ⟨w.heap.size, 2, none⟩ = some (Value.slice la luts.length lc) ∧ w'.cell? ⟨w.heap.size, 3, none⟩ = some (Value.slice oa outs.length oc) ∧ w'.cell? ⟨b, off + j * 2, none⟩ = some (.int .i64 x))
                  (first | exact ⟨c0, c1, c2, c3, d0⟩ | exact ⟨(hb1.cell (p := ⟨_, _, none⟩) (by simp; omega)).trans c0, (hb1.cell (p := ⟨_, _, none⟩) (by simp; omega)).trans c1, (hb1.cell (p := ⟨_, _, none⟩) (by simp; omega)).trans c2, (hb1.cell (p := ⟨_, _, none⟩) (by simp; omega)).trans c3, (hb1.cell (p := ⟨_, _, none⟩) (by simp; omega)).trans d0⟩)
                  (first | (go_at_call 56; refine (count25 _ ⟨ins, some ⟨b, off, none⟩, hc, holds, la, lc, luts, oa, oc, outs⟩ HI.out hf0 hf1 hf2).mono ?_; rintro e w1 ⟨rfl, hb1⟩))
                go_wp2
                go_ret
                refine ⟨ret_int ?_, HBel.out _ (by first | exact hb1 | exact (Below.refl _ _).drew.trans hb1 | exact (belowN (Below.refl _ _)).trans hb1)⟩
                refine (if_neg (fun ok => ?_)).symm
                have := ok.holds _ (getD_mem holds default hlt)
                dsimp only at this
                rw [← HL.out, ← HX.out] at this
                omega
            · have hx0 : decide (L.d < 0) = true := by simp; omega
              have hj0 : (0 : Int) ≤ (j : Int) := by omega
              have hj1 : (j : Int) < holds.length := by omega
              go_wp2_with fail
              go_quiet (fail)
              go_wp2
              go_ret
              refine ⟨ret_int ?_, belowN HBx2.out.below⟩
              refine (if_neg (fun ok => ?_)).symm
              have := ok.holds _ (getD_mem holds default hlt)
              rw [← HL.out] at this
              omega
          · obtain rfl : j = holds.length := by omega
            go_wp2
            go_loopw [8] (fun i wq => ∃ j : Nat, j ≤ outs.length ∧ i = .int .i64 j ∧ Hid (Box w.heap.size w ⟨ins, ha, hc, holds, la, lc, luts, oa, oc, outs⟩ wq ∧ ∀ i, i < j → 0 ≤ outs.getD i 0 ∧ outs.getD i 0 < 1 + ins + holds.length + luts.length)) (fun i _ => outs.length - (intOf i).toNat)
            case atStart => exact ⟨0, by omega, rfl, HBx2.out, fun j hj => by omega⟩
            case round =>
              obtain ⟨j, hj, rfl, hh⟩ := hrel
              have hb := hh.out.1
              have hdone := hh.out.2
              have HD3 := Lib.hid hdone
              have HBx3 := Lib.hid hb
              have c0 := hb.c0
              have c1 := hb.c1
              have c2 := hb.c2
              have c3 := hb.c3
              have hsz := hb.size
              dsimp only at c0 c1 c2 c3
              clear hdone hb
              have HN3 := Lib.hid (H.out.below HBx3.out.below (Nat.le_refl _))
              by_cases hlt : j < outs.length
              · obtain ⟨b, off, rfl, hbb, hcell⟩ := HN3.out.outs.at j hlt
                have d0 : wr.cell? ⟨b, off + j, none⟩ = some (.int .i64 (outs.getD j 0)) := hcell j hlt
                clear hcell
                obtain ⟨L, hLe⟩ : ∃ L, L = outs.getD j 0 := ⟨_, rfl⟩
                rw [← hLe] at d0
                have HL := Lib.hid hLe
                clear hLe
                by_cases h0 : 0 ≤ L
                · have hx0 : decide (L < 0) = false := by simp; omega
                  have hj0 : (0 : Int) ≤ (j : Int) := by omega
                  have hj1 : (j : Int) < outs.length := by omega
                  obtain ⟨x, hx⟩ : ∃ x, x = L := ⟨_, rfl⟩
                  rw [← hx] at d0 hx0 h0
                  have HX := Lib.hid hx
                  clear hx
                  have hbel : ∀ w1, Below wr.heap.size wr w1 → Below w.heap.size w w1 := fun w1 h => HBx3.out.below.trans (h.mono (by omega))
                  have HBel := Lib.hid hbel
                  clear hbel
                  by_cases h1 : x < 1 + ins + holds.length + luts.length
                  · have hlt0 : 1 + ins + holds.length + luts.length ≤ 100000 := by omega
                    go_wp2_with fail
                    go_region_held3 (fun w' => w'.cell? ⟨w.heap.size, 0, none⟩ = some (.int .i64 ins) ∧ w'.cell? ⟨w.heap.size, 1, none⟩ = some (Value.slice ha holds.length hc) ∧ w'.cell? ⟨w.heap.size, 2, none⟩ = some (Value.slice la luts.length lc) ∧ w'.cell? ⟨w.heap.size, 3, none⟩ = some (Value.slice (some ⟨b, off, none⟩) outs.length oc) ∧ w'.cell? ⟨b, off + j, none⟩ = some (.int .i64 x))
                      (first | exact ⟨c0, c1, c2, c3, d0⟩ | exact ⟨(hb1.cell (p := ⟨_, _, none⟩) (by simp; omega)).trans c0, (hb1.cell (p := ⟨_, _, none⟩) (by simp; omega)).trans c1, (hb1.cell (p := ⟨_, _, none⟩) (by simp; omega)).trans c2, (hb1.cell (p := ⟨_, _, none⟩) (by simp; omega)).trans c3, (hb1.cell (p := ⟨_, _, none⟩) (by simp; omega)).trans d0⟩)
                      (first | (go_at_call 56; refine (count25 _ ⟨ins, ha, hc, holds, la, lc, luts, some ⟨b, off, none⟩, oc, outs⟩ HI.out hf0 hf1 hf2).mono ?_; rintro e w1 ⟨rfl, hb1⟩))
                    go_wp2
                    go_roundw
                    case rel => exact ⟨j + 1, by omega, by go_num, HBx3.out.step (C := wr.heap.size) (by first | exact hb1 | exact (Below.refl _ _).drew.trans hb1 | exact (belowN (Below.refl _ _)).trans hb1) (by omega), fun i hi => by
                      rcases Nat.lt_succ_iff_lt_or_eq.1 hi with h | rfl
                      · exact HD3.out i h
                      · rw [← HL.out, ← HX.out]; exact ⟨h0, h1⟩⟩
                    case measure => simp [intOf]; omega
                  · have hlt0 : 1 + ins + holds.length + luts.length ≤ 100000 := by omega
                    go_wp2_with fail
                    go_region_held3 (fun w' => w'.cell? ⟨w.heap.size, 0, none⟩ = some (.int .i64 ins) ∧ w'.cell? ⟨w.heap.size, 1, none⟩ = some (Value.slice ha holds.length hc) ∧ w'.cell? ⟨w.heap.size, 2, none⟩ = some (Value.slice la luts.length lc) ∧ w'.cell? ⟨w.heap.size, 3, none⟩ = some (Value.slice (some ⟨b, off, none⟩) outs.length oc) ∧ w'.cell? ⟨b, off + j, none⟩ = some (.int .i64 x))
                      (first | exact ⟨c0, c1, c2, c3, d0⟩ | exact ⟨(hb1.cell (p := ⟨_, _, none⟩) (by simp; omega)).trans c0, (hb1.cell (p := ⟨_, _, none⟩) (by simp; omega)).trans c1, (hb1.cell (p := ⟨_, _, none⟩) (by simp; omega)).trans c2, (hb1.cell (p := ⟨_, _, none⟩) (by simp; omega)).trans c3, (hb1.cell (p := ⟨_, _, none⟩) (by simp; omega)).trans d0⟩)
                      (first | (go_at_call 56; refine (count25 _ ⟨ins, ha, hc, holds, la, lc, luts, some ⟨b, off, none⟩, oc, outs⟩ HI.out hf0 hf1 hf2).mono ?_; rintro e w1 ⟨rfl, hb1⟩))
                    go_wp2
                    go_ret
                    refine ⟨ret_int ?_, HBel.out _ (by first | exact hb1 | exact (Below.refl _ _).drew.trans hb1 | exact (belowN (Below.refl _ _)).trans hb1)⟩
                    refine (if_neg (fun ok => ?_)).symm
                    have := ok.outs _ (getD_mem outs 0 hlt)
                    dsimp only at this
                    rw [← HL.out, ← HX.out] at this
                    omega
                · have hx0 : decide (L < 0) = true := by simp; omega
                  have hj0 : (0 : Int) ≤ (j : Int) := by omega
                  have hj1 : (j : Int) < outs.length := by omega
                  go_wp2_with fail
                  go_quiet (fail)
                  go_wp2
                  go_ret
                  refine ⟨ret_int ?_, belowN HBx3.out.below⟩
                  refine (if_neg (fun ok => ?_)).symm
                  have := ok.outs _ (getD_mem outs 0 hlt)
                  rw [← HL.out] at this
                  omega
              · obtain rfl : j = outs.length := by omega
                go_wp2
                go_ret
                refine ⟨ret_int ?_, HBx3.out.below⟩
                refine (if_pos ⟨by dsimp only; omega, HD.out, fun x hx => ?_, fun x hx => ?_⟩).symm
                · obtain ⟨i, hi, rfl⟩ := List.getElem_of_mem hx
                  have := HD3.out i hi
                  simpa [List.getD, List.getElem?_eq_getElem hi] using this
                · obtain ⟨i, hi, rfl⟩ := List.getElem_of_mem hx
                  have := HD2.out i hi
                  simpa [List.getD, List.getElem?_eq_getElem hi] using this
end Go.Proofs.Ytibimdhmfchcoaa

