import Derived.Test.YtkcilpkcjhnkaaaT2
import Derived.Test.YtkcilpkcjhnkaaaA
namespace Go.Proofs.Ytkcilpkcjhnkaaa
open Go.RowKit

structure LutOk (k at_ : Int) (l : LutV) : Prop where
  len : (l.ins.length : Int) ≤ k
  tab : l.tab ≤ rowsN l.ins.length
  ins : ∀ x ∈ l.ins, 0 ≤ x ∧ x < at_

structure NetOk (N : NetV) (k : Int) : Prop where
  ins0 : 0 ≤ N.ins
  lut : ∀ i, i < N.luts.length → LutOk k (1 + N.ins + N.holds.length + i) (N.luts.getD i default)
  outs : ∀ x ∈ N.outs, 0 ≤ x ∧ x < 1 + N.ins + N.holds.length + N.luts.length
  holds : ∀ h ∈ N.holds, 0 ≤ h.d ∧ h.d < 1 + N.ins + N.holds.length + N.luts.length

structure Few (N : NetV) : Prop where
  lut : ∀ l ∈ N.luts, l.ins.length ≤ 20
  ins : N.ins ≤ 100
  holds : N.holds.length ≤ 100
  luts : N.luts.length ≤ 200
  outs : N.outs.length ≤ 100

open Classical in
noncomputable def chk (N : NetV) (k : Int) : Int := if NetOk N k then 0 else 1

structure CkInv (kk : Int) (w : World) (N : NetV) (wr : World) (k : Nat) : Prop where
  below : Below w.heap.size w wr
  size : w.heap.size + 3 ≤ wr.heap.size
  c0 : wr.cell? ⟨w.heap.size, 0, none⟩ = some (.int .i64 N.ins)
  c1 : wr.cell? ⟨w.heap.size, 1, none⟩ = some (Value.slice N.ha N.holds.length N.hc)
  c2 : wr.cell? ⟨w.heap.size, 2, none⟩ = some (Value.slice N.la N.luts.length N.lc)
  c3 : wr.cell? ⟨w.heap.size, 3, none⟩ = some (Value.slice N.oa N.outs.length N.oc)
  cat : wr.cell? ⟨w.heap.size + 1, 0, none⟩ = some (.int .i64 (1 + N.ins + N.holds.length + k))
  fat : wr.frozen? ⟨w.heap.size + 1, 0, none⟩ = false
  cnd : wr.cell? ⟨w.heap.size + 1 + 1, 0, none⟩ = some (.func (.func 55) #[] #[.pointer (some ⟨w.heap.size + 1, 0, none⟩)])
  done : ∀ j, j < k → LutOk kk (1 + N.ins + N.holds.length + j) (N.luts.getD j default)

theorem ckStep {k : Int} {w : World} {N : NetV} {wr : World} {j : Nat} (h : CkInv k w N wr j) (hj : j < N.luts.length) (O : Obj) (q : Nat) {v : Int} (hv : v = 1 + N.ins + N.holds.length + (j + 1 : Nat)) (ok : LutOk k (1 + N.ins + N.holds.length + j) (N.luts.getD j default)) :
    CkInv k w N (((wr.alloc O).setCell ⟨w.heap.size + 1, 0, none⟩ (.int .i64 v)).drewN q) (j + 1) := by
  subst hv
  have hs := h.size
  have other : ∀ b i u, b ≠ w.heap.size + 1 → wr.cell? ⟨b, i, none⟩ = some u → (((wr.alloc O).setCell ⟨w.heap.size + 1, 0, none⟩ (.int .i64 (1 + N.ins + N.holds.length + (j + 1 : Nat)))).drewN q).cell? ⟨b, i, none⟩ = some u := by
    intro b i u hb hc
    show ((wr.alloc O).setCell _ _).cell? _ = _
    rw [World.cell?_setCell_other (h := fun e => hb (congrArg Addr.block e).symm)]
    exact cell_alloc O hc
  refine ⟨belowN ((h.below.alloc (by omega) _).setCell (by simp) _), by show _ ≤ (World.setCell _ _ _).heap.size; simp; omega, other _ _ _ (by omega) h.c0, other _ _ _ (by omega) h.c1, other _ _ _ (by omega) h.c2, other _ _ _ (by omega) h.c3, ?_, ?_, other _ _ _ (by omega) h.cnd, fun i hi => ?_⟩
  · exact World.cell?_setCell_same _ _ _ (cell_alloc O h.cat)
  · show ((wr.alloc O).setCell _ _).frozen? _ = _
    rw [World.frozen?_setCell]
    exact frozen_alloc _ (by omega) h.fat
  · rcases Nat.lt_succ_iff_lt_or_eq.1 hi with hi | rfl
    · exact h.done i hi
    · exact ok

theorem check (w : World) (N : NetV) (h : NetAt w N) (f : Few N) (k : Int) (hk : 2 ≤ k ∧ k ≤ 6) :
    Calls Try.prog 29 #[N.val, .int .i64 k] w fun e w' => e = .returned (.int .i64 (chk N k)) ∧ Below w.heap.size w w' := by
  have H := Lib.hid h
  have F := Lib.hid f
  have hf0 := f.ins
  have hf1 := f.holds
  have hf2 := f.luts
  have hf3 := f.outs
  have hi := h.insR.1
  obtain ⟨hk1, hk2⟩ := hk
  clear h f
  obtain ⟨ins, ha, hc, holds, la, lc, luts, oa, oc, outs⟩ := N
  dsimp only at hf0 hf1 hf2 hf3 hi ⊢
  by_cases hneg : ins < 0
  · go_enter Try.func29, Try.ntmps29
    go_wp2
    go_ret
    refine ⟨ret_int ?_, (Below.refl _ _).alloc (Nat.le_refl _) _⟩
    exact (if_neg (fun ok => by have := ok.ins0; dsimp only at this; omega)).symm
  · have M3 := @run_max3 Try.prog
    go_enter Try.func29, Try.ntmps29
    go_wp2
    go_loopw [53] (fun i wr => ∃ j : Nat, j ≤ luts.length ∧ i = .int .i64 j ∧ Hid (CkInv k w ⟨ins, ha, hc, holds, la, lc, luts, oa, oc, outs⟩ wr j)) (fun i _ => luts.length - (intOf i).toNat)
    case atStart =>
      refine ⟨0, by omega, rfl, ?_⟩
      refine ⟨(((Below.refl _ _).alloc (Nat.le_refl _) _).alloc (by simp) _).alloc (by simp; omega) _, by simp, ?_, ?_, ?_, ?_, ?_, ?_, ?_, fun j hj => by omega⟩
      all_goals (simp [go_sem] <;> omega)
    case round =>
      obtain ⟨j, hj, rfl, hh⟩ := hrel
      have cat := hh.out.cat
      have fat := hh.out.fat
      have cnd := hh.out.cnd
      have hsz := hh.out.size
      dsimp only at cat
      by_cases hlt : j < luts.length
      · obtain ⟨b, off, rfl, hbb, d0, d1⟩ := (H.out.below hh.out.below (Nat.le_refl _)).lut j hlt
        have hbb' : b < wr.heap.size := World.block_lt_of_cell? wr _ d0
        have hL20 := F.out.lut _ (getD_mem luts default hlt)
        obtain ⟨L, hLe⟩ : ∃ L, L = luts.getD j default := ⟨_, rfl⟩
        dsimp only at d0 d1
        rw [← hLe] at d0 d1 hL20
        have HL := Lib.hid hLe
        clear hLe
        have hU := ((H.out.lutAt j hlt).2).1
        have hsq := (H.out.lutAt j hlt).1
        dsimp only at hU hsq
        rw [← HL.out] at hU hsq
        have htb := tab_bad L.tab L.ins.length hU
        have HU := Lib.hid hU
        have hseq := hsq.below (w' := wr) hh.out.below (Nat.le_refl _)
        have HSeq := Lib.hid hseq
        have hneq := H.out
        clear hU hsq hseq hneq
        have hB1 : Below w.heap.size w (wr.alloc (Obj.cells #[Value.slice L.a L.ins.length L.c, Value.int IntKind.u64 L.tab] 48)) := hh.out.below.alloc (by omega) _
        obtain ⟨W2, hW2⟩ : ∃ W2, W2 = wr.alloc (Obj.cells #[Value.slice L.a L.ins.length L.c, Value.int IntKind.u64 L.tab] 48) := ⟨_, rfl⟩
        rw [← hW2] at hB1
        have HB1 := Lib.hid hB1
        clear hB1
        have HW2 := Lib.hid hW2
        have hs2 : W2.heap.size = wr.heap.size + 1 := by rw [hW2]; simp
        have cat2 : W2.cell? ⟨w.heap.size + 1, 0, none⟩ = some (.int .i64 (1 + ins + holds.length + j)) := by rw [hW2]; exact cell_alloc _ cat
        have cnd2 : W2.cell? ⟨w.heap.size + 1 + 1, 0, none⟩ = some (.func (.func 55) #[] #[.pointer (some ⟨w.heap.size + 1, 0, none⟩)]) := by rw [hW2]; exact cell_alloc _ cnd
        have fat2 : W2.frozen? ⟨w.heap.size + 1, 0, none⟩ = false := by rw [hW2]; exact frozen_alloc _ (by omega) fat
        have e0 : W2.cell? ⟨wr.heap.size, 0, none⟩ = some (.slice L.a L.ins.length L.c) := by rw [hW2]; simp
        have e1 : W2.cell? ⟨wr.heap.size, 1, none⟩ = some (.int .u64 L.tab) := by rw [hW2]; simp
        clear hW2 cat cnd fat
        by_cases hlen : (L.ins.length : Int) ≤ k
        · have hlenb : decide (k < (L.ins.length : Int)) = false := by simp; omega
          by_cases htab : L.tab ≤ rowsN L.ins.length
          · rw [decide_eq_true htab] at htb
            have C := fun (q : Nat) => containsFunc (W2.drewN q) L.a L.ins.length L.c L.ins rfl
              (HSeq.out.below (belowN (by rw [HW2.out]; exact (Below.refl _ _).alloc (Nat.le_refl _) _)) (Nat.le_refl _)) (by omega) 57 (enters_of Try.func57 (by kernel_rfl) rfl) #[.pointer (some ⟨w.heap.size + 1 + 1, 0, none⟩)]
              (fun x => !(decide (0 ≤ x) && decide (x < 1 + ins + holds.length + j)))
              (fun x _ => notNode _ x _ _ _ cat2 cnd2)
            obtain ⟨bad, hbad⟩ : ∃ b, b = L.ins.any (fun x => !(decide (0 ≤ x) && decide (x < 1 + ins + holds.length + j))) := ⟨_, rfl⟩
            rw [← hbad] at C
            have HC := Lib.hid C
            have HBad := Lib.hid hbad
            clear C hbad
            go_wp2_with fail
            rw [← HW2.out]
            go_quiet ((first | (go_at_call 56; exact quiet_same (rows _ _ (by omega))) | (go_at_call 32; exact quiet_same (HC.out _))))
            cases bad
            · go_wp2
              go_roundw
              case rel =>
                refine ⟨j + 1, by omega, by go_num, ?_⟩
                rw [HW2.out]
                refine ckStep hh.out (by exact hlt) _ _ (by dsimp only; omega) ?_
                dsimp only
                rw [← HL.out]
                exact ⟨hlen, htab, fun x hx => by
                  have := HBad.out.symm
                  rw [List.any_eq_false] at this
                  have := this x hx
                  simp at this
                  omega⟩
              case measure => simp [intOf]; omega
            · go_wp2
              go_ret
              refine ⟨ret_int ?_, belowN HB1.out⟩
              refine (if_neg (fun ok => ?_)).symm
              obtain ⟨x, hx, hbx⟩ := List.any_eq_true.1 HBad.out.symm
              have := (ok.lut j hlt).ins
              dsimp only at this
              rw [← HL.out] at this
              have := this x hx
              simp at hbx
              omega
          · rw [decide_eq_false htab] at htb
            go_wp2_with fail
            rw [← HW2.out]
            go_quiet ((go_at_call 56; exact quiet_same (rows _ _ (by omega))))
            go_wp2
            go_ret
            refine ⟨ret_int ?_, belowN HB1.out⟩
            refine (if_neg (fun ok => ?_)).symm
            have := (ok.lut j hlt).tab
            dsimp only at this
            rw [← HL.out] at this
            omega
        · have hlenb : decide (k < (L.ins.length : Int)) = true := by simp; omega
          go_wp2_with fail
          rw [← HW2.out]
          go_quiet (fail)
          go_wp2
          go_ret
          refine ⟨ret_int ?_, belowN HB1.out⟩
          refine (if_neg (fun ok => ?_)).symm
          have := (ok.lut j hlt).len
          dsimp only at this
          rw [← HL.out] at this
          omega
      · obtain rfl : j = luts.length := by omega
        have c1 := hh.out.c1
        have c3 := hh.out.c3
        have hall := hh.out.done
        dsimp only at c1 c3 hall
        have HAll := Lib.hid hall
        have HN := Lib.hid (H.out.below hh.out.below (Nat.le_refl _))
        have ho := HN.out.outsL
        have hho := HN.out.holdsL
        have HB := Lib.hid hh.out.below
        clear hall
        have C := containsFunc wr oa outs.length oc outs rfl HN.out.outs (by exact ho) 58 (enters_of Try.func58 (by kernel_rfl) rfl) #[.pointer (some ⟨w.heap.size + 1 + 1, 0, none⟩)]
          (fun x => !(decide (0 ≤ x) && decide (x < 1 + ins + holds.length + luts.length))) (fun x _ => notNode3 _ x _ _ _ cat cnd)
        have D := containsFuncHold wr ha holds.length hc holds rfl HN.out.holds (by exact hho) 60 (enters_of Try.func60 (by kernel_rfl) rfl) #[.pointer (some ⟨w.heap.size + 1 + 1, 0, none⟩)]
          (fun x => !(decide (0 ≤ x.d) && decide (x.d < 1 + ins + holds.length + luts.length)))
          (fun W x hb _ => notHold _ x _ _ _ ((hb.cell (p := ⟨w.heap.size + 1, 0, none⟩) (by simp; omega)).trans cat) ((hb.cell (p := ⟨w.heap.size + 1 + 1, 0, none⟩) (by simp; omega)).trans cnd))
        obtain ⟨bad, hbad⟩ : ∃ b, b = outs.any (fun x => !(decide (0 ≤ x) && decide (x < 1 + ins + holds.length + luts.length))) := ⟨_, rfl⟩
        obtain ⟨bad2, hbad2⟩ : ∃ b, b = holds.any (fun x => !(decide (0 ≤ x.d) && decide (x.d < 1 + ins + holds.length + luts.length))) := ⟨_, rfl⟩
        rw [← hbad] at C
        rw [← hbad2] at D
        have HC := Lib.hid C
        have HD := Lib.hid D
        have HBad := Lib.hid hbad
        have HBad2 := Lib.hid hbad2
        clear C D hbad hbad2 cat cnd fat
        go_wp2_with fail
        refine HC.out.mono ?_
        rintro e w1 ⟨rfl, rfl⟩
        cases bad
        · go_wp2_with fail
          refine HD.out.mono ?_
          rintro e w2 ⟨rfl, hb2⟩
          cases bad2
          · go_wp2
            go_ret
            refine ⟨ret_int ?_, HB.out.trans (hb2.mono (by omega))⟩
            refine (if_pos ⟨by dsimp only; omega, HAll.out, fun x hx => ?_, fun x hx => ?_⟩).symm
            · have := HBad.out.symm
              rw [List.any_eq_false] at this
              have := this x hx
              simp at this ⊢
              omega
            · have := HBad2.out.symm
              rw [List.any_eq_false] at this
              have := this x hx
              simp at this ⊢
              omega
          · go_wp2
            go_ret
            refine ⟨ret_int ?_, HB.out.trans (hb2.mono (by omega))⟩
            refine (if_neg (fun ok => ?_)).symm
            obtain ⟨x, hx, hbx⟩ := List.any_eq_true.1 HBad2.out.symm
            have := ok.holds x hx
            simp at hbx this
            omega
        · go_wp2
          go_ret
          refine ⟨ret_int ?_, HB.out⟩
          refine (if_neg (fun ok => ?_)).symm
          obtain ⟨x, hx, hbx⟩ := List.any_eq_true.1 HBad.out.symm
          have := ok.outs x hx
          simp at hbx this
          omega
end Go.Proofs.Ytkcilpkcjhnkaaa
