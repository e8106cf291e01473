/- M1 -/
import Derived.Test.YtholafodachjnaaBH
/- Blocks that came in: readings; whether there are few; whether they may be (pack.may). -/
namespace Go.Proofs.Ytholafodachjnaa
open Go.RowKit Go.Shelf Go.Maps
set_option linter.unusedVariables false
set_option linter.unusedSimpArgs false

abbrev PackV.obj (P : PackV) : Obj := .cells #[.int .i64 P.ins, .slice P.ba P.bs.length P.bc, .slice P.oa P.os.length P.oc] 27
abbrev PackV.data (P : PackV) : PackD := ⟨P.ins, P.bs.map BlkV.data, P.os⟩
theorem getD_map_blk (bs : List BlkV) (i : Nat) : (bs.map BlkV.data).getD i default = (bs.getD i default).data := by
  simp only [List.getD_eq_getElem?_getD, List.getElem?_map]
  cases bs[i]? <;> rfl
theorem data_blk (P : PackV) (i : Nat) : P.data.blk i = (P.bs.getD i default).data := getD_map_blk P.bs i
theorem data_n (P : PackV) : P.data.n = P.bs.length := by simp [PackD.n]

structure PBox (B : Nat) (w : World) (P : PackV) (wr : World) : Prop where
  below : Below B w wr
  size : B + 1 ≤ wr.heap.size
  c0 : wr.cell? ⟨B, 0, none⟩ = some (.int .i64 P.ins)
  c1 : wr.cell? ⟨B, 1, none⟩ = some (Value.slice P.ba P.bs.length P.bc)
  c2 : wr.cell? ⟨B, 2, none⟩ = some (Value.slice P.oa P.os.length P.oc)
theorem PBox.start (w : World) (P : PackV) : PBox w.heap.size w P (w.alloc P.obj) :=
  ⟨(Below.refl _ _).alloc (Nat.le_refl _) _, by simp, by simp, by simp, by simp⟩
theorem PBox.step {B C : Nat} {w wr w' : World} {P : PackV} (h : PBox B w P wr) (hb : Below C wr w') (hC : B + 1 ≤ C) : PBox B w P w' :=
  ⟨h.below.trans (hb.mono (by omega)), Nat.le_trans h.size hb.size, (hb.cell (p := ⟨B, 0, none⟩) (by simp; omega)).trans h.c0, (hb.cell (p := ⟨B, 1, none⟩) (by simp; omega)).trans h.c1,
    (hb.cell (p := ⟨B, 2, none⟩) (by simp; omega)).trans h.c2⟩

/-- The block at a place. -/
theorem PackAt.blk {w : World} {P : PackV} (h : PackAt w P) (k : Nat) (hk : k < P.bs.length) :
    ∃ b off, P.ba = some ⟨b, off, none⟩ ∧ b < w.heap.size ∧ w.cell? ⟨b, off + k * 4, none⟩ = some (.slice (P.bs.getD k default).a (P.bs.getD k default).ins.length (P.bs.getD k default).c) ∧
      w.cell? ⟨b, off + k * 4 + 1, none⟩ = some (.int .i64 (P.bs.getD k default).tab) ∧ w.cell? ⟨b, off + k * 4 + 2, none⟩ = some (.bool (P.bs.getD k default).ff) ∧ w.cell? ⟨b, off + k * 4 + 3, none⟩ = some (.bool (P.bs.getD k default).init) := by
  obtain ⟨b, off, ha, hb, hc⟩ := h.blocks.at (4 * k) (by omega)
  refine ⟨b, off, ha, hb, ?_, ?_, ?_, ?_⟩
  · have := hc (k * 4) (by omega)
    rw [this]; simp only [blkCell]
    rw [if_pos (by omega), show k * 4 / 4 = k by omega]
  · have := hc (k * 4 + 1) (by omega)
    rw [Nat.add_assoc, this]; simp only [blkCell]
    rw [if_neg (by omega), if_pos (by omega), show (k * 4 + 1) / 4 = k by omega]
  · have := hc (k * 4 + 2) (by omega)
    rw [Nat.add_assoc, this]; simp only [blkCell]
    rw [if_neg (by omega), if_neg (by omega), if_pos (by omega), show (k * 4 + 2) / 4 = k by omega]
  · have := hc (k * 4 + 3) (by omega)
    rw [Nat.add_assoc, this]; simp only [blkCell]
    rw [if_neg (by omega), if_neg (by omega), if_neg (by omega), show (k * 4 + 3) / 4 = k by omega]

structure FewP (P : PackV) : Prop where
  ins : P.ins ≤ 100
  bs : P.bs.length ≤ 500
  os : P.os.length ≤ 500
  each : ∀ b ∈ P.bs, b.ins.length ≤ 9223372036854775807
/-- may's bad. -/
theorem bad70 (w : World) (x : Int) (B n c : Nat) (ins : Int) (ba : Option Addr) (hn : n ≤ 1024) (hi0 : 0 ≤ ins) (hi1 : ins ≤ 1024) (c0 : w.cell? ⟨B, 0, none⟩ = some (.int .i64 ins)) (c1 : w.cell? ⟨B, 1, none⟩ = some (.slice ba n c)) :
    Calls Try.prog 68 #[.int .i64 x, .pointer (some ⟨B, 0, none⟩)] w fun e w' => e = .returned (.bool (!(decide (0 ≤ x) && decide (x < ins + n)))) ∧ w = w' := by
  by_cases h0 : 0 ≤ x
  · have hd : decide (x < 0) = false := by simpa using h0
    go_enter Try.func68, Try.ntmps68
    go_wp2
    go_ret
    exact ⟨ret_bool (by rw [Bool.eq_iff_iff]; simp; omega), rfl⟩
  · have hd : decide (x < 0) = true := by simpa using (by omega : x < 0)
    go_enter Try.func68, Try.ntmps68
    go_wp2
    go_ret
    exact ⟨ret_bool (by rw [Bool.eq_iff_iff]; simp; omega), rfl⟩

end Go.Proofs.Ytholafodachjnaa

/- M2 -/
namespace Go.Proofs.Ytholafodachjnaa
open Go.RowKit Go.Shelf Go.Maps
set_option linter.unusedVariables false
set_option linter.unusedSimpArgs false

theorem blk_all (P : PackD) (p : BlkD → Bool) : P.bs.all p = true ↔ ∀ i, i < P.n → p (P.blk i) = true := by
  rw [List.all_eq_true]
  constructor
  · intro h i hi
    exact h _ (getD_mem _ _ hi)
  · intro h x hx
    obtain ⟨i, hi, rfl⟩ := List.getElem_of_mem hx
    have := h i hi
    unfold PackD.blk at this
    rwa [List.getD_eq_getElem?_getD, List.getElem?_eq_getElem hi] at this
theorem may_bad (P : PackD) (i : Nat) (hi : i < P.n) (h : blkB (P.ins + P.n) (P.blk i) = false) : mayB P = false := by
  unfold mayB
  cases hb : P.bs.all (blkB (P.ins + P.n)) with
  | false => simp
  | true => have := (blk_all P _).1 hb i hi; rw [h] at this; cases this
theorem any_bad (l : List Int) (W : Int) : (l.any fun x => !(decide (0 ≤ x) && decide (x < W))) = !(l.all fun x => decide (0 ≤ x) && decide (x < W)) := by
  rw [List.not_all_eq_any_not]
theorem blkB_eq (W : Int) (d : List Int) (tab : Int) (ff init : Bool) : blkB W ⟨d, tab, ff, init⟩ = (decide (d.length ≤ 4) && (decide (0 ≤ tab) && decide (tab < 2 ^ (2 ^ d.length))) && (!init || ff) && d.all (fun w => decide (0 ≤ w) && decide (w < W))) := rfl

theorem shift_bad (t : Int) (n : Nat) (h0 : 0 ≤ t) (h1 : t ≤ 9223372036854775807) (hn : n ≤ 4) : (t / 2 ^ min (IntKind.u64.wrap (2 ^ n)).toNat 64 != 0) = !decide (t < 2 ^ (2 ^ n)) := by
  have key : ∀ q : Int, 0 < q → (t / q != 0) = !decide (t < q) := by
    intro q hq
    rw [Bool.eq_iff_iff]
    simp only [bne_iff_ne, ne_eq, Bool.not_eq_true', decide_eq_false_iff_not, Int.not_lt]
    constructor
    · intro h
      rcases Int.lt_or_le t q with h2 | h2
      · exact absurd (Int.ediv_eq_zero_of_lt h0 h2) h
      · exact h2
    · intro h e
      have := Int.lt_mul_ediv_self_add (x := t) hq
      rw [e] at this
      omega
  have e : min (IntKind.u64.wrap (2 ^ n)).toNat 64 = 2 ^ n := by
    match n, hn with
    | 0, _ => rfl
    | 1, _ => rfl
    | 2, _ => rfl
    | 3, _ => rfl
    | 4, _ => rfl
  rw [e]
  exact key _ (Int.pow_pos (by omega))

set_option maxRecDepth 100000 in
set_option maxHeartbeats 8000000 in
theorem may57 (w : World) (P : PackV) (h : PackAt w P) (hf : FewP P) :
    Calls Try.prog 60 #[P.val] w fun e w' => e = .returned (.bool (mayB P.data)) ∧ Below w.heap.size w w' := by
  have hf0 := hf.ins
  have hf1 := hf.bs
  have hf2 := hf.os
  have hi := h.insR.1
  have H := Lib.hid h
  have HF := Lib.hid hf
  clear h hf
  by_cases hneg : P.ins < 0
  · have hd : decide (P.ins < 0) = true := by simpa using hneg
    have hres : mayB P.data = false := by unfold mayB; simp only [show decide (0 ≤ P.data.ins) = false by simp; omega]; simp
    go_enter Try.func60, Try.ntmps60
    go_wp2
    go_ret
    exact ⟨ret_bool hres.symm, (Below.refl _ _).alloc (Nat.le_refl _) _⟩
  · have hd : decide (P.ins < 0) = false := by simpa using hneg
    have hd1 : decide (1024 < P.ins) = false := by simpa using (by omega : P.ins ≤ 1024)
    obtain ⟨W1, hW1⟩ : ∃ W1, W1 = w.alloc P.obj := ⟨_, rfl⟩
    have hX := PBox.start w P
    rw [← hW1] at hX
    have HX := Lib.hid hX
    have c0 := hX.c0
    have c1 := hX.c1
    have hgood : mayB P.data = (P.data.bs.all (blkB (P.ins + P.bs.length)) && P.os.all (fun x => decide (0 ≤ x) && decide (x < P.ins + P.bs.length))) := by
      unfold mayB
      rw [data_n]
      simp only [show decide (0 ≤ P.data.ins) = true by simp; omega, show decide (P.data.ins ≤ 1024) = true by simp; omega, show decide (P.bs.length ≤ 1024) = true by simp; omega]
      simp
    have HGood := Lib.hid hgood
    clear hX hgood
    obtain ⟨ins, ba, bc, bs, oa, oc, os⟩ := P
    dsimp only at hf0 hf1 hf2 hi hneg hd hd1 c0 c1 HGood ⊢
    have HW1 := Lib.hid hW1
    go_enter Try.func60, Try.ntmps60
    go_wp2_with fail
    rw [← HW1.out]
    clear hW1
    go_loopw [24] (fun iv wr => ∃ i : Nat, i ≤ bs.length ∧ iv = .int .i64 i ∧ Hid (Below (w.heap.size + 1) W1 wr ∧ ∀ j, j < i → blkB (ins + bs.length) (bs.getD j default).data = true)) (fun iv _ => bs.length - (intOf iv).toNat)
    case atStart => exact ⟨0, by omega, rfl, Lib.hid ⟨Below.refl _ _, fun j hj => by omega⟩⟩
    case round =>
      obtain ⟨i, hi2, rfl, hh⟩ := hrel
      have hx := HX.out.step hh.out.1 (Nat.le_refl _)
      by_cases hlt : i < bs.length
      · obtain ⟨b, off, hba, hbb, d0, d1, d2, d3⟩ := (H.out.below hx.below (Nat.le_refl _)).blk i hlt
        have hEach := ((H.out.below hx.below (Nat.le_refl _)).each _ (getD_mem bs default hlt))
        have h20 := HF.out.each _ (getD_mem bs default hlt)
        dsimp only at d0 d1 d2 d3 hEach h20 hba
        subst hba
        have hbad := may_bad (PackV.data ⟨ins, some ⟨b, off, none⟩, bc, bs, oa, oc, os⟩) i (by rw [data_n]; exact hlt)
        rw [data_blk, data_n] at hbad
        dsimp only at hbad
        have hnext : blkB (ins + bs.length) (bs.getD i default).data = true → ∀ j, j < i + 1 → blkB (ins + bs.length) (bs.getD j default).data = true := fun hb j hj => by
          rcases Nat.lt_succ_iff_lt_or_eq.1 hj with h | rfl
          · exact hh.out.2 j h
          · exact hb
        have HNext := Lib.hid hnext
        clear hnext
        obtain ⟨L, hLe⟩ : ∃ L, L = bs.getD i default := ⟨_, rfl⟩
        rw [← hLe] at d0 d1 d2 d3 hEach h20 hbad HNext
        obtain ⟨La, Lc, Li, Lt, Lf, Ln⟩ := L
        dsimp only at d0 d1 d2 d3 hEach h20 hbad HNext
        have HEach := Lib.hid hEach
        have HBad := Lib.hid hbad
        obtain ⟨W2, hW2⟩ : ∃ W2, W2 = wr.alloc (Obj.cells #[Value.slice La Li.length Lc, Value.int .i64 Lt, Value.bool Lf, Value.bool Ln] 46) := ⟨_, rfl⟩
        have hb2 : Below wr.heap.size wr W2 := by rw [hW2]; exact (Below.refl _ _).alloc (Nat.le_refl _) _
        have hB1 : Below (w.heap.size + 1) W1 W2 := hh.out.1.trans (hb2.mono hx.size)
        have hB2 : Below w.heap.size w W2 := hx.below.trans (hb2.mono (by have := hx.size; omega))
        have HB1 := Lib.hid hB1
        have HB2 := Lib.hid hB2
        have hx2 := hx.step hb2 hx.size
        have x0 := hx2.c0
        have x1 := hx2.c1
        dsimp only at x0 x1
        have HSq := Lib.hid (hEach.1.below hb2 (Nat.le_refl _))
        have HW2 := Lib.hid hW2
        have e0 : W2.cell? ⟨wr.heap.size, 0, none⟩ = some (.slice La Li.length Lc) := by rw [hW2]; simp
        have e1 : W2.cell? ⟨wr.heap.size, 1, none⟩ = some (.int .i64 Lt) := by rw [hW2]; simp
        have e2 : W2.cell? ⟨wr.heap.size, 2, none⟩ = some (.bool Lf) := by rw [hW2]; simp
        have e3 : W2.cell? ⟨wr.heap.size, 3, none⟩ = some (.bool Ln) := by rw [hW2]; simp
        clear hEach hbad hLe hB1 hB2 hb2 hx hx2 hW2 hh
        by_cases hlen : Li.length ≤ 4
        · have C := containsFunc W2 La Li.length Lc Li rfl HSq.out (by omega) 68 (enters_of Try.func68 (by kernel_rfl) rfl) #[.pointer (some ⟨w.heap.size, 0, none⟩)] (fun x => !(decide (0 ≤ x) && decide (x < ins + bs.length))) (fun x _ => bad70 W2 x w.heap.size bs.length bc ins _ (by omega) hneg (by omega) x0 x1)
          rw [any_bad] at C
          obtain ⟨cb, hcb⟩ : ∃ c, c = Li.all (fun w => decide (0 ≤ w) && decide (w < ins + bs.length)) := ⟨_, rfl⟩
          have hbb : blkB (ins + bs.length) ⟨Li, Lt, Lf, Ln⟩ = ((decide (0 ≤ Lt) && decide (Lt < 2 ^ (2 ^ Li.length))) && (!Ln || Lf) && cb) := by
            rw [blkB_eq, ← hcb, decide_eq_true hlen]; simp
          rw [← hcb] at C
          have HC := Lib.hid C
          have HBB := Lib.hid hbb
          clear hcb C hbb
          cases cb
          · go_wp2_with fail
            rw [← HW2.out]
            go_wp2_with fail
            refine HC.out.mono ?_
            rintro e w5 ⟨rfl, rfl⟩
            go_wp2
            go_ret
            exact ⟨ret_bool (HBad.out (by rw [HBB.out]; simp)).symm, HB2.out⟩
          · by_cases hnf : (Ln && !Lf) = true
            · simp only [Bool.and_eq_true, Bool.not_eq_true'] at hnf
              obtain ⟨rfl, rfl⟩ := hnf
              go_wp2_with fail
              rw [← HW2.out]
              go_wp2_with fail
              refine HC.out.mono ?_
              rintro e w5 ⟨rfl, rfl⟩
              go_wp2
              go_ret
              exact ⟨ret_bool (HBad.out (by rw [HBB.out]; simp)).symm, HB2.out⟩
            · by_cases ht0 : 0 ≤ Lt
              · have htb : decide (Lt < 0) = false := by simpa using ht0
                have hl5 : (Li.length : Int) ≤ 4 := by omega
                have hsh := shift_bad Lt Li.length ht0 HEach.out.2.2.1.2 hlen
                by_cases htt : Lt < 2 ^ (2 ^ Li.length)
                · rw [decide_eq_true htt] at hsh
                  have HTT := Lib.hid htt
                  clear htt
                  cases Ln <;> cases Lf <;> simp at hnf
                  all_goals
                    go_wp2_with fail
                    rw [← HW2.out]
                    go_wp2_with fail
                    refine HC.out.mono ?_
                    rintro e w5 ⟨rfl, rfl⟩
                    go_wp2_with fail
                    go_quiet (fail)
                    go_wp2_with fail
                    go_roundw
                    case rel => exact ⟨i + 1, by omega, by go_num, Lib.hid ⟨belowN HB1.out, HNext.out (by rw [HBB.out, decide_eq_true ht0, decide_eq_true HTT.out]; rfl)⟩⟩
                    case measure => simp [intOf]; omega
                · rw [decide_eq_false htt] at hsh
                  have HTT := Lib.hid htt
                  clear htt
                  cases Ln <;> cases Lf <;> simp at hnf
                  all_goals
                    go_wp2_with fail
                    rw [← HW2.out]
                    go_wp2_with fail
                    refine HC.out.mono ?_
                    rintro e w5 ⟨rfl, rfl⟩
                    go_wp2_with fail
                    go_quiet (fail)
                    go_wp2_with fail
                    go_ret
                    exact ⟨ret_bool (HBad.out (by rw [HBB.out, decide_eq_false (Int.not_lt.2 HTT.out)]; simp)).symm, belowN HB2.out⟩
              · have htb : decide (Lt < 0) = true := by simpa using (by omega : Lt < 0)
                cases Ln <;> cases Lf <;> simp at hnf
                all_goals
                  go_wp2_with fail
                  rw [← HW2.out]
                  go_wp2_with fail
                  refine HC.out.mono ?_
                  rintro e w5 ⟨rfl, rfl⟩
                  go_wp2_with fail
                  go_ret
                  exact ⟨ret_bool (HBad.out (by rw [HBB.out, decide_eq_false (Int.not_le.2 ht0)]; simp)).symm, HB2.out⟩
        · go_wp2_with fail
          rw [← HW2.out]
          go_wp2
          go_ret
          exact ⟨ret_bool (HBad.out (by rw [blkB_eq]; simp [hlen])).symm, HB2.out⟩
      · obtain rfl : i = bs.length := by omega
        have e1 := hx.c2
        have C := containsFunc wr oa os.length oc os rfl ((H.out.below hx.below (Nat.le_refl _)).outs) (by omega) 68 (enters_of Try.func68 (by kernel_rfl) rfl) #[.pointer (some ⟨w.heap.size, 0, none⟩)] (fun x => !(decide (0 ≤ x) && decide (x < ins + bs.length))) (fun x _ => bad70 wr x w.heap.size bs.length bc ins _ (by omega) hneg (by omega) hx.c0 hx.c1)
        rw [any_bad] at C
        have hall : mayB (PackV.data ⟨ins, ba, bc, bs, oa, oc, os⟩) = os.all (fun x => decide (0 ≤ x) && decide (x < ins + bs.length)) := by
          rw [HGood.out, (blk_all (PackV.data ⟨ins, ba, bc, bs, oa, oc, os⟩) _).2 (fun j hj => by rw [data_n] at hj; rw [data_blk]; exact hh.out.2 j hj)]
          simp
        have HAll := Lib.hid hall
        have HC := Lib.hid C
        have HB2 := Lib.hid hx.below
        dsimp only at e1
        clear C hall hx hh
        go_wp2_with fail
        refine HC.out.mono ?_
        rintro e w5 ⟨rfl, rfl⟩
        go_wp2
        go_ret
        exact ⟨ret_bool (by rw [HAll.out]), HB2.out⟩
end Go.Proofs.Ytholafodachjnaa

/- M3 -/
namespace Go.Proofs.Ytholafodachjnaa
open Go.RowKit Go.Shelf Go.Maps
set_option linter.unusedVariables false
set_option linter.unusedSimpArgs false

theorem all_take (l : List Int) (p : Int → Bool) (q : Nat) (hq : q < l.length) (h : p (l.getD q 0) = false) : l.all p = false := by
  rw [Bool.eq_false_iff]
  intro hc
  rw [all_getD l 0 p] at hc
  rw [hc q hq] at h
  cases h

theorem shl_ref (n : Nat) (hn : n ≤ 4) : IntKind.i64.wrap (2 ^ min (IntKind.u64.wrap (2 ^ n)).toNat 64) = 2 ^ (2 ^ n) := by
  match n, hn with
  | 0, _ => rfl
  | 1, _ => rfl
  | 2, _ => rfl
  | 3, _ => rfl
  | 4, _ => rfl

set_option maxRecDepth 100000 in
set_option maxHeartbeats 16000000 in
theorem may60 (w : World) (P : PackV) (h : PackAt w P) (hf : FewP P) :
    Calls Try.prog 72 #[P.val] w fun e w' => e = .returned (.bool (mayB P.data)) ∧ Below w.heap.size w w' := by
  have hf0 := hf.ins
  have hf1 := hf.bs
  have hf2 := hf.os
  have hi := h.insR.1
  have H := Lib.hid h
  have HF := Lib.hid hf
  clear h hf
  by_cases hneg : P.ins < 0
  · have hd : decide (P.ins < 0) = true := by simpa using hneg
    have hres : mayB P.data = false := by unfold mayB; simp only [show decide (0 ≤ P.data.ins) = false by simp; omega]; simp
    go_enter Try.func72, Try.ntmps72
    go_wp2
    go_ret
    exact ⟨ret_bool hres.symm, (Below.refl _ _).alloc (Nat.le_refl _) _⟩
  · have hd : decide (P.ins < 0) = false := by simpa using hneg
    have hd1 : decide (1024 < P.ins) = false := by simpa using (by omega : P.ins ≤ 1024)
    obtain ⟨W1, hW1⟩ : ∃ W1, W1 = w.alloc P.obj := ⟨_, rfl⟩
    have hX := PBox.start w P
    rw [← hW1] at hX
    have HX := Lib.hid hX
    have c0 := hX.c0
    have c1 := hX.c1
    have hgood : mayB P.data = (P.data.bs.all (blkB (P.ins + P.bs.length)) && P.os.all (fun x => decide (0 ≤ x) && decide (x < P.ins + P.bs.length))) := by
      unfold mayB
      rw [data_n]
      simp only [show decide (0 ≤ P.data.ins) = true by simp; omega, show decide (P.data.ins ≤ 1024) = true by simp; omega, show decide (P.bs.length ≤ 1024) = true by simp; omega]
      simp
    have HGood := Lib.hid hgood
    clear hX hgood
    obtain ⟨ins, ba, bc, bs, oa, oc, os⟩ := P
    dsimp only at hf0 hf1 hf2 hi hneg hd hd1 c0 c1 HGood ⊢
    have HW1 := Lib.hid hW1
    go_enter Try.func72, Try.ntmps72
    go_wp2_with fail
    rw [← HW1.out]
    clear hW1
    go_loopw [33] (fun iv wr => ∃ i : Nat, i ≤ bs.length ∧ iv = .int .i64 i ∧ Hid (Below (w.heap.size + 1) W1 wr ∧ ∀ j, j < i → blkB (ins + bs.length) (bs.getD j default).data = true)) (fun iv _ => bs.length - (intOf iv).toNat)
    case atStart => exact ⟨0, by omega, rfl, Lib.hid ⟨Below.refl _ _, fun j hj => by omega⟩⟩
    case round =>
      obtain ⟨i, hi2, rfl, hh⟩ := hrel
      have hx := HX.out.step hh.out.1 (Nat.le_refl _)
      by_cases hlt : i < bs.length
      · obtain ⟨b, off, hba, hbb, d0, d1, d2, d3⟩ := (H.out.below hx.below (Nat.le_refl _)).blk i hlt
        have hEach := ((H.out.below hx.below (Nat.le_refl _)).each _ (getD_mem bs default hlt))
        have h20 := HF.out.each _ (getD_mem bs default hlt)
        dsimp only at d0 d1 d2 d3 hEach h20 hba
        subst hba
        have hbad := may_bad (PackV.data ⟨ins, some ⟨b, off, none⟩, bc, bs, oa, oc, os⟩) i (by rw [data_n]; exact hlt)
        rw [data_blk, data_n] at hbad
        dsimp only at hbad
        have hnext : blkB (ins + bs.length) (bs.getD i default).data = true → ∀ j, j < i + 1 → blkB (ins + bs.length) (bs.getD j default).data = true := fun hb j hj => by
          rcases Nat.lt_succ_iff_lt_or_eq.1 hj with h | rfl
          · exact hh.out.2 j h
          · exact hb
        have HNext := Lib.hid hnext
        clear hnext
        obtain ⟨L, hLe⟩ : ∃ L, L = bs.getD i default := ⟨_, rfl⟩
        rw [← hLe] at d0 d1 d2 d3 hEach h20 hbad HNext
        obtain ⟨La, Lc, Li, Lt, Lf, Ln⟩ := L
        dsimp only at d0 d1 d2 d3 hEach h20 hbad HNext
        have HEach := Lib.hid hEach
        have HBad := Lib.hid hbad
        obtain ⟨W2, hW2⟩ : ∃ W2, W2 = wr.alloc (Obj.cells #[Value.slice La Li.length Lc, Value.int .i64 Lt, Value.bool Lf, Value.bool Ln] 46) := ⟨_, rfl⟩
        have hb2 : Below wr.heap.size wr W2 := by rw [hW2]; exact (Below.refl _ _).alloc (Nat.le_refl _) _
        have hB1 : Below (w.heap.size + 1) W1 W2 := hh.out.1.trans (hb2.mono hx.size)
        have hB2 : Below w.heap.size w W2 := hx.below.trans (hb2.mono (by have := hx.size; omega))
        have HB1 := Lib.hid hB1
        have HB2 := Lib.hid hB2
        have HSq := Lib.hid (hEach.1.below hb2 (Nat.le_refl _))
        have HW2 := Lib.hid hW2
        have e0 : W2.cell? ⟨wr.heap.size, 0, none⟩ = some (.slice La Li.length Lc) := by rw [hW2]; simp
        have e1 : W2.cell? ⟨wr.heap.size, 1, none⟩ = some (.int .i64 Lt) := by rw [hW2]; simp
        have e2 : W2.cell? ⟨wr.heap.size, 2, none⟩ = some (.bool Lf) := by rw [hW2]; simp
        have e3 : W2.cell? ⟨wr.heap.size, 3, none⟩ = some (.bool Ln) := by rw [hW2]; simp
        clear hEach hbad hLe hB1 hB2 hb2 hx hW2 hh
        have HBB : Hid (blkB (ins + bs.length) (BlkV.data ⟨La, Lc, Li, Lt, Lf, Ln⟩) = (decide (Li.length ≤ 4) && (decide (0 ≤ Lt) && decide (Lt < 2 ^ (2 ^ Li.length))) && (!Ln || Lf) && Li.all (fun w => decide (0 ≤ w) && decide (w < ins + bs.length)))) := Lib.hid rfl
        by_cases hlen : Li.length ≤ 4
        · have hlb : decide ((4 : Int) < (Li.length : Int)) = false := by simpa using (by omega : (Li.length : Int) ≤ 4)
          by_cases ht0 : 0 ≤ Lt
          · have htb : decide (Lt < 0) = false := by simpa using ht0
            have hshl := shl_ref Li.length hlen
            by_cases htt : Lt < 2 ^ (2 ^ Li.length)
            · have htt2 : decide (2 ^ (2 ^ Li.length) ≤ Lt) = false := by simpa using htt
              have HTT := Lib.hid htt
              clear htt
              by_cases hnf : (Ln && !Lf) = true
              · simp only [Bool.and_eq_true, Bool.not_eq_true'] at hnf
                obtain ⟨rfl, rfl⟩ := hnf
                go_wp2_with fail
                rw [← HW2.out]
                go_wp2_with fail
                go_quiet (fail)
                go_wp2_with fail
                go_ret
                exact ⟨ret_bool (HBad.out (by rw [HBB.out]; simp)).symm, belowN HB2.out⟩
              · have hnf2 : (!Ln || Lf) = true := by cases Ln <;> cases Lf <;> simp_all
                have HBC : Hid (blkB (ins + bs.length) (BlkV.data ⟨La, Lc, Li, Lt, Lf, Ln⟩) = Li.all (fun w => decide (0 ≤ w) && decide (w < ins + bs.length))) := Lib.hid (by rw [HBB.out, decide_eq_true hlen, decide_eq_true ht0, decide_eq_true HTT.out, hnf2]; simp)
                clear hnf2
                cases Ln <;> cases Lf <;> simp at hnf
                all_goals
                  go_wp2_with fail
                  rw [← HW2.out]
                  go_wp2_with fail
                  go_quiet (fail)
                  go_wp2_with fail
                  go_loop [68] (fun qv => ∃ q : Nat, q ≤ Li.length ∧ qv = .int .i64 q ∧ Hid (∀ j, j < q → (0 ≤ Li.getD j 0 ∧ Li.getD j 0 < ins + bs.length))) (fun qv => Li.length - (intOf qv).toNat)
                  case atStart => exact ⟨0, by omega, rfl, Lib.hid (fun j hj => by omega)⟩
                  case round =>
                    obtain ⟨q, hq, rfl, hqq⟩ := hrel
                    by_cases hlq : q < Li.length
                    · obtain ⟨b3, off3, hLa, hb3, hc3⟩ := HSq.out.at q hlq
                      have x0 := hc3 q hlq
                      unfold ints at x0
                      obtain ⟨x, hx⟩ : ∃ x, x = Li.getD q 0 := ⟨_, rfl⟩
                      rw [← hx] at x0
                      have HXq := Lib.hid hx
                      clear hx hc3
                      subst hLa
                      by_cases hx0 : 0 ≤ x
                      · have hxb : decide (x < 0) = false := by simpa using hx0
                        by_cases hx1 : x < ins + bs.length
                        · have hxc : decide (ins + (bs.length : Int) ≤ x) = false := by simpa using hx1
                          have HN : Hid (∀ j, j < q + 1 → (0 ≤ Li.getD j 0 ∧ Li.getD j 0 < ins + bs.length)) := Lib.hid (fun j hj => by
                            rcases Nat.lt_succ_iff_lt_or_eq.1 hj with h | rfl
                            · exact hqq.out j h
                            · rw [← HXq.out]; exact ⟨hx0, hx1⟩)
                          go_wp2_with fail
                          go_round
                          case rel => exact ⟨q + 1, by omega, by go_num, HN⟩
                          case measure => simp [intOf]; omega
                        · have hxc : decide (ins + (bs.length : Int) ≤ x) = true := by simpa using hx1
                          have HFa : Hid (Li.all (fun w => decide (0 ≤ w) && decide (w < ins + bs.length)) = false) := Lib.hid (all_take Li _ q hlq (by rw [← HXq.out, decide_eq_false hx1]; simp))
                          go_wp2_with fail
                          go_ret
                          exact ⟨ret_bool (HBad.out (by rw [HBC.out]; exact HFa.out)).symm, belowN HB2.out⟩
                      · have hxb : decide (x < 0) = true := by simpa using (by omega : x < 0)
                        have HFa : Hid (Li.all (fun w => decide (0 ≤ w) && decide (w < ins + bs.length)) = false) := Lib.hid (all_take Li _ q hlq (by rw [← HXq.out, decide_eq_false hx0]; simp))
                        go_wp2_with fail
                        go_ret
                        exact ⟨ret_bool (HBad.out (by rw [HBC.out]; exact HFa.out)).symm, belowN HB2.out⟩
                    · obtain rfl : q = Li.length := by omega
                      have HT : Hid (Li.all (fun w => decide (0 ≤ w) && decide (w < ins + bs.length)) = true) := Lib.hid ((all_getD Li 0 _).2 (fun j hj => by simp only [Bool.and_eq_true, decide_eq_true_eq]; exact hqq.out j hj))
                      go_wp2_with fail
                      go_roundw
                      case rel => exact ⟨i + 1, by omega, by go_num, Lib.hid ⟨belowN HB1.out, HNext.out (by rw [HBC.out]; exact HT.out)⟩⟩
                      case measure => simp [intOf]; omega
            · have htt2 : decide (2 ^ (2 ^ Li.length) ≤ Lt) = true := by simpa using htt
              have HTT := Lib.hid (decide_eq_false htt)
              clear htt
              go_wp2_with fail
              rw [← HW2.out]
              go_wp2_with fail
              go_quiet (fail)
              go_wp2_with fail
              go_ret
              exact ⟨ret_bool (HBad.out (by rw [HBB.out, HTT.out]; simp)).symm, belowN HB2.out⟩
          · have htb : decide (Lt < 0) = true := by simpa using (by omega : Lt < 0)
            have HTT := Lib.hid (decide_eq_false ht0)
            clear ht0
            go_wp2_with fail
            rw [← HW2.out]
            go_wp2_with fail
            go_quiet (fail)
            go_wp2_with fail
            go_ret
            exact ⟨ret_bool (HBad.out (by rw [HBB.out, HTT.out]; simp)).symm, belowN HB2.out⟩
        · have hlb : decide ((4 : Int) < (Li.length : Int)) = true := by simpa using (by omega : (4 : Int) < Li.length)
          have HTT := Lib.hid (decide_eq_false hlen)
          clear hlen
          go_wp2_with fail
          rw [← HW2.out]
          go_wp2_with fail
          go_quiet (fail)
          go_wp2_with fail
          go_ret
          exact ⟨ret_bool (HBad.out (by rw [HBB.out, HTT.out]; simp)).symm, belowN HB2.out⟩
      · obtain rfl : i = bs.length := by omega
        have e1 := hx.c2
        have HSo := Lib.hid ((H.out.below hx.below (Nat.le_refl _)).outs)
        have hall : mayB (PackV.data ⟨ins, ba, bc, bs, oa, oc, os⟩) = os.all (fun x => decide (0 ≤ x) && decide (x < ins + bs.length)) := by
          rw [HGood.out, (blk_all (PackV.data ⟨ins, ba, bc, bs, oa, oc, os⟩) _).2 (fun j hj => by rw [data_n] at hj; rw [data_blk]; exact hh.out.2 j hj)]
          simp
        have HAll := Lib.hid hall
        have HB2 := Lib.hid hx.below
        dsimp only at e1 HSo
        clear hall hx hh
        go_wp2_with fail
        go_loop [84] (fun qv => ∃ q : Nat, q ≤ os.length ∧ qv = .int .i64 q ∧ Hid (∀ j, j < q → (0 ≤ os.getD j 0 ∧ os.getD j 0 < ins + bs.length))) (fun qv => os.length - (intOf qv).toNat)
        case atStart => exact ⟨0, by omega, rfl, Lib.hid (fun j hj => by omega)⟩
        case round =>
          obtain ⟨q, hq, rfl, hqq⟩ := hrel
          by_cases hlq : q < os.length
          · obtain ⟨b3, off3, hLa, hb3, hc3⟩ := HSo.out.at q hlq
            have x0 := hc3 q hlq
            unfold ints at x0
            obtain ⟨x, hx⟩ : ∃ x, x = os.getD q 0 := ⟨_, rfl⟩
            rw [← hx] at x0
            have HXq := Lib.hid hx
            clear hx hc3
            subst hLa
            by_cases hx0 : 0 ≤ x
            · have hxb : decide (x < 0) = false := by simpa using hx0
              by_cases hx1 : x < ins + bs.length
              · have hxc : decide (ins + (bs.length : Int) ≤ x) = false := by simpa using hx1
                have HN : Hid (∀ j, j < q + 1 → (0 ≤ os.getD j 0 ∧ os.getD j 0 < ins + bs.length)) := Lib.hid (fun j hj => by
                  rcases Nat.lt_succ_iff_lt_or_eq.1 hj with h | rfl
                  · exact hqq.out j h
                  · rw [← HXq.out]; exact ⟨hx0, hx1⟩)
                go_wp2_with fail
                go_round
                case rel => exact ⟨q + 1, by omega, by go_num, HN⟩
                case measure => simp [intOf]; omega
              · have hxc : decide (ins + (bs.length : Int) ≤ x) = true := by simpa using hx1
                have HFa : Hid (os.all (fun w => decide (0 ≤ w) && decide (w < ins + bs.length)) = false) := Lib.hid (all_take os _ q hlq (by rw [← HXq.out, decide_eq_false hx1]; simp))
                go_wp2_with fail
                go_ret
                exact ⟨ret_bool (by rw [HAll.out]; exact HFa.out.symm), HB2.out⟩
            · have hxb : decide (x < 0) = true := by simpa using (by omega : x < 0)
              have HFa : Hid (os.all (fun w => decide (0 ≤ w) && decide (w < ins + bs.length)) = false) := Lib.hid (all_take os _ q hlq (by rw [← HXq.out, decide_eq_false hx0]; simp))
              go_wp2_with fail
              go_ret
              exact ⟨ret_bool (by rw [HAll.out]; exact HFa.out.symm), HB2.out⟩
          · obtain rfl : q = os.length := by omega
            have HT : Hid (os.all (fun w => decide (0 ≤ w) && decide (w < ins + bs.length)) = true) := Lib.hid ((all_getD os 0 _).2 (fun j hj => by simp only [Bool.and_eq_true, decide_eq_true_eq]; exact hqq.out j hj))
            go_wp2_with fail
            go_ret
            exact ⟨ret_bool (by rw [HAll.out]; exact HT.out.symm), HB2.out⟩
end Go.Proofs.Ytholafodachjnaa
