/- Blocks that came in: readings; whether there are few; whether they may be (pack.may). -/
import Derived.Test.YtibimdhmfchcoaaH4
namespace Go.Proofs.Ytibimdhmfchcoaa
open Go.RowKit Go.Shelf Go.Maps
set_option linter.unusedVariables false
set_option linter.unusedSimpArgs false

abbrev PackV.obj (P : PackV) : Obj := .cells #[.int .i64 P.ins, .slice P.ba P.bs.length P.bc, .slice P.oa P.os.length P.oc] 31
abbrev PackV.data (P : PackV) : PackD := ⟨P.ins, P.bs.map BlkV.data, P.os⟩
theorem getD_map_blk (bs : List BlkV) (i : Nat) : (bs.map BlkV.data).getD i default = (bs.getD i default).data := by
  simp only [List.getD_eq_getElem?_getD, List.getElem?_map]
  cases bs[i]? <;> rfl
theorem data_blk (P : PackV) (i : Nat) : P.data.blk i = (P.bs.getD i default).data := getD_map_blk P.bs i
theorem data_n (P : PackV) : P.data.n = P.bs.length := by simp [PackD.n]

structure PBox (B : Nat) (w : World) (P : PackV) (wr : World) : Prop where
  below : Below B w wr
  size : B + 1 ≤ wr.heap.size
  c0 : wr.cell? ⟨B, 0, none⟩ = some (.int .i64 P.ins)
  c1 : wr.cell? ⟨B, 1, none⟩ = some (Value.slice P.ba P.bs.length P.bc)
  c2 : wr.cell? ⟨B, 2, none⟩ = some (Value.slice P.oa P.os.length P.oc)
theorem PBox.start (w : World) (P : PackV) : PBox w.heap.size w P (w.alloc P.obj) :=
  ⟨(Below.refl _ _).alloc (Nat.le_refl _) _, by simp, by simp, by simp, by simp⟩
theorem PBox.step {B C : Nat} {w wr w' : World} {P : PackV} (h : PBox B w P wr) (hb : Below C wr w') (hC : B + 1 ≤ C) : PBox B w P w' :=
  ⟨h.below.trans (hb.mono (by omega)), Nat.le_trans h.size hb.size, (hb.cell (p := ⟨B, 0, none⟩) (by simp; omega)).trans h.c0, (hb.cell (p := ⟨B, 1, none⟩) (by simp; omega)).trans h.c1,
    (hb.cell (p := ⟨B, 2, none⟩) (by simp; omega)).trans h.c2⟩

/-- The block at a place. -/
theorem PackAt.blk {w : World} {P : PackV} (h : PackAt w P) (k : Nat) (hk : k < P.bs.length) :
    ∃ b off, P.ba = some ⟨b, off, none⟩ ∧ b < w.heap.size ∧ w.cell? ⟨b, off + k * 4, none⟩ = some (.slice (P.bs.getD k default).a (P.bs.getD k default).ins.length (P.bs.getD k default).c) ∧
      w.cell? ⟨b, off + k * 4 + 1, none⟩ = some (.int .i64 (P.bs.getD k default).tab) ∧ w.cell? ⟨b, off + k * 4 + 2, none⟩ = some (.bool (P.bs.getD k default).ff) ∧ w.cell? ⟨b, off + k * 4 + 3, none⟩ = some (.bool (P.bs.getD k default).init) := by
  obtain ⟨b, off, ha, hb, hc⟩ := h.blocks.at (4 * k) (by omega)
  refine ⟨b, off, ha, hb, ?_, ?_, ?_, ?_⟩
  · have := hc (k * 4) (by omega)
    rw [this]; simp only [blkCell]
    rw [if_pos (by omega), show k * 4 / 4 = k by omega]
  · have := hc (k * 4 + 1) (by omega)
    rw [Nat.add_assoc, this]; simp only [blkCell]
    rw [if_neg (by omega), if_pos (by omega), show (k * 4 + 1) / 4 = k by omega]
  · have := hc (k * 4 + 2) (by omega)
    rw [Nat.add_assoc, this]; simp only [blkCell]
    rw [if_neg (by omega), if_neg (by omega), if_pos (by omega), show (k * 4 + 2) / 4 = k by omega]
  · have := hc (k * 4 + 3) (by omega)
    rw [Nat.add_assoc, this]; simp only [blkCell]
    rw [if_neg (by omega), if_neg (by omega), if_neg (by omega), show (k * 4 + 3) / 4 = k by omega]

structure FewP (P : PackV) : Prop where
  ins : P.ins ≤ 100
  bs : P.bs.length ≤ 500
  os : P.os.length ≤ 500
  each : ∀ b ∈ P.bs, b.ins.length ≤ 20
def fewPB (P : PackV) : Bool := (P.bs.all fun b => decide (b.ins.length ≤ 20)) && decide (P.ins ≤ 100) && decide (P.bs.length ≤ 150) && decide (P.os.length ≤ 150)
theorem fewPB_iff (P : PackV) : (fewPB P = true → FewP P) ∧ True := by
  unfold fewPB
  simp only [Bool.and_eq_true, List.all_eq_true, decide_eq_true_eq]
  exact ⟨fun ⟨⟨⟨a, b⟩, c⟩, d⟩ => ⟨b, by omega, by omega, a⟩, trivial⟩

/-- may's bad. -/
theorem bad70 (w : World) (x : Int) (B n c : Nat) (ins : Int) (ba : Option Addr) (hn : n ≤ 1024) (hi0 : 0 ≤ ins) (hi1 : ins ≤ 1024) (c0 : w.cell? ⟨B, 0, none⟩ = some (.int .i64 ins)) (c1 : w.cell? ⟨B, 1, none⟩ = some (.slice ba n c)) :
    Calls Try.prog 70 #[.int .i64 x, .pointer (some ⟨B, 0, none⟩)] w fun e w' => e = .returned (.bool (!(decide (0 ≤ x) && decide (x < ins + n)))) ∧ w = w' := by
  by_cases h0 : 0 ≤ x
  · have hd : decide (x < 0) = false := by simpa using h0
    go_enter Try.func70, Try.ntmps70
    go_wp2
    go_ret
    exact ⟨ret_bool (by rw [Bool.eq_iff_iff]; simp; omega), rfl⟩
  · have hd : decide (x < 0) = true := by simpa using (by omega : x < 0)
    go_enter Try.func70, Try.ntmps70
    go_wp2
    go_ret
    exact ⟨ret_bool (by rw [Bool.eq_iff_iff]; simp; omega), rfl⟩

set_option maxHeartbeats 4000000 in
theorem few28 (w : World) (P : PackV) (h : PackAt w P) :
    Calls Try.prog 28 #[P.val] w fun e w' => e = .returned (.bool (fewPB P)) ∧ Below w.heap.size w w' := by
  have hbl := h.blocksL
  have hol := h.outsL
  have H := Lib.hid h
  clear h
  obtain ⟨W1, hW1⟩ : ∃ W1, W1 = w.alloc P.obj := ⟨_, rfl⟩
  have hX := PBox.start w P
  rw [← hW1] at hX
  have HX := Lib.hid hX
  have c1 := hX.c1
  obtain ⟨ins, ba, bc, bs, oa, oc, os⟩ := P
  dsimp only at hbl hol c1 ⊢
  clear hX
  go_enter Try.func28, Try.ntmps28
  go_wp2_with fail
  rw [← hW1]
  clear hW1
  go_loopw [8] (fun i wr => ∃ k : Nat, k ≤ bs.length ∧ i = .int .i64 k ∧ Hid (Below (w.heap.size + 1) W1 wr ∧ ∀ j, j < k → (bs.getD j default).ins.length ≤ 20)) (fun i _ => bs.length - (intOf i).toNat)
  case atStart => exact ⟨0, by omega, rfl, Lib.hid ⟨Below.refl _ _, fun j hj => by omega⟩⟩
  case round =>
    obtain ⟨k, hk, rfl, hh⟩ := hrel
    have hx := HX.out.step hh.out.1 (Nat.le_refl _)
    by_cases hlt : k < bs.length
    · obtain ⟨b, off, hba, hbb, d0, d1, d2, d3⟩ := (H.out.below hx.below (Nat.le_refl _)).blk k hlt
      have hL := ((H.out.each _ (getD_mem bs default hlt)).2.2.2)
      dsimp only at d0 d1 d2 d3 hL hba
      subst hba
      obtain ⟨L, hLe⟩ : ∃ L, L = bs.getD k default := ⟨_, rfl⟩
      rw [← hLe] at d0 d1 d2 d3 hL
      have HL := Lib.hid hLe
      have HXx := Lib.hid hx
      clear hLe hx
      by_cases h20 : L.ins.length ≤ 20
      · go_wp2
        go_roundw
        case rel => exact ⟨k + 1, by omega, by go_num, Lib.hid ⟨hh.out.1.alloc HXx.out.size _, fun j hj => by
          rcases Nat.lt_succ_iff_lt_or_eq.1 hj with h | rfl
          · exact hh.out.2 j h
          · rw [← HL.out]; exact h20⟩⟩
        case measure => simp [intOf]; omega
      · go_wp2
        go_ret
        refine ⟨ret_bool ?_, HXx.out.below.alloc (by have := HXx.out.size; omega) _⟩
        simp only [fewPB]
        refine Eq.symm ?_
        simp only [Bool.and_eq_false_iff]
        refine .inl (.inl (.inl ?_))
        rw [Bool.eq_false_iff]
        intro hc
        have := (all_getD bs default _).1 hc k hlt
        rw [← HL.out] at this
        simp at this
        omega
    · obtain rfl : k = bs.length := by omega
      have e0 := hx.c0
      have e1 := hx.c1
      have e2 := hx.c2
      dsimp only at e0 e1 e2
      have HXx := Lib.hid hx.below
      have hfin : (bs.all fun l => decide (l.ins.length ≤ 20)) = true := (all_getD bs default _).2 fun j hj => by simpa using hh.out.2 j hj
      have HF := Lib.hid hfin
      clear hfin hx
      by_cases g0 : ins ≤ 100
      · by_cases g2 : bs.length ≤ 150
        · by_cases g3 : os.length ≤ 150
          · go_wp2
            go_ret
            exact ⟨ret_bool (by simp only [fewPB]; rw [HF.out]; simp [g0, g2, g3] <;> omega), HXx.out⟩
          · go_wp2
            go_ret
            exact ⟨ret_bool (by simp only [fewPB]; rw [HF.out]; simp [g3] <;> omega), HXx.out⟩
        · go_wp2
          go_ret
          exact ⟨ret_bool (by simp only [fewPB]; rw [HF.out]; simp [g2] <;> omega), HXx.out⟩
      · go_wp2
        go_ret
        exact ⟨ret_bool (by simp only [fewPB]; rw [HF.out]; simp <;> omega), HXx.out⟩
end Go.Proofs.Ytibimdhmfchcoaa
