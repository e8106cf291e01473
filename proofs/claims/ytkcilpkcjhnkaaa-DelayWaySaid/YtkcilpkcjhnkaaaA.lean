import Derived.Test.YtkcilpkcjhnkaaaBase
namespace Go.Proofs.Ytkcilpkcjhnkaaa
open Go.RowKit

def fewB (N : NetV) : Bool := (N.luts.all fun l => decide (l.ins.length ≤ 20)) && decide (N.ins ≤ 100) && decide (N.holds.length ≤ 100) && decide (N.luts.length ≤ 200) && decide (N.outs.length ≤ 100)

theorem fewNet (w : World) (N : NetV) (h : NetAt w N) :
    Calls Try.prog 18 #[N.val] w fun e w' => e = .returned (.bool (fewB N)) ∧ Below w.heap.size w w' := by
  have hl := h.lutsL
  have hol := h.holdsL
  have hul := h.outsL
  have H := Lib.hid h
  clear h
  obtain ⟨ins, ha, hc, holds, la, lc, luts, oa, oc, outs⟩ := N
  dsimp only at hl hol hul ⊢
  go_enter Try.func18, Try.ntmps18
  go_wp2
  obtain ⟨W1, hW1⟩ : ∃ W1, W1 = w.alloc (Obj.cells #[Value.int IntKind.i64 ins, Value.slice ha holds.length hc, Value.slice la luts.length lc, Value.slice oa outs.length oc] 26) := ⟨_, rfl⟩
  have hs : W1.heap.size = w.heap.size + 1 := by rw [hW1]; simp
  have c0 : W1.cell? ⟨w.heap.size, 0, none⟩ = some (.int .i64 ins) := by rw [hW1]; simp
  have c1 : W1.cell? ⟨w.heap.size, 1, none⟩ = some (Value.slice ha holds.length hc) := by rw [hW1]; simp
  have c2 : W1.cell? ⟨w.heap.size, 2, none⟩ = some (Value.slice la luts.length lc) := by rw [hW1]; simp
  have c3 : W1.cell? ⟨w.heap.size, 3, none⟩ = some (Value.slice oa outs.length oc) := by rw [hW1]; simp
  have hB : Below w.heap.size w W1 := by rw [hW1]; exact (Below.refl _ _).alloc (Nat.le_refl _) _
  rw [← hW1]
  clear hW1
  go_loopw [8] (fun i wr => ∃ k : Nat, k ≤ luts.length ∧ i = .int .i64 k ∧ Hid (Below W1.heap.size W1 wr ∧ ∀ j, j < k → (luts.getD j default).ins.length ≤ 20)) (fun i _ => luts.length - (intOf i).toNat)
  case atStart => exact ⟨0, by omega, rfl, ⟨Below.refl _ _, fun j hj => by omega⟩⟩
  case round =>
    obtain ⟨k, hk, rfl, hh⟩ := hrel
    have hb := hh.out.1
    by_cases hlt : k < luts.length
    · obtain ⟨b, off, rfl, hbb, d0, d1⟩ := (H.out.below (hB.trans (hb.mono (by omega))) (Nat.le_refl _)).lut k hlt
      have hL := ((H.out.lutAt k hlt).2.2).2
      dsimp only at d0 d1 hL
      obtain ⟨L, hLe⟩ : ∃ L, L = luts.getD k default := ⟨_, rfl⟩
      rw [← hLe] at d0 d1 hL
      have HL := Lib.hid hLe
      clear hLe
      by_cases h20 : L.ins.length ≤ 20
      · go_wp2
        go_roundw
        case rel => exact ⟨k + 1, by omega, by go_num, ⟨hb.alloc hb.size _, fun j hj => by
          rcases Nat.lt_succ_iff_lt_or_eq.1 hj with h | rfl
          · exact hh.out.2 j h
          · rw [← HL.out]; exact h20⟩⟩
        case measure => simp [intOf]; omega
      · go_wp2
        go_ret
        refine ⟨ret_bool ?_, hB.trans ((hb.mono (by omega)).alloc (by have := hb.size; omega) _)⟩
        simp only [fewB]
        refine Eq.symm ?_
        simp only [Bool.and_eq_false_iff]
        refine .inl (.inl (.inl (.inl ?_)))
        rw [Bool.eq_false_iff]
        intro hc
        have := (all_getD luts default _).1 hc k hlt
        rw [← HL.out] at this
        simp at this
        omega
    · obtain rfl : k = luts.length := by omega
      obtain ⟨bc, bf⟩ := bcell hb
      have e0 := (bc _ 0 (by omega)).trans c0
      have e1 := (bc _ 1 (by omega)).trans c1
      have e2 := (bc _ 2 (by omega)).trans c2
      have e3 := (bc _ 3 (by omega)).trans c3
      clear bc bf c0 c1 c2 c3
      have hfin : (luts.all fun l => decide (l.ins.length ≤ 20)) = true := (all_getD luts default _).2 fun j hj => by simpa using hh.out.2 j hj
      have HF := Lib.hid hfin
      clear hfin
      have hB' : Below w.heap.size w wr := hB.trans (hb.mono (by omega))
      by_cases g0 : ins ≤ 100
      · by_cases g1 : holds.length ≤ 100
        · by_cases g2 : luts.length ≤ 200
          · by_cases g3 : outs.length ≤ 100
            · go_wp2
              go_ret
              exact ⟨ret_bool (by simp only [fewB]; rw [HF.out]; simp [g0, g1, g2, g3] <;> omega), hB'⟩
            · go_wp2
              go_ret
              exact ⟨ret_bool (by simp only [fewB]; rw [HF.out]; simp [g3] <;> omega), hB'⟩
          · go_wp2
            go_ret
            exact ⟨ret_bool (by simp only [fewB]; rw [HF.out]; simp [g2] <;> omega), hB'⟩
        · go_wp2
          go_ret
          exact ⟨ret_bool (by simp only [fewB]; rw [HF.out]; simp [g1] <;> omega), hB'⟩
      · go_wp2
        go_ret
        exact ⟨ret_bool (by simp only [fewB]; rw [HF.out]; simp [g0] <;> omega), hB'⟩
end Go.Proofs.Ytkcilpkcjhnkaaa
