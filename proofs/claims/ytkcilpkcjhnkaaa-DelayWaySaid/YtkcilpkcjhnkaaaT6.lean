import Derived.Test.YtkcilpkcjhnkaaaT4
namespace Go.Proofs.Ytkcilpkcjhnkaaa
open Go.RowKit

def lutB (k at_ : Int) (L : LutV) : Bool := decide ((L.ins.length : Int) ≤ k) && decide (L.tab ≤ rowsN L.ins.length) && L.ins.all (fun x => decide (0 ≤ x) && decide (x < at_))

theorem lutB_iff (k at_ : Int) (L : LutV) : lutB k at_ L = true ↔ LutOk k at_ L := by
  unfold lutB
  simp only [Bool.and_eq_true, decide_eq_true_eq, List.all_eq_true]
  exact ⟨fun ⟨⟨h1, h2⟩, h3⟩ => ⟨h1, h2, h3⟩, fun h => ⟨⟨h.len, h.tab⟩, h.ins⟩⟩

theorem table25 (w : World) (L : LutV) (hS : Seq w L.a L.ins.length (ints L.ins)) (hU : U64 L.tab) (h20 : L.ins.length ≤ 20) (at_ k : Int) :
    Calls Try.prog 65 #[.agg #[.slice L.a L.ins.length L.c, .int .u64 L.tab], .int .i64 at_, .int .i64 k] w fun e w' => e = .returned (.bool (lutB k at_ L)) ∧ Below w.heap.size w w' := by
  have htb := tab_bad L.tab L.ins.length hU
  have HU := Lib.hid hU
  have HS := Lib.hid hS
  clear hU hS
  obtain ⟨a, c, ins, tab⟩ := L
  dsimp only at h20 htb ⊢
  have HB : Below w.heap.size w (w.alloc (Obj.cells #[Value.slice a ins.length c, Value.int IntKind.u64 tab] 48)) := (Below.refl _ _).alloc (Nat.le_refl _) _
  have HBB := Lib.hid HB
  clear HB
  by_cases hlen : (ins.length : Int) ≤ k
  · have hlenb : decide (k < (ins.length : Int)) = false := by simp; omega
    by_cases htab : tab ≤ rowsN ins.length
    · rw [decide_eq_true htab] at htb
      go_enter Try.func65, Try.ntmps65
      go_wp2_with fail
      obtain ⟨W1, hW1⟩ : ∃ W1, W1 = w.alloc (Obj.cells #[Value.slice a ins.length c, Value.int IntKind.u64 tab] 48) := ⟨_, rfl⟩
      have hs : W1.heap.size = w.heap.size + 1 := by rw [hW1]; simp
      have c0 : W1.cell? ⟨w.heap.size, 0, none⟩ = some (.slice a ins.length c) := by rw [hW1]; simp
      have c1 : W1.cell? ⟨w.heap.size, 1, none⟩ = some (.int .u64 tab) := by rw [hW1]; simp
      have hSeq := HS.out.below (w' := W1) (by rw [hW1]; exact HBB.out) (Nat.le_refl _)
      try dsimp only at hSeq
      have HSeq := Lib.hid hSeq
      rw [← hW1]
      rw [← hW1] at HBB
      clear hW1 hSeq HS
      go_quiet ((go_at_call 71; exact quiet_same (rows25 _ _ (by omega))))
      go_wp2
      go_loopw [7] (fun i wr => ∃ j : Nat, j ≤ ins.length ∧ i = .int .i64 j ∧ Hid ((∃ q, wr = W1.drewN q) ∧ ∀ i, i < j → 0 ≤ ins.getD i 0 ∧ ins.getD i 0 < at_)) (fun i _ => ins.length - (intOf i).toNat)
      case atStart => exact ⟨0, by omega, rfl, ⟨_, rfl⟩, fun j hj => by omega⟩
      case round =>
        obtain ⟨j, hj, rfl, hh⟩ := hrel
        obtain ⟨⟨q, rfl⟩, hdone⟩ := hh
        have HD := Lib.hid hdone
        clear hdone
        by_cases hlt : j < ins.length
        · obtain ⟨b, off, rfl, hbb, hc⟩ := HSeq.out.at j hlt
          have d0 := hc j hlt
          unfold ints at d0
          obtain ⟨x, hx⟩ : ∃ x, x = ins.getD j 0 := ⟨_, rfl⟩
          rw [← hx] at d0
          have HX := Lib.hid hx
          clear hx hc
          by_cases h0 : 0 ≤ x
          · by_cases h1 : x < at_
            · go_wp2
              go_roundw
              case rel => exact ⟨j + 1, by omega, by go_num, ⟨_, rfl⟩, fun i hi => by
                rcases Nat.lt_succ_iff_lt_or_eq.1 hi with h | rfl
                · exact HD.out i h
                · rw [← HX.out]; exact ⟨h0, h1⟩⟩
              case measure => simp [intOf]; omega
            · go_wp2
              go_ret
              refine ⟨ret_bool ?_, belowN HBB.out⟩
              rw [eq_comm, Bool.eq_false_iff]
              intro hB
              have := ((lutB_iff _ _ _).1 hB).ins x (by rw [HX.out]; exact getD_mem _ _ hlt)
              omega
          · go_wp2
            go_ret
            refine ⟨ret_bool ?_, belowN HBB.out⟩
            rw [eq_comm, Bool.eq_false_iff]
            intro hB
            have := ((lutB_iff _ _ _).1 hB).ins x (by rw [HX.out]; exact getD_mem _ _ hlt)
            omega
        · obtain rfl : j = ins.length := by omega
          go_wp2
          go_ret
          refine ⟨ret_bool ?_, belowN HBB.out⟩
          rw [eq_comm, lutB_iff]
          refine ⟨hlen, htab, fun x hx => ?_⟩
          obtain ⟨i, hi, rfl⟩ := List.getElem_of_mem hx
          have := HD.out i hi
          simpa [List.getD, List.getElem?_eq_getElem hi] using this
    · rw [decide_eq_false htab] at htb
      go_enter Try.func65, Try.ntmps65
      go_wp2_with fail
      go_quiet ((go_at_call 71; exact quiet_same (rows25 _ _ (by omega))))
      go_wp2
      go_ret
      refine ⟨ret_bool ?_, belowN HBB.out⟩
      rw [eq_comm, Bool.eq_false_iff]
      intro hB
      have := ((lutB_iff _ _ _).1 hB).tab
      dsimp only at this
      omega
  · have hlenb : decide (k < (ins.length : Int)) = true := by simp; omega
    go_enter Try.func65, Try.ntmps65
    go_wp2_with fail
    go_quiet (fail)
    go_wp2
    go_ret
    refine ⟨ret_bool ?_, belowN HBB.out⟩
    rw [eq_comm, Bool.eq_false_iff]
    intro hB
    have := ((lutB_iff _ _ _).1 hB).len
    dsimp only at this
    omega
end Go.Proofs.Ytkcilpkcjhnkaaa
