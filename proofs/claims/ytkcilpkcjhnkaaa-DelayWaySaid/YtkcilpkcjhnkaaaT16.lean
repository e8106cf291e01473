import Derived.Test.YtkcilpkcjhnkaaaBox
import Derived.Test.YtkcilpkcjhnkaaaP4
namespace Go.Proofs.Ytkcilpkcjhnkaaa
open Go.RowKit

theorem rowTo_small (ins : List Int) (v : List Bool) (j : Nat) (h : j ≤ 6) : rowTo ins v j < 64 := by
  have h1 := rowTo_lt ins v j
  have : (2 : Nat) ^ j ≤ 2 ^ 6 := Nat.pow_le_pow_right (by omega) h
  omega

theorem bit_shr (tab : Int) (h : U64 tab) (r : Nat) : (bits .and .u64 (tab / 2 ^ r) 1 == 1) = tab.toNat.testBit r := by
  obtain ⟨h0, h1⟩ := h
  obtain ⟨m, rfl⟩ := Int.eq_ofNat_of_zero_le h0
  rw [Int.toNat_natCast, Nat.testBit_eq_decide_div_mod_eq, show ((m : Int) / 2 ^ r) = ((m / 2 ^ r : Nat) : Int) by simp, show (1 : Int) = ((1 : Nat) : Int) by rfl,
    u64_and_nat _ _ (Nat.lt_of_le_of_lt (Nat.div_le_self _ _) (by omega)) (by omega), Nat.and_one_is_mod]
  by_cases h : m / 2 ^ r % 2 = 1
  · simp [h]
  · rw [decide_eq_false h, beq_eq_false_iff_ne]; omega

set_option maxHeartbeats 1000000 in
theorem value (w : World) (L : LutV) (hS : Seq w L.a L.ins.length (ints L.ins)) (hU : U64 L.tab) (h6 : L.ins.length ≤ 6) (a : Option Addr) (n c : Nat) (v : List Bool) (S : Seq w a n (bools v)) (hn : n ≤ 100000) (hin : ∀ x ∈ L.ins, 0 ≤ x ∧ x < n) :
    Calls Try.prog 47 #[.agg #[.slice L.a L.ins.length L.c, .int .u64 L.tab], .slice a n c] w fun e w' => e = .returned (.bool (tabVal L v)) ∧ Below w.heap.size w w' := by
  have HU := Lib.hid hU
  have HS := Lib.hid hS
  have HV := Lib.hid S
  have HIn := Lib.hid hin
  clear hU hS S hin
  obtain ⟨La, Lc, ins, tab⟩ := L
  dsimp only at h6 ⊢
  have HB : Below w.heap.size w (w.alloc (Obj.cells #[Value.slice La ins.length Lc, Value.int IntKind.u64 tab] 48)) := (Below.refl _ _).alloc (Nat.le_refl _) _
  have HBB := Lib.hid HB
  clear HB
  go_enter Try.func47, Try.ntmps47
  go_wp2
  go_loop [5, 11] (fun r i => ∃ j : Nat, j ≤ ins.length ∧ i = .int .i64 j ∧ r = .int .i64 (rowTo ins v j : Nat)) (fun _ i => ins.length - (intOf i).toNat)
  case atStart => exact ⟨0, by omega, rfl, rfl⟩
  case round =>
    obtain ⟨j, hj, rfl, rfl⟩ := hrel
    by_cases hlt : j < ins.length
    · obtain ⟨b, off, hLa, hbb, hc⟩ := HS.out.at j hlt
      try dsimp only at hLa
      subst hLa
      have d0 := hc j hlt
      unfold ints at d0
      try dsimp only at d0
      have hx := HIn.out _ (getD_mem ins 0 hlt)
      try dsimp only at hx
      obtain ⟨xn, hxn⟩ := Int.eq_ofNat_of_zero_le hx.1
      have hR : rowTo ins v (j + 1) = rowTo ins v j + (if v.getD xn false then 2 ^ j else 0) := by
        simp only [rowTo]; rw [hxn, Int.toNat_natCast]
      rw [hxn] at d0 hx
      have hxlt : xn < n := by omega
      obtain ⟨bv, ov, rfl, hbv, hcv⟩ := HV.out.at xn hxlt
      have e0 := hcv xn hxlt
      unfold bools at e0
      have hr0 := rowTo_small ins v j (by omega)
      obtain ⟨r, hr⟩ : ∃ r, r = rowTo ins v j := ⟨_, rfl⟩
      rw [← hr] at hr0 hR ⊢
      obtain ⟨y, hy⟩ : ∃ y, y = v.getD xn false := ⟨_, rfl⟩
      rw [← hy] at e0 hR
      have HR := Lib.hid hR
      have hj6 : j = 0 ∨ j = 1 ∨ j = 2 ∨ j = 3 ∨ j = 4 ∨ j = 5 := by omega
      have d0' := cell_alloc (Obj.cells #[Value.slice (some ⟨b, off, none⟩) ins.length Lc, Value.int IntKind.u64 tab] 48) d0
      have e0' := cell_alloc (Obj.cells #[Value.slice (some ⟨b, off, none⟩) ins.length Lc, Value.int IntKind.u64 tab] 48) e0
      clear hc hxn hcv hr hy hR d0 e0
      cases y
      · go_wp2
        go_round
        case rel => exact ⟨j + 1, by omega, by go_num, by rw [HR.out]; simp⟩
        case measure => simp [intOf]; omega
      · rcases hj6 with rfl | rfl | rfl | rfl | rfl | rfl
        all_goals
          try rw [Nat.add_zero] at d0'
          go_wp2
          go_round
          case rel => exact ⟨_, hlt, by go_num, by rw [HR.out]; simp⟩
          case measure => simp [intOf]; omega
    · obtain rfl : j = ins.length := by omega
      have hr0 := rowTo_small ins v ins.length h6
      obtain ⟨r, hr⟩ : ∃ r, r = rowTo ins v ins.length := ⟨_, rfl⟩
      rw [← hr] at hr0 ⊢
      go_wp2
      go_ret
      refine ⟨ret_bool ?_, HBB.out⟩
      unfold tabVal
      dsimp only
      rw [← hr]
      exact bit_shr tab HU.out r
end Go.Proofs.Ytkcilpkcjhnkaaa
