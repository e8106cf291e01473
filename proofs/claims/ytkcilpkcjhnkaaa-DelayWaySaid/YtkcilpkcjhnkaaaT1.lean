import Derived.Test.YtkcilpkcjhnkaaaBase
namespace Go.Proofs.Ytkcilpkcjhnkaaa
open Go.RowKit

def idxBy {α : Type} (l : List α) (p : α → Bool) : Int := if l.any p then (l.findIdx p : Nat) else -1

theorem idx_yes {α : Type} {l : List α} (d : α) {p : α → Bool} {k : Nat} (hk : k < l.length) (h : p (l.getD k d) = true) (hno : ∀ j, j < k → p (l.getD j d) = false) : idxBy l p = k := by
  have hk' : l.getD k d = l[k] := by simp [List.getD, List.getElem?_eq_getElem hk]
  rw [hk'] at h
  have hany : l.any p = true := List.any_eq_true.2 ⟨l[k], List.getElem_mem hk, h⟩
  have : l.findIdx p = k := by
    rw [List.findIdx_eq hk]
    refine ⟨h, fun j hj => ?_⟩
    have := hno j hj
    simpa [List.getD, List.getElem?_eq_getElem (Nat.lt_trans hj hk)] using this
  simp [idxBy, hany, this]

theorem idx_no {α : Type} {l : List α} (d : α) {p : α → Bool} (hno : ∀ j, j < l.length → p (l.getD j d) = false) : idxBy l p = -1 := by
  have hany : l.any p = false := by
    rw [Bool.eq_false_iff]
    intro h
    obtain ⟨x, hx, hpx⟩ := List.any_eq_true.1 h
    obtain ⟨j, hj, rfl⟩ := List.getElem_of_mem hx
    have := hno j hj
    simp [List.getD, List.getElem?_eq_getElem hj, hpx] at this
  simp [idxBy, hany]

theorem idx_nonneg {α : Type} (l : List α) (p : α → Bool) : decide (0 ≤ idxBy l p) = l.any p := by
  unfold idxBy
  cases l.any p <;> simp

theorem indexFunc (w : World) (a : Option Addr) (n c : Nat) (l : List Int) (hlen : l.length = n) (S : Seq w a n (ints l)) (hn : n ≤ 9223372036854775807) (g : FuncId) (eg : Enters Try.prog g) (cap : Array Value) (p : Int → Bool)
    (hp : ∀ x, x ∈ l → Calls Try.prog g (#[.int .i64 x] ++ cap) w fun e w' => e = .returned (.bool (p x)) ∧ w = w') :
    Calls Try.prog 61 #[.slice a n c, .func (.func g) #[] cap] w fun e w' => e = .returned (.int .i64 (idxBy l p)) ∧ w = w' := by
  have HS := Lib.hid S
  have HL := Lib.hid hlen
  have HP := Lib.hid hp
  clear S hlen hp
  go_enter Try.func61, Try.ntmps61
  go_wp2
  go_loop [8] (fun i => ∃ k : Nat, k ≤ n ∧ i = .int .i64 k ∧ Hid (∀ j, j < k → p (l.getD j 0) = false)) (fun i => n - (intOf i).toNat)
  case atStart => exact ⟨0, by omega, rfl, fun j hj => by omega⟩
  case round =>
    obtain ⟨k, hk, rfl, hh⟩ := hrel
    by_cases hlt : k < n
    · obtain ⟨b, off, rfl, hbb, hc⟩ := HS.out.at k hlt
      have d0 : w.cell? ⟨b, off + k, none⟩ = some (.int .i64 (l.getD k 0)) := hc k hlt
      have hmem : l.getD k 0 ∈ l := getD_mem _ _ (by rw [HL.out]; exact hlt)
      obtain ⟨x, hx⟩ : ∃ x, x = l.getD k 0 := ⟨_, rfl⟩
      rw [← hx] at d0 hmem
      have HX := Lib.hid hx
      clear hx hc
      unfold Enters at eg
      cases hpx : p x
      all_goals
        have HPX := Lib.hid hpx
        clear hpx
        go_wp2_with fail
        refine (HP.out _ hmem).mono ?_
        rw [HPX.out]
        rintro e w1 ⟨rfl, rfl⟩
        go_wp2
      · go_round
        case rel =>
          refine ⟨k + 1, by omega, by go_num, fun j hj => ?_⟩
          rcases Nat.lt_succ_iff_lt_or_eq.1 hj with h | rfl
          · exact hh.out j h
          · rw [← HX.out, HPX.out]
        case measure => simp [intOf]; omega
      · go_ret
        exact ⟨ret_int (idx_yes 0 (by rw [HL.out]; exact hlt) (by rw [← HX.out]; exact HPX.out) hh.out).symm, rfl⟩
    · obtain rfl : k = n := by omega
      go_wp2
      go_ret
      exact ⟨ret_int (idx_no 0 (by rw [HL.out]; exact hh.out)).symm, rfl⟩

theorem containsFunc (w : World) (a : Option Addr) (n c : Nat) (l : List Int) (hlen : l.length = n) (S : Seq w a n (ints l)) (hn : n ≤ 9223372036854775807) (g : FuncId) (eg : Enters Try.prog g) (cap : Array Value) (p : Int → Bool)
    (hp : ∀ x, x ∈ l → Calls Try.prog g (#[.int .i64 x] ++ cap) w fun e w' => e = .returned (.bool (p x)) ∧ w = w') :
    Calls Try.prog 32 #[.slice a n c, .func (.func g) #[] cap] w fun e w' => e = .returned (.bool (l.any p)) ∧ w = w' := by
  have C := Lib.hid (indexFunc w a n c l hlen S hn g eg cap p hp)
  clear S hlen hp
  go_enter Try.func32, Try.ntmps32
  go_wp2_with fail
  refine C.out.mono ?_
  rintro e w1 ⟨rfl, rfl⟩
  go_wp2
  go_ret
  exact ⟨ret_bool (by rw [← idx_nonneg l p]), rfl⟩

theorem indexFuncHold (w : World) (a : Option Addr) (n c : Nat) (l : List HoldV) (hlen : l.length = n) (S : Seq w a (2 * n) (holdCell l)) (hn : n ≤ 9223372036854775807) (g : FuncId) (eg : Enters Try.prog g) (cap : Array Value) (p : HoldV → Bool)
    (hp : ∀ W x, Below w.heap.size w W → x ∈ l → Calls Try.prog g (#[.agg #[.int .i64 x.d, .bool x.init]] ++ cap) W fun e W' => e = .returned (.bool (p x)) ∧ Below W.heap.size W W') :
    Calls Try.prog 70 #[.slice a n c, .func (.func g) #[] cap] w fun e w' => e = .returned (.int .i64 (idxBy l p)) ∧ Below w.heap.size w w' := by
  have HS := Lib.hid S
  have HL := Lib.hid hlen
  have HP := Lib.hid hp
  clear S hlen hp
  go_enter Try.func70, Try.ntmps70
  go_wp2
  go_loopw [8] (fun i wr => ∃ k : Nat, k ≤ n ∧ i = .int .i64 k ∧ Hid (Below w.heap.size w wr ∧ ∀ j, j < k → p (l.getD j default) = false)) (fun i _ => n - (intOf i).toNat)
  case atStart => exact ⟨0, by omega, rfl, ⟨Below.refl _ _, fun j hj => by omega⟩⟩
  case round =>
    obtain ⟨k, hk, rfl, hh⟩ := hrel
    have hb := hh.out.1
    by_cases hlt : k < n
    · obtain ⟨b, off, rfl, hbb, hc⟩ := HS.out.at (2 * k) (by omega)
      have d0 : wr.cell? ⟨b, off + k * 2, none⟩ = some (.int .i64 (l.getD k default).d) := (hb.cell (p := ⟨b, off + k * 2, none⟩) hbb).trans (by rw [hc (k * 2) (by omega)]; simp only [holdCell]; rw [if_pos (by omega), show k * 2 / 2 = k by omega])
      have d1 : wr.cell? ⟨b, off + k * 2 + 1, none⟩ = some (.bool (l.getD k default).init) := (hb.cell (p := ⟨b, off + k * 2 + 1, none⟩) hbb).trans (by rw [Nat.add_assoc, hc (k * 2 + 1) (by omega)]; simp only [holdCell]; rw [if_neg (by omega), show (k * 2 + 1) / 2 = k by omega])
      have hmem : l.getD k default ∈ l := by
        have : k < l.length := by rw [HL.out]; exact hlt
        simp [List.getD, List.getElem?_eq_getElem this]
      obtain ⟨x, hx⟩ : ∃ x, x = l.getD k default := ⟨_, rfl⟩
      rw [← hx] at d0 d1 hmem
      have HX := Lib.hid hx
      have HC := Lib.hid hc
      clear hx hc
      unfold Enters at eg
      cases hpx : p x
      all_goals
        have HPX := Lib.hid hpx
        clear hpx
        go_wp2_with fail
        refine (HP.out _ _ hb hmem).mono ?_
        rw [HPX.out]
        rintro e w1 ⟨rfl, hb1⟩
        go_wp2
      · go_roundw
        case rel =>
          refine ⟨k + 1, by omega, by go_num, ⟨hb.trans (hb1.mono hb.size), fun j hj => ?_⟩⟩
          rcases Nat.lt_succ_iff_lt_or_eq.1 hj with h | rfl
          · exact hh.out.2 j h
          · rw [← HX.out, HPX.out]
        case measure => simp [intOf]; omega
      · go_ret
        exact ⟨ret_int (idx_yes default (by rw [HL.out]; exact hlt) (by rw [← HX.out]; exact HPX.out) hh.out.2).symm, hb.trans (hb1.mono hb.size)⟩
    · obtain rfl : k = n := by omega
      go_wp2
      go_ret
      exact ⟨ret_int (idx_no default (by rw [HL.out]; exact hh.out.2)).symm, hb⟩

theorem containsFuncHold (w : World) (a : Option Addr) (n c : Nat) (l : List HoldV) (hlen : l.length = n) (S : Seq w a (2 * n) (holdCell l)) (hn : n ≤ 9223372036854775807) (g : FuncId) (eg : Enters Try.prog g) (cap : Array Value) (p : HoldV → Bool)
    (hp : ∀ W x, Below w.heap.size w W → x ∈ l → Calls Try.prog g (#[.agg #[.int .i64 x.d, .bool x.init]] ++ cap) W fun e W' => e = .returned (.bool (p x)) ∧ Below W.heap.size W W') :
    Calls Try.prog 59 #[.slice a n c, .func (.func g) #[] cap] w fun e w' => e = .returned (.bool (l.any p)) ∧ Below w.heap.size w w' := by
  have C := Lib.hid (indexFuncHold w a n c l hlen S hn g eg cap p hp)
  clear S hlen hp
  go_enter Try.func59, Try.ntmps59
  go_wp2_with fail
  refine C.out.mono ?_
  rintro e w1 ⟨rfl, hb1⟩
  go_wp2
  go_ret
  exact ⟨ret_bool (by rw [← idx_nonneg l p]), hb1⟩
end Go.Proofs.Ytkcilpkcjhnkaaa
