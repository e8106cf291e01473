import Derived.Test.YtkcilpkcjhnkaaaL1
namespace Go.Proofs.Ytkcilpkcjhnkaaa
open Go.RowKit
set_option linter.unusedVariables false

/-- A new list of numbers. -/
def NewList (w : World) (l : List Int) (e : Ending) (w' : World) : Prop :=
  ∃ v, e = .returned v ∧ w'.ownsRow w.heap.size 3 1 v l.length (l.map (Value.int .i64)) ∧ Below w.heap.size w w'

theorem one_cell (w : World) (x : Int) : ∀ j u, [Value.int .i64 x][j]? = some u → (w.alloc (Obj.cells #[Value.int .i64 x] 3)).cell? ((⟨w.heap.size, 0, none⟩ : Addr).add j) = some u := by
  intro j u hj
  match j, hj with
  | 0, hj => simp at hj; subst hj; simp [Addr.add]

theorem units (w : World) (N : NetV) (hf2 : N.luts.length ≤ 200) :
    Calls Try.prog 19 #[N.val] w (NewList w (List.replicate N.luts.length 1)) := by
  have HBX := Lib.hid (Box.start w N)
  obtain ⟨i0, hi, hz0, hz1, hz2⟩ := info_parts info3
  go_enter Try.func19, Try.ntmps19
  go_wp2
  go_loopw [3, 7] (fun v i wr => ∃ k : Nat, k ≤ N.luts.length ∧ i = .int .i64 k ∧ Hid (Box w.heap.size w N wr ∧ wr.ownsRow (w.heap.size + 1) 3 1 v k ((List.replicate k (1 : Int)).map (Value.int .i64)))) (fun _ i _ => N.luts.length - (intOf i).toNat)
  case atStart => exact ⟨0, by omega, rfl, HBX.out, World.ownsRow_nil _ _ _ _⟩
  case round =>
    obtain ⟨k, hk, rfl, hh⟩ := hrel
    have hsz := hh.out.1.size
    by_cases hlt : k < N.luts.length
    · go_wp2_with (at_builtin; refine wpList_append_own _ rfl (.tmp 9) (.tmp 10) 24 rfl (w.heap.size + 1) 3 i0 (.int .i64 0) 1 8 Try.underlying24 hi hz0 hz1 hz2 rfl (by decide) _ _ _ rfl (hh.out.2.alloc _) ⟨wr.heap.size, 0, none⟩ 1 1 [.int .i64 1] rfl rfl (one_cell _ _) (by simp [Value.oneCell']) (by unfold maxLen; omega) (by omega) (by simp; omega) ?_)
      intro v' w1 hown' hgrow _
      have hb : Below (w.heap.size + 1) wr w1 := ((Below.refl _ _).alloc hsz _).grown hgrow (by simp; omega) (fun j e => (hh.out.2.lt j e).1)
      have HB := Lib.hid (hh.out.1.step hb (Nat.le_refl _))
      have HO := Lib.hid hown'
      clear hown' hgrow hb
      go_wp2
      go_roundw
      case rel => exact ⟨k + 1, by omega, by go_num, HB.out, by have := HO.out; rw [List.replicate_succ']; simpa using this⟩
      case measure => simp [intOf]; omega
    · obtain rfl : k = N.luts.length := by omega
      go_wp2
      go_ret
      exact ⟨_, rfl, by simpa using hh.out.2.base_le (Nat.le_succ _), hh.out.1.below⟩

theorem picked (w : World) (a0 a1 : Option Addr) (n0 c0 n1 c1 : Nat) (P K : List Int) (e0 : P.length = n0) (e1 : K.length = n1) (b0 : n0 ≤ 100000) (b1 : n1 ≤ 1000)
    (h0 : Seq w a0 n0 (ints P)) (h1 : Seq w a1 n1 (ints K)) (hr : ∀ k ∈ K, 0 ≤ k ∧ k < n0) :
    Calls Try.prog 37 #[.slice a0 n0 c0, .slice a1 n1 c1] w (NewList w (K.map fun k => P.getD k.toNat 0)) := by
  have H0 := Lib.hid h0
  have H1 := Lib.hid h1
  have E1 := Lib.hid e1
  have HR := Lib.hid hr
  clear h0 h1 e0 e1 hr
  obtain ⟨i0, hi, hz0, hz1, hz2⟩ := info_parts info3
  go_enter Try.func37, Try.ntmps37
  go_wp2
  go_loopw [5, 10] (fun v i wr => ∃ k : Nat, k ≤ n1 ∧ i = .int .i64 k ∧ Hid (Below w.heap.size w wr ∧ wr.ownsRow w.heap.size 3 1 v k (((K.take k).map fun k => P.getD k.toNat 0).map (Value.int .i64)))) (fun _ i _ => n1 - (intOf i).toNat)
  case atStart => exact ⟨0, by omega, rfl, Below.refl _ _, World.ownsRow_nil _ _ _ _⟩
  case round =>
    obtain ⟨k, hk, rfl, hh⟩ := hrel
    have hsz := hh.out.1.size
    by_cases hlt : k < n1
    · obtain ⟨b1, o1, rfl, hb1, hc1⟩ := H1.out.at k hlt
      have g1 : wr.cell? ⟨b1, o1 + k, none⟩ = some (.int .i64 (K.getD k 0)) := (hh.out.1.cell (p := ⟨b1, o1 + k, none⟩) hb1).trans (hc1 k hlt)
      have hx := HR.out _ (getD_mem K 0 (by rw [E1.out]; exact hlt))
      obtain ⟨x, hxe⟩ : ∃ x, x = K.getD k 0 := ⟨_, rfl⟩
      rw [← hxe] at g1 hx
      obtain ⟨xn, rfl⟩ := Int.eq_ofNat_of_zero_le hx.1
      have hxn : xn < n0 := by omega
      have hxi : (xn : Int) < n0 := by omega
      obtain ⟨b0, o0, rfl, hb0, hc0⟩ := H0.out.at xn hxn
      have g0 : wr.cell? ⟨b0, o0 + xn, none⟩ = some (.int .i64 (P.getD xn 0)) := (hh.out.1.cell (p := ⟨b0, o0 + xn, none⟩) hb0).trans (hc0 xn hxn)
      obtain ⟨y, hy⟩ : ∃ y, y = P.getD xn 0 := ⟨_, rfl⟩
      rw [← hy] at g0
      have HX := Lib.hid hxe
      have HY := Lib.hid hy
      clear hc0 hc1 hxe hy hx
      go_wp2_with (at_builtin; refine wpList_append_own _ rfl (.tmp 14) (.tmp 19) 24 rfl w.heap.size 3 i0 (.int .i64 0) 1 8 Try.underlying24 hi hz0 hz1 hz2 rfl (by decide) _ _ _ rfl (hh.out.2.alloc _) ⟨wr.heap.size, 0, none⟩ 1 1 [.int .i64 y] rfl rfl (one_cell _ _) (by simp [Value.oneCell']) (by unfold maxLen; omega) (by omega) (by simp; omega) ?_)
      intro v' w1 hown' hgrow _
      have HB := Lib.hid (hh.out.1.trans (((Below.refl _ _).alloc hsz _).grown hgrow (by simp; omega) (fun j e => (hh.out.2.lt j e).1)))
      have HO := Lib.hid hown'
      clear hown' hgrow
      go_wp2
      go_roundw
      case rel =>
        refine ⟨k + 1, by omega, by go_num, HB.out, ?_⟩
        have h := HO.out
        have hkl : k < K.length := by rw [E1.out]; exact hlt
        rw [List.take_succ_eq_append_getElem hkl, List.map_append, List.map_append]
        have he : K[k] = (xn : Int) := by rw [HX.out]; simp [List.getD, List.getElem?_eq_getElem hkl]
        rw [he]
        simp only [List.map_cons, List.map_nil, Int.toNat_natCast, ← HY.out]
        simpa using h
      case measure => simp [intOf]; omega
    · obtain rfl : k = n1 := by omega
      go_wp2
      go_ret
      refine ⟨_, rfl, ?_, hh.out.1⟩
      have h := hh.out.2
      rw [List.take_of_length_le (by rw [E1.out]; exact Nat.le_refl _)] at h
      simpa [E1.out] using h

/-- slices.Max of a list that is not empty. -/
theorem maxOf (w : World) (a : Option Addr) (n c : Nat) (l : List Int) (e : l.length = n) (hn : 0 < n) (hb : n ≤ 100000) (h : Seq w a n (ints l)) :
    Calls Try.prog 36 #[.slice a n c] w fun e w' => e = .returned (.int .i64 (l.foldl max (l.getD 0 0))) ∧ w = w' := by
  have E := Lib.hid e
  obtain ⟨b, off, rfl, hbb, hc⟩ := h.at 0 hn
  have g0 : w.cell? ⟨b, off, none⟩ = some (.int .i64 (l.getD 0 0)) := hc 0 hn
  have HC := Lib.hid hc
  obtain ⟨x0, hx0⟩ : ∃ x, x = l.getD 0 0 := ⟨_, rfl⟩
  rw [← hx0] at g0 ⊢
  have HX0 := Lib.hid hx0
  have M2 := @run_max2 Try.prog
  have hn1 : (0 : Int) < n := by omega
  clear h hc e hx0
  go_enter Try.func36, Try.ntmps36
  go_wp2
  go_loop [3, 4] (fun m i => ∃ k : Nat, 1 ≤ k ∧ k ≤ n ∧ i = .int .i64 k ∧ m = .int .i64 ((l.take k).foldl max x0)) (fun _ i => n - (intOf i).toNat)
  case atStart =>
    refine ⟨1, by omega, by omega, rfl, ?_⟩
    have h0 : l.take 1 = [x0] := by
      rw [HX0.out]
      match l, E.out with
      | y :: l', _ => simp
      | [], h => simp at h; omega
    rw [h0]; simp
  case round =>
    obtain ⟨k, hk1, hk, rfl, rfl⟩ := hrel
    by_cases hlt : k < n
    · have g1 := HC.out k hlt
      unfold ints at g1
      have hkl : k < l.length := by rw [E.out]; exact hlt
      have ht : (l.take (k + 1)).foldl max x0 = max ((l.take k).foldl max x0) (l.getD k 0) := by
        rw [List.take_succ_eq_append_getElem hkl, List.foldl_append]; simp [List.getD, List.getElem?_eq_getElem hkl]
      obtain ⟨y, hy⟩ : ∃ y, y = l.getD k 0 := ⟨_, rfl⟩
      rw [← hy] at g1 ht
      have HT := Lib.hid ht
      clear ht hy
      go_wp2
      go_round
      case rel => exact ⟨k + 1, by omega, by omega, by go_num, by rw [HT.out]⟩
      case measure => simp [intOf]; omega
    · obtain rfl : k = n := by omega
      go_wp2
      go_ret
      exact ⟨ret_int (by rw [List.take_of_length_le (by rw [E.out]; exact Nat.le_refl _)]), rfl⟩
end Go.Proofs.Ytkcilpkcjhnkaaa
