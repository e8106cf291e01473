/- slices.Backward of bits; a table's bit. -/
import Derived.Test.YtibimdhmfchcoaaS2
import Derived.RangeFuncNested
import Derived.RangeFuncBound
import Derived.RangeFuncCalls
import Derived.RangeFuncLeaves
import Derived.RangeFuncBox
import Derived.Shelf.Abstract
import Derived.Shelf.RegionOpen
import Derived.WalkKit
import Derived.OwnWalkIn
import Derived.TacticsInMore
import Derived.LoopNIn
import Derived.LoopIn
/- T26 -/
set_option maxRecDepth 100000
namespace Go.Proofs.Ytibimdhmfchcoaa
open Go.RowKit Go.Shelf
set_option linter.unusedVariables false
attribute [local go_sem] Oper.semAt_some

/-- What has come when k rounds are over. -/
def upto {α : Type} (f : Nat → α) (k : Nat) : List α := (List.range k).map f
theorem upto_succ {α : Type} (f : Nat → α) (k : Nat) : upto f (k + 1) = upto f k ++ [f k] := by simp [upto, List.range_succ]
theorem upto_length {α : Type} (f : Nat → α) (k : Nat) : (upto f k).length = k := by simp [upto]

/-- What a round keeps: what lay below n₀, and the box of what is gone through. -/
def KpB (n₀ Bs : Nat) (W W' : World) : Prop := Below n₀ W W' ∧ W'.heap[Bs]? = W.heap[Bs]?
theorem KpB.refl (n₀ Bs : Nat) (W : World) : KpB n₀ Bs W W := ⟨Below.refl _ _, rfl⟩
theorem KpB.trans {n₀ Bs : Nat} {A B C : World} (h : KpB n₀ Bs A B) (k : KpB n₀ Bs B C) : KpB n₀ Bs A C := ⟨h.1.trans k.1, k.2.trans h.2⟩
theorem cell_heap {W W' : World} {b i : Nat} (h : W'.heap[b]? = W.heap[b]?) : W'.cell? ⟨b, i, none⟩ = W.cell? ⟨b, i, none⟩ := by
  unfold World.cell?; rw [h]
theorem KpB.put {n₀ Bs : Nat} {w : World} (hn : n₀ ≤ w.heap.size) (hB : Bs < w.heap.size) (W : World) (l : Nat) (o o' : Obj) (hl : w.heap.size ≤ l) (h : W.heap[l]? = some o) (h1 : o.isCells = false) (h2 : o.isWalk = false) : KpB n₀ Bs W (W.putObj l o') :=
  ⟨belowK_b hn W l o o' hl h h1 h2, (grownBy_putObj' W l o').block Bs (by have := (Array.getElem?_eq_some_iff.1 h).1; omega) (by simp; omega)⟩

set_option maxRecDepth 100000 in
set_option maxHeartbeats 2000000 in
/-- slices.Backward's closure, of bits. -/
theorem bwd1_in (F : Fence) (n : Nat) (h73 : F.fn 77) (hro : F.round = none) (hn : 1 ≤ n) (l Bs n₀ : Nat) (a : Option Addr) (len cap : Nat) (zs : List Bool) (hl : len ≤ 100000) (J Jx : List (Int × Bool) → World → Prop)
    (hY : ∀ pre x W, J pre W → pre.length < len → YieldAt F (n - 1) Try.prog l #[.int .i64 x.1, .bool x.2] W fun e W' =>
      (e = .returned (.bool true) ∧ J (pre ++ [x]) W' ∧ KpB n₀ Bs W W') ∨ (e = .returned (.bool false) ∧ Jx (pre ++ [x]) W'))
    (W : World) (hBs : W.cell? ⟨Bs, 0, none⟩ = some (.slice a len cap)) (hS : ∀ W', Below n₀ W W' → Seq W' a len (bools zs)) (h0 : J [] W) :
    CallsIn F n Try.prog 77 #[.func (.yield l) #[] #[], .pointer (some ⟨Bs, 0, none⟩)] W fun e W' => (∃ v, e = .returned v) ∧
      ((∃ ys, ys = upto (fun j => ((len : Int) - 1 - j, zs.getD (len - 1 - j) false)) len ∧ J ys W') ∨ (∃ pre, True ∧ Jx pre W')) := by
  refine callsIn_of_wp Try.func77 rfl h73 ?_ hro
  simp only [Try.ntmps77, List.size_toArray, List.length_cons, List.length_nil, Nat.reduceAdd, Nat.reduceSub, Array.replicate_succ, Array.replicate_zero, List.push_toArray, List.append_toArray, List.nil_append, List.cons_append]
  gi_wp2
  gi_loopw [3] (fun i wr => ∃ k : Nat, k ≤ len ∧ i = .int .i64 ((len : Int) - 1 - k) ∧ J (upto (fun j => ((len : Int) - 1 - j, zs.getD (len - 1 - j) false)) k) wr ∧ KpB n₀ Bs W wr)
    (fun i _ => (intOf i + 1).toNat)
  case atStart => exact ⟨0, Nat.zero_le _, by simp, h0, KpB.refl _ _ _⟩
  case round =>
    obtain ⟨k, hk, rfl, hJs, hnx⟩ := hrel
    have hcx := (cell_heap (i := 0) hnx.2).trans hBs
    by_cases hlt : k < len
    · obtain ⟨b, off, rfl, _, hc⟩ := (hS _ hnx.1).at (len - 1 - k) (by omega)
      have hcell := hc (len - 1 - k) (by omega)
      unfold bools at hcell
      obtain ⟨y, hyy⟩ : ∃ y, y = zs.getD (len - 1 - k) false := ⟨_, rfl⟩
      rw [← hyy] at hcell
      have HYY := Lib.hid hyy
      obtain ⟨m, hm⟩ : ∃ m, m = len - 1 - k := ⟨_, rfl⟩
      rw [← hm] at hcell
      obtain ⟨fn, tmps, assign, body, hy, hR⟩ := hY _ ((len : Int) - 1 - k, y) wr hJs (by rw [upto_length]; exact hlt)
      dsimp only at hy
      have hmi : ((len : Int) - 1 - k) = (m : Int) := by omega
      have hmlt : m < len := by omega
      have HM := Lib.hid hm
      have HMi := Lib.hid hmi
      rw [hmi] at hy ⊢
      clear hc hyy hm hmi
      gi_wp2
      refine hR.mono ?_
      rintro e W3 (⟨rfl, hJ3, hk3⟩ | ⟨rfl, hJx3⟩)
      · gi_wp2
        go_roundw
        case rel =>
          refine ⟨k + 1, by omega, by have := HM.out; go_num, ?_, hnx.trans hk3⟩
          rw [upto_succ]
          try dsimp only
          rw [← HYY.out]
          exact hJ3
        case measure => first | (simp [intOf]; done) | (simp [intOf]; have := HM.out; omega)
      · gi_wp2
        refine bodyPost_ret (results_none rfl _ _ _) rfl ?_
        exact ⟨⟨_, rfl⟩, .inr ⟨_, trivial, hJx3⟩⟩
    · obtain rfl : k = len := by omega
      gi_wp2
      go_end0
      exact ⟨⟨_, rfl⟩, .inl ⟨_, rfl, hJs⟩⟩

set_option maxHeartbeats 1000000 in
theorem bwd_in (F : Fence) (n : Nat) (h72 : F.fn 76) (hro : F.round = none) (a : Option Addr) (len cap : Nat) (w : World) :
    CallsIn F n Try.prog 76 #[.slice a len cap] w fun e w' => e = .returned (.func (.func 77) #[] #[.pointer (some ⟨w.heap.size, 0, none⟩)]) ∧ w' = w.alloc (.cells #[.slice a len cap] 37) := by
  refine callsIn_of_wp Try.func76 rfl h72 ?_ hro
  simp only [Try.ntmps76, List.size_toArray, List.length_cons, List.length_nil, Nat.reduceAdd, Nat.reduceSub, Array.replicate_succ, Array.replicate_zero, List.push_toArray, List.append_toArray, List.nil_append, List.cons_append]
  gi_wp2
  go_ret
  exact ⟨rfl, rfl⟩
end Go.Proofs.Ytibimdhmfchcoaa

namespace Go.Proofs.Ytibimdhmfchcoaa
open Go.RowKit
theorem rowTo_small (ins : List Int) (v : List Bool) (j : Nat) (h : j ≤ 6) : rowTo ins v j < 64 := by
  have h1 := rowTo_lt ins v j
  have : (2 : Nat) ^ j ≤ 2 ^ 6 := Nat.pow_le_pow_right (by omega) h
  omega

theorem bit_shr (tab : Int) (h : U64 tab) (r : Nat) : (bits .and .u64 (tab / 2 ^ r) 1 == 1) = tab.toNat.testBit r := by
  obtain ⟨h0, h1⟩ := h
  obtain ⟨m, rfl⟩ := Int.eq_ofNat_of_zero_le h0
  rw [Int.toNat_natCast, Nat.testBit_eq_decide_div_mod_eq, show ((m : Int) / 2 ^ r) = ((m / 2 ^ r : Nat) : Int) by simp, show (1 : Int) = ((1 : Nat) : Int) by rfl,
    u64_and_nat _ _ (Nat.lt_of_le_of_lt (Nat.div_le_self _ _) (by omega)) (by omega), Nat.and_one_is_mod]
  by_cases h : m / 2 ^ r % 2 = 1
  · simp [h]
  · rw [decide_eq_false h, beq_eq_false_iff_ne]; omega

end Go.Proofs.Ytibimdhmfchcoaa
/- T27 -/
namespace Go.Proofs.Ytibimdhmfchcoaa
open Go.RowKit Go.Shelf
set_option linter.unusedVariables false
set_option linter.unusedSimpArgs false
attribute [local go_sem] Oper.semAt_some

/-- The row of bits that came, the last one first. -/
def rowF (pre : List (Int × Bool)) : Nat := pre.foldl (fun r x => 2 * r + (if x.2 then 1 else 0)) 0
theorem rowF_snoc (pre : List (Int × Bool)) (x : Int × Bool) : rowF (pre ++ [x]) = 2 * rowF pre + (if x.2 then 1 else 0) := by simp [rowF]

/-- The row of a list of bits, the first one the lowest. -/
def rowB : List Bool → Nat
  | [] => 0
  | x :: l => 2 * rowB l + (if x then 1 else 0)

theorem rowB_lt (l : List Bool) : rowB l < 2 ^ l.length := by
  induction l with
  | nil => simp [rowB]
  | cons x l ih => simp only [rowB, List.length_cons, Nat.pow_succ]; split <;> omega

theorem rowF_upto (zs : List Bool) (k : Nat) (hk : k ≤ zs.length) : rowF (upto (fun j => ((zs.length : Int) - 1 - j, zs.getD (zs.length - 1 - j) false)) k) = rowB (zs.drop (zs.length - k)) := by
  induction k with
  | zero => simp [upto, rowF, rowB]
  | succ k ih =>
    rw [upto_succ, rowF_snoc, ih (by omega)]
    have h : zs.drop (zs.length - (k + 1)) = zs.getD (zs.length - 1 - k) false :: zs.drop (zs.length - k) := by
      rw [List.drop_eq_getElem_cons (by omega)]
      congr 1
      · have e : zs.length - (k + 1) = zs.length - 1 - k := by omega
        simp [List.getD, e, List.getElem?_eq_getElem (show zs.length - 1 - k < zs.length by omega)]
      · congr 1; omega
    rw [h, rowB]

theorem rowF_all (zs : List Bool) : rowF (upto (fun j => ((zs.length : Int) - 1 - j, zs.getD (zs.length - 1 - j) false)) zs.length) = rowB zs := by
  rw [rowF_upto zs _ (Nat.le_refl _), Nat.sub_self, List.drop_zero]

theorem KpB.setCell (n₀ Bs : Nat) (W : World) (b i : Nat) (v : Value) (hb : n₀ ≤ b) (h : Bs ≠ b) : KpB n₀ Bs W (W.setCell ⟨b, i, none⟩ v) :=
  ⟨(Below.refl _ _).setCell (p := ⟨b, i, none⟩) hb _, heap_setCell_other _ _ _ _ h⟩

set_option maxRecDepth 100000 in
set_option maxHeartbeats 2000000 in
theorem bit_in (n : Nat) (hn : 3 ≤ n) (w : World) (tab : Int) (hU : U64 tab) (a : Option Addr) (len cap : Nat) (zs : List Bool) (hlen : zs.length = len) (h6 : len ≤ 6) (S : Seq w a len (bools zs)) :
    CallsIn Fence.wide n Try.prog 74 #[.int .u64 tab, .slice a len cap] w fun e w' => e = .returned (.bool (tab.toNat.testBit (rowB zs))) ∧ Below w.heap.size w w' := by
  have h1 : 1 ≤ n := by omega
  have HU := Lib.hid hU
  have HS := Lib.hid S
  have HL := Lib.hid hlen
  have hro : Fence.wide.round = none := rfl
  have hR64 : rowB zs < 64 := by
    have h := rowB_lt zs
    have : (2 : Nat) ^ zs.length ≤ 2 ^ 6 := Nat.pow_le_pow_right (by omega) (by rw [hlen]; exact h6)
    omega
  have hb := bit_shr tab hU (rowB zs)
  obtain ⟨R0, hRR⟩ : ∃ r, r = rowB zs := ⟨_, rfl⟩
  rw [← hRR] at hR64 hb ⊢
  obtain ⟨B0, hBB⟩ : ∃ b, b = tab.toNat.testBit R0 := ⟨_, rfl⟩
  rw [← hBB] at hb ⊢
  have HRR0 := Lib.hid hRR
  have HBit := Lib.hid hb
  clear hU S hlen hb hRR hBB
  refine callsIn_of_wp_marks Try.func74 rfl trivial ?_ hro
  simp only [Try.ntmps74, List.size_toArray, List.length_cons, List.length_nil, Nat.reduceAdd, Nat.reduceSub, Array.replicate_succ, Array.replicate_zero, List.push_toArray, List.append_toArray, List.nil_append, List.cons_append]
  gi_wp2_with (refine ⟨trivial, ?_⟩; gi_at_call 76; refine (bwd_in Fence.wide (n - 1) trivial hro _ _ _ _).mono ?_; rintro e w' ⟨rfl, rfl⟩)
  have bS := Boxed.new w 3 (.int .i64 0)
  have bN := Boxed.new (w.alloc (.cells #[.int .i64 0] 3)) 37 (.slice a len cap)
  rw [World.size_alloc] at bN
  have hB0 : Below w.heap.size w ((w.alloc (.cells #[.int .i64 0] 3)).alloc (.cells #[.slice a len cap] 37)) := ((Below.refl _ w).alloc (Nat.le_refl _) _).alloc (by simp) _
  refine wpIn_rangeFunc_ownG hro h1 (gf := 77) (lb := #[.pointer (some ⟨w.heap.size + 1, 0, none⟩)]) rfl trivial (enters_of Try.func77 (by kernel_rfl) rfl)
    (encs := fun x : Int × Bool => #[.int .i64 x.1, .bool x.2]) (Kp := KpB w.heap.size (w.heap.size + 1)) (S := fun ys => ys = upto (fun j => ((len : Int) - 1 - j, zs.getD (len - 1 - j) false)) len) (Sp := fun _ => True) (N := len)
    (w0 := (w.alloc (.cells #[.int .i64 0] 3)).alloc (.cells #[.slice a len cap] 37))
    (fun l J Jx W hW _ _ hY h0 => bwd1_in Fence.wide (n - 1) trivial hro (by omega) l (w.heap.size + 1) w.heap.size a len cap zs (by omega) J Jx hY W ((hW.cell (p := ⟨_, _, none⟩) (by simp)).trans bN.cell) (fun W' hW' => HS.out.below ((hB0.trans (hW.mono (by simp; omega))).trans hW') (Nat.le_refl _)) h0)
    KpB.trans (KpB.put (by simp; omega) (by simp)) (Below.refl _ _) (by intro _; rfl)
    (fun pre W => ((W.cell? ⟨w.heap.size, 0, none⟩ = some (.int .i64 (rowF pre : Nat)) ∧ W.frozen? ⟨w.heap.size, 0, none⟩ = false) ∧ rowF pre < 2 ^ pre.length) ∧ Below w.heap.size w W)
    (fun _ _ _ => False)
    (OwnFrom.and (Own.from (fun s A B row hs hg hr => ⟨⟨cell_kept hs.1.1 hg hr, (frozen_kept hs.1.1 hg hr).trans hs.1.2⟩, hs.2⟩) _) (ownFrom_below (Nat.le_refl _) (by simp; omega)))
    (fun _ _ _ _ _ hs _ _ => hs)
    ⟨⟨⟨(bS.alloc _).cell, (bS.alloc _).frozen⟩, by simp [rowF]⟩, hB0⟩
    (fun x => { tmps := #[.int .u64 tab, .slice a len cap, undef, undef, .bool false, .pointer (some ⟨w.heap.size, 0, none⟩), undef, .bool x.2, .slice a len cap, .func (.func 77) #[] #[.pointer (some ⟨w.heap.size + 1, 0, none⟩)], .int .i64 x.1, .bool x.2, undef, undef, undef, undef, undef, undef, undef, undef, undef, undef], defers := [] }) ?assign ?body ?done ?stop
  case assign =>
    intro l x W K hK
    gi_wp2
    exact hK
  case body =>
    rintro l pre x W ⟨⟨⟨hc, hf⟩, hr⟩, hB⟩ hpre
    obtain ⟨i, x⟩ := x
    have hs := rowF_snoc pre (i, x)
    obtain ⟨r, hrr⟩ : ∃ r, r = rowF pre := ⟨_, rfl⟩
    rw [← hrr] at hs hr hc
    have hr64 : r < 64 := by
      have : (2 : Nat) ^ pre.length ≤ 2 ^ 6 := Nat.pow_le_pow_right (by omega) (by omega)
      omega
    have HS2 := Lib.hid hs
    have HRR := Lib.hid hrr
    have HR := Lib.hid hr
    have hsh : IntKind.i64.wrap ((r : Int) * 2) = ((2 * r : Nat) : Int) := by rw [IntWalk.i64_in _ (by omega)]; omega
    have hsh' : IntKind.i64.wrap (((2 * r : Nat) : Int) + 1) = ((2 * r + 1 : Nat) : Int) := by rw [IntWalk.i64_in _ (by omega)]; omega
    clear hs hrr hr
    cases x
    · gi_wp2
      refine ⟨(KeepsOthers.setCell _ _ _).from _, KpB.setCell _ _ _ _ _ _ (Nat.le_refl _) (by omega), ⟨⟨?_, by rw [World.frozen?_setCell]; exact hf⟩, ?_⟩, hB.setCell (p := ⟨w.heap.size, 0, none⟩) (Nat.le_refl _) _⟩
      · rw [HS2.out, World.cell?_setCell_same' _ _ _ (by rw [hc]; rfl)]; simp
      · have := HR.out
        rw [HS2.out, List.length_append, List.length_singleton, Nat.pow_succ]; simp; omega
    · gi_wp2
      refine ⟨((KeepsOthers.setCell _ _ _).trans (KeepsOthers.setCell _ _ _)).from _, (KpB.setCell _ _ _ _ _ _ (Nat.le_refl _) (by omega)).trans (KpB.setCell _ _ _ _ _ _ (Nat.le_refl _) (by omega)), ⟨⟨?_, by rw [World.frozen?_setCell, World.frozen?_setCell]; exact hf⟩, ?_⟩, (hB.setCell (p := ⟨w.heap.size, 0, none⟩) (Nat.le_refl _) _).setCell (p := ⟨w.heap.size, 0, none⟩) (Nat.le_refl _) _⟩
      · rw [HS2.out, World.cell?_setCell_same' _ _ _ (by rw [World.cell?_setCell_same' _ _ _ (by rw [hc]; rfl)]; rfl)]; simp
      · have := HR.out
        rw [HS2.out, List.length_append, List.length_singleton, Nat.pow_succ]; simp; omega
  case done =>
    rintro D ys W hD rfl ⟨⟨⟨hc, _⟩, hr⟩, hB⟩ hK
    rw [← HL.out, rowF_all, ← HRR0.out] at hc
    have hmin : min R0 64 = R0 := by omega
    have HMin := Lib.hid hmin
    clear hmin hr
    gi_wp2
    refine ⟨by simp, .inl ⟨_, _, rfl, run_takeDeferred hK, ?_⟩⟩
    refine ⟨_, results_tmp rfl _ _ _, ?_, hB.trans (belowK_b (w := w) (Nat.le_refl _) W D _ _ (by simp at hD; omega) hK rfl rfl)⟩
    show Ending.returned (.bool (bits BinOp.and IntKind.u64 (tab / 2 ^ R0) 1 == 1)) = _
    rw [HBit.out]
  case stop =>
    rintro D c pre W _ _ h _
    exact h.elim

theorem bit (w : World) (tab : Int) (hU : U64 tab) (a : Option Addr) (len cap : Nat) (zs : List Bool) (hlen : zs.length = len) (h6 : len ≤ 6) (S : Seq w a len (bools zs)) :
    Calls Try.prog 74 #[.int .u64 tab, .slice a len cap] w fun e w' => e = .returned (.bool (tab.toNat.testBit (rowB zs))) ∧ Below w.heap.size w w' :=
  (bit_in 3 (Nat.le_refl _) w tab hU a len cap zs hlen h6 S).calls (fun k => room_wide k)
end Go.Proofs.Ytibimdhmfchcoaa

