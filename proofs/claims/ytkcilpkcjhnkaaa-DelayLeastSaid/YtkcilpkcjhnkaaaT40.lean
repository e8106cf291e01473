import Derived.Test.YtkcilpkcjhnkaaaB4
import Derived.Test.YtkcilpkcjhnkaaaT39
namespace Go.Proofs.Ytkcilpkcjhnkaaa
open Go.RowKit Go.Shelf
set_option linter.unusedVariables false
set_option linter.unusedSimpArgs false
attribute [local go_sem] Oper.semAt_some

/-- The tables' places, the last one first. -/
def idxs (L : Nat) : List (Fin L) := List.ofFn fun k : Fin L => (⟨L - 1 - k.val, by have := k.isLt; omega⟩ : Fin L)
theorem idxs_length (L : Nat) : (idxs L).length = L := by simp [idxs]
theorem idxs_succ (L k : Nat) (hk : k < L) : (idxs L).take (k + 1) = (idxs L).take k ++ [⟨L - 1 - k, by omega⟩] := by
  rw [List.take_succ_eq_append_getElem (by rw [idxs_length]; exact hk)]
  simp [idxs]

def lutVal (l : LutV) : Value := .agg #[.slice l.a l.ins.length l.c, .int .u64 l.tab]

set_option maxRecDepth 100000 in
set_option maxHeartbeats 2000000 in
/-- slices.Backward's closure, of tables. -/
theorem bwdL1_in (F : Fence) (n : Nat) (h63 : F.fn 63) (hro : F.round = none) (hn : 1 ≤ n) (l Bs n₀ : Nat) (N : NetV) (hl : N.luts.length ≤ 100000) (J Jx : List (Fin N.luts.length) → World → Prop)
    (hY : ∀ pre x W, J pre W → pre.length < N.luts.length → YieldAt F (n - 1) Try.prog l #[.int .i64 (x.val : Int), lutVal (N.luts.getD x.val default)] W fun e W' =>
      (e = .returned (.bool true) ∧ J (pre ++ [x]) W' ∧ KpB n₀ Bs W W') ∨ (e = .returned (.bool false) ∧ Jx (pre ++ [x]) W'))
    (W : World) (hBs : W.cell? ⟨Bs, 0, none⟩ = some (.slice N.la N.luts.length N.lc)) (hS : ∀ W', Below n₀ W W' → NetAt W' N) (h0 : J [] W) :
    CallsIn F n Try.prog 63 #[.func (.yield l) #[] #[], .pointer (some ⟨Bs, 0, none⟩)] W fun e W' => (∃ v, e = .returned v) ∧
      ((∃ ys, ys = idxs N.luts.length ∧ J ys W') ∨ (∃ pre, True ∧ Jx pre W')) := by
  obtain ⟨len, hlen⟩ : ∃ m, m = N.luts.length := ⟨_, rfl⟩
  refine callsIn_of_wp Try.func63 rfl h63 ?_ hro
  simp only [Try.ntmps63, List.size_toArray, List.length_cons, List.length_nil, Nat.reduceAdd, Nat.reduceSub, Array.replicate_succ, Array.replicate_zero, List.push_toArray, List.append_toArray, List.nil_append, List.cons_append]
  rw [← hlen] at hBs hl
  have HLen := Lib.hid hlen
  clear hlen
  gi_wp2
  gi_loopw [3] (fun i wr => ∃ k : Nat, k ≤ len ∧ i = .int .i64 ((len : Int) - 1 - k) ∧ J ((idxs N.luts.length).take k) wr ∧ KpB n₀ Bs W wr)
    (fun i _ => (intOf i + 1).toNat)
  case atStart => exact ⟨0, Nat.zero_le _, by simp, h0, KpB.refl _ _ _⟩
  case round =>
    obtain ⟨k, hk, rfl, hJs, hnx⟩ := hrel
    have hcx := (cell_heap (i := 0) hnx.2).trans hBs
    by_cases hlt : k < len
    · obtain ⟨m, hm⟩ : ∃ m, m = len - 1 - k := ⟨_, rfl⟩
      obtain ⟨b, off, hla, _, t0, t1⟩ := (hS _ hnx.1).lut m (by have := HLen.out; omega)
      obtain ⟨fn, tmps, assign, body, hy, hR⟩ := hY _ ⟨m, by have := HLen.out; omega⟩ wr hJs (by have := HLen.out; rw [List.length_take, idxs_length]; omega)
      have hsuc := idxs_succ N.luts.length k (by have := HLen.out; omega)
      obtain ⟨Lm, hLm⟩ : ∃ L, L = N.luts.getD m default := ⟨_, rfl⟩
      dsimp only at hy
      rw [← hLm] at hy t0 t1
      have hmx : (⟨m, by have := HLen.out; omega⟩ : Fin N.luts.length) = ⟨N.luts.length - 1 - k, by have := HLen.out; omega⟩ := by have := HLen.out; ext; simp only; omega
      rw [hmx] at hR
      rw [← hsuc] at hR
      have hmi : ((len : Int) - 1 - k) = (m : Int) := by omega
      have hmlt : m < len := by omega
      have HM := Lib.hid hm
      rw [hmi]
      rw [hla] at hcx
      unfold lutVal at hy
      clear hm hmi hsuc hmx hLm hla
      gi_wp2
      refine hR.mono ?_
      rintro e W3 (⟨rfl, hJ3, hk3⟩ | ⟨rfl, hJx3⟩)
      · gi_wp2
        go_roundw
        case rel => exact ⟨k + 1, by omega, by have := HM.out; go_num, hJ3, hnx.trans hk3⟩
        case measure => first | (simp [intOf]; done) | (simp [intOf]; have := HM.out; omega)
      · gi_wp2
        refine bodyPost_ret (results_none rfl _ _ _) rfl ?_
        exact ⟨⟨_, rfl⟩, .inr ⟨_, trivial, hJx3⟩⟩
    · obtain rfl : k = len := by omega
      gi_wp2
      go_end0
      exact ⟨⟨_, rfl⟩, .inl ⟨_, rfl, by rw [List.take_of_length_le (by rw [idxs_length, HLen.out]; exact Nat.le_refl _)] at hJs; exact hJs⟩⟩

set_option maxHeartbeats 1000000 in
theorem bwdL_in (F : Fence) (n : Nat) (h40 : F.fn 40) (hro : F.round = none) (a : Option Addr) (len cap : Nat) (w : World) :
    CallsIn F n Try.prog 40 #[.slice a len cap] w fun e w' => e = .returned (.func (.func 63) #[] #[.pointer (some ⟨w.heap.size, 0, none⟩)]) ∧ w' = w.alloc (.cells #[.slice a len cap] 23) := by
  refine callsIn_of_wp Try.func40 rfl h40 ?_ hro
  simp only [Try.ntmps40, List.size_toArray, List.length_cons, List.length_nil, Nat.reduceAdd, Nat.reduceSub, Array.replicate_succ, Array.replicate_zero, List.push_toArray, List.append_toArray, List.nil_append, List.cons_append]
  gi_wp2
  go_ret
  exact ⟨rfl, rfl⟩
end Go.Proofs.Ytkcilpkcjhnkaaa
