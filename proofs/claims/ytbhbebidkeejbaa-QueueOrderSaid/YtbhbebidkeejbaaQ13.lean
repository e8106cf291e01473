/- Which event is the first one that is not of a round (IndexFunc). -/
import Derived.Test.YtbhbebidkeejbaaQ11
namespace Go.Proofs.Ytbhbebidkeejbaa
open Go.RowKit Go.Shelf
set_option linter.unusedVariables false
set_option linter.unusedSimpArgs false

def popR : EvV → EvV → Bool := fun _ _ => false
def takeR : EvV → EvV → Bool := fun a b => a.t == b.t && a.d == b.d
set_option maxRecDepth 100000 in
set_option maxHeartbeats 1000000 in
theorem popR35 (w : World) (x y : EvV) : Calls Try.prog 35 #[x.val, y.val] w fun e w' => e = .returned (.bool (popR x y)) ∧ Below w.heap.size w w' := by
  obtain ⟨xt, xd, xn, xs, xv⟩ := x
  obtain ⟨yt, yd, yn, ys, yv⟩ := y
  go_enter Try.func35, Try.ntmps35
  go_wp2_with fail
  go_ret
  exact ⟨rfl, ((Below.refl _ _).alloc (Nat.le_refl _) _).alloc (by simp) _⟩
set_option maxRecDepth 100000 in
set_option maxHeartbeats 1000000 in
theorem takeR37 (w : World) (x y : EvV) : Calls Try.prog 37 #[x.val, y.val] w fun e w' => e = .returned (.bool (takeR x y)) ∧ Below w.heap.size w w' := by
  obtain ⟨xt, xd, xn, xs, xv⟩ := x
  obtain ⟨yt, yd, yn, ys, yv⟩ := y
  obtain ⟨r, hr⟩ : ∃ r, r = takeR ⟨xt, xd, xn, xs, xv⟩ ⟨yt, yd, yn, ys, yv⟩ := ⟨_, rfl⟩
  rw [← hr]
  unfold takeR at hr
  dsimp only at hr
  by_cases h1 : xt = yt
  · subst h1
    rw [beq_self_eq_true, Bool.true_and] at hr
    subst hr
    go_enter Try.func37, Try.ntmps37
    go_wp2_with fail
    go_ret
    exact ⟨rfl, ((Below.refl _ _).alloc (Nat.le_refl _) _).alloc (by simp) _⟩
  · have d1 : (xt == yt) = false := by simpa using h1
    rw [d1, Bool.false_and] at hr
    subst hr
    go_enter Try.func37, Try.ntmps37
    go_wp2_with fail
    go_ret
    exact ⟨rfl, ((Below.refl _ _).alloc (Nat.le_refl _) _).alloc (by simp) _⟩
set_option maxRecDepth 100000 in
set_option maxHeartbeats 1000000 in
theorem other44 (w : World) (x y : EvV) (R : EvV → EvV → Bool) (g : FuncId) (eg : Enters Try.prog g) (hR : ∀ W, Below w.heap.size w W → Calls Try.prog g #[x.val, y.val] W fun e W' => e = .returned (.bool (R x y)) ∧ Below W.heap.size W W') (B C : Nat)
    (hf : w.cell? ⟨B, 0, none⟩ = some (.func (.func g) #[] #[])) (h0 : w.cell? ⟨C, 0, none⟩ = some (.int .i64 x.t)) (h1 : w.cell? ⟨C, 1, none⟩ = some (.int .i64 x.d)) (h2 : w.cell? ⟨C, 2, none⟩ = some (.int .i64 x.no)) (h3 : w.cell? ⟨C, 3, none⟩ = some (.int .i64 x.sig)) (h4 : w.cell? ⟨C, 4, none⟩ = some (.int .u64 x.v)) :
    Calls Try.prog 44 #[y.val, .pointer (some ⟨B, 0, none⟩), .pointer (some ⟨C, 0, none⟩)] w fun e w' => e = .returned (.bool (decide (y.t < 0) || !R x y)) ∧ Below w.heap.size w w' := by
  have HR := Lib.hid hR
  clear hR
  obtain ⟨r, hr⟩ : ∃ r, r = R x y := ⟨_, rfl⟩
  rw [← hr]
  have HRr := Lib.hid hr
  clear hr
  obtain ⟨xt, xd, xn, xs, xv⟩ := x
  obtain ⟨yt, yd, yn, ys, yv⟩ := y
  dsimp only at h0 h1 h2 h3 h4 ⊢
  by_cases hy : yt < 0
  · have d1 : decide (yt < 0) = true := by simpa using hy
    rw [d1, Bool.true_or]
    clear hy
    go_enter Try.func44, Try.ntmps44
    go_wp2_with fail
    go_ret
    exact ⟨rfl, (Below.refl _ _).alloc (Nat.le_refl _) _⟩
  · have d1 : decide (yt < 0) = false := by simpa using hy
    rw [d1, Bool.false_or]
    clear hy
    unfold Enters at eg
    have g0 := cell_alloc (Obj.cells #[Value.int .i64 yt, Value.int .i64 yd, Value.int .i64 yn, Value.int .i64 ys, Value.int .u64 yv] 35) hf
    have g1 := cell_alloc (Obj.cells #[Value.int .i64 yt, Value.int .i64 yd, Value.int .i64 yn, Value.int .i64 ys, Value.int .u64 yv] 35) h0
    have g2 := cell_alloc (Obj.cells #[Value.int .i64 yt, Value.int .i64 yd, Value.int .i64 yn, Value.int .i64 ys, Value.int .u64 yv] 35) h1
    have g3 := cell_alloc (Obj.cells #[Value.int .i64 yt, Value.int .i64 yd, Value.int .i64 yn, Value.int .i64 ys, Value.int .u64 yv] 35) h2
    have g4 := cell_alloc (Obj.cells #[Value.int .i64 yt, Value.int .i64 yd, Value.int .i64 yn, Value.int .i64 ys, Value.int .u64 yv] 35) h3
    have g5 := cell_alloc (Obj.cells #[Value.int .i64 yt, Value.int .i64 yd, Value.int .i64 yn, Value.int .i64 ys, Value.int .u64 yv] 35) h4
    clear hf h0 h1 h2 h3 h4
    have HB1 : Hid (Below w.heap.size w (w.alloc (Obj.cells #[Value.int .i64 yt, Value.int .i64 yd, Value.int .i64 yn, Value.int .i64 ys, Value.int .u64 yv] 35))) := Lib.hid ((Below.refl _ _).alloc (Nat.le_refl _) _)
    go_enter Try.func44, Try.ntmps44
    go_wp2_with fail
    refine Calls.mono (HR.out _ HB1.out) ?_
    rintro e w2 ⟨rfl, hb2⟩
    rw [← HRr.out]
    go_wp2_with fail
    go_ret
    exact ⟨rfl, HB1.out.trans (hb2.mono (by simp))⟩
set_option maxRecDepth 100000 in
set_option maxHeartbeats 1000000 in
theorem index43 (w : World) (a : Option Addr) (n c : Nat) (l : List EvV) (hlen : l.length = n) (S : LAt w a l) (hn : n ≤ 2000) (cap : Array Value) (p : EvV → Bool)
    (hp : ∀ W x, Below w.heap.size w W → x ∈ l → Calls Try.prog 44 (#[x.val] ++ cap) W fun e W' => e = .returned (.bool (p x)) ∧ Below W.heap.size W W')
    (r : Nat) (hr : r < n) (hyes : p (l.getD r default) = true) (hno : ∀ j, j < r → p (l.getD j default) = false) :
    Calls Try.prog 43 #[.slice a n c, .func (.func 44) #[] cap] w fun e w' => e = .returned (.int .i64 r) ∧ Below w.heap.size w w' := by
  have HS := Lib.hid S
  have HL := Lib.hid hlen
  have HP := Lib.hid hp
  have HY := Lib.hid hyes
  have HNo := Lib.hid hno
  clear S hlen hp hyes hno
  go_enter Try.func43, Try.ntmps43
  go_wp2_with fail
  go_loopw [8] (fun i wr => ∃ k : Nat, k ≤ r ∧ i = .int .i64 k ∧ Hid (Below w.heap.size w wr)) (fun i _ => n - (intOf i).toNat)
  case atStart => exact ⟨0, by omega, rfl, Lib.hid (Below.refl _ _)⟩
  case round =>
    obtain ⟨k, hk, rfl, hh⟩ := hrel
    have hb := hh.out
    have hlt : k < n := by omega
    obtain ⟨b, off, rfl, hbb, d0, d1, d2, d3, d4⟩ := (HS.out.below hb (Nat.le_refl _)).ev k (by rw [HL.out]; exact hlt)
    have hmem : l.getD k default ∈ l := by
      have : k < l.length := by rw [HL.out]; exact hlt
      simp [List.getD, List.getElem?_eq_getElem this]
    have hx0 : k < r → p (l.getD k default) = false := HNo.out k
    have hx1 : k = r → p (l.getD k default) = true := fun e => by rw [e]; exact HY.out
    obtain ⟨x, hx⟩ : ∃ x, x = l.getD k default := ⟨_, rfl⟩
    rw [← hx] at d0 d1 d2 d3 d4 hmem hx0 hx1
    have HMem := Lib.hid hmem
    have HB := Lib.hid hb
    clear hx hbb hh hmem hb
    by_cases hkr : k < r
    · have HPX := Lib.hid (hx0 hkr)
      clear hx0 hx1
      have HPx := Lib.hid (HP.out _ _ HB.out HMem.out)
      go_wp2_with fail
      refine Calls.mono HPx.out ?_
      rw [HPX.out]
      rintro e w1 ⟨rfl, hb1⟩
      go_wp2_with fail
      go_roundw
      case rel => exact ⟨k + 1, by omega, by go_num, Lib.hid (HB.out.trans (hb1.mono HB.out.size))⟩
      case measure => simp [intOf]; omega
    · obtain rfl : k = r := by omega
      have HPX := Lib.hid (hx1 rfl)
      clear hx0 hx1
      have HPx := Lib.hid (HP.out _ _ HB.out HMem.out)
      go_wp2_with fail
      refine Calls.mono HPx.out ?_
      rw [HPX.out]
      rintro e w1 ⟨rfl, hb1⟩
      go_wp2_with fail
      go_ret
      exact ⟨rfl, HB.out.trans (hb1.mono HB.out.size)⟩
end Go.Proofs.Ytbhbebidkeejbaa
