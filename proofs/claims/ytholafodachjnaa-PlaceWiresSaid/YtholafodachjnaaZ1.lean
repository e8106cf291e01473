/- Fabrics: whether one may be, how many tiles and pads there are. -/
import Derived.Test.YtholafodachjnaaO7
namespace Go.Proofs.Ytholafodachjnaa
open Go.RowKit Go.Shelf
set_option linter.unusedVariables false
set_option linter.unusedSimpArgs false

theorem run_min2 {P : Program} (ts : Array TypeId) (t : TypeId) (k k' : IntKind) (x y : Int) (w : World) : (Builtin.min_ ts t #[.int k x, .int k' y]).run P w = .ok (.int k (min x y)) w := by
  simp [Builtin.min_, Builtin.min2]
  omega
theorem run_min3 {P : Program} (ts : Array TypeId) (t : TypeId) (k k' k'' : IntKind) (x y z : Int) (w : World) : (Builtin.min_ ts t #[.int k x, .int k' y, .int k'' z]).run P w = .ok (.int k (min (min x y) z)) w := by
  simp [Builtin.min_, Builtin.min2]
  omega
theorem run_maxB {P : Program} (ts : Array TypeId) (t : TypeId) (k k' : IntKind) (x y : Int) (w : World) : (Builtin.max_ ts t #[.int k x, .int k' y]).run P w = .ok (.int k (max x y)) w := by
  simp [Builtin.max_, Builtin.max2]
  omega
/-- A fabric. -/
structure ArchV where
  w : Int
  h : Int
  t : Int
abbrev ArchV.val (a : ArchV) : Value := .agg #[.int .i64 a.w, .int .i64 a.h, .int .i64 a.t]
structure ArchR (a : ArchV) : Prop where
  w : I64 a.w
  h : I64 a.h
  t : I64 a.t
def sideB (n : Int) : Bool := decide (n < 1) || decide (16 < n)
def archE (a : ArchV) : Int := if sideB a.w || sideB a.h || sideB a.t then 1 else 0
theorem sideB_no {n : Int} : sideB n = false ↔ 1 ≤ n ∧ n ≤ 16 := by unfold sideB; simp
theorem archE_ok {a : ArchV} : archE a = 0 ↔ (1 ≤ a.w ∧ a.w ≤ 16) ∧ (1 ≤ a.h ∧ a.h ≤ 16) ∧ (1 ≤ a.t ∧ a.t ≤ 16) := by
  unfold archE
  rw [← sideB_no, ← sideB_no, ← sideB_no]
  cases sideB a.w <;> cases sideB a.h <;> cases sideB a.t <;> simp
theorem archE_cases (a : ArchV) : archE a = 0 ∨ archE a = 1 := by unfold archE; split <;> simp

set_option maxRecDepth 100000 in
set_option maxHeartbeats 2000000 in
theorem fabric24 (w : World) (a : ArchV) : Calls Try.prog 24 #[a.val] w fun e w' => e = .returned (.int .i64 (archE a)) ∧ Below w.heap.size w w' := by
  have hE := archE_ok (a := a)
  have hc := archE_cases a
  obtain ⟨E, hEe⟩ : ∃ E, E = archE a := ⟨_, rfl⟩
  rw [← hEe] at hE hc ⊢
  obtain ⟨x, y, z⟩ := a
  dsimp only at hE
  unfold ArchV.val
  dsimp only
  clear hEe
  have M3 := @run_min3 Try.prog
  have M2 := @run_maxB Try.prog
  obtain ⟨mn, hmn⟩ : ∃ m, min (min x y) z = m := ⟨_, rfl⟩
  obtain ⟨mx, hmx⟩ : ∃ m, max x y = m := ⟨_, rfl⟩
  by_cases h1 : mn < 1
  · have d1 : decide (mn < 1) = true := by simpa using h1
    have hE1 : E = 1 := by rcases hc with e | e
                           · have := hE.1 e; omega
                           · exact e
    subst hE1
    clear hE hc h1
    go_enter Try.func24, Try.ntmps24
    go_wp2_with fail
    go_ret
    exact ⟨rfl, (Below.refl _ _).alloc (Nat.le_refl _) _⟩
  have d1 : decide (mn < 1) = false := by simpa using h1
  by_cases h2 : 16 < mx
  · have d2 : decide (16 < mx) = true := by simpa using h2
    have hE1 : E = 1 := by rcases hc with e | e
                           · have := hE.1 e; omega
                           · exact e
    subst hE1
    clear hE hc h1 h2
    go_enter Try.func24, Try.ntmps24
    go_wp2_with fail
    go_ret
    exact ⟨rfl, (Below.refl _ _).alloc (Nat.le_refl _) _⟩
  have d2 : decide (16 < mx) = false := by simpa using h2
  by_cases h3 : 16 < z
  · have d3 : decide (16 < z) = true := by simpa using h3
    have hE1 : E = 1 := by rcases hc with e | e
                           · have := hE.1 e; omega
                           · exact e
    subst hE1
    clear hE hc h1 h2 h3
    go_enter Try.func24, Try.ntmps24
    go_wp2_with fail
    go_ret
    exact ⟨rfl, (Below.refl _ _).alloc (Nat.le_refl _) _⟩
  have d3 : decide (16 < z) = false := by simpa using h3
  have hE0 : E = 0 := hE.2 (by omega)
  subst hE0
  clear hE hc h1 h2 h3
  go_enter Try.func24, Try.ntmps24
  go_wp2_with fail
  go_ret
  exact ⟨rfl, (Below.refl _ _).alloc (Nat.le_refl _) _⟩
set_option maxRecDepth 100000 in
set_option maxHeartbeats 2000000 in
theorem tiles36 (w : World) (a : ArchV) (h1 : 0 ≤ a.w ∧ a.w ≤ 1000) (h2 : 0 ≤ a.h ∧ a.h ≤ 1000) : Calls Try.prog 36 #[a.val] w fun e w' => e = .returned (.int .i64 (a.w * a.h)) ∧ Below w.heap.size w w' := by
  obtain ⟨x, y, z⟩ := a
  dsimp only at h1 h2
  unfold ArchV.val
  dsimp only
  have HW : Hid (wrap64 (x * y) = x * y) := Lib.hid (by
    have h3 : 0 ≤ x * y := Int.mul_nonneg h1.1 h2.1
    have h4 : x * y ≤ 1000 * 1000 := Int.mul_le_mul h1.2 h2.2 h2.1 (by omega)
    obtain ⟨n, hn⟩ : ∃ n : Nat, x * y = (n : Int) := ⟨(x * y).toNat, by omega⟩
    rw [hn, ← IntWalk.i64_left]
    exact Lib.wrap_i64_small _ (by omega))
  clear h1 h2
  go_enter Try.func36, Try.ntmps36
  go_wp2_with fail
  go_ret
  exact ⟨by rw [HW.out]; rfl, (Below.refl _ _).alloc (Nat.le_refl _) _⟩
set_option maxRecDepth 100000 in
set_option maxHeartbeats 2000000 in
theorem pads38 (w : World) (a : ArchV) (h1 : 0 ≤ a.w ∧ a.w ≤ 1000) (h2 : 0 ≤ a.h ∧ a.h ≤ 1000) : Calls Try.prog 38 #[a.val] w fun e w' => e = .returned (.int .i64 (2 * a.w + 2 * a.h)) ∧ Below w.heap.size w w' := by
  obtain ⟨x, y, z⟩ := a
  dsimp only at h1 h2
  unfold ArchV.val
  dsimp only
  obtain ⟨nx, rfl⟩ : ∃ n : Nat, x = (n : Int) := ⟨x.toNat, by omega⟩
  obtain ⟨ny, rfl⟩ : ∃ n : Nat, y = (n : Int) := ⟨y.toNat, by omega⟩
  have hx : nx ≤ 1000 := by omega
  have hy : ny ≤ 1000 := by omega
  clear h1 h2
  go_enter Try.func38, Try.ntmps38
  go_wp2_with fail
  go_ret
  refine ⟨?_, (Below.refl _ _).alloc (Nat.le_refl _) _⟩
  have HW : ∀ n : Nat, n ≤ 1000000 → wrap64 (n : Int) = (n : Int) := fun n hn => by rw [← IntWalk.i64_left]; exact Lib.wrap_i64_small _ (by omega)
  have e1 : wrap64 (2 * (nx : Int)) = 2 * (nx : Int) := by rw [show 2 * (nx : Int) = ((2 * nx : Nat) : Int) by omega]; exact HW _ (by omega)
  have e2 : wrap64 (2 * (ny : Int)) = 2 * (ny : Int) := by rw [show 2 * (ny : Int) = ((2 * ny : Nat) : Int) by omega]; exact HW _ (by omega)
  have e3 : wrap64 (2 * (nx : Int) + 2 * (ny : Int)) = 2 * (nx : Int) + 2 * (ny : Int) := by rw [show 2 * (nx : Int) + 2 * (ny : Int) = ((2 * nx + 2 * ny : Nat) : Int) by omega]; exact HW _ (by omega)
  first | rfl | simp only [e1, e2, e3]
end Go.Proofs.Ytholafodachjnaa
