/- A plan: a fabric, with blocks on it. -/
import Derived.Test.YtholafodachjnaaZ8
namespace Go.Proofs.Ytholafodachjnaa
open Go.RowKit Go.Shelf
set_option linter.unusedVariables false
set_option linter.unusedSimpArgs false

/-- A plan's value: its nine cells, flat. -/
abbrev planVal (a : ArchV) (P : PackV) (S : SpotV) : Value := .agg #[.int .i64 a.w, .int .i64 a.h, .int .i64 a.t, .int .i64 P.ins, .slice P.ba P.bs.length P.bc, .slice P.oa P.os.length P.oc, .slice S.ba S.bs.length S.bc, .slice S.ia S.is.length S.ic, .slice S.oa S.os.length S.oc]
set_option maxRecDepth 100000 in
set_option maxHeartbeats 2000000 in
theorem tiles44 (w : World) (a : ArchV) (P : PackV) (S : SpotV) (h1 : 0 ≤ a.w ∧ a.w ≤ 1000) (h2 : 0 ≤ a.h ∧ a.h ≤ 1000) : Calls Try.prog 44 #[planVal a P S] w fun e w' => e = .returned (.int .i64 (a.w * a.h)) ∧ Below w.heap.size w w' := by
  obtain ⟨x, y, z⟩ := a
  obtain ⟨pi, pa, pc, pb, qa, qc, qb⟩ := P
  obtain ⟨ba, bc, bs, ia, ic, is, oa, oc, os⟩ := S
  dsimp only at h1 h2
  unfold planVal
  dsimp only
  have HW : Hid (wrap64 (x * y) = x * y) := Lib.hid (by
    have h3 : 0 ≤ x * y := Int.mul_nonneg h1.1 h2.1
    have h4 : x * y ≤ 1000 * 1000 := Int.mul_le_mul h1.2 h2.2 h2.1 (by omega)
    obtain ⟨n, hn⟩ : ∃ n : Nat, x * y = (n : Int) := ⟨(x * y).toNat, by omega⟩
    rw [hn, ← IntWalk.i64_left]
    exact Lib.wrap_i64_small _ (by omega))
  clear h1 h2
  go_enter Try.func44, Try.ntmps44
  go_wp2_with fail
  go_ret
  exact ⟨by rw [HW.out]; rfl, (Below.refl _ _).alloc (Nat.le_refl _) _⟩
end Go.Proofs.Ytholafodachjnaa
