/- What Better tells, with where it lies. -/
import Derived.Test.YtholafodachjnaaZ38
namespace Go.Proofs.Ytholafodachjnaa
open Go.RowKit Go.Shelf
set_option linter.unusedVariables false
set_option linter.unusedSimpArgs false

theorem spot_of {R : SpotV} {b i o : List Int} (h : R.data = ⟨b, i, o⟩) : ∃ ba bc ia ic oa oc, R = ⟨ba, bc, b, ia, ic, i, oa, oc, o⟩ := by
  obtain ⟨ba, bc, bs, ia, ic, is, oa, oc, os⟩ := R
  injection h with h1 h2 h3
  dsimp only at h1 h2 h3
  subst h1 h2 h3
  exact ⟨ba, bc, ia, ic, oa, oc, rfl⟩
/-- Better, where nothing becomes other. -/
theorem better_same (w : World) (a : ArchV) (P : PackV) (S : SpotV) (hP : PackAt w P) (hf : FewP P) (hS : SpotAt w S) (hs : FewS S) (m k : Int) (hm9 : I64 m) (hk9 : I64 k) (h : errB a P S m k = 0 ∧ okB a P S m k = true ∧ outD a P S m k = S.data) :
    Calls Try.prog 19 #[a.val, P.val, S.val, .int .i64 m, .int .i64 k] w fun e w' => ∃ ba bc ia ic oa oc, e = .returned (.tuple #[.agg #[.slice ba S.bs.length bc, .slice ia S.is.length ic, .slice oa S.os.length oc], .bool true, .int .i64 0]) ∧ SpotAt w' ⟨ba, bc, S.bs, ia, ic, S.is, oa, oc, S.os⟩ ∧ Below w.heap.size w w' := by
  refine Calls.mono (better19 w a P S hP hf hS hs m k hm9 hk9) ?_
  rintro e w' ⟨R, h0, h1, h2, h3⟩
  obtain ⟨e1, e2, e3⟩ := h
  rw [e3] at h1
  rw [e1, e2] at h0
  obtain ⟨ba, bc, ia, ic, oa, oc, rfl⟩ := spot_of h1
  exact ⟨ba, bc, ia, ic, oa, oc, h0, h2.spots (hS.below h3 (Nat.le_refl _)), h3⟩
/-- Spots that hold the same. -/
theorem same_of (w : World) (R S : SpotV) (hR : SpotAt w R) (hS : SpotAt w S) (h : R.data = S.data) (hs : FewS S) : Calls Try.prog 21 #[R.val, S.val] w fun e w' => e = .returned (.bool true) ∧ Below w.heap.size w w' := by
  obtain ⟨h1, h2, h3⟩ := data_ext h
  exact same21 w R S hR hS h1 h2 h3 (by rw [show R.bs = S.bs from h1]; exact hs.b) (by rw [show R.is = S.is from h2]; exact hs.i) (by rw [show R.os = S.os from h3]; exact hs.o)
end Go.Proofs.Ytholafodachjnaa
