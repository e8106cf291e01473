/- Calls over spots whose lists are as long as they should be. -/
import Derived.Test.YtholafodachjnaaZ39
namespace Go.Proofs.Ytholafodachjnaa
open Go.RowKit Go.Shelf
set_option linter.unusedVariables false
set_option linter.unusedSimpArgs false

theorem better_ok (w : World) (a : ArchV) (P : PackV) (S : SpotV) (hP : PackAt w P) (hf : FewP P) (hS : SpotAt w S) (hs : FewS S) (m k : Int) (hm9 : I64 m) (hk9 : I64 k) (he : errB a P S m k = 0) :
    Calls Try.prog 19 #[a.val, P.val, S.val, .int .i64 m, .int .i64 k] w fun e w' => ∃ ba bc bs ia ic is oa oc os, e = .returned (.tuple #[.agg #[.slice ba S.bs.length bc, .slice ia S.is.length ic, .slice oa S.os.length oc], .bool (okB a P S m k), .int .i64 0]) ∧ SpotV.data ⟨ba, bc, bs, ia, ic, is, oa, oc, os⟩ = outD a P S m k ∧ SpotAt w' ⟨ba, bc, bs, ia, ic, is, oa, oc, os⟩ ∧ (bs.length = S.bs.length ∧ is.length = S.is.length ∧ os.length = S.os.length) ∧ Below w.heap.size w w' := by
  refine Calls.mono (better19 w a P S hP hf hS hs m k hm9 hk9) ?_
  rintro e w' ⟨R, h0, h1, h2, h3⟩
  have hl : R.bs.length = S.bs.length ∧ R.is.length = S.is.length ∧ R.os.length = S.os.length := by
    have h4 := better_len a P.data S.data m k
    rw [← (errB_yes he).2, ← h1] at h4
    exact h4
  obtain ⟨ba, bc, bs, ia, ic, is, oa, oc, os⟩ := R
  obtain ⟨l1, l2, l3⟩ := hl
  dsimp only at l1 l2 l3
  rw [he] at h0
  refine ⟨ba, bc, bs, ia, ic, is, oa, oc, os, ?_, h1, h2.spots (hS.below h3 (Nat.le_refl _)), ⟨l1, l2, l3⟩, h3⟩
  rw [h0, ← l1, ← l2, ← l3]
theorem better_bad (w : World) (a : ArchV) (P : PackV) (S : SpotV) (hP : PackAt w P) (hf : FewP P) (hS : SpotAt w S) (hs : FewS S) (m k : Int) (hm9 : I64 m) (hk9 : I64 k) (he : ¬ errB a P S m k = 0) :
    Calls Try.prog 19 #[a.val, P.val, S.val, .int .i64 m, .int .i64 k] w fun e w' => ∃ ba bc ia ic oa oc, e = .returned (.tuple #[.agg #[.slice ba 0 bc, .slice ia 0 ic, .slice oa 0 oc], .bool false, .int .i64 (errB a P S m k)]) ∧ Below w.heap.size w w' := by
  refine Calls.mono (better19 w a P S hP hf hS hs m k hm9 hk9) ?_
  rintro e w' ⟨R, h0, h1, h2, h3⟩
  obtain ⟨e1, e2⟩ := errB_no he
  rw [e2] at h1
  rw [e1] at h0
  obtain ⟨ba, bc, ia, ic, oa, oc, rfl⟩ := spot_of h1
  exact ⟨ba, bc, ia, ic, oa, oc, h0, h3⟩
section
variable (w : World) (a : ArchV) (P : PackV) (R : SpotV) (hP : PackAt w P) (hf : FewP P) (hR : SpotAt w R) (hs : FewS R) (nb ni no : Nat) (h1 : R.bs.length = nb) (h2 : R.is.length = ni) (h3 : R.os.length = no)
include hP hf hR hs h1 h2 h3
theorem cost_at : Calls Try.prog 13 #[a.val, P.val, .agg #[.slice R.ba nb R.bc, .slice R.ia ni R.ic, .slice R.oa no R.oc]] w fun e w' => e = .returned (.tuple #[.int .i64 (costV a P R), .int .i64 (checkE a P R)]) ∧ Below w.heap.size w w' := by
  subst h1 h2 h3
  exact cost13 w a P R hP hf hR hs
theorem check_at : Calls Try.prog 15 #[a.val, P.val, .agg #[.slice R.ba nb R.bc, .slice R.ia ni R.ic, .slice R.oa no R.oc]] w fun e w' => e = .returned (.int .i64 (checkE a P R)) ∧ Below w.heap.size w w' := by
  subst h1 h2 h3
  exact check15 w a P R hP hf hR hs
theorem better_at (m k : Int) (hm9 : I64 m) (hk9 : I64 k) (he : errB a P R m k = 0) : Calls Try.prog 19 #[a.val, P.val, .agg #[.slice R.ba nb R.bc, .slice R.ia ni R.ic, .slice R.oa no R.oc], .int .i64 m, .int .i64 k] w fun e w' => ∃ ba bc bs ia ic is oa oc os, e = .returned (.tuple #[.agg #[.slice ba nb bc, .slice ia ni ic, .slice oa no oc], .bool (okB a P R m k), .int .i64 0]) ∧ SpotV.data ⟨ba, bc, bs, ia, ic, is, oa, oc, os⟩ = outD a P R m k ∧ SpotAt w' ⟨ba, bc, bs, ia, ic, is, oa, oc, os⟩ ∧ (bs.length = nb ∧ is.length = ni ∧ os.length = no) ∧ Below w.heap.size w w' := by
  subst h1 h2 h3
  exact better_ok w a P R hP hf hR hs m k hm9 hk9 he
end
theorem same_at (w : World) (R S : SpotV) (hR : SpotAt w R) (hS : SpotAt w S) (h : R.data = S.data) (hs : FewS S) (nb ni no : Nat) (h1 : R.bs.length = nb) (h2 : R.is.length = ni) (h3 : R.os.length = no) : Calls Try.prog 21 #[.agg #[.slice R.ba nb R.bc, .slice R.ia ni R.ic, .slice R.oa no R.oc], S.val] w fun e w' => e = .returned (.bool true) ∧ Below w.heap.size w w' := by
  subst h1 h2 h3
  exact same_of w R S hR hS h hs
end Go.Proofs.Ytholafodachjnaa
