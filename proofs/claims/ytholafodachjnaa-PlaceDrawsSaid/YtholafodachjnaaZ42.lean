/- What First and Place tell, with where it lies. -/
import Derived.Test.YtholafodachjnaaZ40
namespace Go.Proofs.Ytholafodachjnaa
open Go.RowKit Go.Shelf
set_option linter.unusedVariables false
set_option linter.unusedSimpArgs false

theorem first_len {a : ArchV} {P : PackV} (he : errF a P = 0) : (firstO a P).bs.length = P.bs.length ∧ (firstO a P).is.length = P.ins.toNat ∧ (firstO a P).os.length = P.os.length := by
  unfold firstO
  rw [if_pos he]
  unfold firstD
  exact ⟨fromL_len _ _, fromL_len _ _, fromL_len _ _⟩
theorem placeTo_len3 (a : ArchV) (D : PackD) (ds : List Int) (S : SpotD) : ∀ k, (placeTo a D ds S k).bs.length = S.bs.length ∧ (placeTo a D ds S k).is.length = S.is.length ∧ (placeTo a D ds S k).os.length = S.os.length
  | 0 => ⟨rfl, rfl, rfl⟩
  | k + 1 => by
    obtain ⟨h1, h2, h3⟩ := placeTo_len3 a D ds S k
    obtain ⟨g1, g2, g3⟩ := better_len a D (placeTo a D ds S k) (mOf a ds k) (nOf a ds k)
    exact ⟨g1.trans h1, g2.trans h2, g3.trans h3⟩
theorem place_len {a : ArchV} {P : PackV} {ds : List Int} (he : errF a P = 0) : (placeO a P ds).bs.length = P.bs.length ∧ (placeO a P ds).is.length = P.ins.toNat ∧ (placeO a P ds).os.length = P.os.length := by
  obtain ⟨h1, h2, h3⟩ := first_len he
  obtain ⟨g1, g2, g3⟩ := placeTo_len3 a P.data ds (firstD P) (ds.length / 2)
  unfold firstO at h1 h2 h3
  unfold placeO
  rw [if_pos he] at h1 h2 h3 ⊢
  exact ⟨g1.trans h1, g2.trans h2, g3.trans h3⟩
theorem FirstOut.ok {a : ArchV} {P : PackV} {ds : List Int} {w w' : World} {e : Ending} (h : FirstOut a P w e w') (he : errF a P = 0) : ∃ ba bc bs ia ic is oa oc os, e = .returned (.tuple #[.agg #[.slice ba P.bs.length bc, .slice ia P.ins.toNat ic, .slice oa P.os.length oc], .int .i64 0]) ∧ SpotV.data ⟨ba, bc, bs, ia, ic, is, oa, oc, os⟩ = firstO a P ∧ SpotAt w' ⟨ba, bc, bs, ia, ic, is, oa, oc, os⟩ ∧ (bs.length = P.bs.length ∧ is.length = P.ins.toNat ∧ os.length = P.os.length) ∧ Below w.heap.size w w' := by
  obtain ⟨⟨ba, bc, bs, ia, ic, is, oa, oc, os⟩, h0, h1, h2, h3⟩ := h
  have hl := first_len he
  rw [← h1] at hl
  obtain ⟨l1, l2, l3⟩ := hl
  dsimp only at l1 l2 l3
  rw [he] at h0
  refine ⟨ba, bc, bs, ia, ic, is, oa, oc, os, ?_, h1, h2.anew, ⟨l1, l2, l3⟩, h3⟩
  rw [h0, ← l1, ← l2, ← l3]
theorem FirstOut.no {a : ArchV} {P : PackV} {ds : List Int} {w w' : World} {e : Ending} (h : FirstOut a P w e w') (he : ¬ errF a P = 0) : ∃ ba bc ia ic oa oc, e = .returned (.tuple #[.agg #[.slice ba 0 bc, .slice ia 0 ic, .slice oa 0 oc], .int .i64 (errF a P)]) ∧ SpotAt w' ⟨ba, bc, [], ia, ic, [], oa, oc, []⟩ ∧ Below w.heap.size w w' := by
  obtain ⟨R, h0, h1, h2, h3⟩ := h
  have e2 : R.data = ⟨[], [], []⟩ := by rw [h1]; unfold firstO; rw [if_neg he]
  obtain ⟨ba, bc, ia, ic, oa, oc, rfl⟩ := spot_of e2
  exact ⟨ba, bc, ia, ic, oa, oc, h0, h2.anew, h3⟩
theorem PlaceOut.ok {a : ArchV} {P : PackV} {ds : List Int} {w w' : World} {e : Ending} (h : PlaceOut a P ds w e w') (he : errF a P = 0) : ∃ ba bc bs ia ic is oa oc os, e = .returned (.tuple #[.agg #[.slice ba P.bs.length bc, .slice ia P.ins.toNat ic, .slice oa P.os.length oc], .int .i64 0]) ∧ SpotV.data ⟨ba, bc, bs, ia, ic, is, oa, oc, os⟩ = placeO a P ds ∧ SpotAt w' ⟨ba, bc, bs, ia, ic, is, oa, oc, os⟩ ∧ (bs.length = P.bs.length ∧ is.length = P.ins.toNat ∧ os.length = P.os.length) ∧ Below w.heap.size w w' := by
  obtain ⟨⟨ba, bc, bs, ia, ic, is, oa, oc, os⟩, h0, h1, h2, h3⟩ := h
  have hl := place_len (ds := ds) he
  rw [← h1] at hl
  obtain ⟨l1, l2, l3⟩ := hl
  dsimp only at l1 l2 l3
  rw [he] at h0
  refine ⟨ba, bc, bs, ia, ic, is, oa, oc, os, ?_, h1, h2.anew, ⟨l1, l2, l3⟩, h3⟩
  rw [h0, ← l1, ← l2, ← l3]
theorem PlaceOut.no {a : ArchV} {P : PackV} {ds : List Int} {w w' : World} {e : Ending} (h : PlaceOut a P ds w e w') (he : ¬ errF a P = 0) : ∃ ba bc ia ic oa oc, e = .returned (.tuple #[.agg #[.slice ba 0 bc, .slice ia 0 ic, .slice oa 0 oc], .int .i64 (errF a P)]) ∧ SpotAt w' ⟨ba, bc, [], ia, ic, [], oa, oc, []⟩ ∧ Below w.heap.size w w' := by
  obtain ⟨R, h0, h1, h2, h3⟩ := h
  have e2 : R.data = ⟨[], [], []⟩ := by rw [h1]; unfold placeO; rw [if_neg he]
  obtain ⟨ba, bc, ia, ic, oa, oc, rfl⟩ := spot_of e2
  exact ⟨ba, bc, ia, ic, oa, oc, h0, h2.anew, h3⟩
/-- What Place's spots cost, and that they are right. -/
theorem place_cost {a : ArchV} {P : PackV} {ds : List Int} {R : SpotV} (he : errF a P = 0) (hR : R.data = placeO a P ds) : checkE a P R = 0 ∧ costV a P R = costL a P.data (placeO a P ds) := by
  obtain ⟨h1, h2, h3⟩ := placeO_yes he hR
  exact ⟨h2, by rw [h3, hR]⟩
theorem firstO_place {a : ArchV} {P : PackV} : firstO a P = placeO a P [] := by
  unfold firstO placeO
  rfl
theorem first_cost {a : ArchV} {P : PackV} {R : SpotV} (he : errF a P = 0) (hR : R.data = firstO a P) : checkE a P R = 0 ∧ costV a P R = costL a P.data (firstO a P) := by
  rw [firstO_place] at hR ⊢
  exact place_cost he hR
theorem place_le {a : ArchV} {P : PackV} {ds : List Int} (he : errF a P = 0) : costL a P.data (placeO a P ds) ≤ costL a P.data (firstO a P) ∧ 0 ≤ costL a P.data (placeO a P ds) := by
  obtain ⟨h1, h2, h3, h4⟩ := place_alone (ds := ds) (R := ⟨none, 0, (placeO a P ds).bs, none, 0, (placeO a P ds).is, none, 0, (placeO a P ds).os⟩) (T := ⟨none, 0, (firstO a P).bs, none, 0, (firstO a P).is, none, 0, (firstO a P).os⟩) he rfl rfl
  rw [(place_cost (R := ⟨none, 0, (placeO a P ds).bs, none, 0, (placeO a P ds).is, none, 0, (placeO a P ds).os⟩) he rfl).2] at h3 h4
  rw [(first_cost (R := ⟨none, 0, (firstO a P).bs, none, 0, (firstO a P).is, none, 0, (firstO a P).os⟩) he rfl).2] at h3
  exact ⟨h3, h4⟩
theorem place_le2 {a : ArchV} {P : PackV} {ds : List Int} {j : Nat} (hj : j ≤ ds.length / 2) (he : errF a P = 0) : costL a P.data (placeO a P ds) ≤ costL a P.data (placeO a P (ds.take (2 * j))) := by
  obtain ⟨h1, h2, h3⟩ := place_more (ds := ds) (T := ⟨none, 0, (placeO a P ds).bs, none, 0, (placeO a P ds).is, none, 0, (placeO a P ds).os⟩) (R := ⟨none, 0, (placeO a P (ds.take (2 * j))).bs, none, 0, (placeO a P (ds.take (2 * j))).is, none, 0, (placeO a P (ds.take (2 * j))).os⟩) hj he rfl rfl
  rw [(place_cost (ds := ds) (R := ⟨none, 0, (placeO a P ds).bs, none, 0, (placeO a P ds).is, none, 0, (placeO a P ds).os⟩) he rfl).2] at h3
  rw [(place_cost (ds := ds.take (2 * j)) (R := ⟨none, 0, (placeO a P (ds.take (2 * j))).bs, none, 0, (placeO a P (ds.take (2 * j))).is, none, 0, (placeO a P (ds.take (2 * j))).os⟩) he rfl).2] at h3
  exact h3
theorem below_of {a : ArchV} {P : PackV} (h1 : archE a = 0) (h2 : orderE P.data = 0) : belowE a P = 0 := by
  unfold belowE
  rw [if_pos h1, h2]
end Go.Proofs.Ytholafodachjnaa
