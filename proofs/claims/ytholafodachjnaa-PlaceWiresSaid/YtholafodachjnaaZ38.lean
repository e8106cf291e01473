/- What the statements say of spots, in plain words. -/
import Derived.Test.YtholafodachjnaaZ37
import Derived.Test.YtholafodachjnaaZ31
namespace Go.Proofs.Ytholafodachjnaa
set_option linter.unusedVariables false
set_option linter.unusedSimpArgs false

theorem data_ext {R S : SpotD} (h : R = S) : R.bs = S.bs ∧ R.is = S.is ∧ R.os = S.os := by subst h; exact ⟨rfl, rfl, rfl⟩
theorem errB_no {a : ArchV} {P : PackV} {S : SpotV} {m k : Int} (h : ¬ errB a P S m k = 0) : okB a P S m k = false ∧ outD a P S m k = ⟨[], [], []⟩ := by
  unfold okB outD
  rw [if_neg h, if_neg h]
  exact ⟨rfl, rfl⟩
theorem errB_yes {a : ArchV} {P : PackV} {S : SpotV} {m k : Int} (h : errB a P S m k = 0) : okB a P S m k = betterB a P.data S.data m k ∧ outD a P S m k = betterD a P.data S.data m k := by
  unfold okB outD
  rw [if_pos h, if_pos h]
  exact ⟨rfl, rfl⟩
theorem betterB_same {a : ArchV} {P : PackD} {S : SpotD} {m k : Int} (h : turnD a S m k = S) : betterB a P S m k = true ∧ betterD a P S m k = S := by
  have h1 : betterB a P S m k = true := by unfold betterB; rw [h]; simp
  refine ⟨h1, ?_⟩
  unfold betterD
  rw [if_pos h1, h]
theorem tiles_two {a : ArchV} {m n : Int} (hp : 0 ≤ padsL a) (hm : 0 ≤ m ∧ m < tilesL a) (hn : 0 ≤ n ∧ n < tilesL a) : TwoOk a m n := ⟨⟨hm.1, by omega⟩, ⟨hn.1, by omega⟩, by omega⟩
theorem right_pads {a : ArchV} {P : PackD} {S : SpotD} (h : RightAll a P S) : 4 ≤ padsL a ∧ padsL a ≤ 64 ∧ 1 ≤ tilesL a ∧ tilesL a ≤ 256 := by
  have hw := h.p.w
  have hh := h.p.h
  have h1 : 1 * 1 ≤ a.w * a.h := Int.mul_le_mul hw.1 hh.1 (by omega) (by omega)
  have h2 : a.w * a.h ≤ 16 * 16 := Int.mul_le_mul hw.2 hh.2 (by omega) (by omega)
  unfold padsL tilesL
  omega
/-- A place changed for itself. -/
theorem same_self {a : ArchV} {P : PackV} {S : SpotV} {m : Int} (hc : checkE a P S = 0) (hm : 0 ≤ m ∧ m < tilesL a) : errB a P S m m = 0 ∧ okB a P S m m = true ∧ outD a P S m m = S.data := by
  have hr := (checkE_ok.1 hc).2
  have he : errB a P S m m = 0 := errB_ok.2 ⟨hc, tiles_two (by have := right_pads hr; omega) hm hm⟩
  obtain ⟨h1, h2⟩ := betterB_same (P := P.data) (turnD_self a S.data m)
  obtain ⟨h3, h4⟩ := errB_yes he
  exact ⟨he, h3.trans h1, h4.trans h2⟩
/-- Two tiles where nothing stands. -/
theorem same_none {a : ArchV} {P : PackV} {S : SpotV} {m n : Int} (hc : checkE a P S = 0) (hm : 0 ≤ m ∧ m < tilesL a) (hn : 0 ≤ n ∧ n < tilesL a) (h : ∀ x ∈ S.bs, x ≠ m ∧ x ≠ n) :
    errB a P S m n = 0 ∧ okB a P S m n = true ∧ outD a P S m n = S.data := by
  have hr := (checkE_ok.1 hc).2
  have he : errB a P S m n = 0 := errB_ok.2 ⟨hc, tiles_two (by have := right_pads hr; omega) hm hn⟩
  have ht : turnD a S.data m n = S.data := by
    unfold turnD
    rw [if_pos hm.2, turnL_none h]
  obtain ⟨h1, h2⟩ := betterB_same (P := P.data) ht
  obtain ⟨h3, h4⟩ := errB_yes he
  exact ⟨he, h3.trans h1, h4.trans h2⟩
/-- What is better is right, and costs no more. -/
theorem better_right {a : ArchV} {P : PackV} {S R : SpotV} {m n : Int} (he : errB a P S m n = 0) (hR : R.data = outD a P S m n) :
    checkE a P S = 0 ∧ checkE a P R = 0 ∧ errB a P R n m = 0 ∧ costV a P R ≤ costV a P S ∧ (okB a P S m n = false → R.data = S.data) ∧
    (okB a P S m n = true → okB a P R n m = decide (costV a P S = costV a P R)) ∧ (okB a P S m n = true → okB a P R n m = true → outD a P R n m = S.data) := by
  obtain ⟨hc, ht⟩ := errB_ok.1 he
  obtain ⟨hb, hr⟩ := checkE_ok.1 hc
  obtain ⟨e1, e2⟩ := errB_yes he
  rw [e2] at hR
  have hcR : checkE a P R = 0 := checkE_ok.2 ⟨hb, by rw [hR]; exact hr.better ht⟩
  have heR : errB a P R n m = 0 := errB_ok.2 ⟨hcR, ht.symm⟩
  obtain ⟨e3, e4⟩ := errB_yes heR
  have v1 : costV a P S = costL a P.data S.data := by unfold costV; rw [if_pos hc]
  have v2 : costV a P R = costL a P.data R.data := by unfold costV; rw [if_pos hcR]
  have hle : costL a P.data R.data ≤ costL a P.data S.data := by rw [hR]; exact better_cost _ _ _ _ _
  have hback : okB a P S m n = true → turnD a R.data n m = S.data := fun h => by
    rw [e1] at h
    rw [hR]
    unfold betterD
    rw [if_pos h]
    exact turnD_back S.data ht
  refine ⟨hc, hcR, heR, by rw [v1, v2]; exact hle, fun h => ?_, fun h => ?_, fun h k => ?_⟩
  · rw [e1] at h
    rw [hR]
    unfold betterD
    rw [h]
    rfl
  · rw [e3, v1, v2]
    unfold betterB
    rw [hback h]
    rw [decide_eq_decide]
    omega
  · rw [e4]
    rw [e3] at k
    unfold betterD
    rw [if_pos k]
    exact hback h
/-- Fewer draws. -/
theorem place_take (a : ArchV) (D : PackD) (ds : List Int) (S : SpotD) (j : Nat) : ∀ k, k ≤ j → placeTo a D (ds.take (2 * j)) S k = placeTo a D ds S k
  | 0, _ => rfl
  | k + 1, h => by
    have h1 : (ds.take (2 * j)).getD (2 * k) 0 = ds.getD (2 * k) 0 := by simp [List.getD, List.getElem?_take, show 2 * k < 2 * j by omega]
    have h2 : (ds.take (2 * j)).getD (2 * k + 1) 0 = ds.getD (2 * k + 1) 0 := by simp [List.getD, List.getElem?_take, show 2 * k + 1 < 2 * j by omega]
    show betterD a D (placeTo a D (ds.take (2 * j)) S k) (mOf a (ds.take (2 * j)) k) (nOf a (ds.take (2 * j)) k) = betterD a D (placeTo a D ds S k) (mOf a ds k) (nOf a ds k)
    have hm : mOf a (ds.take (2 * j)) k = mOf a ds k := by unfold mOf; rw [h1]
    have hn : nOf a (ds.take (2 * j)) k = nOf a ds k := by unfold nOf; rw [hm, h2]
    rw [place_take a D ds S j k (by omega), hm, hn]
theorem place_mono (a : ArchV) (D : PackD) (ds : List Int) (S : SpotD) (j : Nat) : ∀ d, costL a D (placeTo a D ds S (j + d)) ≤ costL a D (placeTo a D ds S j)
  | 0 => Int.le_refl _
  | d + 1 => Int.le_trans (better_cost _ _ _ _ _) (place_mono a D ds S j d)
theorem placeO_yes {a : ArchV} {P : PackV} {ds : List Int} {R : SpotV} (he : errF a P = 0) (hR : R.data = placeO a P ds) : R.data = placeTo a P.data ds (firstD P) (ds.length / 2) ∧ checkE a P R = 0 ∧ costV a P R = costL a P.data R.data := by
  obtain ⟨hb, hr⟩ := errF_ok.1 he
  unfold placeO at hR
  rw [if_pos he] at hR
  have hc : checkE a P R = 0 := checkE_ok.2 ⟨hb, by rw [hR]; exact placeTo_right ds (first_right hb hr) _⟩
  exact ⟨hR, hc, by unfold costV; rw [if_pos hc]⟩
theorem placeO_no {a : ArchV} {P : PackV} {ds : List Int} (he : ¬ errF a P = 0) : placeO a P ds = ⟨[], [], []⟩ := by
  unfold placeO
  rw [if_neg he]
/-- More draws cost no more. -/
theorem place_more {a : ArchV} {P : PackV} {ds : List Int} {j : Nat} {R T : SpotV} (hj : j ≤ ds.length / 2) (he : errF a P = 0) (hR : R.data = placeO a P (ds.take (2 * j))) (hT : T.data = placeO a P ds) :
    checkE a P R = 0 ∧ checkE a P T = 0 ∧ costV a P T ≤ costV a P R := by
  obtain ⟨r1, r2, r3⟩ := placeO_yes he hR
  obtain ⟨t1, t2, t3⟩ := placeO_yes he hT
  refine ⟨r2, t2, ?_⟩
  have hl : (ds.take (2 * j)).length / 2 = j := by rw [List.length_take]; omega
  rw [hl, place_take a P.data ds (firstD P) j j (Nat.le_refl _)] at r1
  rw [t3, r3, t1, r1]
  have := place_mono a P.data ds (firstD P) j (ds.length / 2 - j)
  rwa [show j + (ds.length / 2 - j) = ds.length / 2 by omega] at this
/-- What is told in the end is right and costs no more than what is told at first. -/
theorem place_alone {a : ArchV} {P : PackV} {ds : List Int} {R T : SpotV} (he : errF a P = 0) (hR : R.data = placeO a P ds) (hT : T.data = firstO a P) :
    checkE a P R = 0 ∧ checkE a P T = 0 ∧ costV a P R ≤ costV a P T ∧ 0 ≤ costV a P R := by
  obtain ⟨r1, r2, r3⟩ := placeO_yes he hR
  have hT' : T.data = placeO a P [] := by
    rw [hT]
    unfold firstO placeO
    rw [if_pos he, if_pos he]
    rfl
  obtain ⟨t1, t2, t3⟩ := placeO_yes he hT'
  refine ⟨r2, t2, ?_, ?_⟩
  · rw [t3, r3, t1, r1]
    have := place_mono a P.data ds (firstD P) 0 (ds.length / 2)
    rwa [Nat.zero_add] at this
  · rw [r3]
    have h := (checkE_ok.1 r2).2
    exact (costL_in h.p h.s).1
end Go.Proofs.Ytholafodachjnaa
