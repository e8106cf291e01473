/- Better, as the document tells, and as the program does. -/
import Derived.Deep.CutRange
import Derived.Test.YtholafodachjnaaZ26
namespace Go.Proofs.Ytholafodachjnaa
open Go.RowKit Go.Shelf
set_option linter.unusedVariables false
set_option linter.unusedSimpArgs false

theorem twoB_cases {a : ArchV} {m k : Int} (h : twoB a m k = false) : m < 0 ∨ k < 0 ∨ tilesL a + padsL a ≤ m ∨ tilesL a + padsL a ≤ k ∨ (m < tilesL a ∧ ¬ k < tilesL a) ∨ (¬ m < tilesL a ∧ k < tilesL a) := by
  rcases Int.lt_or_le m 0 with h1 | h1
  · exact .inl h1
  rcases Int.lt_or_le k 0 with h2 | h2
  · exact .inr (.inl h2)
  rcases Int.lt_or_le m (tilesL a + padsL a) with h3 | h3
  · rcases Int.lt_or_le k (tilesL a + padsL a) with h4 | h4
    · by_cases h5 : m < tilesL a
      · by_cases h6 : k < tilesL a
        · have := twoB_iff.2 (⟨⟨h1, h3⟩, ⟨h2, h4⟩, ⟨fun _ => h6, fun _ => h5⟩⟩ : TwoOk a m k)
          rw [this] at h; cases h
        · exact .inr (.inr (.inr (.inr (.inl ⟨h5, h6⟩))))
      · by_cases h6 : k < tilesL a
        · exact .inr (.inr (.inr (.inr (.inr ⟨h5, h6⟩))))
        · have := twoB_iff.2 (⟨⟨h1, h3⟩, ⟨h2, h4⟩, ⟨fun e => absurd e h5, fun e => absurd e h6⟩⟩ : TwoOk a m k)
          rw [this] at h; cases h
    · exact .inr (.inr (.inr (.inl h4)))
  · exact .inr (.inr (.inl h3))
abbrev zeroSpots : Value := .agg #[.slice none 0 0, .slice none 0 0, .slice none 0 0]
set_option maxRecDepth 100000 in
set_option maxHeartbeats 8000000 in
theorem better42_no (w : World) (a : ArchV) (P : PackV) (S : SpotV) (hw : 1 ≤ a.w ∧ a.w ≤ 16) (hh : 1 ≤ a.h ∧ a.h ≤ 16) (m k : Int) (hm9 : I64 m) (hk9 : I64 k) (hmk : twoB a m k = false) :
    Calls Try.prog 42 #[a.val, P.val, S.val, .int .i64 m, .int .i64 k] w fun e w' => e = .returned (.tuple #[zeroSpots, .bool false, .int .i64 1]) ∧ Below w.heap.size w w' := by
  have hwh : (0 ≤ a.w ∧ a.w ≤ 1000) ∧ 0 ≤ a.h ∧ a.h ≤ 1000 := by omega
  have HTi : Hid (∀ W, Calls Try.prog 36 #[a.val] W fun e w' => e = .returned (.int .i64 (tilesL a)) ∧ Below W.heap.size W w') := Lib.hid fun W => tiles36 W a hwh.1 hwh.2
  have HPa : Hid (∀ W, Calls Try.prog 38 #[a.val] W fun e w' => e = .returned (.int .i64 (padsL a)) ∧ Below W.heap.size W w') := Lib.hid fun W => pads38 W a hwh.1 hwh.2
  have htl : 0 ≤ tilesL a ∧ tilesL a ≤ 256 := by
    have h256 : a.w * a.h ≤ 16 * 16 := Int.mul_le_mul hw.2 hh.2 (by omega) (by omega)
    have h0 : 0 ≤ a.w * a.h := Int.mul_nonneg (by omega) (by omega)
    unfold tilesL; omega
  have hpl : 0 ≤ padsL a ∧ padsL a ≤ 64 := by unfold padsL; omega
  have hc := twoB_cases hmk
  obtain ⟨t, ht⟩ : ∃ t, t = tilesL a := ⟨_, rfl⟩
  obtain ⟨pd, hpd⟩ : ∃ t, t = padsL a := ⟨_, rfl⟩
  rw [← ht] at HTi htl hc
  rw [← hpd] at HPa hpl hc
  have HC := Lib.hid hc
  clear hc ht hpd hmk hw hh hwh hm9 hk9
  obtain ⟨aw, ah, at_⟩ := a
  obtain ⟨pi, pa, pc, pb, qa, qc, qb⟩ := P
  obtain ⟨ba, bc, bs, ia, ic, is, oa, oc, os⟩ := S
  unfold ArchV.val at HTi HPa
  unfold ArchV.val PackV.val SpotV.val
  dsimp only at HTi HPa ⊢
  obtain ⟨m1, hm1⟩ : ∃ n, n = pb.length := ⟨_, rfl⟩
  obtain ⟨m3, hm3⟩ : ∃ n, n = qb.length := ⟨_, rfl⟩
  obtain ⟨n1, hn1⟩ : ∃ n, n = bs.length := ⟨_, rfl⟩
  obtain ⟨n2, hn2⟩ : ∃ n, n = is.length := ⟨_, rfl⟩
  obtain ⟨n3, hn3⟩ : ∃ n, n = os.length := ⟨_, rfl⟩
  rw [← hm1, ← hm3, ← hn1, ← hn2, ← hn3] at ⊢
  clear hm1 hm3 hn1 hn2 hn3
  obtain ⟨H, hH⟩ : ∃ h, h = w.heap.size := ⟨_, rfl⟩
  obtain ⟨w1, hw1⟩ : ∃ W, W = (((w.alloc (.cells #[.int .i64 aw, .int .i64 ah, .int .i64 at_] 23)).alloc (.cells #[.int .i64 pi, .slice pa m1 pc, .slice qa m3 qc] 27)).alloc (.cells #[.slice ba n1 bc, .slice ia n2 ic, .slice oa n3 oc] 29)).alloc (.cells #[.slice none 0 0, .slice none 0 0, .slice none 0 0] 29) := ⟨_, rfl⟩
  have hX1 : Below w.heap.size w w1 := by rw [hw1]; exact ((((Below.refl _ _).alloc (Nat.le_refl _) _).alloc (by simp) _).alloc (by simp <;> omega) _).alloc (by simp <;> omega) _
  have hs1 : w1.heap.size = H + 4 := by rw [hw1, hH]; simp
  obtain ⟨H1, hH1⟩ : ∃ x, x = H + 1 := ⟨_, rfl⟩
  obtain ⟨H2, hH2⟩ : ∃ x, x = H1 + 1 := ⟨_, rfl⟩
  obtain ⟨B1, hB1⟩ : ∃ x, x = H2 + 1 := ⟨_, rfl⟩
  have hrw0 : w1.rowIs (H) 23 3 (fun i => ([.int .i64 aw, .int .i64 ah, .int .i64 at_] : List Value).getD i undef) := by
    rw [hw1, hH]
    exact (((rowL_alloc w 23 [.int .i64 aw, .int .i64 ah, .int .i64 at_]).alloc _).alloc _).alloc _
  have hrw1 : w1.rowIs (H1) 27 3 (fun i => ([.int .i64 pi, .slice pa m1 pc, .slice qa m3 qc] : List Value).getD i undef) := by
    have h := ((rowL_alloc (w.alloc (.cells #[.int .i64 aw, .int .i64 ah, .int .i64 at_] 23)) 27 [.int .i64 pi, .slice pa m1 pc, .slice qa m3 qc]).alloc (.cells #[.slice ba n1 bc, .slice ia n2 ic, .slice oa n3 oc] 29)).alloc (.cells #[.slice none 0 0, .slice none 0 0, .slice none 0 0] 29)
    rw [hw1]
    have hsz : (w.alloc (.cells #[.int .i64 aw, .int .i64 ah, .int .i64 at_] 23)).heap.size = H1 := by rw [hH1, hH]; simp
    rw [hsz] at h
    exact h
  have hrw2 : w1.rowIs (H2) 29 3 (fun i => ([.slice ba n1 bc, .slice ia n2 ic, .slice oa n3 oc] : List Value).getD i undef) := by
    have h := (rowL_alloc ((w.alloc (.cells #[.int .i64 aw, .int .i64 ah, .int .i64 at_] 23)).alloc (.cells #[.int .i64 pi, .slice pa m1 pc, .slice qa m3 qc] 27)) 29 [.slice ba n1 bc, .slice ia n2 ic, .slice oa n3 oc]).alloc (.cells #[.slice none 0 0, .slice none 0 0, .slice none 0 0] 29)
    rw [hw1]
    have hsz : ((w.alloc (.cells #[.int .i64 aw, .int .i64 ah, .int .i64 at_] 23)).alloc (.cells #[.int .i64 pi, .slice pa m1 pc, .slice qa m3 qc] 27)).heap.size = H2 := by rw [hH2, hH1, hH]; simp
    rw [hsz] at h
    exact h
  have hrw3 : w1.rowIs (B1) 29 3 (fun i => ([.slice none 0 0, .slice none 0 0, .slice none 0 0] : List Value).getD i undef) := by
    have h := rowL_alloc (((w.alloc (.cells #[.int .i64 aw, .int .i64 ah, .int .i64 at_] 23)).alloc (.cells #[.int .i64 pi, .slice pa m1 pc, .slice qa m3 qc] 27)).alloc (.cells #[.slice ba n1 bc, .slice ia n2 ic, .slice oa n3 oc] 29)) 29 [.slice none 0 0, .slice none 0 0, .slice none 0 0]
    rw [hw1]
    have hsz : (((w.alloc (.cells #[.int .i64 aw, .int .i64 ah, .int .i64 at_] 23)).alloc (.cells #[.int .i64 pi, .slice pa m1 pc, .slice qa m3 qc] 27)).alloc (.cells #[.slice ba n1 bc, .slice ia n2 ic, .slice oa n3 oc] 29)).heap.size = B1 := by rw [hB1, hH2, hH1, hH]; simp
    rw [hsz] at h
    exact h
  have HX1 := Lib.hid hX1
  have HW3r : Hid (∀ W, Below w1.heap.size w1 W → W.rowIs (B1) 29 3 (fun i => ([.slice none 0 0, .slice none 0 0, .slice none 0 0] : List Value).getD i undef)) := Lib.hid fun W hW => hrw3.of_block (hW.block B1 (by omega))
  have HK : Hid (∀ W, Below w1.heap.size w1 W → W.cell? ⟨H, 0, none⟩ = some (.int .i64 aw) ∧ W.cell? ⟨H, 1, none⟩ = some (.int .i64 ah) ∧ W.cell? ⟨H, 2, none⟩ = some (.int .i64 at_) ∧ W.cell? ⟨H1, 0, none⟩ = some (.int .i64 pi) ∧ W.cell? ⟨H1, 1, none⟩ = some (.slice pa m1 pc) ∧ W.cell? ⟨H1, 2, none⟩ = some (.slice qa m3 qc) ∧ W.cell? ⟨H2, 0, none⟩ = some (.slice ba n1 bc) ∧ W.cell? ⟨H2, 1, none⟩ = some (.slice ia n2 ic) ∧ W.cell? ⟨H2, 2, none⟩ = some (.slice oa n3 oc)) := Lib.hid fun W hW => by
    have h0 := hrw0.of_block (hW.block H (by omega))
    have h1 := hrw1.of_block (hW.block H1 (by omega))
    have h2 := hrw2.of_block (hW.block H2 (by omega))
    exact ⟨h0.cell (by omega), h0.cell (by omega), h0.cell (by omega), h1.cell (by omega), h1.cell (by omega), h1.cell (by omega), h2.cell (by omega), h2.cell (by omega), h2.cell (by omega)⟩
  have HSz : Hid (w1.heap.size = H + 4 ∧ B1 = H + 3 ∧ H = w.heap.size) := Lib.hid ⟨hs1, by omega, hH⟩
  have HXW : Hid (∀ W, Below w1.heap.size w1 W → Below w.heap.size w W) := Lib.hid fun W hW => hX1.trans (hW.mono (by omega))
  have HW1 := Lib.hid hw1
  have HHH := Lib.hid hH
  have HHH1 := Lib.hid hH1
  have HHH2 := Lib.hid hH2
  have HBB := Lib.hid hB1
  clear hw1 hX1 hs1 hrw0 hrw1 hrw2 hrw3 hH hH1 hH2 hB1
  go_enter Try.func42, Try.ntmps42
  go_wp2_with fail
  rw [← HW1.out]
  (try rw [← HHH.out])
  rw [← HHH1.out]
  rw [← HHH2.out]
  rw [← HBB.out]
  refine Calls.mono (HTi.out w1) ?_
  rintro e w2 ⟨rfl, hb2⟩
  have HB2 := Lib.hid hb2
  clear hb2
  obtain ⟨a0, a1, a2, p0, p1, p2, s0, s1, s2⟩ := HK.out w2 HB2.out
  go_wp2_with fail
  refine Calls.mono (HPa.out w2) ?_
  rintro e w3 ⟨rfl, hb3⟩
  have HBx : Hid (Below w1.heap.size w1 w3) := Lib.hid (HB2.out.trans (hb3.mono HB2.out.size))
  clear hb3 a0 a1 a2 p0 p1 p2 s0 s1 s2
  have F1 : wrap64 (t + pd) = t + pd := wrap64s (by omega) (by omega)
  go_upto_region 3 with fail
  go_cut [46] from 22 to 46 (fun v wx => v = .bool true ∧ wx = w3)
  case first =>
    have g1 : decide (m ≥ t + pd) = decide (t + pd ≤ m) := rfl
    have g2 : decide (k ≥ t + pd) = decide (t + pd ≤ k) := rfl
    clear g1 g2
    by_cases h1 : m < 0
    · have d1 : decide (m < 0) = true := by simpa using h1
      clear h1
      go_wp2_with fail
      go_meet
      exact ⟨rfl, rfl⟩
    have d1 : decide (m < 0) = false := by simpa using h1
    by_cases h2 : k < 0
    · have d2 : decide (k < 0) = true := by simpa using h2
      clear h1 h2
      go_wp2_with fail
      go_meet
      exact ⟨rfl, rfl⟩
    have d2 : decide (k < 0) = false := by simpa using h2
    by_cases h3 : t + pd ≤ m
    · have d3 : decide (t + pd ≤ m) = true := by simpa using h3
      have d3' : decide (m ≥ t + pd) = true := by simpa using h3
      clear h1 h2 h3
      go_wp2_with fail
      go_meet
      exact ⟨rfl, rfl⟩
    have d3 : decide (t + pd ≤ m) = false := by simpa using h3
    have d3' : decide (m ≥ t + pd) = false := by simpa using h3
    by_cases h4 : t + pd ≤ k
    · have d4 : decide (t + pd ≤ k) = true := by simpa using h4
      have d4' : decide (k ≥ t + pd) = true := by simpa using h4
      clear h1 h2 h3 h4
      go_wp2_with fail
      go_meet
      exact ⟨rfl, rfl⟩
    have d4 : decide (t + pd ≤ k) = false := by simpa using h4
    have d4' : decide (k ≥ t + pd) = false := by simpa using h4
    by_cases h5 : m < t
    · have h6 : ¬ k < t := by have := HC.out; omega
      have d5 : decide (m < t) = true := by simpa using h5
      have d6 : decide (k < t) = false := by simpa using h6
      clear h1 h2 h3 h4 h5 h6
      go_wp2_with fail
      go_meet
      exact ⟨rfl, rfl⟩
    · have h6 : k < t := by have := HC.out; omega
      have d5 : decide (m < t) = false := by simpa using h5
      have d6 : decide (k < t) = true := by simpa using h6
      clear h1 h2 h3 h4 h5 h6
      go_wp2_with fail
      go_meet
      exact ⟨rfl, rfl⟩
  case rest =>
    obtain ⟨hv46, hwc⟩ := hcut
    subst hv46
    rw [hwc]
    clear hwc
    have hr9 := HW3r.out w3 HBx.out
    have z0 : w3.cell? ⟨B1, 0, none⟩ = some (.slice none 0 0) := hr9.cell (by omega)
    have f0 := hr9.frozen 0
    have z1 : w3.cell? ⟨B1, 1, none⟩ = some (.slice none 0 0) := hr9.cell (by omega)
    have f1 := hr9.frozen 1
    have z2 : w3.cell? ⟨B1, 2, none⟩ = some (.slice none 0 0) := hr9.cell (by omega)
    have f2 := hr9.frozen 2
    have HR9 := Lib.hid hr9
    clear hr9
    go_wp2_with fail
    (try simp only [Exit.inBlock, Exit.then])
    have key : ∀ (R : Ending → World → Prop) (a : Act) (W' : World), a.tmps[10]?.getD undef = .pointer (some ⟨B1, 0, none⟩) → a.tmps[11]?.getD undef = .bool false → a.tmps[12]?.getD undef = .int .i64 1 → a.defers = [] → W' = (((w3.setCell ⟨B1, 0, none⟩ (.slice none 0 0)).setCell ⟨B1, 1, none⟩ (.slice none 0 0)).setCell ⟨B1, 2, none⟩ (.slice none 0 0)) → R (.returned (.tuple #[.agg #[.slice none 0 0, .slice none 0 0, .slice none 0 0], .bool false, .int .i64 1])) W' → bodyPost Try.prog Try.f42 R .ret a W' := fun R a W' q1 q2 q3 q4 q5 q6 => @spots_end Try.f42 f42_results R a w3 B1 _ (.slice none 0 0) (.slice none 0 0) (.slice none 0 0) false 1 W' HR9.out q1 q2 q3 q4 q5 q6
    refine key _ _ _ ?h6c ?h7c ?h8c ?hdc ?hWc ?hRc
    case h6c => rfl
    case h7c => rfl
    case h8c => rfl
    case hdc => rfl
    case hWc => rfl
    have hg := grown_put3 (b := B1) (v0 := .slice none 0 0) (v1 := .slice none 0 0) (v2 := .slice none 0 0) (World.grownBy.refl w3 (some B1))
    refine ⟨rfl, ?_⟩
    exact below_grown (HXW.out _ HBx.out) hg (by have := HSz.out; omega) (HXW.out _ HBx.out).size
theorem f20_results : Try.f20.results = #[.cell 10 29, .tmp 11, .tmp 12] := rfl
theorem f19_results : Try.f19.results = #[.cell 10 29, .tmp 11, .tmp 12] := rfl
/-- No spots. -/
abbrev noSpots : SpotV := ⟨none, 0, [], none, 0, [], none, 0, []⟩
theorem SpotNew.none (base : Nat) (S : SpotV) (W : World) : SpotNew base S noSpots W :=
  ⟨.inr (World.ownsRow_nil _ _ _ _), .inr (World.ownsRow_nil _ _ _ _), .inr (World.ownsRow_nil _ _ _ _), fun _ h => (by cases h), fun _ h => (by cases h), fun _ h => (by cases h)⟩
/-- What Better tells: why not, whether it changed, the spots. -/
def errB (a : ArchV) (P : PackV) (S : SpotV) (m k : Int) : Int := if checkE a P S = 0 then (if twoB a m k = true then 0 else 1) else checkE a P S
def okB (a : ArchV) (P : PackV) (S : SpotV) (m k : Int) : Bool := if errB a P S m k = 0 then betterB a P.data S.data m k else false
def outD (a : ArchV) (P : PackV) (S : SpotV) (m k : Int) : SpotD := if errB a P S m k = 0 then betterD a P.data S.data m k else ⟨[], [], []⟩
theorem errB_ok {a : ArchV} {P : PackV} {S : SpotV} {m k : Int} : errB a P S m k = 0 ↔ checkE a P S = 0 ∧ TwoOk a m k := by
  unfold errB
  constructor
  · intro h
    split at h
    · rename_i h1
      split at h
      · rename_i h2; exact ⟨h1, twoB_iff.1 h2⟩
      · cases h
    · rename_i h1; exact absurd h h1
  · rintro ⟨h1, h2⟩
    rw [if_pos h1, if_pos (twoB_iff.2 h2)]
def BetterOut (a : ArchV) (P : PackV) (S : SpotV) (m k : Int) (w : World) (e : Ending) (w' : World) : Prop :=
  ∃ R : SpotV, e = .returned (.tuple #[R.val, .bool (okB a P S m k), .int .i64 (errB a P S m k)]) ∧ R.data = outD a P S m k ∧ SpotNew w.heap.size S R w' ∧ Below w.heap.size w w'
theorem out_no {a : ArchV} {P : PackV} {S : SpotV} {m k : Int} {w w' : World} {F : Int} (h : errB a P S m k = F) (hF : ¬ F = 0) (hb : Below w.heap.size w w') : BetterOut a P S m k w (.returned (.tuple #[zeroSpots, .bool false, .int .i64 F])) w' := by
  refine ⟨noSpots, ?_, ?_, SpotNew.none _ _ _, hb⟩
  · unfold okB; rw [h, if_neg hF]; rfl
  · unfold outD; rw [h, if_neg hF]
theorem out_yes {a : ArchV} {P : PackV} {S R : SpotV} {m k : Int} {w w' : World} (h : errB a P S m k = 0) (hd : R.data = betterD a P.data S.data m k) (hn : SpotNew w.heap.size S R w') (hb : Below w.heap.size w w') : BetterOut a P S m k w (.returned (.tuple #[R.val, .bool (betterB a P.data S.data m k), .int .i64 0])) w' := by
  refine ⟨R, ?_, ?_, hn, hb⟩
  · unfold okB; rw [h, if_pos rfl]
  · unfold outD; rw [h, if_pos rfl]; exact hd
set_option maxRecDepth 100000 in
set_option maxHeartbeats 8000000 in
theorem better20 (w : World) (a : ArchV) (P : PackV) (S : SpotV) (hP : PackAt w P) (hf : FewP P) (hS : SpotAt w S) (hs : FewS S) (m k : Int) (hm9 : I64 m) (hk9 : I64 k) :
    Calls Try.prog 20 #[a.val, P.val, S.val, .int .i64 m, .int .i64 k] w fun e w' => BetterOut a P S m k w e w' := by
  have HC : Hid (∀ W, Below w.heap.size w W → Calls Try.prog 16 #[a.val, P.val, S.val] W fun e w' => e = .returned (.int .i64 (checkE a P S)) ∧ Below W.heap.size W w') := Lib.hid fun W hW => check16 W a P S (hP.below hW (Nat.le_refl _)) hf (hS.below hW (Nat.le_refl _)) hs
  have HB0 : Hid (checkE a P S = 0 → TwoOk a m k → ∀ W, Below w.heap.size w W → Calls Try.prog 42 #[a.val, P.val, S.val, .int .i64 m, .int .i64 k] W fun e w' => ∃ R : SpotV, e = .returned (.tuple #[R.val, .bool (betterB a P.data S.data m k), .int .i64 0]) ∧ R.data = betterD a P.data S.data m k ∧ SpotNew W.heap.size S R w' ∧ Below W.heap.size W w') := Lib.hid fun h htw W hW => by
    obtain ⟨hb, hr⟩ := checkE_ok.1 h
    obtain ⟨k1, k2, k3⟩ := right_few hf hr
    exact better42 W a P S (hP.below hW (Nat.le_refl _)) (hS.below hW (Nat.le_refl _)) hr k1 k2 k3 m k htw
  have HOn0 : Hid (∀ {F : Int} {w'}, errB a P S m k = F → ¬ F = 0 → Below w.heap.size w w' → BetterOut a P S m k w (.returned (.tuple #[zeroSpots, .bool false, .int .i64 F])) w') := Lib.hid fun h1 h2 h3 => out_no h1 h2 h3
  have HOy0 : Hid (∀ {R : SpotV} {w'}, errB a P S m k = 0 → R.data = betterD a P.data S.data m k → SpotNew w.heap.size S R w' → Below w.heap.size w w' → BetterOut a P S m k w (.returned (.tuple #[R.val, .bool (betterB a P.data S.data m k), .int .i64 0])) w') := Lib.hid fun h1 h2 h3 h4 => out_yes h1 h2 h3 h4
  have HE0 : Hid (checkE a P S = 0 → TwoOk a m k → errB a P S m k = 0) := Lib.hid fun h1 h2 => errB_ok.2 ⟨h1, h2⟩
  have HE1 : Hid (checkE a P S = 0 → twoB a m k = false → errB a P S m k = 1) := Lib.hid fun h1 h2 => by unfold errB; rw [if_pos h1, h2]; rfl
  have HE2 : Hid (¬ checkE a P S = 0 → errB a P S m k = checkE a P S) := Lib.hid fun h1 => by unfold errB; rw [if_neg h1]
  have HA : Hid (checkE a P S = 0 → (1 ≤ a.w ∧ a.w ≤ 16) ∧ 1 ≤ a.h ∧ a.h ≤ 16) := Lib.hid fun h => by
    have := (checkE_ok.1 h).2.p
    exact ⟨this.w, this.h⟩
  have HTw : Hid (twoB a m k = true → TwoOk a m k) := Lib.hid twoB_iff.1
  have HN : Hid (checkE a P S = 0 → twoB a m k = false → ∀ W, Calls Try.prog 42 #[a.val, P.val, S.val, .int .i64 m, .int .i64 k] W fun e w' => e = .returned (.tuple #[zeroSpots, .bool false, .int .i64 1]) ∧ Below W.heap.size W w') := Lib.hid fun h h2 W => by
    obtain ⟨q1, q2⟩ := HA.out h
    exact better42_no W a P S q1 q2 m k hm9 hk9 h2
  have hAr := HA.out
  obtain ⟨G, hG⟩ : ∃ G, G = fun e w' => BetterOut a P S m k w e w' := ⟨_, rfl⟩
  obtain ⟨F, hF⟩ : ∃ F, F = checkE a P S := ⟨_, rfl⟩
  obtain ⟨er, her⟩ : ∃ F, F = errB a P S m k := ⟨_, rfl⟩
  obtain ⟨tw, htw⟩ : ∃ F, F = twoB a m k := ⟨_, rfl⟩
  obtain ⟨bb, hbb⟩ : ∃ F, F = betterB a P.data S.data m k := ⟨_, rfl⟩
  obtain ⟨bd, hbd⟩ : ∃ F, F = betterD a P.data S.data m k := ⟨_, rfl⟩
  have HOn : Hid (∀ {F : Int} {w'}, er = F → ¬ F = 0 → Below w.heap.size w w' → G (.returned (.tuple #[zeroSpots, .bool false, .int .i64 F])) w') := Lib.hid (by rw [hG, her]; exact HOn0.out)
  have HOy : Hid (∀ {R : SpotV} {w'}, er = 0 → R.data = bd → SpotNew w.heap.size S R w' → Below w.heap.size w w' → G (.returned (.tuple #[R.val, .bool bb, .int .i64 0])) w') := Lib.hid (by rw [hG, her, hbb, hbd]; exact HOy0.out)
  rw [← hG]
  rw [← hF] at HC HB0 HE0 HE1 HE2 hAr HN
  rw [← her] at HE0 HE1 HE2
  rw [← htw] at HE1 HTw HN
  rw [← hbb, ← hbd] at HB0
  have HAr := Lib.hid hAr
  clear HOn0 HOy0 hF her htw hbb hbd hP hf hS hs hG hAr HA hm9 hk9
  obtain ⟨aw, ah, at_⟩ := a
  obtain ⟨pi, pa, pc, pb, qa, qc, qb⟩ := P
  obtain ⟨ba, bc, bs, ia, ic, is, oa, oc, os⟩ := S
  unfold ArchV.val PackV.val SpotV.val at HC HN
  (try unfold planVal at HB0)
  (try unfold ArchV.val PackV.val SpotV.val at HB0)
  unfold ArchV.val PackV.val SpotV.val
  dsimp only at HC HB0 HAr HN ⊢
  obtain ⟨m1, hm1⟩ : ∃ n, n = pb.length := ⟨_, rfl⟩
  obtain ⟨m3, hm3⟩ : ∃ n, n = qb.length := ⟨_, rfl⟩
  obtain ⟨n1, hn1⟩ : ∃ n, n = bs.length := ⟨_, rfl⟩
  obtain ⟨n2, hn2⟩ : ∃ n, n = is.length := ⟨_, rfl⟩
  obtain ⟨n3, hn3⟩ : ∃ n, n = os.length := ⟨_, rfl⟩
  rw [← hm1, ← hm3, ← hn1, ← hn2, ← hn3] at HC HB0 HN ⊢
  clear hm1 hm3 hn1 hn2 hn3
  obtain ⟨H, hH⟩ : ∃ h, h = w.heap.size := ⟨_, rfl⟩
  obtain ⟨w1, hw1⟩ : ∃ W, W = (((w.alloc (.cells #[.int .i64 aw, .int .i64 ah, .int .i64 at_] 23)).alloc (.cells #[.int .i64 pi, .slice pa m1 pc, .slice qa m3 qc] 27)).alloc (.cells #[.slice ba n1 bc, .slice ia n2 ic, .slice oa n3 oc] 29)).alloc (.cells #[.slice none 0 0, .slice none 0 0, .slice none 0 0] 29) := ⟨_, rfl⟩
  have hX1 : Below w.heap.size w w1 := by rw [hw1]; exact ((((Below.refl _ _).alloc (Nat.le_refl _) _).alloc (by simp) _).alloc (by simp <;> omega) _).alloc (by simp <;> omega) _
  have hs1 : w1.heap.size = H + 4 := by rw [hw1, hH]; simp
  obtain ⟨H1, hH1⟩ : ∃ x, x = H + 1 := ⟨_, rfl⟩
  obtain ⟨H2, hH2⟩ : ∃ x, x = H1 + 1 := ⟨_, rfl⟩
  obtain ⟨B1, hB1⟩ : ∃ x, x = H2 + 1 := ⟨_, rfl⟩
  have hrw0 : w1.rowIs (H) 23 3 (fun i => ([.int .i64 aw, .int .i64 ah, .int .i64 at_] : List Value).getD i undef) := by
    rw [hw1, hH]
    exact (((rowL_alloc w 23 [.int .i64 aw, .int .i64 ah, .int .i64 at_]).alloc _).alloc _).alloc _
  have hrw1 : w1.rowIs (H1) 27 3 (fun i => ([.int .i64 pi, .slice pa m1 pc, .slice qa m3 qc] : List Value).getD i undef) := by
    have h := ((rowL_alloc (w.alloc (.cells #[.int .i64 aw, .int .i64 ah, .int .i64 at_] 23)) 27 [.int .i64 pi, .slice pa m1 pc, .slice qa m3 qc]).alloc (.cells #[.slice ba n1 bc, .slice ia n2 ic, .slice oa n3 oc] 29)).alloc (.cells #[.slice none 0 0, .slice none 0 0, .slice none 0 0] 29)
    rw [hw1]
    have hsz : (w.alloc (.cells #[.int .i64 aw, .int .i64 ah, .int .i64 at_] 23)).heap.size = H1 := by rw [hH1, hH]; simp
    rw [hsz] at h
    exact h
  have hrw2 : w1.rowIs (H2) 29 3 (fun i => ([.slice ba n1 bc, .slice ia n2 ic, .slice oa n3 oc] : List Value).getD i undef) := by
    have h := (rowL_alloc ((w.alloc (.cells #[.int .i64 aw, .int .i64 ah, .int .i64 at_] 23)).alloc (.cells #[.int .i64 pi, .slice pa m1 pc, .slice qa m3 qc] 27)) 29 [.slice ba n1 bc, .slice ia n2 ic, .slice oa n3 oc]).alloc (.cells #[.slice none 0 0, .slice none 0 0, .slice none 0 0] 29)
    rw [hw1]
    have hsz : ((w.alloc (.cells #[.int .i64 aw, .int .i64 ah, .int .i64 at_] 23)).alloc (.cells #[.int .i64 pi, .slice pa m1 pc, .slice qa m3 qc] 27)).heap.size = H2 := by rw [hH2, hH1, hH]; simp
    rw [hsz] at h
    exact h
  have hrw3 : w1.rowIs (B1) 29 3 (fun i => ([.slice none 0 0, .slice none 0 0, .slice none 0 0] : List Value).getD i undef) := by
    have h := rowL_alloc (((w.alloc (.cells #[.int .i64 aw, .int .i64 ah, .int .i64 at_] 23)).alloc (.cells #[.int .i64 pi, .slice pa m1 pc, .slice qa m3 qc] 27)).alloc (.cells #[.slice ba n1 bc, .slice ia n2 ic, .slice oa n3 oc] 29)) 29 [.slice none 0 0, .slice none 0 0, .slice none 0 0]
    rw [hw1]
    have hsz : (((w.alloc (.cells #[.int .i64 aw, .int .i64 ah, .int .i64 at_] 23)).alloc (.cells #[.int .i64 pi, .slice pa m1 pc, .slice qa m3 qc] 27)).alloc (.cells #[.slice ba n1 bc, .slice ia n2 ic, .slice oa n3 oc] 29)).heap.size = B1 := by rw [hB1, hH2, hH1, hH]; simp
    rw [hsz] at h
    exact h
  have HX1 := Lib.hid hX1
  have HW3r : Hid (∀ W, Below w1.heap.size w1 W → W.rowIs (B1) 29 3 (fun i => ([.slice none 0 0, .slice none 0 0, .slice none 0 0] : List Value).getD i undef)) := Lib.hid fun W hW => hrw3.of_block (hW.block B1 (by omega))
  have HK : Hid (∀ W, Below w1.heap.size w1 W → W.cell? ⟨H, 0, none⟩ = some (.int .i64 aw) ∧ W.cell? ⟨H, 1, none⟩ = some (.int .i64 ah) ∧ W.cell? ⟨H, 2, none⟩ = some (.int .i64 at_) ∧ W.cell? ⟨H1, 0, none⟩ = some (.int .i64 pi) ∧ W.cell? ⟨H1, 1, none⟩ = some (.slice pa m1 pc) ∧ W.cell? ⟨H1, 2, none⟩ = some (.slice qa m3 qc) ∧ W.cell? ⟨H2, 0, none⟩ = some (.slice ba n1 bc) ∧ W.cell? ⟨H2, 1, none⟩ = some (.slice ia n2 ic) ∧ W.cell? ⟨H2, 2, none⟩ = some (.slice oa n3 oc)) := Lib.hid fun W hW => by
    have h0 := hrw0.of_block (hW.block H (by omega))
    have h1 := hrw1.of_block (hW.block H1 (by omega))
    have h2 := hrw2.of_block (hW.block H2 (by omega))
    exact ⟨h0.cell (by omega), h0.cell (by omega), h0.cell (by omega), h1.cell (by omega), h1.cell (by omega), h1.cell (by omega), h2.cell (by omega), h2.cell (by omega), h2.cell (by omega)⟩
  have HSz : Hid (w1.heap.size = H + 4 ∧ B1 = H + 3 ∧ H = w.heap.size) := Lib.hid ⟨hs1, by omega, hH⟩
  have HXW : Hid (∀ W, Below w1.heap.size w1 W → Below w.heap.size w W) := Lib.hid fun W hW => hX1.trans (hW.mono (by omega))
  have HW1 := Lib.hid hw1
  have HHH := Lib.hid hH
  have HHH1 := Lib.hid hH1
  have HHH2 := Lib.hid hH2
  have HBB := Lib.hid hB1
  clear hw1 hX1 hs1 hrw0 hrw1 hrw2 hrw3 hH hH1 hH2 hB1
  go_enter Try.func20, Try.ntmps20
  go_wp2_with fail
  rw [← HW1.out]
  (try rw [← HHH.out])
  rw [← HHH1.out]
  rw [← HHH2.out]
  rw [← HBB.out]
  refine Calls.mono (HC.out w1 HX1.out) ?_
  rintro e w2 ⟨rfl, hb2⟩
  have HBx := Lib.hid hb2
  clear hb2
  obtain ⟨a0, a1, a2, p0, p1, p2, s0, s1, s2⟩ := HK.out w2 HBx.out
  by_cases hF : F = 0
  · cases tw with
    | false =>
      have HN1 := Lib.hid (HN.out hF rfl)
      have HEr := Lib.hid (HE1.out hF rfl)
      subst hF
      go_wp2_with fail
      refine Calls.mono (HN1.out w2) ?_
      rintro e w3 ⟨rfl, hb3⟩
      have HBy : Hid (Below w1.heap.size w1 w3) := Lib.hid (HBx.out.trans (hb3.mono HBx.out.size))
      clear hb3
      have hr9 := HW3r.out w3 HBy.out
      have z0 : w3.cell? ⟨B1, 0, none⟩ = some (.slice none 0 0) := hr9.cell (by omega)
      have f0 := hr9.frozen 0
      have z1 : w3.cell? ⟨B1, 1, none⟩ = some (.slice none 0 0) := hr9.cell (by omega)
      have f1 := hr9.frozen 1
      have z2 : w3.cell? ⟨B1, 2, none⟩ = some (.slice none 0 0) := hr9.cell (by omega)
      have f2 := hr9.frozen 2
      have HR9 := Lib.hid hr9
      clear hr9
      go_wp2_with fail
      (try simp only [Exit.inBlock, Exit.then])
      have key : ∀ (R : Ending → World → Prop) (a : Act) (W' : World), a.tmps[10]?.getD undef = .pointer (some ⟨B1, 0, none⟩) → a.tmps[11]?.getD undef = .bool false → a.tmps[12]?.getD undef = .int .i64 1 → a.defers = [] → W' = (((w3.setCell ⟨B1, 0, none⟩ (.slice none 0 0)).setCell ⟨B1, 1, none⟩ (.slice none 0 0)).setCell ⟨B1, 2, none⟩ (.slice none 0 0)) → R (.returned (.tuple #[.agg #[.slice none 0 0, .slice none 0 0, .slice none 0 0], .bool false, .int .i64 1])) W' → bodyPost Try.prog Try.f20 R .ret a W' := fun R a W' q1 q2 q3 q4 q5 q6 => @spots_end Try.f20 f20_results R a w3 B1 _ (.slice none 0 0) (.slice none 0 0) (.slice none 0 0) false 1 W' HR9.out q1 q2 q3 q4 q5 q6
      refine key _ _ _ ?h6m20 ?h7m20 ?h8m20 ?hdm20 ?hWm20 ?hRm20
      case h6m20 => rfl
      case h7m20 => rfl
      case h8m20 => rfl
      case hdm20 => rfl
      case hWm20 => rfl
      have hg := grown_put3 (b := B1) (v0 := .slice none 0 0) (v1 := .slice none 0 0) (v2 := .slice none 0 0) (World.grownBy.refl w3 (some B1))
      exact HOn.out HEr.out (by decide) (below_grown (HXW.out _ HBy.out) hg (by have := HSz.out; omega) (HXW.out _ HBy.out).size)
    | true =>
      have HB1 := Lib.hid (HB0.out hF (HTw.out rfl))
      have HEr := Lib.hid (HE0.out hF (HTw.out rfl))
      subst hF
      go_wp2_with fail
      refine Calls.mono (HB1.out w2 (HXW.out _ HBx.out)) ?_
      rintro e w3 ⟨⟨rba, rbc, rbs, ria, ric, ris, roa, roc, ros⟩, rfl, hdat, hnew, hb3⟩
      have HBy : Hid (Below w1.heap.size w1 w3) := Lib.hid (HBx.out.trans (hb3.mono HBx.out.size))
      have HDat := Lib.hid hdat
      have HNew := Lib.hid hnew
      have HSz2 : Hid (w1.heap.size ≤ w2.heap.size) := Lib.hid HBx.out.size
      clear hb3 hdat hnew
      dsimp only
      have hr9 := HW3r.out w3 HBy.out
      have z0 : w3.cell? ⟨B1, 0, none⟩ = some (.slice none 0 0) := hr9.cell (by omega)
      have f0 := hr9.frozen 0
      have z1 : w3.cell? ⟨B1, 1, none⟩ = some (.slice none 0 0) := hr9.cell (by omega)
      have f1 := hr9.frozen 1
      have z2 : w3.cell? ⟨B1, 2, none⟩ = some (.slice none 0 0) := hr9.cell (by omega)
      have f2 := hr9.frozen 2
      have HR9 := Lib.hid hr9
      clear hr9
      go_wp2_with fail
      (try simp only [Exit.inBlock, Exit.then])
      have key : ∀ (R : Ending → World → Prop) (a : Act) (W' : World), a.tmps[10]?.getD undef = .pointer (some ⟨B1, 0, none⟩) → a.tmps[11]?.getD undef = .bool bb → a.tmps[12]?.getD undef = .int .i64 0 → a.defers = [] → W' = (((w3.setCell ⟨B1, 0, none⟩ (.slice rba rbs.length rbc)).setCell ⟨B1, 1, none⟩ (.slice ria ris.length ric)).setCell ⟨B1, 2, none⟩ (.slice roa ros.length roc)) → R (.returned (.tuple #[.agg #[.slice rba rbs.length rbc, .slice ria ris.length ric, .slice roa ros.length roc], .bool bb, .int .i64 0])) W' → bodyPost Try.prog Try.f20 R .ret a W' := fun R a W' q1 q2 q3 q4 q5 q6 => @spots_end Try.f20 f20_results R a w3 B1 _ (.slice rba rbs.length rbc) (.slice ria ris.length ric) (.slice roa ros.length roc) bb 0 W' HR9.out q1 q2 q3 q4 q5 q6
      refine key _ _ _ ?h6y20 ?h7y20 ?h8y20 ?hdy20 ?hWy20 ?hRy20
      case h6y20 => rfl
      case h7y20 => rfl
      case h8y20 => rfl
      case hdy20 => rfl
      case hWy20 => rfl
      have hg := grown_put3 (b := B1) (v0 := .slice rba rbs.length rbc) (v1 := .slice ria ris.length ric) (v2 := .slice roa ros.length roc) (World.grownBy.refl w3 (some B1))
      exact HOy.out (R := ⟨rba, rbc, rbs, ria, ric, ris, roa, roc, ros⟩) HEr.out HDat.out ((HNew.out.grown hg (by have := HSz.out; have := HSz2.out; omega)).weak (by have := HSz.out; have := HSz2.out; omega)) (below_grown (HXW.out _ HBy.out) hg (by have := HSz.out; omega) (HXW.out _ HBy.out).size)
  · have hFb : (F == 0) = false := by simpa using hF
    have hFb2 : (F != 0) = true := by simpa using hF
    have HEr := Lib.hid (HE2.out hF)
    have HF0 := Lib.hid hF
    clear hF
    have hr9 := HW3r.out w2 HBx.out
    have z0 : w2.cell? ⟨B1, 0, none⟩ = some (.slice none 0 0) := hr9.cell (by omega)
    have f0 := hr9.frozen 0
    have z1 : w2.cell? ⟨B1, 1, none⟩ = some (.slice none 0 0) := hr9.cell (by omega)
    have f1 := hr9.frozen 1
    have z2 : w2.cell? ⟨B1, 2, none⟩ = some (.slice none 0 0) := hr9.cell (by omega)
    have f2 := hr9.frozen 2
    have HR9 := Lib.hid hr9
    clear hr9
    go_wp2_with fail
    (try simp only [Exit.inBlock, Exit.then])
    have key : ∀ (R : Ending → World → Prop) (a : Act) (W' : World), a.tmps[10]?.getD undef = .pointer (some ⟨B1, 0, none⟩) → a.tmps[11]?.getD undef = .bool false → a.tmps[12]?.getD undef = .int .i64 F → a.defers = [] → W' = (((w2.setCell ⟨B1, 0, none⟩ (.slice none 0 0)).setCell ⟨B1, 1, none⟩ (.slice none 0 0)).setCell ⟨B1, 2, none⟩ (.slice none 0 0)) → R (.returned (.tuple #[.agg #[.slice none 0 0, .slice none 0 0, .slice none 0 0], .bool false, .int .i64 F])) W' → bodyPost Try.prog Try.f20 R .ret a W' := fun R a W' q1 q2 q3 q4 q5 q6 => @spots_end Try.f20 f20_results R a w2 B1 _ (.slice none 0 0) (.slice none 0 0) (.slice none 0 0) false F W' HR9.out q1 q2 q3 q4 q5 q6
    refine key _ _ _ ?h6n20 ?h7n20 ?h8n20 ?hdn20 ?hWn20 ?hRn20
    case h6n20 => rfl
    case h7n20 => rfl
    case h8n20 => rfl
    case hdn20 => rfl
    case hWn20 => rfl
    have hg := grown_put3 (b := B1) (v0 := .slice none 0 0) (v1 := .slice none 0 0) (v2 := .slice none 0 0) (World.grownBy.refl w2 (some B1))
    exact HOn.out HEr.out HF0.out (below_grown (HXW.out _ HBx.out) hg (by have := HSz.out; omega) (HXW.out _ HBx.out).size)
end Go.Proofs.Ytholafodachjnaa
