/- Better, as the program does. -/
import Derived.Deep.CutRange
import Derived.Test.YtholafodachjnaaZ27
namespace Go.Proofs.Ytholafodachjnaa
open Go.RowKit Go.Shelf
set_option linter.unusedVariables false
set_option linter.unusedSimpArgs false

set_option maxRecDepth 100000 in
set_option maxHeartbeats 8000000 in
theorem better19 (w : World) (a : ArchV) (P : PackV) (S : SpotV) (hP : PackAt w P) (hf : FewP P) (hS : SpotAt w S) (hs : FewS S) (m k : Int) (hm9 : I64 m) (hk9 : I64 k) :
    Calls Try.prog 19 #[a.val, P.val, S.val, .int .i64 m, .int .i64 k] w fun e w' => BetterOut a P S m k w e w' := by
  have HC : Hid (∀ W, Below w.heap.size w W → Calls Try.prog 15 #[a.val, P.val, S.val] W fun e w' => e = .returned (.int .i64 (checkE a P S)) ∧ Below W.heap.size W w') := Lib.hid fun W hW => check15 W a P S (hP.below hW (Nat.le_refl _)) hf (hS.below hW (Nat.le_refl _)) hs
  have HB0 : Hid (checkE a P S = 0 → TwoOk a m k → ∀ W, Below w.heap.size w W → Calls Try.prog 41 #[planVal a P S, .int .i64 m, .int .i64 k] W fun e w' => ∃ R : SpotV, e = .returned (.tuple #[planVal a P R, .bool (betterB a P.data S.data m k)]) ∧ R.data = betterD a P.data S.data m k ∧ SpotNew W.heap.size S R w' ∧ Below W.heap.size W w') := Lib.hid fun h htw W hW => by
    obtain ⟨hb, hr⟩ := checkE_ok.1 h
    obtain ⟨k1, k2, k3⟩ := right_few hf hr
    exact better41 W a P S (hP.below hW (Nat.le_refl _)) (hS.below hW (Nat.le_refl _)) hr k1 k2 k3 m k htw
  have HOn0 : Hid (∀ {F : Int} {w'}, errB a P S m k = F → ¬ F = 0 → Below w.heap.size w w' → BetterOut a P S m k w (.returned (.tuple #[zeroSpots, .bool false, .int .i64 F])) w') := Lib.hid fun h1 h2 h3 => out_no h1 h2 h3
  have HOy0 : Hid (∀ {R : SpotV} {w'}, errB a P S m k = 0 → R.data = betterD a P.data S.data m k → SpotNew w.heap.size S R w' → Below w.heap.size w w' → BetterOut a P S m k w (.returned (.tuple #[R.val, .bool (betterB a P.data S.data m k), .int .i64 0])) w') := Lib.hid fun h1 h2 h3 h4 => out_yes h1 h2 h3 h4
  have HE0 : Hid (checkE a P S = 0 → TwoOk a m k → errB a P S m k = 0) := Lib.hid fun h1 h2 => errB_ok.2 ⟨h1, h2⟩
  have HE1 : Hid (checkE a P S = 0 → twoB a m k = false → errB a P S m k = 1) := Lib.hid fun h1 h2 => by unfold errB; rw [if_pos h1, h2]; rfl
  have HE2 : Hid (¬ checkE a P S = 0 → errB a P S m k = checkE a P S) := Lib.hid fun h1 => by unfold errB; rw [if_neg h1]
  have HA : Hid (checkE a P S = 0 → (1 ≤ a.w ∧ a.w ≤ 16) ∧ 1 ≤ a.h ∧ a.h ≤ 16) := Lib.hid fun h => by
    have := (checkE_ok.1 h).2.p
    exact ⟨this.w, this.h⟩
  have HTw : Hid (twoB a m k = true → TwoOk a m k) := Lib.hid twoB_iff.1
  have HTw2 : Hid (twoB a m k = false → m < 0 ∨ k < 0 ∨ a.w * a.h + (2 * a.w + 2 * a.h) ≤ m ∨ a.w * a.h + (2 * a.w + 2 * a.h) ≤ k ∨ (m < a.w * a.h ∧ ¬ k < a.w * a.h) ∨ (¬ m < a.w * a.h ∧ k < a.w * a.h)) := Lib.hid fun h => twoB_cases h
  have HTw3 : Hid (twoB a m k = true → (0 ≤ m ∧ m < a.w * a.h + (2 * a.w + 2 * a.h)) ∧ (0 ≤ k ∧ k < a.w * a.h + (2 * a.w + 2 * a.h)) ∧ (m < a.w * a.h ↔ k < a.w * a.h)) := Lib.hid fun h => by
    have := twoB_iff.1 h
    exact ⟨this.mr, this.nr, this.both⟩
  have hAr := HA.out
  obtain ⟨G, hG⟩ : ∃ G, G = fun e w' => BetterOut a P S m k w e w' := ⟨_, rfl⟩
  obtain ⟨F, hF⟩ : ∃ F, F = checkE a P S := ⟨_, rfl⟩
  obtain ⟨er, her⟩ : ∃ F, F = errB a P S m k := ⟨_, rfl⟩
  obtain ⟨tw, htw⟩ : ∃ F, F = twoB a m k := ⟨_, rfl⟩
  obtain ⟨bb, hbb⟩ : ∃ F, F = betterB a P.data S.data m k := ⟨_, rfl⟩
  obtain ⟨bd, hbd⟩ : ∃ F, F = betterD a P.data S.data m k := ⟨_, rfl⟩
  have HOn : Hid (∀ {F : Int} {w'}, er = F → ¬ F = 0 → Below w.heap.size w w' → G (.returned (.tuple #[zeroSpots, .bool false, .int .i64 F])) w') := Lib.hid (by rw [hG, her]; exact HOn0.out)
  have HOy : Hid (∀ {R : SpotV} {w'}, er = 0 → R.data = bd → SpotNew w.heap.size S R w' → Below w.heap.size w w' → G (.returned (.tuple #[R.val, .bool bb, .int .i64 0])) w') := Lib.hid (by rw [hG, her, hbb, hbd]; exact HOy0.out)
  rw [← hG]
  rw [← hF] at HC HB0 HE0 HE1 HE2 hAr
  rw [← her] at HE0 HE1 HE2
  rw [← htw] at HE1 HTw HTw2 HTw3
  rw [← hbb, ← hbd] at HB0
  have HAr := Lib.hid hAr
  clear HOn0 HOy0 hF her htw hbb hbd hP hf hS hs hG hAr HA hm9 hk9
  obtain ⟨aw, ah, at_⟩ := a
  obtain ⟨pi, pa, pc, pb, qa, qc, qb⟩ := P
  obtain ⟨ba, bc, bs, ia, ic, is, oa, oc, os⟩ := S
  unfold ArchV.val PackV.val SpotV.val at HC
  (try unfold planVal at HB0)
  (try unfold ArchV.val PackV.val SpotV.val at HB0)
  unfold ArchV.val PackV.val SpotV.val
  dsimp only at HC HB0 HAr HTw2 HTw3 ⊢
  obtain ⟨m1, hm1⟩ : ∃ n, n = pb.length := ⟨_, rfl⟩
  obtain ⟨m3, hm3⟩ : ∃ n, n = qb.length := ⟨_, rfl⟩
  obtain ⟨n1, hn1⟩ : ∃ n, n = bs.length := ⟨_, rfl⟩
  obtain ⟨n2, hn2⟩ : ∃ n, n = is.length := ⟨_, rfl⟩
  obtain ⟨n3, hn3⟩ : ∃ n, n = os.length := ⟨_, rfl⟩
  rw [← hm1, ← hm3, ← hn1, ← hn2, ← hn3] at HC HB0 ⊢
  clear hm1 hm3 hn1 hn2 hn3
  obtain ⟨H, hH⟩ : ∃ h, h = w.heap.size := ⟨_, rfl⟩
  obtain ⟨w1, hw1⟩ : ∃ W, W = (((w.alloc (.cells #[.int .i64 aw, .int .i64 ah, .int .i64 at_] 23)).alloc (.cells #[.int .i64 pi, .slice pa m1 pc, .slice qa m3 qc] 27)).alloc (.cells #[.slice ba n1 bc, .slice ia n2 ic, .slice oa n3 oc] 29)).alloc (.cells #[.slice none 0 0, .slice none 0 0, .slice none 0 0] 29) := ⟨_, rfl⟩
  have hX1 : Below w.heap.size w w1 := by rw [hw1]; exact ((((Below.refl _ _).alloc (Nat.le_refl _) _).alloc (by simp) _).alloc (by simp <;> omega) _).alloc (by simp <;> omega) _
  have hs1 : w1.heap.size = H + 4 := by rw [hw1, hH]; simp
  obtain ⟨H1, hH1⟩ : ∃ x, x = H + 1 := ⟨_, rfl⟩
  obtain ⟨H2, hH2⟩ : ∃ x, x = H1 + 1 := ⟨_, rfl⟩
  obtain ⟨B1, hB1⟩ : ∃ x, x = H2 + 1 := ⟨_, rfl⟩
  have hrw0 : w1.rowIs (H) 23 3 (fun i => ([.int .i64 aw, .int .i64 ah, .int .i64 at_] : List Value).getD i undef) := by
    rw [hw1, hH]
    exact (((rowL_alloc w 23 [.int .i64 aw, .int .i64 ah, .int .i64 at_]).alloc _).alloc _).alloc _
  have hrw1 : w1.rowIs (H1) 27 3 (fun i => ([.int .i64 pi, .slice pa m1 pc, .slice qa m3 qc] : List Value).getD i undef) := by
    have h := ((rowL_alloc (w.alloc (.cells #[.int .i64 aw, .int .i64 ah, .int .i64 at_] 23)) 27 [.int .i64 pi, .slice pa m1 pc, .slice qa m3 qc]).alloc (.cells #[.slice ba n1 bc, .slice ia n2 ic, .slice oa n3 oc] 29)).alloc (.cells #[.slice none 0 0, .slice none 0 0, .slice none 0 0] 29)
    rw [hw1]
    have hsz : (w.alloc (.cells #[.int .i64 aw, .int .i64 ah, .int .i64 at_] 23)).heap.size = H1 := by rw [hH1, hH]; simp
    rw [hsz] at h
    exact h
  have hrw2 : w1.rowIs (H2) 29 3 (fun i => ([.slice ba n1 bc, .slice ia n2 ic, .slice oa n3 oc] : List Value).getD i undef) := by
    have h := (rowL_alloc ((w.alloc (.cells #[.int .i64 aw, .int .i64 ah, .int .i64 at_] 23)).alloc (.cells #[.int .i64 pi, .slice pa m1 pc, .slice qa m3 qc] 27)) 29 [.slice ba n1 bc, .slice ia n2 ic, .slice oa n3 oc]).alloc (.cells #[.slice none 0 0, .slice none 0 0, .slice none 0 0] 29)
    rw [hw1]
    have hsz : ((w.alloc (.cells #[.int .i64 aw, .int .i64 ah, .int .i64 at_] 23)).alloc (.cells #[.int .i64 pi, .slice pa m1 pc, .slice qa m3 qc] 27)).heap.size = H2 := by rw [hH2, hH1, hH]; simp
    rw [hsz] at h
    exact h
  have hrw3 : w1.rowIs (B1) 29 3 (fun i => ([.slice none 0 0, .slice none 0 0, .slice none 0 0] : List Value).getD i undef) := by
    have h := rowL_alloc (((w.alloc (.cells #[.int .i64 aw, .int .i64 ah, .int .i64 at_] 23)).alloc (.cells #[.int .i64 pi, .slice pa m1 pc, .slice qa m3 qc] 27)).alloc (.cells #[.slice ba n1 bc, .slice ia n2 ic, .slice oa n3 oc] 29)) 29 [.slice none 0 0, .slice none 0 0, .slice none 0 0]
    rw [hw1]
    have hsz : (((w.alloc (.cells #[.int .i64 aw, .int .i64 ah, .int .i64 at_] 23)).alloc (.cells #[.int .i64 pi, .slice pa m1 pc, .slice qa m3 qc] 27)).alloc (.cells #[.slice ba n1 bc, .slice ia n2 ic, .slice oa n3 oc] 29)).heap.size = B1 := by rw [hB1, hH2, hH1, hH]; simp
    rw [hsz] at h
    exact h
  have HX1 := Lib.hid hX1
  have HW3r : Hid (∀ W, Below w1.heap.size w1 W → W.rowIs (B1) 29 3 (fun i => ([.slice none 0 0, .slice none 0 0, .slice none 0 0] : List Value).getD i undef)) := Lib.hid fun W hW => hrw3.of_block (hW.block B1 (by omega))
  have HK : Hid (∀ W, Below w1.heap.size w1 W → W.cell? ⟨H, 0, none⟩ = some (.int .i64 aw) ∧ W.cell? ⟨H, 1, none⟩ = some (.int .i64 ah) ∧ W.cell? ⟨H, 2, none⟩ = some (.int .i64 at_) ∧ W.cell? ⟨H1, 0, none⟩ = some (.int .i64 pi) ∧ W.cell? ⟨H1, 1, none⟩ = some (.slice pa m1 pc) ∧ W.cell? ⟨H1, 2, none⟩ = some (.slice qa m3 qc) ∧ W.cell? ⟨H2, 0, none⟩ = some (.slice ba n1 bc) ∧ W.cell? ⟨H2, 1, none⟩ = some (.slice ia n2 ic) ∧ W.cell? ⟨H2, 2, none⟩ = some (.slice oa n3 oc)) := Lib.hid fun W hW => by
    have h0 := hrw0.of_block (hW.block H (by omega))
    have h1 := hrw1.of_block (hW.block H1 (by omega))
    have h2 := hrw2.of_block (hW.block H2 (by omega))
    exact ⟨h0.cell (by omega), h0.cell (by omega), h0.cell (by omega), h1.cell (by omega), h1.cell (by omega), h1.cell (by omega), h2.cell (by omega), h2.cell (by omega), h2.cell (by omega)⟩
  have HSz : Hid (w1.heap.size = H + 4 ∧ B1 = H + 3 ∧ H = w.heap.size) := Lib.hid ⟨hs1, by omega, hH⟩
  have HXW : Hid (∀ W, Below w1.heap.size w1 W → Below w.heap.size w W) := Lib.hid fun W hW => hX1.trans (hW.mono (by omega))
  have HW1 := Lib.hid hw1
  have HHH := Lib.hid hH
  have HHH1 := Lib.hid hH1
  have HHH2 := Lib.hid hH2
  have HBB := Lib.hid hB1
  clear hw1 hX1 hs1 hrw0 hrw1 hrw2 hrw3 hH hH1 hH2 hB1
  go_enter Try.func19, Try.ntmps19
  go_wp2_with fail
  rw [← HW1.out]
  (try rw [← HHH.out])
  rw [← HHH1.out]
  rw [← HHH2.out]
  rw [← HBB.out]
  refine Calls.mono (HC.out w1 HX1.out) ?_
  rintro e w2 ⟨rfl, hb2⟩
  have HBx := Lib.hid hb2
  clear hb2
  obtain ⟨a0, a1, a2, p0, p1, p2, s0, s1, s2⟩ := HK.out w2 HBx.out
  by_cases hF : F = 0
  · cases tw with
    | false =>
      have HEr := Lib.hid (HE1.out hF rfl)
      have HB1x : Hid ((1 ≤ aw ∧ aw ≤ 16) ∧ 1 ≤ ah ∧ ah ≤ 16) := Lib.hid (HAr.out hF)
      obtain ⟨t, ht⟩ : ∃ t, t = aw * ah := ⟨_, rfl⟩
      have htl : 0 ≤ t ∧ t ≤ 256 := by
        have hw := HB1x.out.1
        have hh := HB1x.out.2
        have h256 : aw * ah ≤ 16 * 16 := Int.mul_le_mul hw.2 hh.2 (by omega) (by omega)
        have h0 : 0 ≤ aw * ah := Int.mul_nonneg (by omega) (by omega)
        omega
      rw [← ht] at HTw2 HTw3
      have F0 : wrap64 (aw * ah) = t := by rw [← ht]; exact wrap64s (by omega) (by omega)
      obtain ⟨pd, hpd⟩ : ∃ t, t = 2 * aw + 2 * ah := ⟨_, rfl⟩
      rw [← hpd] at HTw2 HTw3
      have hpl : 0 ≤ pd ∧ pd ≤ 64 := by have := HB1x.out; omega
      have F1 : wrap64 (aw + ah) = aw + ah := by have := HB1x.out; exact wrap64s (by omega) (by omega)
      have F2 : wrap64 (2 * (aw + ah)) = pd := by have := HB1x.out; rw [wrap64s (by omega) (by omega)]; omega
      have F3 : wrap64 (t + pd) = t + pd := wrap64s (by omega) (by omega)
      clear ht hpd
      obtain ⟨mn, hmn⟩ : ∃ x, min m k = x := ⟨_, rfl⟩
      obtain ⟨mx, hmx⟩ : ∃ x, max m k = x := ⟨_, rfl⟩
      have HMn : Hid (mn = min m k ∧ mx = max m k) := Lib.hid ⟨hmn.symm, hmx.symm⟩
      have M3 := @run_min2 Try.prog
      have M2 := @run_maxB Try.prog
      have HC5 := Lib.hid (HTw2.out rfl)
      clear HTw2 HTw3 htl hpl HTw HE0 HE1 HE2 HB0
      subst hF
      go_upto_region 5 with fail
      go_cut [56] from 30 to 56 (fun v wx => v = .bool true ∧ wx = w2)
      case first =>
        by_cases h1 : mn < 0
        · have d1 : decide (mn < 0) = true := by simpa using h1
          clear h1
          go_wp2_with fail
          go_meet
          exact ⟨rfl, rfl⟩
        have d1 : decide (mn < 0) = false := by simpa using h1
        by_cases h3 : t + pd ≤ mx
        · have d3 : decide (t + pd ≤ mx) = true := by simpa using h3
          have d3' : decide (mx ≥ t + pd) = true := by simpa using h3
          clear h1 h3
          go_wp2_with fail
          go_meet
          exact ⟨rfl, rfl⟩
        have d3 : decide (t + pd ≤ mx) = false := by simpa using h3
        have d3' : decide (mx ≥ t + pd) = false := by simpa using h3
        by_cases h5 : m < t
        · have h6 : ¬ k < t := by have := HC5.out; have := HMn.out; omega
          have d5 : decide (m < t) = true := by simpa using h5
          have d6 : decide (k < t) = false := by simpa using h6
          clear h1 h3 h5 h6
          go_wp2_with fail
          go_meet
          exact ⟨rfl, rfl⟩
        · have h6 : k < t := by have := HC5.out; have := HMn.out; omega
          have d5 : decide (m < t) = false := by simpa using h5
          have d6 : decide (k < t) = true := by simpa using h6
          clear h1 h3 h5 h6
          go_wp2_with fail
          go_meet
          exact ⟨rfl, rfl⟩
      case rest =>
        obtain ⟨hv56, hwc⟩ := hcut
        subst hv56
        rw [hwc]
        clear hwc a0 a1 a2 p0 p1 p2 s0 s1 s2
        have hr9 := HW3r.out w2 HBx.out
        have z0 : w2.cell? ⟨B1, 0, none⟩ = some (.slice none 0 0) := hr9.cell (by omega)
        have f0 := hr9.frozen 0
        have z1 : w2.cell? ⟨B1, 1, none⟩ = some (.slice none 0 0) := hr9.cell (by omega)
        have f1 := hr9.frozen 1
        have z2 : w2.cell? ⟨B1, 2, none⟩ = some (.slice none 0 0) := hr9.cell (by omega)
        have f2 := hr9.frozen 2
        have HR9 := Lib.hid hr9
        clear hr9
        go_wp2_with fail
        (try simp only [Exit.inBlock, Exit.then])
        have key : ∀ (R : Ending → World → Prop) (a : Act) (W' : World), a.tmps[10]?.getD undef = .pointer (some ⟨B1, 0, none⟩) → a.tmps[11]?.getD undef = .bool false → a.tmps[12]?.getD undef = .int .i64 1 → a.defers = [] → W' = (((w2.setCell ⟨B1, 0, none⟩ (.slice none 0 0)).setCell ⟨B1, 1, none⟩ (.slice none 0 0)).setCell ⟨B1, 2, none⟩ (.slice none 0 0)) → R (.returned (.tuple #[.agg #[.slice none 0 0, .slice none 0 0, .slice none 0 0], .bool false, .int .i64 1])) W' → bodyPost Try.prog Try.f19 R .ret a W' := fun R a W' q1 q2 q3 q4 q5 q6 => @spots_end Try.f19 f19_results R a w2 B1 _ (.slice none 0 0) (.slice none 0 0) (.slice none 0 0) false 1 W' HR9.out q1 q2 q3 q4 q5 q6
        refine key _ _ _ ?h6m19 ?h7m19 ?h8m19 ?hdm19 ?hWm19 ?hRm19
        case h6m19 => rfl
        case h7m19 => rfl
        case h8m19 => rfl
        case hdm19 => rfl
        case hWm19 => rfl
        have hg := grown_put3 (b := B1) (v0 := .slice none 0 0) (v1 := .slice none 0 0) (v2 := .slice none 0 0) (World.grownBy.refl w2 (some B1))
        exact HOn.out HEr.out (by decide) (below_grown (HXW.out _ HBx.out) hg (by have := HSz.out; omega) (HXW.out _ HBx.out).size)
    | true =>
      have HB1 := Lib.hid (HB0.out hF (HTw.out rfl))
      have HEr := Lib.hid (HE0.out hF (HTw.out rfl))
      have HB1x : Hid ((1 ≤ aw ∧ aw ≤ 16) ∧ 1 ≤ ah ∧ ah ≤ 16) := Lib.hid (HAr.out hF)
      obtain ⟨t, ht⟩ : ∃ t, t = aw * ah := ⟨_, rfl⟩
      have htl : 0 ≤ t ∧ t ≤ 256 := by
        have hw := HB1x.out.1
        have hh := HB1x.out.2
        have h256 : aw * ah ≤ 16 * 16 := Int.mul_le_mul hw.2 hh.2 (by omega) (by omega)
        have h0 : 0 ≤ aw * ah := Int.mul_nonneg (by omega) (by omega)
        omega
      rw [← ht] at HTw2 HTw3
      have F0 : wrap64 (aw * ah) = t := by rw [← ht]; exact wrap64s (by omega) (by omega)
      obtain ⟨pd, hpd⟩ : ∃ t, t = 2 * aw + 2 * ah := ⟨_, rfl⟩
      rw [← hpd] at HTw2 HTw3
      have hpl : 0 ≤ pd ∧ pd ≤ 64 := by have := HB1x.out; omega
      have F1 : wrap64 (aw + ah) = aw + ah := by have := HB1x.out; exact wrap64s (by omega) (by omega)
      have F2 : wrap64 (2 * (aw + ah)) = pd := by have := HB1x.out; rw [wrap64s (by omega) (by omega)]; omega
      have F3 : wrap64 (t + pd) = t + pd := wrap64s (by omega) (by omega)
      clear ht hpd
      obtain ⟨mn, hmn⟩ : ∃ x, min m k = x := ⟨_, rfl⟩
      obtain ⟨mx, hmx⟩ : ∃ x, max m k = x := ⟨_, rfl⟩
      have HMn : Hid (mn = min m k ∧ mx = max m k) := Lib.hid ⟨hmn.symm, hmx.symm⟩
      have M3 := @run_min2 Try.prog
      have M2 := @run_maxB Try.prog
      have HC5 := Lib.hid (HTw3.out rfl)
      clear HTw2 HTw3 htl hpl HTw HE0 HE1 HE2 HB0
      subst hF
      go_upto_region 5 with fail
      go_cut [56] from 30 to 56 (fun v wx => v = .bool false ∧ wx = w2)
      case first =>
        have d1 : decide (mn < 0) = false := by have := HC5.out; have := HMn.out; simp; omega
        have d3 : decide (t + pd ≤ mx) = false := by have := HC5.out; have := HMn.out; simp; omega
        have d3' : decide (mx ≥ t + pd) = false := by have := HC5.out; have := HMn.out; simp; omega
        by_cases h5 : m < t
        · have h6 : k < t := by have := HC5.out; omega
          have d5 : decide (m < t) = true := by simpa using h5
          have d6 : decide (k < t) = true := by simpa using h6
          clear h5 h6
          go_wp2_with fail
          go_meet
          exact ⟨rfl, rfl⟩
        · have h6 : ¬ k < t := by have := HC5.out; omega
          have d5 : decide (m < t) = false := by simpa using h5
          have d6 : decide (k < t) = false := by simpa using h6
          clear h5 h6
          go_wp2_with fail
          go_meet
          exact ⟨rfl, rfl⟩
      case rest =>
        obtain ⟨hv56, hwc⟩ := hcut
        subst hv56
        rw [hwc]
        clear hwc
        go_wp2_with fail
        refine Calls.mono (HB1.out w2 (HXW.out _ HBx.out)) ?_
        rintro e w3 ⟨⟨rba, rbc, rbs, ria, ric, ris, roa, roc, ros⟩, rfl, hdat, hnew, hb3⟩
        have HBy0 : Hid (Below w1.heap.size w1 w3) := Lib.hid (HBx.out.trans (hb3.mono HBx.out.size))
        have HDat := Lib.hid hdat
        have HSz2 : Hid (w1.heap.size ≤ w2.heap.size ∧ w2.heap.size ≤ w3.heap.size) := Lib.hid ⟨HBx.out.size, hb3.size⟩
        have HNew0 := Lib.hid hnew
        clear hb3 hdat hnew a0 a1 a2 p0 p1 p2 s0 s1 s2
        dsimp only
        go_upto_region 8 with fail
        obtain ⟨w4, hw4⟩ : ∃ W, W = w3.alloc (.cells #[.int .i64 aw, .int .i64 ah, .int .i64 at_, .int .i64 pi, .slice pa m1 pc, .slice qa m3 qc, .slice rba rbs.length rbc, .slice ria ris.length ric, .slice roa ros.length roc] 53) := ⟨_, rfl⟩
        have hb4 : Below w3.heap.size w3 w4 := by rw [hw4]; exact (Below.refl _ _).alloc (Nat.le_refl _) _
        have HBy : Hid (Below w1.heap.size w1 w4) := Lib.hid (HBy0.out.trans (hb4.mono HBy0.out.size))
        have HNew := Lib.hid (HNew0.out.below hb4)
        obtain ⟨Y, hY⟩ : ∃ y, y = w3.heap.size := ⟨_, rfl⟩
        have hr4 : w4.rowIs Y 53 9 (fun i => ([.int .i64 aw, .int .i64 ah, .int .i64 at_, .int .i64 pi, .slice pa m1 pc, .slice qa m3 qc, .slice rba rbs.length rbc, .slice ria ris.length ric, .slice roa ros.length roc] : List Value).getD i undef) := by rw [hw4, hY]; exact rowL_alloc w3 53 [.int .i64 aw, .int .i64 ah, .int .i64 at_, .int .i64 pi, .slice pa m1 pc, .slice qa m3 qc, .slice rba rbs.length rbc, .slice ria ris.length ric, .slice roa ros.length roc]
        have y6 : w4.cell? ⟨Y, 6, none⟩ = some (.slice rba rbs.length rbc) := hr4.cell (i := 6) (by decide)
        have y7 : w4.cell? ⟨Y, 7, none⟩ = some (.slice ria ris.length ric) := hr4.cell (i := 7) (by decide)
        have y8 : w4.cell? ⟨Y, 8, none⟩ = some (.slice roa ros.length roc) := hr4.cell (i := 8) (by decide)
        rw [← hw4, ← hY]
        clear hr4 hw4 hY hb4
        have hr9 := HW3r.out w4 HBy.out
        have z0 : w4.cell? ⟨B1, 0, none⟩ = some (.slice none 0 0) := hr9.cell (by omega)
        have f0 := hr9.frozen 0
        have z1 : w4.cell? ⟨B1, 1, none⟩ = some (.slice none 0 0) := hr9.cell (by omega)
        have f1 := hr9.frozen 1
        have z2 : w4.cell? ⟨B1, 2, none⟩ = some (.slice none 0 0) := hr9.cell (by omega)
        have f2 := hr9.frozen 2
        have HR9 := Lib.hid hr9
        clear hr9
        go_wp2_with fail
        (try simp only [Exit.inBlock, Exit.then])
        have key : ∀ (R : Ending → World → Prop) (a : Act) (W' : World), a.tmps[10]?.getD undef = .pointer (some ⟨B1, 0, none⟩) → a.tmps[11]?.getD undef = .bool bb → a.tmps[12]?.getD undef = .int .i64 0 → a.defers = [] → W' = (((w4.setCell ⟨B1, 0, none⟩ (.slice rba rbs.length rbc)).setCell ⟨B1, 1, none⟩ (.slice ria ris.length ric)).setCell ⟨B1, 2, none⟩ (.slice roa ros.length roc)) → R (.returned (.tuple #[.agg #[.slice rba rbs.length rbc, .slice ria ris.length ric, .slice roa ros.length roc], .bool bb, .int .i64 0])) W' → bodyPost Try.prog Try.f19 R .ret a W' := fun R a W' q1 q2 q3 q4 q5 q6 => @spots_end Try.f19 f19_results R a w4 B1 _ (.slice rba rbs.length rbc) (.slice ria ris.length ric) (.slice roa ros.length roc) bb 0 W' HR9.out q1 q2 q3 q4 q5 q6
        refine key _ _ _ ?h6y19 ?h7y19 ?h8y19 ?hdy19 ?hWy19 ?hRy19
        case h6y19 => rfl
        case h7y19 => rfl
        case h8y19 => rfl
        case hdy19 => rfl
        case hWy19 => rfl
        have hg := grown_put3 (b := B1) (v0 := .slice rba rbs.length rbc) (v1 := .slice ria ris.length ric) (v2 := .slice roa ros.length roc) (World.grownBy.refl w4 (some B1))
        exact HOy.out (R := ⟨rba, rbc, rbs, ria, ric, ris, roa, roc, ros⟩) HEr.out HDat.out ((HNew.out.grown hg (by have := HSz.out; have := HSz2.out; omega)).weak (by have := HSz.out; have := HSz2.out; omega)) (below_grown (HXW.out _ HBy.out) hg (by have := HSz.out; omega) (HXW.out _ HBy.out).size)
  · have hFb : (F == 0) = false := by simpa using hF
    have hFb2 : (F != 0) = true := by simpa using hF
    have HEr := Lib.hid (HE2.out hF)
    have HF0 := Lib.hid hF
    clear hF
    have hr9 := HW3r.out w2 HBx.out
    have z0 : w2.cell? ⟨B1, 0, none⟩ = some (.slice none 0 0) := hr9.cell (by omega)
    have f0 := hr9.frozen 0
    have z1 : w2.cell? ⟨B1, 1, none⟩ = some (.slice none 0 0) := hr9.cell (by omega)
    have f1 := hr9.frozen 1
    have z2 : w2.cell? ⟨B1, 2, none⟩ = some (.slice none 0 0) := hr9.cell (by omega)
    have f2 := hr9.frozen 2
    have HR9 := Lib.hid hr9
    clear hr9
    go_wp2_with fail
    (try simp only [Exit.inBlock, Exit.then])
    have key : ∀ (R : Ending → World → Prop) (a : Act) (W' : World), a.tmps[10]?.getD undef = .pointer (some ⟨B1, 0, none⟩) → a.tmps[11]?.getD undef = .bool false → a.tmps[12]?.getD undef = .int .i64 F → a.defers = [] → W' = (((w2.setCell ⟨B1, 0, none⟩ (.slice none 0 0)).setCell ⟨B1, 1, none⟩ (.slice none 0 0)).setCell ⟨B1, 2, none⟩ (.slice none 0 0)) → R (.returned (.tuple #[.agg #[.slice none 0 0, .slice none 0 0, .slice none 0 0], .bool false, .int .i64 F])) W' → bodyPost Try.prog Try.f19 R .ret a W' := fun R a W' q1 q2 q3 q4 q5 q6 => @spots_end Try.f19 f19_results R a w2 B1 _ (.slice none 0 0) (.slice none 0 0) (.slice none 0 0) false F W' HR9.out q1 q2 q3 q4 q5 q6
    refine key _ _ _ ?h6n19 ?h7n19 ?h8n19 ?hdn19 ?hWn19 ?hRn19
    case h6n19 => rfl
    case h7n19 => rfl
    case h8n19 => rfl
    case hdn19 => rfl
    case hWn19 => rfl
    have hg := grown_put3 (b := B1) (v0 := .slice none 0 0) (v1 := .slice none 0 0) (v2 := .slice none 0 0) (World.grownBy.refl w2 (some B1))
    exact HOn.out HEr.out HF0.out (below_grown (HXW.out _ HBx.out) hg (by have := HSz.out; omega) (HXW.out _ HBx.out).size)
end Go.Proofs.Ytholafodachjnaa
