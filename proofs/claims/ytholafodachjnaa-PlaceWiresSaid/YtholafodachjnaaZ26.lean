/- Spots in which two places are changed, if that is no worse: as the document tells. -/
import Derived.Deep.CutRange
import Derived.Test.YtholafodachjnaaZ25
namespace Go.Proofs.Ytholafodachjnaa
open Go.RowKit Go.Shelf
set_option linter.unusedVariables false
set_option linter.unusedSimpArgs false

theorem put3_row {W : World} {b : Nat} {f : Nat → Value} {v0 v1 v2 : Value} (h : W.rowIs b 29 3 f) : (((W.setCell ⟨b, 0, none⟩ (v0)).setCell ⟨b, 1, none⟩ (v1)).setCell ⟨b, 2, none⟩ (v2)).rowIs b 29 3 (fun i => ([v0, v1, v2] : List Value).getD i undef) := by
  refine (((h.set 0 v0).set 1 v1).set 2 v2).congr fun i hi => ?_
  match i, hi with
  | 0, _ => rfl
  | 1, _ => rfl
  | 2, _ => rfl
theorem results_spots {fn : Func} (hfn : fn.results = #[.cell 10 29, .tmp 11, .tmp 12]) {tmps : Array Value} {W : World} {b : Nat} {v0 v1 v2 : Value} {ok : Bool} {e : Int} (h6 : tmps[10]?.getD undef = .pointer (some ⟨b, 0, none⟩)) (h7 : tmps[11]?.getD undef = .bool ok) (h8 : tmps[12]?.getD undef = .int .i64 e)
    (hrow : W.rowIs b 29 3 (fun i => ([v0, v1, v2] : List Value).getD i undef)) : (results fn tmps).run Try.prog W = .ok (.tuple #[.agg #[v0, v1, v2], .bool ok, .int .i64 e]) W := by
  have c0 : W.cell? ⟨b, 0, none⟩ = some v0 := hrow.cell (i := 0) (by omega)
  have c1 : W.cell? ⟨b, 1, none⟩ = some v1 := hrow.cell (i := 1) (by omega)
  have c2 : W.cell? ⟨b, 2, none⟩ = some v2 := hrow.cell (i := 2) (by omega)
  simp [results, hfn, go_sem, h6, h7, h8, c0, c1, c2]
theorem spots_end {fn : Func} (hfn : fn.results = #[.cell 10 29, .tmp 11, .tmp 12]) {R : Ending → World → Prop} {a : Act} {W : World} {b : Nat} {f : Nat → Value} {v0 v1 v2 : Value} {ok : Bool} {e : Int} {W' : World} (hrow : W.rowIs b 29 3 f)
    (h6 : a.tmps[10]?.getD undef = .pointer (some ⟨b, 0, none⟩)) (h7 : a.tmps[11]?.getD undef = .bool ok) (h8 : a.tmps[12]?.getD undef = .int .i64 e) (hd : a.defers = []) (hW : W' = (((W.setCell ⟨b, 0, none⟩ (v0)).setCell ⟨b, 1, none⟩ (v1)).setCell ⟨b, 2, none⟩ (v2)))
    (hR : R (.returned (.tuple #[.agg #[v0, v1, v2], .bool ok, .int .i64 e])) W') : bodyPost Try.prog fn R .ret a W' := by
  subst hW
  exact bodyPost_ret (results_spots hfn h6 h7 h8 (put3_row hrow)) hd hR
theorem grown_put3 {w W : World} {b : Nat} {v0 v1 v2 : Value} (h : w.grownBy W (some b)) : w.grownBy (((W.setCell ⟨b, 0, none⟩ (v0)).setCell ⟨b, 1, none⟩ (v1)).setCell ⟨b, 2, none⟩ (v2)) (some b) := grown_setB (grown_setB (grown_setB h _ _) _ _) _ _
theorem f42_results : Try.f42.results = #[.cell 10 29, .tmp 11, .tmp 12] := rfl
set_option maxRecDepth 100000 in
set_option maxHeartbeats 16000000 in
theorem better42 (w : World) (a : ArchV) (P : PackV) (S : SpotV) (hP : PackAt w P) (hS : SpotAt w S) (hr : RightAll a P.data S.data) (k1 : P.bs.length ≤ 500) (k2 : P.os.length ≤ 500) (k3 : S.is.length ≤ 500) (m k : Int) (hmk : TwoOk a m k) :
    Calls Try.prog 42 #[a.val, P.val, S.val, .int .i64 m, .int .i64 k] w fun e w' => ∃ R : SpotV, e = .returned (.tuple #[R.val, .bool (betterB a P.data S.data m k), .int .i64 0]) ∧ R.data = betterD a P.data S.data m k ∧ SpotNew w.heap.size S R w' ∧ Below w.heap.size w w' := by
  have HCo : Hid (∀ W (R : SpotV), Below w.heap.size w W → SpotAt W R → RightAll a P.data R.data → Calls Try.prog 30 #[a.val, P.val, R.val] W fun e w' => e = .returned (.int .i64 (costL a P.data R.data)) ∧ Below W.heap.size W w') := Lib.hid fun W R hW hR hrr => by
    refine cost30 W a P R (hP.below hW (Nat.le_refl _)) hR hrr.p hrr.s k1 k2 ?_
    have e1 := hrr.s.i
    have e2 := hr.s.i
    dsimp only at e1 e2
    omega
  have hwh : (0 ≤ a.w ∧ a.w ≤ 1000) ∧ 0 ≤ a.h ∧ a.h ≤ 1000 := by
    have hw := hr.p.w
    have hh := hr.p.h
    omega
  have HTi : Hid (∀ W, Calls Try.prog 36 #[a.val] W fun e w' => e = .returned (.int .i64 (tilesL a)) ∧ Below W.heap.size W w') := Lib.hid fun W => tiles36 W a hwh.1 hwh.2
  have HPa : Hid (∀ W, Calls Try.prog 38 #[a.val] W fun e w' => e = .returned (.int .i64 (padsL a)) ∧ Below W.heap.size W w') := Lib.hid fun W => pads38 W a hwh.1 hwh.2
  have hpi : P.ins = ((S.is.length : Nat) : Int) := hr.s.i
  have hbl : S.bs.length = P.bs.length := by have := hr.s.b; simpa using this
  have hol : S.os.length = P.os.length := hr.s.o
  obtain ⟨D, hD⟩ : ∃ D, D = P.data := ⟨_, rfl⟩
  obtain ⟨E, hE⟩ : ∃ E, E = S.data := ⟨_, rfl⟩
  rw [← hD] at HCo hr
  rw [← hE] at hr
  rw [← hD, ← hE]
  have hEb : E.bs = S.bs := by rw [hE]
  have hEi : E.is = S.is := by rw [hE]
  have hEo : E.os = S.os := by rw [hE]
  have htl : 0 ≤ tilesL a ∧ tilesL a ≤ 256 := by
    have hw := hr.p.w
    have hh := hr.p.h
    have h256 : a.w * a.h ≤ 16 * 16 := Int.mul_le_mul hw.2 hh.2 (by omega) (by omega)
    have h0 : 0 ≤ a.w * a.h := Int.mul_nonneg (by omega) (by omega)
    unfold tilesL; omega
  have hpl : 0 ≤ padsL a ∧ padsL a ≤ 64 := by
    have hw := hr.p.w
    have hh := hr.p.h
    unfold padsL; omega
  have hm := hmk.mr
  have hk := hmk.nr
  obtain ⟨t, ht⟩ : ∃ t, t = tilesL a := ⟨_, rfl⟩
  obtain ⟨pd, hpd⟩ : ∃ t, t = padsL a := ⟨_, rfl⟩
  rw [← ht] at HTi htl hm hk
  rw [← hpd] at HPa hpl hm hk
  have hm9 : m ≤ 1000 := by omega
  have hk9 : k ≤ 1000 := by omega
  have HSw : Hid (RightAll a D (turnD a E m k)) := Lib.hid (hr.swap hmk)
  have HR := Lib.hid hr
  have HTy : Hid (m < t → turnD a E m k = ⟨turnL m k E.bs, E.is, E.os⟩) := Lib.hid fun h => by unfold turnD; rw [if_pos (by rw [← ht]; exact h)]
  have HTn : Hid (¬ m < t → turnD a E m k = ⟨E.bs, turnL (m - t) (k - t) E.is, turnL (m - t) (k - t) E.os⟩) := Lib.hid fun h => by unfold turnD; rw [if_neg (by rw [← ht]; exact h), ht]
  have HNb : Hid (m < t ↔ k < t) := Lib.hid (by rw [ht]; exact hmk.both)
  have HBy : Hid (costL a D (turnD a E m k) ≤ costL a D E → betterB a D E m k = true ∧ betterD a D E m k = turnD a E m k) := Lib.hid fun h => by
    have hb : betterB a D E m k = true := by unfold betterB; simpa using h
    exact ⟨hb, by unfold betterD; rw [if_pos hb]⟩
  have HBn : Hid (¬ costL a D (turnD a E m k) ≤ costL a D E → betterB a D E m k = false ∧ betterD a D E m k = E) := Lib.hid fun h => by
    have hb : betterB a D E m k = false := by unfold betterB; simpa using h
    exact ⟨hb, by unfold betterD; rw [hb]; rfl⟩
  have HSs : Hid (∀ W r, w.heap.size ≤ r → Below w.heap.size w W → ∀ W', W.grownBy W' (some r) → SpotAt W' S) := Lib.hid fun W r hr' hW W' hg => hS.below (below_grown hW hg hr' hW.size) (Nat.le_refl _)
  obtain ⟨TD, hTD⟩ : ∃ T, T = turnD a E m k := ⟨_, rfl⟩
  rw [← hTD] at HSw HTy HTn HBy HBn
  obtain ⟨bB, hbB⟩ : ∃ b, b = betterB a D E m k := ⟨_, rfl⟩
  obtain ⟨bD, hbD⟩ : ∃ b, b = betterD a D E m k := ⟨_, rfl⟩
  rw [← hbB, ← hbD] at HBy HBn
  rw [← hbB, ← hbD]
  clear hbB hbD hTD ht hpd hmk hr hP hwh
  obtain ⟨aw, ah, at_⟩ := a
  obtain ⟨pi, pa, pc, pb, qa, qc, qb⟩ := P
  obtain ⟨ba, bc, bs, ia, ic, is, oa, oc, os⟩ := S
  obtain ⟨A, hA⟩ : ∃ A : ArchV, A = ⟨aw, ah, at_⟩ := ⟨_, rfl⟩
  unfold ArchV.val PackV.val SpotV.val at HCo
  unfold ArchV.val at HTi HPa
  unfold ArchV.val PackV.val SpotV.val
  dsimp only at hEb hEi hEo hpi hbl hol k1 k2 k3 HCo HTi HPa ⊢
  rw [← hA] at HCo HSw HR HBy HBn
  rw [hbl, hol]
  obtain ⟨nb, hnb⟩ : ∃ n, n = pb.length := ⟨_, rfl⟩
  obtain ⟨ni, hni⟩ : ∃ n, n = is.length := ⟨_, rfl⟩
  obtain ⟨no, hno⟩ : ∃ n, n = qb.length := ⟨_, rfl⟩
  rw [← hnb] at HCo hbl k1 ⊢
  rw [← hni] at hpi k3 ⊢
  rw [← hno] at HCo hol k2 ⊢
  obtain ⟨s1, s2, s3, -, -, -⟩ := hS
  dsimp only at s1 s2 s3
  rw [hbl] at s1
  rw [← hni] at s2
  rw [hol] at s3
  have HSb := Lib.hid s1
  have HSi := Lib.hid s2
  have HSo := Lib.hid s3
  have HLb : Hid (bs.length = nb ∧ is.length = ni ∧ os.length = no) := Lib.hid ⟨hbl, hni.symm, hol⟩
  have HE : Hid (E.bs = bs ∧ E.is = is ∧ E.os = os) := Lib.hid ⟨hEb, hEi, hEo⟩
  have HEd := Lib.hid hE
  have HI6 : Hid ((∀ x ∈ bs, I64 x) ∧ (∀ x ∈ is, I64 x) ∧ ∀ x ∈ os, I64 x) := Lib.hid (by have := right_i64 HR.out; rwa [hEb, hEi, hEo] at this)
  clear s1 s2 s3 hnb hni hno hbl hol hpi hEb hEi hEo hD hE hA
  obtain ⟨H, hH⟩ : ∃ h, h = w.heap.size := ⟨_, rfl⟩
  obtain ⟨w1, hw1⟩ : ∃ W, W = (((w.alloc (.cells #[.int .i64 aw, .int .i64 ah, .int .i64 at_] 23)).alloc (.cells #[.int .i64 pi, .slice pa nb pc, .slice qa no qc] 27)).alloc (.cells #[.slice ba nb bc, .slice ia ni ic, .slice oa no oc] 29)).alloc (.cells #[.slice none 0 0, .slice none 0 0, .slice none 0 0] 29) := ⟨_, rfl⟩
  have hX1 : Below w.heap.size w w1 := by rw [hw1]; exact ((((Below.refl _ _).alloc (Nat.le_refl _) _).alloc (by simp) _).alloc (by simp <;> omega) _).alloc (by simp <;> omega) _
  have hs1 : w1.heap.size = H + 4 := by rw [hw1, hH]; simp
  obtain ⟨H1, hH1⟩ : ∃ x, x = H + 1 := ⟨_, rfl⟩
  obtain ⟨H2, hH2⟩ : ∃ x, x = H1 + 1 := ⟨_, rfl⟩
  obtain ⟨B1, hB1⟩ : ∃ x, x = H2 + 1 := ⟨_, rfl⟩
  have hrw0 : w1.rowIs (H) 23 3 (fun i => ([.int .i64 aw, .int .i64 ah, .int .i64 at_] : List Value).getD i undef) := by
    rw [hw1, hH]
    exact (((rowL_alloc w 23 [.int .i64 aw, .int .i64 ah, .int .i64 at_]).alloc _).alloc _).alloc _
  have hrw1 : w1.rowIs (H1) 27 3 (fun i => ([.int .i64 pi, .slice pa nb pc, .slice qa no qc] : List Value).getD i undef) := by
    have h := ((rowL_alloc (w.alloc (.cells #[.int .i64 aw, .int .i64 ah, .int .i64 at_] 23)) 27 [.int .i64 pi, .slice pa nb pc, .slice qa no qc]).alloc (.cells #[.slice ba nb bc, .slice ia ni ic, .slice oa no oc] 29)).alloc (.cells #[.slice none 0 0, .slice none 0 0, .slice none 0 0] 29)
    rw [hw1]
    have hsz : (w.alloc (.cells #[.int .i64 aw, .int .i64 ah, .int .i64 at_] 23)).heap.size = H1 := by rw [hH1, hH]; simp
    rw [hsz] at h
    exact h
  have hrw2 : w1.rowIs (H2) 29 3 (fun i => ([.slice ba nb bc, .slice ia ni ic, .slice oa no oc] : List Value).getD i undef) := by
    have h := (rowL_alloc ((w.alloc (.cells #[.int .i64 aw, .int .i64 ah, .int .i64 at_] 23)).alloc (.cells #[.int .i64 pi, .slice pa nb pc, .slice qa no qc] 27)) 29 [.slice ba nb bc, .slice ia ni ic, .slice oa no oc]).alloc (.cells #[.slice none 0 0, .slice none 0 0, .slice none 0 0] 29)
    rw [hw1]
    have hsz : ((w.alloc (.cells #[.int .i64 aw, .int .i64 ah, .int .i64 at_] 23)).alloc (.cells #[.int .i64 pi, .slice pa nb pc, .slice qa no qc] 27)).heap.size = H2 := by rw [hH2, hH1, hH]; simp
    rw [hsz] at h
    exact h
  have hrw3 : w1.rowIs (B1) 29 3 (fun i => ([.slice none 0 0, .slice none 0 0, .slice none 0 0] : List Value).getD i undef) := by
    have h := rowL_alloc (((w.alloc (.cells #[.int .i64 aw, .int .i64 ah, .int .i64 at_] 23)).alloc (.cells #[.int .i64 pi, .slice pa nb pc, .slice qa no qc] 27)).alloc (.cells #[.slice ba nb bc, .slice ia ni ic, .slice oa no oc] 29)) 29 [.slice none 0 0, .slice none 0 0, .slice none 0 0]
    rw [hw1]
    have hsz : (((w.alloc (.cells #[.int .i64 aw, .int .i64 ah, .int .i64 at_] 23)).alloc (.cells #[.int .i64 pi, .slice pa nb pc, .slice qa no qc] 27)).alloc (.cells #[.slice ba nb bc, .slice ia ni ic, .slice oa no oc] 29)).heap.size = B1 := by rw [hB1, hH2, hH1, hH]; simp
    rw [hsz] at h
    exact h
  have HX1 := Lib.hid hX1
  have HW3r : Hid (∀ W, Below w1.heap.size w1 W → W.rowIs (B1) 29 3 (fun i => ([.slice none 0 0, .slice none 0 0, .slice none 0 0] : List Value).getD i undef)) := Lib.hid fun W hW => hrw3.of_block (hW.block B1 (by omega))
  have HK : Hid (∀ W, Below w1.heap.size w1 W → W.cell? ⟨H, 0, none⟩ = some (.int .i64 aw) ∧ W.cell? ⟨H, 1, none⟩ = some (.int .i64 ah) ∧ W.cell? ⟨H, 2, none⟩ = some (.int .i64 at_) ∧ W.cell? ⟨H1, 0, none⟩ = some (.int .i64 pi) ∧ W.cell? ⟨H1, 1, none⟩ = some (.slice pa nb pc) ∧ W.cell? ⟨H1, 2, none⟩ = some (.slice qa no qc) ∧ W.cell? ⟨H2, 0, none⟩ = some (.slice ba nb bc) ∧ W.cell? ⟨H2, 1, none⟩ = some (.slice ia ni ic) ∧ W.cell? ⟨H2, 2, none⟩ = some (.slice oa no oc)) := Lib.hid fun W hW => by
    have h0 := hrw0.of_block (hW.block H (by omega))
    have h1 := hrw1.of_block (hW.block H1 (by omega))
    have h2 := hrw2.of_block (hW.block H2 (by omega))
    exact ⟨h0.cell (by omega), h0.cell (by omega), h0.cell (by omega), h1.cell (by omega), h1.cell (by omega), h1.cell (by omega), h2.cell (by omega), h2.cell (by omega), h2.cell (by omega)⟩
  have HSz : Hid (w1.heap.size = H + 4 ∧ B1 = H + 3 ∧ H = w.heap.size) := Lib.hid ⟨hs1, by omega, hH⟩
  have HXW : Hid (∀ W, Below w1.heap.size w1 W → Below w.heap.size w W) := Lib.hid fun W hW => hX1.trans (hW.mono (by omega))
  have HW1 := Lib.hid hw1
  have HHH := Lib.hid hH
  have HHH1 := Lib.hid hH1
  have HHH2 := Lib.hid hH2
  have HBB := Lib.hid hB1
  clear hw1 hX1 hs1 hrw0 hrw1 hrw2 hrw3 hH hH1 hH2 hB1
  go_enter Try.func42, Try.ntmps42
  go_wp2_with fail
  rw [← HW1.out]
  (try rw [← HHH.out])
  rw [← HHH1.out]
  rw [← HHH2.out]
  rw [← HBB.out]
  refine Calls.mono (HTi.out w1) ?_
  rintro e w2 ⟨rfl, hb2⟩
  have HB2 := Lib.hid hb2
  clear hb2
  obtain ⟨a0, a1, a2, p0, p1, p2, s0, s1, s2⟩ := HK.out w2 HB2.out
  go_wp2_with fail
  refine Calls.mono (HPa.out w2) ?_
  rintro e w3 ⟨rfl, hb3⟩
  have HB3 : Hid (Below w1.heap.size w1 w3) := Lib.hid (HB2.out.trans (hb3.mono HB2.out.size))
  clear hb3 a0 a1 a2 p0 p1 p2 s0 s1 s2
  have F1 : wrap64 (t + pd) = t + pd := wrap64s (by omega) (by omega)
  go_upto_region 3 with fail
  go_cut [46] from 22 to 46 (fun v wx => v = .bool false ∧ wx = w3)
  case first =>
    have g1 : decide (m < 0) = false := by simpa using hm.1
    have g2 : decide (k < 0) = false := by simpa using hk.1
    have g3 : decide (m ≥ t + pd) = false := by simpa using hm.2
    have g4 : decide (k ≥ t + pd) = false := by simpa using hk.2
    have g5 : decide (t + pd ≤ m) = false := by simpa using hm.2
    have g6 : decide (t + pd ≤ k) = false := by simpa using hk.2
    by_cases hlt : m < t
    · have g7 : decide (m < t) = true := by simpa using hlt
      have g8 : decide (k < t) = true := by simpa using HNb.out.1 hlt
      clear hlt
      go_wp2_with fail
      go_meet
      exact ⟨rfl, rfl⟩
    · have g7 : decide (m < t) = false := by simpa using hlt
      have g8 : decide (k < t) = false := by have := fun e => hlt (HNb.out.2 e); simpa using this
      clear hlt
      go_wp2_with fail
      go_meet
      exact ⟨rfl, rfl⟩
  case rest =>
    obtain ⟨hv46, hwc⟩ := hcut
    subst hv46
    rw [hwc]
    clear hwc
    obtain ⟨X, hX⟩ : ∃ x, x = w3.heap.size := ⟨_, rfl⟩
    obtain ⟨w4, hw4⟩ : ∃ W, W = w3.alloc (.cells #[.slice ba nb bc, .slice ia ni ic, .slice oa no oc] 29) := ⟨_, rfl⟩
    have hr4 : w4.rowIs (X) 29 3 (fun i => ([.slice ba nb bc, .slice ia ni ic, .slice oa no oc] : List Value).getD i undef) := by rw [hw4, hX]; exact rowL_alloc w3 29 [.slice ba nb bc, .slice ia ni ic, .slice oa no oc]
    have hs4 : w4.heap.size = X + 1 := by rw [hw4, hX]; simp
    have h3sz := HB3.out.size
    have hXge : H + 4 ≤ X := by have := HSz.out; omega
    have hb4 : Below X w3 w4 := by rw [hw4, hX]; exact (Below.refl _ _).alloc (Nat.le_refl _) _
    have HB4 : Hid (Below w1.heap.size w1 w4) := Lib.hid (HB3.out.trans (hb4.mono (by omega)))
    have HX4 : Hid (w4.heap.size = X + 1 ∧ H + 4 ≤ X) := Lib.hid ⟨hs4, hXge⟩
    have HR4 := Lib.hid hr4
    have HXX : Hid (∀ W, Below X w4 W → Below w1.heap.size w1 W) := Lib.hid fun W hW => HB4.out.trans (hW.mono (by have := HSz.out; omega))
    have HW4 := Lib.hid hw4
    have HXq := Lib.hid hX
    clear hX hw4 hr4 hs4 h3sz hXge hb4
    obtain ⟨a0, a1, a2, p0, p1, p2, s0, s1, s2⟩ := HK.out w3 HB3.out
    go_upto_if 51 with fail
    rw [← HW4.out]
    rw [← HXq.out]
    clear a0 a1 a2 p0 p1 p2 s0 s1 s2
    go_cut [] from 16 to 86 (fun wx => ∃ (rba : Option Addr) (rbc : Nat) (rbs : List Int) (ria : Option Addr) (ric : Nat) (ris : List Int) (roa : Option Addr) (roc : Nat) (ros : List Int), Hid ((rbs.length = nb ∧ ris.length = ni ∧ ros.length = no ∧ TD = ⟨rbs, ris, ros⟩) ∧ Below X w4 wx ∧ wx.rowIs (X) 29 3 (fun i => ([.slice rba nb rbc, .slice ria ni ric, .slice roa no roc] : List Value).getD i undef) ∧ SpotNew w1.heap.size ⟨ba, bc, bs, ia, ic, is, oa, oc, os⟩ ⟨rba, rbc, rbs, ria, ric, ris, roa, roc, ros⟩ wx))
    case first =>
      obtain ⟨a0, a1, a2, p0, p1, p2, s0, s1, s2⟩ := HK.out w4 HB4.out
      by_cases hlt : m < t
      · have hd : decide (m < t) = true := by simpa using hlt
        rw [hd]
        have HT := Lib.hid (HTy.out hlt)
        clear hlt
        go_wp2_with fail
        refine Calls.mono (turned58 w4 ba nb bc bs m k HLb.out.1 (by omega) (HSb.out.below (HXW.out w4 HB4.out) (Nat.le_refl _))) ?_
        rintro e w5 ⟨b, d, rfl, hown, hb5⟩
        have HB5 := Lib.hid hb5
        have HO := Lib.hid hown
        clear hb5 hown a0 a1 a2 p0 p1 p2 s0 s1 s2
        have hr5 := HR4.out.of_block (HB5.out.block X (by have := HX4.out; omega))
        have x6 : w5.cell? ⟨X, 0, none⟩ = some (.slice ba nb bc) := hr5.cell (by omega)
        have f6 := hr5.frozen 0
        have HR5 := Lib.hid hr5
        clear hr5
        go_wp2_with fail
        go_meet
        have hs5 := HB5.out.size
        obtain ⟨z1, z2⟩ := HX4.out
        obtain ⟨z3, z4, z5⟩ := HSz.out
        have hbX : Below X w4 (w5.setCell ⟨X, 0, none⟩ (.slice b nb d)) := (Below.mono (B' := X) HB5.out (by omega)).setCell (Nat.le_refl _) _
        refine ⟨b, d, turnL m k bs, ia, ic, is, oa, oc, os, Lib.hid ⟨⟨by rw [turnL_len]; exact HLb.out.1, HLb.out.2.1, HLb.out.2.2, by rw [HT.out, HE.out.1, HE.out.2.1, HE.out.2.2]⟩, hbX, (HR5.out.set 0 (.slice b nb d)).congr fun i hi => ?_, ?_⟩⟩
        · match i, hi with
          | 0, _ => rfl
          | 1, _ => rfl
          | 2, _ => rfl
        · have ho := own_weak (base' := w1.heap.size) (ownsRow_setCell_below HO.out (a := ⟨X, 0, none⟩) (by show X < w4.heap.size; omega) (.slice b nb d)) (by omega)
          have hi6 := right_i64 HSw.out
          rw [HT.out, HE.out.1, HE.out.2.1, HE.out.2.2] at hi6
          exact ⟨.inr (by dsimp only; rw [turnL_len, HLb.out.1]; exact ho), .inl ⟨rfl, rfl, rfl⟩, .inl ⟨rfl, rfl, rfl⟩, hi6.1, hi6.2.1, hi6.2.2⟩
      · have hd : decide (m < t) = false := by simpa using hlt
        rw [hd]
        have HT := Lib.hid (HTn.out (by omega))
        have hlt2 : ¬ k < t := fun e => hlt (HNb.out.2 e)
        have E1 : wrap64 (m - t) = m - t := wrap64s (by omega) (by omega)
        have E2 : wrap64 (k - t) = k - t := wrap64s (by omega) (by omega)
        clear hlt hlt2
        go_wp2_with fail
        refine Calls.mono (turned58 w4 ia ni ic is (m - t) (k - t) HLb.out.2.1 (by omega) (HSi.out.below (HXW.out w4 HB4.out) (Nat.le_refl _))) ?_
        rintro e w5 ⟨b, d, rfl, hown, hb5⟩
        have HB5 := Lib.hid hb5
        have HO := Lib.hid hown
        clear hb5 hown a0 a1 a2 p0 p1 p2 s0 s1 s2
        have hr5 := HR4.out.of_block (HB5.out.block X (by have := HX4.out; omega))
        have x6 : w5.cell? ⟨X, 1, none⟩ = some (.slice ia ni ic) := hr5.cell (by omega)
        have f6 := hr5.frozen 1
        obtain ⟨w6, hw6⟩ : ∃ W, W = w5.setCell ⟨X, 1, none⟩ (.slice b ni d) := ⟨_, rfl⟩
        have hr6 := hr5.set 1 (.slice b ni d)
        rw [← hw6] at hr6
        have hb6 : Below X w4 w6 := by rw [hw6]; exact (Below.mono (B' := X) HB5.out (by have := HX4.out; omega)).setCell (Nat.le_refl _) _
        have hs6 : w6.heap.size = w5.heap.size := by rw [hw6]; simp [World.setCell]
        have HB6 := Lib.hid hb6
        have HS6 : Hid (w6.heap.size = w5.heap.size ∧ w4.heap.size ≤ w5.heap.size) := Lib.hid ⟨hs6, HB5.out.size⟩
        have HR6 := Lib.hid hr6
        have HO6 : Hid (w6.ownsRow w4.heap.size 3 1 (.slice b ni d) ni ((turnL (m - t) (k - t) is).map (Value.int .i64))) := Lib.hid (by rw [hw6]; exact ownsRow_setCell_below HO.out (a := ⟨X, 1, none⟩) (by show X < w4.heap.size; have := HX4.out; omega) _)
        have hK6 := HK.out w6 (HXX.out w6 hb6)
        rw [hw6] at hK6
        obtain ⟨a0, a1, a2, p0, p1, p2, s0, s1, s2⟩ := hK6
        have HW6 := Lib.hid hw6
        clear hr5 hr6 hw6 hb6 hs6 HO
        go_wp2_with fail
        rw [← HW6.out]
        refine Calls.mono (turned58 w6 oa no oc os (m - t) (k - t) HLb.out.2.2 (by omega) (HSo.out.below (HXW.out w6 (HXX.out w6 HB6.out)) (Nat.le_refl _))) ?_
        rintro e w7 ⟨b', d', rfl, hown, hb7⟩
        have HB7 := Lib.hid hb7
        have HO7 : Hid (w7.ownsRow w4.heap.size 3 1 (.slice b ni d) ni ((turnL (m - t) (k - t) is).map (Value.int .i64)) ∧ w7.ownsRow w6.heap.size 3 1 (.slice b' no d') no ((turnL (m - t) (k - t) os).map (Value.int .i64))) := Lib.hid ⟨own_below HO6.out hb7, hown⟩
        clear hb7 hown a0 a1 a2 p0 p1 p2 s0 s1 s2 x6 f6
        have hr7 := HR6.out.of_block (HB7.out.block X (by have := HX4.out; have := HS6.out; omega))
        have x6 : w7.cell? ⟨X, 2, none⟩ = some (.slice oa no oc) := hr7.cell (by omega)
        have f6 := hr7.frozen 2
        have HR7 := Lib.hid hr7
        clear hr7
        go_wp2_with fail
        go_meet
        have hs7 := HB7.out.size
        obtain ⟨z1, z2⟩ := HX4.out
        obtain ⟨z3, z4, z5⟩ := HSz.out
        obtain ⟨z6, z7⟩ := HS6.out
        have hbX : Below X w4 (w7.setCell ⟨X, 2, none⟩ (.slice b' no d')) := (HB6.out.trans (Below.mono (B' := X) HB7.out (by omega))).setCell (Nat.le_refl _) _
        refine ⟨ba, bc, bs, b, d, turnL (m - t) (k - t) is, b', d', turnL (m - t) (k - t) os, Lib.hid ⟨⟨HLb.out.1, by rw [turnL_len]; exact HLb.out.2.1, by rw [turnL_len]; exact HLb.out.2.2, by rw [HT.out, HE.out.1, HE.out.2.1, HE.out.2.2]⟩, hbX, (HR7.out.set 2 (.slice b' no d')).congr fun i hi => ?_, ?_⟩⟩
        · match i, hi with
          | 0, _ => rfl
          | 1, _ => rfl
          | 2, _ => rfl
        · have ho1 := own_weak (base' := w1.heap.size) (ownsRow_setCell_below HO7.out.1 (a := ⟨X, 2, none⟩) (by show X < w4.heap.size; omega) (.slice b' no d')) (by omega)
          have ho2 := own_weak (base' := w1.heap.size) (ownsRow_setCell_below HO7.out.2 (a := ⟨X, 2, none⟩) (by show X < w6.heap.size; omega) (.slice b' no d')) (by omega)
          have hi6 := right_i64 HSw.out
          rw [HT.out, HE.out.1, HE.out.2.1, HE.out.2.2] at hi6
          exact ⟨.inl ⟨rfl, rfl, rfl⟩, .inr (by dsimp only; rw [turnL_len, HLb.out.2.1]; exact ho1), .inr (by dsimp only; rw [turnL_len, HLb.out.2.2]; exact ho2), hi6.1, hi6.2.1, hi6.2.2⟩
    case rest =>
      obtain ⟨wA, hwA⟩ : ∃ W, W = wc := ⟨_, rfl⟩
      subst hwA
      obtain ⟨rba, rbc, rbs, ria, ric, ris, roa, roc, ros, HC0⟩ := hcut
      obtain ⟨⟨l1, l2, l3, hTD⟩, hbA, hrA, hSA⟩ := HC0.out
      have HBA : Hid (Below w1.heap.size w1 wA) := Lib.hid (HXX.out _ hbA)
      have HSA := Lib.hid hSA
      have HRA := Lib.hid hrA
      have hdat : (SpotV.data ⟨rba, rbc, rbs, ria, ric, ris, roa, roc, ros⟩) = TD := hTD.symm
      have HAs : Hid (X + 1 ≤ wA.heap.size ∧ H + 4 ≤ X) := Lib.hid (by have := hbA.size; have := HX4.out; omega)
      have HTo : Hid (∀ W, Below wA.heap.size wA W → Below w1.heap.size w1 W) := Lib.hid fun W hW => HBA.out.trans (hW.mono HBA.out.size)
      have C1 : Hid (∀ W, Below wA.heap.size wA W → Calls Try.prog 30 #[.agg #[.int .i64 aw, .int .i64 ah, .int .i64 at_], .agg #[.int .i64 pi, .slice pa nb pc, .slice qa no qc], .agg #[.slice rba nb rbc, .slice ria ni ric, .slice roa no roc]] W fun e w' => e = .returned (.int .i64 (costL A D TD)) ∧ Below W.heap.size W w') := Lib.hid fun W hW => by
        have h := HCo.out W ⟨rba, rbc, rbs, ria, ric, ris, roa, roc, ros⟩ (HXW.out W (HTo.out W hW)) ((hSA.below hW).spots (HSs.out W B1 (by have := HSz.out; omega) (HXW.out W (HTo.out W hW)) W (World.grownBy.refl _ _))) (by rw [hdat]; exact HSw.out)
        rw [hdat] at h
        dsimp only at h
        rwa [l1, l2, l3] at h
      have C2 : Hid (∀ W, Below wA.heap.size wA W → Calls Try.prog 30 #[.agg #[.int .i64 aw, .int .i64 ah, .int .i64 at_], .agg #[.int .i64 pi, .slice pa nb pc, .slice qa no qc], .agg #[.slice ba nb bc, .slice ia ni ic, .slice oa no oc]] W fun e w' => e = .returned (.int .i64 (costL A D E)) ∧ Below W.heap.size W w') := Lib.hid fun W hW => by
        have hWw := HXW.out W (HTo.out W hW)
        have h := HCo.out W ⟨ba, bc, bs, ia, ic, is, oa, oc, os⟩ hWw (HSs.out W B1 (by have := HSz.out; omega) hWw W (World.grownBy.refl _ _)) (by rw [← HEd.out]; exact HR.out)
        rw [← HEd.out] at h
        dsimp only at h
        rwa [HLb.out.1, HLb.out.2.1, HLb.out.2.2] at h
      have HKA : Hid (∀ W, Below wA.heap.size wA W → (W.cell? ⟨H, 0, none⟩ = some (.int .i64 aw) ∧ W.cell? ⟨H, 1, none⟩ = some (.int .i64 ah) ∧ W.cell? ⟨H, 2, none⟩ = some (.int .i64 at_) ∧ W.cell? ⟨H1, 0, none⟩ = some (.int .i64 pi) ∧ W.cell? ⟨H1, 1, none⟩ = some (.slice pa nb pc) ∧ W.cell? ⟨H1, 2, none⟩ = some (.slice qa no qc) ∧ W.cell? ⟨H2, 0, none⟩ = some (.slice ba nb bc) ∧ W.cell? ⟨H2, 1, none⟩ = some (.slice ia ni ic) ∧ W.cell? ⟨H2, 2, none⟩ = some (.slice oa no oc)) ∧ W.cell? ⟨X, 0, none⟩ = some (.slice rba nb rbc) ∧ W.cell? ⟨X, 1, none⟩ = some (.slice ria ni ric) ∧ W.cell? ⟨X, 2, none⟩ = some (.slice roa no roc)) := Lib.hid fun W hW => by
        refine ⟨HK.out W (HTo.out W hW), ?_⟩
        have h := hrA.of_block (hW.block X (by have := HAs.out; omega))
        exact ⟨h.cell (by omega), h.cell (by omega), h.cell (by omega)⟩
      have HLr := Lib.hid (And.intro l1 (And.intro l2 l3))
      have HDat := Lib.hid hdat
      clear l1 l2 l3 hTD hbA hrA hSA hdat HC0
      obtain ⟨c1, hc1⟩ : ∃ c, c = costL A D TD := ⟨_, rfl⟩
      obtain ⟨c2, hc2⟩ : ∃ c, c = costL A D E := ⟨_, rfl⟩
      rw [← hc1] at C1 HBy HBn
      rw [← hc2] at C2 HBy HBn
      clear hc1 hc2
      obtain ⟨⟨a0, a1, a2, p0, p1, p2, s0, s1, s2⟩, x0, x1, x2⟩ := HKA.out wA (Below.refl _ _)
      go_wp2_with fail
      clear a0 a1 a2 p0 p1 p2 s0 s1 s2 x0 x1 x2
      refine wp_region_held_drew (S := fun w' => (w'.cell? ⟨H, 0, none⟩ = some (.int .i64 aw) ∧ w'.cell? ⟨H, 1, none⟩ = some (.int .i64 ah) ∧ w'.cell? ⟨H, 2, none⟩ = some (.int .i64 at_) ∧ w'.cell? ⟨H1, 0, none⟩ = some (.int .i64 pi) ∧ w'.cell? ⟨H1, 1, none⟩ = some (.slice pa nb pc) ∧ w'.cell? ⟨H1, 2, none⟩ = some (.slice qa no qc) ∧ w'.cell? ⟨H2, 0, none⟩ = some (.slice ba nb bc) ∧ w'.cell? ⟨H2, 1, none⟩ = some (.slice ia ni ic) ∧ w'.cell? ⟨H2, 2, none⟩ = some (.slice oa no oc)) ∧ w'.cell? ⟨X, 0, none⟩ = some (.slice rba nb rbc) ∧ w'.cell? ⟨X, 1, none⟩ = some (.slice ria ni ric) ∧ w'.cell? ⟨X, 2, none⟩ = some (.slice roa no roc)) (by kernel_rfl) (HKA.out _ (Below.refl _ _).drew) (fun hHeld => ?_)
      refine wpAnyH_take (i := 0) (v := ?_) (by simp only [List.getElem?_toArray, List.getElem?_cons_succ, List.getElem?_cons_zero]; rfl) (by kernel_rfl) (by kernel_rfl) (by kernel_rfl) (by intro _ _ _ h; exact h) (Or.inl ⟨by rfl, ?_⟩) (by assumption) ?_
      rotate_left
      · intro w hSw; (try dsimp only at hSw); go_simp; try with_reducible rfl
      try simp only [Act.put, List.setIfInBounds_toArray, List.set_cons_zero, List.set_cons_succ]
      refine wpAnyH_take (i := 1) (v := ?_) (by simp only [List.getElem?_toArray, List.getElem?_cons_succ, List.getElem?_cons_zero]; rfl) (by kernel_rfl) (by kernel_rfl) (by kernel_rfl) (by intro _ _ _ h; exact h) (Or.inl ⟨by rfl, ?_⟩) (by assumption) ?_
      rotate_left
      · intro w hSw; (try dsimp only at hSw); go_simp; try with_reducible rfl
      try simp only [Act.put, List.setIfInBounds_toArray, List.set_cons_zero, List.set_cons_succ]
      refine wpAnyH_take (i := 2) (v := ?_) (by simp only [List.getElem?_toArray, List.getElem?_cons_succ, List.getElem?_cons_zero]; rfl) (by kernel_rfl) (by kernel_rfl) (by kernel_rfl) (by intro _ _ _ h; exact h) (Or.inl ⟨by rfl, ?_⟩) (by assumption) ?_
      rotate_left
      · intro w hSw; (try dsimp only at hSw); go_simp; try with_reducible rfl
      try simp only [Act.put, List.setIfInBounds_toArray, List.set_cons_zero, List.set_cons_succ]
      refine wpAnyH_take (i := 4) (v := ?_) (by simp only [List.getElem?_toArray, List.getElem?_cons_succ, List.getElem?_cons_zero]; rfl) (by kernel_rfl) (by kernel_rfl) (by kernel_rfl) (by intro _ _ _ h; exact h) (Or.inl ⟨by rfl, ?_⟩) (by assumption) ?_
      rotate_left
      · intro w hSw; (try dsimp only at hSw); go_simp; try with_reducible rfl
      try simp only [Act.put, List.setIfInBounds_toArray, List.set_cons_zero, List.set_cons_succ]
      refine wpAnyH_take (i := 5) (v := ?_) (by simp only [List.getElem?_toArray, List.getElem?_cons_succ, List.getElem?_cons_zero]; rfl) (by kernel_rfl) (by kernel_rfl) (by kernel_rfl) (by intro _ _ _ h; exact h) (Or.inl ⟨by rfl, ?_⟩) (by assumption) ?_
      rotate_left
      · intro w hSw; (try dsimp only at hSw); go_simp; try with_reducible rfl
      try simp only [Act.put, List.setIfInBounds_toArray, List.set_cons_zero, List.set_cons_succ]
      refine wpAnyH_take (i := 6) (v := ?_) (by simp only [List.getElem?_toArray, List.getElem?_cons_succ, List.getElem?_cons_zero]; rfl) (by kernel_rfl) (by kernel_rfl) (by kernel_rfl) (by intro _ _ _ h; exact h) (Or.inl ⟨by rfl, ?_⟩) (by assumption) ?_
      rotate_left
      · intro w hSw; (try dsimp only at hSw); go_simp; try with_reducible rfl
      try simp only [Act.put, List.setIfInBounds_toArray, List.set_cons_zero, List.set_cons_succ]
      refine wpAnyH_ready (rs := [3]) (by kernel_rfl) (by simp) ?_
      refine AllReadyH.cons (o := _) (by simp only [List.getElem?_toArray, List.getElem?_cons_succ, List.getElem?_cons_zero]; rfl) (fun K hK => ?_) AllReadyH.nil
      go_simp
      go_at_call 30
      refine Calls.mono (C1.out _ (Below.refl _ _).drew) ?_
      rintro e w5 ⟨rfl, hb5⟩
      have HB5 : Hid (Below wA.heap.size wA w5) := Lib.hid ((Below.refl _ _).drew.trans hb5)
      clear hb5
      go_simp
      refine hK.out _ _ (by exact HKA.out _ HB5.out) (fun hHeld => ?_)
      clear hK K
      try simp only [Act.put, List.setIfInBounds_toArray, List.set_cons_zero, List.set_cons_succ]
      refine wpAnyH_ready (rs := [7]) (by kernel_rfl) (by simp) ?_
      refine AllReadyH.cons (o := _) (by simp only [List.getElem?_toArray, List.getElem?_cons_succ, List.getElem?_cons_zero]; rfl) (fun K hK => ?_) AllReadyH.nil
      go_simp
      go_at_call 30
      refine Calls.mono (C2.out _ HB5.out) ?_
      rintro e w6 ⟨rfl, hb6⟩
      have HB6 : Hid (Below wA.heap.size wA w6) := Lib.hid (HB5.out.trans (hb6.mono HB5.out.size))
      clear hb6
      go_simp
      refine hK.out _ _ (by exact HKA.out _ HB6.out) (fun hHeld => ?_)
      clear hK K
      try simp only [Act.put, List.setIfInBounds_toArray, List.set_cons_zero, List.set_cons_succ]
      refine wpAnyH_take (i := 8) (v := ?_) (by simp only [List.getElem?_toArray, List.getElem?_cons_succ, List.getElem?_cons_zero]; rfl) (by kernel_rfl) (by kernel_rfl) (by kernel_rfl) (by intro _ _ _ h; exact h) (Or.inl ⟨by rfl, ?_⟩) (by assumption) ?_
      rotate_left
      · intro w hSw; (try dsimp only at hSw); go_simp; try with_reducible rfl
      try simp only [Act.put, List.setIfInBounds_toArray, List.set_cons_zero, List.set_cons_succ]
      refine wpAnyH_done (by kernel_rfl) ?_ _
      have HXA : Hid (Below w1.heap.size w1 w6) := Lib.hid (HTo.out w6 HB6.out)
      have hr9 := HW3r.out w6 HXA.out
      have z0 : w6.cell? ⟨B1, 0, none⟩ = some (.slice none 0 0) := hr9.cell (by omega)
      have f0 := hr9.frozen 0
      have z1 : w6.cell? ⟨B1, 1, none⟩ = some (.slice none 0 0) := hr9.cell (by omega)
      have f1 := hr9.frozen 1
      have z2 : w6.cell? ⟨B1, 2, none⟩ = some (.slice none 0 0) := hr9.cell (by omega)
      have f2 := hr9.frozen 2
      have HR9 := Lib.hid hr9
      obtain ⟨⟨a0, a1, a2, p0, p1, p2, s0, s1, s2⟩, x0, x1, x2⟩ := HKA.out w6 HB6.out
      clear hr9 hHeld
      by_cases hcc : c1 ≤ c2
      · have hd : decide (c1 > c2) = false := by simpa using hcc
        have hd2 : decide (c2 < c1) = false := by simpa using hcc
        have HBB2 := Lib.hid (HBy.out hcc)
        clear hcc
        rw [hd2]
        go_wp2_with fail
        (try simp only [Exit.inBlock, Exit.then])
        have key : ∀ (R : Ending → World → Prop) (a : Act) (W' : World), a.tmps[10]?.getD undef = .pointer (some ⟨B1, 0, none⟩) → a.tmps[11]?.getD undef = .bool true → a.tmps[12]?.getD undef = .int .i64 0 → a.defers = [] → W' = (((w6.setCell ⟨B1, 0, none⟩ (.slice rba nb rbc)).setCell ⟨B1, 1, none⟩ (.slice ria ni ric)).setCell ⟨B1, 2, none⟩ (.slice roa no roc)) → R (.returned (.tuple #[.agg #[.slice rba nb rbc, .slice ria ni ric, .slice roa no roc], .bool true, .int .i64 0])) W' → bodyPost Try.prog Try.f42 R .ret a W' := fun R a W' q1 q2 q3 q4 q5 q6 => @spots_end Try.f42 f42_results R a w6 B1 _ (.slice rba nb rbc) (.slice ria ni ric) (.slice roa no roc) true 0 W' HR9.out q1 q2 q3 q4 q5 q6
        refine key _ _ _ ?h6a ?h7a ?h8a ?hda ?hWa ?hRa
        case h6a => rfl
        case h7a => rfl
        case h8a => rfl
        case hda => rfl
        case hWa => rfl
        have hg := grown_put3 (b := B1) (v0 := .slice rba nb rbc) (v1 := .slice ria ni ric) (v2 := .slice roa no roc) (World.grownBy.refl w6 (some B1))
        refine ⟨⟨rba, rbc, rbs, ria, ric, ris, roa, roc, ros⟩, ?_, by rw [HDat.out, HBB2.out.2], ((HSA.out.below HB6.out).grown hg (by have := HSz.out; omega)).weak (by have := HSz.out; omega), ?_⟩
        · dsimp only
          rw [HLr.out.1, HLr.out.2.1, HLr.out.2.2, HBB2.out.1]
        · exact below_grown (HXW.out _ HXA.out) hg (by have := HSz.out; omega) (HXW.out _ HXA.out).size
      · have hd : decide (c1 > c2) = true := by simp; omega
        have hd2 : decide (c2 < c1) = true := by simp; omega
        have HBB2 := Lib.hid (HBn.out (by omega))
        clear hcc
        rw [hd2]
        go_wp2_with fail
        (try simp only [Exit.inBlock, Exit.then])
        have key : ∀ (R : Ending → World → Prop) (a : Act) (W' : World), a.tmps[10]?.getD undef = .pointer (some ⟨B1, 0, none⟩) → a.tmps[11]?.getD undef = .bool false → a.tmps[12]?.getD undef = .int .i64 0 → a.defers = [] → W' = (((w6.setCell ⟨B1, 0, none⟩ (.slice ba nb bc)).setCell ⟨B1, 1, none⟩ (.slice ia ni ic)).setCell ⟨B1, 2, none⟩ (.slice oa no oc)) → R (.returned (.tuple #[.agg #[.slice ba nb bc, .slice ia ni ic, .slice oa no oc], .bool false, .int .i64 0])) W' → bodyPost Try.prog Try.f42 R .ret a W' := fun R a W' q1 q2 q3 q4 q5 q6 => @spots_end Try.f42 f42_results R a w6 B1 _ (.slice ba nb bc) (.slice ia ni ic) (.slice oa no oc) false 0 W' HR9.out q1 q2 q3 q4 q5 q6
        refine key _ _ _ ?h6b ?h7b ?h8b ?hdb ?hWb ?hRb
        case h6b => rfl
        case h7b => rfl
        case h8b => rfl
        case hdb => rfl
        case hWb => rfl
        have hg := grown_put3 (b := B1) (v0 := .slice ba nb bc) (v1 := .slice ia ni ic) (v2 := .slice oa no oc) (World.grownBy.refl w6 (some B1))
        refine ⟨⟨ba, bc, bs, ia, ic, is, oa, oc, os⟩, ?_, by rw [← HEd.out, HBB2.out.2], SpotNew.same (HI6.out).1 (HI6.out).2.1 (HI6.out).2.2, ?_⟩
        · dsimp only
          rw [HLb.out.1, HLb.out.2.1, HLb.out.2.2, HBB2.out.1]
        · exact below_grown (HXW.out _ HXA.out) hg (by have := HSz.out; omega) (HXW.out _ HXA.out).size
end Go.Proofs.Ytholafodachjnaa
