/- PlaceAlone, walked. -/
import Derived.Deep.CutRange
import Derived.Test.YtholafodachjnaaZ42
import Derived.Test.YtholafodachjnaaZ41
namespace Go.Proofs.Ytholafodachjnaa
open Go.RowKit Go.Shelf
set_option linter.unusedVariables false
set_option linter.unusedSimpArgs false

set_option maxRecDepth 100000 in
set_option maxHeartbeats 8000000 in
theorem placeAlone (w : World) (a : ArchV) (ha : ArchR a) (P : PackV) (hP : PackAt w P) (da : Option Addr) (n cap : Nat) (ds : List Int) (hn : ds.length = n) (hd : Seq w da n (ints ds)) (hr : ∀ x ∈ ds, I64 x) (hl9 : n ≤ 9223372036854775807) (hcap : n ≤ cap) :
    Calls Try.prog 10 #[a.val, P.val, .slice da n cap] w fun e w' => e = .returned (.bool true) ∧ Below w.heap.size w w' := by
  have CF : Hid (∀ W, Calls Try.prog 12 #[a.val, P.val, .agg #[.slice none 0 0, .slice none 0 0, .slice none 0 0]] W fun e w' => e = .returned (.bool (fewA a P noSpots)) ∧ Below W.heap.size W w') := Lib.hid fun W => few12 W a P noSpots
  have HL : Hid (∀ W, Calls Try.prog 11 #[] W fun e w' => e = .returned (.bool true) ∧ Below W.heap.size W w') := Lib.hid live11
  have CPy : Hid (fewA a P noSpots = true → n ≤ 60 → errF a P = 0 → ∀ W, Below w.heap.size w W → Calls Try.prog 22 #[a.val, P.val, .slice da n cap] W fun e w' => ∃ ba bc bs ia ic is oa oc os, e = .returned (.tuple #[.agg #[.slice ba P.bs.length bc, .slice ia P.ins.toNat ic, .slice oa P.os.length oc], .int .i64 0]) ∧ SpotV.data ⟨ba, bc, bs, ia, ic, is, oa, oc, os⟩ = placeO a P ds ∧ SpotAt w' ⟨ba, bc, bs, ia, ic, is, oa, oc, os⟩ ∧ (bs.length = P.bs.length ∧ is.length = P.ins.toNat ∧ os.length = P.os.length) ∧ Below W.heap.size W w') :=
    Lib.hid fun h h6 he W hW => Calls.mono (place22 W a P (hP.below hW (Nat.le_refl _)) (fewA_ok hP h).1 da n cap ds hn (by omega) hcap (hd.below hW (Nat.le_refl _))) fun e w' k => k.ok he
  have CPn : Hid (fewA a P noSpots = true → n ≤ 60 → ¬ errF a P = 0 → ∀ W, Below w.heap.size w W → Calls Try.prog 22 #[a.val, P.val, .slice da n cap] W fun e w' => ∃ ba bc ia ic oa oc, e = .returned (.tuple #[.agg #[.slice ba 0 bc, .slice ia 0 ic, .slice oa 0 oc], .int .i64 (errF a P)]) ∧ SpotAt w' ⟨ba, bc, [], ia, ic, [], oa, oc, []⟩ ∧ Below W.heap.size W w') :=
    Lib.hid fun h h6 he W hW => Calls.mono (place22 W a P (hP.below hW (Nat.le_refl _)) (fewA_ok hP h).1 da n cap ds hn (by omega) hcap (hd.below hW (Nat.le_refl _))) fun e w' k => k.no he
  have C24 : Hid (∀ W, Calls Try.prog 24 #[a.val] W fun e w' => e = .returned (.int .i64 (archE a)) ∧ Below W.heap.size W w') := Lib.hid fun W => fabric24 W a
  have C25 : Hid (fewA a P noSpots = true → ∀ W, Below w.heap.size w W → Calls Try.prog 25 #[P.val] W fun e w' => e = .returned (.int .i64 (orderE P.data)) ∧ Below W.heap.size W w') := Lib.hid fun h W hW => check33 W P (hP.below hW (Nat.le_refl _)) (fewA_ok hP h).1
  have C26 : Hid (archE a = 0 → ∀ W, Calls Try.prog 26 #[a.val] W fun e w' => e = .returned (.int .i64 (padsL a)) ∧ Below W.heap.size W w') := Lib.hid fun h W => pads26 W a h
  have CFy : Hid (fewA a P noSpots = true → errF a P = 0 → ∀ W, Below w.heap.size w W → Calls Try.prog 17 #[a.val, P.val] W fun e w' => ∃ ba bc bs ia ic is oa oc os, e = .returned (.tuple #[.agg #[.slice ba P.bs.length bc, .slice ia P.ins.toNat ic, .slice oa P.os.length oc], .int .i64 0]) ∧ SpotV.data ⟨ba, bc, bs, ia, ic, is, oa, oc, os⟩ = firstO a P ∧ SpotAt w' ⟨ba, bc, bs, ia, ic, is, oa, oc, os⟩ ∧ (bs.length = P.bs.length ∧ is.length = P.ins.toNat ∧ os.length = P.os.length) ∧ Below W.heap.size W w') :=
    Lib.hid fun h he W hW => Calls.mono (first17 W a P (hP.below hW (Nat.le_refl _)) (fewA_ok hP h).1) fun e w' k => FirstOut.ok (ds := ds) k he
  have CFn : Hid (fewA a P noSpots = true → ¬ errF a P = 0 → ∀ W, Below w.heap.size w W → Calls Try.prog 17 #[a.val, P.val] W fun e w' => ∃ ba bc ia ic oa oc, e = .returned (.tuple #[.agg #[.slice ba 0 bc, .slice ia 0 ic, .slice oa 0 oc], .int .i64 (errF a P)]) ∧ SpotAt w' ⟨ba, bc, [], ia, ic, [], oa, oc, []⟩ ∧ Below W.heap.size W w') :=
    Lib.hid fun h he W hW => Calls.mono (first17 W a P (hP.below hW (Nat.le_refl _)) (fewA_ok hP h).1) fun e w' k => FirstOut.no (ds := ds) k he
  have hsm : ∀ ba bc bs ia ic is oa oc os, fewA a P noSpots = true → (bs.length = P.bs.length ∧ is.length = P.ins.toNat ∧ os.length = P.os.length) → FewS ⟨ba, bc, bs, ia, ic, is, oa, oc, os⟩ := fun ba bc bs ia ic is oa oc os h hl => by
    have hf := (fewA_ok hP h).1
    exact ⟨by have := hf.bs; have := hl.1; dsimp only; omega, by have := hf.ins; have := hl.2.1; dsimp only; omega, by have := hf.os; have := hl.2.2; dsimp only; omega⟩
  have CRp : Hid (fewA a P noSpots = true → errF a P = 0 → ∀ W ba bc bs ia ic is oa oc os, Below w.heap.size w W → SpotAt W ⟨ba, bc, bs, ia, ic, is, oa, oc, os⟩ → SpotV.data ⟨ba, bc, bs, ia, ic, is, oa, oc, os⟩ = placeO a P ds → (bs.length = P.bs.length ∧ is.length = P.ins.toNat ∧ os.length = P.os.length) → (Calls Try.prog 13 #[a.val, P.val, .agg #[.slice ba P.bs.length bc, .slice ia P.ins.toNat ic, .slice oa P.os.length oc]] W fun e w' => e = .returned (.tuple #[.int .i64 (costL a P.data (placeO a P ds)), .int .i64 0]) ∧ Below W.heap.size W w') ∧ (Calls Try.prog 15 #[a.val, P.val, .agg #[.slice ba P.bs.length bc, .slice ia P.ins.toNat ic, .slice oa P.os.length oc]] W fun e w' => e = .returned (.int .i64 0) ∧ Below W.heap.size W w')) := Lib.hid fun h he W ba bc bs ia ic is oa oc os hW hR hdt hl => by
    obtain ⟨p1, p2⟩ := place_cost he hdt
    have q1 := cost_at W a P ⟨ba, bc, bs, ia, ic, is, oa, oc, os⟩ (hP.below hW (Nat.le_refl _)) (fewA_ok hP h).1 hR (hsm _ _ _ _ _ _ _ _ _ h hl) _ _ _ hl.1 hl.2.1 hl.2.2
    have q2 := check_at W a P ⟨ba, bc, bs, ia, ic, is, oa, oc, os⟩ (hP.below hW (Nat.le_refl _)) (fewA_ok hP h).1 hR (hsm _ _ _ _ _ _ _ _ _ h hl) _ _ _ hl.1 hl.2.1 hl.2.2
    rw [p1, p2] at q1
    rw [p1] at q2
    exact ⟨q1, q2⟩
  have CRf : Hid (fewA a P noSpots = true → errF a P = 0 → ∀ W ba bc bs ia ic is oa oc os, Below w.heap.size w W → SpotAt W ⟨ba, bc, bs, ia, ic, is, oa, oc, os⟩ → SpotV.data ⟨ba, bc, bs, ia, ic, is, oa, oc, os⟩ = firstO a P → (bs.length = P.bs.length ∧ is.length = P.ins.toNat ∧ os.length = P.os.length) → (Calls Try.prog 13 #[a.val, P.val, .agg #[.slice ba P.bs.length bc, .slice ia P.ins.toNat ic, .slice oa P.os.length oc]] W fun e w' => e = .returned (.tuple #[.int .i64 (costL a P.data (firstO a P)), .int .i64 0]) ∧ Below W.heap.size W w')) := Lib.hid fun h he W ba bc bs ia ic is oa oc os hW hR hdt hl => by
    obtain ⟨p1, p2⟩ := first_cost he hdt
    have q1 := cost_at W a P ⟨ba, bc, bs, ia, ic, is, oa, oc, os⟩ (hP.below hW (Nat.le_refl _)) (fewA_ok hP h).1 hR (hsm _ _ _ _ _ _ _ _ _ h hl) _ _ _ hl.1 hl.2.1 hl.2.2
    rw [p1, p2] at q1
    exact q1
  have HLe : Hid (errF a P = 0 → costL a P.data (placeO a P ds) ≤ costL a P.data (firstO a P) ∧ 0 ≤ costL a P.data (placeO a P ds)) := Lib.hid fun he => place_le he
  have HEr : Hid (archE a = 0 → orderE P.data = 0 → errF a P = if roomB a P = true then 0 else 290) := Lib.hid fun h1 h2 => by
    unfold errF
    rw [if_pos (below_of h1 h2)]
  have HRo : Hid (roomB a P = (decide ((P.bs.length : Int) ≤ tilesL a) && decide (P.ins + (P.os.length : Int) ≤ padsL a))) := Lib.hid rfl
  have HAr : Hid (archE a = 0 → IntKind.i64.wrap (a.w * a.h) = tilesL a) := Lib.hid fun h => by
    obtain ⟨h1, h2, -⟩ := archE_ok.1 h
    have h3 : 0 ≤ a.w * a.h := Int.mul_nonneg (by omega) (by omega)
    have h4 : a.w * a.h ≤ 16 * 16 := Int.mul_le_mul h1.2 h2.2 (by omega) (by omega)
    unfold tilesL
    exact wrapSmall (by omega) (by omega)
  have HIn : Hid (fewA a P noSpots = true → orderE P.data = 0 → IntKind.i64.wrap (P.ins + (P.os.length : Int)) = P.ins + (P.os.length : Int)) := Lib.hid fun h h2 => by
    have hf := (fewA_ok hP h).1
    have h0 : 0 ≤ P.ins := by
      unfold orderE at h2
      split at h2
      · rename_i hm
        unfold mayB at hm
        simp only [Bool.and_eq_true, decide_eq_true_eq] at hm
        exact hm.1.1.1
      · cases h2
    have := hf.ins
    have := hf.os
    exact wrapSmall (by omega) (by omega)
  clear hsm
  obtain ⟨fB, hfB⟩ : ∃ b, b = fewA a P noSpots := ⟨_, rfl⟩
  obtain ⟨er, her⟩ : ∃ b, b = errF a P := ⟨_, rfl⟩
  obtain ⟨aE, haE⟩ : ∃ b, b = archE a := ⟨_, rfl⟩
  obtain ⟨oE, hoE⟩ : ∃ b, b = orderE P.data := ⟨_, rfl⟩
  obtain ⟨rB, hrB⟩ : ∃ b, b = roomB a P := ⟨_, rfl⟩
  obtain ⟨cp, hcp⟩ : ∃ b, b = costL a P.data (placeO a P ds) := ⟨_, rfl⟩
  obtain ⟨cf, hcf⟩ : ∃ b, b = costL a P.data (firstO a P) := ⟨_, rfl⟩
  obtain ⟨D, hD⟩ : ∃ b, b = placeO a P ds := ⟨_, rfl⟩
  obtain ⟨E, hE⟩ : ∃ b, b = firstO a P := ⟨_, rfl⟩
  obtain ⟨tt, htt⟩ : ∃ b, b = tilesL a := ⟨_, rfl⟩
  obtain ⟨pd, hpd⟩ : ∃ b, b = padsL a := ⟨_, rfl⟩
  rw [← hcp] at CRp HLe
  rw [← hcf] at CRf HLe
  rw [← hfB] at CF CPy CPn CFy CFn CRp CRf C25 HIn
  rw [← her] at CPy CPn CFy CFn CRp CRf HLe HEr
  rw [← haE] at C24 C26 HEr HAr
  rw [← hoE] at C25 HEr HIn
  rw [← hrB] at HEr HRo
  rw [← hD] at CPy CRp
  rw [← hE] at CFy CRf
  rw [← htt] at HRo HAr
  rw [← hpd] at HRo C26
  clear hfB her haE hoE hrB hcp hcf hD hE htt hpd hP ha hd hr hn
  obtain ⟨aw, ah, at_⟩ := a
  obtain ⟨pi, pa, pc, pb, qa, qc, qb⟩ := P
  (try unfold ArchV.val at CF)
  (try unfold PackV.val at CF)
  (try unfold ArchV.val at C24)
  (try unfold PackV.val at C24)
  (try unfold ArchV.val at C25)
  (try unfold PackV.val at C25)
  (try unfold ArchV.val at C26)
  (try unfold PackV.val at C26)
  (try unfold ArchV.val at CPy)
  (try unfold PackV.val at CPy)
  (try unfold ArchV.val at CPn)
  (try unfold PackV.val at CPn)
  (try unfold ArchV.val at CFy)
  (try unfold PackV.val at CFy)
  (try unfold ArchV.val at CFn)
  (try unfold PackV.val at CFn)
  (try unfold ArchV.val at CRp)
  (try unfold PackV.val at CRp)
  (try unfold ArchV.val at CRf)
  (try unfold PackV.val at CRf)
  (try unfold ArchV.val at HRo)
  (try unfold PackV.val at HRo)
  (try unfold ArchV.val at HIn)
  (try unfold PackV.val at HIn)
  (try unfold ArchV.val at HAr)
  (try unfold PackV.val at HAr)
  unfold ArchV.val PackV.val
  (try dsimp only at CF C24 C25 C26 CPy CPn CFy CFn CRp CRf HRo HIn HAr)
  (try dsimp only)
  obtain ⟨nb, hnb⟩ : ∃ n, n = pb.length := ⟨_, rfl⟩
  (try rw [← hnb] at CF)
  (try rw [← hnb] at C24)
  (try rw [← hnb] at C25)
  (try rw [← hnb] at C26)
  (try rw [← hnb] at CPy)
  (try rw [← hnb] at CPn)
  (try rw [← hnb] at CFy)
  (try rw [← hnb] at CFn)
  (try rw [← hnb] at CRp)
  (try rw [← hnb] at CRf)
  (try rw [← hnb] at HRo)
  (try rw [← hnb] at HIn)
  (try rw [← hnb] at HAr)
  (try rw [← hnb])
  obtain ⟨no, hno⟩ : ∃ n, n = qb.length := ⟨_, rfl⟩
  (try rw [← hno] at CF)
  (try rw [← hno] at C24)
  (try rw [← hno] at C25)
  (try rw [← hno] at C26)
  (try rw [← hno] at CPy)
  (try rw [← hno] at CPn)
  (try rw [← hno] at CFy)
  (try rw [← hno] at CFn)
  (try rw [← hno] at CRp)
  (try rw [← hno] at CRf)
  (try rw [← hno] at HRo)
  (try rw [← hno] at HIn)
  (try rw [← hno] at HAr)
  (try rw [← hno])
  obtain ⟨ni, hni⟩ : ∃ n, n = pi.toNat := ⟨_, rfl⟩
  rw [← hni] at CPy CFy CRp CRf
  clear hnb hno hni
  obtain ⟨H, hH⟩ : ∃ h, h = w.heap.size := ⟨_, rfl⟩
  obtain ⟨w1, hw1⟩ : ∃ W, W = ((w.alloc (.cells #[.int .i64 aw, .int .i64 ah, .int .i64 at_] 23)).alloc (.cells #[.int .i64 pi, .slice pa nb pc, .slice qa no qc] 27)) := ⟨_, rfl⟩
  obtain ⟨H1, hH1⟩ : ∃ x, x = H + 1 := ⟨_, rfl⟩
  have hs1 : w1.heap.size = H + 2 := by rw [hw1, hH]; simp
  have hX1 : Below w.heap.size w w1 := by rw [hw1]; exact ((Below.refl _ _).alloc (Nat.le_refl _) _).alloc (by simp <;> omega) _
  have hrw0 : w1.rowIs (H) 23 3 (fun i => ([.int .i64 aw, .int .i64 ah, .int .i64 at_] : List Value).getD i undef) := by rw [hw1, hH]; exact ((rowL_alloc w 23 [.int .i64 aw, .int .i64 ah, .int .i64 at_]).alloc (.cells #[.int .i64 pi, .slice pa nb pc, .slice qa no qc] 27))
  have hrw1 : w1.rowIs (H1) 27 3 (fun i => ([.int .i64 pi, .slice pa nb pc, .slice qa no qc] : List Value).getD i undef) := by
    have h := (rowL_alloc (w.alloc (.cells #[.int .i64 aw, .int .i64 ah, .int .i64 at_] 23)) 27 [.int .i64 pi, .slice pa nb pc, .slice qa no qc])
    have hsz : (w.alloc (.cells #[.int .i64 aw, .int .i64 ah, .int .i64 at_] 23)).heap.size = H1 := by rw [hH1, hH]; simp
    rw [hsz] at h
    rw [hw1]
    exact h
  have HK : Hid (∀ W, Below w1.heap.size w1 W → W.cell? ⟨H, 0, none⟩ = some (.int .i64 aw) ∧ W.cell? ⟨H, 1, none⟩ = some (.int .i64 ah) ∧ W.cell? ⟨H, 2, none⟩ = some (.int .i64 at_) ∧ W.cell? ⟨H1, 0, none⟩ = some (.int .i64 pi) ∧ W.cell? ⟨H1, 1, none⟩ = some (.slice pa nb pc) ∧ W.cell? ⟨H1, 2, none⟩ = some (.slice qa no qc)) := Lib.hid fun W hW => by
    have h0 := hrw0.of_block (hW.block H (by omega))
    have h1 := hrw1.of_block (hW.block H1 (by omega))
    exact ⟨h0.cell (by omega), h0.cell (by omega), h0.cell (by omega), h1.cell (by omega), h1.cell (by omega), h1.cell (by omega)⟩
  have HSz : Hid (w1.heap.size = H + 2 ∧ H = w.heap.size) := Lib.hid ⟨hs1, hH⟩
  have HXW : Hid (∀ W, Below w1.heap.size w1 W → Below w.heap.size w W) := Lib.hid fun W hW => hX1.trans (hW.mono (by omega))
  have HW1 := Lib.hid hw1
  have HHH := Lib.hid hH
  have HHH1 := Lib.hid hH1
  clear hw1 hX1 hs1 hH hrw0 hrw1 hH1
  go_enter Try.func10, Try.ntmps10
  go_wp2_with fail
  rw [← HW1.out]
  (try rw [← HHH.out])
  (try rw [← HHH1.out])
  refine Calls.mono (HL.out w1) ?_
  rintro e w2 ⟨rfl, hb⟩
  have HBw2 : Hid (Below w1.heap.size w1 w2) := Lib.hid (((Below.refl w1.heap.size w1)).trans (hb.mono ((Below.refl w1.heap.size w1)).size))
  have HVw2 : Hid (Below w1.heap.size w1 w2) := Lib.hid (((Below.refl w1.heap.size w1)).trans (hb.mono ((Below.refl w1.heap.size w1)).size))
  clear hb
  obtain ⟨a0, a1, a2, p0, p1, p2⟩ := HK.out w2 HVw2.out
  go_wp2_with fail
  clear a0 a1 a2 p0 p1 p2
  refine Calls.mono (CF.out w2) ?_
  rintro e w3 ⟨rfl, hb⟩
  have HBw3 : Hid (Below w1.heap.size w1 w3) := Lib.hid ((HBw2.out).trans (hb.mono (HBw2.out).size))
  have HVw3 : Hid (Below w1.heap.size w1 w3) := Lib.hid ((HVw2.out).trans (hb.mono (HVw2.out).size))
  clear hb
  cases hf : fB with
  | false =>
    subst hf
    go_wp2_with fail
    go_ret
    exact ⟨rfl, HXW.out _ HBw3.out⟩
  | true =>
    subst hf
    obtain ⟨a0, a1, a2, p0, p1, p2⟩ := HK.out w3 HVw3.out
    by_cases h60 : n ≤ 60
    rotate_left
    · have d1 : decide ((n : Int) > 60) = true := by rw [decide_eq_true_eq]; omega
      go_wp2_with fail
      go_ret
      exact ⟨rfl, HXW.out _ HBw3.out⟩
    have d1 : decide ((n : Int) > 60) = false := by rw [decide_eq_false_iff_not]; omega
    have H60 := Lib.hid h60
    clear h60
    go_wp2_with fail
    clear d1
    clear a0 a1 a2 p0 p1 p2
    refine Calls.mono (C24.out w3) ?_
    rintro e w4 ⟨rfl, hb⟩
    have HBw4 : Hid (Below w1.heap.size w1 w4) := Lib.hid ((HBw3.out).trans (hb.mono (HBw3.out).size))
    have HVw4 : Hid (Below w1.heap.size w1 w4) := Lib.hid ((HVw3.out).trans (hb.mono (HVw3.out).size))
    clear hb
    obtain ⟨a0, a1, a2, p0, p1, p2⟩ := HK.out w4 HVw4.out
    by_cases h1 : aE = 0
    rotate_left
    · have d2 : (aE != 0) = true := by simpa using h1
      have d3 : (aE == 0) = false := by simpa using h1
      go_wp2_with fail
      go_ret
      exact ⟨rfl, HXW.out _ HBw4.out⟩
    subst h1
    go_wp2_with fail
    clear a0 a1 a2 p0 p1 p2
    refine Calls.mono (C25.out (by trivial) w4 (HXW.out _ HBw4.out)) ?_
    rintro e w5 ⟨rfl, hb⟩
    have HBw5 : Hid (Below w1.heap.size w1 w5) := Lib.hid ((HBw4.out).trans (hb.mono (HBw4.out).size))
    have HVw5 : Hid (Below w1.heap.size w1 w5) := Lib.hid ((HVw4.out).trans (hb.mono (HVw4.out).size))
    clear hb
    obtain ⟨a0, a1, a2, p0, p1, p2⟩ := HK.out w5 HVw5.out
    by_cases h1 : oE = 0
    rotate_left
    · have d2 : (oE != 0) = true := by simpa using h1
      have d3 : (oE == 0) = false := by simpa using h1
      go_wp2_with fail
      go_ret
      exact ⟨rfl, HXW.out _ HBw5.out⟩
    subst h1
    have her := HEr.out (by trivial) (by trivial)
    cases hR : rB with
    | false =>
      subst hR
      have he : ¬ er = 0 := by rw [her, if_neg (by decide)]; decide
      have he2 : er = 290 := by rw [her, if_neg (by decide)]
      have HE := Lib.hid he
      go_wp2_with fail
      clear a0 a1 a2 p0 p1 p2
      refine Calls.mono (CPn.out (by trivial) H60.out HE.out w5 (HXW.out _ HBw5.out)) ?_
      rintro e v6 ⟨rba, rbc, ria, ric, roa, roc, rfl, hR9, hb⟩
      have HBv6 : Hid (Below w1.heap.size w1 v6) := Lib.hid ((HBw5.out).trans (hb.mono (HBw5.out).size))
      have HVv6 : Hid (Below w1.heap.size w1 v6) := Lib.hid ((HVw5.out).trans (hb.mono (HVw5.out).size))
      clear hb
      obtain ⟨B8, hB8⟩ : ∃ x, x = v6.heap.size := ⟨_, rfl⟩
      obtain ⟨w6, hw6⟩ : ∃ W, W = v6.alloc (.cells #[.slice rba 0 rbc, .slice ria 0 ric, .slice roa 0 roc] 29) := ⟨_, rfl⟩
      have hvw6 : Below v6.heap.size v6 w6 := by rw [hw6]; exact (Below.refl _ _).alloc (Nat.le_refl _) _
      have HBw6 : Hid (Below w1.heap.size w1 w6) := Lib.hid ((HBv6.out).trans (hvw6.mono (HBv6.out).size))
      have HUw6 := Lib.hid hvw6
      have hrw6 : w6.rowIs (B8) 29 3 (fun i => ([.slice rba 0 rbc, .slice ria 0 ric, .slice roa 0 roc] : List Value).getD i undef) := by rw [hw6, hB8]; exact rowL_alloc v6 29 [.slice rba 0 rbc, .slice ria 0 ric, .slice roa 0 roc]
      have HKw6 : Hid (∀ W, Below w6.heap.size w6 W → W.cell? ⟨H, 0, none⟩ = some (.int .i64 aw) ∧ W.cell? ⟨H, 1, none⟩ = some (.int .i64 ah) ∧ W.cell? ⟨H, 2, none⟩ = some (.int .i64 at_) ∧ W.cell? ⟨H1, 0, none⟩ = some (.int .i64 pi) ∧ W.cell? ⟨H1, 1, none⟩ = some (.slice pa nb pc) ∧ W.cell? ⟨H1, 2, none⟩ = some (.slice qa no qc) ∧ W.cell? ⟨B8, 0, none⟩ = some (.slice rba 0 rbc) ∧ W.cell? ⟨B8, 1, none⟩ = some (.slice ria 0 ric) ∧ W.cell? ⟨B8, 2, none⟩ = some (.slice roa 0 roc)) := Lib.hid fun W hW => by
        obtain ⟨a0, a1, a2, p0, p1, p2⟩ := HK.out W ((HVv6.out).trans ((hvw6.trans (hW.mono hvw6.size)).mono (HVv6.out).size))
        have h := hrw6.of_block (hW.block B8 hrw6.lt)
        exact ⟨a0, a1, a2, p0, p1, p2, h.cell (by omega), h.cell (by omega), h.cell (by omega)⟩
      have hk := HKw6.out w6 (Below.refl _ _)
      clear hvw6 hrw6
      rw [hw6, hB8] at hk
      obtain ⟨a0, a1, a2, p0, p1, p2, x0, x1, x2⟩ := hk
      go_wp2_with fail
      clear a0 a1 a2 p0 p1 p2 x0 x1 x2
      rw [← hw6]
      (try rw [← hB8])
      clear hw6 hB8
      refine Calls.mono (CFn.out (by trivial) HE.out w6 (HXW.out _ HBw6.out)) ?_
      rintro e v7 ⟨qba, qbc, qia, qic, qoa, qoc, rfl, hQ9, hb⟩
      have HBv7 : Hid (Below w1.heap.size w1 v7) := Lib.hid ((HBw6.out).trans (hb.mono (HBw6.out).size))
      have HVv7 : Hid (Below w6.heap.size w6 v7) := Lib.hid (((Below.refl w6.heap.size w6)).trans (hb.mono ((Below.refl w6.heap.size w6)).size))
      clear hb
      obtain ⟨B10, hB10⟩ : ∃ x, x = v7.heap.size := ⟨_, rfl⟩
      obtain ⟨w7, hw7⟩ : ∃ W, W = v7.alloc (.cells #[.slice qba 0 qbc, .slice qia 0 qic, .slice qoa 0 qoc] 29) := ⟨_, rfl⟩
      have hvw7 : Below v7.heap.size v7 w7 := by rw [hw7]; exact (Below.refl _ _).alloc (Nat.le_refl _) _
      have HBw7 : Hid (Below w1.heap.size w1 w7) := Lib.hid ((HBv7.out).trans (hvw7.mono (HBv7.out).size))
      have HUw7 := Lib.hid hvw7
      have hrw7 : w7.rowIs (B10) 29 3 (fun i => ([.slice qba 0 qbc, .slice qia 0 qic, .slice qoa 0 qoc] : List Value).getD i undef) := by rw [hw7, hB10]; exact rowL_alloc v7 29 [.slice qba 0 qbc, .slice qia 0 qic, .slice qoa 0 qoc]
      have HKw7 : Hid (∀ W, Below w7.heap.size w7 W → W.cell? ⟨H, 0, none⟩ = some (.int .i64 aw) ∧ W.cell? ⟨H, 1, none⟩ = some (.int .i64 ah) ∧ W.cell? ⟨H, 2, none⟩ = some (.int .i64 at_) ∧ W.cell? ⟨H1, 0, none⟩ = some (.int .i64 pi) ∧ W.cell? ⟨H1, 1, none⟩ = some (.slice pa nb pc) ∧ W.cell? ⟨H1, 2, none⟩ = some (.slice qa no qc) ∧ W.cell? ⟨B8, 0, none⟩ = some (.slice rba 0 rbc) ∧ W.cell? ⟨B8, 1, none⟩ = some (.slice ria 0 ric) ∧ W.cell? ⟨B8, 2, none⟩ = some (.slice roa 0 roc) ∧ W.cell? ⟨B10, 0, none⟩ = some (.slice qba 0 qbc) ∧ W.cell? ⟨B10, 1, none⟩ = some (.slice qia 0 qic) ∧ W.cell? ⟨B10, 2, none⟩ = some (.slice qoa 0 qoc)) := Lib.hid fun W hW => by
        obtain ⟨a0, a1, a2, p0, p1, p2, x0, x1, x2⟩ := HKw6.out W ((HVv7.out).trans ((hvw7.trans (hW.mono hvw7.size)).mono (HVv7.out).size))
        have h := hrw7.of_block (hW.block B10 hrw7.lt)
        exact ⟨a0, a1, a2, p0, p1, p2, x0, x1, x2, h.cell (by omega), h.cell (by omega), h.cell (by omega)⟩
      have hk := HKw7.out w7 (Below.refl _ _)
      clear hvw7 hrw7
      rw [hw7, hB10] at hk
      obtain ⟨a0, a1, a2, p0, p1, p2, x0, x1, x2, y0, y1, y2⟩ := hk
      go_upto_region 6 with fail
      clear a0 a1 a2 p0 p1 p2 x0 x1 x2 y0 y1 y2
      rw [← hw7]
      (try rw [← hB10])
      clear hw7 hB10
      subst he2
      clear her
      have HW0 := Lib.hid (HAr.out (by trivial))
      have HW1i := Lib.hid (HIn.out (by trivial) (by trivial))
      have hro := HRo.out
      go_cut [12] from 52 to 71 (fun r wx => r = .bool false ∧ Hid (Below w7.heap.size w7 wx))
      case first =>
        by_cases hb1 : (nb : Int) ≤ tt
        · have g1 : decide ((nb : Int) ≤ tt) = true := by simpa using hb1
          have HG2 : Hid (decide (pi + (no : Int) ≤ pd) = false) := Lib.hid (by rw [g1] at hro; simpa using hro.symm)
          clear hb1 hro
          have HKSa : Hid (∀ W, Below w7.heap.size w7 W → W.cell? ⟨H, 0, none⟩ = some (.int .i64 aw) ∧ W.cell? ⟨H, 1, none⟩ = some (.int .i64 ah) ∧ W.cell? ⟨H, 2, none⟩ = some (.int .i64 at_) ∧ W.cell? ⟨H1, 0, none⟩ = some (.int .i64 pi) ∧ W.cell? ⟨H1, 1, none⟩ = some (.slice pa nb pc) ∧ W.cell? ⟨H1, 2, none⟩ = some (.slice qa no qc) ∧ W.cell? ⟨B8, 0, none⟩ = some (.slice rba 0 rbc) ∧ W.cell? ⟨B8, 1, none⟩ = some (.slice ria 0 ric) ∧ W.cell? ⟨B8, 2, none⟩ = some (.slice roa 0 roc) ∧ W.cell? ⟨B10, 0, none⟩ = some (.slice qba 0 qbc) ∧ W.cell? ⟨B10, 1, none⟩ = some (.slice qia 0 qic) ∧ W.cell? ⟨B10, 2, none⟩ = some (.slice qoa 0 qoc)) := Lib.hid fun W hW => HKw7.out W (((Below.refl w7.heap.size w7)).trans (hW.mono ((Below.refl w7.heap.size w7)).size))
          refine wp_region_held_drew (S := fun w' => w'.cell? ⟨H, 0, none⟩ = some (.int .i64 aw) ∧ w'.cell? ⟨H, 1, none⟩ = some (.int .i64 ah) ∧ w'.cell? ⟨H, 2, none⟩ = some (.int .i64 at_) ∧ w'.cell? ⟨H1, 0, none⟩ = some (.int .i64 pi) ∧ w'.cell? ⟨H1, 1, none⟩ = some (.slice pa nb pc) ∧ w'.cell? ⟨H1, 2, none⟩ = some (.slice qa no qc) ∧ w'.cell? ⟨B8, 0, none⟩ = some (.slice rba 0 rbc) ∧ w'.cell? ⟨B8, 1, none⟩ = some (.slice ria 0 ric) ∧ w'.cell? ⟨B8, 2, none⟩ = some (.slice roa 0 roc) ∧ w'.cell? ⟨B10, 0, none⟩ = some (.slice qba 0 qbc) ∧ w'.cell? ⟨B10, 1, none⟩ = some (.slice qia 0 qic) ∧ w'.cell? ⟨B10, 2, none⟩ = some (.slice qoa 0 qoc)) (by kernel_rfl) (HKSa.out _ (Below.refl _ _).drew) (fun hHeld => ?_)
          obtain ⟨v1, hv1⟩ : ∃ W, W = w7.drew := ⟨_, rfl⟩
          have hb1 : Below w7.heap.size w7 v1 := by rw [hv1]; exact (Below.refl _ _).drew
          rw [← hv1] at hHeld ⊢
          have HBv1 := Lib.hid hb1
          clear hb1 hv1
          refine wpAnyH_take (i := 0) (v := ?_) (by simp only [List.getElem?_toArray, List.getElem?_cons_succ, List.getElem?_cons_zero]; rfl) (by kernel_rfl) (by kernel_rfl) (by kernel_rfl) (by intro _ _ _ h; exact h) (Or.inl ⟨by rfl, ?_⟩) (by assumption) ?_
          rotate_left
          · intro w hSw; (try dsimp only at hSw); go_simp; try with_reducible rfl
          try simp only [Act.put, List.setIfInBounds_toArray, List.set_cons_zero, List.set_cons_succ]
          refine wpAnyH_take (i := 1) (v := ?_) (by simp only [List.getElem?_toArray, List.getElem?_cons_succ, List.getElem?_cons_zero]; rfl) (by kernel_rfl) (by kernel_rfl) (by kernel_rfl) (by intro _ _ _ h; exact h) (Or.inl ⟨by rfl, ?_⟩) (by assumption) ?_
          rotate_left
          · intro w hSw; (try dsimp only at hSw); go_simp; try with_reducible rfl
          try simp only [Act.put, List.setIfInBounds_toArray, List.set_cons_zero, List.set_cons_succ]
          refine wpAnyH_take (i := 2) (v := ?_) (by simp only [List.getElem?_toArray, List.getElem?_cons_succ, List.getElem?_cons_zero]; rfl) (by kernel_rfl) (by kernel_rfl) (by kernel_rfl) (by intro _ _ _ h; exact h) (Or.inl ⟨by rfl, ?_⟩) (by assumption) ?_
          rotate_left
          · intro w hSw; (try dsimp only at hSw); go_simp; try with_reducible rfl
          try simp only [Act.put, List.setIfInBounds_toArray, List.set_cons_zero, List.set_cons_succ]
          refine wpAnyH_take (i := 3) (v := ?_) (by simp only [List.getElem?_toArray, List.getElem?_cons_succ, List.getElem?_cons_zero]; rfl) (by kernel_rfl) (by kernel_rfl) (by kernel_rfl) (by intro _ _ _ h; exact h) (Or.inl ⟨by rfl, ?_⟩) (by assumption) ?_
          rotate_left
          · intro w hSw; (try dsimp only at hSw); go_simp; try with_reducible rfl
          try simp only [Act.put, List.setIfInBounds_toArray, List.set_cons_zero, List.set_cons_succ]
          refine wpAnyH_take (i := 4) (v := ?_) (by simp only [List.getElem?_toArray, List.getElem?_cons_succ, List.getElem?_cons_zero]; rfl) (by kernel_rfl) (by kernel_rfl) (by kernel_rfl) (by intro _ _ _ h; exact h) (Or.inl ⟨by rfl, ?_⟩) (by assumption) ?_
          rotate_left
          · intro w hSw; (try dsimp only at hSw); go_simp; try with_reducible rfl
          try simp only [Act.put, List.setIfInBounds_toArray, List.set_cons_zero, List.set_cons_succ]
          refine wpAnyH_take (i := 5) (v := ?_) (by simp only [List.getElem?_toArray, List.getElem?_cons_succ, List.getElem?_cons_zero]; rfl) (by kernel_rfl) (by kernel_rfl) (by kernel_rfl) (by intro _ _ _ h; exact h) (Or.inl ⟨by rfl, ?_⟩) (by assumption) ?_
          rotate_left
          · intro w hSw; (try dsimp only at hSw); go_simp; try with_reducible rfl
          try simp only [Act.put, List.setIfInBounds_toArray, List.set_cons_zero, List.set_cons_succ]
          refine wpAnyH_take (i := 6) (v := ?_) (by simp only [List.getElem?_toArray, List.getElem?_cons_succ, List.getElem?_cons_zero]; rfl) (by kernel_rfl) (by kernel_rfl) (by kernel_rfl) (by intro _ _ _ h; exact h) (Or.inl ⟨by rfl, ?_⟩) (by assumption) ?_
          rotate_left
          · intro w hSw; (try dsimp only at hSw); go_simp; try with_reducible rfl
          try simp only [Act.put, List.setIfInBounds_toArray, List.set_cons_zero, List.set_cons_succ]
          refine wpAnyH_take (i := 7) (v := ?_) (by simp only [List.getElem?_toArray, List.getElem?_cons_succ, List.getElem?_cons_zero]; rfl) (by kernel_rfl) (by kernel_rfl) (by kernel_rfl) (by intro _ _ _ h; exact h) (Or.inl ⟨by rfl, ?_⟩) (by assumption) ?_
          rotate_left
          · intro w hSw; (try dsimp only at hSw); go_simp; rw [HW0.out]
          try simp only [Act.put, List.setIfInBounds_toArray, List.set_cons_zero, List.set_cons_succ]
          refine wpAnyH_take (i := 8) (v := ?_) (by simp only [List.getElem?_toArray, List.getElem?_cons_succ, List.getElem?_cons_zero]; rfl) (by kernel_rfl) (by kernel_rfl) (by kernel_rfl) (by intro _ _ _ h; exact h) (Or.inl ⟨by rfl, ?_⟩) (by assumption) ?_
          rotate_left
          · intro w hSw; (try dsimp only at hSw); go_simp; first | rw [g1] | with_reducible rfl
          try simp only [Act.put, List.setIfInBounds_toArray, List.set_cons_zero, List.set_cons_succ]
          refine wpAnyH_take (i := 9) (v := ?_) (by simp only [List.getElem?_toArray, List.getElem?_cons_succ, List.getElem?_cons_zero]; rfl) (by kernel_rfl) (by kernel_rfl) (by kernel_rfl) (by intro _ _ _ h; exact h) (Or.inl ⟨by rfl, ?_⟩) (by assumption) ?_
          rotate_left
          · intro w hSw; (try dsimp only at hSw); go_simp; try with_reducible rfl
          try simp only [Act.put, List.setIfInBounds_toArray, List.set_cons_zero, List.set_cons_succ]
          refine wpAnyH_take (i := 10) (v := ?_) (by simp only [List.getElem?_toArray, List.getElem?_cons_succ, List.getElem?_cons_zero]; rfl) (by kernel_rfl) (by kernel_rfl) (by kernel_rfl) (by intro _ _ _ h; exact h) (Or.inl ⟨by rfl, ?_⟩) (by assumption) ?_
          rotate_left
          · intro w hSw; (try dsimp only at hSw); go_simp; try with_reducible rfl
          try simp only [Act.put, List.setIfInBounds_toArray, List.set_cons_zero, List.set_cons_succ]
          refine wpAnyH_take (i := 11) (v := ?_) (by simp only [List.getElem?_toArray, List.getElem?_cons_succ, List.getElem?_cons_zero]; rfl) (by kernel_rfl) (by kernel_rfl) (by kernel_rfl) (by intro _ _ _ h; exact h) (Or.inl ⟨by rfl, ?_⟩) (by assumption) ?_
          rotate_left
          · intro w hSw; (try dsimp only at hSw); go_simp; try with_reducible rfl
          try simp only [Act.put, List.setIfInBounds_toArray, List.set_cons_zero, List.set_cons_succ]
          refine wpAnyH_take (i := 12) (v := ?_) (by simp only [List.getElem?_toArray, List.getElem?_cons_succ, List.getElem?_cons_zero]; rfl) (by kernel_rfl) (by kernel_rfl) (by kernel_rfl) (by intro _ _ _ h; exact h) (Or.inl ⟨by rfl, ?_⟩) (by assumption) ?_
          rotate_left
          · intro w hSw; (try dsimp only at hSw); go_simp; try with_reducible rfl
          try simp only [Act.put, List.setIfInBounds_toArray, List.set_cons_zero, List.set_cons_succ]
          refine wpAnyH_take (i := 13) (v := ?_) (by simp only [List.getElem?_toArray, List.getElem?_cons_succ, List.getElem?_cons_zero]; rfl) (by kernel_rfl) (by kernel_rfl) (by kernel_rfl) (by intro _ _ _ h; exact h) (Or.inl ⟨by rfl, ?_⟩) (by assumption) ?_
          rotate_left
          · intro w hSw; (try dsimp only at hSw); go_simp; try with_reducible rfl
          try simp only [Act.put, List.setIfInBounds_toArray, List.set_cons_zero, List.set_cons_succ]
          refine wpAnyH_take (i := 14) (v := ?_) (by simp only [List.getElem?_toArray, List.getElem?_cons_succ, List.getElem?_cons_zero]; rfl) (by kernel_rfl) (by kernel_rfl) (by kernel_rfl) (by intro _ _ _ h; exact h) (Or.inl ⟨by rfl, ?_⟩) (by assumption) ?_
          rotate_left
          · intro w hSw; (try dsimp only at hSw); go_simp; try with_reducible rfl
          try simp only [Act.put, List.setIfInBounds_toArray, List.set_cons_zero, List.set_cons_succ]
          refine wpAnyH_take (i := 15) (v := ?_) (by simp only [List.getElem?_toArray, List.getElem?_cons_succ, List.getElem?_cons_zero]; rfl) (by kernel_rfl) (by kernel_rfl) (by kernel_rfl) (by intro _ _ _ h; exact h) (Or.inl ⟨by rfl, ?_⟩) (by assumption) ?_
          rotate_left
          · intro w hSw; (try dsimp only at hSw); go_simp; rw [HW1i.out]
          try simp only [Act.put, List.setIfInBounds_toArray, List.set_cons_zero, List.set_cons_succ]
          refine wpAnyH_take (i := 16) (v := ?_) (by simp only [List.getElem?_toArray, List.getElem?_cons_succ, List.getElem?_cons_zero]; rfl) (by kernel_rfl) (by kernel_rfl) (by kernel_rfl) (by intro _ _ _ h; exact h) (Or.inl ⟨by rfl, ?_⟩) (by assumption) ?_
          rotate_left
          · intro w hSw; (try dsimp only at hSw); go_simp; try with_reducible rfl
          try simp only [Act.put, List.setIfInBounds_toArray, List.set_cons_zero, List.set_cons_succ]
          refine wpAnyH_ready (rs := [17]) (by kernel_rfl) (by simp) ?_
          refine AllReadyH.cons (o := _) (by simp only [List.getElem?_toArray, List.getElem?_cons_succ, List.getElem?_cons_zero]; rfl) (fun K hK => ?_) AllReadyH.nil
          go_simp
          go_at_call 26
          refine Calls.mono (C26.out (by trivial) v1) ?_
          rintro e v2 ⟨rfl, hb2⟩
          have HBv2 := Lib.hid ((HBv1.out).trans (hb2.mono (HBv1.out).size))
          clear hb2
          go_simp
          refine hK.out _ _ (by exact HKSa.out _ HBv2.out) (fun hHeld => ?_)
          clear hK K
          try simp only [Act.put, List.setIfInBounds_toArray, List.set_cons_zero, List.set_cons_succ]
          refine wpAnyH_take (i := 18) (v := ?_) (by simp only [List.getElem?_toArray, List.getElem?_cons_succ, List.getElem?_cons_zero]; rfl) (by kernel_rfl) (by kernel_rfl) (by kernel_rfl) (by intro _ _ _ h; exact h) (Or.inl ⟨by rfl, ?_⟩) (by assumption) ?_
          rotate_left
          · intro w hSw; (try dsimp only at hSw); go_simp; rw [HG2.out]
          try simp only [Act.put, List.setIfInBounds_toArray, List.set_cons_zero, List.set_cons_succ]
          refine wpAnyH_take (i := 19) (v := ?_) (by simp only [List.getElem?_toArray, List.getElem?_cons_succ, List.getElem?_cons_zero]; rfl) (by kernel_rfl) (by kernel_rfl) (by kernel_rfl) (by intro _ _ _ h; exact h) (Or.inl ⟨by rfl, ?_⟩) (by assumption) ?_
          rotate_left
          · intro w hSw; (try dsimp only at hSw); go_simp; try with_reducible rfl
          try simp only [Act.put, List.setIfInBounds_toArray, List.set_cons_zero, List.set_cons_succ]
          refine wpAnyH_take (i := 20) (v := ?_) (by simp only [List.getElem?_toArray, List.getElem?_cons_succ, List.getElem?_cons_zero]; rfl) (by kernel_rfl) (by kernel_rfl) (by kernel_rfl) (by intro _ _ _ h; exact h) (Or.inl ⟨by rfl, ?_⟩) (by assumption) ?_
          rotate_left
          · intro w hSw; (try dsimp only at hSw); go_simp; try with_reducible rfl
          try simp only [Act.put, List.setIfInBounds_toArray, List.set_cons_zero, List.set_cons_succ]
          refine wpAnyH_done (by kernel_rfl) ?_ _
          go_wp2_with fail
          go_meet
          exact ⟨rfl, Lib.hid (HBv2.out)⟩
        · have g1 : decide ((nb : Int) ≤ tt) = false := by simpa using hb1
          clear hb1 hro
          have HKSb : Hid (∀ W, Below w7.heap.size w7 W → W.cell? ⟨H, 0, none⟩ = some (.int .i64 aw) ∧ W.cell? ⟨H, 1, none⟩ = some (.int .i64 ah) ∧ W.cell? ⟨H, 2, none⟩ = some (.int .i64 at_) ∧ W.cell? ⟨H1, 0, none⟩ = some (.int .i64 pi) ∧ W.cell? ⟨H1, 1, none⟩ = some (.slice pa nb pc) ∧ W.cell? ⟨H1, 2, none⟩ = some (.slice qa no qc) ∧ W.cell? ⟨B8, 0, none⟩ = some (.slice rba 0 rbc) ∧ W.cell? ⟨B8, 1, none⟩ = some (.slice ria 0 ric) ∧ W.cell? ⟨B8, 2, none⟩ = some (.slice roa 0 roc) ∧ W.cell? ⟨B10, 0, none⟩ = some (.slice qba 0 qbc) ∧ W.cell? ⟨B10, 1, none⟩ = some (.slice qia 0 qic) ∧ W.cell? ⟨B10, 2, none⟩ = some (.slice qoa 0 qoc)) := Lib.hid fun W hW => HKw7.out W (((Below.refl w7.heap.size w7)).trans (hW.mono ((Below.refl w7.heap.size w7)).size))
          refine wp_region_held_drew (S := fun w' => w'.cell? ⟨H, 0, none⟩ = some (.int .i64 aw) ∧ w'.cell? ⟨H, 1, none⟩ = some (.int .i64 ah) ∧ w'.cell? ⟨H, 2, none⟩ = some (.int .i64 at_) ∧ w'.cell? ⟨H1, 0, none⟩ = some (.int .i64 pi) ∧ w'.cell? ⟨H1, 1, none⟩ = some (.slice pa nb pc) ∧ w'.cell? ⟨H1, 2, none⟩ = some (.slice qa no qc) ∧ w'.cell? ⟨B8, 0, none⟩ = some (.slice rba 0 rbc) ∧ w'.cell? ⟨B8, 1, none⟩ = some (.slice ria 0 ric) ∧ w'.cell? ⟨B8, 2, none⟩ = some (.slice roa 0 roc) ∧ w'.cell? ⟨B10, 0, none⟩ = some (.slice qba 0 qbc) ∧ w'.cell? ⟨B10, 1, none⟩ = some (.slice qia 0 qic) ∧ w'.cell? ⟨B10, 2, none⟩ = some (.slice qoa 0 qoc)) (by kernel_rfl) (HKSb.out _ (Below.refl _ _).drew) (fun hHeld => ?_)
          obtain ⟨v3, hv3⟩ : ∃ W, W = w7.drew := ⟨_, rfl⟩
          have hb3 : Below w7.heap.size w7 v3 := by rw [hv3]; exact (Below.refl _ _).drew
          rw [← hv3] at hHeld ⊢
          have HBv3 := Lib.hid hb3
          clear hb3 hv3
          refine wpAnyH_take (i := 0) (v := ?_) (by simp only [List.getElem?_toArray, List.getElem?_cons_succ, List.getElem?_cons_zero]; rfl) (by kernel_rfl) (by kernel_rfl) (by kernel_rfl) (by intro _ _ _ h; exact h) (Or.inl ⟨by rfl, ?_⟩) (by assumption) ?_
          rotate_left
          · intro w hSw; (try dsimp only at hSw); go_simp; try with_reducible rfl
          try simp only [Act.put, List.setIfInBounds_toArray, List.set_cons_zero, List.set_cons_succ]
          refine wpAnyH_take (i := 1) (v := ?_) (by simp only [List.getElem?_toArray, List.getElem?_cons_succ, List.getElem?_cons_zero]; rfl) (by kernel_rfl) (by kernel_rfl) (by kernel_rfl) (by intro _ _ _ h; exact h) (Or.inl ⟨by rfl, ?_⟩) (by assumption) ?_
          rotate_left
          · intro w hSw; (try dsimp only at hSw); go_simp; try with_reducible rfl
          try simp only [Act.put, List.setIfInBounds_toArray, List.set_cons_zero, List.set_cons_succ]
          refine wpAnyH_take (i := 2) (v := ?_) (by simp only [List.getElem?_toArray, List.getElem?_cons_succ, List.getElem?_cons_zero]; rfl) (by kernel_rfl) (by kernel_rfl) (by kernel_rfl) (by intro _ _ _ h; exact h) (Or.inl ⟨by rfl, ?_⟩) (by assumption) ?_
          rotate_left
          · intro w hSw; (try dsimp only at hSw); go_simp; try with_reducible rfl
          try simp only [Act.put, List.setIfInBounds_toArray, List.set_cons_zero, List.set_cons_succ]
          refine wpAnyH_take (i := 3) (v := ?_) (by simp only [List.getElem?_toArray, List.getElem?_cons_succ, List.getElem?_cons_zero]; rfl) (by kernel_rfl) (by kernel_rfl) (by kernel_rfl) (by intro _ _ _ h; exact h) (Or.inl ⟨by rfl, ?_⟩) (by assumption) ?_
          rotate_left
          · intro w hSw; (try dsimp only at hSw); go_simp; try with_reducible rfl
          try simp only [Act.put, List.setIfInBounds_toArray, List.set_cons_zero, List.set_cons_succ]
          refine wpAnyH_take (i := 4) (v := ?_) (by simp only [List.getElem?_toArray, List.getElem?_cons_succ, List.getElem?_cons_zero]; rfl) (by kernel_rfl) (by kernel_rfl) (by kernel_rfl) (by intro _ _ _ h; exact h) (Or.inl ⟨by rfl, ?_⟩) (by assumption) ?_
          rotate_left
          · intro w hSw; (try dsimp only at hSw); go_simp; try with_reducible rfl
          try simp only [Act.put, List.setIfInBounds_toArray, List.set_cons_zero, List.set_cons_succ]
          refine wpAnyH_take (i := 5) (v := ?_) (by simp only [List.getElem?_toArray, List.getElem?_cons_succ, List.getElem?_cons_zero]; rfl) (by kernel_rfl) (by kernel_rfl) (by kernel_rfl) (by intro _ _ _ h; exact h) (Or.inl ⟨by rfl, ?_⟩) (by assumption) ?_
          rotate_left
          · intro w hSw; (try dsimp only at hSw); go_simp; try with_reducible rfl
          try simp only [Act.put, List.setIfInBounds_toArray, List.set_cons_zero, List.set_cons_succ]
          refine wpAnyH_take (i := 6) (v := ?_) (by simp only [List.getElem?_toArray, List.getElem?_cons_succ, List.getElem?_cons_zero]; rfl) (by kernel_rfl) (by kernel_rfl) (by kernel_rfl) (by intro _ _ _ h; exact h) (Or.inl ⟨by rfl, ?_⟩) (by assumption) ?_
          rotate_left
          · intro w hSw; (try dsimp only at hSw); go_simp; try with_reducible rfl
          try simp only [Act.put, List.setIfInBounds_toArray, List.set_cons_zero, List.set_cons_succ]
          refine wpAnyH_take (i := 7) (v := ?_) (by simp only [List.getElem?_toArray, List.getElem?_cons_succ, List.getElem?_cons_zero]; rfl) (by kernel_rfl) (by kernel_rfl) (by kernel_rfl) (by intro _ _ _ h; exact h) (Or.inl ⟨by rfl, ?_⟩) (by assumption) ?_
          rotate_left
          · intro w hSw; (try dsimp only at hSw); go_simp; rw [HW0.out]
          try simp only [Act.put, List.setIfInBounds_toArray, List.set_cons_zero, List.set_cons_succ]
          refine wpAnyH_take (i := 8) (v := ?_) (by simp only [List.getElem?_toArray, List.getElem?_cons_succ, List.getElem?_cons_zero]; rfl) (by kernel_rfl) (by kernel_rfl) (by kernel_rfl) (by intro _ _ _ h; exact h) (Or.inl ⟨by rfl, ?_⟩) (by assumption) ?_
          rotate_left
          · intro w hSw; (try dsimp only at hSw); go_simp; first | rw [g1] | with_reducible rfl
          try simp only [Act.put, List.setIfInBounds_toArray, List.set_cons_zero, List.set_cons_succ]
          refine wpAnyH_take (i := 9) (v := ?_) (by simp only [List.getElem?_toArray, List.getElem?_cons_succ, List.getElem?_cons_zero]; rfl) (by kernel_rfl) (by kernel_rfl) (by kernel_rfl) (by intro _ _ _ h; exact h) (Or.inl ⟨by rfl, ?_⟩) (by assumption) ?_
          rotate_left
          · intro w hSw; (try dsimp only at hSw); go_simp; try with_reducible rfl
          try simp only [Act.put, List.setIfInBounds_toArray, List.set_cons_zero, List.set_cons_succ]
          refine wpAnyH_take (i := 10) (v := undef) (by simp only [List.getElem?_toArray, List.getElem?_cons_succ, List.getElem?_cons_zero]; rfl) (by kernel_rfl) (by kernel_rfl) (by kernel_rfl) (by intro _ _ _ h; exact h) (Or.inr ⟨by rfl, rfl⟩) (by assumption) ?_
          try simp only [Act.put, List.setIfInBounds_toArray, List.set_cons_zero, List.set_cons_succ]
          refine wpAnyH_take (i := 11) (v := undef) (by simp only [List.getElem?_toArray, List.getElem?_cons_succ, List.getElem?_cons_zero]; rfl) (by kernel_rfl) (by kernel_rfl) (by kernel_rfl) (by intro _ _ _ h; exact h) (Or.inr ⟨by rfl, rfl⟩) (by assumption) ?_
          try simp only [Act.put, List.setIfInBounds_toArray, List.set_cons_zero, List.set_cons_succ]
          refine wpAnyH_take (i := 12) (v := undef) (by simp only [List.getElem?_toArray, List.getElem?_cons_succ, List.getElem?_cons_zero]; rfl) (by kernel_rfl) (by kernel_rfl) (by kernel_rfl) (by intro _ _ _ h; exact h) (Or.inr ⟨by rfl, rfl⟩) (by assumption) ?_
          try simp only [Act.put, List.setIfInBounds_toArray, List.set_cons_zero, List.set_cons_succ]
          refine wpAnyH_take (i := 13) (v := undef) (by simp only [List.getElem?_toArray, List.getElem?_cons_succ, List.getElem?_cons_zero]; rfl) (by kernel_rfl) (by kernel_rfl) (by kernel_rfl) (by intro _ _ _ h; exact h) (Or.inr ⟨by rfl, rfl⟩) (by assumption) ?_
          try simp only [Act.put, List.setIfInBounds_toArray, List.set_cons_zero, List.set_cons_succ]
          refine wpAnyH_take (i := 14) (v := undef) (by simp only [List.getElem?_toArray, List.getElem?_cons_succ, List.getElem?_cons_zero]; rfl) (by kernel_rfl) (by kernel_rfl) (by kernel_rfl) (by intro _ _ _ h; exact h) (Or.inr ⟨by rfl, rfl⟩) (by assumption) ?_
          try simp only [Act.put, List.setIfInBounds_toArray, List.set_cons_zero, List.set_cons_succ]
          refine wpAnyH_take (i := 15) (v := undef) (by simp only [List.getElem?_toArray, List.getElem?_cons_succ, List.getElem?_cons_zero]; rfl) (by kernel_rfl) (by kernel_rfl) (by kernel_rfl) (by intro _ _ _ h; exact h) (Or.inr ⟨by rfl, rfl⟩) (by assumption) ?_
          try simp only [Act.put, List.setIfInBounds_toArray, List.set_cons_zero, List.set_cons_succ]
          refine wpAnyH_take (i := 16) (v := undef) (by simp only [List.getElem?_toArray, List.getElem?_cons_succ, List.getElem?_cons_zero]; rfl) (by kernel_rfl) (by kernel_rfl) (by kernel_rfl) (by intro _ _ _ h; exact h) (Or.inr ⟨by rfl, rfl⟩) (by assumption) ?_
          try simp only [Act.put, List.setIfInBounds_toArray, List.set_cons_zero, List.set_cons_succ]
          refine wpAnyH_take (i := 17) (v := undef) (by simp only [List.getElem?_toArray, List.getElem?_cons_succ, List.getElem?_cons_zero]; rfl) (by kernel_rfl) (by kernel_rfl) (by kernel_rfl) (by intro _ _ _ h; exact h) (Or.inr ⟨by rfl, rfl⟩) (by assumption) ?_
          try simp only [Act.put, List.setIfInBounds_toArray, List.set_cons_zero, List.set_cons_succ]
          refine wpAnyH_take (i := 18) (v := undef) (by simp only [List.getElem?_toArray, List.getElem?_cons_succ, List.getElem?_cons_zero]; rfl) (by kernel_rfl) (by kernel_rfl) (by kernel_rfl) (by intro _ _ _ h; exact h) (Or.inr ⟨by rfl, rfl⟩) (by assumption) ?_
          try simp only [Act.put, List.setIfInBounds_toArray, List.set_cons_zero, List.set_cons_succ]
          refine wpAnyH_take (i := 19) (v := ?_) (by simp only [List.getElem?_toArray, List.getElem?_cons_succ, List.getElem?_cons_zero]; rfl) (by kernel_rfl) (by kernel_rfl) (by kernel_rfl) (by intro _ _ _ h; exact h) (Or.inl ⟨by rfl, ?_⟩) (by assumption) ?_
          rotate_left
          · intro w hSw; (try dsimp only at hSw); go_simp; try with_reducible rfl
          try simp only [Act.put, List.setIfInBounds_toArray, List.set_cons_zero, List.set_cons_succ]
          refine wpAnyH_take (i := 20) (v := ?_) (by simp only [List.getElem?_toArray, List.getElem?_cons_succ, List.getElem?_cons_zero]; rfl) (by kernel_rfl) (by kernel_rfl) (by kernel_rfl) (by intro _ _ _ h; exact h) (Or.inl ⟨by rfl, ?_⟩) (by assumption) ?_
          rotate_left
          · intro w hSw; (try dsimp only at hSw); go_simp; try with_reducible rfl
          try simp only [Act.put, List.setIfInBounds_toArray, List.set_cons_zero, List.set_cons_succ]
          refine wpAnyH_done (by kernel_rfl) ?_ _
          go_wp2_with fail
          go_meet
          exact ⟨rfl, Lib.hid (HBv3.out)⟩
      case rest =>
        clear hro
        obtain ⟨rfl, HC⟩ := hcut
        obtain ⟨w8, hw8⟩ : ∃ W, W = wc := ⟨_, rfl⟩
        subst hw8
        obtain ⟨a0, a1, a2, p0, p1, p2, x0, x1, x2, y0, y1, y2⟩ := HKw7.out w8 HC.out
        go_wp2_with fail
        go_ret
        exact ⟨rfl, HXW.out _ (HBw7.out.trans (HC.out.mono HBw7.out.size))⟩
    | true =>
      subst hR
      have he : er = 0 := by rw [her, if_pos (by trivial)]
      subst he
      clear her
      go_wp2_with fail
      clear a0 a1 a2 p0 p1 p2
      refine Calls.mono (CPy.out (by trivial) H60.out (by trivial) w5 (HXW.out _ HBw5.out)) ?_
      rintro e v6 ⟨rba, rbc, rbs, ria, ric, ris, roa, roc, ros, rfl, hD1, hR9, hl1, hb⟩
      have HBv6 : Hid (Below w1.heap.size w1 v6) := Lib.hid ((HBw5.out).trans (hb.mono (HBw5.out).size))
      have HVv6 : Hid (Below w1.heap.size w1 v6) := Lib.hid ((HVw5.out).trans (hb.mono (HVw5.out).size))
      clear hb
      obtain ⟨B8, hB8⟩ : ∃ x, x = v6.heap.size := ⟨_, rfl⟩
      obtain ⟨w6, hw6⟩ : ∃ W, W = v6.alloc (.cells #[.slice rba nb rbc, .slice ria ni ric, .slice roa no roc] 29) := ⟨_, rfl⟩
      have hvw6 : Below v6.heap.size v6 w6 := by rw [hw6]; exact (Below.refl _ _).alloc (Nat.le_refl _) _
      have HBw6 : Hid (Below w1.heap.size w1 w6) := Lib.hid ((HBv6.out).trans (hvw6.mono (HBv6.out).size))
      have HUw6 := Lib.hid hvw6
      have hrw6 : w6.rowIs (B8) 29 3 (fun i => ([.slice rba nb rbc, .slice ria ni ric, .slice roa no roc] : List Value).getD i undef) := by rw [hw6, hB8]; exact rowL_alloc v6 29 [.slice rba nb rbc, .slice ria ni ric, .slice roa no roc]
      have HKw6 : Hid (∀ W, Below w6.heap.size w6 W → W.cell? ⟨H, 0, none⟩ = some (.int .i64 aw) ∧ W.cell? ⟨H, 1, none⟩ = some (.int .i64 ah) ∧ W.cell? ⟨H, 2, none⟩ = some (.int .i64 at_) ∧ W.cell? ⟨H1, 0, none⟩ = some (.int .i64 pi) ∧ W.cell? ⟨H1, 1, none⟩ = some (.slice pa nb pc) ∧ W.cell? ⟨H1, 2, none⟩ = some (.slice qa no qc) ∧ W.cell? ⟨B8, 0, none⟩ = some (.slice rba nb rbc) ∧ W.cell? ⟨B8, 1, none⟩ = some (.slice ria ni ric) ∧ W.cell? ⟨B8, 2, none⟩ = some (.slice roa no roc)) := Lib.hid fun W hW => by
        obtain ⟨a0, a1, a2, p0, p1, p2⟩ := HK.out W ((HVv6.out).trans ((hvw6.trans (hW.mono hvw6.size)).mono (HVv6.out).size))
        have h := hrw6.of_block (hW.block B8 hrw6.lt)
        exact ⟨a0, a1, a2, p0, p1, p2, h.cell (by omega), h.cell (by omega), h.cell (by omega)⟩
      have hk := HKw6.out w6 (Below.refl _ _)
      clear hvw6 hrw6
      rw [hw6, hB8] at hk
      obtain ⟨a0, a1, a2, p0, p1, p2, x0, x1, x2⟩ := hk
      have HR6 := Lib.hid (hR9.below HUw6.out (Nat.le_refl _))
      have HD1 := Lib.hid hD1
      have HL1 := Lib.hid hl1
      clear hR9 hD1 hl1
      go_wp2_with fail
      clear a0 a1 a2 p0 p1 p2 x0 x1 x2
      rw [← hw6]
      (try rw [← hB8])
      clear hw6 hB8
      refine Calls.mono (CFy.out (by trivial) (by trivial) w6 (HXW.out _ HBw6.out)) ?_
      rintro e v7 ⟨qba, qbc, qbs, qia, qic, qis, qoa, qoc, qos, rfl, hD2, hQ9, hl2, hb⟩
      have HBv7 : Hid (Below w1.heap.size w1 v7) := Lib.hid ((HBw6.out).trans (hb.mono (HBw6.out).size))
      have HVv7 : Hid (Below w6.heap.size w6 v7) := Lib.hid (((Below.refl w6.heap.size w6)).trans (hb.mono ((Below.refl w6.heap.size w6)).size))
      clear hb
      have HR7 := Lib.hid (HR6.out.below HVv7.out (Nat.le_refl _))
      obtain ⟨B10, hB10⟩ : ∃ x, x = v7.heap.size := ⟨_, rfl⟩
      obtain ⟨w7, hw7⟩ : ∃ W, W = v7.alloc (.cells #[.slice qba nb qbc, .slice qia ni qic, .slice qoa no qoc] 29) := ⟨_, rfl⟩
      have hvw7 : Below v7.heap.size v7 w7 := by rw [hw7]; exact (Below.refl _ _).alloc (Nat.le_refl _) _
      have HBw7 : Hid (Below w1.heap.size w1 w7) := Lib.hid ((HBv7.out).trans (hvw7.mono (HBv7.out).size))
      have HUw7 := Lib.hid hvw7
      have hrw7 : w7.rowIs (B10) 29 3 (fun i => ([.slice qba nb qbc, .slice qia ni qic, .slice qoa no qoc] : List Value).getD i undef) := by rw [hw7, hB10]; exact rowL_alloc v7 29 [.slice qba nb qbc, .slice qia ni qic, .slice qoa no qoc]
      have HKw7 : Hid (∀ W, Below w7.heap.size w7 W → W.cell? ⟨H, 0, none⟩ = some (.int .i64 aw) ∧ W.cell? ⟨H, 1, none⟩ = some (.int .i64 ah) ∧ W.cell? ⟨H, 2, none⟩ = some (.int .i64 at_) ∧ W.cell? ⟨H1, 0, none⟩ = some (.int .i64 pi) ∧ W.cell? ⟨H1, 1, none⟩ = some (.slice pa nb pc) ∧ W.cell? ⟨H1, 2, none⟩ = some (.slice qa no qc) ∧ W.cell? ⟨B8, 0, none⟩ = some (.slice rba nb rbc) ∧ W.cell? ⟨B8, 1, none⟩ = some (.slice ria ni ric) ∧ W.cell? ⟨B8, 2, none⟩ = some (.slice roa no roc) ∧ W.cell? ⟨B10, 0, none⟩ = some (.slice qba nb qbc) ∧ W.cell? ⟨B10, 1, none⟩ = some (.slice qia ni qic) ∧ W.cell? ⟨B10, 2, none⟩ = some (.slice qoa no qoc)) := Lib.hid fun W hW => by
        obtain ⟨a0, a1, a2, p0, p1, p2, x0, x1, x2⟩ := HKw6.out W ((HVv7.out).trans ((hvw7.trans (hW.mono hvw7.size)).mono (HVv7.out).size))
        have h := hrw7.of_block (hW.block B10 hrw7.lt)
        exact ⟨a0, a1, a2, p0, p1, p2, x0, x1, x2, h.cell (by omega), h.cell (by omega), h.cell (by omega)⟩
      have hk := HKw7.out w7 (Below.refl _ _)
      clear hvw7 hrw7
      rw [hw7, hB10] at hk
      obtain ⟨a0, a1, a2, p0, p1, p2, x0, x1, x2, y0, y1, y2⟩ := hk
      have HQ7 := Lib.hid (hQ9.below HUw7.out (Nat.le_refl _))
      have HR7b := Lib.hid (HR7.out.below HUw7.out (Nat.le_refl _))
      have HD2 := Lib.hid hD2
      have HL2 := Lib.hid hl2
      clear hQ9 hD2 hl2 HR6 HR7
      go_upto_region 6 with fail
      clear a0 a1 a2 p0 p1 p2 x0 x1 x2 y0 y1 y2
      rw [← hw7]
      (try rw [← hB10])
      clear hw7 hB10
      have HW0 := Lib.hid (HAr.out (by trivial))
      have HW1i := Lib.hid (HIn.out (by trivial) (by trivial))
      have hro := HRo.out
      go_cut [12] from 52 to 71 (fun r wx => r = .bool true ∧ Hid (Below w7.heap.size w7 wx))
      case first =>
        have hh := hro.symm
        rw [Bool.and_eq_true] at hh
        obtain ⟨g1, g2⟩ := hh
        have HG2 := Lib.hid g2
        clear g2
        clear hro
        have HKSc : Hid (∀ W, Below w7.heap.size w7 W → W.cell? ⟨H, 0, none⟩ = some (.int .i64 aw) ∧ W.cell? ⟨H, 1, none⟩ = some (.int .i64 ah) ∧ W.cell? ⟨H, 2, none⟩ = some (.int .i64 at_) ∧ W.cell? ⟨H1, 0, none⟩ = some (.int .i64 pi) ∧ W.cell? ⟨H1, 1, none⟩ = some (.slice pa nb pc) ∧ W.cell? ⟨H1, 2, none⟩ = some (.slice qa no qc) ∧ W.cell? ⟨B8, 0, none⟩ = some (.slice rba nb rbc) ∧ W.cell? ⟨B8, 1, none⟩ = some (.slice ria ni ric) ∧ W.cell? ⟨B8, 2, none⟩ = some (.slice roa no roc) ∧ W.cell? ⟨B10, 0, none⟩ = some (.slice qba nb qbc) ∧ W.cell? ⟨B10, 1, none⟩ = some (.slice qia ni qic) ∧ W.cell? ⟨B10, 2, none⟩ = some (.slice qoa no qoc)) := Lib.hid fun W hW => HKw7.out W (((Below.refl w7.heap.size w7)).trans (hW.mono ((Below.refl w7.heap.size w7)).size))
        refine wp_region_held_drew (S := fun w' => w'.cell? ⟨H, 0, none⟩ = some (.int .i64 aw) ∧ w'.cell? ⟨H, 1, none⟩ = some (.int .i64 ah) ∧ w'.cell? ⟨H, 2, none⟩ = some (.int .i64 at_) ∧ w'.cell? ⟨H1, 0, none⟩ = some (.int .i64 pi) ∧ w'.cell? ⟨H1, 1, none⟩ = some (.slice pa nb pc) ∧ w'.cell? ⟨H1, 2, none⟩ = some (.slice qa no qc) ∧ w'.cell? ⟨B8, 0, none⟩ = some (.slice rba nb rbc) ∧ w'.cell? ⟨B8, 1, none⟩ = some (.slice ria ni ric) ∧ w'.cell? ⟨B8, 2, none⟩ = some (.slice roa no roc) ∧ w'.cell? ⟨B10, 0, none⟩ = some (.slice qba nb qbc) ∧ w'.cell? ⟨B10, 1, none⟩ = some (.slice qia ni qic) ∧ w'.cell? ⟨B10, 2, none⟩ = some (.slice qoa no qoc)) (by kernel_rfl) (HKSc.out _ (Below.refl _ _).drew) (fun hHeld => ?_)
        obtain ⟨v4, hv4⟩ : ∃ W, W = w7.drew := ⟨_, rfl⟩
        have hb4 : Below w7.heap.size w7 v4 := by rw [hv4]; exact (Below.refl _ _).drew
        rw [← hv4] at hHeld ⊢
        have HBv4 := Lib.hid hb4
        clear hb4 hv4
        refine wpAnyH_take (i := 0) (v := ?_) (by simp only [List.getElem?_toArray, List.getElem?_cons_succ, List.getElem?_cons_zero]; rfl) (by kernel_rfl) (by kernel_rfl) (by kernel_rfl) (by intro _ _ _ h; exact h) (Or.inl ⟨by rfl, ?_⟩) (by assumption) ?_
        rotate_left
        · intro w hSw; (try dsimp only at hSw); go_simp; try with_reducible rfl
        try simp only [Act.put, List.setIfInBounds_toArray, List.set_cons_zero, List.set_cons_succ]
        refine wpAnyH_take (i := 1) (v := ?_) (by simp only [List.getElem?_toArray, List.getElem?_cons_succ, List.getElem?_cons_zero]; rfl) (by kernel_rfl) (by kernel_rfl) (by kernel_rfl) (by intro _ _ _ h; exact h) (Or.inl ⟨by rfl, ?_⟩) (by assumption) ?_
        rotate_left
        · intro w hSw; (try dsimp only at hSw); go_simp; try with_reducible rfl
        try simp only [Act.put, List.setIfInBounds_toArray, List.set_cons_zero, List.set_cons_succ]
        refine wpAnyH_take (i := 2) (v := ?_) (by simp only [List.getElem?_toArray, List.getElem?_cons_succ, List.getElem?_cons_zero]; rfl) (by kernel_rfl) (by kernel_rfl) (by kernel_rfl) (by intro _ _ _ h; exact h) (Or.inl ⟨by rfl, ?_⟩) (by assumption) ?_
        rotate_left
        · intro w hSw; (try dsimp only at hSw); go_simp; try with_reducible rfl
        try simp only [Act.put, List.setIfInBounds_toArray, List.set_cons_zero, List.set_cons_succ]
        refine wpAnyH_take (i := 3) (v := ?_) (by simp only [List.getElem?_toArray, List.getElem?_cons_succ, List.getElem?_cons_zero]; rfl) (by kernel_rfl) (by kernel_rfl) (by kernel_rfl) (by intro _ _ _ h; exact h) (Or.inl ⟨by rfl, ?_⟩) (by assumption) ?_
        rotate_left
        · intro w hSw; (try dsimp only at hSw); go_simp; try with_reducible rfl
        try simp only [Act.put, List.setIfInBounds_toArray, List.set_cons_zero, List.set_cons_succ]
        refine wpAnyH_take (i := 4) (v := ?_) (by simp only [List.getElem?_toArray, List.getElem?_cons_succ, List.getElem?_cons_zero]; rfl) (by kernel_rfl) (by kernel_rfl) (by kernel_rfl) (by intro _ _ _ h; exact h) (Or.inl ⟨by rfl, ?_⟩) (by assumption) ?_
        rotate_left
        · intro w hSw; (try dsimp only at hSw); go_simp; try with_reducible rfl
        try simp only [Act.put, List.setIfInBounds_toArray, List.set_cons_zero, List.set_cons_succ]
        refine wpAnyH_take (i := 5) (v := ?_) (by simp only [List.getElem?_toArray, List.getElem?_cons_succ, List.getElem?_cons_zero]; rfl) (by kernel_rfl) (by kernel_rfl) (by kernel_rfl) (by intro _ _ _ h; exact h) (Or.inl ⟨by rfl, ?_⟩) (by assumption) ?_
        rotate_left
        · intro w hSw; (try dsimp only at hSw); go_simp; try with_reducible rfl
        try simp only [Act.put, List.setIfInBounds_toArray, List.set_cons_zero, List.set_cons_succ]
        refine wpAnyH_take (i := 6) (v := ?_) (by simp only [List.getElem?_toArray, List.getElem?_cons_succ, List.getElem?_cons_zero]; rfl) (by kernel_rfl) (by kernel_rfl) (by kernel_rfl) (by intro _ _ _ h; exact h) (Or.inl ⟨by rfl, ?_⟩) (by assumption) ?_
        rotate_left
        · intro w hSw; (try dsimp only at hSw); go_simp; try with_reducible rfl
        try simp only [Act.put, List.setIfInBounds_toArray, List.set_cons_zero, List.set_cons_succ]
        refine wpAnyH_take (i := 7) (v := ?_) (by simp only [List.getElem?_toArray, List.getElem?_cons_succ, List.getElem?_cons_zero]; rfl) (by kernel_rfl) (by kernel_rfl) (by kernel_rfl) (by intro _ _ _ h; exact h) (Or.inl ⟨by rfl, ?_⟩) (by assumption) ?_
        rotate_left
        · intro w hSw; (try dsimp only at hSw); go_simp; rw [HW0.out]
        try simp only [Act.put, List.setIfInBounds_toArray, List.set_cons_zero, List.set_cons_succ]
        refine wpAnyH_take (i := 8) (v := ?_) (by simp only [List.getElem?_toArray, List.getElem?_cons_succ, List.getElem?_cons_zero]; rfl) (by kernel_rfl) (by kernel_rfl) (by kernel_rfl) (by intro _ _ _ h; exact h) (Or.inl ⟨by rfl, ?_⟩) (by assumption) ?_
        rotate_left
        · intro w hSw; (try dsimp only at hSw); go_simp; first | rw [g1] | with_reducible rfl
        try simp only [Act.put, List.setIfInBounds_toArray, List.set_cons_zero, List.set_cons_succ]
        refine wpAnyH_take (i := 9) (v := ?_) (by simp only [List.getElem?_toArray, List.getElem?_cons_succ, List.getElem?_cons_zero]; rfl) (by kernel_rfl) (by kernel_rfl) (by kernel_rfl) (by intro _ _ _ h; exact h) (Or.inl ⟨by rfl, ?_⟩) (by assumption) ?_
        rotate_left
        · intro w hSw; (try dsimp only at hSw); go_simp; try with_reducible rfl
        try simp only [Act.put, List.setIfInBounds_toArray, List.set_cons_zero, List.set_cons_succ]
        refine wpAnyH_take (i := 10) (v := ?_) (by simp only [List.getElem?_toArray, List.getElem?_cons_succ, List.getElem?_cons_zero]; rfl) (by kernel_rfl) (by kernel_rfl) (by kernel_rfl) (by intro _ _ _ h; exact h) (Or.inl ⟨by rfl, ?_⟩) (by assumption) ?_
        rotate_left
        · intro w hSw; (try dsimp only at hSw); go_simp; try with_reducible rfl
        try simp only [Act.put, List.setIfInBounds_toArray, List.set_cons_zero, List.set_cons_succ]
        refine wpAnyH_take (i := 11) (v := ?_) (by simp only [List.getElem?_toArray, List.getElem?_cons_succ, List.getElem?_cons_zero]; rfl) (by kernel_rfl) (by kernel_rfl) (by kernel_rfl) (by intro _ _ _ h; exact h) (Or.inl ⟨by rfl, ?_⟩) (by assumption) ?_
        rotate_left
        · intro w hSw; (try dsimp only at hSw); go_simp; try with_reducible rfl
        try simp only [Act.put, List.setIfInBounds_toArray, List.set_cons_zero, List.set_cons_succ]
        refine wpAnyH_take (i := 12) (v := ?_) (by simp only [List.getElem?_toArray, List.getElem?_cons_succ, List.getElem?_cons_zero]; rfl) (by kernel_rfl) (by kernel_rfl) (by kernel_rfl) (by intro _ _ _ h; exact h) (Or.inl ⟨by rfl, ?_⟩) (by assumption) ?_
        rotate_left
        · intro w hSw; (try dsimp only at hSw); go_simp; try with_reducible rfl
        try simp only [Act.put, List.setIfInBounds_toArray, List.set_cons_zero, List.set_cons_succ]
        refine wpAnyH_take (i := 13) (v := ?_) (by simp only [List.getElem?_toArray, List.getElem?_cons_succ, List.getElem?_cons_zero]; rfl) (by kernel_rfl) (by kernel_rfl) (by kernel_rfl) (by intro _ _ _ h; exact h) (Or.inl ⟨by rfl, ?_⟩) (by assumption) ?_
        rotate_left
        · intro w hSw; (try dsimp only at hSw); go_simp; try with_reducible rfl
        try simp only [Act.put, List.setIfInBounds_toArray, List.set_cons_zero, List.set_cons_succ]
        refine wpAnyH_take (i := 14) (v := ?_) (by simp only [List.getElem?_toArray, List.getElem?_cons_succ, List.getElem?_cons_zero]; rfl) (by kernel_rfl) (by kernel_rfl) (by kernel_rfl) (by intro _ _ _ h; exact h) (Or.inl ⟨by rfl, ?_⟩) (by assumption) ?_
        rotate_left
        · intro w hSw; (try dsimp only at hSw); go_simp; try with_reducible rfl
        try simp only [Act.put, List.setIfInBounds_toArray, List.set_cons_zero, List.set_cons_succ]
        refine wpAnyH_take (i := 15) (v := ?_) (by simp only [List.getElem?_toArray, List.getElem?_cons_succ, List.getElem?_cons_zero]; rfl) (by kernel_rfl) (by kernel_rfl) (by kernel_rfl) (by intro _ _ _ h; exact h) (Or.inl ⟨by rfl, ?_⟩) (by assumption) ?_
        rotate_left
        · intro w hSw; (try dsimp only at hSw); go_simp; rw [HW1i.out]
        try simp only [Act.put, List.setIfInBounds_toArray, List.set_cons_zero, List.set_cons_succ]
        refine wpAnyH_take (i := 16) (v := ?_) (by simp only [List.getElem?_toArray, List.getElem?_cons_succ, List.getElem?_cons_zero]; rfl) (by kernel_rfl) (by kernel_rfl) (by kernel_rfl) (by intro _ _ _ h; exact h) (Or.inl ⟨by rfl, ?_⟩) (by assumption) ?_
        rotate_left
        · intro w hSw; (try dsimp only at hSw); go_simp; try with_reducible rfl
        try simp only [Act.put, List.setIfInBounds_toArray, List.set_cons_zero, List.set_cons_succ]
        refine wpAnyH_ready (rs := [17]) (by kernel_rfl) (by simp) ?_
        refine AllReadyH.cons (o := _) (by simp only [List.getElem?_toArray, List.getElem?_cons_succ, List.getElem?_cons_zero]; rfl) (fun K hK => ?_) AllReadyH.nil
        go_simp
        go_at_call 26
        refine Calls.mono (C26.out (by trivial) v4) ?_
        rintro e v5 ⟨rfl, hb5⟩
        have HBv5 := Lib.hid ((HBv4.out).trans (hb5.mono (HBv4.out).size))
        clear hb5
        go_simp
        refine hK.out _ _ (by exact HKSc.out _ HBv5.out) (fun hHeld => ?_)
        clear hK K
        try simp only [Act.put, List.setIfInBounds_toArray, List.set_cons_zero, List.set_cons_succ]
        refine wpAnyH_take (i := 18) (v := ?_) (by simp only [List.getElem?_toArray, List.getElem?_cons_succ, List.getElem?_cons_zero]; rfl) (by kernel_rfl) (by kernel_rfl) (by kernel_rfl) (by intro _ _ _ h; exact h) (Or.inl ⟨by rfl, ?_⟩) (by assumption) ?_
        rotate_left
        · intro w hSw; (try dsimp only at hSw); go_simp; rw [HG2.out]
        try simp only [Act.put, List.setIfInBounds_toArray, List.set_cons_zero, List.set_cons_succ]
        refine wpAnyH_take (i := 19) (v := ?_) (by simp only [List.getElem?_toArray, List.getElem?_cons_succ, List.getElem?_cons_zero]; rfl) (by kernel_rfl) (by kernel_rfl) (by kernel_rfl) (by intro _ _ _ h; exact h) (Or.inl ⟨by rfl, ?_⟩) (by assumption) ?_
        rotate_left
        · intro w hSw; (try dsimp only at hSw); go_simp; try with_reducible rfl
        try simp only [Act.put, List.setIfInBounds_toArray, List.set_cons_zero, List.set_cons_succ]
        refine wpAnyH_take (i := 20) (v := ?_) (by simp only [List.getElem?_toArray, List.getElem?_cons_succ, List.getElem?_cons_zero]; rfl) (by kernel_rfl) (by kernel_rfl) (by kernel_rfl) (by intro _ _ _ h; exact h) (Or.inl ⟨by rfl, ?_⟩) (by assumption) ?_
        rotate_left
        · intro w hSw; (try dsimp only at hSw); go_simp; try with_reducible rfl
        try simp only [Act.put, List.setIfInBounds_toArray, List.set_cons_zero, List.set_cons_succ]
        refine wpAnyH_done (by kernel_rfl) ?_ _
        go_wp2_with fail
        go_meet
        exact ⟨rfl, Lib.hid (HBv5.out)⟩
      case rest =>
        clear hro
        obtain ⟨rfl, HC⟩ := hcut
        obtain ⟨w8, hw8⟩ : ∃ W, W = wc := ⟨_, rfl⟩
        subst hw8
        have HBw8 : Hid (Below w1.heap.size w1 w8) := Lib.hid (HBw7.out.trans (HC.out.mono HBw7.out.size))
        obtain ⟨a0, a1, a2, p0, p1, p2, x0, x1, x2, y0, y1, y2⟩ := HKw7.out w8 HC.out
        go_wp2_with fail
        clear a0 a1 a2 p0 p1 p2 x0 x1 x2 y0 y1 y2
        refine Calls.mono ((CRp.out (by trivial) (by trivial) w8 rba rbc rbs ria ric ris roa roc ros (HXW.out _ HBw8.out) (HR7b.out.below HC.out (Nat.le_refl _)) HD1.out HL1.out).1) ?_
        rintro e w9 ⟨rfl, hb⟩
        have HBw9 : Hid (Below w1.heap.size w1 w9) := Lib.hid ((HBw8.out).trans (hb.mono (HBw8.out).size))
        have HVw9 : Hid (Below w7.heap.size w7 w9) := Lib.hid ((HC.out).trans (hb.mono (HC.out).size))
        clear hb
        obtain ⟨a0, a1, a2, p0, p1, p2, x0, x1, x2, y0, y1, y2⟩ := HKw7.out w9 HVw9.out
        go_wp2_with fail
        clear a0 a1 a2 p0 p1 p2 x0 x1 x2 y0 y1 y2
        refine Calls.mono (CRf.out (by trivial) (by trivial) w9 qba qbc qbs qia qic qis qoa qoc qos (HXW.out _ HBw9.out) (HQ7.out.below HVw9.out (Nat.le_refl _)) HD2.out HL2.out) ?_
        rintro e w10 ⟨rfl, hb⟩
        have HBw10 : Hid (Below w1.heap.size w1 w10) := Lib.hid ((HBw9.out).trans (hb.mono (HBw9.out).size))
        have HVw10 : Hid (Below w7.heap.size w7 w10) := Lib.hid ((HVw9.out).trans (hb.mono (HVw9.out).size))
        clear hb
        obtain ⟨a0, a1, a2, p0, p1, p2, x0, x1, x2, y0, y1, y2⟩ := HKw7.out w10 HVw10.out
        go_wp2_with fail
        clear a0 a1 a2 p0 p1 p2 x0 x1 x2 y0 y1 y2
        refine Calls.mono ((CRp.out (by trivial) (by trivial) w10 rba rbc rbs ria ric ris roa roc ros (HXW.out _ HBw10.out) (HR7b.out.below HVw10.out (Nat.le_refl _)) HD1.out HL1.out).2) ?_
        rintro e w11 ⟨rfl, hb⟩
        have HBw11 : Hid (Below w1.heap.size w1 w11) := Lib.hid ((HBw10.out).trans (hb.mono (HBw10.out).size))
        have HVw11 : Hid (Below w7.heap.size w7 w11) := Lib.hid ((HVw10.out).trans (hb.mono (HVw10.out).size))
        clear hb
        obtain ⟨hle1, hle2⟩ := HLe.out (by trivial)
        have d1 : decide (cp ≤ cf) = true := by simpa using hle1
        have d2 : decide (cp ≥ 0) = true := by simpa using hle2
        clear hle1 hle2
        obtain ⟨a0, a1, a2, p0, p1, p2, x0, x1, x2, y0, y1, y2⟩ := HKw7.out w11 HVw11.out
        go_wp2_with fail
        go_ret
        exact ⟨rfl, HXW.out _ HBw11.out⟩
end Go.Proofs.Ytholafodachjnaa
