/- PlaceDraws, walked. -/
import Derived.Deep.CutRange
import Derived.Test.YtholafodachjnaaZ42
import Derived.Test.YtholafodachjnaaZ44
namespace Go.Proofs.Ytholafodachjnaa
open Go.RowKit Go.Shelf
set_option linter.unusedVariables false
set_option linter.unusedSimpArgs false

theorem placeO_few {a : ArchV} {P : PackV} {ds : List Int} (hf : FewP P) : (placeO a P ds).bs.length ≤ 1000 ∧ (placeO a P ds).is.length ≤ 1000 ∧ (placeO a P ds).os.length ≤ 1000 := by
  by_cases he : errF a P = 0
  · obtain ⟨h1, h2, h3⟩ := place_len (ds := ds) he
    have := hf.ins
    have := hf.bs
    have := hf.os
    omega
  · unfold placeO
    rw [if_neg he]
    exact ⟨Nat.zero_le _, Nat.zero_le _, Nat.zero_le _⟩
set_option maxRecDepth 100000 in
set_option maxHeartbeats 8000000 in
theorem placeDraws (w : World) (a : ArchV) (ha : ArchR a) (P : PackV) (hP : PackAt w P) (da : Option Addr) (n cap : Nat) (ds : List Int) (hn : ds.length = n) (hd : Seq w da n (ints ds)) (hr : ∀ x ∈ ds, I64 x) (hl9 : n ≤ 9223372036854775807) (hcap : n ≤ cap) :
    Calls Try.prog 5 #[a.val, P.val, .slice da n cap] w fun e w' => e = .returned (.bool true) ∧ Below w.heap.size w w' := by
  have CF : Hid (∀ W, Calls Try.prog 12 #[a.val, P.val, .agg #[.slice none 0 0, .slice none 0 0, .slice none 0 0]] W fun e w' => e = .returned (.bool (fewA a P noSpots)) ∧ Below W.heap.size W w') := Lib.hid fun W => few12 W a P noSpots
  have HL : Hid (∀ W, Calls Try.prog 11 #[] W fun e w' => e = .returned (.bool true) ∧ Below W.heap.size W w') := Lib.hid live11
  have C22 : Hid (fewA a P noSpots = true → n ≤ 60 → ∀ W, Below w.heap.size w W → Calls Try.prog 22 #[a.val, P.val, .slice da n cap] W fun e w' => ∃ ba bc ia ic oa oc, e = .returned (.tuple #[.agg #[.slice ba (placeO a P ds).bs.length bc, .slice ia (placeO a P ds).is.length ic, .slice oa (placeO a P ds).os.length oc], .int .i64 (errF a P)]) ∧ SpotAt w' ⟨ba, bc, (placeO a P ds).bs, ia, ic, (placeO a P ds).is, oa, oc, (placeO a P ds).os⟩ ∧ Below W.heap.size W w') := Lib.hid fun h h6 W hW => by
    refine Calls.mono (place22 W a P (hP.below hW (Nat.le_refl _)) (fewA_ok hP h).1 da n cap ds hn (by omega) hcap (hd.below hW (Nat.le_refl _))) ?_
    rintro e w' ⟨R, h0, h1, h2, h3⟩
    obtain ⟨ba, bc, ia, ic, oa, oc, rfl⟩ := spot_of (R := R) (b := (placeO a P ds).bs) (i := (placeO a P ds).is) (o := (placeO a P ds).os) h1
    exact ⟨ba, bc, ia, ic, oa, oc, h0, h2.anew, h3⟩
  have C23 : Hid (fewA a P noSpots = true → n ≤ 60 → ∀ W, Below w.heap.size w W → Calls Try.prog 23 #[a.val, P.val, .slice da n cap] W fun e w' => ∃ ba bc ia ic oa oc, e = .returned (.tuple #[.agg #[.slice ba (placeO a P ds).bs.length bc, .slice ia (placeO a P ds).is.length ic, .slice oa (placeO a P ds).os.length oc], .int .i64 (errF a P)]) ∧ SpotAt w' ⟨ba, bc, (placeO a P ds).bs, ia, ic, (placeO a P ds).is, oa, oc, (placeO a P ds).os⟩ ∧ Below W.heap.size W w') := Lib.hid fun h h6 W hW => by
    refine Calls.mono (place23 W a P (hP.below hW (Nat.le_refl _)) (fewA_ok hP h).1 da n cap ds hn (by omega) hcap (hd.below hW (Nat.le_refl _))) ?_
    rintro e w' ⟨R, h0, h1, h2, h3⟩
    obtain ⟨ba, bc, ia, ic, oa, oc, rfl⟩ := spot_of (R := R) (b := (placeO a P ds).bs) (i := (placeO a P ds).is) (o := (placeO a P ds).os) h1
    exact ⟨ba, bc, ia, ic, oa, oc, h0, h2.anew, h3⟩
  have CSf : Hid (fewA a P noSpots = true → ∀ W rba rbc ria ric roa roc qba qbc qia qic qoa qoc, SpotAt W ⟨rba, rbc, (placeO a P ds).bs, ria, ric, (placeO a P ds).is, roa, roc, (placeO a P ds).os⟩ → SpotAt W ⟨qba, qbc, (placeO a P ds).bs, qia, qic, (placeO a P ds).is, qoa, qoc, (placeO a P ds).os⟩ → Calls Try.prog 21 #[.agg #[.slice rba (placeO a P ds).bs.length rbc, .slice ria (placeO a P ds).is.length ric, .slice roa (placeO a P ds).os.length roc], .agg #[.slice qba (placeO a P ds).bs.length qbc, .slice qia (placeO a P ds).is.length qic, .slice qoa (placeO a P ds).os.length qoc]] W fun e w' => e = .returned (.bool true) ∧ Below W.heap.size W w') := Lib.hid fun h W rba rbc ria ric roa roc qba qbc qia qic qoa qoc hR hQ => by
    obtain ⟨k1, k2, k3⟩ := placeO_few (a := a) (ds := ds) (fewA_ok hP h).1
    exact same21 W ⟨rba, rbc, (placeO a P ds).bs, ria, ric, (placeO a P ds).is, roa, roc, (placeO a P ds).os⟩ ⟨qba, qbc, (placeO a P ds).bs, qia, qic, (placeO a P ds).is, qoa, qoc, (placeO a P ds).os⟩ hR hQ rfl rfl rfl k1 k2 k3
  obtain ⟨fB, hfB⟩ : ∃ b, b = fewA a P noSpots := ⟨_, rfl⟩
  obtain ⟨er, her⟩ : ∃ b, b = errF a P := ⟨_, rfl⟩
  obtain ⟨D, hD⟩ : ∃ b, b = placeO a P ds := ⟨_, rfl⟩
  rw [← hfB] at CF C22 C23 CSf
  rw [← her] at C22 C23
  rw [← hD] at C22 C23 CSf
  obtain ⟨d1, hd1⟩ : ∃ b, b = D.bs.length := ⟨_, rfl⟩
  obtain ⟨d2, hd2⟩ : ∃ b, b = D.is.length := ⟨_, rfl⟩
  obtain ⟨d3, hd3⟩ : ∃ b, b = D.os.length := ⟨_, rfl⟩
  rw [← hd1, ← hd2, ← hd3] at C22 C23 CSf
  clear hfB her hD hP ha hd hr hn hd1 hd2 hd3
  obtain ⟨aw, ah, at_⟩ := a
  obtain ⟨pi, pa, pc, pb, qa, qc, qb⟩ := P
  (try unfold ArchV.val at CF)
  (try unfold PackV.val at CF)
  (try unfold ArchV.val at C22)
  (try unfold PackV.val at C22)
  (try unfold ArchV.val at C23)
  (try unfold PackV.val at C23)
  (try unfold ArchV.val at CSf)
  (try unfold PackV.val at CSf)
  unfold ArchV.val PackV.val
  (try dsimp only at CF C22 C23 CSf)
  (try dsimp only)
  obtain ⟨nb, hnb⟩ : ∃ n, n = pb.length := ⟨_, rfl⟩
  (try rw [← hnb] at CF)
  (try rw [← hnb] at C22)
  (try rw [← hnb] at C23)
  (try rw [← hnb] at CSf)
  (try rw [← hnb])
  obtain ⟨no, hno⟩ : ∃ n, n = qb.length := ⟨_, rfl⟩
  (try rw [← hno] at CF)
  (try rw [← hno] at C22)
  (try rw [← hno] at C23)
  (try rw [← hno] at CSf)
  (try rw [← hno])
  clear hnb hno
  obtain ⟨H, hH⟩ : ∃ h, h = w.heap.size := ⟨_, rfl⟩
  obtain ⟨w1, hw1⟩ : ∃ W, W = ((w.alloc (.cells #[.int .i64 aw, .int .i64 ah, .int .i64 at_] 23)).alloc (.cells #[.int .i64 pi, .slice pa nb pc, .slice qa no qc] 27)) := ⟨_, rfl⟩
  obtain ⟨H1, hH1⟩ : ∃ x, x = H + 1 := ⟨_, rfl⟩
  have hs1 : w1.heap.size = H + 2 := by rw [hw1, hH]; simp
  have hX1 : Below w.heap.size w w1 := by rw [hw1]; exact ((Below.refl _ _).alloc (Nat.le_refl _) _).alloc (by simp <;> omega) _
  have hrw0 : w1.rowIs (H) 23 3 (fun i => ([.int .i64 aw, .int .i64 ah, .int .i64 at_] : List Value).getD i undef) := by rw [hw1, hH]; exact ((rowL_alloc w 23 [.int .i64 aw, .int .i64 ah, .int .i64 at_]).alloc (.cells #[.int .i64 pi, .slice pa nb pc, .slice qa no qc] 27))
  have hrw1 : w1.rowIs (H1) 27 3 (fun i => ([.int .i64 pi, .slice pa nb pc, .slice qa no qc] : List Value).getD i undef) := by
    have h := (rowL_alloc (w.alloc (.cells #[.int .i64 aw, .int .i64 ah, .int .i64 at_] 23)) 27 [.int .i64 pi, .slice pa nb pc, .slice qa no qc])
    have hsz : (w.alloc (.cells #[.int .i64 aw, .int .i64 ah, .int .i64 at_] 23)).heap.size = H1 := by rw [hH1, hH]; simp
    rw [hsz] at h
    rw [hw1]
    exact h
  have HK : Hid (∀ W, Below w1.heap.size w1 W → W.cell? ⟨H, 0, none⟩ = some (.int .i64 aw) ∧ W.cell? ⟨H, 1, none⟩ = some (.int .i64 ah) ∧ W.cell? ⟨H, 2, none⟩ = some (.int .i64 at_) ∧ W.cell? ⟨H1, 0, none⟩ = some (.int .i64 pi) ∧ W.cell? ⟨H1, 1, none⟩ = some (.slice pa nb pc) ∧ W.cell? ⟨H1, 2, none⟩ = some (.slice qa no qc)) := Lib.hid fun W hW => by
    have h0 := hrw0.of_block (hW.block H (by omega))
    have h1 := hrw1.of_block (hW.block H1 (by omega))
    exact ⟨h0.cell (by omega), h0.cell (by omega), h0.cell (by omega), h1.cell (by omega), h1.cell (by omega), h1.cell (by omega)⟩
  have HSz : Hid (w1.heap.size = H + 2 ∧ H = w.heap.size) := Lib.hid ⟨hs1, hH⟩
  have HXW : Hid (∀ W, Below w1.heap.size w1 W → Below w.heap.size w W) := Lib.hid fun W hW => hX1.trans (hW.mono (by omega))
  have HW1 := Lib.hid hw1
  have HHH := Lib.hid hH
  have HHH1 := Lib.hid hH1
  clear hw1 hX1 hs1 hH hrw0 hrw1 hH1
  go_enter Try.func5, Try.ntmps5
  go_wp2_with fail
  rw [← HW1.out]
  (try rw [← HHH.out])
  (try rw [← HHH1.out])
  refine Calls.mono (HL.out w1) ?_
  rintro e w2 ⟨rfl, hb⟩
  have HBw2 : Hid (Below w1.heap.size w1 w2) := Lib.hid (((Below.refl w1.heap.size w1)).trans (hb.mono ((Below.refl w1.heap.size w1)).size))
  have HVw2 : Hid (Below w1.heap.size w1 w2) := Lib.hid (((Below.refl w1.heap.size w1)).trans (hb.mono ((Below.refl w1.heap.size w1)).size))
  clear hb
  obtain ⟨a0, a1, a2, p0, p1, p2⟩ := HK.out w2 HVw2.out
  go_wp2_with fail
  clear a0 a1 a2 p0 p1 p2
  refine Calls.mono (CF.out w2) ?_
  rintro e w3 ⟨rfl, hb⟩
  have HBw3 : Hid (Below w1.heap.size w1 w3) := Lib.hid ((HBw2.out).trans (hb.mono (HBw2.out).size))
  have HVw3 : Hid (Below w1.heap.size w1 w3) := Lib.hid ((HVw2.out).trans (hb.mono (HVw2.out).size))
  clear hb
  cases hf : fB with
  | false =>
    subst hf
    go_wp2_with fail
    go_ret
    exact ⟨rfl, HXW.out _ HBw3.out⟩
  | true =>
    subst hf
    obtain ⟨a0, a1, a2, p0, p1, p2⟩ := HK.out w3 HVw3.out
    by_cases h60 : n ≤ 60
    rotate_left
    · have g1 : decide ((n : Int) > 60) = true := by rw [decide_eq_true_eq]; omega
      go_wp2_with fail
      go_ret
      exact ⟨rfl, HXW.out _ HBw3.out⟩
    have g1 : decide ((n : Int) > 60) = false := by rw [decide_eq_false_iff_not]; omega
    have H60 := Lib.hid h60
    clear h60
    go_wp2_with fail
    clear g1
    clear a0 a1 a2 p0 p1 p2
    refine Calls.mono (C22.out (by trivial) H60.out w3 (HXW.out _ HBw3.out)) ?_
    rintro e v4 ⟨xba, xbc, xia, xic, xoa, xoc, rfl, hR, hb⟩
    have HBv4 : Hid (Below w1.heap.size w1 v4) := Lib.hid ((HBw3.out).trans (hb.mono (HBw3.out).size))
    have HVv4 : Hid (Below w1.heap.size w1 v4) := Lib.hid ((HVw3.out).trans (hb.mono (HVw3.out).size))
    clear hb
    obtain ⟨B8, hB8⟩ : ∃ x, x = v4.heap.size := ⟨_, rfl⟩
    obtain ⟨w4, hw4⟩ : ∃ W, W = v4.alloc (.cells #[.slice xba d1 xbc, .slice xia d2 xic, .slice xoa d3 xoc] 29) := ⟨_, rfl⟩
    have hvw4 : Below v4.heap.size v4 w4 := by rw [hw4]; exact (Below.refl _ _).alloc (Nat.le_refl _) _
    have HBw4 : Hid (Below w1.heap.size w1 w4) := Lib.hid ((HBv4.out).trans (hvw4.mono (HBv4.out).size))
    have HUw4 := Lib.hid hvw4
    have hrw4 : w4.rowIs (B8) 29 3 (fun i => ([.slice xba d1 xbc, .slice xia d2 xic, .slice xoa d3 xoc] : List Value).getD i undef) := by rw [hw4, hB8]; exact rowL_alloc v4 29 [.slice xba d1 xbc, .slice xia d2 xic, .slice xoa d3 xoc]
    have HKw4 : Hid (∀ W, Below w4.heap.size w4 W → W.cell? ⟨H, 0, none⟩ = some (.int .i64 aw) ∧ W.cell? ⟨H, 1, none⟩ = some (.int .i64 ah) ∧ W.cell? ⟨H, 2, none⟩ = some (.int .i64 at_) ∧ W.cell? ⟨H1, 0, none⟩ = some (.int .i64 pi) ∧ W.cell? ⟨H1, 1, none⟩ = some (.slice pa nb pc) ∧ W.cell? ⟨H1, 2, none⟩ = some (.slice qa no qc) ∧ W.cell? ⟨B8, 0, none⟩ = some (.slice xba d1 xbc) ∧ W.cell? ⟨B8, 1, none⟩ = some (.slice xia d2 xic) ∧ W.cell? ⟨B8, 2, none⟩ = some (.slice xoa d3 xoc)) := Lib.hid fun W hW => by
      obtain ⟨a0, a1, a2, p0, p1, p2⟩ := HK.out W ((HVv4.out).trans ((hvw4.trans (hW.mono hvw4.size)).mono (HVv4.out).size))
      have h := hrw4.of_block (hW.block B8 hrw4.lt)
      exact ⟨a0, a1, a2, p0, p1, p2, h.cell (by omega), h.cell (by omega), h.cell (by omega)⟩
    have hk := HKw4.out w4 (Below.refl _ _)
    clear hvw4 hrw4
    rw [hw4, hB8] at hk
    obtain ⟨a0, a1, a2, p0, p1, p2, k0, k1, k2⟩ := hk
    have SX := Lib.hid (hR.below HUw4.out (Nat.le_refl _))
    clear hR
    go_wp2_with fail
    clear a0 a1 a2 p0 p1 p2 k0 k1 k2
    rw [← hw4]
    (try rw [← hB8])
    clear hw4 hB8
    refine Calls.mono (C23.out (by trivial) H60.out w4 (HXW.out _ HBw4.out)) ?_
    rintro e v5 ⟨yba, ybc, yia, yic, yoa, yoc, rfl, hR, hb⟩
    have HBv5 : Hid (Below w1.heap.size w1 v5) := Lib.hid ((HBw4.out).trans (hb.mono (HBw4.out).size))
    have HVv5 : Hid (Below w4.heap.size w4 v5) := Lib.hid (((Below.refl w4.heap.size w4)).trans (hb.mono ((Below.refl w4.heap.size w4)).size))
    clear hb
    have SX5 := Lib.hid (SX.out.below HVv5.out (Nat.le_refl _))
    obtain ⟨B10, hB10⟩ : ∃ x, x = v5.heap.size := ⟨_, rfl⟩
    obtain ⟨w5, hw5⟩ : ∃ W, W = v5.alloc (.cells #[.slice yba d1 ybc, .slice yia d2 yic, .slice yoa d3 yoc] 29) := ⟨_, rfl⟩
    have hvw5 : Below v5.heap.size v5 w5 := by rw [hw5]; exact (Below.refl _ _).alloc (Nat.le_refl _) _
    have HBw5 : Hid (Below w1.heap.size w1 w5) := Lib.hid ((HBv5.out).trans (hvw5.mono (HBv5.out).size))
    have HUw5 := Lib.hid hvw5
    have hrw5 : w5.rowIs (B10) 29 3 (fun i => ([.slice yba d1 ybc, .slice yia d2 yic, .slice yoa d3 yoc] : List Value).getD i undef) := by rw [hw5, hB10]; exact rowL_alloc v5 29 [.slice yba d1 ybc, .slice yia d2 yic, .slice yoa d3 yoc]
    have HKw5 : Hid (∀ W, Below w5.heap.size w5 W → W.cell? ⟨H, 0, none⟩ = some (.int .i64 aw) ∧ W.cell? ⟨H, 1, none⟩ = some (.int .i64 ah) ∧ W.cell? ⟨H, 2, none⟩ = some (.int .i64 at_) ∧ W.cell? ⟨H1, 0, none⟩ = some (.int .i64 pi) ∧ W.cell? ⟨H1, 1, none⟩ = some (.slice pa nb pc) ∧ W.cell? ⟨H1, 2, none⟩ = some (.slice qa no qc) ∧ W.cell? ⟨B8, 0, none⟩ = some (.slice xba d1 xbc) ∧ W.cell? ⟨B8, 1, none⟩ = some (.slice xia d2 xic) ∧ W.cell? ⟨B8, 2, none⟩ = some (.slice xoa d3 xoc) ∧ W.cell? ⟨B10, 0, none⟩ = some (.slice yba d1 ybc) ∧ W.cell? ⟨B10, 1, none⟩ = some (.slice yia d2 yic) ∧ W.cell? ⟨B10, 2, none⟩ = some (.slice yoa d3 yoc)) := Lib.hid fun W hW => by
      obtain ⟨a0, a1, a2, p0, p1, p2, k0, k1, k2⟩ := HKw4.out W ((HVv5.out).trans ((hvw5.trans (hW.mono hvw5.size)).mono (HVv5.out).size))
      have h := hrw5.of_block (hW.block B10 hrw5.lt)
      exact ⟨a0, a1, a2, p0, p1, p2, k0, k1, k2, h.cell (by omega), h.cell (by omega), h.cell (by omega)⟩
    have hk := HKw5.out w5 (Below.refl _ _)
    clear hvw5 hrw5
    rw [hw5, hB10] at hk
    obtain ⟨a0, a1, a2, p0, p1, p2, k0, k1, k2, l0, l1, l2⟩ := hk
    have SX6 := Lib.hid (SX5.out.below HUw5.out (Nat.le_refl _))
    have SY := Lib.hid (hR.below HUw5.out (Nat.le_refl _))
    clear hR
    go_wp2_with fail
    clear a0 a1 a2 p0 p1 p2 k0 k1 k2 l0 l1 l2
    rw [← hw5]
    (try rw [← hB10])
    clear hw5 hB10
    refine Calls.mono (CSf.out (by trivial) w5 xba xbc xia xic xoa xoc yba ybc yia yic yoa yoc SX6.out SY.out) ?_
    rintro e w6 ⟨rfl, hb⟩
    have HBw6 : Hid (Below w1.heap.size w1 w6) := Lib.hid ((HBw5.out).trans (hb.mono (HBw5.out).size))
    have HVw6 : Hid (Below w5.heap.size w5 w6) := Lib.hid (((Below.refl w5.heap.size w5)).trans (hb.mono ((Below.refl w5.heap.size w5)).size))
    clear hb
    obtain ⟨a0, a1, a2, p0, p1, p2, k0, k1, k2, l0, l1, l2⟩ := HKw5.out w6 HVw6.out
    go_wp2_with fail
    go_ret
    exact ⟨rfl, HXW.out _ HBw6.out⟩
end Go.Proofs.Ytholafodachjnaa
