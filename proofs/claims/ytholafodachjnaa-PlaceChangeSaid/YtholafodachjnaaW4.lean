/- PlaceChange, walked. -/
import Derived.Deep.CutRange
import Derived.Test.YtholafodachjnaaZ42
import Derived.Test.YtholafodachjnaaZ43
namespace Go.Proofs.Ytholafodachjnaa
open Go.RowKit Go.Shelf
set_option linter.unusedVariables false
set_option linter.unusedSimpArgs false

theorem firstO_few {a : ArchV} {P : PackV} (hf : FewP P) : (firstO a P).bs.length ≤ 1000 ∧ (firstO a P).is.length ≤ 1000 ∧ (firstO a P).os.length ≤ 1000 := by
  by_cases he : errF a P = 0
  · obtain ⟨h1, h2, h3⟩ := first_len he
    have := hf.ins
    have := hf.bs
    have := hf.os
    omega
  · unfold firstO
    rw [if_neg he]
    exact ⟨Nat.zero_le _, Nat.zero_le _, Nat.zero_le _⟩
theorem outD_few {a : ArchV} {P : PackV} {S : SpotV} {m n : Int} (hs : FewS S) : (outD a P S m n).bs.length ≤ 1000 ∧ (outD a P S m n).is.length ≤ 1000 ∧ (outD a P S m n).os.length ≤ 1000 := by
  by_cases he : errB a P S m n = 0
  · rw [(errB_yes he).2]
    obtain ⟨h1, h2, h3⟩ := better_len a P.data S.data m n
    rw [h1, h2, h3]
    exact ⟨hs.b, hs.i, hs.o⟩
  · rw [(errB_no he).2]
    exact ⟨Nat.zero_le _, Nat.zero_le _, Nat.zero_le _⟩
set_option maxRecDepth 100000 in
set_option maxHeartbeats 8000000 in
theorem placeChange (w : World) (a : ArchV) (ha : ArchR a) (P : PackV) (hP : PackAt w P) (S : SpotV) (hS : SpotAt w S) (m : Int) (hm9 : I64 m) (n : Int) (hn9 : I64 n) :
    Calls Try.prog 4 #[a.val, P.val, S.val, .int .i64 m, .int .i64 n] w fun e w' => e = .returned (.bool true) ∧ Below w.heap.size w w' := by
  have CF : Hid (∀ W, Calls Try.prog 12 #[a.val, P.val, S.val] W fun e w' => e = .returned (.bool (fewA a P S)) ∧ Below W.heap.size W w') := Lib.hid fun W => few12 W a P S
  have HL : Hid (∀ W, Calls Try.prog 11 #[] W fun e w' => e = .returned (.bool true) ∧ Below W.heap.size W w') := Lib.hid live11
  have C17 : Hid (fewA a P S = true → ∀ W, Below w.heap.size w W → Calls Try.prog 17 #[a.val, P.val] W fun e w' => ∃ ba bc ia ic oa oc, e = .returned (.tuple #[.agg #[.slice ba (firstO a P).bs.length bc, .slice ia (firstO a P).is.length ic, .slice oa (firstO a P).os.length oc], .int .i64 (errF a P)]) ∧ SpotAt w' ⟨ba, bc, (firstO a P).bs, ia, ic, (firstO a P).is, oa, oc, (firstO a P).os⟩ ∧ Below W.heap.size W w') := Lib.hid fun h W hW => by
    refine Calls.mono (first17 W a P (hP.below hW (Nat.le_refl _)) (fewA_ok hP h).1) ?_
    rintro e w' ⟨R, h0, h1, h2, h3⟩
    obtain ⟨ba, bc, ia, ic, oa, oc, rfl⟩ := spot_of (R := R) (b := (firstO a P).bs) (i := (firstO a P).is) (o := (firstO a P).os) h1
    exact ⟨ba, bc, ia, ic, oa, oc, h0, h2.anew, h3⟩
  have C18 : Hid (fewA a P S = true → ∀ W, Below w.heap.size w W → Calls Try.prog 18 #[a.val, P.val] W fun e w' => ∃ ba bc ia ic oa oc, e = .returned (.tuple #[.agg #[.slice ba (firstO a P).bs.length bc, .slice ia (firstO a P).is.length ic, .slice oa (firstO a P).os.length oc], .int .i64 (errF a P)]) ∧ SpotAt w' ⟨ba, bc, (firstO a P).bs, ia, ic, (firstO a P).is, oa, oc, (firstO a P).os⟩ ∧ Below W.heap.size W w') := Lib.hid fun h W hW => by
    refine Calls.mono (first18 W a P (hP.below hW (Nat.le_refl _)) (fewA_ok hP h).1) ?_
    rintro e w' ⟨R, h0, h1, h2, h3⟩
    obtain ⟨ba, bc, ia, ic, oa, oc, rfl⟩ := spot_of (R := R) (b := (firstO a P).bs) (i := (firstO a P).is) (o := (firstO a P).os) h1
    exact ⟨ba, bc, ia, ic, oa, oc, h0, h2.anew, h3⟩
  have C19 : Hid (fewA a P S = true → ∀ W, Below w.heap.size w W → Calls Try.prog 19 #[a.val, P.val, S.val, .int .i64 m, .int .i64 n] W fun e w' => ∃ ba bc ia ic oa oc, e = .returned (.tuple #[.agg #[.slice ba (outD a P S m n).bs.length bc, .slice ia (outD a P S m n).is.length ic, .slice oa (outD a P S m n).os.length oc], .bool (okB a P S m n), .int .i64 (errB a P S m n)]) ∧ SpotAt w' ⟨ba, bc, (outD a P S m n).bs, ia, ic, (outD a P S m n).is, oa, oc, (outD a P S m n).os⟩ ∧ Below W.heap.size W w') := Lib.hid fun h W hW => by
    refine Calls.mono (better19 W a P S (hP.below hW (Nat.le_refl _)) (fewA_ok hP h).1 (hS.below hW (Nat.le_refl _)) (fewA_ok hP h).2 m n hm9 hn9) ?_
    rintro e w' ⟨R, h0, h1, h2, h3⟩
    obtain ⟨ba, bc, ia, ic, oa, oc, rfl⟩ := spot_of (R := R) (b := (outD a P S m n).bs) (i := (outD a P S m n).is) (o := (outD a P S m n).os) h1
    exact ⟨ba, bc, ia, ic, oa, oc, h0, h2.spots ((hS.below hW (Nat.le_refl _)).below h3 (Nat.le_refl _)), h3⟩
  have C20 : Hid (fewA a P S = true → ∀ W, Below w.heap.size w W → Calls Try.prog 20 #[a.val, P.val, S.val, .int .i64 m, .int .i64 n] W fun e w' => ∃ ba bc ia ic oa oc, e = .returned (.tuple #[.agg #[.slice ba (outD a P S m n).bs.length bc, .slice ia (outD a P S m n).is.length ic, .slice oa (outD a P S m n).os.length oc], .bool (okB a P S m n), .int .i64 (errB a P S m n)]) ∧ SpotAt w' ⟨ba, bc, (outD a P S m n).bs, ia, ic, (outD a P S m n).is, oa, oc, (outD a P S m n).os⟩ ∧ Below W.heap.size W w') := Lib.hid fun h W hW => by
    refine Calls.mono (better20 W a P S (hP.below hW (Nat.le_refl _)) (fewA_ok hP h).1 (hS.below hW (Nat.le_refl _)) (fewA_ok hP h).2 m n hm9 hn9) ?_
    rintro e w' ⟨R, h0, h1, h2, h3⟩
    obtain ⟨ba, bc, ia, ic, oa, oc, rfl⟩ := spot_of (R := R) (b := (outD a P S m n).bs) (i := (outD a P S m n).is) (o := (outD a P S m n).os) h1
    exact ⟨ba, bc, ia, ic, oa, oc, h0, h2.spots ((hS.below hW (Nat.le_refl _)).below h3 (Nat.le_refl _)), h3⟩
  have CSf : Hid (fewA a P S = true → ∀ W rba rbc ria ric roa roc qba qbc qia qic qoa qoc, SpotAt W ⟨rba, rbc, (firstO a P).bs, ria, ric, (firstO a P).is, roa, roc, (firstO a P).os⟩ → SpotAt W ⟨qba, qbc, (firstO a P).bs, qia, qic, (firstO a P).is, qoa, qoc, (firstO a P).os⟩ → Calls Try.prog 21 #[.agg #[.slice rba (firstO a P).bs.length rbc, .slice ria (firstO a P).is.length ric, .slice roa (firstO a P).os.length roc], .agg #[.slice qba (firstO a P).bs.length qbc, .slice qia (firstO a P).is.length qic, .slice qoa (firstO a P).os.length qoc]] W fun e w' => e = .returned (.bool true) ∧ Below W.heap.size W w') := Lib.hid fun h W rba rbc ria ric roa roc qba qbc qia qic qoa qoc hR hQ => by
    obtain ⟨k1, k2, k3⟩ := firstO_few (a := a) (fewA_ok hP h).1
    exact same21 W ⟨rba, rbc, (firstO a P).bs, ria, ric, (firstO a P).is, roa, roc, (firstO a P).os⟩ ⟨qba, qbc, (firstO a P).bs, qia, qic, (firstO a P).is, qoa, qoc, (firstO a P).os⟩ hR hQ rfl rfl rfl k1 k2 k3
  have CSb : Hid (fewA a P S = true → ∀ W rba rbc ria ric roa roc qba qbc qia qic qoa qoc, SpotAt W ⟨rba, rbc, (outD a P S m n).bs, ria, ric, (outD a P S m n).is, roa, roc, (outD a P S m n).os⟩ → SpotAt W ⟨qba, qbc, (outD a P S m n).bs, qia, qic, (outD a P S m n).is, qoa, qoc, (outD a P S m n).os⟩ → Calls Try.prog 21 #[.agg #[.slice rba (outD a P S m n).bs.length rbc, .slice ria (outD a P S m n).is.length ric, .slice roa (outD a P S m n).os.length roc], .agg #[.slice qba (outD a P S m n).bs.length qbc, .slice qia (outD a P S m n).is.length qic, .slice qoa (outD a P S m n).os.length qoc]] W fun e w' => e = .returned (.bool true) ∧ Below W.heap.size W w') := Lib.hid fun h W rba rbc ria ric roa roc qba qbc qia qic qoa qoc hR hQ => by
    obtain ⟨k1, k2, k3⟩ := outD_few (a := a) (P := P) (m := m) (n := n) (fewA_ok hP h).2
    exact same21 W ⟨rba, rbc, (outD a P S m n).bs, ria, ric, (outD a P S m n).is, roa, roc, (outD a P S m n).os⟩ ⟨qba, qbc, (outD a P S m n).bs, qia, qic, (outD a P S m n).is, qoa, qoc, (outD a P S m n).os⟩ hR hQ rfl rfl rfl k1 k2 k3
  obtain ⟨fB, hfB⟩ : ∃ b, b = fewA a P S := ⟨_, rfl⟩
  obtain ⟨er, her⟩ : ∃ b, b = errF a P := ⟨_, rfl⟩
  obtain ⟨eb, heb⟩ : ∃ b, b = errB a P S m n := ⟨_, rfl⟩
  obtain ⟨bB, hbB⟩ : ∃ b, b = okB a P S m n := ⟨_, rfl⟩
  obtain ⟨D, hD⟩ : ∃ b, b = firstO a P := ⟨_, rfl⟩
  obtain ⟨E, hE⟩ : ∃ b, b = outD a P S m n := ⟨_, rfl⟩
  rw [← hfB] at CF C17 C18 C19 C20 CSf CSb
  rw [← her] at C17 C18
  rw [← heb, ← hbB] at C19 C20
  rw [← hD] at C17 C18 CSf
  rw [← hE] at C19 C20 CSb
  obtain ⟨d1, hd1⟩ : ∃ b, b = D.bs.length := ⟨_, rfl⟩
  obtain ⟨d2, hd2⟩ : ∃ b, b = D.is.length := ⟨_, rfl⟩
  obtain ⟨d3, hd3⟩ : ∃ b, b = D.os.length := ⟨_, rfl⟩
  obtain ⟨e1, he1⟩ : ∃ b, b = E.bs.length := ⟨_, rfl⟩
  obtain ⟨e2, he2⟩ : ∃ b, b = E.is.length := ⟨_, rfl⟩
  obtain ⟨e3, he3⟩ : ∃ b, b = E.os.length := ⟨_, rfl⟩
  rw [← hd1, ← hd2, ← hd3] at C17 C18 CSf
  rw [← he1, ← he2, ← he3] at C19 C20 CSb
  clear hfB her heb hbB hD hE hP hS ha hd1 hd2 hd3 he1 he2 he3
  obtain ⟨aw, ah, at_⟩ := a
  obtain ⟨pi, pa, pc, pb, qa, qc, qb⟩ := P
  obtain ⟨ba, bc, bs, ia, ic, is, oa, oc, os⟩ := S
  (try unfold ArchV.val at CF)
  (try unfold PackV.val at CF)
  (try unfold SpotV.val at CF)
  (try unfold ArchV.val at C17)
  (try unfold PackV.val at C17)
  (try unfold SpotV.val at C17)
  (try unfold ArchV.val at C18)
  (try unfold PackV.val at C18)
  (try unfold SpotV.val at C18)
  (try unfold ArchV.val at C19)
  (try unfold PackV.val at C19)
  (try unfold SpotV.val at C19)
  (try unfold ArchV.val at C20)
  (try unfold PackV.val at C20)
  (try unfold SpotV.val at C20)
  (try unfold ArchV.val at CSf)
  (try unfold PackV.val at CSf)
  (try unfold SpotV.val at CSf)
  (try unfold ArchV.val at CSb)
  (try unfold PackV.val at CSb)
  (try unfold SpotV.val at CSb)
  unfold ArchV.val PackV.val SpotV.val
  (try dsimp only at CF C17 C18 C19 C20 CSf CSb)
  (try dsimp only)
  obtain ⟨nb, hnb⟩ : ∃ n, n = pb.length := ⟨_, rfl⟩
  (try rw [← hnb] at CF)
  (try rw [← hnb] at C17)
  (try rw [← hnb] at C18)
  (try rw [← hnb] at C19)
  (try rw [← hnb] at C20)
  (try rw [← hnb] at CSf)
  (try rw [← hnb] at CSb)
  (try rw [← hnb])
  obtain ⟨no, hno⟩ : ∃ n, n = qb.length := ⟨_, rfl⟩
  (try rw [← hno] at CF)
  (try rw [← hno] at C17)
  (try rw [← hno] at C18)
  (try rw [← hno] at C19)
  (try rw [← hno] at C20)
  (try rw [← hno] at CSf)
  (try rw [← hno] at CSb)
  (try rw [← hno])
  obtain ⟨nbs, hnbs⟩ : ∃ n, n = bs.length := ⟨_, rfl⟩
  (try rw [← hnbs] at CF)
  (try rw [← hnbs] at C17)
  (try rw [← hnbs] at C18)
  (try rw [← hnbs] at C19)
  (try rw [← hnbs] at C20)
  (try rw [← hnbs] at CSf)
  (try rw [← hnbs] at CSb)
  (try rw [← hnbs])
  obtain ⟨nis, hnis⟩ : ∃ n, n = is.length := ⟨_, rfl⟩
  (try rw [← hnis] at CF)
  (try rw [← hnis] at C17)
  (try rw [← hnis] at C18)
  (try rw [← hnis] at C19)
  (try rw [← hnis] at C20)
  (try rw [← hnis] at CSf)
  (try rw [← hnis] at CSb)
  (try rw [← hnis])
  obtain ⟨nos, hnos⟩ : ∃ n, n = os.length := ⟨_, rfl⟩
  (try rw [← hnos] at CF)
  (try rw [← hnos] at C17)
  (try rw [← hnos] at C18)
  (try rw [← hnos] at C19)
  (try rw [← hnos] at C20)
  (try rw [← hnos] at CSf)
  (try rw [← hnos] at CSb)
  (try rw [← hnos])
  clear hnb hno hnbs hnis hnos
  obtain ⟨H, hH⟩ : ∃ h, h = w.heap.size := ⟨_, rfl⟩
  obtain ⟨w1, hw1⟩ : ∃ W, W = (((w.alloc (.cells #[.int .i64 aw, .int .i64 ah, .int .i64 at_] 23)).alloc (.cells #[.int .i64 pi, .slice pa nb pc, .slice qa no qc] 27)).alloc (.cells #[.slice ba nbs bc, .slice ia nis ic, .slice oa nos oc] 29)) := ⟨_, rfl⟩
  obtain ⟨H1, hH1⟩ : ∃ x, x = H + 1 := ⟨_, rfl⟩
  obtain ⟨H2, hH2⟩ : ∃ x, x = H1 + 1 := ⟨_, rfl⟩
  have hs1 : w1.heap.size = H + 3 := by rw [hw1, hH]; simp
  have hX1 : Below w.heap.size w w1 := by rw [hw1]; exact (((Below.refl _ _).alloc (Nat.le_refl _) _).alloc (by simp <;> omega) _).alloc (by simp <;> omega) _
  have hrw0 : w1.rowIs (H) 23 3 (fun i => ([.int .i64 aw, .int .i64 ah, .int .i64 at_] : List Value).getD i undef) := by rw [hw1, hH]; exact (((rowL_alloc w 23 [.int .i64 aw, .int .i64 ah, .int .i64 at_]).alloc (.cells #[.int .i64 pi, .slice pa nb pc, .slice qa no qc] 27)).alloc (.cells #[.slice ba nbs bc, .slice ia nis ic, .slice oa nos oc] 29))
  have hrw1 : w1.rowIs (H1) 27 3 (fun i => ([.int .i64 pi, .slice pa nb pc, .slice qa no qc] : List Value).getD i undef) := by
    have h := ((rowL_alloc (w.alloc (.cells #[.int .i64 aw, .int .i64 ah, .int .i64 at_] 23)) 27 [.int .i64 pi, .slice pa nb pc, .slice qa no qc]).alloc (.cells #[.slice ba nbs bc, .slice ia nis ic, .slice oa nos oc] 29))
    have hsz : (w.alloc (.cells #[.int .i64 aw, .int .i64 ah, .int .i64 at_] 23)).heap.size = H1 := by rw [hH1, hH]; simp
    rw [hsz] at h
    rw [hw1]
    exact h
  have hrw2 : w1.rowIs (H2) 29 3 (fun i => ([.slice ba nbs bc, .slice ia nis ic, .slice oa nos oc] : List Value).getD i undef) := by
    have h := (rowL_alloc ((w.alloc (.cells #[.int .i64 aw, .int .i64 ah, .int .i64 at_] 23)).alloc (.cells #[.int .i64 pi, .slice pa nb pc, .slice qa no qc] 27)) 29 [.slice ba nbs bc, .slice ia nis ic, .slice oa nos oc])
    have hsz : ((w.alloc (.cells #[.int .i64 aw, .int .i64 ah, .int .i64 at_] 23)).alloc (.cells #[.int .i64 pi, .slice pa nb pc, .slice qa no qc] 27)).heap.size = H2 := by rw [hH2, hH1, hH]; simp
    rw [hsz] at h
    rw [hw1]
    exact h
  have HK : Hid (∀ W, Below w1.heap.size w1 W → W.cell? ⟨H, 0, none⟩ = some (.int .i64 aw) ∧ W.cell? ⟨H, 1, none⟩ = some (.int .i64 ah) ∧ W.cell? ⟨H, 2, none⟩ = some (.int .i64 at_) ∧ W.cell? ⟨H1, 0, none⟩ = some (.int .i64 pi) ∧ W.cell? ⟨H1, 1, none⟩ = some (.slice pa nb pc) ∧ W.cell? ⟨H1, 2, none⟩ = some (.slice qa no qc) ∧ W.cell? ⟨H2, 0, none⟩ = some (.slice ba nbs bc) ∧ W.cell? ⟨H2, 1, none⟩ = some (.slice ia nis ic) ∧ W.cell? ⟨H2, 2, none⟩ = some (.slice oa nos oc)) := Lib.hid fun W hW => by
    have h0 := hrw0.of_block (hW.block H (by omega))
    have h1 := hrw1.of_block (hW.block H1 (by omega))
    have h2 := hrw2.of_block (hW.block H2 (by omega))
    exact ⟨h0.cell (by omega), h0.cell (by omega), h0.cell (by omega), h1.cell (by omega), h1.cell (by omega), h1.cell (by omega), h2.cell (by omega), h2.cell (by omega), h2.cell (by omega)⟩
  have HSz : Hid (w1.heap.size = H + 3 ∧ H = w.heap.size) := Lib.hid ⟨hs1, hH⟩
  have HXW : Hid (∀ W, Below w1.heap.size w1 W → Below w.heap.size w W) := Lib.hid fun W hW => hX1.trans (hW.mono (by omega))
  have HW1 := Lib.hid hw1
  have HHH := Lib.hid hH
  have HHH1 := Lib.hid hH1
  have HHH2 := Lib.hid hH2
  clear hw1 hX1 hs1 hH hrw0 hrw1 hrw2 hH1 hH2
  go_enter Try.func4, Try.ntmps4
  go_wp2_with fail
  rw [← HW1.out]
  (try rw [← HHH.out])
  (try rw [← HHH1.out])
  (try rw [← HHH2.out])
  refine Calls.mono (HL.out w1) ?_
  rintro e w2 ⟨rfl, hb⟩
  have HBw2 : Hid (Below w1.heap.size w1 w2) := Lib.hid (((Below.refl w1.heap.size w1)).trans (hb.mono ((Below.refl w1.heap.size w1)).size))
  have HVw2 : Hid (Below w1.heap.size w1 w2) := Lib.hid (((Below.refl w1.heap.size w1)).trans (hb.mono ((Below.refl w1.heap.size w1)).size))
  clear hb
  obtain ⟨a0, a1, a2, p0, p1, p2, s0, s1, s2⟩ := HK.out w2 HVw2.out
  go_wp2_with fail
  clear a0 a1 a2 p0 p1 p2 s0 s1 s2
  refine Calls.mono (CF.out w2) ?_
  rintro e w3 ⟨rfl, hb⟩
  have HBw3 : Hid (Below w1.heap.size w1 w3) := Lib.hid ((HBw2.out).trans (hb.mono (HBw2.out).size))
  have HVw3 : Hid (Below w1.heap.size w1 w3) := Lib.hid ((HVw2.out).trans (hb.mono (HVw2.out).size))
  clear hb
  cases hf : fB with
  | false =>
    subst hf
    go_wp2_with fail
    go_ret
    exact ⟨rfl, HXW.out _ HBw3.out⟩
  | true =>
    subst hf
    obtain ⟨a0, a1, a2, p0, p1, p2, s0, s1, s2⟩ := HK.out w3 HVw3.out
    go_wp2_with fail
    clear a0 a1 a2 p0 p1 p2 s0 s1 s2
    refine Calls.mono (C17.out (by trivial) w3 (HXW.out _ HBw3.out)) ?_
    rintro e v4 ⟨xba, xbc, xia, xic, xoa, xoc, rfl, hR, hb⟩
    have HBv4 : Hid (Below w1.heap.size w1 v4) := Lib.hid ((HBw3.out).trans (hb.mono (HBw3.out).size))
    have HVv4 : Hid (Below w1.heap.size w1 v4) := Lib.hid ((HVw3.out).trans (hb.mono (HVw3.out).size))
    clear hb
    obtain ⟨B12, hB12⟩ : ∃ x, x = v4.heap.size := ⟨_, rfl⟩
    obtain ⟨w4, hw4⟩ : ∃ W, W = v4.alloc (.cells #[.slice xba d1 xbc, .slice xia d2 xic, .slice xoa d3 xoc] 29) := ⟨_, rfl⟩
    have hvw4 : Below v4.heap.size v4 w4 := by rw [hw4]; exact (Below.refl _ _).alloc (Nat.le_refl _) _
    have HBw4 : Hid (Below w1.heap.size w1 w4) := Lib.hid ((HBv4.out).trans (hvw4.mono (HBv4.out).size))
    have HUw4 := Lib.hid hvw4
    have hrw4 : w4.rowIs (B12) 29 3 (fun i => ([.slice xba d1 xbc, .slice xia d2 xic, .slice xoa d3 xoc] : List Value).getD i undef) := by rw [hw4, hB12]; exact rowL_alloc v4 29 [.slice xba d1 xbc, .slice xia d2 xic, .slice xoa d3 xoc]
    have HKw4 : Hid (∀ W, Below w4.heap.size w4 W → W.cell? ⟨H, 0, none⟩ = some (.int .i64 aw) ∧ W.cell? ⟨H, 1, none⟩ = some (.int .i64 ah) ∧ W.cell? ⟨H, 2, none⟩ = some (.int .i64 at_) ∧ W.cell? ⟨H1, 0, none⟩ = some (.int .i64 pi) ∧ W.cell? ⟨H1, 1, none⟩ = some (.slice pa nb pc) ∧ W.cell? ⟨H1, 2, none⟩ = some (.slice qa no qc) ∧ W.cell? ⟨H2, 0, none⟩ = some (.slice ba nbs bc) ∧ W.cell? ⟨H2, 1, none⟩ = some (.slice ia nis ic) ∧ W.cell? ⟨H2, 2, none⟩ = some (.slice oa nos oc) ∧ W.cell? ⟨B12, 0, none⟩ = some (.slice xba d1 xbc) ∧ W.cell? ⟨B12, 1, none⟩ = some (.slice xia d2 xic) ∧ W.cell? ⟨B12, 2, none⟩ = some (.slice xoa d3 xoc)) := Lib.hid fun W hW => by
      obtain ⟨a0, a1, a2, p0, p1, p2, s0, s1, s2⟩ := HK.out W ((HVv4.out).trans ((hvw4.trans (hW.mono hvw4.size)).mono (HVv4.out).size))
      have h := hrw4.of_block (hW.block B12 hrw4.lt)
      exact ⟨a0, a1, a2, p0, p1, p2, s0, s1, s2, h.cell (by omega), h.cell (by omega), h.cell (by omega)⟩
    have hk := HKw4.out w4 (Below.refl _ _)
    clear hvw4 hrw4
    rw [hw4, hB12] at hk
    obtain ⟨a0, a1, a2, p0, p1, p2, s0, s1, s2, k0, k1, k2⟩ := hk
    have Sxw4 := Lib.hid (hR.below HUw4.out (Nat.le_refl _))
    clear hR
    go_wp2_with fail
    clear a0 a1 a2 p0 p1 p2 s0 s1 s2 k0 k1 k2
    rw [← hw4]
    (try rw [← hB12])
    clear hw4 hB12
    refine Calls.mono (C18.out (by trivial) w4 (HXW.out _ HBw4.out)) ?_
    rintro e v5 ⟨yba, ybc, yia, yic, yoa, yoc, rfl, hR, hb⟩
    have HBv5 : Hid (Below w1.heap.size w1 v5) := Lib.hid ((HBw4.out).trans (hb.mono (HBw4.out).size))
    have HVv5 : Hid (Below w4.heap.size w4 v5) := Lib.hid (((Below.refl w4.heap.size w4)).trans (hb.mono ((Below.refl w4.heap.size w4)).size))
    clear hb
    have Sxv5 := Lib.hid (Sxw4.out.below HVv5.out (Nat.le_refl _))
    obtain ⟨B14, hB14⟩ : ∃ x, x = v5.heap.size := ⟨_, rfl⟩
    obtain ⟨w5, hw5⟩ : ∃ W, W = v5.alloc (.cells #[.slice yba d1 ybc, .slice yia d2 yic, .slice yoa d3 yoc] 29) := ⟨_, rfl⟩
    have hvw5 : Below v5.heap.size v5 w5 := by rw [hw5]; exact (Below.refl _ _).alloc (Nat.le_refl _) _
    have HBw5 : Hid (Below w1.heap.size w1 w5) := Lib.hid ((HBv5.out).trans (hvw5.mono (HBv5.out).size))
    have HUw5 := Lib.hid hvw5
    have hrw5 : w5.rowIs (B14) 29 3 (fun i => ([.slice yba d1 ybc, .slice yia d2 yic, .slice yoa d3 yoc] : List Value).getD i undef) := by rw [hw5, hB14]; exact rowL_alloc v5 29 [.slice yba d1 ybc, .slice yia d2 yic, .slice yoa d3 yoc]
    have HKw5 : Hid (∀ W, Below w5.heap.size w5 W → W.cell? ⟨H, 0, none⟩ = some (.int .i64 aw) ∧ W.cell? ⟨H, 1, none⟩ = some (.int .i64 ah) ∧ W.cell? ⟨H, 2, none⟩ = some (.int .i64 at_) ∧ W.cell? ⟨H1, 0, none⟩ = some (.int .i64 pi) ∧ W.cell? ⟨H1, 1, none⟩ = some (.slice pa nb pc) ∧ W.cell? ⟨H1, 2, none⟩ = some (.slice qa no qc) ∧ W.cell? ⟨H2, 0, none⟩ = some (.slice ba nbs bc) ∧ W.cell? ⟨H2, 1, none⟩ = some (.slice ia nis ic) ∧ W.cell? ⟨H2, 2, none⟩ = some (.slice oa nos oc) ∧ W.cell? ⟨B12, 0, none⟩ = some (.slice xba d1 xbc) ∧ W.cell? ⟨B12, 1, none⟩ = some (.slice xia d2 xic) ∧ W.cell? ⟨B12, 2, none⟩ = some (.slice xoa d3 xoc) ∧ W.cell? ⟨B14, 0, none⟩ = some (.slice yba d1 ybc) ∧ W.cell? ⟨B14, 1, none⟩ = some (.slice yia d2 yic) ∧ W.cell? ⟨B14, 2, none⟩ = some (.slice yoa d3 yoc)) := Lib.hid fun W hW => by
      obtain ⟨a0, a1, a2, p0, p1, p2, s0, s1, s2, k0, k1, k2⟩ := HKw4.out W ((HVv5.out).trans ((hvw5.trans (hW.mono hvw5.size)).mono (HVv5.out).size))
      have h := hrw5.of_block (hW.block B14 hrw5.lt)
      exact ⟨a0, a1, a2, p0, p1, p2, s0, s1, s2, k0, k1, k2, h.cell (by omega), h.cell (by omega), h.cell (by omega)⟩
    have hk := HKw5.out w5 (Below.refl _ _)
    clear hvw5 hrw5
    rw [hw5, hB14] at hk
    obtain ⟨a0, a1, a2, p0, p1, p2, s0, s1, s2, k0, k1, k2, l0, l1, l2⟩ := hk
    have Sxw5 := Lib.hid (Sxv5.out.below HUw5.out (Nat.le_refl _))
    have Syw5 := Lib.hid (hR.below HUw5.out (Nat.le_refl _))
    clear hR
    go_wp2_with fail
    clear a0 a1 a2 p0 p1 p2 s0 s1 s2 k0 k1 k2 l0 l1 l2
    rw [← hw5]
    (try rw [← hB14])
    clear hw5 hB14
    refine Calls.mono (C19.out (by trivial) w5 (HXW.out _ HBw5.out)) ?_
    rintro e v6 ⟨zba, zbc, zia, zic, zoa, zoc, rfl, hR, hb⟩
    have HBv6 : Hid (Below w1.heap.size w1 v6) := Lib.hid ((HBw5.out).trans (hb.mono (HBw5.out).size))
    have HVv6 : Hid (Below w5.heap.size w5 v6) := Lib.hid (((Below.refl w5.heap.size w5)).trans (hb.mono ((Below.refl w5.heap.size w5)).size))
    clear hb
    have Sxv6 := Lib.hid (Sxw5.out.below HVv6.out (Nat.le_refl _))
    have Syv6 := Lib.hid (Syw5.out.below HVv6.out (Nat.le_refl _))
    obtain ⟨B16, hB16⟩ : ∃ x, x = v6.heap.size := ⟨_, rfl⟩
    obtain ⟨w6, hw6⟩ : ∃ W, W = v6.alloc (.cells #[.slice zba e1 zbc, .slice zia e2 zic, .slice zoa e3 zoc] 29) := ⟨_, rfl⟩
    have hvw6 : Below v6.heap.size v6 w6 := by rw [hw6]; exact (Below.refl _ _).alloc (Nat.le_refl _) _
    have HBw6 : Hid (Below w1.heap.size w1 w6) := Lib.hid ((HBv6.out).trans (hvw6.mono (HBv6.out).size))
    have HUw6 := Lib.hid hvw6
    have hrw6 : w6.rowIs (B16) 29 3 (fun i => ([.slice zba e1 zbc, .slice zia e2 zic, .slice zoa e3 zoc] : List Value).getD i undef) := by rw [hw6, hB16]; exact rowL_alloc v6 29 [.slice zba e1 zbc, .slice zia e2 zic, .slice zoa e3 zoc]
    have HKw6 : Hid (∀ W, Below w6.heap.size w6 W → W.cell? ⟨H, 0, none⟩ = some (.int .i64 aw) ∧ W.cell? ⟨H, 1, none⟩ = some (.int .i64 ah) ∧ W.cell? ⟨H, 2, none⟩ = some (.int .i64 at_) ∧ W.cell? ⟨H1, 0, none⟩ = some (.int .i64 pi) ∧ W.cell? ⟨H1, 1, none⟩ = some (.slice pa nb pc) ∧ W.cell? ⟨H1, 2, none⟩ = some (.slice qa no qc) ∧ W.cell? ⟨H2, 0, none⟩ = some (.slice ba nbs bc) ∧ W.cell? ⟨H2, 1, none⟩ = some (.slice ia nis ic) ∧ W.cell? ⟨H2, 2, none⟩ = some (.slice oa nos oc) ∧ W.cell? ⟨B12, 0, none⟩ = some (.slice xba d1 xbc) ∧ W.cell? ⟨B12, 1, none⟩ = some (.slice xia d2 xic) ∧ W.cell? ⟨B12, 2, none⟩ = some (.slice xoa d3 xoc) ∧ W.cell? ⟨B14, 0, none⟩ = some (.slice yba d1 ybc) ∧ W.cell? ⟨B14, 1, none⟩ = some (.slice yia d2 yic) ∧ W.cell? ⟨B14, 2, none⟩ = some (.slice yoa d3 yoc) ∧ W.cell? ⟨B16, 0, none⟩ = some (.slice zba e1 zbc) ∧ W.cell? ⟨B16, 1, none⟩ = some (.slice zia e2 zic) ∧ W.cell? ⟨B16, 2, none⟩ = some (.slice zoa e3 zoc)) := Lib.hid fun W hW => by
      obtain ⟨a0, a1, a2, p0, p1, p2, s0, s1, s2, k0, k1, k2, l0, l1, l2⟩ := HKw5.out W ((HVv6.out).trans ((hvw6.trans (hW.mono hvw6.size)).mono (HVv6.out).size))
      have h := hrw6.of_block (hW.block B16 hrw6.lt)
      exact ⟨a0, a1, a2, p0, p1, p2, s0, s1, s2, k0, k1, k2, l0, l1, l2, h.cell (by omega), h.cell (by omega), h.cell (by omega)⟩
    have hk := HKw6.out w6 (Below.refl _ _)
    clear hvw6 hrw6
    rw [hw6, hB16] at hk
    obtain ⟨a0, a1, a2, p0, p1, p2, s0, s1, s2, k0, k1, k2, l0, l1, l2, f0, f1, f2⟩ := hk
    have Sxw6 := Lib.hid (Sxv6.out.below HUw6.out (Nat.le_refl _))
    have Syw6 := Lib.hid (Syv6.out.below HUw6.out (Nat.le_refl _))
    have Szw6 := Lib.hid (hR.below HUw6.out (Nat.le_refl _))
    clear hR
    go_wp2_with fail
    clear a0 a1 a2 p0 p1 p2 s0 s1 s2 k0 k1 k2 l0 l1 l2 f0 f1 f2
    rw [← hw6]
    (try rw [← hB16])
    clear hw6 hB16
    refine Calls.mono (C20.out (by trivial) w6 (HXW.out _ HBw6.out)) ?_
    rintro e v7 ⟨tba, tbc, tia, tic, toa, toc, rfl, hR, hb⟩
    have HBv7 : Hid (Below w1.heap.size w1 v7) := Lib.hid ((HBw6.out).trans (hb.mono (HBw6.out).size))
    have HVv7 : Hid (Below w6.heap.size w6 v7) := Lib.hid (((Below.refl w6.heap.size w6)).trans (hb.mono ((Below.refl w6.heap.size w6)).size))
    clear hb
    have Sxv7 := Lib.hid (Sxw6.out.below HVv7.out (Nat.le_refl _))
    have Syv7 := Lib.hid (Syw6.out.below HVv7.out (Nat.le_refl _))
    have Szv7 := Lib.hid (Szw6.out.below HVv7.out (Nat.le_refl _))
    obtain ⟨B19, hB19⟩ : ∃ x, x = v7.heap.size := ⟨_, rfl⟩
    obtain ⟨w7, hw7⟩ : ∃ W, W = v7.alloc (.cells #[.slice tba e1 tbc, .slice tia e2 tic, .slice toa e3 toc] 29) := ⟨_, rfl⟩
    have hvw7 : Below v7.heap.size v7 w7 := by rw [hw7]; exact (Below.refl _ _).alloc (Nat.le_refl _) _
    have HBw7 : Hid (Below w1.heap.size w1 w7) := Lib.hid ((HBv7.out).trans (hvw7.mono (HBv7.out).size))
    have HUw7 := Lib.hid hvw7
    have hrw7 : w7.rowIs (B19) 29 3 (fun i => ([.slice tba e1 tbc, .slice tia e2 tic, .slice toa e3 toc] : List Value).getD i undef) := by rw [hw7, hB19]; exact rowL_alloc v7 29 [.slice tba e1 tbc, .slice tia e2 tic, .slice toa e3 toc]
    have HKw7 : Hid (∀ W, Below w7.heap.size w7 W → W.cell? ⟨H, 0, none⟩ = some (.int .i64 aw) ∧ W.cell? ⟨H, 1, none⟩ = some (.int .i64 ah) ∧ W.cell? ⟨H, 2, none⟩ = some (.int .i64 at_) ∧ W.cell? ⟨H1, 0, none⟩ = some (.int .i64 pi) ∧ W.cell? ⟨H1, 1, none⟩ = some (.slice pa nb pc) ∧ W.cell? ⟨H1, 2, none⟩ = some (.slice qa no qc) ∧ W.cell? ⟨H2, 0, none⟩ = some (.slice ba nbs bc) ∧ W.cell? ⟨H2, 1, none⟩ = some (.slice ia nis ic) ∧ W.cell? ⟨H2, 2, none⟩ = some (.slice oa nos oc) ∧ W.cell? ⟨B12, 0, none⟩ = some (.slice xba d1 xbc) ∧ W.cell? ⟨B12, 1, none⟩ = some (.slice xia d2 xic) ∧ W.cell? ⟨B12, 2, none⟩ = some (.slice xoa d3 xoc) ∧ W.cell? ⟨B14, 0, none⟩ = some (.slice yba d1 ybc) ∧ W.cell? ⟨B14, 1, none⟩ = some (.slice yia d2 yic) ∧ W.cell? ⟨B14, 2, none⟩ = some (.slice yoa d3 yoc) ∧ W.cell? ⟨B16, 0, none⟩ = some (.slice zba e1 zbc) ∧ W.cell? ⟨B16, 1, none⟩ = some (.slice zia e2 zic) ∧ W.cell? ⟨B16, 2, none⟩ = some (.slice zoa e3 zoc) ∧ W.cell? ⟨B19, 0, none⟩ = some (.slice tba e1 tbc) ∧ W.cell? ⟨B19, 1, none⟩ = some (.slice tia e2 tic) ∧ W.cell? ⟨B19, 2, none⟩ = some (.slice toa e3 toc)) := Lib.hid fun W hW => by
      obtain ⟨a0, a1, a2, p0, p1, p2, s0, s1, s2, k0, k1, k2, l0, l1, l2, f0, f1, f2⟩ := HKw6.out W ((HVv7.out).trans ((hvw7.trans (hW.mono hvw7.size)).mono (HVv7.out).size))
      have h := hrw7.of_block (hW.block B19 hrw7.lt)
      exact ⟨a0, a1, a2, p0, p1, p2, s0, s1, s2, k0, k1, k2, l0, l1, l2, f0, f1, f2, h.cell (by omega), h.cell (by omega), h.cell (by omega)⟩
    have hk := HKw7.out w7 (Below.refl _ _)
    clear hvw7 hrw7
    rw [hw7, hB19] at hk
    obtain ⟨a0, a1, a2, p0, p1, p2, s0, s1, s2, k0, k1, k2, l0, l1, l2, f0, f1, f2, g0, g1, g2⟩ := hk
    have Sxw7 := Lib.hid (Sxv7.out.below HUw7.out (Nat.le_refl _))
    have Syw7 := Lib.hid (Syv7.out.below HUw7.out (Nat.le_refl _))
    have Szw7 := Lib.hid (Szv7.out.below HUw7.out (Nat.le_refl _))
    have Stw7 := Lib.hid (hR.below HUw7.out (Nat.le_refl _))
    clear hR
    go_wp2_with fail
    clear a0 a1 a2 p0 p1 p2 s0 s1 s2 k0 k1 k2 l0 l1 l2 f0 f1 f2 g0 g1 g2
    rw [← hw7]
    (try rw [← hB19])
    clear hw7 hB19
    refine Calls.mono (CSf.out (by trivial) w7 xba xbc xia xic xoa xoc yba ybc yia yic yoa yoc Sxw7.out Syw7.out) ?_
    rintro e w8 ⟨rfl, hb⟩
    have HBw8 : Hid (Below w1.heap.size w1 w8) := Lib.hid ((HBw7.out).trans (hb.mono (HBw7.out).size))
    have HVw8 : Hid (Below w7.heap.size w7 w8) := Lib.hid (((Below.refl w7.heap.size w7)).trans (hb.mono ((Below.refl w7.heap.size w7)).size))
    clear hb
    obtain ⟨a0, a1, a2, p0, p1, p2, s0, s1, s2, k0, k1, k2, l0, l1, l2, f0, f1, f2, g0, g1, g2⟩ := HKw7.out w8 HVw8.out
    go_wp2_with fail
    clear a0 a1 a2 p0 p1 p2 s0 s1 s2 k0 k1 k2 l0 l1 l2 f0 f1 f2 g0 g1 g2
    refine Calls.mono (CSb.out (by trivial) w8 zba zbc zia zic zoa zoc tba tbc tia tic toa toc (Szw7.out.below HVw8.out (Nat.le_refl _)) (Stw7.out.below HVw8.out (Nat.le_refl _))) ?_
    rintro e w9 ⟨rfl, hb⟩
    have HBw9 : Hid (Below w1.heap.size w1 w9) := Lib.hid ((HBw8.out).trans (hb.mono (HBw8.out).size))
    have HVw9 : Hid (Below w7.heap.size w7 w9) := Lib.hid ((HVw8.out).trans (hb.mono (HVw8.out).size))
    clear hb
    obtain ⟨a0, a1, a2, p0, p1, p2, s0, s1, s2, k0, k1, k2, l0, l1, l2, f0, f1, f2, g0, g1, g2⟩ := HKw7.out w9 HVw9.out
    go_wp2_with fail
    go_ret
    exact ⟨rfl, HXW.out _ HBw9.out⟩
end Go.Proofs.Ytholafodachjnaa
