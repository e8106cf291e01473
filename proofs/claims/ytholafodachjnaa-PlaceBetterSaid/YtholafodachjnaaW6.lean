/- PlaceBetter, walked. -/
import Derived.Deep.CutRange
import Derived.Test.YtholafodachjnaaZ40
namespace Go.Proofs.Ytholafodachjnaa
open Go.RowKit Go.Shelf
set_option linter.unusedVariables false
set_option linter.unusedSimpArgs false

set_option maxRecDepth 100000 in
set_option maxHeartbeats 8000000 in
theorem placeBetter (w : World) (a : ArchV) (ha : ArchR a) (P : PackV) (hP : PackAt w P) (S : SpotV) (hS : SpotAt w S) (m : Int) (hm9 : I64 m) (n : Int) (hn9 : I64 n) :
    Calls Try.prog 6 #[a.val, P.val, S.val, .int .i64 m, .int .i64 n] w fun e w' => e = .returned (.bool true) ∧ Below w.heap.size w w' := by
  have CF : Hid (∀ W, Calls Try.prog 12 #[a.val, P.val, S.val] W fun e w' => e = .returned (.bool (fewA a P S)) ∧ Below W.heap.size W w') := Lib.hid fun W => few12 W a P S
  have C0 : Hid (fewA a P S = true → ¬ errB a P S m n = 0 → ∀ W, Below w.heap.size w W → Calls Try.prog 19 #[a.val, P.val, S.val, .int .i64 m, .int .i64 n] W fun e w' => ∃ ba bc ia ic oa oc, e = .returned (.tuple #[.agg #[.slice ba 0 bc, .slice ia 0 ic, .slice oa 0 oc], .bool false, .int .i64 (errB a P S m n)]) ∧ Below W.heap.size W w') :=
    Lib.hid fun h he W hW => better_bad W a P S (hP.below hW (Nat.le_refl _)) (fewA_ok hP h).1 (hS.below hW (Nat.le_refl _)) (fewA_ok hP h).2 m n hm9 hn9 he
  have C1 : Hid (fewA a P S = true → errB a P S m n = 0 → ∀ W, Below w.heap.size w W → Calls Try.prog 19 #[a.val, P.val, S.val, .int .i64 m, .int .i64 n] W fun e w' => ∃ ba bc bs ia ic is oa oc os, e = .returned (.tuple #[.agg #[.slice ba S.bs.length bc, .slice ia S.is.length ic, .slice oa S.os.length oc], .bool (okB a P S m n), .int .i64 0]) ∧ SpotV.data ⟨ba, bc, bs, ia, ic, is, oa, oc, os⟩ = outD a P S m n ∧ SpotAt w' ⟨ba, bc, bs, ia, ic, is, oa, oc, os⟩ ∧ (bs.length = S.bs.length ∧ is.length = S.is.length ∧ os.length = S.os.length) ∧ Below W.heap.size W w') :=
    Lib.hid fun h he W hW => better_ok W a P S (hP.below hW (Nat.le_refl _)) (fewA_ok hP h).1 (hS.below hW (Nat.le_refl _)) (fewA_ok hP h).2 m n hm9 hn9 he
  have CS : Hid (fewA a P S = true → errB a P S m n = 0 → ∀ W, Below w.heap.size w W → Calls Try.prog 13 #[a.val, P.val, S.val] W fun e w' => e = .returned (.tuple #[.int .i64 (costV a P S), .int .i64 0]) ∧ Below W.heap.size W w') := Lib.hid fun h he W hW => by
    have := cost13 W a P S (hP.below hW (Nat.le_refl _)) (fewA_ok hP h).1 (hS.below hW (Nat.le_refl _)) (fewA_ok hP h).2
    rw [(errB_ok.1 he).1] at this
    exact this
  have C21 : Hid (fewA a P S = true → ∀ W ba bc bs ia ic is oa oc os, Below w.heap.size w W → SpotAt W ⟨ba, bc, bs, ia, ic, is, oa, oc, os⟩ → SpotV.data ⟨ba, bc, bs, ia, ic, is, oa, oc, os⟩ = S.data → (bs.length = S.bs.length ∧ is.length = S.is.length ∧ os.length = S.os.length) → Calls Try.prog 21 #[.agg #[.slice ba S.bs.length bc, .slice ia S.is.length ic, .slice oa S.os.length oc], S.val] W fun e w' => e = .returned (.bool true) ∧ Below W.heap.size W w') :=
    Lib.hid fun h W ba bc bs ia ic is oa oc os hW hR hd hl => same_at W ⟨ba, bc, bs, ia, ic, is, oa, oc, os⟩ S hR (hS.below hW (Nat.le_refl _)) hd (fewA_ok hP h).2 _ _ _ hl.1 hl.2.1 hl.2.2
  have CR : Hid (fewA a P S = true → errB a P S m n = 0 → ∀ W0 ba bc bs ia ic is oa oc os, Below w.heap.size w W0 → SpotAt W0 ⟨ba, bc, bs, ia, ic, is, oa, oc, os⟩ → SpotV.data ⟨ba, bc, bs, ia, ic, is, oa, oc, os⟩ = outD a P S m n → (bs.length = S.bs.length ∧ is.length = S.is.length ∧ os.length = S.os.length) → ∃ (cR : Int) (ag : Bool),
      (∀ W, Below W0.heap.size W0 W → Calls Try.prog 13 #[a.val, P.val, .agg #[.slice ba S.bs.length bc, .slice ia S.is.length ic, .slice oa S.os.length oc]] W fun e w' => e = .returned (.tuple #[.int .i64 cR, .int .i64 0]) ∧ Below W.heap.size W w') ∧
      (∀ W, Below W0.heap.size W0 W → Calls Try.prog 15 #[a.val, P.val, .agg #[.slice ba S.bs.length bc, .slice ia S.is.length ic, .slice oa S.os.length oc]] W fun e w' => e = .returned (.int .i64 0) ∧ Below W.heap.size W w') ∧
      (∀ W, Below W0.heap.size W0 W → Calls Try.prog 19 #[a.val, P.val, .agg #[.slice ba S.bs.length bc, .slice ia S.is.length ic, .slice oa S.os.length oc], .int .i64 n, .int .i64 m] W fun e w' => ∃ ba bc bs ia ic is oa oc os, e = .returned (.tuple #[.agg #[.slice ba S.bs.length bc, .slice ia S.is.length ic, .slice oa S.os.length oc], .bool ag, .int .i64 0]) ∧ (okB a P S m n = true → ag = true → SpotV.data ⟨ba, bc, bs, ia, ic, is, oa, oc, os⟩ = S.data) ∧ SpotAt w' ⟨ba, bc, bs, ia, ic, is, oa, oc, os⟩ ∧ (bs.length = S.bs.length ∧ is.length = S.is.length ∧ os.length = S.os.length) ∧ Below W.heap.size W w') ∧
      cR ≤ costV a P S ∧ (okB a P S m n = true → ag = decide (costV a P S = cR)) ∧ (okB a P S m n = false → SpotV.data ⟨ba, bc, bs, ia, ic, is, oa, oc, os⟩ = S.data)) := Lib.hid fun h he W0 ba bc bs ia ic is oa oc os hW0 hR hd hl => by
    obtain ⟨p1, p2, p3, p4, p5, p6, p7⟩ := better_right he hd
    have hf := (fewA_ok hP h).1
    have hs := (fewA_ok hP h).2
    have hs2 : FewS ⟨ba, bc, bs, ia, ic, is, oa, oc, os⟩ := ⟨by have := hs.b; have := hl.1; dsimp only; omega, by have := hs.i; have := hl.2.1; dsimp only; omega, by have := hs.o; have := hl.2.2; dsimp only; omega⟩
    refine ⟨costV a P ⟨ba, bc, bs, ia, ic, is, oa, oc, os⟩, okB a P ⟨ba, bc, bs, ia, ic, is, oa, oc, os⟩ n m, fun W hW => ?_, fun W hW => ?_, fun W hW => ?_, p4, p6, p5⟩
    · have := cost_at W a P ⟨ba, bc, bs, ia, ic, is, oa, oc, os⟩ (hP.below (hW0.trans (hW.mono hW0.size)) (Nat.le_refl _)) hf (hR.below hW (Nat.le_refl _)) hs2 _ _ _ hl.1 hl.2.1 hl.2.2
      rw [p2] at this
      exact this
    · have := check_at W a P ⟨ba, bc, bs, ia, ic, is, oa, oc, os⟩ (hP.below (hW0.trans (hW.mono hW0.size)) (Nat.le_refl _)) hf (hR.below hW (Nat.le_refl _)) hs2 _ _ _ hl.1 hl.2.1 hl.2.2
      rw [p2] at this
      exact this
    · refine Calls.mono (better_at W a P ⟨ba, bc, bs, ia, ic, is, oa, oc, os⟩ (hP.below (hW0.trans (hW.mono hW0.size)) (Nat.le_refl _)) hf (hR.below hW (Nat.le_refl _)) hs2 _ _ _ hl.1 hl.2.1 hl.2.2 n m hn9 hm9 p3) ?_
      rintro e w' ⟨ba, bc, bs, ia, ic, is, oa, oc, os, q1, q2, q3, q4, q5⟩
      exact ⟨ba, bc, bs, ia, ic, is, oa, oc, os, q1, fun u v => q2.trans (p7 u v), q3, q4, q5⟩
  have HL : Hid (∀ W, Calls Try.prog 11 #[] W fun e w' => e = .returned (.bool true) ∧ Below W.heap.size W w') := Lib.hid live11
  obtain ⟨fB, hfB⟩ : ∃ b, b = fewA a P S := ⟨_, rfl⟩
  obtain ⟨er, her⟩ : ∃ b, b = errB a P S m n := ⟨_, rfl⟩
  obtain ⟨bB, hbB⟩ : ∃ b, b = okB a P S m n := ⟨_, rfl⟩
  obtain ⟨cS, hcS⟩ : ∃ b, b = costV a P S := ⟨_, rfl⟩
  obtain ⟨D, hD⟩ : ∃ b, b = outD a P S m n := ⟨_, rfl⟩
  obtain ⟨E, hE⟩ : ∃ b, b = S.data := ⟨_, rfl⟩
  rw [← hfB] at CF C0 C1 CS CR C21
  rw [← her] at C0 C1 CS CR
  rw [← hbB] at C1 CR
  rw [← hcS] at CS CR
  rw [← hD] at C1 CR
  rw [← hE] at C21 CR
  clear hfB her hbB hcS hD hE hP hS ha
  obtain ⟨aw, ah, at_⟩ := a
  obtain ⟨pi, pa, pc, pb, qa, qc, qb⟩ := P
  obtain ⟨ba, bc, bs, ia, ic, is, oa, oc, os⟩ := S
  (try unfold ArchV.val at CF)
  (try unfold PackV.val at CF)
  (try unfold SpotV.val at CF)
  (try unfold ArchV.val at C0)
  (try unfold PackV.val at C0)
  (try unfold SpotV.val at C0)
  (try unfold ArchV.val at C1)
  (try unfold PackV.val at C1)
  (try unfold SpotV.val at C1)
  (try unfold ArchV.val at CS)
  (try unfold PackV.val at CS)
  (try unfold SpotV.val at CS)
  (try unfold ArchV.val at CR)
  (try unfold PackV.val at CR)
  (try unfold SpotV.val at CR)
  (try unfold ArchV.val at C21)
  (try unfold PackV.val at C21)
  (try unfold SpotV.val at C21)
  unfold ArchV.val PackV.val SpotV.val
  (try dsimp only at CF C0 C1 CS CR C21)
  (try dsimp only)
  obtain ⟨nb, hnb⟩ : ∃ n, n = pb.length := ⟨_, rfl⟩
  (try rw [← hnb] at CF)
  (try rw [← hnb] at C0)
  (try rw [← hnb] at C1)
  (try rw [← hnb] at CS)
  (try rw [← hnb] at CR)
  (try rw [← hnb] at C21)
  (try rw [← hnb])
  obtain ⟨no, hno⟩ : ∃ n, n = qb.length := ⟨_, rfl⟩
  (try rw [← hno] at CF)
  (try rw [← hno] at C0)
  (try rw [← hno] at C1)
  (try rw [← hno] at CS)
  (try rw [← hno] at CR)
  (try rw [← hno] at C21)
  (try rw [← hno])
  obtain ⟨nbs, hnbs⟩ : ∃ n, n = bs.length := ⟨_, rfl⟩
  (try rw [← hnbs] at CF)
  (try rw [← hnbs] at C0)
  (try rw [← hnbs] at C1)
  (try rw [← hnbs] at CS)
  (try rw [← hnbs] at CR)
  (try rw [← hnbs] at C21)
  (try rw [← hnbs])
  obtain ⟨nis, hnis⟩ : ∃ n, n = is.length := ⟨_, rfl⟩
  (try rw [← hnis] at CF)
  (try rw [← hnis] at C0)
  (try rw [← hnis] at C1)
  (try rw [← hnis] at CS)
  (try rw [← hnis] at CR)
  (try rw [← hnis] at C21)
  (try rw [← hnis])
  obtain ⟨nos, hnos⟩ : ∃ n, n = os.length := ⟨_, rfl⟩
  (try rw [← hnos] at CF)
  (try rw [← hnos] at C0)
  (try rw [← hnos] at C1)
  (try rw [← hnos] at CS)
  (try rw [← hnos] at CR)
  (try rw [← hnos] at C21)
  (try rw [← hnos])
  clear hnb hno hnbs hnis hnos
  obtain ⟨H, hH⟩ : ∃ h, h = w.heap.size := ⟨_, rfl⟩
  obtain ⟨w1, hw1⟩ : ∃ W, W = (((w.alloc (.cells #[.int .i64 aw, .int .i64 ah, .int .i64 at_] 23)).alloc (.cells #[.int .i64 pi, .slice pa nb pc, .slice qa no qc] 27)).alloc (.cells #[.slice ba nbs bc, .slice ia nis ic, .slice oa nos oc] 29)) := ⟨_, rfl⟩
  obtain ⟨H1, hH1⟩ : ∃ x, x = H + 1 := ⟨_, rfl⟩
  obtain ⟨H2, hH2⟩ : ∃ x, x = H1 + 1 := ⟨_, rfl⟩
  have hs1 : w1.heap.size = H + 3 := by rw [hw1, hH]; simp
  have hX1 : Below w.heap.size w w1 := by rw [hw1]; exact (((Below.refl _ _).alloc (Nat.le_refl _) _).alloc (by simp <;> omega) _).alloc (by simp <;> omega) _
  have hrw0 : w1.rowIs (H) 23 3 (fun i => ([.int .i64 aw, .int .i64 ah, .int .i64 at_] : List Value).getD i undef) := by rw [hw1, hH]; exact (((rowL_alloc w 23 [.int .i64 aw, .int .i64 ah, .int .i64 at_]).alloc (.cells #[.int .i64 pi, .slice pa nb pc, .slice qa no qc] 27)).alloc (.cells #[.slice ba nbs bc, .slice ia nis ic, .slice oa nos oc] 29))
  have hrw1 : w1.rowIs (H1) 27 3 (fun i => ([.int .i64 pi, .slice pa nb pc, .slice qa no qc] : List Value).getD i undef) := by
    have h := ((rowL_alloc (w.alloc (.cells #[.int .i64 aw, .int .i64 ah, .int .i64 at_] 23)) 27 [.int .i64 pi, .slice pa nb pc, .slice qa no qc]).alloc (.cells #[.slice ba nbs bc, .slice ia nis ic, .slice oa nos oc] 29))
    have hsz : (w.alloc (.cells #[.int .i64 aw, .int .i64 ah, .int .i64 at_] 23)).heap.size = H1 := by rw [hH1, hH]; simp
    rw [hsz] at h
    rw [hw1]
    exact h
  have hrw2 : w1.rowIs (H2) 29 3 (fun i => ([.slice ba nbs bc, .slice ia nis ic, .slice oa nos oc] : List Value).getD i undef) := by
    have h := (rowL_alloc ((w.alloc (.cells #[.int .i64 aw, .int .i64 ah, .int .i64 at_] 23)).alloc (.cells #[.int .i64 pi, .slice pa nb pc, .slice qa no qc] 27)) 29 [.slice ba nbs bc, .slice ia nis ic, .slice oa nos oc])
    have hsz : ((w.alloc (.cells #[.int .i64 aw, .int .i64 ah, .int .i64 at_] 23)).alloc (.cells #[.int .i64 pi, .slice pa nb pc, .slice qa no qc] 27)).heap.size = H2 := by rw [hH2, hH1, hH]; simp
    rw [hsz] at h
    rw [hw1]
    exact h
  have HK : Hid (∀ W, Below w1.heap.size w1 W → W.cell? ⟨H, 0, none⟩ = some (.int .i64 aw) ∧ W.cell? ⟨H, 1, none⟩ = some (.int .i64 ah) ∧ W.cell? ⟨H, 2, none⟩ = some (.int .i64 at_) ∧ W.cell? ⟨H1, 0, none⟩ = some (.int .i64 pi) ∧ W.cell? ⟨H1, 1, none⟩ = some (.slice pa nb pc) ∧ W.cell? ⟨H1, 2, none⟩ = some (.slice qa no qc) ∧ W.cell? ⟨H2, 0, none⟩ = some (.slice ba nbs bc) ∧ W.cell? ⟨H2, 1, none⟩ = some (.slice ia nis ic) ∧ W.cell? ⟨H2, 2, none⟩ = some (.slice oa nos oc)) := Lib.hid fun W hW => by
    have h0 := hrw0.of_block (hW.block H (by omega))
    have h1 := hrw1.of_block (hW.block H1 (by omega))
    have h2 := hrw2.of_block (hW.block H2 (by omega))
    exact ⟨h0.cell (by omega), h0.cell (by omega), h0.cell (by omega), h1.cell (by omega), h1.cell (by omega), h1.cell (by omega), h2.cell (by omega), h2.cell (by omega), h2.cell (by omega)⟩
  have HSz : Hid (w1.heap.size = H + 3 ∧ H = w.heap.size) := Lib.hid ⟨hs1, hH⟩
  have HXW : Hid (∀ W, Below w1.heap.size w1 W → Below w.heap.size w W) := Lib.hid fun W hW => hX1.trans (hW.mono (by omega))
  have HW1 := Lib.hid hw1
  have HHH := Lib.hid hH
  have HHH1 := Lib.hid hH1
  have HHH2 := Lib.hid hH2
  clear hw1 hX1 hs1 hH hrw0 hrw1 hrw2 hH1 hH2
  go_enter Try.func6, Try.ntmps6
  go_wp2_with fail
  rw [← HW1.out]
  (try rw [← HHH.out])
  (try rw [← HHH1.out])
  (try rw [← HHH2.out])
  refine Calls.mono (HL.out w1) ?_
  rintro e w2 ⟨rfl, hb⟩
  have HBw2 : Hid (Below w1.heap.size w1 w2) := Lib.hid (((Below.refl w1.heap.size w1)).trans (hb.mono ((Below.refl w1.heap.size w1)).size))
  have HVw2 : Hid (Below w1.heap.size w1 w2) := Lib.hid (((Below.refl w1.heap.size w1)).trans (hb.mono ((Below.refl w1.heap.size w1)).size))
  clear hb
  obtain ⟨a0, a1, a2, p0, p1, p2, s0, s1, s2⟩ := HK.out w2 HVw2.out
  go_wp2_with fail
  clear a0 a1 a2 p0 p1 p2 s0 s1 s2
  refine Calls.mono (CF.out w2) ?_
  rintro e w3 ⟨rfl, hb⟩
  have HBw3 : Hid (Below w1.heap.size w1 w3) := Lib.hid ((HBw2.out).trans (hb.mono (HBw2.out).size))
  have HVw3 : Hid (Below w1.heap.size w1 w3) := Lib.hid ((HVw2.out).trans (hb.mono (HVw2.out).size))
  clear hb
  cases hf : fB with
  | false =>
    subst hf
    go_wp2_with fail
    go_ret
    exact ⟨rfl, HXW.out _ HBw3.out⟩
  | true =>
    subst hf
    obtain ⟨a0, a1, a2, p0, p1, p2, s0, s1, s2⟩ := HK.out w3 HVw3.out
    go_wp2_with fail
    by_cases he : er = 0
    · subst he
      clear a0 a1 a2 p0 p1 p2 s0 s1 s2
      refine Calls.mono (C1.out (by trivial) (by trivial) w3 (HXW.out _ HBw3.out)) ?_
      rintro e v4 ⟨rba, rbc, rbs, ria, ric, ris, roa, roc, ros, rfl, hD, hR, hl, hb⟩
      have HBv4 : Hid (Below w1.heap.size w1 v4) := Lib.hid ((HBw3.out).trans (hb.mono (HBw3.out).size))
      have HVv4 : Hid (Below w1.heap.size w1 v4) := Lib.hid ((HVw3.out).trans (hb.mono (HVw3.out).size))
      clear hb
      obtain ⟨cR, ag, k13, k15, k19, hle, hag, hsm⟩ := CR.out (by trivial) (by trivial) v4 rba rbc rbs ria ric ris roa roc ros (HXW.out _ HBv4.out) hR hD hl
      have K13 := Lib.hid k13
      have K15 := Lib.hid k15
      have K19 := Lib.hid k19
      have HAg := Lib.hid hag
      have HSm := Lib.hid hsm
      have HRl := Lib.hid hl
      have HR4 := Lib.hid hR
      clear k13 k15 k19 hag hsm hD hl hR
      obtain ⟨B12, hB12⟩ : ∃ x, x = v4.heap.size := ⟨_, rfl⟩
      obtain ⟨w5, hw5⟩ : ∃ W, W = v4.alloc (.cells #[.slice rba nbs rbc, .slice ria nis ric, .slice roa nos roc] 29) := ⟨_, rfl⟩
      have hvw5 : Below v4.heap.size v4 w5 := by rw [hw5]; exact (Below.refl _ _).alloc (Nat.le_refl _) _
      have HBw5 : Hid (Below w1.heap.size w1 w5) := Lib.hid ((HBv4.out).trans (hvw5.mono (HBv4.out).size))
      have HUw5 := Lib.hid hvw5
      have hrw5 : w5.rowIs (B12) 29 3 (fun i => ([.slice rba nbs rbc, .slice ria nis ric, .slice roa nos roc] : List Value).getD i undef) := by rw [hw5, hB12]; exact rowL_alloc v4 29 [.slice rba nbs rbc, .slice ria nis ric, .slice roa nos roc]
      have HKw5 : Hid (∀ W, Below w5.heap.size w5 W → W.cell? ⟨H, 0, none⟩ = some (.int .i64 aw) ∧ W.cell? ⟨H, 1, none⟩ = some (.int .i64 ah) ∧ W.cell? ⟨H, 2, none⟩ = some (.int .i64 at_) ∧ W.cell? ⟨H1, 0, none⟩ = some (.int .i64 pi) ∧ W.cell? ⟨H1, 1, none⟩ = some (.slice pa nb pc) ∧ W.cell? ⟨H1, 2, none⟩ = some (.slice qa no qc) ∧ W.cell? ⟨H2, 0, none⟩ = some (.slice ba nbs bc) ∧ W.cell? ⟨H2, 1, none⟩ = some (.slice ia nis ic) ∧ W.cell? ⟨H2, 2, none⟩ = some (.slice oa nos oc) ∧ W.cell? ⟨B12, 0, none⟩ = some (.slice rba nbs rbc) ∧ W.cell? ⟨B12, 1, none⟩ = some (.slice ria nis ric) ∧ W.cell? ⟨B12, 2, none⟩ = some (.slice roa nos roc)) := Lib.hid fun W hW => by
        obtain ⟨a0, a1, a2, p0, p1, p2, s0, s1, s2⟩ := HK.out W ((HVv4.out).trans ((hvw5.trans (hW.mono hvw5.size)).mono (HVv4.out).size))
        have h := hrw5.of_block (hW.block B12 hrw5.lt)
        exact ⟨a0, a1, a2, p0, p1, p2, s0, s1, s2, h.cell (by omega), h.cell (by omega), h.cell (by omega)⟩
      have hk := HKw5.out w5 (Below.refl _ _)
      clear hvw5 hrw5
      rw [hw5, hB12] at hk
      obtain ⟨a0, a1, a2, p0, p1, p2, s0, s1, s2, x0, x1, x2⟩ := hk
      go_wp2_with fail
      clear a0 a1 a2 p0 p1 p2 s0 s1 s2 x0 x1 x2
      rw [← hw5]
      (try rw [← hB12])
      clear hw5 hB12
      refine Calls.mono (CS.out (by trivial) (by trivial) w5 (HXW.out _ HBw5.out)) ?_
      rintro e w6 ⟨rfl, hb⟩
      have HBw6 : Hid (Below w1.heap.size w1 w6) := Lib.hid ((HBw5.out).trans (hb.mono (HBw5.out).size))
      have HVw6 : Hid (Below w5.heap.size w5 w6) := Lib.hid (((Below.refl w5.heap.size w5)).trans (hb.mono ((Below.refl w5.heap.size w5)).size))
      clear hb
      obtain ⟨a0, a1, a2, p0, p1, p2, s0, s1, s2, x0, x1, x2⟩ := HKw5.out w6 HVw6.out
      go_wp2_with fail
      clear a0 a1 a2 p0 p1 p2 s0 s1 s2 x0 x1 x2
      refine Calls.mono (K13.out w6 (HUw5.out.trans ((HVw6.out).mono HUw5.out.size))) ?_
      rintro e w7 ⟨rfl, hb⟩
      have HBw7 : Hid (Below w1.heap.size w1 w7) := Lib.hid ((HBw6.out).trans (hb.mono (HBw6.out).size))
      have HVw7 : Hid (Below w5.heap.size w5 w7) := Lib.hid ((HVw6.out).trans (hb.mono (HVw6.out).size))
      clear hb
      obtain ⟨a0, a1, a2, p0, p1, p2, s0, s1, s2, x0, x1, x2⟩ := HKw5.out w7 HVw7.out
      go_wp2_with fail
      clear a0 a1 a2 p0 p1 p2 s0 s1 s2 x0 x1 x2
      refine Calls.mono (K19.out w7 (HUw5.out.trans ((HVw7.out).mono HUw5.out.size))) ?_
      rintro e w8 ⟨qba, qbc, qbs, qia, qic, qis, qoa, qoc, qos, rfl, hD, hQ, hl, hb⟩
      have HBw8 : Hid (Below w1.heap.size w1 w8) := Lib.hid ((HBw7.out).trans (hb.mono (HBw7.out).size))
      have HVw8 : Hid (Below w5.heap.size w5 w8) := Lib.hid ((HVw7.out).trans (hb.mono (HVw7.out).size))
      clear hb
      have HQ8 := Lib.hid hQ
      have HQl := Lib.hid hl
      have HQd := Lib.hid hD
      clear hQ hl hD
      have HW8 : Hid (Below v4.heap.size v4 w8) := Lib.hid (HUw5.out.trans ((HVw8.out).mono HUw5.out.size))
      have d1 : decide (cR > cS) = false := by
        rw [decide_eq_false_iff_not]
        omega
      obtain ⟨B19, hB19⟩ : ∃ x, x = w8.heap.size := ⟨_, rfl⟩
      obtain ⟨w9, hw9⟩ : ∃ W, W = w8.alloc (.cells #[.slice qba nbs qbc, .slice qia nis qic, .slice qoa nos qoc] 29) := ⟨_, rfl⟩
      have hvw9 : Below w8.heap.size w8 w9 := by rw [hw9]; exact (Below.refl _ _).alloc (Nat.le_refl _) _
      have HBw9 : Hid (Below w1.heap.size w1 w9) := Lib.hid ((HBw8.out).trans (hvw9.mono (HBw8.out).size))
      have HUw9 := Lib.hid hvw9
      have hrw9 : w9.rowIs (B19) 29 3 (fun i => ([.slice qba nbs qbc, .slice qia nis qic, .slice qoa nos qoc] : List Value).getD i undef) := by rw [hw9, hB19]; exact rowL_alloc w8 29 [.slice qba nbs qbc, .slice qia nis qic, .slice qoa nos qoc]
      have HKw9 : Hid (∀ W, Below w9.heap.size w9 W → W.cell? ⟨H, 0, none⟩ = some (.int .i64 aw) ∧ W.cell? ⟨H, 1, none⟩ = some (.int .i64 ah) ∧ W.cell? ⟨H, 2, none⟩ = some (.int .i64 at_) ∧ W.cell? ⟨H1, 0, none⟩ = some (.int .i64 pi) ∧ W.cell? ⟨H1, 1, none⟩ = some (.slice pa nb pc) ∧ W.cell? ⟨H1, 2, none⟩ = some (.slice qa no qc) ∧ W.cell? ⟨H2, 0, none⟩ = some (.slice ba nbs bc) ∧ W.cell? ⟨H2, 1, none⟩ = some (.slice ia nis ic) ∧ W.cell? ⟨H2, 2, none⟩ = some (.slice oa nos oc) ∧ W.cell? ⟨B12, 0, none⟩ = some (.slice rba nbs rbc) ∧ W.cell? ⟨B12, 1, none⟩ = some (.slice ria nis ric) ∧ W.cell? ⟨B12, 2, none⟩ = some (.slice roa nos roc) ∧ W.cell? ⟨B19, 0, none⟩ = some (.slice qba nbs qbc) ∧ W.cell? ⟨B19, 1, none⟩ = some (.slice qia nis qic) ∧ W.cell? ⟨B19, 2, none⟩ = some (.slice qoa nos qoc)) := Lib.hid fun W hW => by
        obtain ⟨a0, a1, a2, p0, p1, p2, s0, s1, s2, x0, x1, x2⟩ := HKw5.out W ((HVw8.out).trans ((hvw9.trans (hW.mono hvw9.size)).mono (HVw8.out).size))
        have h := hrw9.of_block (hW.block B19 hrw9.lt)
        exact ⟨a0, a1, a2, p0, p1, p2, s0, s1, s2, x0, x1, x2, h.cell (by omega), h.cell (by omega), h.cell (by omega)⟩
      have hk := HKw9.out w9 (Below.refl _ _)
      clear hvw9 hrw9
      rw [hw9, hB19] at hk
      obtain ⟨a0, a1, a2, p0, p1, p2, s0, s1, s2, x0, x1, x2, y0, y1, y2⟩ := hk
      go_wp2_with fail
      clear a0 a1 a2 p0 p1 p2 s0 s1 s2 x0 x1 x2 y0 y1 y2
      rw [← hw9]
      (try rw [← hB19])
      clear hw9 hB19
      have HW9 : Hid (Below v4.heap.size v4 w9) := Lib.hid (HW8.out.trans (HUw9.out.mono HW8.out.size))
      refine Calls.mono (K15.out w9 HW9.out) ?_
      rintro e w10 ⟨rfl, hb⟩
      have HBw10 : Hid (Below w1.heap.size w1 w10) := Lib.hid ((HBw9.out).trans (hb.mono (HBw9.out).size))
      have HVw10 : Hid (Below w9.heap.size w9 w10) := Lib.hid (((Below.refl w9.heap.size w9)).trans (hb.mono ((Below.refl w9.heap.size w9)).size))
      clear hb
      obtain ⟨a0, a1, a2, p0, p1, p2, s0, s1, s2, x0, x1, x2, y0, y1, y2⟩ := HKw9.out w10 HVw10.out
      cases hB : bB with
      | false =>
        subst hB
        go_wp2_with fail
        clear a0 a1 a2 p0 p1 p2 s0 s1 s2 x0 x1 x2 y0 y1 y2
        refine Calls.mono (C21.out (by trivial) w10 rba rbc rbs ria ric ris roa roc ros (HXW.out _ HBw10.out) (HR4.out.below (HW9.out.trans (HVw10.out.mono HW9.out.size)) (Nat.le_refl _)) (HSm.out (by trivial)) HRl.out) ?_
        rintro e w11 ⟨rfl, hb⟩
        have HBw11 : Hid (Below w1.heap.size w1 w11) := Lib.hid ((HBw10.out).trans (hb.mono (HBw10.out).size))
        have HVw11 : Hid (Below w9.heap.size w9 w11) := Lib.hid ((HVw10.out).trans (hb.mono (HVw10.out).size))
        clear hb
        go_wp2_with fail
        go_ret
        exact ⟨rfl, HXW.out _ HBw11.out⟩
      | true =>
        subst hB
        have hag := HAg.out (by trivial)
        by_cases hcc : cS = cR
        · subst hcc
          have hag2 : ag = true := by rw [hag]; simp
          subst hag2
          clear hag
          go_wp2_with fail
          clear a0 a1 a2 p0 p1 p2 s0 s1 s2 x0 x1 x2 y0 y1 y2
          refine Calls.mono (C21.out (by trivial) w10 qba qbc qbs qia qic qis qoa qoc qos (HXW.out _ HBw10.out) (HQ8.out.below (HUw9.out.trans (HVw10.out.mono HUw9.out.size)) (Nat.le_refl _)) (HQd.out (by trivial) (by trivial)) HQl.out) ?_
          rintro e w11 ⟨rfl, hb⟩
          have HBw11 : Hid (Below w1.heap.size w1 w11) := Lib.hid ((HBw10.out).trans (hb.mono (HBw10.out).size))
          have HVw11 : Hid (Below w9.heap.size w9 w11) := Lib.hid ((HVw10.out).trans (hb.mono (HVw10.out).size))
          clear hb
          go_wp2_with fail
          go_ret
          exact ⟨rfl, HXW.out _ HBw11.out⟩
        · have hag2 : ag = false := by rw [hag]; simpa using hcc
          subst hag2
          have d2 : (cS == cR) = false := by simpa using hcc
          clear hag hcc
          go_wp2_with fail
          go_ret
          exact ⟨rfl, HXW.out _ HBw10.out⟩
    · have d2 : (er != 0) = true := by simpa using he
      have d3 : (er == 0) = false := by simpa using he
      clear a0 a1 a2 p0 p1 p2 s0 s1 s2
      refine Calls.mono (C0.out (by trivial) he w3 (HXW.out _ HBw3.out)) ?_
      rintro e v4 ⟨rba, rbc, ria, ric, roa, roc, rfl, hb⟩
      have HBv4 : Hid (Below w1.heap.size w1 v4) := Lib.hid ((HBw3.out).trans (hb.mono (HBw3.out).size))
      have HVv4 : Hid (Below w1.heap.size w1 v4) := Lib.hid ((HVw3.out).trans (hb.mono (HVw3.out).size))
      clear hb
      obtain ⟨B12, hB12⟩ : ∃ x, x = v4.heap.size := ⟨_, rfl⟩
      obtain ⟨w5, hw5⟩ : ∃ W, W = v4.alloc (.cells #[.slice rba 0 rbc, .slice ria 0 ric, .slice roa 0 roc] 29) := ⟨_, rfl⟩
      have hvw5 : Below v4.heap.size v4 w5 := by rw [hw5]; exact (Below.refl _ _).alloc (Nat.le_refl _) _
      have HBw5 : Hid (Below w1.heap.size w1 w5) := Lib.hid ((HBv4.out).trans (hvw5.mono (HBv4.out).size))
      have HUw5 := Lib.hid hvw5
      have hrw5 : w5.rowIs (B12) 29 3 (fun i => ([.slice rba 0 rbc, .slice ria 0 ric, .slice roa 0 roc] : List Value).getD i undef) := by rw [hw5, hB12]; exact rowL_alloc v4 29 [.slice rba 0 rbc, .slice ria 0 ric, .slice roa 0 roc]
      have HKw5 : Hid (∀ W, Below w5.heap.size w5 W → W.cell? ⟨H, 0, none⟩ = some (.int .i64 aw) ∧ W.cell? ⟨H, 1, none⟩ = some (.int .i64 ah) ∧ W.cell? ⟨H, 2, none⟩ = some (.int .i64 at_) ∧ W.cell? ⟨H1, 0, none⟩ = some (.int .i64 pi) ∧ W.cell? ⟨H1, 1, none⟩ = some (.slice pa nb pc) ∧ W.cell? ⟨H1, 2, none⟩ = some (.slice qa no qc) ∧ W.cell? ⟨H2, 0, none⟩ = some (.slice ba nbs bc) ∧ W.cell? ⟨H2, 1, none⟩ = some (.slice ia nis ic) ∧ W.cell? ⟨H2, 2, none⟩ = some (.slice oa nos oc) ∧ W.cell? ⟨B12, 0, none⟩ = some (.slice rba 0 rbc) ∧ W.cell? ⟨B12, 1, none⟩ = some (.slice ria 0 ric) ∧ W.cell? ⟨B12, 2, none⟩ = some (.slice roa 0 roc)) := Lib.hid fun W hW => by
        obtain ⟨a0, a1, a2, p0, p1, p2, s0, s1, s2⟩ := HK.out W ((HVv4.out).trans ((hvw5.trans (hW.mono hvw5.size)).mono (HVv4.out).size))
        have h := hrw5.of_block (hW.block B12 hrw5.lt)
        exact ⟨a0, a1, a2, p0, p1, p2, s0, s1, s2, h.cell (by omega), h.cell (by omega), h.cell (by omega)⟩
      have hk := HKw5.out w5 (Below.refl _ _)
      clear hvw5 hrw5
      rw [hw5, hB12] at hk
      obtain ⟨a0, a1, a2, p0, p1, p2, s0, s1, s2, x0, x1, x2⟩ := hk
      go_wp2_with fail
      rw [← hw5]
      go_ret
      exact ⟨rfl, HXW.out _ HBw5.out⟩
end Go.Proofs.Ytholafodachjnaa
