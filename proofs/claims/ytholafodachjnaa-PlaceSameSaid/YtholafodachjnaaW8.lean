/- PlaceSame, walked. -/
import Derived.Deep.CutRange
import Derived.Test.YtholafodachjnaaZ39
namespace Go.Proofs.Ytholafodachjnaa
open Go.RowKit Go.Shelf
set_option linter.unusedVariables false
set_option linter.unusedSimpArgs false

set_option maxRecDepth 100000 in
set_option maxHeartbeats 8000000 in
theorem placeSame (w : World) (a : ArchV) (ha : ArchR a) (P : PackV) (hP : PackAt w P) (S : SpotV) (hS : SpotAt w S) (m : Int) (hm9 : I64 m) (n : Int) (hn9 : I64 n) :
    Calls Try.prog 8 #[a.val, P.val, S.val, .int .i64 m, .int .i64 n] w fun e w' => e = .returned (.bool true) ∧ Below w.heap.size w w' := by
  have CF : Hid (∀ W, Calls Try.prog 12 #[a.val, P.val, S.val] W fun e w' => e = .returned (.bool (fewA a P S)) ∧ Below W.heap.size W w') := Lib.hid fun W => few12 W a P S
  have C15 : Hid (fewA a P S = true → ∀ W, Below w.heap.size w W → Calls Try.prog 15 #[a.val, P.val, S.val] W fun e w' => e = .returned (.int .i64 (checkE a P S)) ∧ Below W.heap.size W w') := Lib.hid fun h W hW => check15 W a P S (hP.below hW (Nat.le_refl _)) (fewA_ok hP h).1 (hS.below hW (Nat.le_refl _)) (fewA_ok hP h).2
  have CS : Hid (fewA a P S = true → checkE a P S = 0 → (0 ≤ m ∧ m < tilesL a) → ∀ W, Below w.heap.size w W → Calls Try.prog 19 #[a.val, P.val, S.val, .int .i64 m, .int .i64 m] W fun e w' => ∃ ba bc ia ic oa oc, e = .returned (.tuple #[.agg #[.slice ba S.bs.length bc, .slice ia S.is.length ic, .slice oa S.os.length oc], .bool true, .int .i64 0]) ∧ SpotAt w' ⟨ba, bc, S.bs, ia, ic, S.is, oa, oc, S.os⟩ ∧ Below W.heap.size W w') := Lib.hid fun h h1 h2 W hW => better_same W a P S (hP.below hW (Nat.le_refl _)) (fewA_ok hP h).1 (hS.below hW (Nat.le_refl _)) (fewA_ok hP h).2 m m hm9 hm9 (same_self h1 h2)
  have CN : Hid (fewA a P S = true → checkE a P S = 0 → (0 ≤ m ∧ m < tilesL a) → (0 ≤ n ∧ n < tilesL a) → (∀ x ∈ S.bs, x ≠ m ∧ x ≠ n) → ∀ W, Below w.heap.size w W → Calls Try.prog 19 #[a.val, P.val, S.val, .int .i64 m, .int .i64 n] W fun e w' => ∃ ba bc ia ic oa oc, e = .returned (.tuple #[.agg #[.slice ba S.bs.length bc, .slice ia S.is.length ic, .slice oa S.os.length oc], .bool true, .int .i64 0]) ∧ SpotAt w' ⟨ba, bc, S.bs, ia, ic, S.is, oa, oc, S.os⟩ ∧ Below W.heap.size W w') := Lib.hid fun h h1 h2 h3 h4 W hW => better_same W a P S (hP.below hW (Nat.le_refl _)) (fewA_ok hP h).1 (hS.below hW (Nat.le_refl _)) (fewA_ok hP h).2 m n hm9 hn9 (same_none h1 h2 h3 h4)
  have C21 : Hid (fewA a P S = true → ∀ W ba bc ia ic oa oc, Below w.heap.size w W → SpotAt W ⟨ba, bc, S.bs, ia, ic, S.is, oa, oc, S.os⟩ → Calls Try.prog 21 #[.agg #[.slice ba S.bs.length bc, .slice ia S.is.length ic, .slice oa S.os.length oc], S.val] W fun e w' => e = .returned (.bool true) ∧ Below W.heap.size W w') := Lib.hid fun h W ba bc ia ic oa oc hW hR => same_of W ⟨ba, bc, S.bs, ia, ic, S.is, oa, oc, S.os⟩ S hR (hS.below hW (Nat.le_refl _)) rfl (fewA_ok hP h).2
  have HL : Hid (∀ W, Calls Try.prog 11 #[] W fun e w' => e = .returned (.bool true) ∧ Below W.heap.size W w') := Lib.hid live11
  have HB9 : Hid (fewA a P S = true → S.bs.length ≤ 1000) := Lib.hid fun h => (fewA_ok hP h).2.b
  have HWr : Hid (checkE a P S = 0 → wrap64 (a.w * a.h) = tilesL a) := Lib.hid fun h => by
    have h1 := right_pads (checkE_ok.1 h).2
    unfold tilesL at h1 ⊢
    exact wrap64s (by omega) (by omega)
  have HSb : Hid (Seq w S.ba S.bs.length (ints S.bs)) := Lib.hid hS.b
  obtain ⟨fB, hfB⟩ : ∃ b, b = fewA a P S := ⟨_, rfl⟩
  obtain ⟨er, her⟩ : ∃ b, b = checkE a P S := ⟨_, rfl⟩
  obtain ⟨tt, htt⟩ : ∃ b, b = tilesL a := ⟨_, rfl⟩
  rw [← hfB] at CF C15 CS CN C21 HB9
  rw [← her] at C15 CS CN HWr
  rw [← htt] at CS CN HWr
  clear hfB her htt hP hS ha
  obtain ⟨aw, ah, at_⟩ := a
  obtain ⟨pi, pa, pc, pb, qa, qc, qb⟩ := P
  obtain ⟨ba, bc, bs, ia, ic, is, oa, oc, os⟩ := S
  (try unfold ArchV.val at CF)
  (try unfold PackV.val at CF)
  (try unfold SpotV.val at CF)
  (try unfold ArchV.val at C15)
  (try unfold PackV.val at C15)
  (try unfold SpotV.val at C15)
  (try unfold ArchV.val at CS)
  (try unfold PackV.val at CS)
  (try unfold SpotV.val at CS)
  (try unfold ArchV.val at CN)
  (try unfold PackV.val at CN)
  (try unfold SpotV.val at CN)
  (try unfold ArchV.val at C21)
  (try unfold PackV.val at C21)
  (try unfold SpotV.val at C21)
  (try unfold ArchV.val at HB9)
  (try unfold PackV.val at HB9)
  (try unfold SpotV.val at HB9)
  (try unfold ArchV.val at HWr)
  (try unfold PackV.val at HWr)
  (try unfold SpotV.val at HWr)
  (try unfold ArchV.val at HSb)
  (try unfold PackV.val at HSb)
  (try unfold SpotV.val at HSb)
  unfold ArchV.val PackV.val SpotV.val
  (try dsimp only at CF C15 CS CN C21 HB9 HWr HSb)
  (try dsimp only)
  obtain ⟨nb, hnb⟩ : ∃ n, n = pb.length := ⟨_, rfl⟩
  (try rw [← hnb] at CF)
  (try rw [← hnb] at C15)
  (try rw [← hnb] at CS)
  (try rw [← hnb] at CN)
  (try rw [← hnb] at C21)
  (try rw [← hnb] at HB9)
  (try rw [← hnb] at HWr)
  (try rw [← hnb] at HSb)
  (try rw [← hnb])
  obtain ⟨no, hno⟩ : ∃ n, n = qb.length := ⟨_, rfl⟩
  (try rw [← hno] at CF)
  (try rw [← hno] at C15)
  (try rw [← hno] at CS)
  (try rw [← hno] at CN)
  (try rw [← hno] at C21)
  (try rw [← hno] at HB9)
  (try rw [← hno] at HWr)
  (try rw [← hno] at HSb)
  (try rw [← hno])
  obtain ⟨nbs, hnbs⟩ : ∃ n, n = bs.length := ⟨_, rfl⟩
  (try rw [← hnbs] at CF)
  (try rw [← hnbs] at C15)
  (try rw [← hnbs] at CS)
  (try rw [← hnbs] at CN)
  (try rw [← hnbs] at C21)
  (try rw [← hnbs] at HB9)
  (try rw [← hnbs] at HWr)
  (try rw [← hnbs] at HSb)
  (try rw [← hnbs])
  obtain ⟨nis, hnis⟩ : ∃ n, n = is.length := ⟨_, rfl⟩
  (try rw [← hnis] at CF)
  (try rw [← hnis] at C15)
  (try rw [← hnis] at CS)
  (try rw [← hnis] at CN)
  (try rw [← hnis] at C21)
  (try rw [← hnis] at HB9)
  (try rw [← hnis] at HWr)
  (try rw [← hnis] at HSb)
  (try rw [← hnis])
  obtain ⟨nos, hnos⟩ : ∃ n, n = os.length := ⟨_, rfl⟩
  (try rw [← hnos] at CF)
  (try rw [← hnos] at C15)
  (try rw [← hnos] at CS)
  (try rw [← hnos] at CN)
  (try rw [← hnos] at C21)
  (try rw [← hnos] at HB9)
  (try rw [← hnos] at HWr)
  (try rw [← hnos] at HSb)
  (try rw [← hnos])
  have HLs := Lib.hid hnbs
  clear hnb hno hnbs hnis hnos
  obtain ⟨H, hH⟩ : ∃ h, h = w.heap.size := ⟨_, rfl⟩
  obtain ⟨w1, hw1⟩ : ∃ W, W = (((w.alloc (.cells #[.int .i64 aw, .int .i64 ah, .int .i64 at_] 23)).alloc (.cells #[.int .i64 pi, .slice pa nb pc, .slice qa no qc] 27)).alloc (.cells #[.slice ba nbs bc, .slice ia nis ic, .slice oa nos oc] 29)) := ⟨_, rfl⟩
  obtain ⟨H1, hH1⟩ : ∃ x, x = H + 1 := ⟨_, rfl⟩
  obtain ⟨H2, hH2⟩ : ∃ x, x = H1 + 1 := ⟨_, rfl⟩
  have hs1 : w1.heap.size = H + 3 := by rw [hw1, hH]; simp
  have hX1 : Below w.heap.size w w1 := by rw [hw1]; exact (((Below.refl _ _).alloc (Nat.le_refl _) _).alloc (by simp <;> omega) _).alloc (by simp <;> omega) _
  have hrw0 : w1.rowIs (H) 23 3 (fun i => ([.int .i64 aw, .int .i64 ah, .int .i64 at_] : List Value).getD i undef) := by rw [hw1, hH]; exact (((rowL_alloc w 23 [.int .i64 aw, .int .i64 ah, .int .i64 at_]).alloc (.cells #[.int .i64 pi, .slice pa nb pc, .slice qa no qc] 27)).alloc (.cells #[.slice ba nbs bc, .slice ia nis ic, .slice oa nos oc] 29))
  have hrw1 : w1.rowIs (H1) 27 3 (fun i => ([.int .i64 pi, .slice pa nb pc, .slice qa no qc] : List Value).getD i undef) := by
    have h := ((rowL_alloc (w.alloc (.cells #[.int .i64 aw, .int .i64 ah, .int .i64 at_] 23)) 27 [.int .i64 pi, .slice pa nb pc, .slice qa no qc]).alloc (.cells #[.slice ba nbs bc, .slice ia nis ic, .slice oa nos oc] 29))
    have hsz : (w.alloc (.cells #[.int .i64 aw, .int .i64 ah, .int .i64 at_] 23)).heap.size = H1 := by rw [hH1, hH]; simp
    rw [hsz] at h
    rw [hw1]
    exact h
  have hrw2 : w1.rowIs (H2) 29 3 (fun i => ([.slice ba nbs bc, .slice ia nis ic, .slice oa nos oc] : List Value).getD i undef) := by
    have h := (rowL_alloc ((w.alloc (.cells #[.int .i64 aw, .int .i64 ah, .int .i64 at_] 23)).alloc (.cells #[.int .i64 pi, .slice pa nb pc, .slice qa no qc] 27)) 29 [.slice ba nbs bc, .slice ia nis ic, .slice oa nos oc])
    have hsz : ((w.alloc (.cells #[.int .i64 aw, .int .i64 ah, .int .i64 at_] 23)).alloc (.cells #[.int .i64 pi, .slice pa nb pc, .slice qa no qc] 27)).heap.size = H2 := by rw [hH2, hH1, hH]; simp
    rw [hsz] at h
    rw [hw1]
    exact h
  have HK : Hid (∀ W, Below w1.heap.size w1 W → W.cell? ⟨H, 0, none⟩ = some (.int .i64 aw) ∧ W.cell? ⟨H, 1, none⟩ = some (.int .i64 ah) ∧ W.cell? ⟨H, 2, none⟩ = some (.int .i64 at_) ∧ W.cell? ⟨H1, 0, none⟩ = some (.int .i64 pi) ∧ W.cell? ⟨H1, 1, none⟩ = some (.slice pa nb pc) ∧ W.cell? ⟨H1, 2, none⟩ = some (.slice qa no qc) ∧ W.cell? ⟨H2, 0, none⟩ = some (.slice ba nbs bc) ∧ W.cell? ⟨H2, 1, none⟩ = some (.slice ia nis ic) ∧ W.cell? ⟨H2, 2, none⟩ = some (.slice oa nos oc)) := Lib.hid fun W hW => by
    have h0 := hrw0.of_block (hW.block H (by omega))
    have h1 := hrw1.of_block (hW.block H1 (by omega))
    have h2 := hrw2.of_block (hW.block H2 (by omega))
    exact ⟨h0.cell (by omega), h0.cell (by omega), h0.cell (by omega), h1.cell (by omega), h1.cell (by omega), h1.cell (by omega), h2.cell (by omega), h2.cell (by omega), h2.cell (by omega)⟩
  have HSz : Hid (w1.heap.size = H + 3 ∧ H = w.heap.size) := Lib.hid ⟨hs1, hH⟩
  have HXW : Hid (∀ W, Below w1.heap.size w1 W → Below w.heap.size w W) := Lib.hid fun W hW => hX1.trans (hW.mono (by omega))
  have HW1 := Lib.hid hw1
  have HHH := Lib.hid hH
  have HHH1 := Lib.hid hH1
  have HHH2 := Lib.hid hH2
  clear hw1 hX1 hs1 hH hrw0 hrw1 hrw2 hH1 hH2
  go_enter Try.func8, Try.ntmps8
  go_wp2_with fail
  rw [← HW1.out]
  (try rw [← HHH.out])
  (try rw [← HHH1.out])
  (try rw [← HHH2.out])
  refine Calls.mono (HL.out w1) ?_
  rintro e w2 ⟨rfl, hb⟩
  have HBw2 : Hid (Below w1.heap.size w1 w2) := Lib.hid ((Below.refl w1.heap.size w1).trans (hb.mono (Below.refl w1.heap.size w1).size))
  clear hb
  obtain ⟨a0, a1, a2, p0, p1, p2, s0, s1, s2⟩ := HK.out w2 (HBw2.out)
  go_wp2_with fail
  clear a0 a1 a2 p0 p1 p2 s0 s1 s2
  refine Calls.mono (CF.out w2) ?_
  rintro e w3 ⟨rfl, hb⟩
  have HBw3 : Hid (Below w1.heap.size w1 w3) := Lib.hid ((HBw2.out).trans (hb.mono (HBw2.out).size))
  clear hb
  cases hf : fB with
  | false =>
    subst hf
    go_wp2_with fail
    go_ret
    exact ⟨rfl, HXW.out _ HBw3.out⟩
  | true =>
    subst hf
    have h1000 := HB9.out (by trivial)
    obtain ⟨a0, a1, a2, p0, p1, p2, s0, s1, s2⟩ := HK.out w3 (HBw3.out)
    go_wp2_with fail
    clear a0 a1 a2 p0 p1 p2 s0 s1 s2
    refine Calls.mono (C15.out (by trivial) w3 (HXW.out _ HBw3.out)) ?_
    rintro e w4 ⟨rfl, hb⟩
    have HBw4 : Hid (Below w1.heap.size w1 w4) := Lib.hid ((HBw3.out).trans (hb.mono (HBw3.out).size))
    clear hb
    by_cases hE : er = 0
    · subst hE
      have F1 := HWr.out (by trivial)
      obtain ⟨a0, a1, a2, p0, p1, p2, s0, s1, s2⟩ := HK.out w4 (HBw4.out)
      by_cases h1 : m < 0
      · have d1 : decide (m < 0) = true := by simpa using h1
        clear h1
        go_wp2_with fail
        go_ret
        exact ⟨rfl, HXW.out _ HBw4.out⟩
      by_cases h2 : tt ≤ m
      · have d1 : decide (m < 0) = false := by simpa using h1
        have d2 : decide (m ≥ tt) = true := by simpa using h2
        clear h1 h2
        go_wp2_with fail
        go_ret
        exact ⟨rfl, HXW.out _ HBw4.out⟩
      by_cases h3 : n < 0
      · have d1 : decide (m < 0) = false := by simpa using h1
        have d2 : decide (m ≥ tt) = false := by simpa using h2
        have d3 : decide (n < 0) = true := by simpa using h3
        clear h1 h2 h3
        go_wp2_with fail
        go_ret
        exact ⟨rfl, HXW.out _ HBw4.out⟩
      by_cases h4 : tt ≤ n
      · have d1 : decide (m < 0) = false := by simpa using h1
        have d2 : decide (m ≥ tt) = false := by simpa using h2
        have d3 : decide (n < 0) = false := by simpa using h3
        have d4 : decide (n ≥ tt) = true := by simpa using h4
        clear h1 h2 h3 h4
        go_wp2_with fail
        go_ret
        exact ⟨rfl, HXW.out _ HBw4.out⟩
      have d1 : decide (m < 0) = false := by simpa using h1
      have d2 : decide (m ≥ tt) = false := by simpa using h2
      have d3 : decide (n < 0) = false := by simpa using h3
      have d4 : decide (n ≥ tt) = false := by simpa using h4
      have HM : Hid (0 ≤ m ∧ m < tt) := Lib.hid ⟨by omega, by omega⟩
      have HN : Hid (0 ≤ n ∧ n < tt) := Lib.hid ⟨by omega, by omega⟩
      clear h1 h2 h3 h4
      go_wp2_with fail
      clear d1 d2 d3 d4 F1
      clear a0 a1 a2 p0 p1 p2 s0 s1 s2
      refine Calls.mono (CS.out (by trivial) (by trivial) HM.out w4 (HXW.out _ HBw4.out)) ?_
      rintro e v5 ⟨rba, rbc, ria, ric, roa, roc, rfl, hR, hb⟩
      have HBv5 : Hid (Below w1.heap.size w1 v5) := Lib.hid ((HBw4.out).trans (hb.mono (HBw4.out).size))
      clear hb
      obtain ⟨w6, hw6⟩ : ∃ W, W = v5.alloc (.cells #[.slice rba nbs rbc, .slice ria nis ric, .slice roa nos roc] 29) := ⟨_, rfl⟩
      have HBw6 : Hid (Below w1.heap.size w1 w6) := Lib.hid (by rw [hw6]; exact HBv5.out.alloc HBv5.out.size _)
      have hrw6 : w6.rowIs (v5.heap.size) 29 3 (fun i => ([.slice rba nbs rbc, .slice ria nis ric, .slice roa nos roc] : List Value).getD i undef) := by rw [hw6]; exact rowL_alloc v5 29 [.slice rba nbs rbc, .slice ria nis ric, .slice roa nos roc]
      have HRw6 := Lib.hid hrw6
      clear hrw6
      have hk := HK.out w6 HBw6.out
      rw [hw6] at hk
      obtain ⟨a0, a1, a2, p0, p1, p2, s0, s1, s2⟩ := hk
      have HR6 : Hid (SpotAt w6 ⟨rba, rbc, bs, ria, ric, is, roa, roc, os⟩) := Lib.hid (hR.below (B := v5.heap.size) (by rw [hw6]; exact (Below.refl _ _).alloc (Nat.le_refl _) _) (Nat.le_refl _))
      clear hR
      go_wp2_with fail
      rw [← hw6]
      clear hw6
      clear a0 a1 a2 p0 p1 p2 s0 s1 s2
      refine Calls.mono (C21.out (by trivial) w6 rba rbc ria ric roa roc (HXW.out _ HBw6.out) HR6.out) ?_
      rintro e w7 ⟨rfl, hb⟩
      have HBw7 : Hid (Below w1.heap.size w1 w7) := Lib.hid ((HBw6.out).trans (hb.mono (HBw6.out).size))
      clear hb
      obtain ⟨a0, a1, a2, p0, p1, p2, s0, s1, s2⟩ := HK.out w7 (HBw7.out)
      go_wp2_with fail
      go_loopg [15] nbs (fun g iv wr => ∃ i : Nat, g + i = nbs ∧ iv = .int .i64 i ∧ w7 = wr ∧ Hid (∀ k, k < i → bs.getD k 0 ≠ m ∧ bs.getD k 0 ≠ n))
      case atStart => exact ⟨0, by omega, rfl, rfl, Lib.hid fun k hk => by omega⟩
      case round =>
        obtain ⟨i, hgi, rfl, rfl, HAll⟩ := hrel
        by_cases hlt : i < nbs
        · obtain ⟨b, o, rfl, -, hc⟩ := (HSb.out.below (HXW.out _ HBw7.out) (Nat.le_refl _)).at i hlt
          have c0 := hc i hlt
          unfold ints at c0
          obtain ⟨x, hx⟩ : ∃ x, x = bs.getD i 0 := ⟨_, rfl⟩
          rw [← hx] at c0
          have HX := Lib.hid hx
          clear hc hx
          by_cases h1 : x = m
          · subst h1
            go_wp2_with fail
            go_ret
            exact ⟨rfl, HXW.out _ HBw7.out⟩
          have e1 : (x == m) = false := by simpa using h1
          by_cases h2 : x = n
          · subst h2
            go_wp2_with fail
            go_ret
            exact ⟨rfl, HXW.out _ HBw7.out⟩
          have e2 : (x == n) = false := by simpa using h2
          have HNx : Hid (∀ k, k < i + 1 → bs.getD k 0 ≠ m ∧ bs.getD k 0 ≠ n) := Lib.hid fun k hk => by
            by_cases e : k = i
            · subst e; rw [← HX.out]; exact ⟨h1, h2⟩
            · exact HAll.out k (by omega)
          have hi9 : i + 1 ≤ 1000 := by omega
          have F2 : wrap64 ((i : Int) + 1) = ((i + 1 : Nat) : Int) := by rw [wrap64s (by omega) (by omega)]; omega
          clear h1 h2
          go_wp2_with fail
          go_roundg (nbs - (i + 1))
          case measure => omega
          case rel => exact ⟨i + 1, by omega, by go_num, rfl, HNx⟩
        · have hin : nbs = i := by omega
          subst hin
          go_wp2_with fail
          clear a0 a1 a2 p0 p1 p2 s0 s1 s2
          have HNo : Hid (∀ x ∈ bs, x ≠ m ∧ x ≠ n) := Lib.hid fun x hx => by
            obtain ⟨k, hk, rfl⟩ := List.getElem_of_mem hx
            have := HAll.out k (by rw [HLs.out]; exact hk)
            rwa [List.getD_eq_getElem?_getD, List.getElem?_eq_getElem hk] at this
          refine Calls.mono (CN.out (by trivial) (by trivial) HM.out HN.out HNo.out w7 (HXW.out _ HBw7.out)) ?_
          rintro e v8 ⟨qba, qbc, qia, qic, qoa, qoc, rfl, hQ, hb⟩
          have HBv8 : Hid (Below w1.heap.size w1 v8) := Lib.hid ((HBw7.out).trans (hb.mono (HBw7.out).size))
          clear hb
          obtain ⟨w9, hw9⟩ : ∃ W, W = v8.alloc (.cells #[.slice qba nbs qbc, .slice qia nis qic, .slice qoa nos qoc] 29) := ⟨_, rfl⟩
          have HBw9 : Hid (Below w1.heap.size w1 w9) := Lib.hid (by rw [hw9]; exact HBv8.out.alloc HBv8.out.size _)
          have hrw9 : w9.rowIs (v8.heap.size) 29 3 (fun i => ([.slice qba nbs qbc, .slice qia nis qic, .slice qoa nos qoc] : List Value).getD i undef) := by rw [hw9]; exact rowL_alloc v8 29 [.slice qba nbs qbc, .slice qia nis qic, .slice qoa nos qoc]
          have HRw9 := Lib.hid hrw9
          clear hrw9
          have hk := HK.out w9 HBw9.out
          rw [hw9] at hk
          obtain ⟨a0, a1, a2, p0, p1, p2, s0, s1, s2⟩ := hk
          have HQ9 : Hid (SpotAt w9 ⟨qba, qbc, bs, qia, qic, is, qoa, qoc, os⟩) := Lib.hid (hQ.below (B := v8.heap.size) (by rw [hw9]; exact (Below.refl _ _).alloc (Nat.le_refl _) _) (Nat.le_refl _))
          clear hQ
          go_wp2_with fail
          rw [← hw9]
          clear hw9
          clear a0 a1 a2 p0 p1 p2 s0 s1 s2
          refine Calls.mono (C21.out (by trivial) w9 qba qbc qia qic qoa qoc (HXW.out _ HBw9.out) HQ9.out) ?_
          rintro e w10 ⟨rfl, hb⟩
          have HBw10 : Hid (Below w1.heap.size w1 w10) := Lib.hid ((HBw9.out).trans (hb.mono (HBw9.out).size))
          clear hb
          go_wp2_with fail
          go_ret
          exact ⟨rfl, HXW.out _ HBw10.out⟩
    · have d1 : (er != 0) = true := by simpa using hE
      have d2 : (er == 0) = false := by simpa using hE
      obtain ⟨a0, a1, a2, p0, p1, p2, s0, s1, s2⟩ := HK.out w4 (HBw4.out)
      go_wp2_with fail
      go_ret
      exact ⟨rfl, HXW.out _ HBw4.out⟩
      
end Go.Proofs.Ytholafodachjnaa
