/- PlaceCost, walked. -/
import Derived.Deep.CutRange
import Derived.Test.YtholafodachjnaaZ37
namespace Go.Proofs.Ytholafodachjnaa
open Go.RowKit Go.Shelf
set_option linter.unusedVariables false
set_option linter.unusedSimpArgs false

set_option maxRecDepth 100000 in
set_option maxHeartbeats 8000000 in
theorem placeCost (w : World) (a : ArchV) (ha : ArchR a) (P : PackV) (hP : PackAt w P) (S : SpotV) (hS : SpotAt w S) :
    Calls Try.prog 3 #[a.val, P.val, S.val] w fun e w' => e = .returned (.bool true) ∧ Below w.heap.size w w' := by
  have CF : Hid (∀ W, Calls Try.prog 12 #[a.val, P.val, S.val] W fun e w' => e = .returned (.bool (fewA a P S)) ∧ Below W.heap.size W w') := Lib.hid fun W => few12 W a P S
  have C13 : Hid (fewA a P S = true → ∀ W, Below w.heap.size w W → Calls Try.prog 13 #[a.val, P.val, S.val] W fun e w' => e = .returned (.tuple #[.int .i64 (costV a P S), .int .i64 (checkE a P S)]) ∧ Below W.heap.size W w') := Lib.hid fun h W hW => cost13 W a P S (hP.below hW (Nat.le_refl _)) (fewA_ok hP h).1 (hS.below hW (Nat.le_refl _)) (fewA_ok hP h).2
  have C14 : Hid (fewA a P S = true → ∀ W, Below w.heap.size w W → Calls Try.prog 14 #[a.val, P.val, S.val] W fun e w' => e = .returned (.tuple #[.int .i64 (costV a P S), .int .i64 (checkE a P S)]) ∧ Below W.heap.size W w') := Lib.hid fun h W hW => cost14 W a P S (hP.below hW (Nat.le_refl _)) (fewA_ok hP h).1 (hS.below hW (Nat.le_refl _)) (fewA_ok hP h).2
  have C15 : Hid (fewA a P S = true → ∀ W, Below w.heap.size w W → Calls Try.prog 15 #[a.val, P.val, S.val] W fun e w' => e = .returned (.int .i64 (checkE a P S)) ∧ Below W.heap.size W w') := Lib.hid fun h W hW => check15 W a P S (hP.below hW (Nat.le_refl _)) (fewA_ok hP h).1 (hS.below hW (Nat.le_refl _)) (fewA_ok hP h).2
  have C16 : Hid (fewA a P S = true → ∀ W, Below w.heap.size w W → Calls Try.prog 16 #[a.val, P.val, S.val] W fun e w' => e = .returned (.int .i64 (checkE a P S)) ∧ Below W.heap.size W w') := Lib.hid fun h W hW => check16 W a P S (hP.below hW (Nat.le_refl _)) (fewA_ok hP h).1 (hS.below hW (Nat.le_refl _)) (fewA_ok hP h).2
  have HL : Hid (∀ W, Calls Try.prog 11 #[] W fun e w' => e = .returned (.bool true) ∧ Below W.heap.size W w') := Lib.hid live11
  obtain ⟨fB, hfB⟩ : ∃ b, b = fewA a P S := ⟨_, rfl⟩
  obtain ⟨er, her⟩ : ∃ b, b = checkE a P S := ⟨_, rfl⟩
  obtain ⟨cv, hcv⟩ : ∃ b, b = costV a P S := ⟨_, rfl⟩
  rw [← hfB] at CF C13 C14 C15 C16
  rw [← her] at C13 C14 C15 C16
  rw [← hcv] at C13 C14
  clear hfB her hcv hP hS ha
  obtain ⟨aw, ah, at_⟩ := a
  obtain ⟨pi, pa, pc, pb, qa, qc, qb⟩ := P
  obtain ⟨ba, bc, bs, ia, ic, is, oa, oc, os⟩ := S
  (try unfold ArchV.val at CF)
  (try unfold PackV.val at CF)
  (try unfold SpotV.val at CF)
  (try unfold ArchV.val at C13)
  (try unfold PackV.val at C13)
  (try unfold SpotV.val at C13)
  (try unfold ArchV.val at C14)
  (try unfold PackV.val at C14)
  (try unfold SpotV.val at C14)
  (try unfold ArchV.val at C15)
  (try unfold PackV.val at C15)
  (try unfold SpotV.val at C15)
  (try unfold ArchV.val at C16)
  (try unfold PackV.val at C16)
  (try unfold SpotV.val at C16)
  unfold ArchV.val PackV.val SpotV.val
  (try dsimp only at CF C13 C14 C15 C16)
  (try dsimp only)
  obtain ⟨nb, hnb⟩ : ∃ n, n = pb.length := ⟨_, rfl⟩
  (try rw [← hnb] at CF)
  (try rw [← hnb] at C13)
  (try rw [← hnb] at C14)
  (try rw [← hnb] at C15)
  (try rw [← hnb] at C16)
  (try rw [← hnb])
  obtain ⟨no, hno⟩ : ∃ n, n = qb.length := ⟨_, rfl⟩
  (try rw [← hno] at CF)
  (try rw [← hno] at C13)
  (try rw [← hno] at C14)
  (try rw [← hno] at C15)
  (try rw [← hno] at C16)
  (try rw [← hno])
  obtain ⟨nbs, hnbs⟩ : ∃ n, n = bs.length := ⟨_, rfl⟩
  (try rw [← hnbs] at CF)
  (try rw [← hnbs] at C13)
  (try rw [← hnbs] at C14)
  (try rw [← hnbs] at C15)
  (try rw [← hnbs] at C16)
  (try rw [← hnbs])
  obtain ⟨nis, hnis⟩ : ∃ n, n = is.length := ⟨_, rfl⟩
  (try rw [← hnis] at CF)
  (try rw [← hnis] at C13)
  (try rw [← hnis] at C14)
  (try rw [← hnis] at C15)
  (try rw [← hnis] at C16)
  (try rw [← hnis])
  obtain ⟨nos, hnos⟩ : ∃ n, n = os.length := ⟨_, rfl⟩
  (try rw [← hnos] at CF)
  (try rw [← hnos] at C13)
  (try rw [← hnos] at C14)
  (try rw [← hnos] at C15)
  (try rw [← hnos] at C16)
  (try rw [← hnos])
  clear hnb hno hnbs hnis hnos
  obtain ⟨H, hH⟩ : ∃ h, h = w.heap.size := ⟨_, rfl⟩
  obtain ⟨w1, hw1⟩ : ∃ W, W = (((w.alloc (.cells #[.int .i64 aw, .int .i64 ah, .int .i64 at_] 23)).alloc (.cells #[.int .i64 pi, .slice pa nb pc, .slice qa no qc] 27)).alloc (.cells #[.slice ba nbs bc, .slice ia nis ic, .slice oa nos oc] 29)) := ⟨_, rfl⟩
  obtain ⟨H1, hH1⟩ : ∃ x, x = H + 1 := ⟨_, rfl⟩
  obtain ⟨H2, hH2⟩ : ∃ x, x = H1 + 1 := ⟨_, rfl⟩
  have hs1 : w1.heap.size = H + 3 := by rw [hw1, hH]; simp
  have hX1 : Below w.heap.size w w1 := by rw [hw1]; exact (((Below.refl _ _).alloc (Nat.le_refl _) _).alloc (by simp <;> omega) _).alloc (by simp <;> omega) _
  have hrw0 : w1.rowIs (H) 23 3 (fun i => ([.int .i64 aw, .int .i64 ah, .int .i64 at_] : List Value).getD i undef) := by rw [hw1, hH]; exact (((rowL_alloc w 23 [.int .i64 aw, .int .i64 ah, .int .i64 at_]).alloc (.cells #[.int .i64 pi, .slice pa nb pc, .slice qa no qc] 27)).alloc (.cells #[.slice ba nbs bc, .slice ia nis ic, .slice oa nos oc] 29))
  have hrw1 : w1.rowIs (H1) 27 3 (fun i => ([.int .i64 pi, .slice pa nb pc, .slice qa no qc] : List Value).getD i undef) := by
    have h := ((rowL_alloc (w.alloc (.cells #[.int .i64 aw, .int .i64 ah, .int .i64 at_] 23)) 27 [.int .i64 pi, .slice pa nb pc, .slice qa no qc]).alloc (.cells #[.slice ba nbs bc, .slice ia nis ic, .slice oa nos oc] 29))
    have hsz : (w.alloc (.cells #[.int .i64 aw, .int .i64 ah, .int .i64 at_] 23)).heap.size = H1 := by rw [hH1, hH]; simp
    rw [hsz] at h
    rw [hw1]
    exact h
  have hrw2 : w1.rowIs (H2) 29 3 (fun i => ([.slice ba nbs bc, .slice ia nis ic, .slice oa nos oc] : List Value).getD i undef) := by
    have h := (rowL_alloc ((w.alloc (.cells #[.int .i64 aw, .int .i64 ah, .int .i64 at_] 23)).alloc (.cells #[.int .i64 pi, .slice pa nb pc, .slice qa no qc] 27)) 29 [.slice ba nbs bc, .slice ia nis ic, .slice oa nos oc])
    have hsz : ((w.alloc (.cells #[.int .i64 aw, .int .i64 ah, .int .i64 at_] 23)).alloc (.cells #[.int .i64 pi, .slice pa nb pc, .slice qa no qc] 27)).heap.size = H2 := by rw [hH2, hH1, hH]; simp
    rw [hsz] at h
    rw [hw1]
    exact h
  have HK : Hid (∀ W, Below w1.heap.size w1 W → W.cell? ⟨H, 0, none⟩ = some (.int .i64 aw) ∧ W.cell? ⟨H, 1, none⟩ = some (.int .i64 ah) ∧ W.cell? ⟨H, 2, none⟩ = some (.int .i64 at_) ∧ W.cell? ⟨H1, 0, none⟩ = some (.int .i64 pi) ∧ W.cell? ⟨H1, 1, none⟩ = some (.slice pa nb pc) ∧ W.cell? ⟨H1, 2, none⟩ = some (.slice qa no qc) ∧ W.cell? ⟨H2, 0, none⟩ = some (.slice ba nbs bc) ∧ W.cell? ⟨H2, 1, none⟩ = some (.slice ia nis ic) ∧ W.cell? ⟨H2, 2, none⟩ = some (.slice oa nos oc)) := Lib.hid fun W hW => by
    have h0 := hrw0.of_block (hW.block H (by omega))
    have h1 := hrw1.of_block (hW.block H1 (by omega))
    have h2 := hrw2.of_block (hW.block H2 (by omega))
    exact ⟨h0.cell (by omega), h0.cell (by omega), h0.cell (by omega), h1.cell (by omega), h1.cell (by omega), h1.cell (by omega), h2.cell (by omega), h2.cell (by omega), h2.cell (by omega)⟩
  have HSz : Hid (w1.heap.size = H + 3 ∧ H = w.heap.size) := Lib.hid ⟨hs1, hH⟩
  have HXW : Hid (∀ W, Below w1.heap.size w1 W → Below w.heap.size w W) := Lib.hid fun W hW => hX1.trans (hW.mono (by omega))
  have HW1 := Lib.hid hw1
  have HHH := Lib.hid hH
  have HHH1 := Lib.hid hH1
  have HHH2 := Lib.hid hH2
  clear hw1 hX1 hs1 hH hrw0 hrw1 hrw2 hH1 hH2
  go_enter Try.func3, Try.ntmps3
  go_wp2_with fail
  rw [← HW1.out]
  (try rw [← HHH.out])
  (try rw [← HHH1.out])
  (try rw [← HHH2.out])
  refine Calls.mono (HL.out w1) ?_
  rintro e w2 ⟨rfl, hb⟩
  have HBw2 : Hid (Below w1.heap.size w1 w2) := Lib.hid ((Below.refl w1.heap.size w1).trans (hb.mono (Below.refl w1.heap.size w1).size))
  clear hb
  obtain ⟨a0, a1, a2, p0, p1, p2, s0, s1, s2⟩ := HK.out w2 (HBw2.out)
  go_wp2_with fail
  clear a0 a1 a2 p0 p1 p2 s0 s1 s2
  refine Calls.mono (CF.out w2) ?_
  rintro e w3 ⟨rfl, hb⟩
  have HBw3 : Hid (Below w1.heap.size w1 w3) := Lib.hid ((HBw2.out).trans (hb.mono (HBw2.out).size))
  clear hb
  cases hf : fB with
  | false =>
    subst hf
    go_wp2_with fail
    go_ret
    exact ⟨rfl, HXW.out _ HBw3.out⟩
  | true =>
    subst hf
    obtain ⟨a0, a1, a2, p0, p1, p2, s0, s1, s2⟩ := HK.out w3 (HBw3.out)
    go_wp2_with fail
    clear a0 a1 a2 p0 p1 p2 s0 s1 s2
    refine Calls.mono (C13.out (by trivial) w3 (HXW.out _ HBw3.out)) ?_
    rintro e w4 ⟨rfl, hb⟩
    have HBw4 : Hid (Below w1.heap.size w1 w4) := Lib.hid ((HBw3.out).trans (hb.mono (HBw3.out).size))
    clear hb
    obtain ⟨a0, a1, a2, p0, p1, p2, s0, s1, s2⟩ := HK.out w4 (HBw4.out)
    go_wp2_with fail
    clear a0 a1 a2 p0 p1 p2 s0 s1 s2
    refine Calls.mono (C14.out (by trivial) w4 (HXW.out _ HBw4.out)) ?_
    rintro e w5 ⟨rfl, hb⟩
    have HBw5 : Hid (Below w1.heap.size w1 w5) := Lib.hid ((HBw4.out).trans (hb.mono (HBw4.out).size))
    clear hb
    go_upto_region 6 with fail
    have HK5 : Hid (∀ W, Below w5.heap.size w5 W → W.cell? ⟨H, 0, none⟩ = some (.int .i64 aw) ∧ W.cell? ⟨H, 1, none⟩ = some (.int .i64 ah) ∧ W.cell? ⟨H, 2, none⟩ = some (.int .i64 at_) ∧ W.cell? ⟨H1, 0, none⟩ = some (.int .i64 pi) ∧ W.cell? ⟨H1, 1, none⟩ = some (.slice pa nb pc) ∧ W.cell? ⟨H1, 2, none⟩ = some (.slice qa no qc) ∧ W.cell? ⟨H2, 0, none⟩ = some (.slice ba nbs bc) ∧ W.cell? ⟨H2, 1, none⟩ = some (.slice ia nis ic) ∧ W.cell? ⟨H2, 2, none⟩ = some (.slice oa nos oc)) := Lib.hid fun W hW => HK.out W (HBw5.out.trans (hW.mono HBw5.out.size))
    refine wp_region_held_drew (S := fun w' => w'.cell? ⟨H, 0, none⟩ = some (.int .i64 aw) ∧ w'.cell? ⟨H, 1, none⟩ = some (.int .i64 ah) ∧ w'.cell? ⟨H, 2, none⟩ = some (.int .i64 at_) ∧ w'.cell? ⟨H1, 0, none⟩ = some (.int .i64 pi) ∧ w'.cell? ⟨H1, 1, none⟩ = some (.slice pa nb pc) ∧ w'.cell? ⟨H1, 2, none⟩ = some (.slice qa no qc) ∧ w'.cell? ⟨H2, 0, none⟩ = some (.slice ba nbs bc) ∧ w'.cell? ⟨H2, 1, none⟩ = some (.slice ia nis ic) ∧ w'.cell? ⟨H2, 2, none⟩ = some (.slice oa nos oc)) (by kernel_rfl) (HK5.out _ (Below.refl _ _).drew) (fun hHeld => ?_)
    obtain ⟨v1, hv1⟩ : ∃ W, W = w5.drew := ⟨_, rfl⟩
    have hb1 : Below w5.heap.size w5 v1 := by rw [hv1]; exact (Below.refl _ _).drew
    rw [← hv1] at hHeld ⊢
    have HBv1 := Lib.hid hb1
    clear hb1 hv1
    refine wpAnyH_take (i := 0) (v := ?_) (by simp only [List.getElem?_toArray, List.getElem?_cons_succ, List.getElem?_cons_zero]; rfl) (by kernel_rfl) (by kernel_rfl) (by kernel_rfl) (by intro _ _ _ h; exact h) (Or.inl ⟨by rfl, ?_⟩) (by assumption) ?_
    rotate_left
    · intro w hSw; (try dsimp only at hSw); go_simp; try with_reducible rfl
    try simp only [Act.put, List.setIfInBounds_toArray, List.set_cons_zero, List.set_cons_succ]
    refine wpAnyH_take (i := 1) (v := ?_) (by simp only [List.getElem?_toArray, List.getElem?_cons_succ, List.getElem?_cons_zero]; rfl) (by kernel_rfl) (by kernel_rfl) (by kernel_rfl) (by intro _ _ _ h; exact h) (Or.inl ⟨by rfl, ?_⟩) (by assumption) ?_
    rotate_left
    · intro w hSw; (try dsimp only at hSw); go_simp; try with_reducible rfl
    try simp only [Act.put, List.setIfInBounds_toArray, List.set_cons_zero, List.set_cons_succ]
    refine wpAnyH_take (i := 2) (v := ?_) (by simp only [List.getElem?_toArray, List.getElem?_cons_succ, List.getElem?_cons_zero]; rfl) (by kernel_rfl) (by kernel_rfl) (by kernel_rfl) (by intro _ _ _ h; exact h) (Or.inl ⟨by rfl, ?_⟩) (by assumption) ?_
    rotate_left
    · intro w hSw; (try dsimp only at hSw); go_simp; try with_reducible rfl
    try simp only [Act.put, List.setIfInBounds_toArray, List.set_cons_zero, List.set_cons_succ]
    refine wpAnyH_take (i := 3) (v := ?_) (by simp only [List.getElem?_toArray, List.getElem?_cons_succ, List.getElem?_cons_zero]; rfl) (by kernel_rfl) (by kernel_rfl) (by kernel_rfl) (by intro _ _ _ h; exact h) (Or.inl ⟨by rfl, ?_⟩) (by assumption) ?_
    rotate_left
    · intro w hSw; (try dsimp only at hSw); go_simp; try with_reducible rfl
    try simp only [Act.put, List.setIfInBounds_toArray, List.set_cons_zero, List.set_cons_succ]
    refine wpAnyH_take (i := 4) (v := ?_) (by simp only [List.getElem?_toArray, List.getElem?_cons_succ, List.getElem?_cons_zero]; rfl) (by kernel_rfl) (by kernel_rfl) (by kernel_rfl) (by intro _ _ _ h; exact h) (Or.inl ⟨by rfl, ?_⟩) (by assumption) ?_
    rotate_left
    · intro w hSw; (try dsimp only at hSw); go_simp; try with_reducible rfl
    try simp only [Act.put, List.setIfInBounds_toArray, List.set_cons_zero, List.set_cons_succ]
    refine wpAnyH_take (i := 6) (v := ?_) (by simp only [List.getElem?_toArray, List.getElem?_cons_succ, List.getElem?_cons_zero]; rfl) (by kernel_rfl) (by kernel_rfl) (by kernel_rfl) (by intro _ _ _ h; exact h) (Or.inl ⟨by rfl, ?_⟩) (by assumption) ?_
    rotate_left
    · intro w hSw; (try dsimp only at hSw); go_simp; try with_reducible rfl
    try simp only [Act.put, List.setIfInBounds_toArray, List.set_cons_zero, List.set_cons_succ]
    refine wpAnyH_take (i := 7) (v := ?_) (by simp only [List.getElem?_toArray, List.getElem?_cons_succ, List.getElem?_cons_zero]; rfl) (by kernel_rfl) (by kernel_rfl) (by kernel_rfl) (by intro _ _ _ h; exact h) (Or.inl ⟨by rfl, ?_⟩) (by assumption) ?_
    rotate_left
    · intro w hSw; (try dsimp only at hSw); go_simp; try with_reducible rfl
    try simp only [Act.put, List.setIfInBounds_toArray, List.set_cons_zero, List.set_cons_succ]
    refine wpAnyH_take (i := 8) (v := ?_) (by simp only [List.getElem?_toArray, List.getElem?_cons_succ, List.getElem?_cons_zero]; rfl) (by kernel_rfl) (by kernel_rfl) (by kernel_rfl) (by intro _ _ _ h; exact h) (Or.inl ⟨by rfl, ?_⟩) (by assumption) ?_
    rotate_left
    · intro w hSw; (try dsimp only at hSw); go_simp; try with_reducible rfl
    try simp only [Act.put, List.setIfInBounds_toArray, List.set_cons_zero, List.set_cons_succ]
    refine wpAnyH_ready (rs := [5]) (by kernel_rfl) (by simp) ?_
    refine AllReadyH.cons (o := _) (by simp only [List.getElem?_toArray, List.getElem?_cons_succ, List.getElem?_cons_zero]; rfl) (fun K hK => ?_) AllReadyH.nil
    go_simp
    go_at_call 15
    refine Calls.mono (C15.out (by trivial) v1 (HXW.out _ (HBw5.out.trans ((HBv1.out).mono HBw5.out.size)))) ?_
    rintro e v2 ⟨rfl, hb2⟩
    have HBv2 := Lib.hid ((HBv1.out).trans (hb2.mono (HBv1.out).size))
    clear hb2
    go_simp
    refine hK.out _ _ (by exact HK5.out _ HBv2.out) (fun hHeld => ?_)
    clear hK K
    try simp only [Act.put, List.setIfInBounds_toArray, List.set_cons_zero, List.set_cons_succ]
    refine wpAnyH_ready (rs := [9]) (by kernel_rfl) (by simp) ?_
    refine AllReadyH.cons (o := _) (by simp only [List.getElem?_toArray, List.getElem?_cons_succ, List.getElem?_cons_zero]; rfl) (fun K hK => ?_) AllReadyH.nil
    go_simp
    go_at_call 16
    refine Calls.mono (C16.out (by trivial) v2 (HXW.out _ (HBw5.out.trans ((HBv2.out).mono HBw5.out.size)))) ?_
    rintro e v3 ⟨rfl, hb3⟩
    have HBv3 := Lib.hid ((HBv2.out).trans (hb3.mono (HBv2.out).size))
    clear hb3
    go_simp
    refine hK.out _ _ (by exact HK5.out _ HBv3.out) (fun hHeld => ?_)
    clear hK K
    try simp only [Act.put, List.setIfInBounds_toArray, List.set_cons_zero, List.set_cons_succ]
    refine wpAnyH_take (i := 10) (v := ?_) (by simp only [List.getElem?_toArray, List.getElem?_cons_succ, List.getElem?_cons_zero]; rfl) (by kernel_rfl) (by kernel_rfl) (by kernel_rfl) (by intro _ _ _ h; exact h) (Or.inl ⟨by rfl, ?_⟩) (by assumption) ?_
    rotate_left
    · intro w hSw; (try dsimp only at hSw); go_simp; try with_reducible rfl
    try simp only [Act.put, List.setIfInBounds_toArray, List.set_cons_zero, List.set_cons_succ]
    refine wpAnyH_take (i := 11) (v := ?_) (by simp only [List.getElem?_toArray, List.getElem?_cons_succ, List.getElem?_cons_zero]; rfl) (by kernel_rfl) (by kernel_rfl) (by kernel_rfl) (by intro _ _ _ h; exact h) (Or.inl ⟨by rfl, ?_⟩) (by assumption) ?_
    rotate_left
    · intro w hSw; (try dsimp only at hSw); go_simp; try with_reducible rfl
    try simp only [Act.put, List.setIfInBounds_toArray, List.set_cons_zero, List.set_cons_succ]
    refine wpAnyH_take (i := 12) (v := ?_) (by simp only [List.getElem?_toArray, List.getElem?_cons_succ, List.getElem?_cons_zero]; rfl) (by kernel_rfl) (by kernel_rfl) (by kernel_rfl) (by intro _ _ _ h; exact h) (Or.inl ⟨by rfl, ?_⟩) (by assumption) ?_
    rotate_left
    · intro w hSw; (try dsimp only at hSw); go_simp; try with_reducible rfl
    try simp only [Act.put, List.setIfInBounds_toArray, List.set_cons_zero, List.set_cons_succ]
    refine wpAnyH_take (i := 13) (v := ?_) (by simp only [List.getElem?_toArray, List.getElem?_cons_succ, List.getElem?_cons_zero]; rfl) (by kernel_rfl) (by kernel_rfl) (by kernel_rfl) (by intro _ _ _ h; exact h) (Or.inl ⟨by rfl, ?_⟩) (by assumption) ?_
    rotate_left
    · intro w hSw; (try dsimp only at hSw); go_simp; try with_reducible rfl
    try simp only [Act.put, List.setIfInBounds_toArray, List.set_cons_zero, List.set_cons_succ]
    refine wpAnyH_take (i := 14) (v := ?_) (by simp only [List.getElem?_toArray, List.getElem?_cons_succ, List.getElem?_cons_zero]; rfl) (by kernel_rfl) (by kernel_rfl) (by kernel_rfl) (by intro _ _ _ h; exact h) (Or.inl ⟨by rfl, ?_⟩) (by assumption) ?_
    rotate_left
    · intro w hSw; (try dsimp only at hSw); go_simp; try with_reducible rfl
    try simp only [Act.put, List.setIfInBounds_toArray, List.set_cons_zero, List.set_cons_succ]
    refine wpAnyH_take (i := 15) (v := ?_) (by simp only [List.getElem?_toArray, List.getElem?_cons_succ, List.getElem?_cons_zero]; rfl) (by kernel_rfl) (by kernel_rfl) (by kernel_rfl) (by intro _ _ _ h; exact h) (Or.inl ⟨by rfl, ?_⟩) (by assumption) ?_
    rotate_left
    · intro w hSw; (try dsimp only at hSw); go_simp; try with_reducible rfl
    try simp only [Act.put, List.setIfInBounds_toArray, List.set_cons_zero, List.set_cons_succ]
    refine wpAnyH_take (i := 16) (v := ?_) (by simp only [List.getElem?_toArray, List.getElem?_cons_succ, List.getElem?_cons_zero]; rfl) (by kernel_rfl) (by kernel_rfl) (by kernel_rfl) (by intro _ _ _ h; exact h) (Or.inl ⟨by rfl, ?_⟩) (by assumption) ?_
    rotate_left
    · intro w hSw; (try dsimp only at hSw); go_simp; try with_reducible rfl
    try simp only [Act.put, List.setIfInBounds_toArray, List.set_cons_zero, List.set_cons_succ]
    refine wpAnyH_take (i := 17) (v := ?_) (by simp only [List.getElem?_toArray, List.getElem?_cons_succ, List.getElem?_cons_zero]; rfl) (by kernel_rfl) (by kernel_rfl) (by kernel_rfl) (by intro _ _ _ h; exact h) (Or.inl ⟨by rfl, ?_⟩) (by assumption) ?_
    rotate_left
    · intro w hSw; (try dsimp only at hSw); go_simp; try with_reducible rfl
    try simp only [Act.put, List.setIfInBounds_toArray, List.set_cons_zero, List.set_cons_succ]
    refine wpAnyH_take (i := 18) (v := ?_) (by simp only [List.getElem?_toArray, List.getElem?_cons_succ, List.getElem?_cons_zero]; rfl) (by kernel_rfl) (by kernel_rfl) (by kernel_rfl) (by intro _ _ _ h; exact h) (Or.inl ⟨by rfl, ?_⟩) (by assumption) ?_
    rotate_left
    · intro w hSw; (try dsimp only at hSw); go_simp; try with_reducible rfl
    try simp only [Act.put, List.setIfInBounds_toArray, List.set_cons_zero, List.set_cons_succ]
    refine wpAnyH_take (i := 19) (v := ?_) (by simp only [List.getElem?_toArray, List.getElem?_cons_succ, List.getElem?_cons_zero]; rfl) (by kernel_rfl) (by kernel_rfl) (by kernel_rfl) (by intro _ _ _ h; exact h) (Or.inl ⟨by rfl, ?_⟩) (by assumption) ?_
    rotate_left
    · intro w hSw; (try dsimp only at hSw); go_simp; try with_reducible rfl
    try simp only [Act.put, List.setIfInBounds_toArray, List.set_cons_zero, List.set_cons_succ]
    refine wpAnyH_take (i := 20) (v := ?_) (by simp only [List.getElem?_toArray, List.getElem?_cons_succ, List.getElem?_cons_zero]; rfl) (by kernel_rfl) (by kernel_rfl) (by kernel_rfl) (by intro _ _ _ h; exact h) (Or.inl ⟨by rfl, ?_⟩) (by assumption) ?_
    rotate_left
    · intro w hSw; (try dsimp only at hSw); go_simp; try with_reducible rfl
    try simp only [Act.put, List.setIfInBounds_toArray, List.set_cons_zero, List.set_cons_succ]
    refine wpAnyH_take (i := 21) (v := ?_) (by simp only [List.getElem?_toArray, List.getElem?_cons_succ, List.getElem?_cons_zero]; rfl) (by kernel_rfl) (by kernel_rfl) (by kernel_rfl) (by intro _ _ _ h; exact h) (Or.inl ⟨by rfl, ?_⟩) (by assumption) ?_
    rotate_left
    · intro w hSw; (try dsimp only at hSw); go_simp; try with_reducible rfl
    try simp only [Act.put, List.setIfInBounds_toArray, List.set_cons_zero, List.set_cons_succ]
    refine wpAnyH_take (i := 22) (v := ?_) (by simp only [List.getElem?_toArray, List.getElem?_cons_succ, List.getElem?_cons_zero]; rfl) (by kernel_rfl) (by kernel_rfl) (by kernel_rfl) (by intro _ _ _ h; exact h) (Or.inl ⟨by rfl, ?_⟩) (by assumption) ?_
    rotate_left
    · intro w hSw; (try dsimp only at hSw); go_simp; try with_reducible rfl
    try simp only [Act.put, List.setIfInBounds_toArray, List.set_cons_zero, List.set_cons_succ]
    refine wpAnyH_done (by kernel_rfl) ?_ _
    go_wp2_with fail
    go_ret
    exact ⟨rfl, HXW.out _ (HBw5.out.trans ((HBv3.out).mono HBw5.out.size))⟩
end Go.Proofs.Ytholafodachjnaa
