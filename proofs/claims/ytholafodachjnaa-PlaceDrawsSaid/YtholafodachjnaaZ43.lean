/- Where all is at first, as the document tells it (First). -/
import Derived.Deep.CutRange
import Derived.Test.YtholafodachjnaaZ29
namespace Go.Proofs.Ytholafodachjnaa
open Go.RowKit Go.Shelf
set_option linter.unusedVariables false
set_option linter.unusedSimpArgs false

set_option maxRecDepth 100000 in
set_option maxHeartbeats 8000000 in
theorem first18 (w : World) (a : ArchV) (P : PackV) (hP : PackAt w P) (hf : FewP P) : Calls Try.prog 18 #[a.val, P.val] w fun e w' => FirstOut a P w e w' := by
  have HC : Hid (∀ W, Below w.heap.size w W → Calls Try.prog 34 #[a.val, P.val] W fun e w' => e = .returned (.int .i64 (belowE a P)) ∧ Below W.heap.size W w') := Lib.hid fun W hW => below34 W a P (hP.below hW (Nat.le_refl _)) hf
  have HR0 : Hid (belowE a P = 0 → ((1 ≤ a.w ∧ a.w ≤ 16) ∧ 1 ≤ a.h ∧ a.h ≤ 16) ∧ 0 ≤ P.ins) := Lib.hid fun h => by
    have := rightP_of h
    exact ⟨⟨this.w, this.h⟩, this.i0⟩
  have HFw : Hid (P.ins ≤ 100 ∧ P.bs.length ≤ 500 ∧ P.os.length ≤ 500) := Lib.hid ⟨hf.ins, hf.bs, hf.os⟩
  have HE2 : Hid (¬ belowE a P = 0 → errF a P = belowE a P) := Lib.hid fun h => by unfold errF; rw [if_neg h]
  have HE1 : Hid (belowE a P = 0 → ¬ ((P.bs.length : Int) ≤ a.w * a.h ∧ P.ins + (P.os.length : Int) ≤ 2 * a.w + 2 * a.h) → errF a P = 290) := Lib.hid fun h1 h2 => by
    unfold errF
    rw [if_pos h1, if_neg]
    intro h3
    unfold roomB tilesL padsL at h3
    simp only [Bool.and_eq_true, decide_eq_true_eq] at h3
    exact h2 h3
  have HE0 : Hid (belowE a P = 0 → (P.bs.length : Int) ≤ a.w * a.h → P.ins + (P.os.length : Int) ≤ 2 * a.w + 2 * a.h → errF a P = 0) := Lib.hid fun h1 h2 h3 => by
    unfold errF
    rw [if_pos h1, if_pos]
    unfold roomB tilesL padsL
    simp only [Bool.and_eq_true, decide_eq_true_eq]
    exact ⟨h2, h3⟩
  have HOn0 : Hid (∀ {F : Int} {w'}, errF a P = F → ¬ F = 0 → Below w.heap.size w w' → FirstOut a P w (.returned (.tuple #[zeroSpots, .int .i64 F])) w') := Lib.hid fun h1 h2 h3 => ⟨noSpots, by rw [h1]; rfl, by unfold firstO; rw [h1, if_neg h2], SpotNew.none _ _ _, h3⟩
  have HOy0 : Hid (∀ {R : SpotV} {w'}, errF a P = 0 → R.data = ⟨fromL 0 P.bs.length, fromL 0 P.ins.toNat, fromL P.ins.toNat P.os.length⟩ → SpotNew w.heap.size noSpots R w' → Below w.heap.size w w' → FirstOut a P w (.returned (.tuple #[R.val, .int .i64 0])) w') := Lib.hid fun h1 h2 h3 h4 => ⟨_, by rw [h1], by unfold firstO; rw [h1, if_pos rfl]; exact h2, h3, h4⟩
  obtain ⟨G, hG⟩ : ∃ G, G = fun e w' => FirstOut a P w e w' := ⟨_, rfl⟩
  obtain ⟨F, hF⟩ : ∃ F, F = belowE a P := ⟨_, rfl⟩
  obtain ⟨er, her⟩ : ∃ F, F = errF a P := ⟨_, rfl⟩
  have HOn : Hid (∀ {F : Int} {w'}, er = F → ¬ F = 0 → Below w.heap.size w w' → G (.returned (.tuple #[zeroSpots, .int .i64 F])) w') := Lib.hid (by rw [hG, her]; exact HOn0.out)
  have HOy : Hid (∀ {R : SpotV} {w'}, er = 0 → R.data = ⟨fromL 0 P.bs.length, fromL 0 P.ins.toNat, fromL P.ins.toNat P.os.length⟩ → SpotNew w.heap.size noSpots R w' → Below w.heap.size w w' → G (.returned (.tuple #[R.val, .int .i64 0])) w') := Lib.hid (by rw [hG, her]; exact HOy0.out)
  rw [← hG]
  rw [← hF] at HC HR0 HE0 HE1 HE2
  rw [← her] at HE0 HE1 HE2
  clear HOn0 HOy0 hF her hP hf hG
  obtain ⟨aw, ah, at_⟩ := a
  obtain ⟨pi, pa, pc, pb, qa, qc, qb⟩ := P
  unfold ArchV.val PackV.val at HC
  unfold ArchV.val PackV.val
  dsimp only at HC HR0 HFw HE1 HE0 HOy ⊢
  obtain ⟨m1, hm1⟩ : ∃ n, n = pb.length := ⟨_, rfl⟩
  obtain ⟨m3, hm3⟩ : ∃ n, n = qb.length := ⟨_, rfl⟩
  rw [← hm1, ← hm3] at HC HFw HE1 HE0 HOy ⊢
  clear hm1 hm3
  obtain ⟨H, hH⟩ : ∃ h, h = w.heap.size := ⟨_, rfl⟩
  obtain ⟨w1, hw1⟩ : ∃ W, W = ((w.alloc (.cells #[.int .i64 aw, .int .i64 ah, .int .i64 at_] 23)).alloc (.cells #[.int .i64 pi, .slice pa m1 pc, .slice qa m3 qc] 27)).alloc (.cells #[.slice none 0 0, .slice none 0 0, .slice none 0 0] 29) := ⟨_, rfl⟩
  have hX1 : Below w.heap.size w w1 := by rw [hw1]; exact (((Below.refl _ _).alloc (Nat.le_refl _) _).alloc (by simp) _).alloc (by simp <;> omega) _
  have hs1 : w1.heap.size = H + 3 := by rw [hw1, hH]; simp
  obtain ⟨H1, hH1⟩ : ∃ x, x = H + 1 := ⟨_, rfl⟩
  obtain ⟨B1, hB1⟩ : ∃ x, x = H1 + 1 := ⟨_, rfl⟩
  have hrw0 : w1.rowIs (H) 23 3 (fun i => ([.int .i64 aw, .int .i64 ah, .int .i64 at_] : List Value).getD i undef) := by
    rw [hw1, hH]
    exact ((rowL_alloc w 23 [.int .i64 aw, .int .i64 ah, .int .i64 at_]).alloc _).alloc _
  have hrw1 : w1.rowIs (H1) 27 3 (fun i => ([.int .i64 pi, .slice pa m1 pc, .slice qa m3 qc] : List Value).getD i undef) := by
    have h := (rowL_alloc (w.alloc (.cells #[.int .i64 aw, .int .i64 ah, .int .i64 at_] 23)) 27 [.int .i64 pi, .slice pa m1 pc, .slice qa m3 qc]).alloc (.cells #[.slice none 0 0, .slice none 0 0, .slice none 0 0] 29)
    rw [hw1]
    have hsz : (w.alloc (.cells #[.int .i64 aw, .int .i64 ah, .int .i64 at_] 23)).heap.size = H1 := by rw [hH1, hH]; simp
    rw [hsz] at h
    exact h
  have hrw3 : w1.rowIs (B1) 29 3 (fun i => ([.slice none 0 0, .slice none 0 0, .slice none 0 0] : List Value).getD i undef) := by
    have h := rowL_alloc ((w.alloc (.cells #[.int .i64 aw, .int .i64 ah, .int .i64 at_] 23)).alloc (.cells #[.int .i64 pi, .slice pa m1 pc, .slice qa m3 qc] 27)) 29 [.slice none 0 0, .slice none 0 0, .slice none 0 0]
    rw [hw1]
    have hsz : ((w.alloc (.cells #[.int .i64 aw, .int .i64 ah, .int .i64 at_] 23)).alloc (.cells #[.int .i64 pi, .slice pa m1 pc, .slice qa m3 qc] 27)).heap.size = B1 := by rw [hB1, hH1, hH]; simp
    rw [hsz] at h
    exact h
  have HX1 := Lib.hid hX1
  have HW3r : Hid (∀ W, Below w1.heap.size w1 W → W.rowIs (B1) 29 3 (fun i => ([.slice none 0 0, .slice none 0 0, .slice none 0 0] : List Value).getD i undef)) := Lib.hid fun W hW => hrw3.of_block (hW.block B1 (by omega))
  have HK : Hid (∀ W, Below B1 w1 W → W.cell? ⟨H, 0, none⟩ = some (.int .i64 aw) ∧ W.cell? ⟨H, 1, none⟩ = some (.int .i64 ah) ∧ W.cell? ⟨H, 2, none⟩ = some (.int .i64 at_) ∧ W.cell? ⟨H1, 0, none⟩ = some (.int .i64 pi) ∧ W.cell? ⟨H1, 1, none⟩ = some (.slice pa m1 pc) ∧ W.cell? ⟨H1, 2, none⟩ = some (.slice qa m3 qc)) := Lib.hid fun W hW => by
    have h0 := hrw0.of_block (hW.block H (by omega))
    have h1 := hrw1.of_block (hW.block H1 (by omega))
    exact ⟨h0.cell (by omega), h0.cell (by omega), h0.cell (by omega), h1.cell (by omega), h1.cell (by omega), h1.cell (by omega)⟩
  have HSz : Hid (w1.heap.size = H + 3 ∧ B1 = H + 2 ∧ H = w.heap.size) := Lib.hid ⟨hs1, by omega, hH⟩
  have HXW : Hid (∀ W, Below B1 w1 W → Below w.heap.size w W) := Lib.hid fun W hW => hX1.trans (hW.mono (by omega))
  have HBw : Hid (∀ W, Below w1.heap.size w1 W → Below B1 w1 W) := Lib.hid fun W hW => hW.mono (by omega)
  have HW1 := Lib.hid hw1
  have HHH := Lib.hid hH
  have HHH1 := Lib.hid hH1
  have HBB := Lib.hid hB1
  clear hw1 hX1 hs1 hrw0 hrw1 hrw3 hH hH1 hB1
  go_enter Try.func18, Try.ntmps18
  go_wp2_with fail
  rw [← HW1.out]
  (try rw [← HHH.out])
  rw [← HHH1.out]
  rw [← HBB.out]
  refine Calls.mono (HC.out w1 HX1.out) ?_
  rintro e w2 ⟨rfl, hb2⟩
  have HBx := Lib.hid hb2
  clear hb2
  obtain ⟨a0, a1, a2, p0, p1, p2⟩ := HK.out w2 (HBw.out w2 HBx.out)
  by_cases hF : F = 0
  · obtain ⟨⟨q1, q2⟩, q3⟩ := HR0.out hF
    have HE1b := Lib.hid (HE1.out hF)
    have HE0b := Lib.hid (HE0.out hF)
    subst hF
    obtain ⟨t, ht⟩ : ∃ t, t = aw * ah := ⟨_, rfl⟩
    have htl : 0 ≤ t ∧ t ≤ 256 := by
      have h256 : aw * ah ≤ 16 * 16 := Int.mul_le_mul q1.2 q2.2 (by omega) (by omega)
      have h0 : 0 ≤ aw * ah := Int.mul_nonneg (by omega) (by omega)
      omega
    rw [← ht] at HE1b HE0b
    obtain ⟨pd, hpd⟩ : ∃ t, t = 2 * aw + 2 * ah := ⟨_, rfl⟩
    rw [← hpd] at HE1b HE0b
    have hfw := HFw.out
    have F0 : wrap64 (aw * ah) = t := by rw [← ht]; exact wrap64s (by omega) (by omega)
    have F1 : wrap64 (aw + ah) = aw + ah := wrap64s (by omega) (by omega)
    have F2 : wrap64 (2 * (aw + ah)) = pd := by rw [wrap64s (by omega) (by omega)]; omega
    have F3 : wrap64 (pi + (m3 : Int)) = pi + (m3 : Int) := wrap64s (by omega) (by omega)
    have C36 : Hid (∀ W, Calls Try.prog 36 #[.agg #[.int .i64 aw, .int .i64 ah, .int .i64 at_]] W fun e w' => e = .returned (.int .i64 t) ∧ Below W.heap.size W w') := Lib.hid fun W => by
      have := tiles36 W ⟨aw, ah, at_⟩ (by dsimp only; omega) (by dsimp only; omega)
      rw [ht]
      exact this
    have C38 : Hid (∀ W, Calls Try.prog 38 #[.agg #[.int .i64 aw, .int .i64 ah, .int .i64 at_]] W fun e w' => e = .returned (.int .i64 pd) ∧ Below W.heap.size W w') := Lib.hid fun W => by
      have := pads38 W ⟨aw, ah, at_⟩ (by dsimp only; omega) (by dsimp only; omega)
      rw [hpd]
      exact this
    have HAd : Hid (IntKind.i64.wrap (pi + (m3 : Int)) = pi + (m3 : Int)) := Lib.hid (wrapSmall (by omega) (by omega))
    have HKS : Hid (∀ W, Below w2.heap.size w2 W → W.cell? ⟨H, 0, none⟩ = some (.int .i64 aw) ∧ W.cell? ⟨H, 1, none⟩ = some (.int .i64 ah) ∧ W.cell? ⟨H, 2, none⟩ = some (.int .i64 at_) ∧ W.cell? ⟨H1, 0, none⟩ = some (.int .i64 pi) ∧ W.cell? ⟨H1, 1, none⟩ = some (.slice pa m1 pc) ∧ W.cell? ⟨H1, 2, none⟩ = some (.slice qa m3 qc)) := Lib.hid fun W hW => HK.out W (HBw.out W (HBx.out.trans (hW.mono HBx.out.size)))
    clear F0 F1 F2 F3
    clear a0 a1 a2 p0 p1 p2
    go_upto_region 4 with fail
    clear ht hpd q1 q2 htl HE0 HE1 HE2 HR0
    by_cases h1 : (m1 : Int) ≤ t
    · have d1' : decide ((m1 : Int) > t) = false := by rw [decide_eq_false_iff_not]; omega
      by_cases h2 : pi + (m3 : Int) ≤ pd
      · have HD2 : Hid (decide (pi + (m3 : Int) > pd) = false) := Lib.hid (by rw [decide_eq_false_iff_not]; omega)
        have HEr := Lib.hid (HE0b.out h1 h2)
        clear h1 h2
        go_cut [30] from 14 to 30 (fun r wx => r = .bool false ∧ Hid (Below w2.heap.size w2 wx))
        case first =>
          refine wp_region_held_drew (S := fun w' => w'.cell? ⟨H, 0, none⟩ = some (.int .i64 aw) ∧ w'.cell? ⟨H, 1, none⟩ = some (.int .i64 ah) ∧ w'.cell? ⟨H, 2, none⟩ = some (.int .i64 at_) ∧ w'.cell? ⟨H1, 0, none⟩ = some (.int .i64 pi) ∧ w'.cell? ⟨H1, 1, none⟩ = some (.slice pa m1 pc) ∧ w'.cell? ⟨H1, 2, none⟩ = some (.slice qa m3 qc)) (by kernel_rfl) (HKS.out _ (Below.refl _ _).drew) (fun hHeld => ?_)
          obtain ⟨v1, hv1⟩ : ∃ W, W = w2.drew := ⟨_, rfl⟩
          have hb1 : Below w2.heap.size w2 v1 := by rw [hv1]; exact (Below.refl _ _).drew
          rw [← hv1] at hHeld ⊢
          have HBv1 := Lib.hid hb1
          clear hb1 hv1
          refine wpAnyH_take (i := 0) (v := ?_) (by simp only [List.getElem?_toArray, List.getElem?_cons_succ, List.getElem?_cons_zero]; rfl) (by kernel_rfl) (by kernel_rfl) (by kernel_rfl) (by intro _ _ _ h; exact h) (Or.inl ⟨by rfl, ?_⟩) (by assumption) ?_
          rotate_left
          · intro w hSw; (try dsimp only at hSw); go_simp; try with_reducible rfl
          try simp only [Act.put, List.setIfInBounds_toArray, List.set_cons_zero, List.set_cons_succ]
          refine wpAnyH_take (i := 1) (v := ?_) (by simp only [List.getElem?_toArray, List.getElem?_cons_succ, List.getElem?_cons_zero]; rfl) (by kernel_rfl) (by kernel_rfl) (by kernel_rfl) (by intro _ _ _ h; exact h) (Or.inl ⟨by rfl, ?_⟩) (by assumption) ?_
          rotate_left
          · intro w hSw; (try dsimp only at hSw); go_simp; try with_reducible rfl
          try simp only [Act.put, List.setIfInBounds_toArray, List.set_cons_zero, List.set_cons_succ]
          refine wpAnyH_take (i := 2) (v := ?_) (by simp only [List.getElem?_toArray, List.getElem?_cons_succ, List.getElem?_cons_zero]; rfl) (by kernel_rfl) (by kernel_rfl) (by kernel_rfl) (by intro _ _ _ h; exact h) (Or.inl ⟨by rfl, ?_⟩) (by assumption) ?_
          rotate_left
          · intro w hSw; (try dsimp only at hSw); go_simp; try with_reducible rfl
          try simp only [Act.put, List.setIfInBounds_toArray, List.set_cons_zero, List.set_cons_succ]
          refine wpAnyH_take (i := 3) (v := ?_) (by simp only [List.getElem?_toArray, List.getElem?_cons_succ, List.getElem?_cons_zero]; rfl) (by kernel_rfl) (by kernel_rfl) (by kernel_rfl) (by intro _ _ _ h; exact h) (Or.inl ⟨by rfl, ?_⟩) (by assumption) ?_
          rotate_left
          · intro w hSw; (try dsimp only at hSw); go_simp; try with_reducible rfl
          try simp only [Act.put, List.setIfInBounds_toArray, List.set_cons_zero, List.set_cons_succ]
          refine wpAnyH_ready (rs := [4]) (by kernel_rfl) (by simp) ?_
          refine AllReadyH.cons (o := _) (by simp only [List.getElem?_toArray, List.getElem?_cons_succ, List.getElem?_cons_zero]; rfl) (fun K hK => ?_) AllReadyH.nil
          go_simp
          go_at_call 36
          refine Calls.mono (C36.out v1) ?_
          rintro e v2 ⟨rfl, hb2⟩
          have HBv2 := Lib.hid ((HBv1.out).trans (hb2.mono (HBv1.out).size))
          clear hb2
          go_simp
          refine hK.out _ _ (by exact HKS.out _ HBv2.out) (fun hHeld => ?_)
          clear hK K
          try simp only [Act.put, List.setIfInBounds_toArray, List.set_cons_zero, List.set_cons_succ]
          refine wpAnyH_take (i := 5) (v := ?_) (by simp only [List.getElem?_toArray, List.getElem?_cons_succ, List.getElem?_cons_zero]; rfl) (by kernel_rfl) (by kernel_rfl) (by kernel_rfl) (by intro _ _ _ h; exact h) (Or.inl ⟨by rfl, ?_⟩) (by assumption) ?_
          rotate_left
          · intro w hSw; (try dsimp only at hSw); go_simp; first | rw [d1'] | with_reducible rfl
          try simp only [Act.put, List.setIfInBounds_toArray, List.set_cons_zero, List.set_cons_succ]
          refine wpAnyH_take (i := 6) (v := ?_) (by simp only [List.getElem?_toArray, List.getElem?_cons_succ, List.getElem?_cons_zero]; rfl) (by kernel_rfl) (by kernel_rfl) (by kernel_rfl) (by intro _ _ _ h; exact h) (Or.inl ⟨by rfl, ?_⟩) (by assumption) ?_
          rotate_left
          · intro w hSw; (try dsimp only at hSw); go_simp; try with_reducible rfl
          try simp only [Act.put, List.setIfInBounds_toArray, List.set_cons_zero, List.set_cons_succ]
          refine wpAnyH_take (i := 7) (v := ?_) (by simp only [List.getElem?_toArray, List.getElem?_cons_succ, List.getElem?_cons_zero]; rfl) (by kernel_rfl) (by kernel_rfl) (by kernel_rfl) (by intro _ _ _ h; exact h) (Or.inl ⟨by rfl, ?_⟩) (by assumption) ?_
          rotate_left
          · intro w hSw; (try dsimp only at hSw); go_simp; try with_reducible rfl
          try simp only [Act.put, List.setIfInBounds_toArray, List.set_cons_zero, List.set_cons_succ]
          refine wpAnyH_take (i := 8) (v := ?_) (by simp only [List.getElem?_toArray, List.getElem?_cons_succ, List.getElem?_cons_zero]; rfl) (by kernel_rfl) (by kernel_rfl) (by kernel_rfl) (by intro _ _ _ h; exact h) (Or.inl ⟨by rfl, ?_⟩) (by assumption) ?_
          rotate_left
          · intro w hSw; (try dsimp only at hSw); go_simp; try with_reducible rfl
          try simp only [Act.put, List.setIfInBounds_toArray, List.set_cons_zero, List.set_cons_succ]
          refine wpAnyH_take (i := 9) (v := ?_) (by simp only [List.getElem?_toArray, List.getElem?_cons_succ, List.getElem?_cons_zero]; rfl) (by kernel_rfl) (by kernel_rfl) (by kernel_rfl) (by intro _ _ _ h; exact h) (Or.inl ⟨by rfl, ?_⟩) (by assumption) ?_
          rotate_left
          · intro w hSw; (try dsimp only at hSw); go_simp; try with_reducible rfl
          try simp only [Act.put, List.setIfInBounds_toArray, List.set_cons_zero, List.set_cons_succ]
          refine wpAnyH_take (i := 10) (v := ?_) (by simp only [List.getElem?_toArray, List.getElem?_cons_succ, List.getElem?_cons_zero]; rfl) (by kernel_rfl) (by kernel_rfl) (by kernel_rfl) (by intro _ _ _ h; exact h) (Or.inl ⟨by rfl, ?_⟩) (by assumption) ?_
          rotate_left
          · intro w hSw; (try dsimp only at hSw); go_simp; try with_reducible rfl
          try simp only [Act.put, List.setIfInBounds_toArray, List.set_cons_zero, List.set_cons_succ]
          refine wpAnyH_take (i := 11) (v := ?_) (by simp only [List.getElem?_toArray, List.getElem?_cons_succ, List.getElem?_cons_zero]; rfl) (by kernel_rfl) (by kernel_rfl) (by kernel_rfl) (by intro _ _ _ h; exact h) (Or.inl ⟨by rfl, ?_⟩) (by assumption) ?_
          rotate_left
          · intro w hSw; (try dsimp only at hSw); go_simp; try with_reducible rfl
          try simp only [Act.put, List.setIfInBounds_toArray, List.set_cons_zero, List.set_cons_succ]
          refine wpAnyH_take (i := 12) (v := ?_) (by simp only [List.getElem?_toArray, List.getElem?_cons_succ, List.getElem?_cons_zero]; rfl) (by kernel_rfl) (by kernel_rfl) (by kernel_rfl) (by intro _ _ _ h; exact h) (Or.inl ⟨by rfl, ?_⟩) (by assumption) ?_
          rotate_left
          · intro w hSw; (try dsimp only at hSw); go_simp; rw [HAd.out]
          try simp only [Act.put, List.setIfInBounds_toArray, List.set_cons_zero, List.set_cons_succ]
          refine wpAnyH_take (i := 13) (v := ?_) (by simp only [List.getElem?_toArray, List.getElem?_cons_succ, List.getElem?_cons_zero]; rfl) (by kernel_rfl) (by kernel_rfl) (by kernel_rfl) (by intro _ _ _ h; exact h) (Or.inl ⟨by rfl, ?_⟩) (by assumption) ?_
          rotate_left
          · intro w hSw; (try dsimp only at hSw); go_simp; try with_reducible rfl
          try simp only [Act.put, List.setIfInBounds_toArray, List.set_cons_zero, List.set_cons_succ]
          refine wpAnyH_ready (rs := [14]) (by kernel_rfl) (by simp) ?_
          refine AllReadyH.cons (o := _) (by simp only [List.getElem?_toArray, List.getElem?_cons_succ, List.getElem?_cons_zero]; rfl) (fun K hK => ?_) AllReadyH.nil
          go_simp
          go_at_call 38
          refine Calls.mono (C38.out v2) ?_
          rintro e v3 ⟨rfl, hb3⟩
          have HBv3 := Lib.hid ((HBv2.out).trans (hb3.mono (HBv2.out).size))
          clear hb3
          go_simp
          refine hK.out _ _ (by exact HKS.out _ HBv3.out) (fun hHeld => ?_)
          clear hK K
          try simp only [Act.put, List.setIfInBounds_toArray, List.set_cons_zero, List.set_cons_succ]
          refine wpAnyH_take (i := 15) (v := ?_) (by simp only [List.getElem?_toArray, List.getElem?_cons_succ, List.getElem?_cons_zero]; rfl) (by kernel_rfl) (by kernel_rfl) (by kernel_rfl) (by intro _ _ _ h; exact h) (Or.inl ⟨by rfl, ?_⟩) (by assumption) ?_
          rotate_left
          · intro w hSw; (try dsimp only at hSw); go_simp; first | rw [HD2.out] | with_reducible rfl
          try simp only [Act.put, List.setIfInBounds_toArray, List.set_cons_zero, List.set_cons_succ]
          refine wpAnyH_take (i := 16) (v := ?_) (by simp only [List.getElem?_toArray, List.getElem?_cons_succ, List.getElem?_cons_zero]; rfl) (by kernel_rfl) (by kernel_rfl) (by kernel_rfl) (by intro _ _ _ h; exact h) (Or.inl ⟨by rfl, ?_⟩) (by assumption) ?_
          rotate_left
          · intro w hSw; (try dsimp only at hSw); go_simp; try with_reducible rfl
          try simp only [Act.put, List.setIfInBounds_toArray, List.set_cons_zero, List.set_cons_succ]
          refine wpAnyH_done (by kernel_rfl) ?_ _
          go_wp2_with fail
          go_meet
          exact ⟨rfl, Lib.hid (HBv3.out)⟩
        case rest =>
          obtain ⟨rfl, HC⟩ := hcut
          obtain ⟨w9, hw9⟩ : ∃ W, W = wc := ⟨_, rfl⟩
          subst hw9
          have HBn := Lib.hid (HBx.out.trans (HC.out.mono HBx.out.size))
          clear HC HKS HBx
          obtain ⟨a0, a1, a2, p0, p1, p2⟩ := HK.out w9 (HBw.out w9 HBn.out)
          go_wp2_with fail
          clear a0 a1 a2 p0 p1 p2
          refine wp_region_held_drew (S := fun w' => w'.cell? ⟨H, 0, none⟩ = some (.int .i64 aw) ∧ w'.cell? ⟨H, 1, none⟩ = some (.int .i64 ah) ∧ w'.cell? ⟨H, 2, none⟩ = some (.int .i64 at_) ∧ w'.cell? ⟨H1, 0, none⟩ = some (.int .i64 pi) ∧ w'.cell? ⟨H1, 1, none⟩ = some (.slice pa m1 pc) ∧ w'.cell? ⟨H1, 2, none⟩ = some (.slice qa m3 qc)) (by kernel_rfl) (HK.out _ (HBw.out _ HBn.out.drew)) (fun hHeld => ?_)
          refine wpAnyH_take (i := 0) (v := ?_) (by simp only [List.getElem?_toArray, List.getElem?_cons_succ, List.getElem?_cons_zero]; rfl) (by kernel_rfl) (by kernel_rfl) (by kernel_rfl) (by intro _ _ _ h; exact h) (Or.inl ⟨by rfl, ?_⟩) (by assumption) ?_
          rotate_left
          · intro w hSw; (try dsimp only at hSw); go_simp; try with_reducible rfl
          try simp only [Act.put, List.setIfInBounds_toArray, List.set_cons_zero, List.set_cons_succ]
          refine wpAnyH_take (i := 1) (v := ?_) (by simp only [List.getElem?_toArray, List.getElem?_cons_succ, List.getElem?_cons_zero]; rfl) (by kernel_rfl) (by kernel_rfl) (by kernel_rfl) (by intro _ _ _ h; exact h) (Or.inl ⟨by rfl, ?_⟩) (by assumption) ?_
          rotate_left
          · intro w hSw; (try dsimp only at hSw); go_simp; try with_reducible rfl
          try simp only [Act.put, List.setIfInBounds_toArray, List.set_cons_zero, List.set_cons_succ]
          refine wpAnyH_take (i := 4) (v := ?_) (by simp only [List.getElem?_toArray, List.getElem?_cons_succ, List.getElem?_cons_zero]; rfl) (by kernel_rfl) (by kernel_rfl) (by kernel_rfl) (by intro _ _ _ h; exact h) (Or.inl ⟨by rfl, ?_⟩) (by assumption) ?_
          rotate_left
          · intro w hSw; (try dsimp only at hSw); go_simp; try with_reducible rfl
          try simp only [Act.put, List.setIfInBounds_toArray, List.set_cons_zero, List.set_cons_succ]
          refine wpAnyH_take (i := 5) (v := ?_) (by simp only [List.getElem?_toArray, List.getElem?_cons_succ, List.getElem?_cons_zero]; rfl) (by kernel_rfl) (by kernel_rfl) (by kernel_rfl) (by intro _ _ _ h; exact h) (Or.inl ⟨by rfl, ?_⟩) (by assumption) ?_
          rotate_left
          · intro w hSw; (try dsimp only at hSw); go_simp; try with_reducible rfl
          try simp only [Act.put, List.setIfInBounds_toArray, List.set_cons_zero, List.set_cons_succ]
          refine wpAnyH_take (i := 7) (v := ?_) (by simp only [List.getElem?_toArray, List.getElem?_cons_succ, List.getElem?_cons_zero]; rfl) (by kernel_rfl) (by kernel_rfl) (by kernel_rfl) (by intro _ _ _ h; exact h) (Or.inl ⟨by rfl, ?_⟩) (by assumption) ?_
          rotate_left
          · intro w hSw; (try dsimp only at hSw); go_simp; try with_reducible rfl
          try simp only [Act.put, List.setIfInBounds_toArray, List.set_cons_zero, List.set_cons_succ]
          refine wpAnyH_take (i := 8) (v := ?_) (by simp only [List.getElem?_toArray, List.getElem?_cons_succ, List.getElem?_cons_zero]; rfl) (by kernel_rfl) (by kernel_rfl) (by kernel_rfl) (by intro _ _ _ h; exact h) (Or.inl ⟨by rfl, ?_⟩) (by assumption) ?_
          rotate_left
          · intro w hSw; (try dsimp only at hSw); go_simp; try with_reducible rfl
          try simp only [Act.put, List.setIfInBounds_toArray, List.set_cons_zero, List.set_cons_succ]
          refine wpAnyH_take (i := 9) (v := ?_) (by simp only [List.getElem?_toArray, List.getElem?_cons_succ, List.getElem?_cons_zero]; rfl) (by kernel_rfl) (by kernel_rfl) (by kernel_rfl) (by intro _ _ _ h; exact h) (Or.inl ⟨by rfl, ?_⟩) (by assumption) ?_
          rotate_left
          · intro w hSw; (try dsimp only at hSw); go_simp; try with_reducible rfl
          try simp only [Act.put, List.setIfInBounds_toArray, List.set_cons_zero, List.set_cons_succ]
          refine wpAnyH_take (i := 10) (v := ?_) (by simp only [List.getElem?_toArray, List.getElem?_cons_succ, List.getElem?_cons_zero]; rfl) (by kernel_rfl) (by kernel_rfl) (by kernel_rfl) (by intro _ _ _ h; exact h) (Or.inl ⟨by rfl, ?_⟩) (by assumption) ?_
          rotate_left
          · intro w hSw; (try dsimp only at hSw); go_simp; try with_reducible rfl
          try simp only [Act.put, List.setIfInBounds_toArray, List.set_cons_zero, List.set_cons_succ]
          refine wpAnyH_take (i := 2) (v := ?_) (by simp only [List.getElem?_toArray, List.getElem?_cons_succ, List.getElem?_cons_zero]; rfl) (by kernel_rfl) (by kernel_rfl) (by kernel_rfl) (by intro _ _ _ h; exact h) (Or.inl ⟨by rfl, ?_⟩) (by assumption) ?_
          rotate_left
          · intro w hSw; (try dsimp only at hSw); go_simp; try with_reducible rfl
          try simp only [Act.put, List.setIfInBounds_toArray, List.set_cons_zero, List.set_cons_succ]
          refine wpAnyH_take (i := 11) (v := ?_) (by simp only [List.getElem?_toArray, List.getElem?_cons_succ, List.getElem?_cons_zero]; rfl) (by kernel_rfl) (by kernel_rfl) (by kernel_rfl) (by intro _ _ _ h; exact h) (Or.inl ⟨by rfl, ?_⟩) (by assumption) ?_
          rotate_left
          · intro w hSw; (try dsimp only at hSw); go_simp; try with_reducible rfl
          try simp only [Act.put, List.setIfInBounds_toArray, List.set_cons_zero, List.set_cons_succ]
          refine wpAnyH_ready (rs := [3]) (by kernel_rfl) (by simp) ?_
          refine AllReadyH.cons (o := _) (by simp only [List.getElem?_toArray, List.getElem?_cons_succ, List.getElem?_cons_zero]; rfl) (fun K hK => ?_) AllReadyH.nil
          go_simp
          go_at_call 40
          refine Calls.mono (row40' _ 0 (m1 : Int) 0 m1 (by omega) (by omega) (by omega) (by omega)) ?_
          rintro e w3 ⟨b0, d0, rfl, ho0, hb3⟩
          have HB3 : Hid (Below w1.heap.size w1 w3) := Lib.hid (HBn.out.drew.trans (hb3.mono HBn.out.drew.size))
          have HO0 := Lib.hid ho0
          have HZ3 : Hid (w9.heap.size ≤ w3.heap.size) := Lib.hid hb3.size
          clear hb3 ho0
          go_simp
          refine hK.out _ _ (by exact HK.out _ (HBw.out _ HB3.out)) (fun hHeld => ?_)
          clear hK K
          try simp only [Act.put, List.setIfInBounds_toArray, List.set_cons_zero, List.set_cons_succ]
          refine wpAnyH_ready (rs := [6]) (by kernel_rfl) (by simp) ?_
          refine AllReadyH.cons (o := _) (by simp only [List.getElem?_toArray, List.getElem?_cons_succ, List.getElem?_cons_zero]; rfl) (fun K hK => ?_) AllReadyH.nil
          go_simp
          go_at_call 40
          refine Calls.mono (row40' _ 0 pi 0 pi.toNat (by omega) (by omega) (by omega) (by omega)) ?_
          rintro e w4 ⟨b1, d1, rfl, ho1, hb4⟩
          have HB4 : Hid (Below w1.heap.size w1 w4) := Lib.hid (HB3.out.trans (hb4.mono HB3.out.size))
          have HO1 : Hid (w4.ownsRow w9.heap.size 3 1 (.slice b0 m1 d0) m1 ((fromL 0 m1).map (Value.int .i64)) ∧ w4.ownsRow w3.heap.size 3 1 (.slice b1 pi.toNat d1) pi.toNat ((fromL 0 pi.toNat).map (Value.int .i64))) := Lib.hid ⟨own_below HO0.out hb4, ho1⟩
          have HZ4 : Hid (w3.heap.size ≤ w4.heap.size) := Lib.hid hb4.size
          clear hb4 ho1
          go_simp
          refine hK.out _ _ (by exact HK.out _ (HBw.out _ HB4.out)) (fun hHeld => ?_)
          clear hK K
          try simp only [Act.put, List.setIfInBounds_toArray, List.set_cons_zero, List.set_cons_succ]
          refine wpAnyH_ready (rs := [12]) (by kernel_rfl) (by simp) ?_
          refine AllReadyH.cons (o := _) (by simp only [List.getElem?_toArray, List.getElem?_cons_succ, List.getElem?_cons_zero]; rfl) (fun K hK => ?_) AllReadyH.nil
          go_simp
          go_at_call 40
          refine Calls.mono (row40' _ pi (m3 : Int) pi.toNat m3 (by omega) (by omega) (by omega) (by omega)) ?_
          rintro e w5 ⟨b2, d2, rfl, ho2, hb5⟩
          have HB5 : Hid (Below w1.heap.size w1 w5) := Lib.hid (HB4.out.trans (hb5.mono HB4.out.size))
          have HO2 : Hid (w5.ownsRow w9.heap.size 3 1 (.slice b0 m1 d0) m1 ((fromL 0 m1).map (Value.int .i64)) ∧ w5.ownsRow w3.heap.size 3 1 (.slice b1 pi.toNat d1) pi.toNat ((fromL 0 pi.toNat).map (Value.int .i64)) ∧ w5.ownsRow w4.heap.size 3 1 (.slice b2 m3 d2) m3 ((fromL pi.toNat m3).map (Value.int .i64))) := Lib.hid ⟨own_below HO1.out.1 hb5, own_below HO1.out.2 hb5, ho2⟩
          clear hb5 ho2
          have hr9 := HW3r.out w5 HB5.out
          have z0 : w5.cell? ⟨B1, 0, none⟩ = some (.slice none 0 0) := hr9.cell (by omega)
          have f0 := hr9.frozen 0
          have z1 : w5.cell? ⟨B1, 1, none⟩ = some (.slice none 0 0) := hr9.cell (by omega)
          have f1 := hr9.frozen 1
          have z2 : w5.cell? ⟨B1, 2, none⟩ = some (.slice none 0 0) := hr9.cell (by omega)
          have f2 := hr9.frozen 2
          have HR9 := Lib.hid hr9
          clear hr9
          go_simp
          refine hK.out _ _ (by exact HK.out _ (HBw.out _ HB5.out)) (fun hHeld => ?_)
          clear hK K
          try simp only [Act.put, List.setIfInBounds_toArray, List.set_cons_zero, List.set_cons_succ]
          refine wpAnyH_take (i := 13) (v := ?_) (by simp only [List.getElem?_toArray, List.getElem?_cons_succ, List.getElem?_cons_zero]; rfl) (by kernel_rfl) (by kernel_rfl) (by kernel_rfl) (by intro _ _ _ h; exact h) (Or.inl ⟨by rfl, ?_⟩) (by assumption) ?_
          rotate_left
          · intro w hSw; (try dsimp only at hSw); go_simp; try with_reducible rfl
          try simp only [Act.put, List.setIfInBounds_toArray, List.set_cons_zero, List.set_cons_succ]
          refine wpAnyH_ready (rs := [14]) (by kernel_rfl) (by simp) ?_
          refine AllReadyH.cons (o := _) (by simp only [List.getElem?_toArray, List.getElem?_cons_succ, List.getElem?_cons_zero]; rfl) (fun K hK => ?_) AllReadyH.nil
          go_simp

          refine hK.out _ _ (by exact HK.out _ ((((HBw.out _ HB5.out).setCell (Nat.le_refl _) _).setCell (Nat.le_refl _) _).setCell (Nat.le_refl _) _)) (fun hHeld => ?_)
          clear hK K
          try simp only [Act.put, List.setIfInBounds_toArray, List.set_cons_zero, List.set_cons_succ]
          refine wpAnyH_take (i := 15) (v := ?_) (by simp only [List.getElem?_toArray, List.getElem?_cons_succ, List.getElem?_cons_zero]; rfl) (by kernel_rfl) (by kernel_rfl) (by kernel_rfl) (by intro _ _ _ h; exact h) (Or.inl ⟨by rfl, ?_⟩) (by assumption) ?_
          rotate_left
          · intro w hSw; (try dsimp only at hSw); go_simp; try with_reducible rfl
          try simp only [Act.put, List.setIfInBounds_toArray, List.set_cons_zero, List.set_cons_succ]
          refine wpAnyH_done (by kernel_rfl) ?_ _
          go_wp2_with fail
          (try simp only [Exit.inBlock, Exit.then])
          have key : ∀ (R : Ending → World → Prop) (a : Act) (W' : World), a.tmps[4]?.getD undef = .pointer (some ⟨B1, 0, none⟩) → a.tmps[5]?.getD undef = .int .i64 0 → a.defers = [] → W' = (((w5.setCell ⟨B1, 0, none⟩ (.slice b0 m1 d0)).setCell ⟨B1, 1, none⟩ (.slice b1 pi.toNat d1)).setCell ⟨B1, 2, none⟩ (.slice b2 m3 d2)) ∨ W' = (((w5.setCell ⟨B1, 0, none⟩ (.slice b0 m1 d0)).setCell ⟨B1, 1, none⟩ (.slice b1 pi.toNat d1)).setCell ⟨B1, 2, none⟩ (.slice b2 m3 d2)).drew → R (.returned (.tuple #[.agg #[.slice b0 m1 d0, .slice b1 pi.toNat d1, .slice b2 m3 d2], .int .i64 0])) W' → bodyPost Try.prog Try.f18 R .ret a W' := fun R a W' q1 q2 q3 q4 q5 => @first_end Try.f18 f18_results R a w5 B1 _ (.slice b0 m1 d0) (.slice b1 pi.toNat d1) (.slice b2 m3 d2) 0 W' HR9.out q1 q2 q3 q4 q5
          refine key _ _ _ ?h6y18 ?h8y18 ?hdy18 ?hWy18 ?hRy18
          case h6y18 => rfl
          case h8y18 => rfl
          case hdy18 => rfl
          case hWy18 => first | exact Or.inl rfl | exact Or.inr rfl
          have hg := grown_put3 (b := B1) (v0 := .slice b0 m1 d0) (v1 := .slice b1 pi.toNat d1) (v2 := .slice b2 m3 d2) (World.grownBy.refl w5 (some B1))
          have hR : SpotV.val ⟨b0, d0, fromL 0 m1, b1, d1, fromL 0 pi.toNat, b2, d2, fromL pi.toNat m3⟩ = .agg #[.slice b0 m1 d0, .slice b1 pi.toNat d1, .slice b2 m3 d2] := by unfold SpotV.val; dsimp only; rw [fromL_len, fromL_len, fromL_len]
          rw [← hR]
          refine HOy.out (R := ⟨b0, d0, fromL 0 m1, b1, d1, fromL 0 pi.toNat, b2, d2, fromL pi.toNat m3⟩) HEr.out rfl ?_ ?_
          · have e1 := HSz.out
            have e2 := HBn.out.size
            have e3 := HZ3.out
            have e4 := HZ4.out
            refine ⟨.inr ?_, .inr ?_, .inr ?_, ?_, ?_, ?_⟩
            · dsimp only
              rw [fromL_len]
              exact own_weak (own_grown HO2.out.1 (by first | exact hg | exact grown_drew hg) (by omega)) (by omega)
            · dsimp only
              rw [fromL_len]
              exact own_weak (own_grown HO2.out.2.1 (by first | exact hg | exact grown_drew hg) (by omega)) (by omega)
            · dsimp only
              rw [fromL_len]
              exact own_weak (own_grown HO2.out.2.2 (by first | exact hg | exact grown_drew hg) (by omega)) (by omega)
            · exact fromL_i64 _ _ (by omega)
            · exact fromL_i64 _ _ (by omega)
            · exact fromL_i64 _ _ (by omega)
          · first | exact below_grown (HXW.out _ (HBw.out _ HB5.out)) hg (by have := HSz.out; omega) (HXW.out _ (HBw.out _ HB5.out)).size | exact (below_grown (HXW.out _ (HBw.out _ HB5.out)) hg (by have := HSz.out; omega) (HXW.out _ (HBw.out _ HB5.out)).size).drew
      · have HD2 : Hid (decide (pi + (m3 : Int) > pd) = true) := Lib.hid (by rw [decide_eq_true_eq]; omega)
        have HEr := Lib.hid (HE1b.out (fun e => h2 e.2))
        clear h1 h2 hfw
        go_cut [30] from 14 to 30 (fun r wx => r = .bool true ∧ Hid (Below w2.heap.size w2 wx))
        case first =>
          refine wp_region_held_drew (S := fun w' => w'.cell? ⟨H, 0, none⟩ = some (.int .i64 aw) ∧ w'.cell? ⟨H, 1, none⟩ = some (.int .i64 ah) ∧ w'.cell? ⟨H, 2, none⟩ = some (.int .i64 at_) ∧ w'.cell? ⟨H1, 0, none⟩ = some (.int .i64 pi) ∧ w'.cell? ⟨H1, 1, none⟩ = some (.slice pa m1 pc) ∧ w'.cell? ⟨H1, 2, none⟩ = some (.slice qa m3 qc)) (by kernel_rfl) (HKS.out _ (Below.refl _ _).drew) (fun hHeld => ?_)
          obtain ⟨v4, hv4⟩ : ∃ W, W = w2.drew := ⟨_, rfl⟩
          have hb4 : Below w2.heap.size w2 v4 := by rw [hv4]; exact (Below.refl _ _).drew
          rw [← hv4] at hHeld ⊢
          have HBv4 := Lib.hid hb4
          clear hb4 hv4
          refine wpAnyH_take (i := 0) (v := ?_) (by simp only [List.getElem?_toArray, List.getElem?_cons_succ, List.getElem?_cons_zero]; rfl) (by kernel_rfl) (by kernel_rfl) (by kernel_rfl) (by intro _ _ _ h; exact h) (Or.inl ⟨by rfl, ?_⟩) (by assumption) ?_
          rotate_left
          · intro w hSw; (try dsimp only at hSw); go_simp; try with_reducible rfl
          try simp only [Act.put, List.setIfInBounds_toArray, List.set_cons_zero, List.set_cons_succ]
          refine wpAnyH_take (i := 1) (v := ?_) (by simp only [List.getElem?_toArray, List.getElem?_cons_succ, List.getElem?_cons_zero]; rfl) (by kernel_rfl) (by kernel_rfl) (by kernel_rfl) (by intro _ _ _ h; exact h) (Or.inl ⟨by rfl, ?_⟩) (by assumption) ?_
          rotate_left
          · intro w hSw; (try dsimp only at hSw); go_simp; try with_reducible rfl
          try simp only [Act.put, List.setIfInBounds_toArray, List.set_cons_zero, List.set_cons_succ]
          refine wpAnyH_take (i := 2) (v := ?_) (by simp only [List.getElem?_toArray, List.getElem?_cons_succ, List.getElem?_cons_zero]; rfl) (by kernel_rfl) (by kernel_rfl) (by kernel_rfl) (by intro _ _ _ h; exact h) (Or.inl ⟨by rfl, ?_⟩) (by assumption) ?_
          rotate_left
          · intro w hSw; (try dsimp only at hSw); go_simp; try with_reducible rfl
          try simp only [Act.put, List.setIfInBounds_toArray, List.set_cons_zero, List.set_cons_succ]
          refine wpAnyH_take (i := 3) (v := ?_) (by simp only [List.getElem?_toArray, List.getElem?_cons_succ, List.getElem?_cons_zero]; rfl) (by kernel_rfl) (by kernel_rfl) (by kernel_rfl) (by intro _ _ _ h; exact h) (Or.inl ⟨by rfl, ?_⟩) (by assumption) ?_
          rotate_left
          · intro w hSw; (try dsimp only at hSw); go_simp; try with_reducible rfl
          try simp only [Act.put, List.setIfInBounds_toArray, List.set_cons_zero, List.set_cons_succ]
          refine wpAnyH_ready (rs := [4]) (by kernel_rfl) (by simp) ?_
          refine AllReadyH.cons (o := _) (by simp only [List.getElem?_toArray, List.getElem?_cons_succ, List.getElem?_cons_zero]; rfl) (fun K hK => ?_) AllReadyH.nil
          go_simp
          go_at_call 36
          refine Calls.mono (C36.out v4) ?_
          rintro e v5 ⟨rfl, hb5⟩
          have HBv5 := Lib.hid ((HBv4.out).trans (hb5.mono (HBv4.out).size))
          clear hb5
          go_simp
          refine hK.out _ _ (by exact HKS.out _ HBv5.out) (fun hHeld => ?_)
          clear hK K
          try simp only [Act.put, List.setIfInBounds_toArray, List.set_cons_zero, List.set_cons_succ]
          refine wpAnyH_take (i := 5) (v := ?_) (by simp only [List.getElem?_toArray, List.getElem?_cons_succ, List.getElem?_cons_zero]; rfl) (by kernel_rfl) (by kernel_rfl) (by kernel_rfl) (by intro _ _ _ h; exact h) (Or.inl ⟨by rfl, ?_⟩) (by assumption) ?_
          rotate_left
          · intro w hSw; (try dsimp only at hSw); go_simp; first | rw [d1'] | with_reducible rfl
          try simp only [Act.put, List.setIfInBounds_toArray, List.set_cons_zero, List.set_cons_succ]
          refine wpAnyH_take (i := 6) (v := ?_) (by simp only [List.getElem?_toArray, List.getElem?_cons_succ, List.getElem?_cons_zero]; rfl) (by kernel_rfl) (by kernel_rfl) (by kernel_rfl) (by intro _ _ _ h; exact h) (Or.inl ⟨by rfl, ?_⟩) (by assumption) ?_
          rotate_left
          · intro w hSw; (try dsimp only at hSw); go_simp; try with_reducible rfl
          try simp only [Act.put, List.setIfInBounds_toArray, List.set_cons_zero, List.set_cons_succ]
          refine wpAnyH_take (i := 7) (v := ?_) (by simp only [List.getElem?_toArray, List.getElem?_cons_succ, List.getElem?_cons_zero]; rfl) (by kernel_rfl) (by kernel_rfl) (by kernel_rfl) (by intro _ _ _ h; exact h) (Or.inl ⟨by rfl, ?_⟩) (by assumption) ?_
          rotate_left
          · intro w hSw; (try dsimp only at hSw); go_simp; try with_reducible rfl
          try simp only [Act.put, List.setIfInBounds_toArray, List.set_cons_zero, List.set_cons_succ]
          refine wpAnyH_take (i := 8) (v := ?_) (by simp only [List.getElem?_toArray, List.getElem?_cons_succ, List.getElem?_cons_zero]; rfl) (by kernel_rfl) (by kernel_rfl) (by kernel_rfl) (by intro _ _ _ h; exact h) (Or.inl ⟨by rfl, ?_⟩) (by assumption) ?_
          rotate_left
          · intro w hSw; (try dsimp only at hSw); go_simp; try with_reducible rfl
          try simp only [Act.put, List.setIfInBounds_toArray, List.set_cons_zero, List.set_cons_succ]
          refine wpAnyH_take (i := 9) (v := ?_) (by simp only [List.getElem?_toArray, List.getElem?_cons_succ, List.getElem?_cons_zero]; rfl) (by kernel_rfl) (by kernel_rfl) (by kernel_rfl) (by intro _ _ _ h; exact h) (Or.inl ⟨by rfl, ?_⟩) (by assumption) ?_
          rotate_left
          · intro w hSw; (try dsimp only at hSw); go_simp; try with_reducible rfl
          try simp only [Act.put, List.setIfInBounds_toArray, List.set_cons_zero, List.set_cons_succ]
          refine wpAnyH_take (i := 10) (v := ?_) (by simp only [List.getElem?_toArray, List.getElem?_cons_succ, List.getElem?_cons_zero]; rfl) (by kernel_rfl) (by kernel_rfl) (by kernel_rfl) (by intro _ _ _ h; exact h) (Or.inl ⟨by rfl, ?_⟩) (by assumption) ?_
          rotate_left
          · intro w hSw; (try dsimp only at hSw); go_simp; try with_reducible rfl
          try simp only [Act.put, List.setIfInBounds_toArray, List.set_cons_zero, List.set_cons_succ]
          refine wpAnyH_take (i := 11) (v := ?_) (by simp only [List.getElem?_toArray, List.getElem?_cons_succ, List.getElem?_cons_zero]; rfl) (by kernel_rfl) (by kernel_rfl) (by kernel_rfl) (by intro _ _ _ h; exact h) (Or.inl ⟨by rfl, ?_⟩) (by assumption) ?_
          rotate_left
          · intro w hSw; (try dsimp only at hSw); go_simp; try with_reducible rfl
          try simp only [Act.put, List.setIfInBounds_toArray, List.set_cons_zero, List.set_cons_succ]
          refine wpAnyH_take (i := 12) (v := ?_) (by simp only [List.getElem?_toArray, List.getElem?_cons_succ, List.getElem?_cons_zero]; rfl) (by kernel_rfl) (by kernel_rfl) (by kernel_rfl) (by intro _ _ _ h; exact h) (Or.inl ⟨by rfl, ?_⟩) (by assumption) ?_
          rotate_left
          · intro w hSw; (try dsimp only at hSw); go_simp; rw [HAd.out]
          try simp only [Act.put, List.setIfInBounds_toArray, List.set_cons_zero, List.set_cons_succ]
          refine wpAnyH_take (i := 13) (v := ?_) (by simp only [List.getElem?_toArray, List.getElem?_cons_succ, List.getElem?_cons_zero]; rfl) (by kernel_rfl) (by kernel_rfl) (by kernel_rfl) (by intro _ _ _ h; exact h) (Or.inl ⟨by rfl, ?_⟩) (by assumption) ?_
          rotate_left
          · intro w hSw; (try dsimp only at hSw); go_simp; try with_reducible rfl
          try simp only [Act.put, List.setIfInBounds_toArray, List.set_cons_zero, List.set_cons_succ]
          refine wpAnyH_ready (rs := [14]) (by kernel_rfl) (by simp) ?_
          refine AllReadyH.cons (o := _) (by simp only [List.getElem?_toArray, List.getElem?_cons_succ, List.getElem?_cons_zero]; rfl) (fun K hK => ?_) AllReadyH.nil
          go_simp
          go_at_call 38
          refine Calls.mono (C38.out v5) ?_
          rintro e v6 ⟨rfl, hb6⟩
          have HBv6 := Lib.hid ((HBv5.out).trans (hb6.mono (HBv5.out).size))
          clear hb6
          go_simp
          refine hK.out _ _ (by exact HKS.out _ HBv6.out) (fun hHeld => ?_)
          clear hK K
          try simp only [Act.put, List.setIfInBounds_toArray, List.set_cons_zero, List.set_cons_succ]
          refine wpAnyH_take (i := 15) (v := ?_) (by simp only [List.getElem?_toArray, List.getElem?_cons_succ, List.getElem?_cons_zero]; rfl) (by kernel_rfl) (by kernel_rfl) (by kernel_rfl) (by intro _ _ _ h; exact h) (Or.inl ⟨by rfl, ?_⟩) (by assumption) ?_
          rotate_left
          · intro w hSw; (try dsimp only at hSw); go_simp; first | rw [HD2.out] | with_reducible rfl
          try simp only [Act.put, List.setIfInBounds_toArray, List.set_cons_zero, List.set_cons_succ]
          refine wpAnyH_take (i := 16) (v := ?_) (by simp only [List.getElem?_toArray, List.getElem?_cons_succ, List.getElem?_cons_zero]; rfl) (by kernel_rfl) (by kernel_rfl) (by kernel_rfl) (by intro _ _ _ h; exact h) (Or.inl ⟨by rfl, ?_⟩) (by assumption) ?_
          rotate_left
          · intro w hSw; (try dsimp only at hSw); go_simp; try with_reducible rfl
          try simp only [Act.put, List.setIfInBounds_toArray, List.set_cons_zero, List.set_cons_succ]
          refine wpAnyH_done (by kernel_rfl) ?_ _
          go_wp2_with fail
          go_meet
          exact ⟨rfl, Lib.hid (HBv6.out)⟩
        case rest =>
          obtain ⟨rfl, HC⟩ := hcut
          obtain ⟨w9, hw9⟩ : ∃ W, W = wc := ⟨_, rfl⟩
          subst hw9
          have HBn := Lib.hid (HBx.out.trans (HC.out.mono HBx.out.size))
          clear HC HKS HBx
          obtain ⟨a0, a1, a2, p0, p1, p2⟩ := HK.out w9 (HBw.out w9 HBn.out)
          have hr9 := HW3r.out w9 HBn.out
          have z0 : w9.cell? ⟨B1, 0, none⟩ = some (.slice none 0 0) := hr9.cell (by omega)
          have f0 := hr9.frozen 0
          have z1 : w9.cell? ⟨B1, 1, none⟩ = some (.slice none 0 0) := hr9.cell (by omega)
          have f1 := hr9.frozen 1
          have z2 : w9.cell? ⟨B1, 2, none⟩ = some (.slice none 0 0) := hr9.cell (by omega)
          have f2 := hr9.frozen 2
          have HR9 := Lib.hid hr9
          clear hr9
          go_wp2_with fail
          (try simp only [Exit.inBlock, Exit.then])
          have key : ∀ (R : Ending → World → Prop) (a : Act) (W' : World), a.tmps[4]?.getD undef = .pointer (some ⟨B1, 0, none⟩) → a.tmps[5]?.getD undef = .int .i64 290 → a.defers = [] → W' = (((w9.setCell ⟨B1, 0, none⟩ (.slice none 0 0)).setCell ⟨B1, 1, none⟩ (.slice none 0 0)).setCell ⟨B1, 2, none⟩ (.slice none 0 0)) ∨ W' = (((w9.setCell ⟨B1, 0, none⟩ (.slice none 0 0)).setCell ⟨B1, 1, none⟩ (.slice none 0 0)).setCell ⟨B1, 2, none⟩ (.slice none 0 0)).drew → R (.returned (.tuple #[.agg #[.slice none 0 0, .slice none 0 0, .slice none 0 0], .int .i64 290])) W' → bodyPost Try.prog Try.f18 R .ret a W' := fun R a W' q1 q2 q3 q4 q5 => @first_end Try.f18 f18_results R a w9 B1 _ (.slice none 0 0) (.slice none 0 0) (.slice none 0 0) 290 W' HR9.out q1 q2 q3 q4 q5
          refine key _ _ _ ?h6a18 ?h8a18 ?hda18 ?hWa18 ?hRa18
          case h6a18 => rfl
          case h8a18 => rfl
          case hda18 => rfl
          case hWa18 => first | exact Or.inl rfl | exact Or.inr rfl
          have hg := grown_put3 (b := B1) (v0 := .slice none 0 0) (v1 := .slice none 0 0) (v2 := .slice none 0 0) (World.grownBy.refl w9 (some B1))
          exact HOn.out HEr.out (by decide) (below_grown (HXW.out _ (HBw.out _ HBn.out)) hg (by have := HSz.out; omega) (HXW.out _ (HBw.out _ HBn.out)).size)
    · have d1' : decide ((m1 : Int) > t) = true := by rw [decide_eq_true_eq]; omega
      have HEr := Lib.hid (HE1b.out (fun e => h1 e.1))
      clear h1 hfw
      go_cut [30] from 14 to 30 (fun r wx => r = .bool true ∧ Hid (Below w2.heap.size w2 wx))
      case first =>
        refine wp_region_held_drew (S := fun w' => w'.cell? ⟨H, 0, none⟩ = some (.int .i64 aw) ∧ w'.cell? ⟨H, 1, none⟩ = some (.int .i64 ah) ∧ w'.cell? ⟨H, 2, none⟩ = some (.int .i64 at_) ∧ w'.cell? ⟨H1, 0, none⟩ = some (.int .i64 pi) ∧ w'.cell? ⟨H1, 1, none⟩ = some (.slice pa m1 pc) ∧ w'.cell? ⟨H1, 2, none⟩ = some (.slice qa m3 qc)) (by kernel_rfl) (HKS.out _ (Below.refl _ _).drew) (fun hHeld => ?_)
        obtain ⟨v7, hv7⟩ : ∃ W, W = w2.drew := ⟨_, rfl⟩
        have hb7 : Below w2.heap.size w2 v7 := by rw [hv7]; exact (Below.refl _ _).drew
        rw [← hv7] at hHeld ⊢
        have HBv7 := Lib.hid hb7
        clear hb7 hv7
        refine wpAnyH_take (i := 0) (v := ?_) (by simp only [List.getElem?_toArray, List.getElem?_cons_succ, List.getElem?_cons_zero]; rfl) (by kernel_rfl) (by kernel_rfl) (by kernel_rfl) (by intro _ _ _ h; exact h) (Or.inl ⟨by rfl, ?_⟩) (by assumption) ?_
        rotate_left
        · intro w hSw; (try dsimp only at hSw); go_simp; try with_reducible rfl
        try simp only [Act.put, List.setIfInBounds_toArray, List.set_cons_zero, List.set_cons_succ]
        refine wpAnyH_take (i := 1) (v := ?_) (by simp only [List.getElem?_toArray, List.getElem?_cons_succ, List.getElem?_cons_zero]; rfl) (by kernel_rfl) (by kernel_rfl) (by kernel_rfl) (by intro _ _ _ h; exact h) (Or.inl ⟨by rfl, ?_⟩) (by assumption) ?_
        rotate_left
        · intro w hSw; (try dsimp only at hSw); go_simp; try with_reducible rfl
        try simp only [Act.put, List.setIfInBounds_toArray, List.set_cons_zero, List.set_cons_succ]
        refine wpAnyH_take (i := 2) (v := ?_) (by simp only [List.getElem?_toArray, List.getElem?_cons_succ, List.getElem?_cons_zero]; rfl) (by kernel_rfl) (by kernel_rfl) (by kernel_rfl) (by intro _ _ _ h; exact h) (Or.inl ⟨by rfl, ?_⟩) (by assumption) ?_
        rotate_left
        · intro w hSw; (try dsimp only at hSw); go_simp; try with_reducible rfl
        try simp only [Act.put, List.setIfInBounds_toArray, List.set_cons_zero, List.set_cons_succ]
        refine wpAnyH_take (i := 3) (v := ?_) (by simp only [List.getElem?_toArray, List.getElem?_cons_succ, List.getElem?_cons_zero]; rfl) (by kernel_rfl) (by kernel_rfl) (by kernel_rfl) (by intro _ _ _ h; exact h) (Or.inl ⟨by rfl, ?_⟩) (by assumption) ?_
        rotate_left
        · intro w hSw; (try dsimp only at hSw); go_simp; try with_reducible rfl
        try simp only [Act.put, List.setIfInBounds_toArray, List.set_cons_zero, List.set_cons_succ]
        refine wpAnyH_ready (rs := [4]) (by kernel_rfl) (by simp) ?_
        refine AllReadyH.cons (o := _) (by simp only [List.getElem?_toArray, List.getElem?_cons_succ, List.getElem?_cons_zero]; rfl) (fun K hK => ?_) AllReadyH.nil
        go_simp
        go_at_call 36
        refine Calls.mono (C36.out v7) ?_
        rintro e v8 ⟨rfl, hb8⟩
        have HBv8 := Lib.hid ((HBv7.out).trans (hb8.mono (HBv7.out).size))
        clear hb8
        go_simp
        refine hK.out _ _ (by exact HKS.out _ HBv8.out) (fun hHeld => ?_)
        clear hK K
        try simp only [Act.put, List.setIfInBounds_toArray, List.set_cons_zero, List.set_cons_succ]
        refine wpAnyH_take (i := 5) (v := ?_) (by simp only [List.getElem?_toArray, List.getElem?_cons_succ, List.getElem?_cons_zero]; rfl) (by kernel_rfl) (by kernel_rfl) (by kernel_rfl) (by intro _ _ _ h; exact h) (Or.inl ⟨by rfl, ?_⟩) (by assumption) ?_
        rotate_left
        · intro w hSw; (try dsimp only at hSw); go_simp; first | rw [d1'] | with_reducible rfl
        try simp only [Act.put, List.setIfInBounds_toArray, List.set_cons_zero, List.set_cons_succ]
        refine wpAnyH_take (i := 6) (v := ?_) (by simp only [List.getElem?_toArray, List.getElem?_cons_succ, List.getElem?_cons_zero]; rfl) (by kernel_rfl) (by kernel_rfl) (by kernel_rfl) (by intro _ _ _ h; exact h) (Or.inl ⟨by rfl, ?_⟩) (by assumption) ?_
        rotate_left
        · intro w hSw; (try dsimp only at hSw); go_simp; try with_reducible rfl
        try simp only [Act.put, List.setIfInBounds_toArray, List.set_cons_zero, List.set_cons_succ]
        refine wpAnyH_take (i := 7) (v := undef) (by simp only [List.getElem?_toArray, List.getElem?_cons_succ, List.getElem?_cons_zero]; rfl) (by kernel_rfl) (by kernel_rfl) (by kernel_rfl) (by intro _ _ _ h; exact h) (Or.inr ⟨by rfl, rfl⟩) (by assumption) ?_
        try simp only [Act.put, List.setIfInBounds_toArray, List.set_cons_zero, List.set_cons_succ]
        refine wpAnyH_take (i := 8) (v := undef) (by simp only [List.getElem?_toArray, List.getElem?_cons_succ, List.getElem?_cons_zero]; rfl) (by kernel_rfl) (by kernel_rfl) (by kernel_rfl) (by intro _ _ _ h; exact h) (Or.inr ⟨by rfl, rfl⟩) (by assumption) ?_
        try simp only [Act.put, List.setIfInBounds_toArray, List.set_cons_zero, List.set_cons_succ]
        refine wpAnyH_take (i := 9) (v := undef) (by simp only [List.getElem?_toArray, List.getElem?_cons_succ, List.getElem?_cons_zero]; rfl) (by kernel_rfl) (by kernel_rfl) (by kernel_rfl) (by intro _ _ _ h; exact h) (Or.inr ⟨by rfl, rfl⟩) (by assumption) ?_
        try simp only [Act.put, List.setIfInBounds_toArray, List.set_cons_zero, List.set_cons_succ]
        refine wpAnyH_take (i := 10) (v := undef) (by simp only [List.getElem?_toArray, List.getElem?_cons_succ, List.getElem?_cons_zero]; rfl) (by kernel_rfl) (by kernel_rfl) (by kernel_rfl) (by intro _ _ _ h; exact h) (Or.inr ⟨by rfl, rfl⟩) (by assumption) ?_
        try simp only [Act.put, List.setIfInBounds_toArray, List.set_cons_zero, List.set_cons_succ]
        refine wpAnyH_take (i := 11) (v := undef) (by simp only [List.getElem?_toArray, List.getElem?_cons_succ, List.getElem?_cons_zero]; rfl) (by kernel_rfl) (by kernel_rfl) (by kernel_rfl) (by intro _ _ _ h; exact h) (Or.inr ⟨by rfl, rfl⟩) (by assumption) ?_
        try simp only [Act.put, List.setIfInBounds_toArray, List.set_cons_zero, List.set_cons_succ]
        refine wpAnyH_take (i := 12) (v := undef) (by simp only [List.getElem?_toArray, List.getElem?_cons_succ, List.getElem?_cons_zero]; rfl) (by kernel_rfl) (by kernel_rfl) (by kernel_rfl) (by intro _ _ _ h; exact h) (Or.inr ⟨by rfl, rfl⟩) (by assumption) ?_
        try simp only [Act.put, List.setIfInBounds_toArray, List.set_cons_zero, List.set_cons_succ]
        refine wpAnyH_take (i := 13) (v := undef) (by simp only [List.getElem?_toArray, List.getElem?_cons_succ, List.getElem?_cons_zero]; rfl) (by kernel_rfl) (by kernel_rfl) (by kernel_rfl) (by intro _ _ _ h; exact h) (Or.inr ⟨by rfl, rfl⟩) (by assumption) ?_
        try simp only [Act.put, List.setIfInBounds_toArray, List.set_cons_zero, List.set_cons_succ]
        refine wpAnyH_take (i := 14) (v := undef) (by simp only [List.getElem?_toArray, List.getElem?_cons_succ, List.getElem?_cons_zero]; rfl) (by kernel_rfl) (by kernel_rfl) (by kernel_rfl) (by intro _ _ _ h; exact h) (Or.inr ⟨by rfl, rfl⟩) (by assumption) ?_
        try simp only [Act.put, List.setIfInBounds_toArray, List.set_cons_zero, List.set_cons_succ]
        refine wpAnyH_take (i := 15) (v := undef) (by simp only [List.getElem?_toArray, List.getElem?_cons_succ, List.getElem?_cons_zero]; rfl) (by kernel_rfl) (by kernel_rfl) (by kernel_rfl) (by intro _ _ _ h; exact h) (Or.inr ⟨by rfl, rfl⟩) (by assumption) ?_
        try simp only [Act.put, List.setIfInBounds_toArray, List.set_cons_zero, List.set_cons_succ]
        refine wpAnyH_take (i := 16) (v := ?_) (by simp only [List.getElem?_toArray, List.getElem?_cons_succ, List.getElem?_cons_zero]; rfl) (by kernel_rfl) (by kernel_rfl) (by kernel_rfl) (by intro _ _ _ h; exact h) (Or.inl ⟨by rfl, ?_⟩) (by assumption) ?_
        rotate_left
        · intro w hSw; (try dsimp only at hSw); go_simp; try with_reducible rfl
        try simp only [Act.put, List.setIfInBounds_toArray, List.set_cons_zero, List.set_cons_succ]
        refine wpAnyH_done (by kernel_rfl) ?_ _
        go_wp2_with fail
        go_meet
        exact ⟨rfl, Lib.hid (HBv8.out)⟩
      case rest =>
        obtain ⟨rfl, HC⟩ := hcut
        obtain ⟨w9, hw9⟩ : ∃ W, W = wc := ⟨_, rfl⟩
        subst hw9
        have HBn := Lib.hid (HBx.out.trans (HC.out.mono HBx.out.size))
        clear HC HKS HBx
        obtain ⟨a0, a1, a2, p0, p1, p2⟩ := HK.out w9 (HBw.out w9 HBn.out)
        have hr9 := HW3r.out w9 HBn.out
        have z0 : w9.cell? ⟨B1, 0, none⟩ = some (.slice none 0 0) := hr9.cell (by omega)
        have f0 := hr9.frozen 0
        have z1 : w9.cell? ⟨B1, 1, none⟩ = some (.slice none 0 0) := hr9.cell (by omega)
        have f1 := hr9.frozen 1
        have z2 : w9.cell? ⟨B1, 2, none⟩ = some (.slice none 0 0) := hr9.cell (by omega)
        have f2 := hr9.frozen 2
        have HR9 := Lib.hid hr9
        clear hr9
        go_wp2_with fail
        (try simp only [Exit.inBlock, Exit.then])
        have key : ∀ (R : Ending → World → Prop) (a : Act) (W' : World), a.tmps[4]?.getD undef = .pointer (some ⟨B1, 0, none⟩) → a.tmps[5]?.getD undef = .int .i64 290 → a.defers = [] → W' = (((w9.setCell ⟨B1, 0, none⟩ (.slice none 0 0)).setCell ⟨B1, 1, none⟩ (.slice none 0 0)).setCell ⟨B1, 2, none⟩ (.slice none 0 0)) ∨ W' = (((w9.setCell ⟨B1, 0, none⟩ (.slice none 0 0)).setCell ⟨B1, 1, none⟩ (.slice none 0 0)).setCell ⟨B1, 2, none⟩ (.slice none 0 0)).drew → R (.returned (.tuple #[.agg #[.slice none 0 0, .slice none 0 0, .slice none 0 0], .int .i64 290])) W' → bodyPost Try.prog Try.f18 R .ret a W' := fun R a W' q1 q2 q3 q4 q5 => @first_end Try.f18 f18_results R a w9 B1 _ (.slice none 0 0) (.slice none 0 0) (.slice none 0 0) 290 W' HR9.out q1 q2 q3 q4 q5
        refine key _ _ _ ?h6b18 ?h8b18 ?hdb18 ?hWb18 ?hRb18
        case h6b18 => rfl
        case h8b18 => rfl
        case hdb18 => rfl
        case hWb18 => first | exact Or.inl rfl | exact Or.inr rfl
        have hg := grown_put3 (b := B1) (v0 := .slice none 0 0) (v1 := .slice none 0 0) (v2 := .slice none 0 0) (World.grownBy.refl w9 (some B1))
        exact HOn.out HEr.out (by decide) (below_grown (HXW.out _ (HBw.out _ HBn.out)) hg (by have := HSz.out; omega) (HXW.out _ (HBw.out _ HBn.out)).size)
  · have hFb : (F == 0) = false := by simpa using hF
    have hFb2 : (F != 0) = true := by simpa using hF
    have HEr := Lib.hid (HE2.out hF)
    have HF0 := Lib.hid hF
    clear hF
    have hr9 := HW3r.out w2 HBx.out
    have z0 : w2.cell? ⟨B1, 0, none⟩ = some (.slice none 0 0) := hr9.cell (by omega)
    have f0 := hr9.frozen 0
    have z1 : w2.cell? ⟨B1, 1, none⟩ = some (.slice none 0 0) := hr9.cell (by omega)
    have f1 := hr9.frozen 1
    have z2 : w2.cell? ⟨B1, 2, none⟩ = some (.slice none 0 0) := hr9.cell (by omega)
    have f2 := hr9.frozen 2
    have HR9 := Lib.hid hr9
    clear hr9
    go_wp2_with fail
    (try simp only [Exit.inBlock, Exit.then])
    have key : ∀ (R : Ending → World → Prop) (a : Act) (W' : World), a.tmps[4]?.getD undef = .pointer (some ⟨B1, 0, none⟩) → a.tmps[5]?.getD undef = .int .i64 F → a.defers = [] → W' = (((w2.setCell ⟨B1, 0, none⟩ (.slice none 0 0)).setCell ⟨B1, 1, none⟩ (.slice none 0 0)).setCell ⟨B1, 2, none⟩ (.slice none 0 0)) ∨ W' = (((w2.setCell ⟨B1, 0, none⟩ (.slice none 0 0)).setCell ⟨B1, 1, none⟩ (.slice none 0 0)).setCell ⟨B1, 2, none⟩ (.slice none 0 0)).drew → R (.returned (.tuple #[.agg #[.slice none 0 0, .slice none 0 0, .slice none 0 0], .int .i64 F])) W' → bodyPost Try.prog Try.f18 R .ret a W' := fun R a W' q1 q2 q3 q4 q5 => @first_end Try.f18 f18_results R a w2 B1 _ (.slice none 0 0) (.slice none 0 0) (.slice none 0 0) F W' HR9.out q1 q2 q3 q4 q5
    refine key _ _ _ ?h6n18 ?h8n18 ?hdn18 ?hWn18 ?hRn18
    case h6n18 => rfl
    case h8n18 => rfl
    case hdn18 => rfl
    case hWn18 => first | exact Or.inl rfl | exact Or.inr rfl
    have hg := grown_put3 (b := B1) (v0 := .slice none 0 0) (v1 := .slice none 0 0) (v2 := .slice none 0 0) (World.grownBy.refl w2 (some B1))
    exact HOn.out HEr.out HF0.out (below_grown (HXW.out _ (HBw.out _ HBx.out)) hg (by have := HSz.out; omega) (HXW.out _ (HBw.out _ HBx.out)).size)
end Go.Proofs.Ytholafodachjnaa
