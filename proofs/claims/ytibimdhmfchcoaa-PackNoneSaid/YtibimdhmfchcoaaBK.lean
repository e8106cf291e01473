import Derived.Test.YtibimdhmfchcoaaO7
import Derived.Test.YtibimdhmfchcoaaBA
import Derived.Test.YtibimdhmfchcoaaO8
/- K1 -/
namespace Go.Proofs.Ytibimdhmfchcoaa
open Go.RowKit Go.Shelf Go.Maps
set_option linter.unusedVariables false
set_option linter.unusedSimpArgs false

theorem orderT_len (D : PackD) : (orderT D).length ≤ D.n := by
  unfold orderT
  split
  · rw [List.length_map]; exact (orderL_told D).lenN
  · simp
set_option maxRecDepth 100000 in
set_option maxHeartbeats 8000000 in
theorem packLooks (w : World) (P : PackV) (h : PackAt w P) :
    Calls Try.prog 8 #[P.val] w fun e w' => e = .returned (.bool true) ∧ Below w.heap.size w w' := by
  have HX := Lib.hid (PBox.start w P)
  have H := Lib.hid h
  clear h
  obtain ⟨fb, hfb⟩ : ∃ b, b = fewPB P := ⟨_, rfl⟩
  have HFb := Lib.hid hfb
  clear hfb
  go_enter Try.func8, Try.ntmps8
  go_wp2_with fail
  refine (live14 _).mono ?_
  rintro e w1 ⟨rfl, hb1⟩
  have hx1 := HX.out.step hb1 (by simp)
  have HX1 := Lib.hid hx1
  have k0 := hx1.c0
  have k1 := hx1.c1
  have k2 := hx1.c2
  clear hb1 hx1
  go_wp2_with fail
  refine (few28 w1 P (H.out.below HX1.out.below (Nat.le_refl _))).mono ?_
  rintro e w2 ⟨rfl, hb2⟩
  rw [← HFb.out]
  have hx2 := HX1.out.step hb2 HX1.out.size
  have HX2 := Lib.hid hx2
  have m0 := hx2.c0
  have m1 := hx2.c1
  have m2 := hx2.c2
  clear hb2 hx2
  cases fb
  · go_wp2_with fail
    go_ret
    exact ⟨rfl, HX2.out.below⟩
  · have HF := Lib.hid ((fewPB_iff P).1 HFb.out.symm)
    have HT150 := orderT_len P.data
    rw [data_n] at HT150
    have hbs := HF.out.bs
    obtain ⟨E, hE⟩ : ∃ E, E = orderE P.data := ⟨_, rfl⟩
    obtain ⟨T, hT⟩ : ∃ T, T = orderT P.data := ⟨_, rfl⟩
    have HE := Lib.hid hE
    have HT := Lib.hid hT
    rw [← hT] at HT150
    clear hE hT
    go_wp2_with fail
    refine Calls.mono (order29 w2 P (H.out.below HX2.out.below (Nat.le_refl _)) HF.out) ?_
    rintro e w3 ⟨a1, c1, rfl, ho3, hb3⟩
    rw [← HT.out] at ho3
    rw [← HT.out, ← HE.out]
    have hx3 := HX2.out.step hb3 HX2.out.size
    have HX3 := Lib.hid hx3
    have n0 := hx3.c0
    have n1 := hx3.c1
    have n2 := hx3.c2
    obtain ⟨a9, c9, hv9, hs9, _, _⟩ := owns_seq ho3
    injection hv9 with hv1 hv2 hv3
    rw [← hv1] at hs9
    have HS3 := Lib.hid hs9
    clear hb3 hx3 ho3 hs9 hv1 hv2 hv3 k0 k1 k2 m0 m1 m2
    go_wp2_with fail
    refine Calls.mono (order31 w3 P (H.out.below HX3.out.below (Nat.le_refl _)) HF.out) ?_
    rintro e w5 ⟨a2, c2, rfl, ho5, hb5⟩
    rw [← HT.out] at ho5
    rw [← HT.out, ← HE.out]
    have hx5 := HX3.out.step hb5 HX3.out.size
    have HX5 := Lib.hid hx5
    obtain ⟨a8, c8, hv8, hs8, _, _⟩ := owns_seq ho5
    injection hv8 with hv1 hv2 hv3
    rw [← hv1] at hs8
    have HS1 := Lib.hid ((HS3.out.below hb5 (Nat.le_refl _)).below (w' := w5.drew) ((Below.refl _ _).drew) (Nat.le_refl _))
    have HS2 := Lib.hid (hs8.below (w' := w5.drew) ((Below.refl _ _).drew) (Nat.le_refl _))
    clear hb5 hx5 ho5 hs8 hv1 hv2 hv3 n0 n1 n2
    go_wp2_with fail
    refine wp_region_held_drew (S := fun w' => w'.cell? ⟨w.heap.size, 0, none⟩ = some (.int .i64 P.ins) ∧ w'.cell? ⟨w.heap.size, 1, none⟩ = some (.slice P.ba P.bs.length P.bc) ∧ w'.cell? ⟨w.heap.size, 2, none⟩ = some (.slice P.oa P.os.length P.oc)) (by kernel_rfl) (⟨HX5.out.c0, HX5.out.c1, HX5.out.c2⟩) (fun hHeld => ?_)
    refine wpAnyH_take (i := 0) (v := ?_) (by simp only [List.getElem?_toArray, List.getElem?_cons_succ, List.getElem?_cons_zero]; rfl) (by kernel_rfl) (by kernel_rfl) (by kernel_rfl) (by intro _ _ _ h; exact h) (Or.inl ⟨by rfl, ?_⟩) (by assumption) ?_
    rotate_left
    · intro w hSw; (try dsimp only at hSw); go_simp; try with_reducible rfl
    try simp only [Act.put, List.setIfInBounds_toArray, List.set_cons_zero, List.set_cons_succ]
    refine wpAnyH_take (i := 1) (v := ?_) (by simp only [List.getElem?_toArray, List.getElem?_cons_succ, List.getElem?_cons_zero]; rfl) (by kernel_rfl) (by kernel_rfl) (by kernel_rfl) (by intro _ _ _ h; exact h) (Or.inl ⟨by rfl, ?_⟩) (by assumption) ?_
    rotate_left
    · intro w hSw; (try dsimp only at hSw); go_simp; try with_reducible rfl
    try simp only [Act.put, List.setIfInBounds_toArray, List.set_cons_zero, List.set_cons_succ]
    refine wpAnyH_ready (rs := [2]) (by kernel_rfl) (by simp) ?_
    refine AllReadyH.cons (o := _) (by simp only [List.getElem?_toArray, List.getElem?_cons_succ, List.getElem?_cons_zero]; rfl) (fun K hK => ?_) AllReadyH.nil
    go_simp
    go_at_call 32
    refine Calls.mono (sameInts w5.drew a1 a2 T.length c1 T.length c2 T T rfl rfl (by omega) (by omega) HS1.out HS2.out) ?_
    rintro e w6 ⟨rfl, hb6⟩
    rw [show decide (T = T) = true by simp]
    have hx6 := HX5.out.step (C := w5.heap.size) ((Below.refl _ _).drew.trans hb6) HX5.out.size
    have HX6 := Lib.hid hx6
    clear hb6 hx6
    go_simp
    refine hK.out _ _ (by exact ⟨HX6.out.c0, HX6.out.c1, HX6.out.c2⟩) (fun hHeld => ?_)
    clear hK K
    try simp only [Act.put, List.setIfInBounds_toArray, List.set_cons_zero, List.set_cons_succ]
    refine wpAnyH_take (i := 3) (v := ?_) (by simp only [List.getElem?_toArray, List.getElem?_cons_succ, List.getElem?_cons_zero]; rfl) (by kernel_rfl) (by kernel_rfl) (by kernel_rfl) (by intro _ _ _ h; exact h) (Or.inl ⟨by rfl, ?_⟩) (by assumption) ?_
    rotate_left
    · intro w hSw; (try dsimp only at hSw); go_simp; try with_reducible rfl
    try simp only [Act.put, List.setIfInBounds_toArray, List.set_cons_zero, List.set_cons_succ]
    refine wpAnyH_take (i := 4) (v := ?_) (by simp only [List.getElem?_toArray, List.getElem?_cons_succ, List.getElem?_cons_zero]; rfl) (by kernel_rfl) (by kernel_rfl) (by kernel_rfl) (by intro _ _ _ h; exact h) (Or.inl ⟨by rfl, ?_⟩) (by assumption) ?_
    rotate_left
    · intro w hSw; (try dsimp only at hSw); go_simp; try with_reducible rfl
    try simp only [Act.put, List.setIfInBounds_toArray, List.set_cons_zero, List.set_cons_succ]
    refine wpAnyH_take (i := 5) (v := ?_) (by simp only [List.getElem?_toArray, List.getElem?_cons_succ, List.getElem?_cons_zero]; rfl) (by kernel_rfl) (by kernel_rfl) (by kernel_rfl) (by intro _ _ _ h; exact h) (Or.inl ⟨by rfl, ?_⟩) (by assumption) ?_
    rotate_left
    · intro w hSw; (try dsimp only at hSw); go_simp; try with_reducible rfl
    try simp only [Act.put, List.setIfInBounds_toArray, List.set_cons_zero, List.set_cons_succ]
    refine wpAnyH_take (i := 6) (v := ?_) (by simp only [List.getElem?_toArray, List.getElem?_cons_succ, List.getElem?_cons_zero]; rfl) (by kernel_rfl) (by kernel_rfl) (by kernel_rfl) (by intro _ _ _ h; exact h) (Or.inl ⟨by rfl, ?_⟩) (by assumption) ?_
    rotate_left
    · intro w hSw; (try dsimp only at hSw); go_simp; try with_reducible rfl
    try simp only [Act.put, List.setIfInBounds_toArray, List.set_cons_zero, List.set_cons_succ]
    refine wpAnyH_take (i := 7) (v := ?_) (by simp only [List.getElem?_toArray, List.getElem?_cons_succ, List.getElem?_cons_zero]; rfl) (by kernel_rfl) (by kernel_rfl) (by kernel_rfl) (by intro _ _ _ h; exact h) (Or.inl ⟨by rfl, ?_⟩) (by assumption) ?_
    rotate_left
    · intro w hSw; (try dsimp only at hSw); go_simp; try with_reducible rfl
    try simp only [Act.put, List.setIfInBounds_toArray, List.set_cons_zero, List.set_cons_succ]
    refine wpAnyH_take (i := 8) (v := ?_) (by simp only [List.getElem?_toArray, List.getElem?_cons_succ, List.getElem?_cons_zero]; rfl) (by kernel_rfl) (by kernel_rfl) (by kernel_rfl) (by intro _ _ _ h; exact h) (Or.inl ⟨by rfl, ?_⟩) (by assumption) ?_
    rotate_left
    · intro w hSw; (try dsimp only at hSw); go_simp; try with_reducible rfl
    try simp only [Act.put, List.setIfInBounds_toArray, List.set_cons_zero, List.set_cons_succ]
    refine wpAnyH_take (i := 9) (v := ?_) (by simp only [List.getElem?_toArray, List.getElem?_cons_succ, List.getElem?_cons_zero]; rfl) (by kernel_rfl) (by kernel_rfl) (by kernel_rfl) (by intro _ _ _ h; exact h) (Or.inl ⟨by rfl, ?_⟩) (by assumption) ?_
    rotate_left
    · intro w hSw; (try dsimp only at hSw); go_simp; try with_reducible rfl
    try simp only [Act.put, List.setIfInBounds_toArray, List.set_cons_zero, List.set_cons_succ]
    refine wpAnyH_take (i := 11) (v := ?_) (by simp only [List.getElem?_toArray, List.getElem?_cons_succ, List.getElem?_cons_zero]; rfl) (by kernel_rfl) (by kernel_rfl) (by kernel_rfl) (by intro _ _ _ h; exact h) (Or.inl ⟨by rfl, ?_⟩) (by assumption) ?_
    rotate_left
    · intro w hSw; (try dsimp only at hSw); go_simp; try with_reducible rfl
    try simp only [Act.put, List.setIfInBounds_toArray, List.set_cons_zero, List.set_cons_succ]
    refine wpAnyH_ready (rs := [10]) (by kernel_rfl) (by simp) ?_
    refine AllReadyH.cons (o := _) (by simp only [List.getElem?_toArray, List.getElem?_cons_succ, List.getElem?_cons_zero]; rfl) (fun K hK => ?_) AllReadyH.nil
    go_simp
    go_at_call 33
    refine Calls.mono (check33 w6 P (H.out.below HX6.out.below (Nat.le_refl _)) HF.out) ?_
    rintro e w7 ⟨rfl, hb7⟩
    rw [← HE.out]
    have hx7 := HX6.out.step hb7 HX6.out.size
    have HX7 := Lib.hid hx7
    clear hb7 hx7
    go_simp
    refine hK.out _ _ (by exact ⟨HX7.out.c0, HX7.out.c1, HX7.out.c2⟩) (fun hHeld => ?_)
    clear hK K
    try simp only [Act.put, List.setIfInBounds_toArray, List.set_cons_zero, List.set_cons_succ]
    refine wpAnyH_ready (rs := [12]) (by kernel_rfl) (by simp) ?_
    refine AllReadyH.cons (o := _) (by simp only [List.getElem?_toArray, List.getElem?_cons_succ, List.getElem?_cons_zero]; rfl) (fun K hK => ?_) AllReadyH.nil
    go_simp
    go_at_call 34
    refine Calls.mono (check34 w7 P (H.out.below HX7.out.below (Nat.le_refl _)) HF.out) ?_
    rintro e w8 ⟨rfl, hb8⟩
    rw [← HE.out]
    have hx8 := HX7.out.step hb8 HX7.out.size
    have HX8 := Lib.hid hx8
    clear hb8 hx8
    go_simp
    refine hK.out _ _ (by exact ⟨HX8.out.c0, HX8.out.c1, HX8.out.c2⟩) (fun hHeld => ?_)
    clear hK K
    try simp only [Act.put, List.setIfInBounds_toArray, List.set_cons_zero, List.set_cons_succ]
    refine wpAnyH_take (i := 13) (v := ?_) (by simp only [List.getElem?_toArray, List.getElem?_cons_succ, List.getElem?_cons_zero]; rfl) (by kernel_rfl) (by kernel_rfl) (by kernel_rfl) (by intro _ _ _ h; exact h) (Or.inl ⟨by rfl, ?_⟩) (by assumption) ?_
    rotate_left
    · intro w hSw; (try dsimp only at hSw); go_simp; try with_reducible rfl
    try simp only [Act.put, List.setIfInBounds_toArray, List.set_cons_zero, List.set_cons_succ]
    refine wpAnyH_take (i := 14) (v := ?_) (by simp only [List.getElem?_toArray, List.getElem?_cons_succ, List.getElem?_cons_zero]; rfl) (by kernel_rfl) (by kernel_rfl) (by kernel_rfl) (by intro _ _ _ h; exact h) (Or.inl ⟨by rfl, ?_⟩) (by assumption) ?_
    rotate_left
    · intro w hSw; (try dsimp only at hSw); go_simp; try with_reducible rfl
    try simp only [Act.put, List.setIfInBounds_toArray, List.set_cons_zero, List.set_cons_succ]
    refine wpAnyH_take (i := 15) (v := ?_) (by simp only [List.getElem?_toArray, List.getElem?_cons_succ, List.getElem?_cons_zero]; rfl) (by kernel_rfl) (by kernel_rfl) (by kernel_rfl) (by intro _ _ _ h; exact h) (Or.inl ⟨by rfl, ?_⟩) (by assumption) ?_
    rotate_left
    · intro w hSw; (try dsimp only at hSw); go_simp; try with_reducible rfl
    try simp only [Act.put, List.setIfInBounds_toArray, List.set_cons_zero, List.set_cons_succ]
    refine wpAnyH_done (by kernel_rfl) ?_ _
    go_wp2
    go_ret
    exact ⟨by simp, HX8.out.below⟩

end Go.Proofs.Ytibimdhmfchcoaa

/- K2 -/
namespace Go.Proofs.Ytibimdhmfchcoaa
open Go.RowKit Go.Shelf Go.Maps
set_option linter.unusedVariables false
set_option linter.unusedSimpArgs false

theorem may_parts {P : PackV} (hmm : mayB P.data = true) : 0 ≤ P.ins ∧ ∀ b ∈ P.bs, b.ins.length ≤ 4 := by
  unfold mayB at hmm
  simp only [Bool.and_eq_true, decide_eq_true_eq] at hmm
  refine ⟨hmm.1.1.1, fun b hb => ?_⟩
  obtain ⟨i, hi, rfl⟩ := List.getElem_of_mem hb
  have := (blk_all P.data _).1 hmm.2.1 i (by rw [data_n]; exact hi)
  rw [data_blk, data_n] at this
  unfold blkB at this
  simp only [Bool.and_eq_true, decide_eq_true_eq] at this
  have h4 := this.1.1.1
  rwa [List.getD_eq_getElem?_getD, List.getElem?_eq_getElem hi] at h4
set_option maxRecDepth 100000 in
set_option maxHeartbeats 16000000 in
theorem packOrder (w : World) (P : PackV) (hP : PackAt w P) :
    Calls Try.prog 7 #[P.val] w fun e w' => e = .returned (.bool true) ∧ Below w.heap.size w w' := by
  have HX := Lib.hid (PBox.start w P)
  have H := Lib.hid hP
  clear hP
  obtain ⟨fb, hfb⟩ : ∃ b, b = fewPB P := ⟨_, rfl⟩
  have HFb := Lib.hid hfb
  clear hfb
  go_enter Try.func7, Try.ntmps7
  go_wp2_with fail
  refine (live14 _).mono ?_
  rintro e w1 ⟨rfl, hb1⟩
  have hx1 := HX.out.step hb1 (by simp)
  have HX1 := Lib.hid hx1
  have k0 := hx1.c0
  have k1 := hx1.c1
  have k2 := hx1.c2
  clear hb1 hx1
  go_wp2_with fail
  refine (few28 w1 P (H.out.below HX1.out.below (Nat.le_refl _))).mono ?_
  rintro e w2 ⟨rfl, hb2⟩
  rw [← HFb.out]
  have hx2 := HX1.out.step hb2 HX1.out.size
  have HX2 := Lib.hid hx2
  have m0 := hx2.c0
  have m1 := hx2.c1
  have m2 := hx2.c2
  clear hb2 hx2
  cases fb
  · go_wp2_with fail
    go_ret
    exact ⟨rfl, HX2.out.below⟩
  · have HF := Lib.hid ((fewPB_iff P).1 HFb.out.symm)
    have HT150 := orderT_len P.data
    rw [data_n] at HT150
    have hbs := HF.out.bs
    have hDn := data_n P
    have hDk := data_blk P
    have hmp := may_parts (P := P)
    have hE0 : orderE P.data = 0 → mayB P.data = true ∧ nowTo P.data P.data.n ≤ (orderL P.data).length ∧ orderT P.data = (orderL P.data).map Int.ofNat := by
      intro he
      have ht : orderT P.data = (orderL P.data).map Int.ofNat := by unfold orderT; rw [if_pos he]
      unfold orderE at he
      split at he
      · split at he
        · cases he
        · exact ⟨by assumption, by omega, ht⟩
      · cases he
    have hE1 : orderE P.data ≠ 0 → orderT P.data = [] ∧ (orderE P.data = 1 ∨ orderE P.data = 321) := by
      intro he
      refine ⟨by unfold orderT; rw [if_neg he], ?_⟩
      unfold orderE at he ⊢
      split
      · split
        · exact .inr rfl
        · rename_i h1 h2; rw [if_pos h1, if_neg h2] at he; exact absurd rfl he
      · exact .inl rfl
    obtain ⟨D, hD⟩ : ∃ D, D = P.data := ⟨_, rfl⟩
    have HD := Lib.hid hD
    rw [← hD] at HT150 hDn hDk hmp hE0 hE1
    obtain ⟨E, hE⟩ : ∃ E, E = orderE D := ⟨_, rfl⟩
    obtain ⟨T, hT⟩ : ∃ T, T = orderT D := ⟨_, rfl⟩
    rw [← hE, ← hT] at hE0 hE1
    rw [← hT] at HT150
    have HE := Lib.hid hE
    have HT := Lib.hid hT
    have HE0 := Lib.hid hE0
    have HE1 := Lib.hid hE1
    have HDn := Lib.hid hDn
    have HDk := Lib.hid hDk
    have HMp := Lib.hid hmp
    clear hE hT hD hE0 hE1 hDn hDk hmp
    go_wp2_with fail
    refine Calls.mono (order29 w2 P (H.out.below HX2.out.below (Nat.le_refl _)) HF.out) ?_
    rw [← HD.out]
    rintro e w3 ⟨a1, c1, rfl, ho3, hb3⟩
    rw [← HT.out] at ho3
    rw [← HT.out, ← HE.out]
    have hx3 := HX2.out.step hb3 HX2.out.size
    have HX3 := Lib.hid hx3
    have n0 := hx3.c0
    have n1 := hx3.c1
    have n2 := hx3.c2
    obtain ⟨a9, c9, hv9, hs9, _, _⟩ := owns_seq ho3
    injection hv9 with hv1 hv2 hv3
    rw [← hv1] at hs9
    have HS3 := Lib.hid hs9
    clear hb3 hx3 ho3 hs9 hv1 hv2 hv3 k0 k1 k2 m0 m1 m2
    by_cases hEz : E = 0
    · subst hEz
      obtain ⟨hmay, hnow, hTl⟩ := HE0.out rfl
      have hmp := HMp.out hmay
      obtain ⟨hi0, hl4⟩ := hmp
      have HI0 := Lib.hid hi0
      have HL4 := Lib.hid hl4
      have HNow := Lib.hid hnow
      obtain ⟨l, hl⟩ : ∃ l, l = orderL D := ⟨_, rfl⟩
      rw [← hl] at hTl
      have HL := Lib.hid hl
      have hfi := HF.out.ins
      have hTn : T.length = l.length := by rw [hTl]; simp
      have HTn := Lib.hid hTn
      have hTg : ∀ t, t < l.length → T.getD t 0 = ((l.getD t 0 : Nat) : Int) := by
        intro t ht
        rw [hTl, List.getD_eq_getElem?_getD, List.getElem?_map, List.getElem?_eq_getElem ht, List.getD_eq_getElem?_getD, List.getElem?_eq_getElem ht]; rfl
      have HTg := Lib.hid hTg
      have HTold := Lib.hid (orderL_told D)
      clear hmay hnow hTl hl hTn hTg hl4
      obtain ⟨h, hh⟩ : ∃ h, h = w.heap.size := ⟨_, rfl⟩
      obtain ⟨n, hn⟩ : ∃ h, h = P.bs.length := ⟨_, rfl⟩
      obtain ⟨ins, hins⟩ : ∃ h, h = P.ins := ⟨_, rfl⟩
      obtain ⟨ba, hba⟩ : ∃ h, h = P.ba := ⟨_, rfl⟩
      obtain ⟨bc, hbc⟩ : ∃ h, h = P.bc := ⟨_, rfl⟩
      obtain ⟨oa, hoa⟩ : ∃ h, h = P.oa := ⟨_, rfl⟩
      obtain ⟨oc, hoc⟩ : ∃ h, h = P.oc := ⟨_, rfl⟩
      obtain ⟨on, hon⟩ : ∃ h, h = P.os.length := ⟨_, rfl⟩
      have hvv : P.val = .agg #[.int .i64 ins, .slice ba n bc, .slice oa on oc] := by rw [hins, hba, hn, hbc, hoa, hoc, hon]
      have HVv := Lib.hid hvv
      rw [hvv]
      simp only [← hh, ← hn, ← hins, ← hba, ← hbc, ← hoa, ← hoc, ← hon] at n0 n1 n2 HT150 hbs hi0 hfi ⊢
      have HH := Lib.hid hh
      have HN := Lib.hid hn
      have HIns := Lib.hid hins
      have HBa := Lib.hid hba
      have HBc := Lib.hid hbc
      have HOa := Lib.hid hoa
      have HOc := Lib.hid hoc
      have HOn := Lib.hid hon
      obtain ⟨tl, htl⟩ : ∃ t, t = T.length := ⟨_, rfl⟩
      rw [← htl] at HS3 HTn HT150 ⊢
      clear hh hn hins hba hbc hoa hoc hon hvv htl
      have hmk := run_make_row' (P := Try.prog) 24 3 (.int .i64 0) 8 Try.underlying24 info3 rfl .i64 .i64 n (by omega) (by omega)
      have hsz3 := HX3.out.size
      rw [← HH.out] at hsz3
      have hrow0 : (w3.alloc (Obj.cells (madeCells #[Value.int .i64 0] n) 3)).rowIs w3.heap.size 3 n (fun _ => .int .i64 0) := World.rowIs_made w3 _ _ _
      have hbw0 : Below w3.heap.size w3 (w3.alloc (Obj.cells (madeCells #[Value.int .i64 0] n) 3)) := (Below.refl _ _).alloc (Nat.le_refl _) _
      obtain ⟨pb, hpb⟩ : ∃ b, b = w3.heap.size := ⟨_, rfl⟩
      obtain ⟨W4, hW4⟩ : ∃ W, W = w3.alloc (Obj.cells (madeCells #[Value.int .i64 0] n) 3) := ⟨_, rfl⟩
      rw [← hW4, ← hpb] at hrow0 hbw0
      rw [← hpb] at hsz3
      have HPb := Lib.hid hpb
      have HW4 := Lib.hid hW4
      have HRow0 := Lib.hid hrow0
      have HBw0 := Lib.hid hbw0
      clear hrow0 hbw0 hpb hW4
      go_wp2_with fail
      rw [← HW4.out, ← HPb.out]
      have hwh : w.heap.size ≤ h := Nat.le_of_eq HH.out.symm
      go_loopw [41] (fun iv wr => ∃ i : Nat, i ≤ n ∧ iv = .int .i64 i ∧ Hid (Below pb w3 wr ∧ wr.rowIs pb 3 n (fun j => .int .i64 (if j < i then -1 else 0)))) (fun iv _ => n - (intOf iv).toNat)
      case atStart => exact ⟨0, by omega, rfl, Lib.hid ⟨HBw0.out, HRow0.out.congr (fun j hj => by simp)⟩⟩
      case round =>
        obtain ⟨i, hi, rfl, hh⟩ := hrel
        by_cases hlt : i < n
        · have y0 := hh.out.2.cell hlt
          have yf := hh.out.2.frozen i
          have HN1 : Hid (Below pb w3 (wr.setCell ⟨pb, i, none⟩ (.int .i64 (-1))) ∧ (wr.setCell ⟨pb, i, none⟩ (.int .i64 (-1))).rowIs pb 3 n (fun j => .int .i64 (if j < i + 1 then -1 else 0))) := Lib.hid ⟨hh.out.1.setCell (Nat.le_refl _) _, (hh.out.2.set i (.int .i64 (-1))).congr (fun j hj => by
            by_cases e : j = i
            · subst e; simp
            · rw [if_neg e]
              by_cases e2 : j < i
              · rw [if_pos e2, if_pos (by omega)]
              · rw [if_neg e2, if_neg (by omega)])⟩
          go_wp2_with fail
          go_roundw
          case rel => exact ⟨i + 1, by omega, by go_num, HN1⟩
          case measure => simp [intOf]; omega
        · obtain rfl : i = n := by omega
          have HN2 : Hid (Below pb w3 wr ∧ wr.rowIs pb 3 i (fun j => .int .i64 (plTo l 0 j))) := Lib.hid ⟨hh.out.1, hh.out.2.congr (fun j hj => by rw [if_pos hj]; rfl)⟩
          clear hh hlt hi
          go_wp2_with fail
          go_loopw [50] (fun tv wr => ∃ t : Nat, t ≤ tl ∧ tv = .int .i64 t ∧ Hid (Below pb w3 wr ∧ wr.rowIs pb 3 i (fun j => .int .i64 (plTo l t j)))) (fun tv _ => tl - (intOf tv).toNat)
          case atStart => exact ⟨0, by omega, rfl, HN2⟩
          case round =>
            obtain ⟨t, ht, rfl, hh⟩ := hrel
            by_cases hlt : t < tl
            · have htl : t < l.length := by rw [← HTn.out]; exact hlt
              obtain ⟨b3, o3, ha1, hb3, hc3⟩ := (HS3.out.below hh.out.1 (by have := HPb.out; omega)).at t hlt
              have x0 := hc3 t hlt
              unfold ints at x0
              rw [HTg.out t htl] at x0
              have htold := HTold.out.lt (l.getD t 0) (by rw [HL.out]; exact getD_mem (orderL D) 0 (by rw [← HL.out]; exact htl))
              have hnot := plTo_no l t (by omega) _ (getD_notin_take (by rw [HL.out]; exact HTold.out.nodup) htl)
              have hnx : plTo l (t + 1) = upd (plTo l t) (l.getD t 0) (t : Int) := rfl
              obtain ⟨b, hb⟩ : ∃ b, b = l.getD t 0 := ⟨_, rfl⟩
              rw [← hb] at x0 htold hnot hnx
              have hbn : b < i := by have h1 := htold.1; rw [HDn.out, ← HN.out] at h1; exact h1
              have hB7 : Below w.heap.size w wr := HX3.out.below.trans (hh.out.1.mono (by have := HPb.out; have := HX3.out.size; omega))
              obtain ⟨kb, ko, hkb, _, _, _, f2, _⟩ := (H.out.below hB7 (Nat.le_refl _)).blk b (by rw [← HN.out]; exact hbn)
              have hff : (P.bs.getD b default).ff = false := by
                have h1 := htold.2
                unfold PackD.now at h1
                rw [HDk.out] at h1
                simpa using h1
              rw [hff] at f2
              rw [← HBa.out] at hkb
              have z1 : wr.cell? ⟨h, 1, none⟩ = some (.slice ba i bc) := (hh.out.1.cell (p := ⟨_, _, none⟩) (by simp only; omega)).trans n1
              have y0 := hh.out.2.cell hbn
              have yf := hh.out.2.frozen b
              rw [hnot] at y0
              have HN1 : Hid (Below pb w3 (wr.setCell ⟨pb, b, none⟩ (.int .i64 (t : Int))) ∧ (wr.setCell ⟨pb, b, none⟩ (.int .i64 (t : Int))).rowIs pb 3 i (fun j => .int .i64 (plTo l (t + 1) j))) := Lib.hid ⟨hh.out.1.setCell (Nat.le_refl _) _, (hh.out.2.set b (.int .i64 (t : Int))).congr (fun j hj => by
                rw [hnx]
                by_cases e : j = b
                · subst e; rw [if_pos rfl, upd_same]
                · rw [if_neg e, upd_other _ _ _ e])⟩
              have hd0 : decide ((b : Int) < 0) = false := by simp
              have hd1 : decide ((i : Int) ≤ (b : Int)) = false := by simpa using hbn
              clear hc3 hb hnot hnx hff htold hB7 hh
              subst ha1 hkb
              go_wp2_with fail
              go_roundw
              case rel => exact ⟨t + 1, by omega, by go_num, HN1⟩
              case measure => simp [intOf]; omega
            · obtain rfl : t = tl := by omega
              have htl := HTn.out
              have hrw : wr.rowIs pb 3 i (fun j => .int .i64 (plTo l l.length j)) := by rw [← htl]; exact hh.out.2
              have z1 : wr.cell? ⟨h, 1, none⟩ = some (.slice ba i bc) := (hh.out.1.cell (p := ⟨_, _, none⟩) (by simp only; omega)).trans n1
              obtain ⟨W5, hW5⟩ : ∃ W, W = wr := ⟨_, rfl⟩
              rw [← hW5] at hrw z1 ⊢
              have HRw := Lib.hid hrw
              have HB5 : Hid (Below pb w3 W5) := Lib.hid (by rw [hW5]; exact hh.out.1)
              have HX5 : Hid (Below w.heap.size w W5) := Lib.hid (HX3.out.below.trans (HB5.out.mono (by have := HPb.out; have := HX3.out.size; omega)))
              have hp5 : pb < W5.heap.size := hrw.lt
              have HZ1 := Lib.hid z1
              clear hrw htl hh hW5 hlt ht
              obtain ⟨n, rfl⟩ : ∃ n, n = i := ⟨_, rfl⟩
              go_wp2_with fail
              go_loopw [86] (fun iv wr => ∃ i : Nat, i ≤ n ∧ iv = .int .i64 i ∧ Hid (Below (pb + 1) W5 wr)) (fun iv _ => n - (intOf iv).toNat)
              case atStart => exact ⟨0, by omega, rfl, Lib.hid (Below.refl _ _)⟩
              case round =>
                obtain ⟨i, hi, rfl, hh⟩ := hrel
                by_cases hlt : i < n
                · have hsz := hh.out.size
                  have hB7 : Below w.heap.size w wr := HX5.out.trans (hh.out.mono (by omega))
                  obtain ⟨kb, ko, hkb, hkbl, d0, d1, d2, d3⟩ := (H.out.below hB7 (Nat.le_refl _)).blk i (by rw [← HN.out]; exact hlt)
                  rw [← HBa.out] at hkb
                  have hIn := orderL_all D (by exact HNow.out) i (by rw [HDn.out, ← HN.out]; exact hlt)
                  have hnowi : D.now i = !(P.bs.getD i default).ff := by unfold PackD.now; rw [HDk.out]
                  have y0 := (HRw.out.of_block (hh.out.block pb (by omega))).cell hlt
                  obtain ⟨L, hLe⟩ : ∃ L, L = P.bs.getD i default := ⟨_, rfl⟩
                  rw [← hLe] at d0 d1 d2 d3 hnowi
                  obtain ⟨La, Lc, Li, Lt, Lf, Ln⟩ := L
                  dsimp only at d0 d1 d2 d3 hnowi
                  obtain ⟨pi, hpi⟩ : ∃ p, p = plTo l l.length i := ⟨_, rfl⟩
                  rw [← hpi] at y0
                  have hpn : Lf = false → (pi == -1) = false := by
                    intro e
                    rw [hnowi, e] at hIn
                    have hm := hIn rfl
                    rw [← HL.out] at hm
                    obtain ⟨s, _, _, hs⟩ := plTo_mem l (by rw [HL.out]; exact HTold.out.nodup) l.length (Nat.le_refl _) i (by rw [List.take_length]; exact hm)
                    rw [hpi, hs]; simp <;> omega
                  obtain ⟨W6, hW6⟩ : ∃ W, W = wr.alloc (Obj.cells #[Value.slice La Li.length Lc, Value.int .i64 Lt, Value.bool Lf, Value.bool Ln] 43) := ⟨_, rfl⟩
                  have hb6 : Below wr.heap.size wr W6 := by rw [hW6]; exact (Below.refl _ _).alloc (Nat.le_refl _) _
                  have HB6 : Hid (Below (pb + 1) W5 W6) := Lib.hid (hh.out.trans (hb6.mono (by omega)))
                  have z2 := HB6.out.cell (p := ⟨h, 1, none⟩) (by simp only; omega)
                  have z3 := z2.trans HZ1.out
                  have e2 : W6.cell? ⟨wr.heap.size, 2, none⟩ = some (.bool Lf) := by rw [hW6]; simp
                  have y6 : W6.cell? ⟨pb, i, none⟩ = some (.int .i64 pi) := by rw [hW6]; exact cell_alloc _ y0
                  have z1 : wr.cell? ⟨h, 1, none⟩ = some (.slice ba n bc) := (hh.out.cell (p := ⟨_, _, none⟩) (by simp only; omega)).trans HZ1.out
                  have HIp : Hid (i < P.bs.length) := Lib.hid (by rw [← HN.out]; exact hlt)
                  have HPi := Lib.hid hpi
                  have HW6 := Lib.hid hW6
                  have HLe := Lib.hid hLe
                  clear hIn hnowi hLe hpi hW6 hb6 z2 hh hB7
                  subst hkb
                  cases Lf
                  · have hpb2 := hpn rfl
                    clear hpn
                    rw [HW6.out] at y6 z3 e2
                    go_wp2_with fail
                    rw [← HW6.out]
                    go_loopw [104] (fun kv wr => ∃ k : Nat, k ≤ n ∧ kv = .int .i64 k ∧ Hid (Below (pb + 1) W5 wr)) (fun kv _ => n - (intOf kv).toNat)
                    case atStart => exact ⟨0, by omega, rfl, HB6⟩
                    case round =>
                      obtain ⟨k, hk, rfl, HRr⟩ := hrel
                      by_cases hlk : k < n
                      · have hszr := HRr.out.size
                        have hzp : pb < wr.heap.size := by omega
                        have hzh : h < wr.heap.size := by omega
                        have HB7 : Hid (Below w.heap.size w wr) := Lib.hid (HX5.out.trans (HRr.out.mono (by omega)))
                        obtain ⟨kb2, ko2, hkb2, hzk, _, _, zf, _⟩ := (H.out.below HB7.out (Nat.le_refl _)).blk k (by rw [← HN.out]; exact hlk)
                        rw [← HBa.out] at hkb2
                        injection hkb2 with hkb2
                        injection hkb2 with hkb2 hkb3
                        subst hkb2 hkb3
                        have zh : ∀ o, wr.cell? ⟨h, o, none⟩ = w3.cell? ⟨h, o, none⟩ := fun o => (HRr.out.cell (p := ⟨_, _, none⟩) (by simp only; omega)).trans (HB5.out.cell (p := ⟨_, _, none⟩) (by simp only; omega))
                        have z0 := (zh 0).trans n0
                        have z1 := (zh 1).trans n1
                        have z2 := (zh 2).trans n2
                        have hrk := HRw.out.of_block (HRr.out.block pb (by omega))
                        have zk := hrk.cell hlk
                        have zi := hrk.cell hlt
                        rw [← HPi.out] at zi
                        have HKp : Hid (k < P.bs.length) := Lib.hid (by rw [← HN.out]; exact hlk)
                        have hbef := orderL_before D (by exact HNow.out) (i := i) (k := k) (by rw [HDn.out]; exact HIp.out) (by rw [HDn.out]; exact HKp.out)
                        have hnk : D.now k = !(P.bs.getD k default).ff := by unfold PackD.now; rw [HDk.out]
                        rw [hnk] at hbef
                        rw [← HL.out] at hbef
                        obtain ⟨kf, hkf⟩ : ∃ f, f = (P.bs.getD k default).ff := ⟨_, rfl⟩
                        rw [← hkf] at zf hbef
                        obtain ⟨pk, hpk⟩ : ∃ p, p = plTo l l.length k := ⟨_, rfl⟩
                        rw [← hpk] at zk hbef
                        rw [← HPi.out] at hbef
                        have hDP := HD.out
                        obtain ⟨hg, hhg⟩ : ∃ g, g = hangsB P.data i k := ⟨_, rfl⟩
                        rw [hDP, ← hhg] at hbef
                        have HHg := Lib.hid hhg
                        have HBef := Lib.hid hbef
                        clear hbef hnk hkf hpk hDP hhg hrk zh
                        cases hg
                        · go_wp2_with fail
                          refine wp_region_held_drew (S := fun w' => w'.cell? ⟨h, 0, none⟩ = some (.int .i64 ins) ∧ w'.cell? ⟨h, 1, none⟩ = some (.slice (some ⟨kb, ko, none⟩) n bc) ∧ w'.cell? ⟨h, 2, none⟩ = some (.slice oa on oc) ∧ w'.cell? ⟨kb, ko + k * 4 + 2, none⟩ = some (.bool kf) ∧ w'.cell? ⟨pb, k, none⟩ = some (.int .i64 pk) ∧ w'.cell? ⟨pb, i, none⟩ = some (.int .i64 pi)) (by kernel_rfl) (⟨z0, z1, z2, zf, zk, zi⟩) (fun hHeld => ?_)
                          refine wpAnyH_take (i := 0) (v := ?_) (by simp only [List.getElem?_toArray, List.getElem?_cons_succ, List.getElem?_cons_zero]; rfl) (by kernel_rfl) (by kernel_rfl) (by kernel_rfl) (by intro _ _ _ h; exact h) (Or.inl ⟨by rfl, ?_⟩) (by assumption) ?_
                          rotate_left
                          · intro w hSw; (try dsimp only at hSw); go_simp; try with_reducible rfl
                          try simp only [Act.put, List.setIfInBounds_toArray, List.set_cons_zero, List.set_cons_succ]
                          refine wpAnyH_take (i := 1) (v := ?_) (by simp only [List.getElem?_toArray, List.getElem?_cons_succ, List.getElem?_cons_zero]; rfl) (by kernel_rfl) (by kernel_rfl) (by kernel_rfl) (by intro _ _ _ h; exact h) (Or.inl ⟨by rfl, ?_⟩) (by assumption) ?_
                          rotate_left
                          · intro w hSw; (try dsimp only at hSw); go_simp; try with_reducible rfl
                          try simp only [Act.put, List.setIfInBounds_toArray, List.set_cons_zero, List.set_cons_succ]
                          refine wpAnyH_take (i := 2) (v := ?_) (by simp only [List.getElem?_toArray, List.getElem?_cons_succ, List.getElem?_cons_zero]; rfl) (by kernel_rfl) (by kernel_rfl) (by kernel_rfl) (by intro _ _ _ h; exact h) (Or.inl ⟨by rfl, ?_⟩) (by assumption) ?_
                          rotate_left
                          · intro w hSw; (try dsimp only at hSw); go_simp; try with_reducible rfl
                          try simp only [Act.put, List.setIfInBounds_toArray, List.set_cons_zero, List.set_cons_succ]
                          refine wpAnyH_ready (rs := [3]) (by kernel_rfl) (by simp) ?_
                          refine AllReadyH.cons (o := _) (by simp only [List.getElem?_toArray, List.getElem?_cons_succ, List.getElem?_cons_zero]; rfl) (fun K hK => ?_) AllReadyH.nil
                          go_simp
                          go_at_call 30
                          have C30 := hangs30 wr.drew P (H.out.below HB7.out.drew (Nat.le_refl _)) HF.out HI0.out HL4.out i k HIp.out HKp.out
                          rw [HVv.out] at C30
                          refine Calls.mono C30 ?_
                          clear C30
                          rintro e w8 ⟨rfl, hb8⟩
                          rw [← HHg.out]
                          have HB8 := Lib.hid hb8
                          have hk8 : ∀ b o, b < wr.heap.size → w8.cell? ⟨b, o, none⟩ = wr.cell? ⟨b, o, none⟩ := fun b o hb => hb8.cell (p := ⟨b, o, none⟩) (by simpa using hb)
                          clear hb8
                          go_simp
                          refine hK.out _ _ (by exact ⟨(hk8 _ _ hzh).trans z0, (hk8 _ _ hzh).trans z1, (hk8 _ _ hzh).trans z2, (hk8 _ _ hzk).trans zf, (hk8 _ _ hzp).trans zk, (hk8 _ _ hzp).trans zi⟩) (fun hHeld => ?_)
                          clear hK K
                          try simp only [Act.put, List.setIfInBounds_toArray, List.set_cons_zero, List.set_cons_succ]
                          refine wpAnyH_take (i := 4) (v := ?_) (by simp only [List.getElem?_toArray, List.getElem?_cons_succ, List.getElem?_cons_zero]; rfl) (by kernel_rfl) (by kernel_rfl) (by kernel_rfl) (by intro _ _ _ h; exact h) (Or.inl ⟨by rfl, ?_⟩) (by assumption) ?_
                          rotate_left
                          · intro w hSw; (try dsimp only at hSw); go_simp; try with_reducible rfl
                          try simp only [Act.put, List.setIfInBounds_toArray, List.set_cons_zero, List.set_cons_succ]
                          refine wpAnyH_take (i := 5) (v := undef) (by simp only [List.getElem?_toArray, List.getElem?_cons_succ, List.getElem?_cons_zero]; rfl) (by kernel_rfl) (by kernel_rfl) (by kernel_rfl) (by intro _ _ _ h; exact h) (Or.inr ⟨by rfl, rfl⟩) (by assumption) ?_
                          try simp only [Act.put, List.setIfInBounds_toArray, List.set_cons_zero, List.set_cons_succ]
                          refine wpAnyH_take (i := 6) (v := undef) (by simp only [List.getElem?_toArray, List.getElem?_cons_succ, List.getElem?_cons_zero]; rfl) (by kernel_rfl) (by kernel_rfl) (by kernel_rfl) (by intro _ _ _ h; exact h) (Or.inr ⟨by rfl, rfl⟩) (by assumption) ?_
                          try simp only [Act.put, List.setIfInBounds_toArray, List.set_cons_zero, List.set_cons_succ]
                          refine wpAnyH_take (i := 7) (v := undef) (by simp only [List.getElem?_toArray, List.getElem?_cons_succ, List.getElem?_cons_zero]; rfl) (by kernel_rfl) (by kernel_rfl) (by kernel_rfl) (by intro _ _ _ h; exact h) (Or.inr ⟨by rfl, rfl⟩) (by assumption) ?_
                          try simp only [Act.put, List.setIfInBounds_toArray, List.set_cons_zero, List.set_cons_succ]
                          refine wpAnyH_take (i := 8) (v := undef) (by simp only [List.getElem?_toArray, List.getElem?_cons_succ, List.getElem?_cons_zero]; rfl) (by kernel_rfl) (by kernel_rfl) (by kernel_rfl) (by intro _ _ _ h; exact h) (Or.inr ⟨by rfl, rfl⟩) (by assumption) ?_
                          try simp only [Act.put, List.setIfInBounds_toArray, List.set_cons_zero, List.set_cons_succ]
                          refine wpAnyH_take (i := 9) (v := undef) (by simp only [List.getElem?_toArray, List.getElem?_cons_succ, List.getElem?_cons_zero]; rfl) (by kernel_rfl) (by kernel_rfl) (by kernel_rfl) (by intro _ _ _ h; exact h) (Or.inr ⟨by rfl, rfl⟩) (by assumption) ?_
                          try simp only [Act.put, List.setIfInBounds_toArray, List.set_cons_zero, List.set_cons_succ]
                          refine wpAnyH_take (i := 10) (v := undef) (by simp only [List.getElem?_toArray, List.getElem?_cons_succ, List.getElem?_cons_zero]; rfl) (by kernel_rfl) (by kernel_rfl) (by kernel_rfl) (by intro _ _ _ h; exact h) (Or.inr ⟨by rfl, rfl⟩) (by assumption) ?_
                          try simp only [Act.put, List.setIfInBounds_toArray, List.set_cons_zero, List.set_cons_succ]
                          refine wpAnyH_take (i := 11) (v := undef) (by simp only [List.getElem?_toArray, List.getElem?_cons_succ, List.getElem?_cons_zero]; rfl) (by kernel_rfl) (by kernel_rfl) (by kernel_rfl) (by intro _ _ _ h; exact h) (Or.inr ⟨by rfl, rfl⟩) (by assumption) ?_
                          try simp only [Act.put, List.setIfInBounds_toArray, List.set_cons_zero, List.set_cons_succ]
                          refine wpAnyH_take (i := 12) (v := ?_) (by simp only [List.getElem?_toArray, List.getElem?_cons_succ, List.getElem?_cons_zero]; rfl) (by kernel_rfl) (by kernel_rfl) (by kernel_rfl) (by intro _ _ _ h; exact h) (Or.inl ⟨by rfl, ?_⟩) (by assumption) ?_
                          rotate_left
                          · intro w hSw; (try dsimp only at hSw); go_simp; try with_reducible rfl
                          try simp only [Act.put, List.setIfInBounds_toArray, List.set_cons_zero, List.set_cons_succ]
                          refine wpAnyH_take (i := 13) (v := ?_) (by simp only [List.getElem?_toArray, List.getElem?_cons_succ, List.getElem?_cons_zero]; rfl) (by kernel_rfl) (by kernel_rfl) (by kernel_rfl) (by intro _ _ _ h; exact h) (Or.inl ⟨by rfl, ?_⟩) (by assumption) ?_
                          rotate_left
                          · intro w hSw; (try dsimp only at hSw); go_simp; try with_reducible rfl
                          try simp only [Act.put, List.setIfInBounds_toArray, List.set_cons_zero, List.set_cons_succ]
                          refine wpAnyH_take (i := 14) (v := undef) (by simp only [List.getElem?_toArray, List.getElem?_cons_succ, List.getElem?_cons_zero]; rfl) (by kernel_rfl) (by kernel_rfl) (by kernel_rfl) (by intro _ _ _ h; exact h) (Or.inr ⟨by rfl, rfl⟩) (by assumption) ?_
                          try simp only [Act.put, List.setIfInBounds_toArray, List.set_cons_zero, List.set_cons_succ]
                          refine wpAnyH_take (i := 15) (v := undef) (by simp only [List.getElem?_toArray, List.getElem?_cons_succ, List.getElem?_cons_zero]; rfl) (by kernel_rfl) (by kernel_rfl) (by kernel_rfl) (by intro _ _ _ h; exact h) (Or.inr ⟨by rfl, rfl⟩) (by assumption) ?_
                          try simp only [Act.put, List.setIfInBounds_toArray, List.set_cons_zero, List.set_cons_succ]
                          refine wpAnyH_take (i := 16) (v := undef) (by simp only [List.getElem?_toArray, List.getElem?_cons_succ, List.getElem?_cons_zero]; rfl) (by kernel_rfl) (by kernel_rfl) (by kernel_rfl) (by intro _ _ _ h; exact h) (Or.inr ⟨by rfl, rfl⟩) (by assumption) ?_
                          try simp only [Act.put, List.setIfInBounds_toArray, List.set_cons_zero, List.set_cons_succ]
                          refine wpAnyH_take (i := 17) (v := undef) (by simp only [List.getElem?_toArray, List.getElem?_cons_succ, List.getElem?_cons_zero]; rfl) (by kernel_rfl) (by kernel_rfl) (by kernel_rfl) (by intro _ _ _ h; exact h) (Or.inr ⟨by rfl, rfl⟩) (by assumption) ?_
                          try simp only [Act.put, List.setIfInBounds_toArray, List.set_cons_zero, List.set_cons_succ]
                          refine wpAnyH_take (i := 18) (v := undef) (by simp only [List.getElem?_toArray, List.getElem?_cons_succ, List.getElem?_cons_zero]; rfl) (by kernel_rfl) (by kernel_rfl) (by kernel_rfl) (by intro _ _ _ h; exact h) (Or.inr ⟨by rfl, rfl⟩) (by assumption) ?_
                          try simp only [Act.put, List.setIfInBounds_toArray, List.set_cons_zero, List.set_cons_succ]
                          refine wpAnyH_take (i := 19) (v := undef) (by simp only [List.getElem?_toArray, List.getElem?_cons_succ, List.getElem?_cons_zero]; rfl) (by kernel_rfl) (by kernel_rfl) (by kernel_rfl) (by intro _ _ _ h; exact h) (Or.inr ⟨by rfl, rfl⟩) (by assumption) ?_
                          try simp only [Act.put, List.setIfInBounds_toArray, List.set_cons_zero, List.set_cons_succ]
                          refine wpAnyH_take (i := 20) (v := undef) (by simp only [List.getElem?_toArray, List.getElem?_cons_succ, List.getElem?_cons_zero]; rfl) (by kernel_rfl) (by kernel_rfl) (by kernel_rfl) (by intro _ _ _ h; exact h) (Or.inr ⟨by rfl, rfl⟩) (by assumption) ?_
                          try simp only [Act.put, List.setIfInBounds_toArray, List.set_cons_zero, List.set_cons_succ]
                          refine wpAnyH_take (i := 21) (v := undef) (by simp only [List.getElem?_toArray, List.getElem?_cons_succ, List.getElem?_cons_zero]; rfl) (by kernel_rfl) (by kernel_rfl) (by kernel_rfl) (by intro _ _ _ h; exact h) (Or.inr ⟨by rfl, rfl⟩) (by assumption) ?_
                          try simp only [Act.put, List.setIfInBounds_toArray, List.set_cons_zero, List.set_cons_succ]
                          refine wpAnyH_take (i := 22) (v := undef) (by simp only [List.getElem?_toArray, List.getElem?_cons_succ, List.getElem?_cons_zero]; rfl) (by kernel_rfl) (by kernel_rfl) (by kernel_rfl) (by intro _ _ _ h; exact h) (Or.inr ⟨by rfl, rfl⟩) (by assumption) ?_
                          try simp only [Act.put, List.setIfInBounds_toArray, List.set_cons_zero, List.set_cons_succ]
                          refine wpAnyH_take (i := 23) (v := ?_) (by simp only [List.getElem?_toArray, List.getElem?_cons_succ, List.getElem?_cons_zero]; rfl) (by kernel_rfl) (by kernel_rfl) (by kernel_rfl) (by intro _ _ _ h; exact h) (Or.inl ⟨by rfl, ?_⟩) (by assumption) ?_
                          rotate_left
                          · intro w hSw; (try dsimp only at hSw); go_simp; try with_reducible rfl
                          try simp only [Act.put, List.setIfInBounds_toArray, List.set_cons_zero, List.set_cons_succ]
                          refine wpAnyH_done (by kernel_rfl) ?_ _
                          go_wp2
                          go_roundw
                          case rel => exact ⟨k + 1, by omega, by go_num, Lib.hid (HRr.out.trans ((Below.refl _ _).drew.trans (HB8.out.mono (by simp; omega))))⟩
                          case measure => simp [intOf]; omega
                        · cases kf
                          · have hcmp : decide (pi ≤ pk) = false := by have := HBef.out rfl rfl; simpa using this
                            go_wp2_with fail
                            refine wp_region_held_drew (S := fun w' => w'.cell? ⟨h, 0, none⟩ = some (.int .i64 ins) ∧ w'.cell? ⟨h, 1, none⟩ = some (.slice (some ⟨kb, ko, none⟩) n bc) ∧ w'.cell? ⟨h, 2, none⟩ = some (.slice oa on oc) ∧ w'.cell? ⟨kb, ko + k * 4 + 2, none⟩ = some (.bool false) ∧ w'.cell? ⟨pb, k, none⟩ = some (.int .i64 pk) ∧ w'.cell? ⟨pb, i, none⟩ = some (.int .i64 pi)) (by kernel_rfl) (⟨z0, z1, z2, zf, zk, zi⟩) (fun hHeld => ?_)
                            refine wpAnyH_take (i := 0) (v := ?_) (by simp only [List.getElem?_toArray, List.getElem?_cons_succ, List.getElem?_cons_zero]; rfl) (by kernel_rfl) (by kernel_rfl) (by kernel_rfl) (by intro _ _ _ h; exact h) (Or.inl ⟨by rfl, ?_⟩) (by assumption) ?_
                            rotate_left
                            · intro w hSw; (try dsimp only at hSw); go_simp; try with_reducible rfl
                            try simp only [Act.put, List.setIfInBounds_toArray, List.set_cons_zero, List.set_cons_succ]
                            refine wpAnyH_take (i := 1) (v := ?_) (by simp only [List.getElem?_toArray, List.getElem?_cons_succ, List.getElem?_cons_zero]; rfl) (by kernel_rfl) (by kernel_rfl) (by kernel_rfl) (by intro _ _ _ h; exact h) (Or.inl ⟨by rfl, ?_⟩) (by assumption) ?_
                            rotate_left
                            · intro w hSw; (try dsimp only at hSw); go_simp; try with_reducible rfl
                            try simp only [Act.put, List.setIfInBounds_toArray, List.set_cons_zero, List.set_cons_succ]
                            refine wpAnyH_take (i := 2) (v := ?_) (by simp only [List.getElem?_toArray, List.getElem?_cons_succ, List.getElem?_cons_zero]; rfl) (by kernel_rfl) (by kernel_rfl) (by kernel_rfl) (by intro _ _ _ h; exact h) (Or.inl ⟨by rfl, ?_⟩) (by assumption) ?_
                            rotate_left
                            · intro w hSw; (try dsimp only at hSw); go_simp; try with_reducible rfl
                            try simp only [Act.put, List.setIfInBounds_toArray, List.set_cons_zero, List.set_cons_succ]
                            refine wpAnyH_ready (rs := [3]) (by kernel_rfl) (by simp) ?_
                            refine AllReadyH.cons (o := _) (by simp only [List.getElem?_toArray, List.getElem?_cons_succ, List.getElem?_cons_zero]; rfl) (fun K hK => ?_) AllReadyH.nil
                            go_simp
                            go_at_call 30
                            have C30 := hangs30 wr.drew P (H.out.below HB7.out.drew (Nat.le_refl _)) HF.out HI0.out HL4.out i k HIp.out HKp.out
                            rw [HVv.out] at C30
                            refine Calls.mono C30 ?_
                            clear C30
                            rintro e w8 ⟨rfl, hb8⟩
                            rw [← HHg.out]
                            have HB8 := Lib.hid hb8
                            have hk8 : ∀ b o, b < wr.heap.size → w8.cell? ⟨b, o, none⟩ = wr.cell? ⟨b, o, none⟩ := fun b o hb => hb8.cell (p := ⟨b, o, none⟩) (by simpa using hb)
                            clear hb8
                            go_simp
                            refine hK.out _ _ (by exact ⟨(hk8 _ _ hzh).trans z0, (hk8 _ _ hzh).trans z1, (hk8 _ _ hzh).trans z2, (hk8 _ _ hzk).trans zf, (hk8 _ _ hzp).trans zk, (hk8 _ _ hzp).trans zi⟩) (fun hHeld => ?_)
                            clear hK K
                            try simp only [Act.put, List.setIfInBounds_toArray, List.set_cons_zero, List.set_cons_succ]
                            refine wpAnyH_take (i := 4) (v := ?_) (by simp only [List.getElem?_toArray, List.getElem?_cons_succ, List.getElem?_cons_zero]; rfl) (by kernel_rfl) (by kernel_rfl) (by kernel_rfl) (by intro _ _ _ h; exact h) (Or.inl ⟨by rfl, ?_⟩) (by assumption) ?_
                            rotate_left
                            · intro w hSw; (try dsimp only at hSw); go_simp; try with_reducible rfl
                            try simp only [Act.put, List.setIfInBounds_toArray, List.set_cons_zero, List.set_cons_succ]
                            refine wpAnyH_take (i := 5) (v := ?_) (by simp only [List.getElem?_toArray, List.getElem?_cons_succ, List.getElem?_cons_zero]; rfl) (by kernel_rfl) (by kernel_rfl) (by kernel_rfl) (by intro _ _ _ h; exact h) (Or.inl ⟨by rfl, ?_⟩) (by assumption) ?_
                            rotate_left
                            · intro w hSw; (try dsimp only at hSw); go_simp; try with_reducible rfl
                            try simp only [Act.put, List.setIfInBounds_toArray, List.set_cons_zero, List.set_cons_succ]
                            refine wpAnyH_take (i := 6) (v := ?_) (by simp only [List.getElem?_toArray, List.getElem?_cons_succ, List.getElem?_cons_zero]; rfl) (by kernel_rfl) (by kernel_rfl) (by kernel_rfl) (by intro _ _ _ h; exact h) (Or.inl ⟨by rfl, ?_⟩) (by assumption) ?_
                            rotate_left
                            · intro w hSw; (try dsimp only at hSw); go_simp; try with_reducible rfl
                            try simp only [Act.put, List.setIfInBounds_toArray, List.set_cons_zero, List.set_cons_succ]
                            refine wpAnyH_take (i := 7) (v := ?_) (by simp only [List.getElem?_toArray, List.getElem?_cons_succ, List.getElem?_cons_zero]; rfl) (by kernel_rfl) (by kernel_rfl) (by kernel_rfl) (by intro _ _ _ h; exact h) (Or.inl ⟨by rfl, ?_⟩) (by assumption) ?_
                            rotate_left
                            · intro w hSw; (try dsimp only at hSw); go_simp; try with_reducible rfl
                            try simp only [Act.put, List.setIfInBounds_toArray, List.set_cons_zero, List.set_cons_succ]
                            refine wpAnyH_take (i := 8) (v := ?_) (by simp only [List.getElem?_toArray, List.getElem?_cons_succ, List.getElem?_cons_zero]; rfl) (by kernel_rfl) (by kernel_rfl) (by kernel_rfl) (by intro _ _ _ h; exact h) (Or.inl ⟨by rfl, ?_⟩) (by assumption) ?_
                            rotate_left
                            · intro w hSw; (try dsimp only at hSw); go_simp; first | with_reducible rfl | rw [if_pos (by omega)]
                            try simp only [Act.put, List.setIfInBounds_toArray, List.set_cons_zero, List.set_cons_succ]
                            refine wpAnyH_take (i := 9) (v := ?_) (by simp only [List.getElem?_toArray, List.getElem?_cons_succ, List.getElem?_cons_zero]; rfl) (by kernel_rfl) (by kernel_rfl) (by kernel_rfl) (by intro _ _ _ h; exact h) (Or.inl ⟨by rfl, ?_⟩) (by assumption) ?_
                            rotate_left
                            · intro w hSw; (try dsimp only at hSw); go_simp; try with_reducible rfl
                            try simp only [Act.put, List.setIfInBounds_toArray, List.set_cons_zero, List.set_cons_succ]
                            refine wpAnyH_take (i := 10) (v := ?_) (by simp only [List.getElem?_toArray, List.getElem?_cons_succ, List.getElem?_cons_zero]; rfl) (by kernel_rfl) (by kernel_rfl) (by kernel_rfl) (by intro _ _ _ h; exact h) (Or.inl ⟨by rfl, ?_⟩) (by assumption) ?_
                            rotate_left
                            · intro w hSw; (try dsimp only at hSw); go_simp; try with_reducible rfl
                            try simp only [Act.put, List.setIfInBounds_toArray, List.set_cons_zero, List.set_cons_succ]
                            refine wpAnyH_take (i := 11) (v := ?_) (by simp only [List.getElem?_toArray, List.getElem?_cons_succ, List.getElem?_cons_zero]; rfl) (by kernel_rfl) (by kernel_rfl) (by kernel_rfl) (by intro _ _ _ h; exact h) (Or.inl ⟨by rfl, ?_⟩) (by assumption) ?_
                            rotate_left
                            · intro w hSw; (try dsimp only at hSw); go_simp; try with_reducible rfl
                            try simp only [Act.put, List.setIfInBounds_toArray, List.set_cons_zero, List.set_cons_succ]
                            refine wpAnyH_take (i := 12) (v := ?_) (by simp only [List.getElem?_toArray, List.getElem?_cons_succ, List.getElem?_cons_zero]; rfl) (by kernel_rfl) (by kernel_rfl) (by kernel_rfl) (by intro _ _ _ h; exact h) (Or.inl ⟨by rfl, ?_⟩) (by assumption) ?_
                            rotate_left
                            · intro w hSw; (try dsimp only at hSw); go_simp; try with_reducible rfl
                            try simp only [Act.put, List.setIfInBounds_toArray, List.set_cons_zero, List.set_cons_succ]
                            refine wpAnyH_take (i := 13) (v := ?_) (by simp only [List.getElem?_toArray, List.getElem?_cons_succ, List.getElem?_cons_zero]; rfl) (by kernel_rfl) (by kernel_rfl) (by kernel_rfl) (by intro _ _ _ h; exact h) (Or.inl ⟨by rfl, ?_⟩) (by assumption) ?_
                            rotate_left
                            · intro w hSw; (try dsimp only at hSw); go_simp; try with_reducible rfl
                            try simp only [Act.put, List.setIfInBounds_toArray, List.set_cons_zero, List.set_cons_succ]
                            refine wpAnyH_take (i := 14) (v := ?_) (by simp only [List.getElem?_toArray, List.getElem?_cons_succ, List.getElem?_cons_zero]; rfl) (by kernel_rfl) (by kernel_rfl) (by kernel_rfl) (by intro _ _ _ h; exact h) (Or.inl ⟨by rfl, ?_⟩) (by assumption) ?_
                            rotate_left
                            · intro w hSw; (try dsimp only at hSw); go_simp; try with_reducible rfl
                            try simp only [Act.put, List.setIfInBounds_toArray, List.set_cons_zero, List.set_cons_succ]
                            refine wpAnyH_take (i := 15) (v := ?_) (by simp only [List.getElem?_toArray, List.getElem?_cons_succ, List.getElem?_cons_zero]; rfl) (by kernel_rfl) (by kernel_rfl) (by kernel_rfl) (by intro _ _ _ h; exact h) (Or.inl ⟨by rfl, ?_⟩) (by assumption) ?_
                            rotate_left
                            · intro w hSw; (try dsimp only at hSw); go_simp; try with_reducible rfl
                            try simp only [Act.put, List.setIfInBounds_toArray, List.set_cons_zero, List.set_cons_succ]
                            refine wpAnyH_take (i := 16) (v := ?_) (by simp only [List.getElem?_toArray, List.getElem?_cons_succ, List.getElem?_cons_zero]; rfl) (by kernel_rfl) (by kernel_rfl) (by kernel_rfl) (by intro _ _ _ h; exact h) (Or.inl ⟨by rfl, ?_⟩) (by assumption) ?_
                            rotate_left
                            · intro w hSw; (try dsimp only at hSw); go_simp; first | with_reducible rfl | rw [if_pos (by omega)]
                            try simp only [Act.put, List.setIfInBounds_toArray, List.set_cons_zero, List.set_cons_succ]
                            refine wpAnyH_take (i := 17) (v := ?_) (by simp only [List.getElem?_toArray, List.getElem?_cons_succ, List.getElem?_cons_zero]; rfl) (by kernel_rfl) (by kernel_rfl) (by kernel_rfl) (by intro _ _ _ h; exact h) (Or.inl ⟨by rfl, ?_⟩) (by assumption) ?_
                            rotate_left
                            · intro w hSw; (try dsimp only at hSw); go_simp; try with_reducible rfl
                            try simp only [Act.put, List.setIfInBounds_toArray, List.set_cons_zero, List.set_cons_succ]
                            refine wpAnyH_take (i := 18) (v := ?_) (by simp only [List.getElem?_toArray, List.getElem?_cons_succ, List.getElem?_cons_zero]; rfl) (by kernel_rfl) (by kernel_rfl) (by kernel_rfl) (by intro _ _ _ h; exact h) (Or.inl ⟨by rfl, ?_⟩) (by assumption) ?_
                            rotate_left
                            · intro w hSw; (try dsimp only at hSw); go_simp; try with_reducible rfl
                            try simp only [Act.put, List.setIfInBounds_toArray, List.set_cons_zero, List.set_cons_succ]
                            refine wpAnyH_take (i := 19) (v := ?_) (by simp only [List.getElem?_toArray, List.getElem?_cons_succ, List.getElem?_cons_zero]; rfl) (by kernel_rfl) (by kernel_rfl) (by kernel_rfl) (by intro _ _ _ h; exact h) (Or.inl ⟨by rfl, ?_⟩) (by assumption) ?_
                            rotate_left
                            · intro w hSw; (try dsimp only at hSw); go_simp; try with_reducible rfl
                            try simp only [Act.put, List.setIfInBounds_toArray, List.set_cons_zero, List.set_cons_succ]
                            refine wpAnyH_take (i := 20) (v := ?_) (by simp only [List.getElem?_toArray, List.getElem?_cons_succ, List.getElem?_cons_zero]; rfl) (by kernel_rfl) (by kernel_rfl) (by kernel_rfl) (by intro _ _ _ h; exact h) (Or.inl ⟨by rfl, ?_⟩) (by assumption) ?_
                            rotate_left
                            · intro w hSw; (try dsimp only at hSw); go_simp; first | with_reducible rfl | rw [if_pos (by omega)]
                            try simp only [Act.put, List.setIfInBounds_toArray, List.set_cons_zero, List.set_cons_succ]
                            refine wpAnyH_take (i := 21) (v := ?_) (by simp only [List.getElem?_toArray, List.getElem?_cons_succ, List.getElem?_cons_zero]; rfl) (by kernel_rfl) (by kernel_rfl) (by kernel_rfl) (by intro _ _ _ h; exact h) (Or.inl ⟨by rfl, ?_⟩) (by assumption) ?_
                            rotate_left
                            · intro w hSw; (try dsimp only at hSw); go_simp; try with_reducible rfl
                            try simp only [Act.put, List.setIfInBounds_toArray, List.set_cons_zero, List.set_cons_succ]
                            refine wpAnyH_take (i := 22) (v := ?_) (by simp only [List.getElem?_toArray, List.getElem?_cons_succ, List.getElem?_cons_zero]; rfl) (by kernel_rfl) (by kernel_rfl) (by kernel_rfl) (by intro _ _ _ h; exact h) (Or.inl ⟨by rfl, ?_⟩) (by assumption) ?_
                            rotate_left
                            · intro w hSw; (try dsimp only at hSw); go_simp; try with_reducible rfl
                            try simp only [Act.put, List.setIfInBounds_toArray, List.set_cons_zero, List.set_cons_succ]
                            refine wpAnyH_take (i := 23) (v := ?_) (by simp only [List.getElem?_toArray, List.getElem?_cons_succ, List.getElem?_cons_zero]; rfl) (by kernel_rfl) (by kernel_rfl) (by kernel_rfl) (by intro _ _ _ h; exact h) (Or.inl ⟨by rfl, ?_⟩) (by assumption) ?_
                            rotate_left
                            · intro w hSw; (try dsimp only at hSw); go_simp; try with_reducible rfl
                            try simp only [Act.put, List.setIfInBounds_toArray, List.set_cons_zero, List.set_cons_succ]
                            refine wpAnyH_done (by kernel_rfl) ?_ _
                            go_wp2
                            go_roundw
                            case rel => exact ⟨k + 1, by omega, by go_num, Lib.hid (HRr.out.trans ((Below.refl _ _).drew.trans (HB8.out.mono (by simp; omega))))⟩
                            case measure => simp [intOf]; omega
                          · go_wp2_with fail
                            refine wp_region_held_drew (S := fun w' => w'.cell? ⟨h, 0, none⟩ = some (.int .i64 ins) ∧ w'.cell? ⟨h, 1, none⟩ = some (.slice (some ⟨kb, ko, none⟩) n bc) ∧ w'.cell? ⟨h, 2, none⟩ = some (.slice oa on oc) ∧ w'.cell? ⟨kb, ko + k * 4 + 2, none⟩ = some (.bool true) ∧ w'.cell? ⟨pb, k, none⟩ = some (.int .i64 pk) ∧ w'.cell? ⟨pb, i, none⟩ = some (.int .i64 pi)) (by kernel_rfl) (⟨z0, z1, z2, zf, zk, zi⟩) (fun hHeld => ?_)
                            refine wpAnyH_take (i := 0) (v := ?_) (by simp only [List.getElem?_toArray, List.getElem?_cons_succ, List.getElem?_cons_zero]; rfl) (by kernel_rfl) (by kernel_rfl) (by kernel_rfl) (by intro _ _ _ h; exact h) (Or.inl ⟨by rfl, ?_⟩) (by assumption) ?_
                            rotate_left
                            · intro w hSw; (try dsimp only at hSw); go_simp; try with_reducible rfl
                            try simp only [Act.put, List.setIfInBounds_toArray, List.set_cons_zero, List.set_cons_succ]
                            refine wpAnyH_take (i := 1) (v := ?_) (by simp only [List.getElem?_toArray, List.getElem?_cons_succ, List.getElem?_cons_zero]; rfl) (by kernel_rfl) (by kernel_rfl) (by kernel_rfl) (by intro _ _ _ h; exact h) (Or.inl ⟨by rfl, ?_⟩) (by assumption) ?_
                            rotate_left
                            · intro w hSw; (try dsimp only at hSw); go_simp; try with_reducible rfl
                            try simp only [Act.put, List.setIfInBounds_toArray, List.set_cons_zero, List.set_cons_succ]
                            refine wpAnyH_take (i := 2) (v := ?_) (by simp only [List.getElem?_toArray, List.getElem?_cons_succ, List.getElem?_cons_zero]; rfl) (by kernel_rfl) (by kernel_rfl) (by kernel_rfl) (by intro _ _ _ h; exact h) (Or.inl ⟨by rfl, ?_⟩) (by assumption) ?_
                            rotate_left
                            · intro w hSw; (try dsimp only at hSw); go_simp; try with_reducible rfl
                            try simp only [Act.put, List.setIfInBounds_toArray, List.set_cons_zero, List.set_cons_succ]
                            refine wpAnyH_ready (rs := [3]) (by kernel_rfl) (by simp) ?_
                            refine AllReadyH.cons (o := _) (by simp only [List.getElem?_toArray, List.getElem?_cons_succ, List.getElem?_cons_zero]; rfl) (fun K hK => ?_) AllReadyH.nil
                            go_simp
                            go_at_call 30
                            have C30 := hangs30 wr.drew P (H.out.below HB7.out.drew (Nat.le_refl _)) HF.out HI0.out HL4.out i k HIp.out HKp.out
                            rw [HVv.out] at C30
                            refine Calls.mono C30 ?_
                            clear C30
                            rintro e w8 ⟨rfl, hb8⟩
                            rw [← HHg.out]
                            have HB8 := Lib.hid hb8
                            have hk8 : ∀ b o, b < wr.heap.size → w8.cell? ⟨b, o, none⟩ = wr.cell? ⟨b, o, none⟩ := fun b o hb => hb8.cell (p := ⟨b, o, none⟩) (by simpa using hb)
                            clear hb8
                            go_simp
                            refine hK.out _ _ (by exact ⟨(hk8 _ _ hzh).trans z0, (hk8 _ _ hzh).trans z1, (hk8 _ _ hzh).trans z2, (hk8 _ _ hzk).trans zf, (hk8 _ _ hzp).trans zk, (hk8 _ _ hzp).trans zi⟩) (fun hHeld => ?_)
                            clear hK K
                            try simp only [Act.put, List.setIfInBounds_toArray, List.set_cons_zero, List.set_cons_succ]
                            refine wpAnyH_take (i := 4) (v := ?_) (by simp only [List.getElem?_toArray, List.getElem?_cons_succ, List.getElem?_cons_zero]; rfl) (by kernel_rfl) (by kernel_rfl) (by kernel_rfl) (by intro _ _ _ h; exact h) (Or.inl ⟨by rfl, ?_⟩) (by assumption) ?_
                            rotate_left
                            · intro w hSw; (try dsimp only at hSw); go_simp; try with_reducible rfl
                            try simp only [Act.put, List.setIfInBounds_toArray, List.set_cons_zero, List.set_cons_succ]
                            refine wpAnyH_take (i := 5) (v := ?_) (by simp only [List.getElem?_toArray, List.getElem?_cons_succ, List.getElem?_cons_zero]; rfl) (by kernel_rfl) (by kernel_rfl) (by kernel_rfl) (by intro _ _ _ h; exact h) (Or.inl ⟨by rfl, ?_⟩) (by assumption) ?_
                            rotate_left
                            · intro w hSw; (try dsimp only at hSw); go_simp; try with_reducible rfl
                            try simp only [Act.put, List.setIfInBounds_toArray, List.set_cons_zero, List.set_cons_succ]
                            refine wpAnyH_take (i := 6) (v := ?_) (by simp only [List.getElem?_toArray, List.getElem?_cons_succ, List.getElem?_cons_zero]; rfl) (by kernel_rfl) (by kernel_rfl) (by kernel_rfl) (by intro _ _ _ h; exact h) (Or.inl ⟨by rfl, ?_⟩) (by assumption) ?_
                            rotate_left
                            · intro w hSw; (try dsimp only at hSw); go_simp; try with_reducible rfl
                            try simp only [Act.put, List.setIfInBounds_toArray, List.set_cons_zero, List.set_cons_succ]
                            refine wpAnyH_take (i := 7) (v := ?_) (by simp only [List.getElem?_toArray, List.getElem?_cons_succ, List.getElem?_cons_zero]; rfl) (by kernel_rfl) (by kernel_rfl) (by kernel_rfl) (by intro _ _ _ h; exact h) (Or.inl ⟨by rfl, ?_⟩) (by assumption) ?_
                            rotate_left
                            · intro w hSw; (try dsimp only at hSw); go_simp; try with_reducible rfl
                            try simp only [Act.put, List.setIfInBounds_toArray, List.set_cons_zero, List.set_cons_succ]
                            refine wpAnyH_take (i := 8) (v := ?_) (by simp only [List.getElem?_toArray, List.getElem?_cons_succ, List.getElem?_cons_zero]; rfl) (by kernel_rfl) (by kernel_rfl) (by kernel_rfl) (by intro _ _ _ h; exact h) (Or.inl ⟨by rfl, ?_⟩) (by assumption) ?_
                            rotate_left
                            · intro w hSw; (try dsimp only at hSw); go_simp; first | with_reducible rfl | rw [if_pos (by omega)]
                            try simp only [Act.put, List.setIfInBounds_toArray, List.set_cons_zero, List.set_cons_succ]
                            refine wpAnyH_take (i := 9) (v := ?_) (by simp only [List.getElem?_toArray, List.getElem?_cons_succ, List.getElem?_cons_zero]; rfl) (by kernel_rfl) (by kernel_rfl) (by kernel_rfl) (by intro _ _ _ h; exact h) (Or.inl ⟨by rfl, ?_⟩) (by assumption) ?_
                            rotate_left
                            · intro w hSw; (try dsimp only at hSw); go_simp; try with_reducible rfl
                            try simp only [Act.put, List.setIfInBounds_toArray, List.set_cons_zero, List.set_cons_succ]
                            refine wpAnyH_take (i := 10) (v := ?_) (by simp only [List.getElem?_toArray, List.getElem?_cons_succ, List.getElem?_cons_zero]; rfl) (by kernel_rfl) (by kernel_rfl) (by kernel_rfl) (by intro _ _ _ h; exact h) (Or.inl ⟨by rfl, ?_⟩) (by assumption) ?_
                            rotate_left
                            · intro w hSw; (try dsimp only at hSw); go_simp; try with_reducible rfl
                            try simp only [Act.put, List.setIfInBounds_toArray, List.set_cons_zero, List.set_cons_succ]
                            refine wpAnyH_take (i := 11) (v := ?_) (by simp only [List.getElem?_toArray, List.getElem?_cons_succ, List.getElem?_cons_zero]; rfl) (by kernel_rfl) (by kernel_rfl) (by kernel_rfl) (by intro _ _ _ h; exact h) (Or.inl ⟨by rfl, ?_⟩) (by assumption) ?_
                            rotate_left
                            · intro w hSw; (try dsimp only at hSw); go_simp; try with_reducible rfl
                            try simp only [Act.put, List.setIfInBounds_toArray, List.set_cons_zero, List.set_cons_succ]
                            refine wpAnyH_take (i := 12) (v := ?_) (by simp only [List.getElem?_toArray, List.getElem?_cons_succ, List.getElem?_cons_zero]; rfl) (by kernel_rfl) (by kernel_rfl) (by kernel_rfl) (by intro _ _ _ h; exact h) (Or.inl ⟨by rfl, ?_⟩) (by assumption) ?_
                            rotate_left
                            · intro w hSw; (try dsimp only at hSw); go_simp; try with_reducible rfl
                            try simp only [Act.put, List.setIfInBounds_toArray, List.set_cons_zero, List.set_cons_succ]
                            refine wpAnyH_take (i := 13) (v := ?_) (by simp only [List.getElem?_toArray, List.getElem?_cons_succ, List.getElem?_cons_zero]; rfl) (by kernel_rfl) (by kernel_rfl) (by kernel_rfl) (by intro _ _ _ h; exact h) (Or.inl ⟨by rfl, ?_⟩) (by assumption) ?_
                            rotate_left
                            · intro w hSw; (try dsimp only at hSw); go_simp; try with_reducible rfl
                            try simp only [Act.put, List.setIfInBounds_toArray, List.set_cons_zero, List.set_cons_succ]
                            refine wpAnyH_take (i := 14) (v := undef) (by simp only [List.getElem?_toArray, List.getElem?_cons_succ, List.getElem?_cons_zero]; rfl) (by kernel_rfl) (by kernel_rfl) (by kernel_rfl) (by intro _ _ _ h; exact h) (Or.inr ⟨by rfl, rfl⟩) (by assumption) ?_
                            try simp only [Act.put, List.setIfInBounds_toArray, List.set_cons_zero, List.set_cons_succ]
                            refine wpAnyH_take (i := 15) (v := undef) (by simp only [List.getElem?_toArray, List.getElem?_cons_succ, List.getElem?_cons_zero]; rfl) (by kernel_rfl) (by kernel_rfl) (by kernel_rfl) (by intro _ _ _ h; exact h) (Or.inr ⟨by rfl, rfl⟩) (by assumption) ?_
                            try simp only [Act.put, List.setIfInBounds_toArray, List.set_cons_zero, List.set_cons_succ]
                            refine wpAnyH_take (i := 16) (v := undef) (by simp only [List.getElem?_toArray, List.getElem?_cons_succ, List.getElem?_cons_zero]; rfl) (by kernel_rfl) (by kernel_rfl) (by kernel_rfl) (by intro _ _ _ h; exact h) (Or.inr ⟨by rfl, rfl⟩) (by assumption) ?_
                            try simp only [Act.put, List.setIfInBounds_toArray, List.set_cons_zero, List.set_cons_succ]
                            refine wpAnyH_take (i := 17) (v := undef) (by simp only [List.getElem?_toArray, List.getElem?_cons_succ, List.getElem?_cons_zero]; rfl) (by kernel_rfl) (by kernel_rfl) (by kernel_rfl) (by intro _ _ _ h; exact h) (Or.inr ⟨by rfl, rfl⟩) (by assumption) ?_
                            try simp only [Act.put, List.setIfInBounds_toArray, List.set_cons_zero, List.set_cons_succ]
                            refine wpAnyH_take (i := 18) (v := undef) (by simp only [List.getElem?_toArray, List.getElem?_cons_succ, List.getElem?_cons_zero]; rfl) (by kernel_rfl) (by kernel_rfl) (by kernel_rfl) (by intro _ _ _ h; exact h) (Or.inr ⟨by rfl, rfl⟩) (by assumption) ?_
                            try simp only [Act.put, List.setIfInBounds_toArray, List.set_cons_zero, List.set_cons_succ]
                            refine wpAnyH_take (i := 19) (v := undef) (by simp only [List.getElem?_toArray, List.getElem?_cons_succ, List.getElem?_cons_zero]; rfl) (by kernel_rfl) (by kernel_rfl) (by kernel_rfl) (by intro _ _ _ h; exact h) (Or.inr ⟨by rfl, rfl⟩) (by assumption) ?_
                            try simp only [Act.put, List.setIfInBounds_toArray, List.set_cons_zero, List.set_cons_succ]
                            refine wpAnyH_take (i := 20) (v := undef) (by simp only [List.getElem?_toArray, List.getElem?_cons_succ, List.getElem?_cons_zero]; rfl) (by kernel_rfl) (by kernel_rfl) (by kernel_rfl) (by intro _ _ _ h; exact h) (Or.inr ⟨by rfl, rfl⟩) (by assumption) ?_
                            try simp only [Act.put, List.setIfInBounds_toArray, List.set_cons_zero, List.set_cons_succ]
                            refine wpAnyH_take (i := 21) (v := undef) (by simp only [List.getElem?_toArray, List.getElem?_cons_succ, List.getElem?_cons_zero]; rfl) (by kernel_rfl) (by kernel_rfl) (by kernel_rfl) (by intro _ _ _ h; exact h) (Or.inr ⟨by rfl, rfl⟩) (by assumption) ?_
                            try simp only [Act.put, List.setIfInBounds_toArray, List.set_cons_zero, List.set_cons_succ]
                            refine wpAnyH_take (i := 22) (v := undef) (by simp only [List.getElem?_toArray, List.getElem?_cons_succ, List.getElem?_cons_zero]; rfl) (by kernel_rfl) (by kernel_rfl) (by kernel_rfl) (by intro _ _ _ h; exact h) (Or.inr ⟨by rfl, rfl⟩) (by assumption) ?_
                            try simp only [Act.put, List.setIfInBounds_toArray, List.set_cons_zero, List.set_cons_succ]
                            refine wpAnyH_take (i := 23) (v := ?_) (by simp only [List.getElem?_toArray, List.getElem?_cons_succ, List.getElem?_cons_zero]; rfl) (by kernel_rfl) (by kernel_rfl) (by kernel_rfl) (by intro _ _ _ h; exact h) (Or.inl ⟨by rfl, ?_⟩) (by assumption) ?_
                            rotate_left
                            · intro w hSw; (try dsimp only at hSw); go_simp; try with_reducible rfl
                            try simp only [Act.put, List.setIfInBounds_toArray, List.set_cons_zero, List.set_cons_succ]
                            refine wpAnyH_done (by kernel_rfl) ?_ _
                            go_wp2
                            go_roundw
                            case rel => exact ⟨k + 1, by omega, by go_num, Lib.hid (HRr.out.trans ((Below.refl _ _).drew.trans (HB8.out.mono (by simp; omega))))⟩
                            case measure => simp [intOf]; omega
                      · obtain rfl : k = n := by omega
                        have HR2 := HRr
                        go_wp2_with fail
                        go_roundw
                        case rel => exact ⟨i + 1, by omega, by go_num, HR2⟩
                        case measure => simp [intOf]; omega
                  · clear hpn
                    rw [HW6.out] at y6 z3 e2
                    go_wp2_with fail
                    rw [← HW6.out]
                    go_loopw [104] (fun kv wr => ∃ k : Nat, k ≤ n ∧ kv = .int .i64 k ∧ Hid (Below (pb + 1) W5 wr)) (fun kv _ => n - (intOf kv).toNat)
                    case atStart => exact ⟨0, by omega, rfl, HB6⟩
                    case round =>
                      obtain ⟨k, hk, rfl, HRr⟩ := hrel
                      by_cases hlk : k < n
                      · have hszr := HRr.out.size
                        have hzp : pb < wr.heap.size := by omega
                        have hzh : h < wr.heap.size := by omega
                        have HB7 : Hid (Below w.heap.size w wr) := Lib.hid (HX5.out.trans (HRr.out.mono (by omega)))
                        obtain ⟨kb2, ko2, hkb2, hzk, _, _, zf, _⟩ := (H.out.below HB7.out (Nat.le_refl _)).blk k (by rw [← HN.out]; exact hlk)
                        rw [← HBa.out] at hkb2
                        injection hkb2 with hkb2
                        injection hkb2 with hkb2 hkb3
                        subst hkb2 hkb3
                        have zh : ∀ o, wr.cell? ⟨h, o, none⟩ = w3.cell? ⟨h, o, none⟩ := fun o => (HRr.out.cell (p := ⟨_, _, none⟩) (by simp only; omega)).trans (HB5.out.cell (p := ⟨_, _, none⟩) (by simp only; omega))
                        have z0 := (zh 0).trans n0
                        have z1 := (zh 1).trans n1
                        have z2 := (zh 2).trans n2
                        have hrk := HRw.out.of_block (HRr.out.block pb (by omega))
                        have zk := hrk.cell hlk
                        have zi := hrk.cell hlt
                        rw [← HPi.out] at zi
                        have HKp : Hid (k < P.bs.length) := Lib.hid (by rw [← HN.out]; exact hlk)
                        have hbef := orderL_before D (by exact HNow.out) (i := i) (k := k) (by rw [HDn.out]; exact HIp.out) (by rw [HDn.out]; exact HKp.out)
                        have hnk : D.now k = !(P.bs.getD k default).ff := by unfold PackD.now; rw [HDk.out]
                        rw [hnk] at hbef
                        rw [← HL.out] at hbef
                        obtain ⟨kf, hkf⟩ : ∃ f, f = (P.bs.getD k default).ff := ⟨_, rfl⟩
                        rw [← hkf] at zf hbef
                        obtain ⟨pk, hpk⟩ : ∃ p, p = plTo l l.length k := ⟨_, rfl⟩
                        rw [← hpk] at zk hbef
                        rw [← HPi.out] at hbef
                        have hDP := HD.out
                        obtain ⟨hg, hhg⟩ : ∃ g, g = hangsB P.data i k := ⟨_, rfl⟩
                        rw [hDP, ← hhg] at hbef
                        have HHg := Lib.hid hhg
                        have HBef := Lib.hid hbef
                        clear hbef hnk hkf hpk hDP hhg hrk zh
                        cases hg
                        · go_wp2_with fail
                          refine wp_region_held_drew (S := fun w' => w'.cell? ⟨h, 0, none⟩ = some (.int .i64 ins) ∧ w'.cell? ⟨h, 1, none⟩ = some (.slice (some ⟨kb, ko, none⟩) n bc) ∧ w'.cell? ⟨h, 2, none⟩ = some (.slice oa on oc) ∧ w'.cell? ⟨kb, ko + k * 4 + 2, none⟩ = some (.bool kf) ∧ w'.cell? ⟨pb, k, none⟩ = some (.int .i64 pk) ∧ w'.cell? ⟨pb, i, none⟩ = some (.int .i64 pi)) (by kernel_rfl) (⟨z0, z1, z2, zf, zk, zi⟩) (fun hHeld => ?_)
                          refine wpAnyH_take (i := 0) (v := ?_) (by simp only [List.getElem?_toArray, List.getElem?_cons_succ, List.getElem?_cons_zero]; rfl) (by kernel_rfl) (by kernel_rfl) (by kernel_rfl) (by intro _ _ _ h; exact h) (Or.inl ⟨by rfl, ?_⟩) (by assumption) ?_
                          rotate_left
                          · intro w hSw; (try dsimp only at hSw); go_simp; try with_reducible rfl
                          try simp only [Act.put, List.setIfInBounds_toArray, List.set_cons_zero, List.set_cons_succ]
                          refine wpAnyH_take (i := 1) (v := ?_) (by simp only [List.getElem?_toArray, List.getElem?_cons_succ, List.getElem?_cons_zero]; rfl) (by kernel_rfl) (by kernel_rfl) (by kernel_rfl) (by intro _ _ _ h; exact h) (Or.inl ⟨by rfl, ?_⟩) (by assumption) ?_
                          rotate_left
                          · intro w hSw; (try dsimp only at hSw); go_simp; try with_reducible rfl
                          try simp only [Act.put, List.setIfInBounds_toArray, List.set_cons_zero, List.set_cons_succ]
                          refine wpAnyH_take (i := 2) (v := ?_) (by simp only [List.getElem?_toArray, List.getElem?_cons_succ, List.getElem?_cons_zero]; rfl) (by kernel_rfl) (by kernel_rfl) (by kernel_rfl) (by intro _ _ _ h; exact h) (Or.inl ⟨by rfl, ?_⟩) (by assumption) ?_
                          rotate_left
                          · intro w hSw; (try dsimp only at hSw); go_simp; try with_reducible rfl
                          try simp only [Act.put, List.setIfInBounds_toArray, List.set_cons_zero, List.set_cons_succ]
                          refine wpAnyH_ready (rs := [3]) (by kernel_rfl) (by simp) ?_
                          refine AllReadyH.cons (o := _) (by simp only [List.getElem?_toArray, List.getElem?_cons_succ, List.getElem?_cons_zero]; rfl) (fun K hK => ?_) AllReadyH.nil
                          go_simp
                          go_at_call 30
                          have C30 := hangs30 wr.drew P (H.out.below HB7.out.drew (Nat.le_refl _)) HF.out HI0.out HL4.out i k HIp.out HKp.out
                          rw [HVv.out] at C30
                          refine Calls.mono C30 ?_
                          clear C30
                          rintro e w8 ⟨rfl, hb8⟩
                          rw [← HHg.out]
                          have HB8 := Lib.hid hb8
                          have hk8 : ∀ b o, b < wr.heap.size → w8.cell? ⟨b, o, none⟩ = wr.cell? ⟨b, o, none⟩ := fun b o hb => hb8.cell (p := ⟨b, o, none⟩) (by simpa using hb)
                          clear hb8
                          go_simp
                          refine hK.out _ _ (by exact ⟨(hk8 _ _ hzh).trans z0, (hk8 _ _ hzh).trans z1, (hk8 _ _ hzh).trans z2, (hk8 _ _ hzk).trans zf, (hk8 _ _ hzp).trans zk, (hk8 _ _ hzp).trans zi⟩) (fun hHeld => ?_)
                          clear hK K
                          try simp only [Act.put, List.setIfInBounds_toArray, List.set_cons_zero, List.set_cons_succ]
                          refine wpAnyH_take (i := 4) (v := ?_) (by simp only [List.getElem?_toArray, List.getElem?_cons_succ, List.getElem?_cons_zero]; rfl) (by kernel_rfl) (by kernel_rfl) (by kernel_rfl) (by intro _ _ _ h; exact h) (Or.inl ⟨by rfl, ?_⟩) (by assumption) ?_
                          rotate_left
                          · intro w hSw; (try dsimp only at hSw); go_simp; try with_reducible rfl
                          try simp only [Act.put, List.setIfInBounds_toArray, List.set_cons_zero, List.set_cons_succ]
                          refine wpAnyH_take (i := 5) (v := undef) (by simp only [List.getElem?_toArray, List.getElem?_cons_succ, List.getElem?_cons_zero]; rfl) (by kernel_rfl) (by kernel_rfl) (by kernel_rfl) (by intro _ _ _ h; exact h) (Or.inr ⟨by rfl, rfl⟩) (by assumption) ?_
                          try simp only [Act.put, List.setIfInBounds_toArray, List.set_cons_zero, List.set_cons_succ]
                          refine wpAnyH_take (i := 6) (v := undef) (by simp only [List.getElem?_toArray, List.getElem?_cons_succ, List.getElem?_cons_zero]; rfl) (by kernel_rfl) (by kernel_rfl) (by kernel_rfl) (by intro _ _ _ h; exact h) (Or.inr ⟨by rfl, rfl⟩) (by assumption) ?_
                          try simp only [Act.put, List.setIfInBounds_toArray, List.set_cons_zero, List.set_cons_succ]
                          refine wpAnyH_take (i := 7) (v := undef) (by simp only [List.getElem?_toArray, List.getElem?_cons_succ, List.getElem?_cons_zero]; rfl) (by kernel_rfl) (by kernel_rfl) (by kernel_rfl) (by intro _ _ _ h; exact h) (Or.inr ⟨by rfl, rfl⟩) (by assumption) ?_
                          try simp only [Act.put, List.setIfInBounds_toArray, List.set_cons_zero, List.set_cons_succ]
                          refine wpAnyH_take (i := 8) (v := undef) (by simp only [List.getElem?_toArray, List.getElem?_cons_succ, List.getElem?_cons_zero]; rfl) (by kernel_rfl) (by kernel_rfl) (by kernel_rfl) (by intro _ _ _ h; exact h) (Or.inr ⟨by rfl, rfl⟩) (by assumption) ?_
                          try simp only [Act.put, List.setIfInBounds_toArray, List.set_cons_zero, List.set_cons_succ]
                          refine wpAnyH_take (i := 9) (v := undef) (by simp only [List.getElem?_toArray, List.getElem?_cons_succ, List.getElem?_cons_zero]; rfl) (by kernel_rfl) (by kernel_rfl) (by kernel_rfl) (by intro _ _ _ h; exact h) (Or.inr ⟨by rfl, rfl⟩) (by assumption) ?_
                          try simp only [Act.put, List.setIfInBounds_toArray, List.set_cons_zero, List.set_cons_succ]
                          refine wpAnyH_take (i := 10) (v := undef) (by simp only [List.getElem?_toArray, List.getElem?_cons_succ, List.getElem?_cons_zero]; rfl) (by kernel_rfl) (by kernel_rfl) (by kernel_rfl) (by intro _ _ _ h; exact h) (Or.inr ⟨by rfl, rfl⟩) (by assumption) ?_
                          try simp only [Act.put, List.setIfInBounds_toArray, List.set_cons_zero, List.set_cons_succ]
                          refine wpAnyH_take (i := 11) (v := undef) (by simp only [List.getElem?_toArray, List.getElem?_cons_succ, List.getElem?_cons_zero]; rfl) (by kernel_rfl) (by kernel_rfl) (by kernel_rfl) (by intro _ _ _ h; exact h) (Or.inr ⟨by rfl, rfl⟩) (by assumption) ?_
                          try simp only [Act.put, List.setIfInBounds_toArray, List.set_cons_zero, List.set_cons_succ]
                          refine wpAnyH_take (i := 12) (v := ?_) (by simp only [List.getElem?_toArray, List.getElem?_cons_succ, List.getElem?_cons_zero]; rfl) (by kernel_rfl) (by kernel_rfl) (by kernel_rfl) (by intro _ _ _ h; exact h) (Or.inl ⟨by rfl, ?_⟩) (by assumption) ?_
                          rotate_left
                          · intro w hSw; (try dsimp only at hSw); go_simp; try with_reducible rfl
                          try simp only [Act.put, List.setIfInBounds_toArray, List.set_cons_zero, List.set_cons_succ]
                          refine wpAnyH_take (i := 13) (v := ?_) (by simp only [List.getElem?_toArray, List.getElem?_cons_succ, List.getElem?_cons_zero]; rfl) (by kernel_rfl) (by kernel_rfl) (by kernel_rfl) (by intro _ _ _ h; exact h) (Or.inl ⟨by rfl, ?_⟩) (by assumption) ?_
                          rotate_left
                          · intro w hSw; (try dsimp only at hSw); go_simp; try with_reducible rfl
                          try simp only [Act.put, List.setIfInBounds_toArray, List.set_cons_zero, List.set_cons_succ]
                          refine wpAnyH_take (i := 14) (v := undef) (by simp only [List.getElem?_toArray, List.getElem?_cons_succ, List.getElem?_cons_zero]; rfl) (by kernel_rfl) (by kernel_rfl) (by kernel_rfl) (by intro _ _ _ h; exact h) (Or.inr ⟨by rfl, rfl⟩) (by assumption) ?_
                          try simp only [Act.put, List.setIfInBounds_toArray, List.set_cons_zero, List.set_cons_succ]
                          refine wpAnyH_take (i := 15) (v := undef) (by simp only [List.getElem?_toArray, List.getElem?_cons_succ, List.getElem?_cons_zero]; rfl) (by kernel_rfl) (by kernel_rfl) (by kernel_rfl) (by intro _ _ _ h; exact h) (Or.inr ⟨by rfl, rfl⟩) (by assumption) ?_
                          try simp only [Act.put, List.setIfInBounds_toArray, List.set_cons_zero, List.set_cons_succ]
                          refine wpAnyH_take (i := 16) (v := undef) (by simp only [List.getElem?_toArray, List.getElem?_cons_succ, List.getElem?_cons_zero]; rfl) (by kernel_rfl) (by kernel_rfl) (by kernel_rfl) (by intro _ _ _ h; exact h) (Or.inr ⟨by rfl, rfl⟩) (by assumption) ?_
                          try simp only [Act.put, List.setIfInBounds_toArray, List.set_cons_zero, List.set_cons_succ]
                          refine wpAnyH_take (i := 17) (v := undef) (by simp only [List.getElem?_toArray, List.getElem?_cons_succ, List.getElem?_cons_zero]; rfl) (by kernel_rfl) (by kernel_rfl) (by kernel_rfl) (by intro _ _ _ h; exact h) (Or.inr ⟨by rfl, rfl⟩) (by assumption) ?_
                          try simp only [Act.put, List.setIfInBounds_toArray, List.set_cons_zero, List.set_cons_succ]
                          refine wpAnyH_take (i := 18) (v := undef) (by simp only [List.getElem?_toArray, List.getElem?_cons_succ, List.getElem?_cons_zero]; rfl) (by kernel_rfl) (by kernel_rfl) (by kernel_rfl) (by intro _ _ _ h; exact h) (Or.inr ⟨by rfl, rfl⟩) (by assumption) ?_
                          try simp only [Act.put, List.setIfInBounds_toArray, List.set_cons_zero, List.set_cons_succ]
                          refine wpAnyH_take (i := 19) (v := undef) (by simp only [List.getElem?_toArray, List.getElem?_cons_succ, List.getElem?_cons_zero]; rfl) (by kernel_rfl) (by kernel_rfl) (by kernel_rfl) (by intro _ _ _ h; exact h) (Or.inr ⟨by rfl, rfl⟩) (by assumption) ?_
                          try simp only [Act.put, List.setIfInBounds_toArray, List.set_cons_zero, List.set_cons_succ]
                          refine wpAnyH_take (i := 20) (v := undef) (by simp only [List.getElem?_toArray, List.getElem?_cons_succ, List.getElem?_cons_zero]; rfl) (by kernel_rfl) (by kernel_rfl) (by kernel_rfl) (by intro _ _ _ h; exact h) (Or.inr ⟨by rfl, rfl⟩) (by assumption) ?_
                          try simp only [Act.put, List.setIfInBounds_toArray, List.set_cons_zero, List.set_cons_succ]
                          refine wpAnyH_take (i := 21) (v := undef) (by simp only [List.getElem?_toArray, List.getElem?_cons_succ, List.getElem?_cons_zero]; rfl) (by kernel_rfl) (by kernel_rfl) (by kernel_rfl) (by intro _ _ _ h; exact h) (Or.inr ⟨by rfl, rfl⟩) (by assumption) ?_
                          try simp only [Act.put, List.setIfInBounds_toArray, List.set_cons_zero, List.set_cons_succ]
                          refine wpAnyH_take (i := 22) (v := undef) (by simp only [List.getElem?_toArray, List.getElem?_cons_succ, List.getElem?_cons_zero]; rfl) (by kernel_rfl) (by kernel_rfl) (by kernel_rfl) (by intro _ _ _ h; exact h) (Or.inr ⟨by rfl, rfl⟩) (by assumption) ?_
                          try simp only [Act.put, List.setIfInBounds_toArray, List.set_cons_zero, List.set_cons_succ]
                          refine wpAnyH_take (i := 23) (v := ?_) (by simp only [List.getElem?_toArray, List.getElem?_cons_succ, List.getElem?_cons_zero]; rfl) (by kernel_rfl) (by kernel_rfl) (by kernel_rfl) (by intro _ _ _ h; exact h) (Or.inl ⟨by rfl, ?_⟩) (by assumption) ?_
                          rotate_left
                          · intro w hSw; (try dsimp only at hSw); go_simp; try with_reducible rfl
                          try simp only [Act.put, List.setIfInBounds_toArray, List.set_cons_zero, List.set_cons_succ]
                          refine wpAnyH_done (by kernel_rfl) ?_ _
                          go_wp2
                          go_roundw
                          case rel => exact ⟨k + 1, by omega, by go_num, Lib.hid (HRr.out.trans ((Below.refl _ _).drew.trans (HB8.out.mono (by simp; omega))))⟩
                          case measure => simp [intOf]; omega
                        · cases kf
                          · have hcmp : decide (pi ≤ pk) = false := by have := HBef.out rfl rfl; simpa using this
                            go_wp2_with fail
                            refine wp_region_held_drew (S := fun w' => w'.cell? ⟨h, 0, none⟩ = some (.int .i64 ins) ∧ w'.cell? ⟨h, 1, none⟩ = some (.slice (some ⟨kb, ko, none⟩) n bc) ∧ w'.cell? ⟨h, 2, none⟩ = some (.slice oa on oc) ∧ w'.cell? ⟨kb, ko + k * 4 + 2, none⟩ = some (.bool false) ∧ w'.cell? ⟨pb, k, none⟩ = some (.int .i64 pk) ∧ w'.cell? ⟨pb, i, none⟩ = some (.int .i64 pi)) (by kernel_rfl) (⟨z0, z1, z2, zf, zk, zi⟩) (fun hHeld => ?_)
                            refine wpAnyH_take (i := 0) (v := ?_) (by simp only [List.getElem?_toArray, List.getElem?_cons_succ, List.getElem?_cons_zero]; rfl) (by kernel_rfl) (by kernel_rfl) (by kernel_rfl) (by intro _ _ _ h; exact h) (Or.inl ⟨by rfl, ?_⟩) (by assumption) ?_
                            rotate_left
                            · intro w hSw; (try dsimp only at hSw); go_simp; try with_reducible rfl
                            try simp only [Act.put, List.setIfInBounds_toArray, List.set_cons_zero, List.set_cons_succ]
                            refine wpAnyH_take (i := 1) (v := ?_) (by simp only [List.getElem?_toArray, List.getElem?_cons_succ, List.getElem?_cons_zero]; rfl) (by kernel_rfl) (by kernel_rfl) (by kernel_rfl) (by intro _ _ _ h; exact h) (Or.inl ⟨by rfl, ?_⟩) (by assumption) ?_
                            rotate_left
                            · intro w hSw; (try dsimp only at hSw); go_simp; try with_reducible rfl
                            try simp only [Act.put, List.setIfInBounds_toArray, List.set_cons_zero, List.set_cons_succ]
                            refine wpAnyH_take (i := 2) (v := ?_) (by simp only [List.getElem?_toArray, List.getElem?_cons_succ, List.getElem?_cons_zero]; rfl) (by kernel_rfl) (by kernel_rfl) (by kernel_rfl) (by intro _ _ _ h; exact h) (Or.inl ⟨by rfl, ?_⟩) (by assumption) ?_
                            rotate_left
                            · intro w hSw; (try dsimp only at hSw); go_simp; try with_reducible rfl
                            try simp only [Act.put, List.setIfInBounds_toArray, List.set_cons_zero, List.set_cons_succ]
                            refine wpAnyH_ready (rs := [3]) (by kernel_rfl) (by simp) ?_
                            refine AllReadyH.cons (o := _) (by simp only [List.getElem?_toArray, List.getElem?_cons_succ, List.getElem?_cons_zero]; rfl) (fun K hK => ?_) AllReadyH.nil
                            go_simp
                            go_at_call 30
                            have C30 := hangs30 wr.drew P (H.out.below HB7.out.drew (Nat.le_refl _)) HF.out HI0.out HL4.out i k HIp.out HKp.out
                            rw [HVv.out] at C30
                            refine Calls.mono C30 ?_
                            clear C30
                            rintro e w8 ⟨rfl, hb8⟩
                            rw [← HHg.out]
                            have HB8 := Lib.hid hb8
                            have hk8 : ∀ b o, b < wr.heap.size → w8.cell? ⟨b, o, none⟩ = wr.cell? ⟨b, o, none⟩ := fun b o hb => hb8.cell (p := ⟨b, o, none⟩) (by simpa using hb)
                            clear hb8
                            go_simp
                            refine hK.out _ _ (by exact ⟨(hk8 _ _ hzh).trans z0, (hk8 _ _ hzh).trans z1, (hk8 _ _ hzh).trans z2, (hk8 _ _ hzk).trans zf, (hk8 _ _ hzp).trans zk, (hk8 _ _ hzp).trans zi⟩) (fun hHeld => ?_)
                            clear hK K
                            try simp only [Act.put, List.setIfInBounds_toArray, List.set_cons_zero, List.set_cons_succ]
                            refine wpAnyH_take (i := 4) (v := ?_) (by simp only [List.getElem?_toArray, List.getElem?_cons_succ, List.getElem?_cons_zero]; rfl) (by kernel_rfl) (by kernel_rfl) (by kernel_rfl) (by intro _ _ _ h; exact h) (Or.inl ⟨by rfl, ?_⟩) (by assumption) ?_
                            rotate_left
                            · intro w hSw; (try dsimp only at hSw); go_simp; try with_reducible rfl
                            try simp only [Act.put, List.setIfInBounds_toArray, List.set_cons_zero, List.set_cons_succ]
                            refine wpAnyH_take (i := 5) (v := ?_) (by simp only [List.getElem?_toArray, List.getElem?_cons_succ, List.getElem?_cons_zero]; rfl) (by kernel_rfl) (by kernel_rfl) (by kernel_rfl) (by intro _ _ _ h; exact h) (Or.inl ⟨by rfl, ?_⟩) (by assumption) ?_
                            rotate_left
                            · intro w hSw; (try dsimp only at hSw); go_simp; try with_reducible rfl
                            try simp only [Act.put, List.setIfInBounds_toArray, List.set_cons_zero, List.set_cons_succ]
                            refine wpAnyH_take (i := 6) (v := ?_) (by simp only [List.getElem?_toArray, List.getElem?_cons_succ, List.getElem?_cons_zero]; rfl) (by kernel_rfl) (by kernel_rfl) (by kernel_rfl) (by intro _ _ _ h; exact h) (Or.inl ⟨by rfl, ?_⟩) (by assumption) ?_
                            rotate_left
                            · intro w hSw; (try dsimp only at hSw); go_simp; try with_reducible rfl
                            try simp only [Act.put, List.setIfInBounds_toArray, List.set_cons_zero, List.set_cons_succ]
                            refine wpAnyH_take (i := 7) (v := ?_) (by simp only [List.getElem?_toArray, List.getElem?_cons_succ, List.getElem?_cons_zero]; rfl) (by kernel_rfl) (by kernel_rfl) (by kernel_rfl) (by intro _ _ _ h; exact h) (Or.inl ⟨by rfl, ?_⟩) (by assumption) ?_
                            rotate_left
                            · intro w hSw; (try dsimp only at hSw); go_simp; try with_reducible rfl
                            try simp only [Act.put, List.setIfInBounds_toArray, List.set_cons_zero, List.set_cons_succ]
                            refine wpAnyH_take (i := 8) (v := ?_) (by simp only [List.getElem?_toArray, List.getElem?_cons_succ, List.getElem?_cons_zero]; rfl) (by kernel_rfl) (by kernel_rfl) (by kernel_rfl) (by intro _ _ _ h; exact h) (Or.inl ⟨by rfl, ?_⟩) (by assumption) ?_
                            rotate_left
                            · intro w hSw; (try dsimp only at hSw); go_simp; first | with_reducible rfl | rw [if_pos (by omega)]
                            try simp only [Act.put, List.setIfInBounds_toArray, List.set_cons_zero, List.set_cons_succ]
                            refine wpAnyH_take (i := 9) (v := ?_) (by simp only [List.getElem?_toArray, List.getElem?_cons_succ, List.getElem?_cons_zero]; rfl) (by kernel_rfl) (by kernel_rfl) (by kernel_rfl) (by intro _ _ _ h; exact h) (Or.inl ⟨by rfl, ?_⟩) (by assumption) ?_
                            rotate_left
                            · intro w hSw; (try dsimp only at hSw); go_simp; try with_reducible rfl
                            try simp only [Act.put, List.setIfInBounds_toArray, List.set_cons_zero, List.set_cons_succ]
                            refine wpAnyH_take (i := 10) (v := ?_) (by simp only [List.getElem?_toArray, List.getElem?_cons_succ, List.getElem?_cons_zero]; rfl) (by kernel_rfl) (by kernel_rfl) (by kernel_rfl) (by intro _ _ _ h; exact h) (Or.inl ⟨by rfl, ?_⟩) (by assumption) ?_
                            rotate_left
                            · intro w hSw; (try dsimp only at hSw); go_simp; try with_reducible rfl
                            try simp only [Act.put, List.setIfInBounds_toArray, List.set_cons_zero, List.set_cons_succ]
                            refine wpAnyH_take (i := 11) (v := ?_) (by simp only [List.getElem?_toArray, List.getElem?_cons_succ, List.getElem?_cons_zero]; rfl) (by kernel_rfl) (by kernel_rfl) (by kernel_rfl) (by intro _ _ _ h; exact h) (Or.inl ⟨by rfl, ?_⟩) (by assumption) ?_
                            rotate_left
                            · intro w hSw; (try dsimp only at hSw); go_simp; try with_reducible rfl
                            try simp only [Act.put, List.setIfInBounds_toArray, List.set_cons_zero, List.set_cons_succ]
                            refine wpAnyH_take (i := 12) (v := ?_) (by simp only [List.getElem?_toArray, List.getElem?_cons_succ, List.getElem?_cons_zero]; rfl) (by kernel_rfl) (by kernel_rfl) (by kernel_rfl) (by intro _ _ _ h; exact h) (Or.inl ⟨by rfl, ?_⟩) (by assumption) ?_
                            rotate_left
                            · intro w hSw; (try dsimp only at hSw); go_simp; try with_reducible rfl
                            try simp only [Act.put, List.setIfInBounds_toArray, List.set_cons_zero, List.set_cons_succ]
                            refine wpAnyH_take (i := 13) (v := ?_) (by simp only [List.getElem?_toArray, List.getElem?_cons_succ, List.getElem?_cons_zero]; rfl) (by kernel_rfl) (by kernel_rfl) (by kernel_rfl) (by intro _ _ _ h; exact h) (Or.inl ⟨by rfl, ?_⟩) (by assumption) ?_
                            rotate_left
                            · intro w hSw; (try dsimp only at hSw); go_simp; try with_reducible rfl
                            try simp only [Act.put, List.setIfInBounds_toArray, List.set_cons_zero, List.set_cons_succ]
                            refine wpAnyH_take (i := 14) (v := ?_) (by simp only [List.getElem?_toArray, List.getElem?_cons_succ, List.getElem?_cons_zero]; rfl) (by kernel_rfl) (by kernel_rfl) (by kernel_rfl) (by intro _ _ _ h; exact h) (Or.inl ⟨by rfl, ?_⟩) (by assumption) ?_
                            rotate_left
                            · intro w hSw; (try dsimp only at hSw); go_simp; try with_reducible rfl
                            try simp only [Act.put, List.setIfInBounds_toArray, List.set_cons_zero, List.set_cons_succ]
                            refine wpAnyH_take (i := 15) (v := ?_) (by simp only [List.getElem?_toArray, List.getElem?_cons_succ, List.getElem?_cons_zero]; rfl) (by kernel_rfl) (by kernel_rfl) (by kernel_rfl) (by intro _ _ _ h; exact h) (Or.inl ⟨by rfl, ?_⟩) (by assumption) ?_
                            rotate_left
                            · intro w hSw; (try dsimp only at hSw); go_simp; try with_reducible rfl
                            try simp only [Act.put, List.setIfInBounds_toArray, List.set_cons_zero, List.set_cons_succ]
                            refine wpAnyH_take (i := 16) (v := ?_) (by simp only [List.getElem?_toArray, List.getElem?_cons_succ, List.getElem?_cons_zero]; rfl) (by kernel_rfl) (by kernel_rfl) (by kernel_rfl) (by intro _ _ _ h; exact h) (Or.inl ⟨by rfl, ?_⟩) (by assumption) ?_
                            rotate_left
                            · intro w hSw; (try dsimp only at hSw); go_simp; first | with_reducible rfl | rw [if_pos (by omega)]
                            try simp only [Act.put, List.setIfInBounds_toArray, List.set_cons_zero, List.set_cons_succ]
                            refine wpAnyH_take (i := 17) (v := ?_) (by simp only [List.getElem?_toArray, List.getElem?_cons_succ, List.getElem?_cons_zero]; rfl) (by kernel_rfl) (by kernel_rfl) (by kernel_rfl) (by intro _ _ _ h; exact h) (Or.inl ⟨by rfl, ?_⟩) (by assumption) ?_
                            rotate_left
                            · intro w hSw; (try dsimp only at hSw); go_simp; try with_reducible rfl
                            try simp only [Act.put, List.setIfInBounds_toArray, List.set_cons_zero, List.set_cons_succ]
                            refine wpAnyH_take (i := 18) (v := ?_) (by simp only [List.getElem?_toArray, List.getElem?_cons_succ, List.getElem?_cons_zero]; rfl) (by kernel_rfl) (by kernel_rfl) (by kernel_rfl) (by intro _ _ _ h; exact h) (Or.inl ⟨by rfl, ?_⟩) (by assumption) ?_
                            rotate_left
                            · intro w hSw; (try dsimp only at hSw); go_simp; try with_reducible rfl
                            try simp only [Act.put, List.setIfInBounds_toArray, List.set_cons_zero, List.set_cons_succ]
                            refine wpAnyH_take (i := 19) (v := ?_) (by simp only [List.getElem?_toArray, List.getElem?_cons_succ, List.getElem?_cons_zero]; rfl) (by kernel_rfl) (by kernel_rfl) (by kernel_rfl) (by intro _ _ _ h; exact h) (Or.inl ⟨by rfl, ?_⟩) (by assumption) ?_
                            rotate_left
                            · intro w hSw; (try dsimp only at hSw); go_simp; try with_reducible rfl
                            try simp only [Act.put, List.setIfInBounds_toArray, List.set_cons_zero, List.set_cons_succ]
                            refine wpAnyH_take (i := 20) (v := ?_) (by simp only [List.getElem?_toArray, List.getElem?_cons_succ, List.getElem?_cons_zero]; rfl) (by kernel_rfl) (by kernel_rfl) (by kernel_rfl) (by intro _ _ _ h; exact h) (Or.inl ⟨by rfl, ?_⟩) (by assumption) ?_
                            rotate_left
                            · intro w hSw; (try dsimp only at hSw); go_simp; first | with_reducible rfl | rw [if_pos (by omega)]
                            try simp only [Act.put, List.setIfInBounds_toArray, List.set_cons_zero, List.set_cons_succ]
                            refine wpAnyH_take (i := 21) (v := ?_) (by simp only [List.getElem?_toArray, List.getElem?_cons_succ, List.getElem?_cons_zero]; rfl) (by kernel_rfl) (by kernel_rfl) (by kernel_rfl) (by intro _ _ _ h; exact h) (Or.inl ⟨by rfl, ?_⟩) (by assumption) ?_
                            rotate_left
                            · intro w hSw; (try dsimp only at hSw); go_simp; try with_reducible rfl
                            try simp only [Act.put, List.setIfInBounds_toArray, List.set_cons_zero, List.set_cons_succ]
                            refine wpAnyH_take (i := 22) (v := ?_) (by simp only [List.getElem?_toArray, List.getElem?_cons_succ, List.getElem?_cons_zero]; rfl) (by kernel_rfl) (by kernel_rfl) (by kernel_rfl) (by intro _ _ _ h; exact h) (Or.inl ⟨by rfl, ?_⟩) (by assumption) ?_
                            rotate_left
                            · intro w hSw; (try dsimp only at hSw); go_simp; try with_reducible rfl
                            try simp only [Act.put, List.setIfInBounds_toArray, List.set_cons_zero, List.set_cons_succ]
                            refine wpAnyH_take (i := 23) (v := ?_) (by simp only [List.getElem?_toArray, List.getElem?_cons_succ, List.getElem?_cons_zero]; rfl) (by kernel_rfl) (by kernel_rfl) (by kernel_rfl) (by intro _ _ _ h; exact h) (Or.inl ⟨by rfl, ?_⟩) (by assumption) ?_
                            rotate_left
                            · intro w hSw; (try dsimp only at hSw); go_simp; try with_reducible rfl
                            try simp only [Act.put, List.setIfInBounds_toArray, List.set_cons_zero, List.set_cons_succ]
                            refine wpAnyH_done (by kernel_rfl) ?_ _
                            go_wp2
                            go_roundw
                            case rel => exact ⟨k + 1, by omega, by go_num, Lib.hid (HRr.out.trans ((Below.refl _ _).drew.trans (HB8.out.mono (by simp; omega))))⟩
                            case measure => simp [intOf]; omega
                          · go_wp2_with fail
                            refine wp_region_held_drew (S := fun w' => w'.cell? ⟨h, 0, none⟩ = some (.int .i64 ins) ∧ w'.cell? ⟨h, 1, none⟩ = some (.slice (some ⟨kb, ko, none⟩) n bc) ∧ w'.cell? ⟨h, 2, none⟩ = some (.slice oa on oc) ∧ w'.cell? ⟨kb, ko + k * 4 + 2, none⟩ = some (.bool true) ∧ w'.cell? ⟨pb, k, none⟩ = some (.int .i64 pk) ∧ w'.cell? ⟨pb, i, none⟩ = some (.int .i64 pi)) (by kernel_rfl) (⟨z0, z1, z2, zf, zk, zi⟩) (fun hHeld => ?_)
                            refine wpAnyH_take (i := 0) (v := ?_) (by simp only [List.getElem?_toArray, List.getElem?_cons_succ, List.getElem?_cons_zero]; rfl) (by kernel_rfl) (by kernel_rfl) (by kernel_rfl) (by intro _ _ _ h; exact h) (Or.inl ⟨by rfl, ?_⟩) (by assumption) ?_
                            rotate_left
                            · intro w hSw; (try dsimp only at hSw); go_simp; try with_reducible rfl
                            try simp only [Act.put, List.setIfInBounds_toArray, List.set_cons_zero, List.set_cons_succ]
                            refine wpAnyH_take (i := 1) (v := ?_) (by simp only [List.getElem?_toArray, List.getElem?_cons_succ, List.getElem?_cons_zero]; rfl) (by kernel_rfl) (by kernel_rfl) (by kernel_rfl) (by intro _ _ _ h; exact h) (Or.inl ⟨by rfl, ?_⟩) (by assumption) ?_
                            rotate_left
                            · intro w hSw; (try dsimp only at hSw); go_simp; try with_reducible rfl
                            try simp only [Act.put, List.setIfInBounds_toArray, List.set_cons_zero, List.set_cons_succ]
                            refine wpAnyH_take (i := 2) (v := ?_) (by simp only [List.getElem?_toArray, List.getElem?_cons_succ, List.getElem?_cons_zero]; rfl) (by kernel_rfl) (by kernel_rfl) (by kernel_rfl) (by intro _ _ _ h; exact h) (Or.inl ⟨by rfl, ?_⟩) (by assumption) ?_
                            rotate_left
                            · intro w hSw; (try dsimp only at hSw); go_simp; try with_reducible rfl
                            try simp only [Act.put, List.setIfInBounds_toArray, List.set_cons_zero, List.set_cons_succ]
                            refine wpAnyH_ready (rs := [3]) (by kernel_rfl) (by simp) ?_
                            refine AllReadyH.cons (o := _) (by simp only [List.getElem?_toArray, List.getElem?_cons_succ, List.getElem?_cons_zero]; rfl) (fun K hK => ?_) AllReadyH.nil
                            go_simp
                            go_at_call 30
                            have C30 := hangs30 wr.drew P (H.out.below HB7.out.drew (Nat.le_refl _)) HF.out HI0.out HL4.out i k HIp.out HKp.out
                            rw [HVv.out] at C30
                            refine Calls.mono C30 ?_
                            clear C30
                            rintro e w8 ⟨rfl, hb8⟩
                            rw [← HHg.out]
                            have HB8 := Lib.hid hb8
                            have hk8 : ∀ b o, b < wr.heap.size → w8.cell? ⟨b, o, none⟩ = wr.cell? ⟨b, o, none⟩ := fun b o hb => hb8.cell (p := ⟨b, o, none⟩) (by simpa using hb)
                            clear hb8
                            go_simp
                            refine hK.out _ _ (by exact ⟨(hk8 _ _ hzh).trans z0, (hk8 _ _ hzh).trans z1, (hk8 _ _ hzh).trans z2, (hk8 _ _ hzk).trans zf, (hk8 _ _ hzp).trans zk, (hk8 _ _ hzp).trans zi⟩) (fun hHeld => ?_)
                            clear hK K
                            try simp only [Act.put, List.setIfInBounds_toArray, List.set_cons_zero, List.set_cons_succ]
                            refine wpAnyH_take (i := 4) (v := ?_) (by simp only [List.getElem?_toArray, List.getElem?_cons_succ, List.getElem?_cons_zero]; rfl) (by kernel_rfl) (by kernel_rfl) (by kernel_rfl) (by intro _ _ _ h; exact h) (Or.inl ⟨by rfl, ?_⟩) (by assumption) ?_
                            rotate_left
                            · intro w hSw; (try dsimp only at hSw); go_simp; try with_reducible rfl
                            try simp only [Act.put, List.setIfInBounds_toArray, List.set_cons_zero, List.set_cons_succ]
                            refine wpAnyH_take (i := 5) (v := ?_) (by simp only [List.getElem?_toArray, List.getElem?_cons_succ, List.getElem?_cons_zero]; rfl) (by kernel_rfl) (by kernel_rfl) (by kernel_rfl) (by intro _ _ _ h; exact h) (Or.inl ⟨by rfl, ?_⟩) (by assumption) ?_
                            rotate_left
                            · intro w hSw; (try dsimp only at hSw); go_simp; try with_reducible rfl
                            try simp only [Act.put, List.setIfInBounds_toArray, List.set_cons_zero, List.set_cons_succ]
                            refine wpAnyH_take (i := 6) (v := ?_) (by simp only [List.getElem?_toArray, List.getElem?_cons_succ, List.getElem?_cons_zero]; rfl) (by kernel_rfl) (by kernel_rfl) (by kernel_rfl) (by intro _ _ _ h; exact h) (Or.inl ⟨by rfl, ?_⟩) (by assumption) ?_
                            rotate_left
                            · intro w hSw; (try dsimp only at hSw); go_simp; try with_reducible rfl
                            try simp only [Act.put, List.setIfInBounds_toArray, List.set_cons_zero, List.set_cons_succ]
                            refine wpAnyH_take (i := 7) (v := ?_) (by simp only [List.getElem?_toArray, List.getElem?_cons_succ, List.getElem?_cons_zero]; rfl) (by kernel_rfl) (by kernel_rfl) (by kernel_rfl) (by intro _ _ _ h; exact h) (Or.inl ⟨by rfl, ?_⟩) (by assumption) ?_
                            rotate_left
                            · intro w hSw; (try dsimp only at hSw); go_simp; try with_reducible rfl
                            try simp only [Act.put, List.setIfInBounds_toArray, List.set_cons_zero, List.set_cons_succ]
                            refine wpAnyH_take (i := 8) (v := ?_) (by simp only [List.getElem?_toArray, List.getElem?_cons_succ, List.getElem?_cons_zero]; rfl) (by kernel_rfl) (by kernel_rfl) (by kernel_rfl) (by intro _ _ _ h; exact h) (Or.inl ⟨by rfl, ?_⟩) (by assumption) ?_
                            rotate_left
                            · intro w hSw; (try dsimp only at hSw); go_simp; first | with_reducible rfl | rw [if_pos (by omega)]
                            try simp only [Act.put, List.setIfInBounds_toArray, List.set_cons_zero, List.set_cons_succ]
                            refine wpAnyH_take (i := 9) (v := ?_) (by simp only [List.getElem?_toArray, List.getElem?_cons_succ, List.getElem?_cons_zero]; rfl) (by kernel_rfl) (by kernel_rfl) (by kernel_rfl) (by intro _ _ _ h; exact h) (Or.inl ⟨by rfl, ?_⟩) (by assumption) ?_
                            rotate_left
                            · intro w hSw; (try dsimp only at hSw); go_simp; try with_reducible rfl
                            try simp only [Act.put, List.setIfInBounds_toArray, List.set_cons_zero, List.set_cons_succ]
                            refine wpAnyH_take (i := 10) (v := ?_) (by simp only [List.getElem?_toArray, List.getElem?_cons_succ, List.getElem?_cons_zero]; rfl) (by kernel_rfl) (by kernel_rfl) (by kernel_rfl) (by intro _ _ _ h; exact h) (Or.inl ⟨by rfl, ?_⟩) (by assumption) ?_
                            rotate_left
                            · intro w hSw; (try dsimp only at hSw); go_simp; try with_reducible rfl
                            try simp only [Act.put, List.setIfInBounds_toArray, List.set_cons_zero, List.set_cons_succ]
                            refine wpAnyH_take (i := 11) (v := ?_) (by simp only [List.getElem?_toArray, List.getElem?_cons_succ, List.getElem?_cons_zero]; rfl) (by kernel_rfl) (by kernel_rfl) (by kernel_rfl) (by intro _ _ _ h; exact h) (Or.inl ⟨by rfl, ?_⟩) (by assumption) ?_
                            rotate_left
                            · intro w hSw; (try dsimp only at hSw); go_simp; try with_reducible rfl
                            try simp only [Act.put, List.setIfInBounds_toArray, List.set_cons_zero, List.set_cons_succ]
                            refine wpAnyH_take (i := 12) (v := ?_) (by simp only [List.getElem?_toArray, List.getElem?_cons_succ, List.getElem?_cons_zero]; rfl) (by kernel_rfl) (by kernel_rfl) (by kernel_rfl) (by intro _ _ _ h; exact h) (Or.inl ⟨by rfl, ?_⟩) (by assumption) ?_
                            rotate_left
                            · intro w hSw; (try dsimp only at hSw); go_simp; try with_reducible rfl
                            try simp only [Act.put, List.setIfInBounds_toArray, List.set_cons_zero, List.set_cons_succ]
                            refine wpAnyH_take (i := 13) (v := ?_) (by simp only [List.getElem?_toArray, List.getElem?_cons_succ, List.getElem?_cons_zero]; rfl) (by kernel_rfl) (by kernel_rfl) (by kernel_rfl) (by intro _ _ _ h; exact h) (Or.inl ⟨by rfl, ?_⟩) (by assumption) ?_
                            rotate_left
                            · intro w hSw; (try dsimp only at hSw); go_simp; try with_reducible rfl
                            try simp only [Act.put, List.setIfInBounds_toArray, List.set_cons_zero, List.set_cons_succ]
                            refine wpAnyH_take (i := 14) (v := undef) (by simp only [List.getElem?_toArray, List.getElem?_cons_succ, List.getElem?_cons_zero]; rfl) (by kernel_rfl) (by kernel_rfl) (by kernel_rfl) (by intro _ _ _ h; exact h) (Or.inr ⟨by rfl, rfl⟩) (by assumption) ?_
                            try simp only [Act.put, List.setIfInBounds_toArray, List.set_cons_zero, List.set_cons_succ]
                            refine wpAnyH_take (i := 15) (v := undef) (by simp only [List.getElem?_toArray, List.getElem?_cons_succ, List.getElem?_cons_zero]; rfl) (by kernel_rfl) (by kernel_rfl) (by kernel_rfl) (by intro _ _ _ h; exact h) (Or.inr ⟨by rfl, rfl⟩) (by assumption) ?_
                            try simp only [Act.put, List.setIfInBounds_toArray, List.set_cons_zero, List.set_cons_succ]
                            refine wpAnyH_take (i := 16) (v := undef) (by simp only [List.getElem?_toArray, List.getElem?_cons_succ, List.getElem?_cons_zero]; rfl) (by kernel_rfl) (by kernel_rfl) (by kernel_rfl) (by intro _ _ _ h; exact h) (Or.inr ⟨by rfl, rfl⟩) (by assumption) ?_
                            try simp only [Act.put, List.setIfInBounds_toArray, List.set_cons_zero, List.set_cons_succ]
                            refine wpAnyH_take (i := 17) (v := undef) (by simp only [List.getElem?_toArray, List.getElem?_cons_succ, List.getElem?_cons_zero]; rfl) (by kernel_rfl) (by kernel_rfl) (by kernel_rfl) (by intro _ _ _ h; exact h) (Or.inr ⟨by rfl, rfl⟩) (by assumption) ?_
                            try simp only [Act.put, List.setIfInBounds_toArray, List.set_cons_zero, List.set_cons_succ]
                            refine wpAnyH_take (i := 18) (v := undef) (by simp only [List.getElem?_toArray, List.getElem?_cons_succ, List.getElem?_cons_zero]; rfl) (by kernel_rfl) (by kernel_rfl) (by kernel_rfl) (by intro _ _ _ h; exact h) (Or.inr ⟨by rfl, rfl⟩) (by assumption) ?_
                            try simp only [Act.put, List.setIfInBounds_toArray, List.set_cons_zero, List.set_cons_succ]
                            refine wpAnyH_take (i := 19) (v := undef) (by simp only [List.getElem?_toArray, List.getElem?_cons_succ, List.getElem?_cons_zero]; rfl) (by kernel_rfl) (by kernel_rfl) (by kernel_rfl) (by intro _ _ _ h; exact h) (Or.inr ⟨by rfl, rfl⟩) (by assumption) ?_
                            try simp only [Act.put, List.setIfInBounds_toArray, List.set_cons_zero, List.set_cons_succ]
                            refine wpAnyH_take (i := 20) (v := undef) (by simp only [List.getElem?_toArray, List.getElem?_cons_succ, List.getElem?_cons_zero]; rfl) (by kernel_rfl) (by kernel_rfl) (by kernel_rfl) (by intro _ _ _ h; exact h) (Or.inr ⟨by rfl, rfl⟩) (by assumption) ?_
                            try simp only [Act.put, List.setIfInBounds_toArray, List.set_cons_zero, List.set_cons_succ]
                            refine wpAnyH_take (i := 21) (v := undef) (by simp only [List.getElem?_toArray, List.getElem?_cons_succ, List.getElem?_cons_zero]; rfl) (by kernel_rfl) (by kernel_rfl) (by kernel_rfl) (by intro _ _ _ h; exact h) (Or.inr ⟨by rfl, rfl⟩) (by assumption) ?_
                            try simp only [Act.put, List.setIfInBounds_toArray, List.set_cons_zero, List.set_cons_succ]
                            refine wpAnyH_take (i := 22) (v := undef) (by simp only [List.getElem?_toArray, List.getElem?_cons_succ, List.getElem?_cons_zero]; rfl) (by kernel_rfl) (by kernel_rfl) (by kernel_rfl) (by intro _ _ _ h; exact h) (Or.inr ⟨by rfl, rfl⟩) (by assumption) ?_
                            try simp only [Act.put, List.setIfInBounds_toArray, List.set_cons_zero, List.set_cons_succ]
                            refine wpAnyH_take (i := 23) (v := ?_) (by simp only [List.getElem?_toArray, List.getElem?_cons_succ, List.getElem?_cons_zero]; rfl) (by kernel_rfl) (by kernel_rfl) (by kernel_rfl) (by intro _ _ _ h; exact h) (Or.inl ⟨by rfl, ?_⟩) (by assumption) ?_
                            rotate_left
                            · intro w hSw; (try dsimp only at hSw); go_simp; try with_reducible rfl
                            try simp only [Act.put, List.setIfInBounds_toArray, List.set_cons_zero, List.set_cons_succ]
                            refine wpAnyH_done (by kernel_rfl) ?_ _
                            go_wp2
                            go_roundw
                            case rel => exact ⟨k + 1, by omega, by go_num, Lib.hid (HRr.out.trans ((Below.refl _ _).drew.trans (HB8.out.mono (by simp; omega))))⟩
                            case measure => simp [intOf]; omega
                      · obtain rfl : k = n := by omega
                        have HR2 := HRr
                        go_wp2_with fail
                        go_roundw
                        case rel => exact ⟨i + 1, by omega, by go_num, HR2⟩
                        case measure => simp [intOf]; omega
                · obtain rfl : i = n := by omega
                  have HF7 : Hid (Below w.heap.size w wr) := Lib.hid (HX5.out.trans (hh.out.mono (by omega)))
                  go_wp2_with fail
                  go_ret
                  exact ⟨rfl, HF7.out⟩
    · have hEn := HE1.out hEz
      obtain ⟨hT0, hE2⟩ := hEn
      have hEb : (E != 0) = true := by simpa using hEz
      have HE2 := Lib.hid hE2
      have HT0 := Lib.hid hT0
      rw [show T.length = 0 by rw [hT0]; rfl]
      clear hEz hT0 hE2
      rcases HE2.out with h1 | h1
      · subst h1
        go_wp2_with fail
        go_ret
        exact ⟨rfl, HX3.out.below⟩
      · subst h1
        go_wp2_with fail
        go_ret
        exact ⟨rfl, HX3.out.below⟩

end Go.Proofs.Ytibimdhmfchcoaa
