import Derived.Test.YtibimdhmfchcoaaO7
import Derived.Test.YtibimdhmfchcoaaA11
namespace Go.Proofs.Ytibimdhmfchcoaa
open Go.RowKit Go.Shelf Go.Maps
set_option linter.unusedVariables false
set_option linter.unusedSimpArgs false

theorem orderT_len (D : PackD) : (orderT D).length ≤ D.n := by
  unfold orderT
  split
  · rw [List.length_map]; exact (orderL_told D).lenN
  · simp
set_option maxRecDepth 100000 in
set_option maxHeartbeats 8000000 in
theorem packLooks (w : World) (P : PackV) (h : PackAt w P) :
    Calls Try.prog 8 #[P.val] w fun e w' => e = .returned (.bool true) ∧ Below w.heap.size w w' := by
  have HX := Lib.hid (PBox.start w P)
  have H := Lib.hid h
  clear h
  obtain ⟨fb, hfb⟩ : ∃ b, b = fewPB P := ⟨_, rfl⟩
  have HFb := Lib.hid hfb
  clear hfb
  go_enter Try.func8, Try.ntmps8
  go_wp2_with fail
  refine (live14 _).mono ?_
  rintro e w1 ⟨rfl, hb1⟩
  have hx1 := HX.out.step hb1 (by simp)
  have HX1 := Lib.hid hx1
  have k0 := hx1.c0
  have k1 := hx1.c1
  have k2 := hx1.c2
  clear hb1 hx1
  go_wp2_with fail
  refine (few28 w1 P (H.out.below HX1.out.below (Nat.le_refl _))).mono ?_
  rintro e w2 ⟨rfl, hb2⟩
  rw [← HFb.out]
  have hx2 := HX1.out.step hb2 HX1.out.size
  have HX2 := Lib.hid hx2
  have m0 := hx2.c0
  have m1 := hx2.c1
  have m2 := hx2.c2
  clear hb2 hx2
  cases fb
  · go_wp2_with fail
    go_ret
    exact ⟨rfl, HX2.out.below⟩
  · have HF := Lib.hid ((fewPB_iff P).1 HFb.out.symm)
    have HT150 := orderT_len P.data
    rw [data_n] at HT150
    have hbs := HF.out.bs
    obtain ⟨E, hE⟩ : ∃ E, E = orderE P.data := ⟨_, rfl⟩
    obtain ⟨T, hT⟩ : ∃ T, T = orderT P.data := ⟨_, rfl⟩
    have HE := Lib.hid hE
    have HT := Lib.hid hT
    rw [← hT] at HT150
    clear hE hT
    go_wp2_with fail
    refine Calls.mono (order29 w2 P (H.out.below HX2.out.below (Nat.le_refl _)) HF.out) ?_
    rintro e w3 ⟨a1, c1, rfl, ho3, hb3⟩
    rw [← HT.out] at ho3
    rw [← HT.out, ← HE.out]
    have hx3 := HX2.out.step hb3 HX2.out.size
    have HX3 := Lib.hid hx3
    have n0 := hx3.c0
    have n1 := hx3.c1
    have n2 := hx3.c2
    obtain ⟨a9, c9, hv9, hs9, _, _⟩ := owns_seq ho3
    injection hv9 with hv1 hv2 hv3
    rw [← hv1] at hs9
    have HS3 := Lib.hid hs9
    clear hb3 hx3 ho3 hs9 hv1 hv2 hv3 k0 k1 k2 m0 m1 m2
    go_wp2_with fail
    refine Calls.mono (order31 w3 P (H.out.below HX3.out.below (Nat.le_refl _)) HF.out) ?_
    rintro e w5 ⟨a2, c2, rfl, ho5, hb5⟩
    rw [← HT.out] at ho5
    rw [← HT.out, ← HE.out]
    have hx5 := HX3.out.step hb5 HX3.out.size
    have HX5 := Lib.hid hx5
    obtain ⟨a8, c8, hv8, hs8, _, _⟩ := owns_seq ho5
    injection hv8 with hv1 hv2 hv3
    rw [← hv1] at hs8
    have HS1 := Lib.hid ((HS3.out.below hb5 (Nat.le_refl _)).below (w' := w5.drew) ((Below.refl _ _).drew) (Nat.le_refl _))
    have HS2 := Lib.hid (hs8.below (w' := w5.drew) ((Below.refl _ _).drew) (Nat.le_refl _))
    clear hb5 hx5 ho5 hs8 hv1 hv2 hv3 n0 n1 n2
    go_wp2_with fail
    refine wp_region_held_drew (S := fun w' => w'.cell? ⟨w.heap.size, 0, none⟩ = some (.int .i64 P.ins) ∧ w'.cell? ⟨w.heap.size, 1, none⟩ = some (.slice P.ba P.bs.length P.bc) ∧ w'.cell? ⟨w.heap.size, 2, none⟩ = some (.slice P.oa P.os.length P.oc)) (by kernel_rfl) (⟨HX5.out.c0, HX5.out.c1, HX5.out.c2⟩) (fun hHeld => ?_)
    refine wpAnyH_take (i := 0) (v := ?_) (by simp only [List.getElem?_toArray, List.getElem?_cons_succ, List.getElem?_cons_zero]; rfl) (by kernel_rfl) (by kernel_rfl) (by kernel_rfl) (by intro _ _ _ h; exact h) (Or.inl ⟨by rfl, ?_⟩) (by assumption) ?_
    rotate_left
    · intro w hSw; (try dsimp only at hSw); go_simp; try with_reducible rfl
    try simp only [Act.put, List.setIfInBounds_toArray, List.set_cons_zero, List.set_cons_succ]
    refine wpAnyH_take (i := 1) (v := ?_) (by simp only [List.getElem?_toArray, List.getElem?_cons_succ, List.getElem?_cons_zero]; rfl) (by kernel_rfl) (by kernel_rfl) (by kernel_rfl) (by intro _ _ _ h; exact h) (Or.inl ⟨by rfl, ?_⟩) (by assumption) ?_
    rotate_left
    · intro w hSw; (try dsimp only at hSw); go_simp; try with_reducible rfl
    try simp only [Act.put, List.setIfInBounds_toArray, List.set_cons_zero, List.set_cons_succ]
    refine wpAnyH_ready (rs := [2]) (by kernel_rfl) (by simp) ?_
    refine AllReadyH.cons (o := _) (by simp only [List.getElem?_toArray, List.getElem?_cons_succ, List.getElem?_cons_zero]; rfl) (fun K hK => ?_) AllReadyH.nil
    go_simp
    go_at_call 32
    refine Calls.mono (sameInts w5.drew a1 a2 T.length c1 T.length c2 T T rfl rfl (by omega) (by omega) HS1.out HS2.out) ?_
    rintro e w6 ⟨rfl, hb6⟩
    rw [show decide (T = T) = true by simp]
    have hx6 := HX5.out.step (C := w5.heap.size) ((Below.refl _ _).drew.trans hb6) HX5.out.size
    have HX6 := Lib.hid hx6
    clear hb6 hx6
    go_simp
    refine hK.out _ _ (by exact ⟨HX6.out.c0, HX6.out.c1, HX6.out.c2⟩) (fun hHeld => ?_)
    clear hK K
    try simp only [Act.put, List.setIfInBounds_toArray, List.set_cons_zero, List.set_cons_succ]
    refine wpAnyH_take (i := 3) (v := ?_) (by simp only [List.getElem?_toArray, List.getElem?_cons_succ, List.getElem?_cons_zero]; rfl) (by kernel_rfl) (by kernel_rfl) (by kernel_rfl) (by intro _ _ _ h; exact h) (Or.inl ⟨by rfl, ?_⟩) (by assumption) ?_
    rotate_left
    · intro w hSw; (try dsimp only at hSw); go_simp; try with_reducible rfl
    try simp only [Act.put, List.setIfInBounds_toArray, List.set_cons_zero, List.set_cons_succ]
    refine wpAnyH_take (i := 4) (v := ?_) (by simp only [List.getElem?_toArray, List.getElem?_cons_succ, List.getElem?_cons_zero]; rfl) (by kernel_rfl) (by kernel_rfl) (by kernel_rfl) (by intro _ _ _ h; exact h) (Or.inl ⟨by rfl, ?_⟩) (by assumption) ?_
    rotate_left
    · intro w hSw; (try dsimp only at hSw); go_simp; try with_reducible rfl
    try simp only [Act.put, List.setIfInBounds_toArray, List.set_cons_zero, List.set_cons_succ]
    refine wpAnyH_take (i := 5) (v := ?_) (by simp only [List.getElem?_toArray, List.getElem?_cons_succ, List.getElem?_cons_zero]; rfl) (by kernel_rfl) (by kernel_rfl) (by kernel_rfl) (by intro _ _ _ h; exact h) (Or.inl ⟨by rfl, ?_⟩) (by assumption) ?_
    rotate_left
    · intro w hSw; (try dsimp only at hSw); go_simp; try with_reducible rfl
    try simp only [Act.put, List.setIfInBounds_toArray, List.set_cons_zero, List.set_cons_succ]
    refine wpAnyH_take (i := 6) (v := ?_) (by simp only [List.getElem?_toArray, List.getElem?_cons_succ, List.getElem?_cons_zero]; rfl) (by kernel_rfl) (by kernel_rfl) (by kernel_rfl) (by intro _ _ _ h; exact h) (Or.inl ⟨by rfl, ?_⟩) (by assumption) ?_
    rotate_left
    · intro w hSw; (try dsimp only at hSw); go_simp; try with_reducible rfl
    try simp only [Act.put, List.setIfInBounds_toArray, List.set_cons_zero, List.set_cons_succ]
    refine wpAnyH_take (i := 7) (v := ?_) (by simp only [List.getElem?_toArray, List.getElem?_cons_succ, List.getElem?_cons_zero]; rfl) (by kernel_rfl) (by kernel_rfl) (by kernel_rfl) (by intro _ _ _ h; exact h) (Or.inl ⟨by rfl, ?_⟩) (by assumption) ?_
    rotate_left
    · intro w hSw; (try dsimp only at hSw); go_simp; try with_reducible rfl
    try simp only [Act.put, List.setIfInBounds_toArray, List.set_cons_zero, List.set_cons_succ]
    refine wpAnyH_take (i := 8) (v := ?_) (by simp only [List.getElem?_toArray, List.getElem?_cons_succ, List.getElem?_cons_zero]; rfl) (by kernel_rfl) (by kernel_rfl) (by kernel_rfl) (by intro _ _ _ h; exact h) (Or.inl ⟨by rfl, ?_⟩) (by assumption) ?_
    rotate_left
    · intro w hSw; (try dsimp only at hSw); go_simp; try with_reducible rfl
    try simp only [Act.put, List.setIfInBounds_toArray, List.set_cons_zero, List.set_cons_succ]
    refine wpAnyH_take (i := 9) (v := ?_) (by simp only [List.getElem?_toArray, List.getElem?_cons_succ, List.getElem?_cons_zero]; rfl) (by kernel_rfl) (by kernel_rfl) (by kernel_rfl) (by intro _ _ _ h; exact h) (Or.inl ⟨by rfl, ?_⟩) (by assumption) ?_
    rotate_left
    · intro w hSw; (try dsimp only at hSw); go_simp; try with_reducible rfl
    try simp only [Act.put, List.setIfInBounds_toArray, List.set_cons_zero, List.set_cons_succ]
    refine wpAnyH_take (i := 11) (v := ?_) (by simp only [List.getElem?_toArray, List.getElem?_cons_succ, List.getElem?_cons_zero]; rfl) (by kernel_rfl) (by kernel_rfl) (by kernel_rfl) (by intro _ _ _ h; exact h) (Or.inl ⟨by rfl, ?_⟩) (by assumption) ?_
    rotate_left
    · intro w hSw; (try dsimp only at hSw); go_simp; try with_reducible rfl
    try simp only [Act.put, List.setIfInBounds_toArray, List.set_cons_zero, List.set_cons_succ]
    refine wpAnyH_ready (rs := [10]) (by kernel_rfl) (by simp) ?_
    refine AllReadyH.cons (o := _) (by simp only [List.getElem?_toArray, List.getElem?_cons_succ, List.getElem?_cons_zero]; rfl) (fun K hK => ?_) AllReadyH.nil
    go_simp
    go_at_call 33
    refine Calls.mono (check33 w6 P (H.out.below HX6.out.below (Nat.le_refl _)) HF.out) ?_
    rintro e w7 ⟨rfl, hb7⟩
    rw [← HE.out]
    have hx7 := HX6.out.step hb7 HX6.out.size
    have HX7 := Lib.hid hx7
    clear hb7 hx7
    go_simp
    refine hK.out _ _ (by exact ⟨HX7.out.c0, HX7.out.c1, HX7.out.c2⟩) (fun hHeld => ?_)
    clear hK K
    try simp only [Act.put, List.setIfInBounds_toArray, List.set_cons_zero, List.set_cons_succ]
    refine wpAnyH_ready (rs := [12]) (by kernel_rfl) (by simp) ?_
    refine AllReadyH.cons (o := _) (by simp only [List.getElem?_toArray, List.getElem?_cons_succ, List.getElem?_cons_zero]; rfl) (fun K hK => ?_) AllReadyH.nil
    go_simp
    go_at_call 34
    refine Calls.mono (check34 w7 P (H.out.below HX7.out.below (Nat.le_refl _)) HF.out) ?_
    rintro e w8 ⟨rfl, hb8⟩
    rw [← HE.out]
    have hx8 := HX7.out.step hb8 HX7.out.size
    have HX8 := Lib.hid hx8
    clear hb8 hx8
    go_simp
    refine hK.out _ _ (by exact ⟨HX8.out.c0, HX8.out.c1, HX8.out.c2⟩) (fun hHeld => ?_)
    clear hK K
    try simp only [Act.put, List.setIfInBounds_toArray, List.set_cons_zero, List.set_cons_succ]
    refine wpAnyH_take (i := 13) (v := ?_) (by simp only [List.getElem?_toArray, List.getElem?_cons_succ, List.getElem?_cons_zero]; rfl) (by kernel_rfl) (by kernel_rfl) (by kernel_rfl) (by intro _ _ _ h; exact h) (Or.inl ⟨by rfl, ?_⟩) (by assumption) ?_
    rotate_left
    · intro w hSw; (try dsimp only at hSw); go_simp; try with_reducible rfl
    try simp only [Act.put, List.setIfInBounds_toArray, List.set_cons_zero, List.set_cons_succ]
    refine wpAnyH_take (i := 14) (v := ?_) (by simp only [List.getElem?_toArray, List.getElem?_cons_succ, List.getElem?_cons_zero]; rfl) (by kernel_rfl) (by kernel_rfl) (by kernel_rfl) (by intro _ _ _ h; exact h) (Or.inl ⟨by rfl, ?_⟩) (by assumption) ?_
    rotate_left
    · intro w hSw; (try dsimp only at hSw); go_simp; try with_reducible rfl
    try simp only [Act.put, List.setIfInBounds_toArray, List.set_cons_zero, List.set_cons_succ]
    refine wpAnyH_take (i := 15) (v := ?_) (by simp only [List.getElem?_toArray, List.getElem?_cons_succ, List.getElem?_cons_zero]; rfl) (by kernel_rfl) (by kernel_rfl) (by kernel_rfl) (by intro _ _ _ h; exact h) (Or.inl ⟨by rfl, ?_⟩) (by assumption) ?_
    rotate_left
    · intro w hSw; (try dsimp only at hSw); go_simp; try with_reducible rfl
    try simp only [Act.put, List.setIfInBounds_toArray, List.set_cons_zero, List.set_cons_succ]
    refine wpAnyH_done (by kernel_rfl) ?_ _
    go_wp2
    go_ret
    exact ⟨by simp, HX8.out.below⟩

end Go.Proofs.Ytibimdhmfchcoaa
