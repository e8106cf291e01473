/- The chapter's example (live). -/
import Derived.Test.YtholafodachjnaaZL
namespace Go.Proofs.Ytholafodachjnaa
open Go.RowKit Go.Shelf
set_option linter.unusedVariables false
set_option linter.unusedSimpArgs false

set_option maxRecDepth 100000 in
set_option maxHeartbeats 8000000 in
theorem live11 (w : World) : Calls Try.prog 11 #[] w fun e w' => e = .returned (.bool true) ∧ Below w.heap.size w w' := by
  obtain ⟨H, hH⟩ : ∃ h, h = w.heap.size := ⟨_, rfl⟩
  obtain ⟨w1, hw1⟩ : ∃ W, W = w.alloc (.cells #[.int .i64 2, .int .i64 1, .int .i64 1] 23) := ⟨_, rfl⟩
  have hr1 : w1.rowIs (H) 23 3 (fun i => ([.int .i64 2, .int .i64 1, .int .i64 1] : List Value).getD i undef) := by rw [hw1, hH]; exact rowL_alloc w 23 [.int .i64 2, .int .i64 1, .int .i64 1]
  have hs1 : w1.heap.size = H + 1 := by rw [hw1, hH]; simp
  have hb1 : Below w.heap.size w w1 := by rw [hw1]; exact (Below.refl _ _).alloc (Nat.le_refl _) _
  have HK : Hid (∀ W, Below w1.heap.size w1 W → W.cell? ⟨H, 0, none⟩ = some (.int .i64 2) ∧ W.cell? ⟨H, 1, none⟩ = some (.int .i64 1) ∧ W.cell? ⟨H, 2, none⟩ = some (.int .i64 1)) := Lib.hid fun W hW => by
    have h := hr1.of_block (hW.block H (by omega))
    exact ⟨h.cell (by omega), h.cell (by omega), h.cell (by omega)⟩
  have HB1 : Hid (∀ W, Below w1.heap.size w1 W → Below w.heap.size w W) := Lib.hid fun W hW => hb1.trans (hW.mono hb1.size)
  have HW1 := Lib.hid hw1
  have HHH := Lib.hid hH
  clear hH hw1 hr1 hs1 hb1
  go_enter Try.func11, Try.ntmps11
  go_upto_region 2 with fail
  rw [← HW1.out]
  rw [← HHH.out]
  go_cut [2, 3] from 14 to 20 (fun p q wx => ∃ B ba bc ia ic oa oc, p = .pointer (some ⟨B, 0, none⟩) ∧ q = .int .i64 0 ∧ Hid (SB w1 wx B ba bc ia ic oa oc 0 0 1))
  case first =>
    refine wp_region_held_drew (S := fun w' => (w'.cell? ⟨H, 0, none⟩ = some (.int .i64 2) ∧ w'.cell? ⟨H, 1, none⟩ = some (.int .i64 1) ∧ w'.cell? ⟨H, 2, none⟩ = some (.int .i64 1))) (by kernel_rfl) (HK.out _ (Below.refl _ _).drew) (fun hHeld => ?_)
    obtain ⟨v1, hv1⟩ : ∃ W, W = w1.drew := ⟨_, rfl⟩
    have hb1 : Below w1.heap.size w1 v1 := by rw [hv1]; exact (Below.refl _ _).drew
    rw [← hv1] at hHeld ⊢
    have HBv1 := Lib.hid hb1
    clear hb1 hv1
    refine wpAnyH_take (i := 0) (v := ?_) (by simp only [List.getElem?_toArray, List.getElem?_cons_succ, List.getElem?_cons_zero]; rfl) (by kernel_rfl) (by kernel_rfl) (by kernel_rfl) (by intro _ _ _ h; exact h) (Or.inl ⟨by rfl, ?_⟩) (by assumption) ?_
    rotate_left
    · intro w hSw; (try dsimp only at hSw); go_simp; try with_reducible rfl
    try simp only [Act.put, List.setIfInBounds_toArray, List.set_cons_zero, List.set_cons_succ]
    refine wpAnyH_ready (rs := [1, 6]) (by kernel_rfl) (by simp) ?_
    refine AllReadyH.cons (o := _) (by simp only [List.getElem?_toArray, List.getElem?_cons_succ, List.getElem?_cons_zero]; rfl) (fun K hK => ?_) (AllReadyH.cons (o := _) (by simp only [List.getElem?_toArray, List.getElem?_cons_succ, List.getElem?_cons_zero]; rfl) (fun K hK => ?_) AllReadyH.nil)
    · go_simp
      go_at_call 27
      refine Calls.mono (lv0 v1) ?_
      rintro e v2 ⟨pv2, rfl, hp2, hb2⟩
      have HBv2 := Lib.hid ((HBv1.out).trans (hb2.mono (HBv1.out).size))
      have HP2 := Lib.hid hp2
      clear hp2
      clear hb2
      go_simp
      refine hK.out _ _ (by exact HK.out _ HBv2.out) (fun hHeld => ?_)
      clear hK K
      try simp only [Act.put, List.setIfInBounds_toArray, List.set_cons_zero, List.set_cons_succ]
      refine wpAnyH_ready (rs := [2, 6]) (by kernel_rfl) (by simp) ?_
      refine AllReadyH.cons (o := _) (by simp only [List.getElem?_toArray, List.getElem?_cons_succ, List.getElem?_cons_zero]; rfl) (fun K hK => ?_) (AllReadyH.cons (o := _) (by simp only [List.getElem?_toArray, List.getElem?_cons_succ, List.getElem?_cons_zero]; rfl) (fun K hK => ?_) AllReadyH.nil)
      · go_simp
        go_at_call 17
        refine Calls.mono (lv1 v2 pv2 (HP2.out)) ?_
        rintro e v3 ⟨ba, bc, ia, ic, oa, oc, rfl, hn3, hb3⟩
        have HBv3 := Lib.hid ((HBv2.out).trans (hb3.mono (HBv2.out).size))
        have FP3 := Lib.hid ((HP2.out).below hb3 (Nat.le_refl _))
        have HN3 := Lib.hid hn3
        clear hn3
        clear hb3
        go_simp
        refine hK.out _ _ (by exact HK.out _ HBv3.out) (fun hHeld => ?_)
        clear hK K
        try simp only [Act.put, List.setIfInBounds_toArray, List.set_cons_zero, List.set_cons_succ]
        refine wpAnyH_take (i := 3) (v := ?_) (by simp only [List.getElem?_toArray, List.getElem?_cons_succ, List.getElem?_cons_zero]; rfl) (by kernel_rfl) (by kernel_rfl) (by kernel_rfl) (by intro _ _ _ h; exact h) (Or.inl ⟨by rfl, ?_⟩) (by assumption) ?_
        rotate_left
        · intro w hSw; (try dsimp only at hSw); go_simp; try with_reducible rfl
        try simp only [Act.put, List.setIfInBounds_toArray, List.set_cons_zero, List.set_cons_succ]
        refine wpAnyH_take (i := 4) (v := ?_) (by simp only [List.getElem?_toArray, List.getElem?_cons_succ, List.getElem?_cons_zero]; rfl) (by kernel_rfl) (by kernel_rfl) (by kernel_rfl) (by intro _ _ _ h; exact h) (Or.inl ⟨by rfl, ?_⟩) (by assumption) ?_
        rotate_left
        · intro w hSw; (try dsimp only at hSw); go_simp; try with_reducible rfl
        try simp only [Act.put, List.setIfInBounds_toArray, List.set_cons_zero, List.set_cons_succ]
        refine wpAnyH_take (i := 5) (v := ?_) (by simp only [List.getElem?_toArray, List.getElem?_cons_succ, List.getElem?_cons_zero]; rfl) (by kernel_rfl) (by kernel_rfl) (by kernel_rfl) (by intro _ _ _ h; exact h) (Or.inl ⟨by rfl, ?_⟩) (by assumption) ?_
        rotate_left
        · intro w hSw; (try dsimp only at hSw); go_simp; try with_reducible rfl
        try simp only [Act.put, List.setIfInBounds_toArray, List.set_cons_zero, List.set_cons_succ]
        refine wpAnyH_ready (rs := [6]) (by kernel_rfl) (by simp) ?_
        refine AllReadyH.cons (o := _) (by simp only [List.getElem?_toArray, List.getElem?_cons_succ, List.getElem?_cons_zero]; rfl) (fun K hK => ?_) AllReadyH.nil
        go_simp
        obtain ⟨B2, hB2⟩ : ∃ x, x = v3.heap.size := ⟨_, rfl⟩
        obtain ⟨v4, hv4⟩ : ∃ W, W = v3.alloc (.cells #[.slice none 0 0, .slice none 0 0, .slice none 0 0] 29) := ⟨_, rfl⟩
        have hb4 : Below v3.heap.size v3 v4 := by rw [hv4]; exact (Below.refl v3.heap.size v3).alloc (Nat.le_refl _) (.cells #[.slice none 0 0, .slice none 0 0, .slice none 0 0] 29)
        have HBv4 := Lib.hid ((HBv3.out).trans (hb4.mono (HBv3.out).size))
        have FB24 : Hid (v4.rowIs B2 29 3 (fun i => ([.slice none 0 0, .slice none 0 0, .slice none 0 0] : List Value).getD i undef)) := Lib.hid (by rw [hv4, hB2]; exact rowL_alloc v3 29 [.slice none 0 0, .slice none 0 0, .slice none 0 0])
        have GEB2 : Hid (w1.heap.size ≤ B2) := Lib.hid (by rw [hB2]; exact (HBv3.out).size)
        have FP4 := Lib.hid ((FP3.out).below hb4 (Nat.le_refl _))
        have FN4 := Lib.hid ((HN3.out).below hb4)
        (try rw [← hv4])
        (try rw [← hB2])
        clear hb4 hv4 hB2
        refine hK.out _ _ (by exact HK.out _ HBv4.out) (fun hHeld => ?_)
        clear hK K
        try simp only [Act.put, List.setIfInBounds_toArray, List.set_cons_zero, List.set_cons_succ]
        refine wpAnyH_ready (rs := [7]) (by kernel_rfl) (by simp) ?_
        refine AllReadyH.cons (o := _) (by simp only [List.getElem?_toArray, List.getElem?_cons_succ, List.getElem?_cons_zero]; rfl) (fun K hK => ?_) AllReadyH.nil
        have zc0 := (FB24.out).cell (i := 0) (by omega)
        have zf0 := (FB24.out).frozen 0
        have zc1 := (FB24.out).cell (i := 1) (by omega)
        have zf1 := (FB24.out).frozen 1
        have zc2 := (FB24.out).cell (i := 2) (by omega)
        have zf2 := (FB24.out).frozen 2
        (try dsimp only [List.getD_cons_zero, List.getD_cons_succ] at zc0 zc1 zc2)
        go_simp
        obtain ⟨v5, hv5⟩ : ∃ W, W = (((v4.setCell ⟨B2, 0, none⟩ (.slice ba 1 bc)).setCell ⟨B2, 1, none⟩ (.slice ia 1 ic)).setCell ⟨B2, 2, none⟩ (.slice oa 1 oc)) := ⟨_, rfl⟩
        have hg5 : v4.grownBy v5 (some B2) := by rw [hv5]; exact grown_put3 (World.grownBy.refl _ _)
        have HBv5 := Lib.hid (below_grown (HBv4.out) hg5 GEB2.out (HBv4.out).size)
        have FB25 : Hid (v5.rowIs B2 29 3 (fun i => ([.slice ba 1 bc, .slice ia 1 ic, .slice oa 1 oc] : List Value).getD i undef)) := Lib.hid (by rw [hv5]; exact put3_row (FB24.out))
        have FN5 := Lib.hid ((FN4.out).grownS hg5 (FB24.out))
        (try rw [← hv5])
        clear hg5 hv5 zc0 zf0 zc1 zf1 zc2 zf2
        refine hK.out _ _ (by exact HK.out _ HBv5.out) (fun hHeld => ?_)
        clear hK K
        try simp only [Act.put, List.setIfInBounds_toArray, List.set_cons_zero, List.set_cons_succ]
        refine wpAnyH_take (i := 8) (v := ?_) (by simp only [List.getElem?_toArray, List.getElem?_cons_succ, List.getElem?_cons_zero]; rfl) (by kernel_rfl) (by kernel_rfl) (by kernel_rfl) (by intro _ _ _ h; exact h) (Or.inl ⟨by rfl, ?_⟩) (by assumption) ?_
        rotate_left
        · intro w hSw; (try dsimp only at hSw); go_simp; try with_reducible rfl
        try simp only [Act.put, List.setIfInBounds_toArray, List.set_cons_zero, List.set_cons_succ]
        refine wpAnyH_done (by kernel_rfl) ?_ _
        go_wp2_with fail
        go_meet
        exact ⟨B2, ba, bc, ia, ic, oa, oc, rfl, rfl, Lib.hid ⟨HBv5.out, FB25.out, (FN5.out).anew⟩⟩
      · go_simp
        obtain ⟨B2, hB2⟩ : ∃ x, x = v2.heap.size := ⟨_, rfl⟩
        obtain ⟨v6, hv6⟩ : ∃ W, W = v2.alloc (.cells #[.slice none 0 0, .slice none 0 0, .slice none 0 0] 29) := ⟨_, rfl⟩
        have hb6 : Below v2.heap.size v2 v6 := by rw [hv6]; exact (Below.refl v2.heap.size v2).alloc (Nat.le_refl _) (.cells #[.slice none 0 0, .slice none 0 0, .slice none 0 0] 29)
        have HBv6 := Lib.hid ((HBv2.out).trans (hb6.mono (HBv2.out).size))
        have FB26 : Hid (v6.rowIs B2 29 3 (fun i => ([.slice none 0 0, .slice none 0 0, .slice none 0 0] : List Value).getD i undef)) := Lib.hid (by rw [hv6, hB2]; exact rowL_alloc v2 29 [.slice none 0 0, .slice none 0 0, .slice none 0 0])
        have GEB2 : Hid (w1.heap.size ≤ B2) := Lib.hid (by rw [hB2]; exact (HBv2.out).size)
        have FP6 := Lib.hid ((HP2.out).below hb6 (Nat.le_refl _))
        (try rw [← hv6])
        (try rw [← hB2])
        clear hb6 hv6 hB2
        refine hK.out _ _ (by exact HK.out _ HBv6.out) (fun hHeld => ?_)
        clear hK K
        try simp only [Act.put, List.setIfInBounds_toArray, List.set_cons_zero, List.set_cons_succ]
        refine wpAnyH_ready (rs := [2]) (by kernel_rfl) (by simp) ?_
        refine AllReadyH.cons (o := _) (by simp only [List.getElem?_toArray, List.getElem?_cons_succ, List.getElem?_cons_zero]; rfl) (fun K hK => ?_) AllReadyH.nil
        go_simp
        go_at_call 17
        refine Calls.mono (lv1 v6 pv2 (FP6.out)) ?_
        rintro e v7 ⟨ba, bc, ia, ic, oa, oc, rfl, hn7, hb7⟩
        have HBv7 := Lib.hid ((HBv6.out).trans (hb7.mono (HBv6.out).size))
        have FP7 := Lib.hid ((FP6.out).below hb7 (Nat.le_refl _))
        have FB27 := Lib.hid ((FB26.out).of_block (hb7.block B2 (FB26.out).lt))
        have HN7 := Lib.hid hn7
        clear hn7
        clear hb7
        go_simp
        refine hK.out _ _ (by exact HK.out _ HBv7.out) (fun hHeld => ?_)
        clear hK K
        try simp only [Act.put, List.setIfInBounds_toArray, List.set_cons_zero, List.set_cons_succ]
        refine wpAnyH_take (i := 3) (v := ?_) (by simp only [List.getElem?_toArray, List.getElem?_cons_succ, List.getElem?_cons_zero]; rfl) (by kernel_rfl) (by kernel_rfl) (by kernel_rfl) (by intro _ _ _ h; exact h) (Or.inl ⟨by rfl, ?_⟩) (by assumption) ?_
        rotate_left
        · intro w hSw; (try dsimp only at hSw); go_simp; try with_reducible rfl
        try simp only [Act.put, List.setIfInBounds_toArray, List.set_cons_zero, List.set_cons_succ]
        refine wpAnyH_take (i := 4) (v := ?_) (by simp only [List.getElem?_toArray, List.getElem?_cons_succ, List.getElem?_cons_zero]; rfl) (by kernel_rfl) (by kernel_rfl) (by kernel_rfl) (by intro _ _ _ h; exact h) (Or.inl ⟨by rfl, ?_⟩) (by assumption) ?_
        rotate_left
        · intro w hSw; (try dsimp only at hSw); go_simp; try with_reducible rfl
        try simp only [Act.put, List.setIfInBounds_toArray, List.set_cons_zero, List.set_cons_succ]
        refine wpAnyH_take (i := 5) (v := ?_) (by simp only [List.getElem?_toArray, List.getElem?_cons_succ, List.getElem?_cons_zero]; rfl) (by kernel_rfl) (by kernel_rfl) (by kernel_rfl) (by intro _ _ _ h; exact h) (Or.inl ⟨by rfl, ?_⟩) (by assumption) ?_
        rotate_left
        · intro w hSw; (try dsimp only at hSw); go_simp; try with_reducible rfl
        try simp only [Act.put, List.setIfInBounds_toArray, List.set_cons_zero, List.set_cons_succ]
        refine wpAnyH_ready (rs := [7]) (by kernel_rfl) (by simp) ?_
        refine AllReadyH.cons (o := _) (by simp only [List.getElem?_toArray, List.getElem?_cons_succ, List.getElem?_cons_zero]; rfl) (fun K hK => ?_) AllReadyH.nil
        have zc0 := (FB27.out).cell (i := 0) (by omega)
        have zf0 := (FB27.out).frozen 0
        have zc1 := (FB27.out).cell (i := 1) (by omega)
        have zf1 := (FB27.out).frozen 1
        have zc2 := (FB27.out).cell (i := 2) (by omega)
        have zf2 := (FB27.out).frozen 2
        (try dsimp only [List.getD_cons_zero, List.getD_cons_succ] at zc0 zc1 zc2)
        go_simp
        obtain ⟨v8, hv8⟩ : ∃ W, W = (((v7.setCell ⟨B2, 0, none⟩ (.slice ba 1 bc)).setCell ⟨B2, 1, none⟩ (.slice ia 1 ic)).setCell ⟨B2, 2, none⟩ (.slice oa 1 oc)) := ⟨_, rfl⟩
        have hg8 : v7.grownBy v8 (some B2) := by rw [hv8]; exact grown_put3 (World.grownBy.refl _ _)
        have HBv8 := Lib.hid (below_grown (HBv7.out) hg8 GEB2.out (HBv7.out).size)
        have FB28 : Hid (v8.rowIs B2 29 3 (fun i => ([.slice ba 1 bc, .slice ia 1 ic, .slice oa 1 oc] : List Value).getD i undef)) := Lib.hid (by rw [hv8]; exact put3_row (FB27.out))
        have FN8 := Lib.hid ((HN7.out).grownS hg8 (FB27.out))
        (try rw [← hv8])
        clear hg8 hv8 zc0 zf0 zc1 zf1 zc2 zf2
        refine hK.out _ _ (by exact HK.out _ HBv8.out) (fun hHeld => ?_)
        clear hK K
        try simp only [Act.put, List.setIfInBounds_toArray, List.set_cons_zero, List.set_cons_succ]
        refine wpAnyH_take (i := 8) (v := ?_) (by simp only [List.getElem?_toArray, List.getElem?_cons_succ, List.getElem?_cons_zero]; rfl) (by kernel_rfl) (by kernel_rfl) (by kernel_rfl) (by intro _ _ _ h; exact h) (Or.inl ⟨by rfl, ?_⟩) (by assumption) ?_
        rotate_left
        · intro w hSw; (try dsimp only at hSw); go_simp; try with_reducible rfl
        try simp only [Act.put, List.setIfInBounds_toArray, List.set_cons_zero, List.set_cons_succ]
        refine wpAnyH_done (by kernel_rfl) ?_ _
        go_wp2_with fail
        go_meet
        exact ⟨B2, ba, bc, ia, ic, oa, oc, rfl, rfl, Lib.hid ⟨HBv8.out, FB28.out, (FN8.out).anew⟩⟩
    · go_simp
      obtain ⟨B2, hB2⟩ : ∃ x, x = v1.heap.size := ⟨_, rfl⟩
      obtain ⟨v9, hv9⟩ : ∃ W, W = v1.alloc (.cells #[.slice none 0 0, .slice none 0 0, .slice none 0 0] 29) := ⟨_, rfl⟩
      have hb9 : Below v1.heap.size v1 v9 := by rw [hv9]; exact (Below.refl v1.heap.size v1).alloc (Nat.le_refl _) (.cells #[.slice none 0 0, .slice none 0 0, .slice none 0 0] 29)
      have HBv9 := Lib.hid ((HBv1.out).trans (hb9.mono (HBv1.out).size))
      have FB29 : Hid (v9.rowIs B2 29 3 (fun i => ([.slice none 0 0, .slice none 0 0, .slice none 0 0] : List Value).getD i undef)) := Lib.hid (by rw [hv9, hB2]; exact rowL_alloc v1 29 [.slice none 0 0, .slice none 0 0, .slice none 0 0])
      have GEB2 : Hid (w1.heap.size ≤ B2) := Lib.hid (by rw [hB2]; exact (HBv1.out).size)
      (try rw [← hv9])
      (try rw [← hB2])
      clear hb9 hv9 hB2
      refine hK.out _ _ (by exact HK.out _ HBv9.out) (fun hHeld => ?_)
      clear hK K
      try simp only [Act.put, List.setIfInBounds_toArray, List.set_cons_zero, List.set_cons_succ]
      refine wpAnyH_ready (rs := [1]) (by kernel_rfl) (by simp) ?_
      refine AllReadyH.cons (o := _) (by simp only [List.getElem?_toArray, List.getElem?_cons_succ, List.getElem?_cons_zero]; rfl) (fun K hK => ?_) AllReadyH.nil
      go_simp
      go_at_call 27
      refine Calls.mono (lv0 v9) ?_
      rintro e v10 ⟨pv10, rfl, hp10, hb10⟩
      have HBv10 := Lib.hid ((HBv9.out).trans (hb10.mono (HBv9.out).size))
      have FB210 := Lib.hid ((FB29.out).of_block (hb10.block B2 (FB29.out).lt))
      have HP10 := Lib.hid hp10
      clear hp10
      clear hb10
      go_simp
      refine hK.out _ _ (by exact HK.out _ HBv10.out) (fun hHeld => ?_)
      clear hK K
      try simp only [Act.put, List.setIfInBounds_toArray, List.set_cons_zero, List.set_cons_succ]
      refine wpAnyH_ready (rs := [2]) (by kernel_rfl) (by simp) ?_
      refine AllReadyH.cons (o := _) (by simp only [List.getElem?_toArray, List.getElem?_cons_succ, List.getElem?_cons_zero]; rfl) (fun K hK => ?_) AllReadyH.nil
      go_simp
      go_at_call 17
      refine Calls.mono (lv1 v10 pv10 (HP10.out)) ?_
      rintro e v11 ⟨ba, bc, ia, ic, oa, oc, rfl, hn11, hb11⟩
      have HBv11 := Lib.hid ((HBv10.out).trans (hb11.mono (HBv10.out).size))
      have FB211 := Lib.hid ((FB210.out).of_block (hb11.block B2 (FB210.out).lt))
      have FP11 := Lib.hid ((HP10.out).below hb11 (Nat.le_refl _))
      have HN11 := Lib.hid hn11
      clear hn11
      clear hb11
      go_simp
      refine hK.out _ _ (by exact HK.out _ HBv11.out) (fun hHeld => ?_)
      clear hK K
      try simp only [Act.put, List.setIfInBounds_toArray, List.set_cons_zero, List.set_cons_succ]
      refine wpAnyH_take (i := 3) (v := ?_) (by simp only [List.getElem?_toArray, List.getElem?_cons_succ, List.getElem?_cons_zero]; rfl) (by kernel_rfl) (by kernel_rfl) (by kernel_rfl) (by intro _ _ _ h; exact h) (Or.inl ⟨by rfl, ?_⟩) (by assumption) ?_
      rotate_left
      · intro w hSw; (try dsimp only at hSw); go_simp; try with_reducible rfl
      try simp only [Act.put, List.setIfInBounds_toArray, List.set_cons_zero, List.set_cons_succ]
      refine wpAnyH_take (i := 4) (v := ?_) (by simp only [List.getElem?_toArray, List.getElem?_cons_succ, List.getElem?_cons_zero]; rfl) (by kernel_rfl) (by kernel_rfl) (by kernel_rfl) (by intro _ _ _ h; exact h) (Or.inl ⟨by rfl, ?_⟩) (by assumption) ?_
      rotate_left
      · intro w hSw; (try dsimp only at hSw); go_simp; try with_reducible rfl
      try simp only [Act.put, List.setIfInBounds_toArray, List.set_cons_zero, List.set_cons_succ]
      refine wpAnyH_take (i := 5) (v := ?_) (by simp only [List.getElem?_toArray, List.getElem?_cons_succ, List.getElem?_cons_zero]; rfl) (by kernel_rfl) (by kernel_rfl) (by kernel_rfl) (by intro _ _ _ h; exact h) (Or.inl ⟨by rfl, ?_⟩) (by assumption) ?_
      rotate_left
      · intro w hSw; (try dsimp only at hSw); go_simp; try with_reducible rfl
      try simp only [Act.put, List.setIfInBounds_toArray, List.set_cons_zero, List.set_cons_succ]
      refine wpAnyH_ready (rs := [7]) (by kernel_rfl) (by simp) ?_
      refine AllReadyH.cons (o := _) (by simp only [List.getElem?_toArray, List.getElem?_cons_succ, List.getElem?_cons_zero]; rfl) (fun K hK => ?_) AllReadyH.nil
      have zc0 := (FB211.out).cell (i := 0) (by omega)
      have zf0 := (FB211.out).frozen 0
      have zc1 := (FB211.out).cell (i := 1) (by omega)
      have zf1 := (FB211.out).frozen 1
      have zc2 := (FB211.out).cell (i := 2) (by omega)
      have zf2 := (FB211.out).frozen 2
      (try dsimp only [List.getD_cons_zero, List.getD_cons_succ] at zc0 zc1 zc2)
      go_simp
      obtain ⟨v12, hv12⟩ : ∃ W, W = (((v11.setCell ⟨B2, 0, none⟩ (.slice ba 1 bc)).setCell ⟨B2, 1, none⟩ (.slice ia 1 ic)).setCell ⟨B2, 2, none⟩ (.slice oa 1 oc)) := ⟨_, rfl⟩
      have hg12 : v11.grownBy v12 (some B2) := by rw [hv12]; exact grown_put3 (World.grownBy.refl _ _)
      have HBv12 := Lib.hid (below_grown (HBv11.out) hg12 GEB2.out (HBv11.out).size)
      have FB212 : Hid (v12.rowIs B2 29 3 (fun i => ([.slice ba 1 bc, .slice ia 1 ic, .slice oa 1 oc] : List Value).getD i undef)) := Lib.hid (by rw [hv12]; exact put3_row (FB211.out))
      have FN12 := Lib.hid ((HN11.out).grownS hg12 (FB211.out))
      (try rw [← hv12])
      clear hg12 hv12 zc0 zf0 zc1 zf1 zc2 zf2
      refine hK.out _ _ (by exact HK.out _ HBv12.out) (fun hHeld => ?_)
      clear hK K
      try simp only [Act.put, List.setIfInBounds_toArray, List.set_cons_zero, List.set_cons_succ]
      refine wpAnyH_take (i := 8) (v := ?_) (by simp only [List.getElem?_toArray, List.getElem?_cons_succ, List.getElem?_cons_zero]; rfl) (by kernel_rfl) (by kernel_rfl) (by kernel_rfl) (by intro _ _ _ h; exact h) (Or.inl ⟨by rfl, ?_⟩) (by assumption) ?_
      rotate_left
      · intro w hSw; (try dsimp only at hSw); go_simp; try with_reducible rfl
      try simp only [Act.put, List.setIfInBounds_toArray, List.set_cons_zero, List.set_cons_succ]
      refine wpAnyH_done (by kernel_rfl) ?_ _
      go_wp2_with fail
      go_meet
      exact ⟨B2, ba, bc, ia, ic, oa, oc, rfl, rfl, Lib.hid ⟨HBv12.out, FB212.out, (FN12.out).anew⟩⟩
  case rest =>
    obtain ⟨B2, ba, bc, ia, ic, oa, oc, rfl, rfl, HC2⟩ := hcut
    obtain ⟨wA, hwA⟩ : ∃ W, W = wc := ⟨_, rfl⟩
    subst hwA
    have HKA : Hid (∀ W, Below wA.heap.size wA W → (W.cell? ⟨H, 0, none⟩ = some (.int .i64 2) ∧ W.cell? ⟨H, 1, none⟩ = some (.int .i64 1) ∧ W.cell? ⟨H, 2, none⟩ = some (.int .i64 1)) ∧ W.cell? ⟨B2, 0, none⟩ = some (.slice ba 1 bc) ∧ W.cell? ⟨B2, 1, none⟩ = some (.slice ia 1 ic) ∧ W.cell? ⟨B2, 2, none⟩ = some (.slice oa 1 oc)) := Lib.hid fun W hW => ⟨HK.out W (HC2.out.below.trans (hW.mono HC2.out.below.size)), HC2.out.cells W hW⟩
    go_upto_region 3 with fail
    go_cut [4, 5] from 14 to 27 (fun p q wx => p = .int .i64 4 ∧ q = .int .i64 0 ∧ Hid (Below wA.heap.size wA wx))
    case first =>
      refine wp_region_held_drew (S := fun w' => (w'.cell? ⟨H, 0, none⟩ = some (.int .i64 2) ∧ w'.cell? ⟨H, 1, none⟩ = some (.int .i64 1) ∧ w'.cell? ⟨H, 2, none⟩ = some (.int .i64 1)) ∧ w'.cell? ⟨B2, 0, none⟩ = some (.slice ba 1 bc) ∧ w'.cell? ⟨B2, 1, none⟩ = some (.slice ia 1 ic) ∧ w'.cell? ⟨B2, 2, none⟩ = some (.slice oa 1 oc)) (by kernel_rfl) (HKA.out _ (Below.refl _ _).drew) (fun hHeld => ?_)
      obtain ⟨v13, hv13⟩ : ∃ W, W = wA.drew := ⟨_, rfl⟩
      have hb13 : Below wA.heap.size wA v13 := by rw [hv13]; exact (Below.refl _ _).drew
      rw [← hv13] at hHeld ⊢
      have HBv13 := Lib.hid hb13
      have FS13 := Lib.hid ((HC2.out.at_).below hb13 (Nat.le_refl _))
      clear hb13 hv13
      refine wpAnyH_take (i := 0) (v := ?_) (by simp only [List.getElem?_toArray, List.getElem?_cons_succ, List.getElem?_cons_zero]; rfl) (by kernel_rfl) (by kernel_rfl) (by kernel_rfl) (by intro _ _ _ h; exact h) (Or.inl ⟨by rfl, ?_⟩) (by assumption) ?_
      rotate_left
      · intro w hSw; (try dsimp only at hSw); go_simp; try with_reducible rfl
      try simp only [Act.put, List.setIfInBounds_toArray, List.set_cons_zero, List.set_cons_succ]
      refine wpAnyH_take (i := 2) (v := ?_) (by simp only [List.getElem?_toArray, List.getElem?_cons_succ, List.getElem?_cons_zero]; rfl) (by kernel_rfl) (by kernel_rfl) (by kernel_rfl) (by intro _ _ _ h; exact h) (Or.inl ⟨by rfl, ?_⟩) (by assumption) ?_
      rotate_left
      · intro w hSw; (try dsimp only at hSw); go_simp; try with_reducible rfl
      try simp only [Act.put, List.setIfInBounds_toArray, List.set_cons_zero, List.set_cons_succ]
      refine wpAnyH_ready (rs := [1]) (by kernel_rfl) (by simp) ?_
      refine AllReadyH.cons (o := _) (by simp only [List.getElem?_toArray, List.getElem?_cons_succ, List.getElem?_cons_zero]; rfl) (fun K hK => ?_) AllReadyH.nil
      go_simp
      go_at_call 27
      refine Calls.mono (lv0 v13) ?_
      rintro e v14 ⟨pv14, rfl, hp14, hb14⟩
      have HBv14 := Lib.hid ((HBv13.out).trans (hb14.mono (HBv13.out).size))
      have FS14 := Lib.hid ((FS13.out).below hb14 (Nat.le_refl _))
      have HP14 := Lib.hid hp14
      clear hp14
      clear hb14
      go_simp
      refine hK.out _ _ (by exact HKA.out _ HBv14.out) (fun hHeld => ?_)
      clear hK K
      try simp only [Act.put, List.setIfInBounds_toArray, List.set_cons_zero, List.set_cons_succ]
      refine wpAnyH_ready (rs := [3]) (by kernel_rfl) (by simp) ?_
      refine AllReadyH.cons (o := _) (by simp only [List.getElem?_toArray, List.getElem?_cons_succ, List.getElem?_cons_zero]; rfl) (fun K hK => ?_) AllReadyH.nil
      go_simp
      go_at_call 13
      refine Calls.mono (lv2 v14 pv14 (HP14.out) ba bc ia ic oa oc (FS14.out)) ?_
      rintro e v15 ⟨rfl, hb15⟩
      have HBv15 := Lib.hid ((HBv14.out).trans (hb15.mono (HBv14.out).size))
      have FS15 := Lib.hid ((FS14.out).below hb15 (Nat.le_refl _))
      have FP15 := Lib.hid ((HP14.out).below hb15 (Nat.le_refl _))
      clear hb15
      go_simp
      refine hK.out _ _ (by exact HKA.out _ HBv15.out) (fun hHeld => ?_)
      clear hK K
      try simp only [Act.put, List.setIfInBounds_toArray, List.set_cons_zero, List.set_cons_succ]
      refine wpAnyH_take (i := 4) (v := ?_) (by simp only [List.getElem?_toArray, List.getElem?_cons_succ, List.getElem?_cons_zero]; rfl) (by kernel_rfl) (by kernel_rfl) (by kernel_rfl) (by intro _ _ _ h; exact h) (Or.inl ⟨by rfl, ?_⟩) (by assumption) ?_
      rotate_left
      · intro w hSw; (try dsimp only at hSw); go_simp; try with_reducible rfl
      try simp only [Act.put, List.setIfInBounds_toArray, List.set_cons_zero, List.set_cons_succ]
      refine wpAnyH_take (i := 5) (v := ?_) (by simp only [List.getElem?_toArray, List.getElem?_cons_succ, List.getElem?_cons_zero]; rfl) (by kernel_rfl) (by kernel_rfl) (by kernel_rfl) (by intro _ _ _ h; exact h) (Or.inl ⟨by rfl, ?_⟩) (by assumption) ?_
      rotate_left
      · intro w hSw; (try dsimp only at hSw); go_simp; try with_reducible rfl
      try simp only [Act.put, List.setIfInBounds_toArray, List.set_cons_zero, List.set_cons_succ]
      refine wpAnyH_take (i := 6) (v := ?_) (by simp only [List.getElem?_toArray, List.getElem?_cons_succ, List.getElem?_cons_zero]; rfl) (by kernel_rfl) (by kernel_rfl) (by kernel_rfl) (by intro _ _ _ h; exact h) (Or.inl ⟨by rfl, ?_⟩) (by assumption) ?_
      rotate_left
      · intro w hSw; (try dsimp only at hSw); go_simp; try with_reducible rfl
      try simp only [Act.put, List.setIfInBounds_toArray, List.set_cons_zero, List.set_cons_succ]
      refine wpAnyH_take (i := 7) (v := ?_) (by simp only [List.getElem?_toArray, List.getElem?_cons_succ, List.getElem?_cons_zero]; rfl) (by kernel_rfl) (by kernel_rfl) (by kernel_rfl) (by intro _ _ _ h; exact h) (Or.inl ⟨by rfl, ?_⟩) (by assumption) ?_
      rotate_left
      · intro w hSw; (try dsimp only at hSw); go_simp; try with_reducible rfl
      try simp only [Act.put, List.setIfInBounds_toArray, List.set_cons_zero, List.set_cons_succ]
      refine wpAnyH_take (i := 8) (v := ?_) (by simp only [List.getElem?_toArray, List.getElem?_cons_succ, List.getElem?_cons_zero]; rfl) (by kernel_rfl) (by kernel_rfl) (by kernel_rfl) (by intro _ _ _ h; exact h) (Or.inl ⟨by rfl, ?_⟩) (by assumption) ?_
      rotate_left
      · intro w hSw; (try dsimp only at hSw); go_simp; try with_reducible rfl
      try simp only [Act.put, List.setIfInBounds_toArray, List.set_cons_zero, List.set_cons_succ]
      refine wpAnyH_done (by kernel_rfl) ?_ _
      go_wp2_with fail
      go_meet
      exact ⟨rfl, rfl, Lib.hid (HBv15.out)⟩
    case rest =>
      obtain ⟨rfl, rfl, HC3⟩ := hcut
      obtain ⟨wB, hwB⟩ : ∃ W, W = wc := ⟨_, rfl⟩
      subst hwB
      obtain ⟨w5, hw5⟩ : ∃ W, W = ((wB.alloc (.cells #[.int .i64 1] 3)).alloc (.cells #[.int .i64 0] 3)).alloc (.cells #[.int .i64 2] 3) := ⟨_, rfl⟩
      obtain ⟨G, hG⟩ : ∃ x, x = wB.heap.size := ⟨_, rfl⟩
      obtain ⟨w6, hw6⟩ : ∃ W, W = w5.alloc (.cells #[.slice (some ⟨G, 0, none⟩) 1 1, .slice (some ⟨G + 1, 0, none⟩) 1 1, .slice (some ⟨G + 1 + 1, 0, none⟩) 1 1] 29) := ⟨_, rfl⟩
      have HW5 := Lib.hid hw5
      have HW6 := Lib.hid hw6
      have HG := Lib.hid hG
      clear hw5 hw6 hG
      obtain ⟨⟨a0, a1, a2⟩, b0, b1, b2⟩ := HKA.out wB HC3.out
      go_upto_region 7 with fail
      clear a0 a1 a2 b0 b1 b2
      rw [← HG.out]
      rw [← HW5.out]
      rw [← HW6.out]
      have hrB : w6.rowIs (G + 1 + 1 + 1) 29 3 (fun i => ([.slice (some ⟨G, 0, none⟩) 1 1, .slice (some ⟨G + 1, 0, none⟩) 1 1, .slice (some ⟨G + 1 + 1, 0, none⟩) 1 1] : List Value).getD i undef) := by
        have h := rowL_alloc w5 29 [.slice (some ⟨G, 0, none⟩) 1 1, .slice (some ⟨G + 1, 0, none⟩) 1 1, .slice (some ⟨G + 1 + 1, 0, none⟩) 1 1]
        have hs : w5.heap.size = G + 1 + 1 + 1 := by rw [HW5.out, HG.out]; simp
        rw [hs] at h
        rw [HW6.out]
        exact h
      have hb6 : Below wB.heap.size wB w6 := by rw [HW6.out, HW5.out]; exact ((((Below.refl _ _).alloc (Nat.le_refl _) _).alloc (by simp) _).alloc (by simp <;> omega) _).alloc (by simp <;> omega) _
      have hS6 : SpotAt w6 (sp (some ⟨G, 0, none⟩) 1 (some ⟨G + 1, 0, none⟩) 1 (some ⟨G + 1 + 1, 0, none⟩) 1 1 0 2) := by
        have r1 := rowL_alloc wB 3 [.int .i64 1]
        have r2 := rowL_alloc (wB.alloc (.cells #[.int .i64 1] 3)) 3 [.int .i64 0]
        have r3 := rowL_alloc ((wB.alloc (.cells #[.int .i64 1] 3)).alloc (.cells #[.int .i64 0] 3)) 3 [.int .i64 2]
        rw [← HG.out] at r1
        rw [show (wB.alloc (.cells #[.int .i64 1] 3)).heap.size = G + 1 by rw [HG.out]; simp] at r2
        rw [show ((wB.alloc (.cells #[.int .i64 1] 3)).alloc (.cells #[.int .i64 0] 3)).heap.size = G + 1 + 1 by rw [HG.out]; simp] at r3
        have e1 : w6.cell? ⟨G, 0, none⟩ = some (.int .i64 1) := by rw [HW6.out, HW5.out]; exact (((r1.alloc _).alloc _).alloc _).cell (i := 0) (by simp)
        have e2 : w6.cell? ⟨G + 1, 0, none⟩ = some (.int .i64 0) := by rw [HW6.out, HW5.out]; exact ((r2.alloc _).alloc _).cell (i := 0) (by simp)
        have e3 : w6.cell? ⟨G + 1 + 1, 0, none⟩ = some (.int .i64 2) := by rw [HW6.out, HW5.out]; exact (r3.alloc _).cell (i := 0) (by simp)
        refine ⟨.inr ⟨G, 0, rfl, fun i hi => ?_⟩, .inr ⟨G + 1, 0, rfl, fun i hi => ?_⟩, .inr ⟨G + 1 + 1, 0, rfl, fun i hi => ?_⟩, fun x hx => ?_, fun x hx => ?_, fun x hx => ?_⟩
        · obtain rfl : i = 0 := by have : i < 1 := hi; omega
          rw [Nat.zero_add, e1]; rfl
        · obtain rfl : i = 0 := by have : i < 1 := hi; omega
          rw [Nat.zero_add, e2]; rfl
        · obtain rfl : i = 0 := by have : i < 1 := hi; omega
          rw [Nat.zero_add, e3]; rfl
        · rw [List.mem_singleton] at hx; subst hx; exact i64_of (by decide) (by decide)
        · rw [List.mem_singleton] at hx; subst hx; exact i64_of (by decide) (by decide)
        · rw [List.mem_singleton] at hx; subst hx; exact i64_of (by decide) (by decide)
      obtain ⟨F, hF⟩ : ∃ x, x = G + 1 + 1 + 1 := ⟨_, rfl⟩
      obtain ⟨fba, h1⟩ : ∃ x, x = some (⟨G, 0, none⟩ : Addr) := ⟨_, rfl⟩
      obtain ⟨fia, h2⟩ : ∃ x, x = some (⟨G + 1, 0, none⟩ : Addr) := ⟨_, rfl⟩
      obtain ⟨foa, h3⟩ : ∃ x, x = some (⟨G + 1 + 1, 0, none⟩ : Addr) := ⟨_, rfl⟩
      rw [← h1, ← h2, ← h3, ← hF] at hrB
      rw [← h1, ← h2, ← h3] at hS6
      (try rw [← hF])
      have HB6 : Hid (SB w1 w6 F fba 1 fia 1 foa 1 1 0 2) := Lib.hid ⟨(HC2.out.below.trans (HC3.out.mono HC2.out.below.size)).trans (hb6.mono (by have := HC2.out.below.size; have := HC3.out.size; omega)), hrB, hS6⟩
      have HC6 := Lib.hid (HC2.out.later (HC3.out.trans (hb6.mono HC3.out.size)))
      clear h1 h2 h3 hF hrB hS6 hb6 HC2 HC3 HKA HW5 HW6 HG
      have HKD : Hid (∀ W, Below w6.heap.size w6 W → (W.cell? ⟨H, 0, none⟩ = some (.int .i64 2) ∧ W.cell? ⟨H, 1, none⟩ = some (.int .i64 1) ∧ W.cell? ⟨H, 2, none⟩ = some (.int .i64 1)) ∧ (W.cell? ⟨B2, 0, none⟩ = some (.slice ba 1 bc) ∧ W.cell? ⟨B2, 1, none⟩ = some (.slice ia 1 ic) ∧ W.cell? ⟨B2, 2, none⟩ = some (.slice oa 1 oc)) ∧ W.cell? ⟨F, 0, none⟩ = some (.slice fba 1 1) ∧ W.cell? ⟨F, 1, none⟩ = some (.slice fia 1 1) ∧ W.cell? ⟨F, 2, none⟩ = some (.slice foa 1 1)) := Lib.hid fun W hW => ⟨HK.out W (HB6.out.below.trans (hW.mono HB6.out.below.size)), HC6.out.cells W hW, HB6.out.cells W hW⟩
      go_cut [7, 8] from 14 to 62 (fun p q wx => p = .int .i64 6 ∧ q = .int .i64 0 ∧ Hid (Below w6.heap.size w6 wx))
      case first =>
        refine wp_region_held_drew (S := fun w' => ((w'.cell? ⟨H, 0, none⟩ = some (.int .i64 2) ∧ w'.cell? ⟨H, 1, none⟩ = some (.int .i64 1) ∧ w'.cell? ⟨H, 2, none⟩ = some (.int .i64 1)) ∧ (w'.cell? ⟨B2, 0, none⟩ = some (.slice ba 1 bc) ∧ w'.cell? ⟨B2, 1, none⟩ = some (.slice ia 1 ic) ∧ w'.cell? ⟨B2, 2, none⟩ = some (.slice oa 1 oc)) ∧ w'.cell? ⟨F, 0, none⟩ = some (.slice fba 1 1) ∧ w'.cell? ⟨F, 1, none⟩ = some (.slice fia 1 1) ∧ w'.cell? ⟨F, 2, none⟩ = some (.slice foa 1 1))) (by kernel_rfl) (HKD.out _ (Below.refl _ _).drew) (fun hHeld => ?_)
        obtain ⟨v16, hv16⟩ : ∃ W, W = w6.drew := ⟨_, rfl⟩
        have hb16 : Below w6.heap.size w6 v16 := by rw [hv16]; exact (Below.refl _ _).drew
        rw [← hv16] at hHeld ⊢
        have HBv16 := Lib.hid hb16
        have FX16 := Lib.hid ((HB6.out.at_).below hb16 (Nat.le_refl _))
        clear hb16 hv16
        refine wpAnyH_take (i := 0) (v := ?_) (by simp only [List.getElem?_toArray, List.getElem?_cons_succ, List.getElem?_cons_zero]; rfl) (by kernel_rfl) (by kernel_rfl) (by kernel_rfl) (by intro _ _ _ h; exact h) (Or.inl ⟨by rfl, ?_⟩) (by assumption) ?_
        rotate_left
        · intro w hSw; (try dsimp only at hSw); go_simp; try with_reducible rfl
        try simp only [Act.put, List.setIfInBounds_toArray, List.set_cons_zero, List.set_cons_succ]
        refine wpAnyH_take (i := 2) (v := ?_) (by simp only [List.getElem?_toArray, List.getElem?_cons_succ, List.getElem?_cons_zero]; rfl) (by kernel_rfl) (by kernel_rfl) (by kernel_rfl) (by intro _ _ _ h; exact h) (Or.inl ⟨by rfl, ?_⟩) (by assumption) ?_
        rotate_left
        · intro w hSw; (try dsimp only at hSw); go_simp; try with_reducible rfl
        try simp only [Act.put, List.setIfInBounds_toArray, List.set_cons_zero, List.set_cons_succ]
        refine wpAnyH_ready (rs := [1]) (by kernel_rfl) (by simp) ?_
        refine AllReadyH.cons (o := _) (by simp only [List.getElem?_toArray, List.getElem?_cons_succ, List.getElem?_cons_zero]; rfl) (fun K hK => ?_) AllReadyH.nil
        go_simp
        go_at_call 27
        refine Calls.mono (lv0 v16) ?_
        rintro e v17 ⟨pv17, rfl, hp17, hb17⟩
        have HBv17 := Lib.hid ((HBv16.out).trans (hb17.mono (HBv16.out).size))
        have FX17 := Lib.hid ((FX16.out).below hb17 (Nat.le_refl _))
        have HP17 := Lib.hid hp17
        clear hp17
        clear hb17
        go_simp
        refine hK.out _ _ (by exact HKD.out _ HBv17.out) (fun hHeld => ?_)
        clear hK K
        try simp only [Act.put, List.setIfInBounds_toArray, List.set_cons_zero, List.set_cons_succ]
        refine wpAnyH_ready (rs := [3]) (by kernel_rfl) (by simp) ?_
        refine AllReadyH.cons (o := _) (by simp only [List.getElem?_toArray, List.getElem?_cons_succ, List.getElem?_cons_zero]; rfl) (fun K hK => ?_) AllReadyH.nil
        go_simp
        go_at_call 13
        refine Calls.mono (lv3 v17 pv17 (HP17.out) fba 1 fia 1 foa 1 (FX17.out)) ?_
        rintro e v18 ⟨rfl, hb18⟩
        have HBv18 := Lib.hid ((HBv17.out).trans (hb18.mono (HBv17.out).size))
        have FX18 := Lib.hid ((FX17.out).below hb18 (Nat.le_refl _))
        have FP18 := Lib.hid ((HP17.out).below hb18 (Nat.le_refl _))
        clear hb18
        go_simp
        refine hK.out _ _ (by exact HKD.out _ HBv18.out) (fun hHeld => ?_)
        clear hK K
        try simp only [Act.put, List.setIfInBounds_toArray, List.set_cons_zero, List.set_cons_succ]
        refine wpAnyH_take (i := 4) (v := ?_) (by simp only [List.getElem?_toArray, List.getElem?_cons_succ, List.getElem?_cons_zero]; rfl) (by kernel_rfl) (by kernel_rfl) (by kernel_rfl) (by intro _ _ _ h; exact h) (Or.inl ⟨by rfl, ?_⟩) (by assumption) ?_
        rotate_left
        · intro w hSw; (try dsimp only at hSw); go_simp; try with_reducible rfl
        try simp only [Act.put, List.setIfInBounds_toArray, List.set_cons_zero, List.set_cons_succ]
        refine wpAnyH_take (i := 5) (v := ?_) (by simp only [List.getElem?_toArray, List.getElem?_cons_succ, List.getElem?_cons_zero]; rfl) (by kernel_rfl) (by kernel_rfl) (by kernel_rfl) (by intro _ _ _ h; exact h) (Or.inl ⟨by rfl, ?_⟩) (by assumption) ?_
        rotate_left
        · intro w hSw; (try dsimp only at hSw); go_simp; try with_reducible rfl
        try simp only [Act.put, List.setIfInBounds_toArray, List.set_cons_zero, List.set_cons_succ]
        refine wpAnyH_take (i := 6) (v := ?_) (by simp only [List.getElem?_toArray, List.getElem?_cons_succ, List.getElem?_cons_zero]; rfl) (by kernel_rfl) (by kernel_rfl) (by kernel_rfl) (by intro _ _ _ h; exact h) (Or.inl ⟨by rfl, ?_⟩) (by assumption) ?_
        rotate_left
        · intro w hSw; (try dsimp only at hSw); go_simp; try with_reducible rfl
        try simp only [Act.put, List.setIfInBounds_toArray, List.set_cons_zero, List.set_cons_succ]
        refine wpAnyH_take (i := 7) (v := ?_) (by simp only [List.getElem?_toArray, List.getElem?_cons_succ, List.getElem?_cons_zero]; rfl) (by kernel_rfl) (by kernel_rfl) (by kernel_rfl) (by intro _ _ _ h; exact h) (Or.inl ⟨by rfl, ?_⟩) (by assumption) ?_
        rotate_left
        · intro w hSw; (try dsimp only at hSw); go_simp; try with_reducible rfl
        try simp only [Act.put, List.setIfInBounds_toArray, List.set_cons_zero, List.set_cons_succ]
        refine wpAnyH_take (i := 8) (v := ?_) (by simp only [List.getElem?_toArray, List.getElem?_cons_succ, List.getElem?_cons_zero]; rfl) (by kernel_rfl) (by kernel_rfl) (by kernel_rfl) (by intro _ _ _ h; exact h) (Or.inl ⟨by rfl, ?_⟩) (by assumption) ?_
        rotate_left
        · intro w hSw; (try dsimp only at hSw); go_simp; try with_reducible rfl
        try simp only [Act.put, List.setIfInBounds_toArray, List.set_cons_zero, List.set_cons_succ]
        refine wpAnyH_done (by kernel_rfl) ?_ _
        go_wp2_with fail
        go_meet
        exact ⟨rfl, rfl, Lib.hid (HBv18.out)⟩
      case rest =>
        obtain ⟨rfl, rfl, HC7⟩ := hcut
        obtain ⟨wC, hwC⟩ : ∃ W, W = wc := ⟨_, rfl⟩
        subst hwC
        have HC6' := Lib.hid (HC6.out.later HC7.out)
        have HB6' := Lib.hid (HB6.out.later HC7.out)
        have HKE : Hid (∀ W, Below wC.heap.size wC W → (W.cell? ⟨H, 0, none⟩ = some (.int .i64 2) ∧ W.cell? ⟨H, 1, none⟩ = some (.int .i64 1) ∧ W.cell? ⟨H, 2, none⟩ = some (.int .i64 1)) ∧ (W.cell? ⟨B2, 0, none⟩ = some (.slice ba 1 bc) ∧ W.cell? ⟨B2, 1, none⟩ = some (.slice ia 1 ic) ∧ W.cell? ⟨B2, 2, none⟩ = some (.slice oa 1 oc)) ∧ W.cell? ⟨F, 0, none⟩ = some (.slice fba 1 1) ∧ W.cell? ⟨F, 1, none⟩ = some (.slice fia 1 1) ∧ W.cell? ⟨F, 2, none⟩ = some (.slice foa 1 1)) := Lib.hid fun W hW => HKD.out W (HC7.out.trans (hW.mono HC7.out.size))
        clear HC6 HB6 HKD HC7
        go_upto_region 8 with fail
        go_cut [9, 10, 11] from 14 to 70 (fun p q r wx => ∃ B rba rbc ria ric roa roc, p = .pointer (some ⟨B, 0, none⟩) ∧ q = .bool true ∧ r = .int .i64 0 ∧ Hid (SB wC wx B rba rbc ria ric roa roc 0 0 2))
        case first =>
          refine wp_region_held_drew (S := fun w' => ((w'.cell? ⟨H, 0, none⟩ = some (.int .i64 2) ∧ w'.cell? ⟨H, 1, none⟩ = some (.int .i64 1) ∧ w'.cell? ⟨H, 2, none⟩ = some (.int .i64 1)) ∧ (w'.cell? ⟨B2, 0, none⟩ = some (.slice ba 1 bc) ∧ w'.cell? ⟨B2, 1, none⟩ = some (.slice ia 1 ic) ∧ w'.cell? ⟨B2, 2, none⟩ = some (.slice oa 1 oc)) ∧ w'.cell? ⟨F, 0, none⟩ = some (.slice fba 1 1) ∧ w'.cell? ⟨F, 1, none⟩ = some (.slice fia 1 1) ∧ w'.cell? ⟨F, 2, none⟩ = some (.slice foa 1 1))) (by kernel_rfl) (HKE.out _ (Below.refl _ _).drew) (fun hHeld => ?_)
          obtain ⟨v19, hv19⟩ : ∃ W, W = wC.drew := ⟨_, rfl⟩
          have hb19 : Below wC.heap.size wC v19 := by rw [hv19]; exact (Below.refl _ _).drew
          rw [← hv19] at hHeld ⊢
          have HBv19 := Lib.hid hb19
          have FX19 := Lib.hid ((HB6'.out.at_).below hb19 (Nat.le_refl _))
          clear hb19 hv19
          refine wpAnyH_take (i := 0) (v := ?_) (by simp only [List.getElem?_toArray, List.getElem?_cons_succ, List.getElem?_cons_zero]; rfl) (by kernel_rfl) (by kernel_rfl) (by kernel_rfl) (by intro _ _ _ h; exact h) (Or.inl ⟨by rfl, ?_⟩) (by assumption) ?_
          rotate_left
          · intro w hSw; (try dsimp only at hSw); go_simp; try with_reducible rfl
          try simp only [Act.put, List.setIfInBounds_toArray, List.set_cons_zero, List.set_cons_succ]
          refine wpAnyH_take (i := 2) (v := ?_) (by simp only [List.getElem?_toArray, List.getElem?_cons_succ, List.getElem?_cons_zero]; rfl) (by kernel_rfl) (by kernel_rfl) (by kernel_rfl) (by intro _ _ _ h; exact h) (Or.inl ⟨by rfl, ?_⟩) (by assumption) ?_
          rotate_left
          · intro w hSw; (try dsimp only at hSw); go_simp; try with_reducible rfl
          try simp only [Act.put, List.setIfInBounds_toArray, List.set_cons_zero, List.set_cons_succ]
          refine wpAnyH_ready (rs := [1, 8]) (by kernel_rfl) (by simp) ?_
          refine AllReadyH.cons (o := _) (by simp only [List.getElem?_toArray, List.getElem?_cons_succ, List.getElem?_cons_zero]; rfl) (fun K hK => ?_) (AllReadyH.cons (o := _) (by simp only [List.getElem?_toArray, List.getElem?_cons_succ, List.getElem?_cons_zero]; rfl) (fun K hK => ?_) AllReadyH.nil)
          · go_simp
            go_at_call 27
            refine Calls.mono (lv0 v19) ?_
            rintro e v20 ⟨pv20, rfl, hp20, hb20⟩
            have HBv20 := Lib.hid ((HBv19.out).trans (hb20.mono (HBv19.out).size))
            have FX20 := Lib.hid ((FX19.out).below hb20 (Nat.le_refl _))
            have HP20 := Lib.hid hp20
            clear hp20
            clear hb20
            go_simp
            refine hK.out _ _ (by exact HKE.out _ HBv20.out) (fun hHeld => ?_)
            clear hK K
            try simp only [Act.put, List.setIfInBounds_toArray, List.set_cons_zero, List.set_cons_succ]
            refine wpAnyH_ready (rs := [3, 8]) (by kernel_rfl) (by simp) ?_
            refine AllReadyH.cons (o := _) (by simp only [List.getElem?_toArray, List.getElem?_cons_succ, List.getElem?_cons_zero]; rfl) (fun K hK => ?_) (AllReadyH.cons (o := _) (by simp only [List.getElem?_toArray, List.getElem?_cons_succ, List.getElem?_cons_zero]; rfl) (fun K hK => ?_) AllReadyH.nil)
            · go_simp
              go_at_call 19
              refine Calls.mono (lv4 v20 pv20 (HP20.out) fba 1 fia 1 foa 1 (FX20.out)) ?_
              rintro e v21 ⟨rba, rbc, ria, ric, roa, roc, rfl, hn21, hb21⟩
              have HBv21 := Lib.hid ((HBv20.out).trans (hb21.mono (HBv20.out).size))
              have FX21 := Lib.hid ((FX20.out).below hb21 (Nat.le_refl _))
              have FP21 := Lib.hid ((HP20.out).below hb21 (Nat.le_refl _))
              have HN21 := Lib.hid hn21
              clear hn21
              clear hb21
              go_simp
              refine hK.out _ _ (by exact HKE.out _ HBv21.out) (fun hHeld => ?_)
              clear hK K
              try simp only [Act.put, List.setIfInBounds_toArray, List.set_cons_zero, List.set_cons_succ]
              refine wpAnyH_take (i := 4) (v := ?_) (by simp only [List.getElem?_toArray, List.getElem?_cons_succ, List.getElem?_cons_zero]; rfl) (by kernel_rfl) (by kernel_rfl) (by kernel_rfl) (by intro _ _ _ h; exact h) (Or.inl ⟨by rfl, ?_⟩) (by assumption) ?_
              rotate_left
              · intro w hSw; (try dsimp only at hSw); go_simp; try with_reducible rfl
              try simp only [Act.put, List.setIfInBounds_toArray, List.set_cons_zero, List.set_cons_succ]
              refine wpAnyH_take (i := 5) (v := ?_) (by simp only [List.getElem?_toArray, List.getElem?_cons_succ, List.getElem?_cons_zero]; rfl) (by kernel_rfl) (by kernel_rfl) (by kernel_rfl) (by intro _ _ _ h; exact h) (Or.inl ⟨by rfl, ?_⟩) (by assumption) ?_
              rotate_left
              · intro w hSw; (try dsimp only at hSw); go_simp; try with_reducible rfl
              try simp only [Act.put, List.setIfInBounds_toArray, List.set_cons_zero, List.set_cons_succ]
              refine wpAnyH_take (i := 6) (v := ?_) (by simp only [List.getElem?_toArray, List.getElem?_cons_succ, List.getElem?_cons_zero]; rfl) (by kernel_rfl) (by kernel_rfl) (by kernel_rfl) (by intro _ _ _ h; exact h) (Or.inl ⟨by rfl, ?_⟩) (by assumption) ?_
              rotate_left
              · intro w hSw; (try dsimp only at hSw); go_simp; try with_reducible rfl
              try simp only [Act.put, List.setIfInBounds_toArray, List.set_cons_zero, List.set_cons_succ]
              refine wpAnyH_take (i := 7) (v := ?_) (by simp only [List.getElem?_toArray, List.getElem?_cons_succ, List.getElem?_cons_zero]; rfl) (by kernel_rfl) (by kernel_rfl) (by kernel_rfl) (by intro _ _ _ h; exact h) (Or.inl ⟨by rfl, ?_⟩) (by assumption) ?_
              rotate_left
              · intro w hSw; (try dsimp only at hSw); go_simp; try with_reducible rfl
              try simp only [Act.put, List.setIfInBounds_toArray, List.set_cons_zero, List.set_cons_succ]
              refine wpAnyH_ready (rs := [8]) (by kernel_rfl) (by simp) ?_
              refine AllReadyH.cons (o := _) (by simp only [List.getElem?_toArray, List.getElem?_cons_succ, List.getElem?_cons_zero]; rfl) (fun K hK => ?_) AllReadyH.nil
              go_simp
              obtain ⟨B9, hB9⟩ : ∃ x, x = v21.heap.size := ⟨_, rfl⟩
              obtain ⟨v22, hv22⟩ : ∃ W, W = v21.alloc (.cells #[.slice none 0 0, .slice none 0 0, .slice none 0 0] 29) := ⟨_, rfl⟩
              have hb22 : Below v21.heap.size v21 v22 := by rw [hv22]; exact (Below.refl v21.heap.size v21).alloc (Nat.le_refl _) (.cells #[.slice none 0 0, .slice none 0 0, .slice none 0 0] 29)
              have HBv22 := Lib.hid ((HBv21.out).trans (hb22.mono (HBv21.out).size))
              have FB922 : Hid (v22.rowIs B9 29 3 (fun i => ([.slice none 0 0, .slice none 0 0, .slice none 0 0] : List Value).getD i undef)) := Lib.hid (by rw [hv22, hB9]; exact rowL_alloc v21 29 [.slice none 0 0, .slice none 0 0, .slice none 0 0])
              have GEB9 : Hid (wC.heap.size ≤ B9) := Lib.hid (by rw [hB9]; exact (HBv21.out).size)
              have FX22 := Lib.hid ((FX21.out).below hb22 (Nat.le_refl _))
              have FP22 := Lib.hid ((FP21.out).below hb22 (Nat.le_refl _))
              have FN22 := Lib.hid ((HN21.out).below hb22)
              (try rw [← hv22])
              (try rw [← hB9])
              clear hb22 hv22 hB9
              refine hK.out _ _ (by exact HKE.out _ HBv22.out) (fun hHeld => ?_)
              clear hK K
              try simp only [Act.put, List.setIfInBounds_toArray, List.set_cons_zero, List.set_cons_succ]
              refine wpAnyH_ready (rs := [9]) (by kernel_rfl) (by simp) ?_
              refine AllReadyH.cons (o := _) (by simp only [List.getElem?_toArray, List.getElem?_cons_succ, List.getElem?_cons_zero]; rfl) (fun K hK => ?_) AllReadyH.nil
              have zc0 := (FB922.out).cell (i := 0) (by omega)
              have zf0 := (FB922.out).frozen 0
              have zc1 := (FB922.out).cell (i := 1) (by omega)
              have zf1 := (FB922.out).frozen 1
              have zc2 := (FB922.out).cell (i := 2) (by omega)
              have zf2 := (FB922.out).frozen 2
              (try dsimp only [List.getD_cons_zero, List.getD_cons_succ] at zc0 zc1 zc2)
              go_simp
              obtain ⟨v23, hv23⟩ : ∃ W, W = (((v22.setCell ⟨B9, 0, none⟩ (.slice rba 1 rbc)).setCell ⟨B9, 1, none⟩ (.slice ria 1 ric)).setCell ⟨B9, 2, none⟩ (.slice roa 1 roc)) := ⟨_, rfl⟩
              have hg23 : v22.grownBy v23 (some B9) := by rw [hv23]; exact grown_put3 (World.grownBy.refl _ _)
              have HBv23 := Lib.hid (below_grown (HBv22.out) hg23 GEB9.out (HBv22.out).size)
              have FB923 : Hid (v23.rowIs B9 29 3 (fun i => ([.slice rba 1 rbc, .slice ria 1 ric, .slice roa 1 roc] : List Value).getD i undef)) := Lib.hid (by rw [hv23]; exact put3_row (FB922.out))
              have FN23 := Lib.hid ((FN22.out).grownS hg23 (FB922.out))
              (try rw [← hv23])
              clear hg23 hv23 zc0 zf0 zc1 zf1 zc2 zf2
              refine hK.out _ _ (by exact HKE.out _ HBv23.out) (fun hHeld => ?_)
              clear hK K
              try simp only [Act.put, List.setIfInBounds_toArray, List.set_cons_zero, List.set_cons_succ]
              refine wpAnyH_take (i := 10) (v := ?_) (by simp only [List.getElem?_toArray, List.getElem?_cons_succ, List.getElem?_cons_zero]; rfl) (by kernel_rfl) (by kernel_rfl) (by kernel_rfl) (by intro _ _ _ h; exact h) (Or.inl ⟨by rfl, ?_⟩) (by assumption) ?_
              rotate_left
              · intro w hSw; (try dsimp only at hSw); go_simp; try with_reducible rfl
              try simp only [Act.put, List.setIfInBounds_toArray, List.set_cons_zero, List.set_cons_succ]
              refine wpAnyH_take (i := 11) (v := ?_) (by simp only [List.getElem?_toArray, List.getElem?_cons_succ, List.getElem?_cons_zero]; rfl) (by kernel_rfl) (by kernel_rfl) (by kernel_rfl) (by intro _ _ _ h; exact h) (Or.inl ⟨by rfl, ?_⟩) (by assumption) ?_
              rotate_left
              · intro w hSw; (try dsimp only at hSw); go_simp; try with_reducible rfl
              try simp only [Act.put, List.setIfInBounds_toArray, List.set_cons_zero, List.set_cons_succ]
              refine wpAnyH_done (by kernel_rfl) ?_ _
              go_wp2_with fail
              go_meet
              exact ⟨B9, rba, rbc, ria, ric, roa, roc, rfl, rfl, rfl, Lib.hid ⟨HBv23.out, FB923.out, (FN23.out).spots (HB6'.out.at_.below (HBv23.out) (Nat.le_refl _))⟩⟩
            · go_simp
              obtain ⟨B9, hB9⟩ : ∃ x, x = v20.heap.size := ⟨_, rfl⟩
              obtain ⟨v24, hv24⟩ : ∃ W, W = v20.alloc (.cells #[.slice none 0 0, .slice none 0 0, .slice none 0 0] 29) := ⟨_, rfl⟩
              have hb24 : Below v20.heap.size v20 v24 := by rw [hv24]; exact (Below.refl v20.heap.size v20).alloc (Nat.le_refl _) (.cells #[.slice none 0 0, .slice none 0 0, .slice none 0 0] 29)
              have HBv24 := Lib.hid ((HBv20.out).trans (hb24.mono (HBv20.out).size))
              have FB924 : Hid (v24.rowIs B9 29 3 (fun i => ([.slice none 0 0, .slice none 0 0, .slice none 0 0] : List Value).getD i undef)) := Lib.hid (by rw [hv24, hB9]; exact rowL_alloc v20 29 [.slice none 0 0, .slice none 0 0, .slice none 0 0])
              have GEB9 : Hid (wC.heap.size ≤ B9) := Lib.hid (by rw [hB9]; exact (HBv20.out).size)
              have FX24 := Lib.hid ((FX20.out).below hb24 (Nat.le_refl _))
              have FP24 := Lib.hid ((HP20.out).below hb24 (Nat.le_refl _))
              (try rw [← hv24])
              (try rw [← hB9])
              clear hb24 hv24 hB9
              refine hK.out _ _ (by exact HKE.out _ HBv24.out) (fun hHeld => ?_)
              clear hK K
              try simp only [Act.put, List.setIfInBounds_toArray, List.set_cons_zero, List.set_cons_succ]
              refine wpAnyH_ready (rs := [3]) (by kernel_rfl) (by simp) ?_
              refine AllReadyH.cons (o := _) (by simp only [List.getElem?_toArray, List.getElem?_cons_succ, List.getElem?_cons_zero]; rfl) (fun K hK => ?_) AllReadyH.nil
              go_simp
              go_at_call 19
              refine Calls.mono (lv4 v24 pv20 (FP24.out) fba 1 fia 1 foa 1 (FX24.out)) ?_
              rintro e v25 ⟨rba, rbc, ria, ric, roa, roc, rfl, hn25, hb25⟩
              have HBv25 := Lib.hid ((HBv24.out).trans (hb25.mono (HBv24.out).size))
              have FX25 := Lib.hid ((FX24.out).below hb25 (Nat.le_refl _))
              have FP25 := Lib.hid ((FP24.out).below hb25 (Nat.le_refl _))
              have FB925 := Lib.hid ((FB924.out).of_block (hb25.block B9 (FB924.out).lt))
              have HN25 := Lib.hid hn25
              clear hn25
              clear hb25
              go_simp
              refine hK.out _ _ (by exact HKE.out _ HBv25.out) (fun hHeld => ?_)
              clear hK K
              try simp only [Act.put, List.setIfInBounds_toArray, List.set_cons_zero, List.set_cons_succ]
              refine wpAnyH_take (i := 4) (v := ?_) (by simp only [List.getElem?_toArray, List.getElem?_cons_succ, List.getElem?_cons_zero]; rfl) (by kernel_rfl) (by kernel_rfl) (by kernel_rfl) (by intro _ _ _ h; exact h) (Or.inl ⟨by rfl, ?_⟩) (by assumption) ?_
              rotate_left
              · intro w hSw; (try dsimp only at hSw); go_simp; try with_reducible rfl
              try simp only [Act.put, List.setIfInBounds_toArray, List.set_cons_zero, List.set_cons_succ]
              refine wpAnyH_take (i := 5) (v := ?_) (by simp only [List.getElem?_toArray, List.getElem?_cons_succ, List.getElem?_cons_zero]; rfl) (by kernel_rfl) (by kernel_rfl) (by kernel_rfl) (by intro _ _ _ h; exact h) (Or.inl ⟨by rfl, ?_⟩) (by assumption) ?_
              rotate_left
              · intro w hSw; (try dsimp only at hSw); go_simp; try with_reducible rfl
              try simp only [Act.put, List.setIfInBounds_toArray, List.set_cons_zero, List.set_cons_succ]
              refine wpAnyH_take (i := 6) (v := ?_) (by simp only [List.getElem?_toArray, List.getElem?_cons_succ, List.getElem?_cons_zero]; rfl) (by kernel_rfl) (by kernel_rfl) (by kernel_rfl) (by intro _ _ _ h; exact h) (Or.inl ⟨by rfl, ?_⟩) (by assumption) ?_
              rotate_left
              · intro w hSw; (try dsimp only at hSw); go_simp; try with_reducible rfl
              try simp only [Act.put, List.setIfInBounds_toArray, List.set_cons_zero, List.set_cons_succ]
              refine wpAnyH_take (i := 7) (v := ?_) (by simp only [List.getElem?_toArray, List.getElem?_cons_succ, List.getElem?_cons_zero]; rfl) (by kernel_rfl) (by kernel_rfl) (by kernel_rfl) (by intro _ _ _ h; exact h) (Or.inl ⟨by rfl, ?_⟩) (by assumption) ?_
              rotate_left
              · intro w hSw; (try dsimp only at hSw); go_simp; try with_reducible rfl
              try simp only [Act.put, List.setIfInBounds_toArray, List.set_cons_zero, List.set_cons_succ]
              refine wpAnyH_ready (rs := [9]) (by kernel_rfl) (by simp) ?_
              refine AllReadyH.cons (o := _) (by simp only [List.getElem?_toArray, List.getElem?_cons_succ, List.getElem?_cons_zero]; rfl) (fun K hK => ?_) AllReadyH.nil
              have zc0 := (FB925.out).cell (i := 0) (by omega)
              have zf0 := (FB925.out).frozen 0
              have zc1 := (FB925.out).cell (i := 1) (by omega)
              have zf1 := (FB925.out).frozen 1
              have zc2 := (FB925.out).cell (i := 2) (by omega)
              have zf2 := (FB925.out).frozen 2
              (try dsimp only [List.getD_cons_zero, List.getD_cons_succ] at zc0 zc1 zc2)
              go_simp
              obtain ⟨v26, hv26⟩ : ∃ W, W = (((v25.setCell ⟨B9, 0, none⟩ (.slice rba 1 rbc)).setCell ⟨B9, 1, none⟩ (.slice ria 1 ric)).setCell ⟨B9, 2, none⟩ (.slice roa 1 roc)) := ⟨_, rfl⟩
              have hg26 : v25.grownBy v26 (some B9) := by rw [hv26]; exact grown_put3 (World.grownBy.refl _ _)
              have HBv26 := Lib.hid (below_grown (HBv25.out) hg26 GEB9.out (HBv25.out).size)
              have FB926 : Hid (v26.rowIs B9 29 3 (fun i => ([.slice rba 1 rbc, .slice ria 1 ric, .slice roa 1 roc] : List Value).getD i undef)) := Lib.hid (by rw [hv26]; exact put3_row (FB925.out))
              have FN26 := Lib.hid ((HN25.out).grownS hg26 (FB925.out))
              (try rw [← hv26])
              clear hg26 hv26 zc0 zf0 zc1 zf1 zc2 zf2
              refine hK.out _ _ (by exact HKE.out _ HBv26.out) (fun hHeld => ?_)
              clear hK K
              try simp only [Act.put, List.setIfInBounds_toArray, List.set_cons_zero, List.set_cons_succ]
              refine wpAnyH_take (i := 10) (v := ?_) (by simp only [List.getElem?_toArray, List.getElem?_cons_succ, List.getElem?_cons_zero]; rfl) (by kernel_rfl) (by kernel_rfl) (by kernel_rfl) (by intro _ _ _ h; exact h) (Or.inl ⟨by rfl, ?_⟩) (by assumption) ?_
              rotate_left
              · intro w hSw; (try dsimp only at hSw); go_simp; try with_reducible rfl
              try simp only [Act.put, List.setIfInBounds_toArray, List.set_cons_zero, List.set_cons_succ]
              refine wpAnyH_take (i := 11) (v := ?_) (by simp only [List.getElem?_toArray, List.getElem?_cons_succ, List.getElem?_cons_zero]; rfl) (by kernel_rfl) (by kernel_rfl) (by kernel_rfl) (by intro _ _ _ h; exact h) (Or.inl ⟨by rfl, ?_⟩) (by assumption) ?_
              rotate_left
              · intro w hSw; (try dsimp only at hSw); go_simp; try with_reducible rfl
              try simp only [Act.put, List.setIfInBounds_toArray, List.set_cons_zero, List.set_cons_succ]
              refine wpAnyH_done (by kernel_rfl) ?_ _
              go_wp2_with fail
              go_meet
              exact ⟨B9, rba, rbc, ria, ric, roa, roc, rfl, rfl, rfl, Lib.hid ⟨HBv26.out, FB926.out, (FN26.out).spots (HB6'.out.at_.below (HBv26.out) (Nat.le_refl _))⟩⟩
          · go_simp
            obtain ⟨B9, hB9⟩ : ∃ x, x = v19.heap.size := ⟨_, rfl⟩
            obtain ⟨v27, hv27⟩ : ∃ W, W = v19.alloc (.cells #[.slice none 0 0, .slice none 0 0, .slice none 0 0] 29) := ⟨_, rfl⟩
            have hb27 : Below v19.heap.size v19 v27 := by rw [hv27]; exact (Below.refl v19.heap.size v19).alloc (Nat.le_refl _) (.cells #[.slice none 0 0, .slice none 0 0, .slice none 0 0] 29)
            have HBv27 := Lib.hid ((HBv19.out).trans (hb27.mono (HBv19.out).size))
            have FB927 : Hid (v27.rowIs B9 29 3 (fun i => ([.slice none 0 0, .slice none 0 0, .slice none 0 0] : List Value).getD i undef)) := Lib.hid (by rw [hv27, hB9]; exact rowL_alloc v19 29 [.slice none 0 0, .slice none 0 0, .slice none 0 0])
            have GEB9 : Hid (wC.heap.size ≤ B9) := Lib.hid (by rw [hB9]; exact (HBv19.out).size)
            have FX27 := Lib.hid ((FX19.out).below hb27 (Nat.le_refl _))
            (try rw [← hv27])
            (try rw [← hB9])
            clear hb27 hv27 hB9
            refine hK.out _ _ (by exact HKE.out _ HBv27.out) (fun hHeld => ?_)
            clear hK K
            try simp only [Act.put, List.setIfInBounds_toArray, List.set_cons_zero, List.set_cons_succ]
            refine wpAnyH_ready (rs := [1]) (by kernel_rfl) (by simp) ?_
            refine AllReadyH.cons (o := _) (by simp only [List.getElem?_toArray, List.getElem?_cons_succ, List.getElem?_cons_zero]; rfl) (fun K hK => ?_) AllReadyH.nil
            go_simp
            go_at_call 27
            refine Calls.mono (lv0 v27) ?_
            rintro e v28 ⟨pv28, rfl, hp28, hb28⟩
            have HBv28 := Lib.hid ((HBv27.out).trans (hb28.mono (HBv27.out).size))
            have FX28 := Lib.hid ((FX27.out).below hb28 (Nat.le_refl _))
            have FB928 := Lib.hid ((FB927.out).of_block (hb28.block B9 (FB927.out).lt))
            have HP28 := Lib.hid hp28
            clear hp28
            clear hb28
            go_simp
            refine hK.out _ _ (by exact HKE.out _ HBv28.out) (fun hHeld => ?_)
            clear hK K
            try simp only [Act.put, List.setIfInBounds_toArray, List.set_cons_zero, List.set_cons_succ]
            refine wpAnyH_ready (rs := [3]) (by kernel_rfl) (by simp) ?_
            refine AllReadyH.cons (o := _) (by simp only [List.getElem?_toArray, List.getElem?_cons_succ, List.getElem?_cons_zero]; rfl) (fun K hK => ?_) AllReadyH.nil
            go_simp
            go_at_call 19
            refine Calls.mono (lv4 v28 pv28 (HP28.out) fba 1 fia 1 foa 1 (FX28.out)) ?_
            rintro e v29 ⟨rba, rbc, ria, ric, roa, roc, rfl, hn29, hb29⟩
            have HBv29 := Lib.hid ((HBv28.out).trans (hb29.mono (HBv28.out).size))
            have FX29 := Lib.hid ((FX28.out).below hb29 (Nat.le_refl _))
            have FB929 := Lib.hid ((FB928.out).of_block (hb29.block B9 (FB928.out).lt))
            have FP29 := Lib.hid ((HP28.out).below hb29 (Nat.le_refl _))
            have HN29 := Lib.hid hn29
            clear hn29
            clear hb29
            go_simp
            refine hK.out _ _ (by exact HKE.out _ HBv29.out) (fun hHeld => ?_)
            clear hK K
            try simp only [Act.put, List.setIfInBounds_toArray, List.set_cons_zero, List.set_cons_succ]
            refine wpAnyH_take (i := 4) (v := ?_) (by simp only [List.getElem?_toArray, List.getElem?_cons_succ, List.getElem?_cons_zero]; rfl) (by kernel_rfl) (by kernel_rfl) (by kernel_rfl) (by intro _ _ _ h; exact h) (Or.inl ⟨by rfl, ?_⟩) (by assumption) ?_
            rotate_left
            · intro w hSw; (try dsimp only at hSw); go_simp; try with_reducible rfl
            try simp only [Act.put, List.setIfInBounds_toArray, List.set_cons_zero, List.set_cons_succ]
            refine wpAnyH_take (i := 5) (v := ?_) (by simp only [List.getElem?_toArray, List.getElem?_cons_succ, List.getElem?_cons_zero]; rfl) (by kernel_rfl) (by kernel_rfl) (by kernel_rfl) (by intro _ _ _ h; exact h) (Or.inl ⟨by rfl, ?_⟩) (by assumption) ?_
            rotate_left
            · intro w hSw; (try dsimp only at hSw); go_simp; try with_reducible rfl
            try simp only [Act.put, List.setIfInBounds_toArray, List.set_cons_zero, List.set_cons_succ]
            refine wpAnyH_take (i := 6) (v := ?_) (by simp only [List.getElem?_toArray, List.getElem?_cons_succ, List.getElem?_cons_zero]; rfl) (by kernel_rfl) (by kernel_rfl) (by kernel_rfl) (by intro _ _ _ h; exact h) (Or.inl ⟨by rfl, ?_⟩) (by assumption) ?_
            rotate_left
            · intro w hSw; (try dsimp only at hSw); go_simp; try with_reducible rfl
            try simp only [Act.put, List.setIfInBounds_toArray, List.set_cons_zero, List.set_cons_succ]
            refine wpAnyH_take (i := 7) (v := ?_) (by simp only [List.getElem?_toArray, List.getElem?_cons_succ, List.getElem?_cons_zero]; rfl) (by kernel_rfl) (by kernel_rfl) (by kernel_rfl) (by intro _ _ _ h; exact h) (Or.inl ⟨by rfl, ?_⟩) (by assumption) ?_
            rotate_left
            · intro w hSw; (try dsimp only at hSw); go_simp; try with_reducible rfl
            try simp only [Act.put, List.setIfInBounds_toArray, List.set_cons_zero, List.set_cons_succ]
            refine wpAnyH_ready (rs := [9]) (by kernel_rfl) (by simp) ?_
            refine AllReadyH.cons (o := _) (by simp only [List.getElem?_toArray, List.getElem?_cons_succ, List.getElem?_cons_zero]; rfl) (fun K hK => ?_) AllReadyH.nil
            have zc0 := (FB929.out).cell (i := 0) (by omega)
            have zf0 := (FB929.out).frozen 0
            have zc1 := (FB929.out).cell (i := 1) (by omega)
            have zf1 := (FB929.out).frozen 1
            have zc2 := (FB929.out).cell (i := 2) (by omega)
            have zf2 := (FB929.out).frozen 2
            (try dsimp only [List.getD_cons_zero, List.getD_cons_succ] at zc0 zc1 zc2)
            go_simp
            obtain ⟨v30, hv30⟩ : ∃ W, W = (((v29.setCell ⟨B9, 0, none⟩ (.slice rba 1 rbc)).setCell ⟨B9, 1, none⟩ (.slice ria 1 ric)).setCell ⟨B9, 2, none⟩ (.slice roa 1 roc)) := ⟨_, rfl⟩
            have hg30 : v29.grownBy v30 (some B9) := by rw [hv30]; exact grown_put3 (World.grownBy.refl _ _)
            have HBv30 := Lib.hid (below_grown (HBv29.out) hg30 GEB9.out (HBv29.out).size)
            have FB930 : Hid (v30.rowIs B9 29 3 (fun i => ([.slice rba 1 rbc, .slice ria 1 ric, .slice roa 1 roc] : List Value).getD i undef)) := Lib.hid (by rw [hv30]; exact put3_row (FB929.out))
            have FN30 := Lib.hid ((HN29.out).grownS hg30 (FB929.out))
            (try rw [← hv30])
            clear hg30 hv30 zc0 zf0 zc1 zf1 zc2 zf2
            refine hK.out _ _ (by exact HKE.out _ HBv30.out) (fun hHeld => ?_)
            clear hK K
            try simp only [Act.put, List.setIfInBounds_toArray, List.set_cons_zero, List.set_cons_succ]
            refine wpAnyH_take (i := 10) (v := ?_) (by simp only [List.getElem?_toArray, List.getElem?_cons_succ, List.getElem?_cons_zero]; rfl) (by kernel_rfl) (by kernel_rfl) (by kernel_rfl) (by intro _ _ _ h; exact h) (Or.inl ⟨by rfl, ?_⟩) (by assumption) ?_
            rotate_left
            · intro w hSw; (try dsimp only at hSw); go_simp; try with_reducible rfl
            try simp only [Act.put, List.setIfInBounds_toArray, List.set_cons_zero, List.set_cons_succ]
            refine wpAnyH_take (i := 11) (v := ?_) (by simp only [List.getElem?_toArray, List.getElem?_cons_succ, List.getElem?_cons_zero]; rfl) (by kernel_rfl) (by kernel_rfl) (by kernel_rfl) (by intro _ _ _ h; exact h) (Or.inl ⟨by rfl, ?_⟩) (by assumption) ?_
            rotate_left
            · intro w hSw; (try dsimp only at hSw); go_simp; try with_reducible rfl
            try simp only [Act.put, List.setIfInBounds_toArray, List.set_cons_zero, List.set_cons_succ]
            refine wpAnyH_done (by kernel_rfl) ?_ _
            go_wp2_with fail
            go_meet
            exact ⟨B9, rba, rbc, ria, ric, roa, roc, rfl, rfl, rfl, Lib.hid ⟨HBv30.out, FB930.out, (FN30.out).spots (HB6'.out.at_.below (HBv30.out) (Nat.le_refl _))⟩⟩
        case rest =>
          obtain ⟨B9, rba, rbc, ria, ric, roa, roc, rfl, rfl, rfl, HC8⟩ := hcut
          obtain ⟨wD, hwD⟩ : ∃ W, W = wc := ⟨_, rfl⟩
          subst hwD
          have HC2 := Lib.hid (HC6'.out.later HC8.out.below)
          have HKG : Hid (∀ W, Below wD.heap.size wD W → (W.cell? ⟨H, 0, none⟩ = some (.int .i64 2) ∧ W.cell? ⟨H, 1, none⟩ = some (.int .i64 1) ∧ W.cell? ⟨H, 2, none⟩ = some (.int .i64 1)) ∧ (W.cell? ⟨B2, 0, none⟩ = some (.slice ba 1 bc) ∧ W.cell? ⟨B2, 1, none⟩ = some (.slice ia 1 ic) ∧ W.cell? ⟨B2, 2, none⟩ = some (.slice oa 1 oc)) ∧ W.cell? ⟨B9, 0, none⟩ = some (.slice rba 1 rbc) ∧ W.cell? ⟨B9, 1, none⟩ = some (.slice ria 1 ric) ∧ W.cell? ⟨B9, 2, none⟩ = some (.slice roa 1 roc)) := Lib.hid fun W hW => ⟨HK.out W (HC2.out.below.trans (hW.mono HC2.out.below.size)), HC2.out.cells W hW, HC8.out.cells W hW⟩
          clear HC6' HB6' HKE
          go_upto_region 9 with fail
          go_cut [12, 13] from 14 to 76 (fun p q wx => ∃ B qba qbc qia qic qoa qoc, p = .pointer (some ⟨B, 0, none⟩) ∧ q = .int .i64 0 ∧ Hid (SB wD wx B qba qbc qia qic qoa qoc 0 0 1))
          case first =>
            refine wp_region_held_drew (S := fun w' => ((w'.cell? ⟨H, 0, none⟩ = some (.int .i64 2) ∧ w'.cell? ⟨H, 1, none⟩ = some (.int .i64 1) ∧ w'.cell? ⟨H, 2, none⟩ = some (.int .i64 1)) ∧ (w'.cell? ⟨B2, 0, none⟩ = some (.slice ba 1 bc) ∧ w'.cell? ⟨B2, 1, none⟩ = some (.slice ia 1 ic) ∧ w'.cell? ⟨B2, 2, none⟩ = some (.slice oa 1 oc)) ∧ w'.cell? ⟨B9, 0, none⟩ = some (.slice rba 1 rbc) ∧ w'.cell? ⟨B9, 1, none⟩ = some (.slice ria 1 ric) ∧ w'.cell? ⟨B9, 2, none⟩ = some (.slice roa 1 roc))) (by kernel_rfl) (HKG.out _ (Below.refl _ _).drew) (fun hHeld => ?_)
            obtain ⟨v31, hv31⟩ : ∃ W, W = wD.drew := ⟨_, rfl⟩
            have hb31 : Below wD.heap.size wD v31 := by rw [hv31]; exact (Below.refl _ _).drew
            rw [← hv31] at hHeld ⊢
            have HBv31 := Lib.hid hb31
            clear hb31 hv31
            refine wpAnyH_take (i := 0) (v := ?_) (by simp only [List.getElem?_toArray, List.getElem?_cons_succ, List.getElem?_cons_zero]; rfl) (by kernel_rfl) (by kernel_rfl) (by kernel_rfl) (by intro _ _ _ h; exact h) (Or.inl ⟨by rfl, ?_⟩) (by assumption) ?_
            rotate_left
            · intro w hSw; (try dsimp only at hSw); go_simp; try with_reducible rfl
            try simp only [Act.put, List.setIfInBounds_toArray, List.set_cons_zero, List.set_cons_succ]
            refine wpAnyH_ready (rs := [1, 6]) (by kernel_rfl) (by simp) ?_
            refine AllReadyH.cons (o := _) (by simp only [List.getElem?_toArray, List.getElem?_cons_succ, List.getElem?_cons_zero]; rfl) (fun K hK => ?_) (AllReadyH.cons (o := _) (by simp only [List.getElem?_toArray, List.getElem?_cons_succ, List.getElem?_cons_zero]; rfl) (fun K hK => ?_) AllReadyH.nil)
            · go_simp
              go_at_call 27
              refine Calls.mono (lv0 v31) ?_
              rintro e v32 ⟨pv32, rfl, hp32, hb32⟩
              have HBv32 := Lib.hid ((HBv31.out).trans (hb32.mono (HBv31.out).size))
              have HP32 := Lib.hid hp32
              clear hp32
              clear hb32
              go_simp
              refine hK.out _ _ (by exact HKG.out _ HBv32.out) (fun hHeld => ?_)
              clear hK K
              try simp only [Act.put, List.setIfInBounds_toArray, List.set_cons_zero, List.set_cons_succ]
              refine wpAnyH_ready (rs := [2, 6]) (by kernel_rfl) (by simp) ?_
              refine AllReadyH.cons (o := _) (by simp only [List.getElem?_toArray, List.getElem?_cons_succ, List.getElem?_cons_zero]; rfl) (fun K hK => ?_) (AllReadyH.cons (o := _) (by simp only [List.getElem?_toArray, List.getElem?_cons_succ, List.getElem?_cons_zero]; rfl) (fun K hK => ?_) AllReadyH.nil)
              · go_simp
                go_at_call 22
                refine Calls.mono (lv5 v32 pv32 (HP32.out) ) ?_
                rintro e v33 ⟨qba, qbc, qia, qic, qoa, qoc, rfl, hn33, hb33⟩
                have HBv33 := Lib.hid ((HBv32.out).trans (hb33.mono (HBv32.out).size))
                have FP33 := Lib.hid ((HP32.out).below hb33 (Nat.le_refl _))
                have HN33 := Lib.hid hn33
                clear hn33
                clear hb33
                go_simp
                refine hK.out _ _ (by exact HKG.out _ HBv33.out) (fun hHeld => ?_)
                clear hK K
                try simp only [Act.put, List.setIfInBounds_toArray, List.set_cons_zero, List.set_cons_succ]
                refine wpAnyH_take (i := 3) (v := ?_) (by simp only [List.getElem?_toArray, List.getElem?_cons_succ, List.getElem?_cons_zero]; rfl) (by kernel_rfl) (by kernel_rfl) (by kernel_rfl) (by intro _ _ _ h; exact h) (Or.inl ⟨by rfl, ?_⟩) (by assumption) ?_
                rotate_left
                · intro w hSw; (try dsimp only at hSw); go_simp; try with_reducible rfl
                try simp only [Act.put, List.setIfInBounds_toArray, List.set_cons_zero, List.set_cons_succ]
                refine wpAnyH_take (i := 4) (v := ?_) (by simp only [List.getElem?_toArray, List.getElem?_cons_succ, List.getElem?_cons_zero]; rfl) (by kernel_rfl) (by kernel_rfl) (by kernel_rfl) (by intro _ _ _ h; exact h) (Or.inl ⟨by rfl, ?_⟩) (by assumption) ?_
                rotate_left
                · intro w hSw; (try dsimp only at hSw); go_simp; try with_reducible rfl
                try simp only [Act.put, List.setIfInBounds_toArray, List.set_cons_zero, List.set_cons_succ]
                refine wpAnyH_take (i := 5) (v := ?_) (by simp only [List.getElem?_toArray, List.getElem?_cons_succ, List.getElem?_cons_zero]; rfl) (by kernel_rfl) (by kernel_rfl) (by kernel_rfl) (by intro _ _ _ h; exact h) (Or.inl ⟨by rfl, ?_⟩) (by assumption) ?_
                rotate_left
                · intro w hSw; (try dsimp only at hSw); go_simp; try with_reducible rfl
                try simp only [Act.put, List.setIfInBounds_toArray, List.set_cons_zero, List.set_cons_succ]
                refine wpAnyH_ready (rs := [6]) (by kernel_rfl) (by simp) ?_
                refine AllReadyH.cons (o := _) (by simp only [List.getElem?_toArray, List.getElem?_cons_succ, List.getElem?_cons_zero]; rfl) (fun K hK => ?_) AllReadyH.nil
                go_simp
                obtain ⟨BC, hBC⟩ : ∃ x, x = v33.heap.size := ⟨_, rfl⟩
                obtain ⟨v34, hv34⟩ : ∃ W, W = v33.alloc (.cells #[.slice none 0 0, .slice none 0 0, .slice none 0 0] 29) := ⟨_, rfl⟩
                have hb34 : Below v33.heap.size v33 v34 := by rw [hv34]; exact (Below.refl v33.heap.size v33).alloc (Nat.le_refl _) (.cells #[.slice none 0 0, .slice none 0 0, .slice none 0 0] 29)
                have HBv34 := Lib.hid ((HBv33.out).trans (hb34.mono (HBv33.out).size))
                have FBC34 : Hid (v34.rowIs BC 29 3 (fun i => ([.slice none 0 0, .slice none 0 0, .slice none 0 0] : List Value).getD i undef)) := Lib.hid (by rw [hv34, hBC]; exact rowL_alloc v33 29 [.slice none 0 0, .slice none 0 0, .slice none 0 0])
                have GEBC : Hid (wD.heap.size ≤ BC) := Lib.hid (by rw [hBC]; exact (HBv33.out).size)
                have FP34 := Lib.hid ((FP33.out).below hb34 (Nat.le_refl _))
                have FN34 := Lib.hid ((HN33.out).below hb34)
                (try rw [← hv34])
                (try rw [← hBC])
                clear hb34 hv34 hBC
                refine hK.out _ _ (by exact HKG.out _ HBv34.out) (fun hHeld => ?_)
                clear hK K
                try simp only [Act.put, List.setIfInBounds_toArray, List.set_cons_zero, List.set_cons_succ]
                refine wpAnyH_ready (rs := [7]) (by kernel_rfl) (by simp) ?_
                refine AllReadyH.cons (o := _) (by simp only [List.getElem?_toArray, List.getElem?_cons_succ, List.getElem?_cons_zero]; rfl) (fun K hK => ?_) AllReadyH.nil
                have zc0 := (FBC34.out).cell (i := 0) (by omega)
                have zf0 := (FBC34.out).frozen 0
                have zc1 := (FBC34.out).cell (i := 1) (by omega)
                have zf1 := (FBC34.out).frozen 1
                have zc2 := (FBC34.out).cell (i := 2) (by omega)
                have zf2 := (FBC34.out).frozen 2
                (try dsimp only [List.getD_cons_zero, List.getD_cons_succ] at zc0 zc1 zc2)
                go_simp
                obtain ⟨v35, hv35⟩ : ∃ W, W = (((v34.setCell ⟨BC, 0, none⟩ (.slice qba 1 qbc)).setCell ⟨BC, 1, none⟩ (.slice qia 1 qic)).setCell ⟨BC, 2, none⟩ (.slice qoa 1 qoc)) := ⟨_, rfl⟩
                have hg35 : v34.grownBy v35 (some BC) := by rw [hv35]; exact grown_put3 (World.grownBy.refl _ _)
                have HBv35 := Lib.hid (below_grown (HBv34.out) hg35 GEBC.out (HBv34.out).size)
                have FBC35 : Hid (v35.rowIs BC 29 3 (fun i => ([.slice qba 1 qbc, .slice qia 1 qic, .slice qoa 1 qoc] : List Value).getD i undef)) := Lib.hid (by rw [hv35]; exact put3_row (FBC34.out))
                have FN35 := Lib.hid ((FN34.out).grownS hg35 (FBC34.out))
                (try rw [← hv35])
                clear hg35 hv35 zc0 zf0 zc1 zf1 zc2 zf2
                refine hK.out _ _ (by exact HKG.out _ HBv35.out) (fun hHeld => ?_)
                clear hK K
                try simp only [Act.put, List.setIfInBounds_toArray, List.set_cons_zero, List.set_cons_succ]
                refine wpAnyH_take (i := 8) (v := ?_) (by simp only [List.getElem?_toArray, List.getElem?_cons_succ, List.getElem?_cons_zero]; rfl) (by kernel_rfl) (by kernel_rfl) (by kernel_rfl) (by intro _ _ _ h; exact h) (Or.inl ⟨by rfl, ?_⟩) (by assumption) ?_
                rotate_left
                · intro w hSw; (try dsimp only at hSw); go_simp; try with_reducible rfl
                try simp only [Act.put, List.setIfInBounds_toArray, List.set_cons_zero, List.set_cons_succ]
                refine wpAnyH_done (by kernel_rfl) ?_ _
                go_wp2_with fail
                go_meet
                exact ⟨BC, qba, qbc, qia, qic, qoa, qoc, rfl, rfl, Lib.hid ⟨HBv35.out, FBC35.out, (FN35.out).anew⟩⟩
              · go_simp
                obtain ⟨BC, hBC⟩ : ∃ x, x = v32.heap.size := ⟨_, rfl⟩
                obtain ⟨v36, hv36⟩ : ∃ W, W = v32.alloc (.cells #[.slice none 0 0, .slice none 0 0, .slice none 0 0] 29) := ⟨_, rfl⟩
                have hb36 : Below v32.heap.size v32 v36 := by rw [hv36]; exact (Below.refl v32.heap.size v32).alloc (Nat.le_refl _) (.cells #[.slice none 0 0, .slice none 0 0, .slice none 0 0] 29)
                have HBv36 := Lib.hid ((HBv32.out).trans (hb36.mono (HBv32.out).size))
                have FBC36 : Hid (v36.rowIs BC 29 3 (fun i => ([.slice none 0 0, .slice none 0 0, .slice none 0 0] : List Value).getD i undef)) := Lib.hid (by rw [hv36, hBC]; exact rowL_alloc v32 29 [.slice none 0 0, .slice none 0 0, .slice none 0 0])
                have GEBC : Hid (wD.heap.size ≤ BC) := Lib.hid (by rw [hBC]; exact (HBv32.out).size)
                have FP36 := Lib.hid ((HP32.out).below hb36 (Nat.le_refl _))
                (try rw [← hv36])
                (try rw [← hBC])
                clear hb36 hv36 hBC
                refine hK.out _ _ (by exact HKG.out _ HBv36.out) (fun hHeld => ?_)
                clear hK K
                try simp only [Act.put, List.setIfInBounds_toArray, List.set_cons_zero, List.set_cons_succ]
                refine wpAnyH_ready (rs := [2]) (by kernel_rfl) (by simp) ?_
                refine AllReadyH.cons (o := _) (by simp only [List.getElem?_toArray, List.getElem?_cons_succ, List.getElem?_cons_zero]; rfl) (fun K hK => ?_) AllReadyH.nil
                go_simp
                go_at_call 22
                refine Calls.mono (lv5 v36 pv32 (FP36.out) ) ?_
                rintro e v37 ⟨qba, qbc, qia, qic, qoa, qoc, rfl, hn37, hb37⟩
                have HBv37 := Lib.hid ((HBv36.out).trans (hb37.mono (HBv36.out).size))
                have FP37 := Lib.hid ((FP36.out).below hb37 (Nat.le_refl _))
                have FBC37 := Lib.hid ((FBC36.out).of_block (hb37.block BC (FBC36.out).lt))
                have HN37 := Lib.hid hn37
                clear hn37
                clear hb37
                go_simp
                refine hK.out _ _ (by exact HKG.out _ HBv37.out) (fun hHeld => ?_)
                clear hK K
                try simp only [Act.put, List.setIfInBounds_toArray, List.set_cons_zero, List.set_cons_succ]
                refine wpAnyH_take (i := 3) (v := ?_) (by simp only [List.getElem?_toArray, List.getElem?_cons_succ, List.getElem?_cons_zero]; rfl) (by kernel_rfl) (by kernel_rfl) (by kernel_rfl) (by intro _ _ _ h; exact h) (Or.inl ⟨by rfl, ?_⟩) (by assumption) ?_
                rotate_left
                · intro w hSw; (try dsimp only at hSw); go_simp; try with_reducible rfl
                try simp only [Act.put, List.setIfInBounds_toArray, List.set_cons_zero, List.set_cons_succ]
                refine wpAnyH_take (i := 4) (v := ?_) (by simp only [List.getElem?_toArray, List.getElem?_cons_succ, List.getElem?_cons_zero]; rfl) (by kernel_rfl) (by kernel_rfl) (by kernel_rfl) (by intro _ _ _ h; exact h) (Or.inl ⟨by rfl, ?_⟩) (by assumption) ?_
                rotate_left
                · intro w hSw; (try dsimp only at hSw); go_simp; try with_reducible rfl
                try simp only [Act.put, List.setIfInBounds_toArray, List.set_cons_zero, List.set_cons_succ]
                refine wpAnyH_take (i := 5) (v := ?_) (by simp only [List.getElem?_toArray, List.getElem?_cons_succ, List.getElem?_cons_zero]; rfl) (by kernel_rfl) (by kernel_rfl) (by kernel_rfl) (by intro _ _ _ h; exact h) (Or.inl ⟨by rfl, ?_⟩) (by assumption) ?_
                rotate_left
                · intro w hSw; (try dsimp only at hSw); go_simp; try with_reducible rfl
                try simp only [Act.put, List.setIfInBounds_toArray, List.set_cons_zero, List.set_cons_succ]
                refine wpAnyH_ready (rs := [7]) (by kernel_rfl) (by simp) ?_
                refine AllReadyH.cons (o := _) (by simp only [List.getElem?_toArray, List.getElem?_cons_succ, List.getElem?_cons_zero]; rfl) (fun K hK => ?_) AllReadyH.nil
                have zc0 := (FBC37.out).cell (i := 0) (by omega)
                have zf0 := (FBC37.out).frozen 0
                have zc1 := (FBC37.out).cell (i := 1) (by omega)
                have zf1 := (FBC37.out).frozen 1
                have zc2 := (FBC37.out).cell (i := 2) (by omega)
                have zf2 := (FBC37.out).frozen 2
                (try dsimp only [List.getD_cons_zero, List.getD_cons_succ] at zc0 zc1 zc2)
                go_simp
                obtain ⟨v38, hv38⟩ : ∃ W, W = (((v37.setCell ⟨BC, 0, none⟩ (.slice qba 1 qbc)).setCell ⟨BC, 1, none⟩ (.slice qia 1 qic)).setCell ⟨BC, 2, none⟩ (.slice qoa 1 qoc)) := ⟨_, rfl⟩
                have hg38 : v37.grownBy v38 (some BC) := by rw [hv38]; exact grown_put3 (World.grownBy.refl _ _)
                have HBv38 := Lib.hid (below_grown (HBv37.out) hg38 GEBC.out (HBv37.out).size)
                have FBC38 : Hid (v38.rowIs BC 29 3 (fun i => ([.slice qba 1 qbc, .slice qia 1 qic, .slice qoa 1 qoc] : List Value).getD i undef)) := Lib.hid (by rw [hv38]; exact put3_row (FBC37.out))
                have FN38 := Lib.hid ((HN37.out).grownS hg38 (FBC37.out))
                (try rw [← hv38])
                clear hg38 hv38 zc0 zf0 zc1 zf1 zc2 zf2
                refine hK.out _ _ (by exact HKG.out _ HBv38.out) (fun hHeld => ?_)
                clear hK K
                try simp only [Act.put, List.setIfInBounds_toArray, List.set_cons_zero, List.set_cons_succ]
                refine wpAnyH_take (i := 8) (v := ?_) (by simp only [List.getElem?_toArray, List.getElem?_cons_succ, List.getElem?_cons_zero]; rfl) (by kernel_rfl) (by kernel_rfl) (by kernel_rfl) (by intro _ _ _ h; exact h) (Or.inl ⟨by rfl, ?_⟩) (by assumption) ?_
                rotate_left
                · intro w hSw; (try dsimp only at hSw); go_simp; try with_reducible rfl
                try simp only [Act.put, List.setIfInBounds_toArray, List.set_cons_zero, List.set_cons_succ]
                refine wpAnyH_done (by kernel_rfl) ?_ _
                go_wp2_with fail
                go_meet
                exact ⟨BC, qba, qbc, qia, qic, qoa, qoc, rfl, rfl, Lib.hid ⟨HBv38.out, FBC38.out, (FN38.out).anew⟩⟩
            · go_simp
              obtain ⟨BC, hBC⟩ : ∃ x, x = v31.heap.size := ⟨_, rfl⟩
              obtain ⟨v39, hv39⟩ : ∃ W, W = v31.alloc (.cells #[.slice none 0 0, .slice none 0 0, .slice none 0 0] 29) := ⟨_, rfl⟩
              have hb39 : Below v31.heap.size v31 v39 := by rw [hv39]; exact (Below.refl v31.heap.size v31).alloc (Nat.le_refl _) (.cells #[.slice none 0 0, .slice none 0 0, .slice none 0 0] 29)
              have HBv39 := Lib.hid ((HBv31.out).trans (hb39.mono (HBv31.out).size))
              have FBC39 : Hid (v39.rowIs BC 29 3 (fun i => ([.slice none 0 0, .slice none 0 0, .slice none 0 0] : List Value).getD i undef)) := Lib.hid (by rw [hv39, hBC]; exact rowL_alloc v31 29 [.slice none 0 0, .slice none 0 0, .slice none 0 0])
              have GEBC : Hid (wD.heap.size ≤ BC) := Lib.hid (by rw [hBC]; exact (HBv31.out).size)
              (try rw [← hv39])
              (try rw [← hBC])
              clear hb39 hv39 hBC
              refine hK.out _ _ (by exact HKG.out _ HBv39.out) (fun hHeld => ?_)
              clear hK K
              try simp only [Act.put, List.setIfInBounds_toArray, List.set_cons_zero, List.set_cons_succ]
              refine wpAnyH_ready (rs := [1]) (by kernel_rfl) (by simp) ?_
              refine AllReadyH.cons (o := _) (by simp only [List.getElem?_toArray, List.getElem?_cons_succ, List.getElem?_cons_zero]; rfl) (fun K hK => ?_) AllReadyH.nil
              go_simp
              go_at_call 27
              refine Calls.mono (lv0 v39) ?_
              rintro e v40 ⟨pv40, rfl, hp40, hb40⟩
              have HBv40 := Lib.hid ((HBv39.out).trans (hb40.mono (HBv39.out).size))
              have FBC40 := Lib.hid ((FBC39.out).of_block (hb40.block BC (FBC39.out).lt))
              have HP40 := Lib.hid hp40
              clear hp40
              clear hb40
              go_simp
              refine hK.out _ _ (by exact HKG.out _ HBv40.out) (fun hHeld => ?_)
              clear hK K
              try simp only [Act.put, List.setIfInBounds_toArray, List.set_cons_zero, List.set_cons_succ]
              refine wpAnyH_ready (rs := [2]) (by kernel_rfl) (by simp) ?_
              refine AllReadyH.cons (o := _) (by simp only [List.getElem?_toArray, List.getElem?_cons_succ, List.getElem?_cons_zero]; rfl) (fun K hK => ?_) AllReadyH.nil
              go_simp
              go_at_call 22
              refine Calls.mono (lv5 v40 pv40 (HP40.out) ) ?_
              rintro e v41 ⟨qba, qbc, qia, qic, qoa, qoc, rfl, hn41, hb41⟩
              have HBv41 := Lib.hid ((HBv40.out).trans (hb41.mono (HBv40.out).size))
              have FBC41 := Lib.hid ((FBC40.out).of_block (hb41.block BC (FBC40.out).lt))
              have FP41 := Lib.hid ((HP40.out).below hb41 (Nat.le_refl _))
              have HN41 := Lib.hid hn41
              clear hn41
              clear hb41
              go_simp
              refine hK.out _ _ (by exact HKG.out _ HBv41.out) (fun hHeld => ?_)
              clear hK K
              try simp only [Act.put, List.setIfInBounds_toArray, List.set_cons_zero, List.set_cons_succ]
              refine wpAnyH_take (i := 3) (v := ?_) (by simp only [List.getElem?_toArray, List.getElem?_cons_succ, List.getElem?_cons_zero]; rfl) (by kernel_rfl) (by kernel_rfl) (by kernel_rfl) (by intro _ _ _ h; exact h) (Or.inl ⟨by rfl, ?_⟩) (by assumption) ?_
              rotate_left
              · intro w hSw; (try dsimp only at hSw); go_simp; try with_reducible rfl
              try simp only [Act.put, List.setIfInBounds_toArray, List.set_cons_zero, List.set_cons_succ]
              refine wpAnyH_take (i := 4) (v := ?_) (by simp only [List.getElem?_toArray, List.getElem?_cons_succ, List.getElem?_cons_zero]; rfl) (by kernel_rfl) (by kernel_rfl) (by kernel_rfl) (by intro _ _ _ h; exact h) (Or.inl ⟨by rfl, ?_⟩) (by assumption) ?_
              rotate_left
              · intro w hSw; (try dsimp only at hSw); go_simp; try with_reducible rfl
              try simp only [Act.put, List.setIfInBounds_toArray, List.set_cons_zero, List.set_cons_succ]
              refine wpAnyH_take (i := 5) (v := ?_) (by simp only [List.getElem?_toArray, List.getElem?_cons_succ, List.getElem?_cons_zero]; rfl) (by kernel_rfl) (by kernel_rfl) (by kernel_rfl) (by intro _ _ _ h; exact h) (Or.inl ⟨by rfl, ?_⟩) (by assumption) ?_
              rotate_left
              · intro w hSw; (try dsimp only at hSw); go_simp; try with_reducible rfl
              try simp only [Act.put, List.setIfInBounds_toArray, List.set_cons_zero, List.set_cons_succ]
              refine wpAnyH_ready (rs := [7]) (by kernel_rfl) (by simp) ?_
              refine AllReadyH.cons (o := _) (by simp only [List.getElem?_toArray, List.getElem?_cons_succ, List.getElem?_cons_zero]; rfl) (fun K hK => ?_) AllReadyH.nil
              have zc0 := (FBC41.out).cell (i := 0) (by omega)
              have zf0 := (FBC41.out).frozen 0
              have zc1 := (FBC41.out).cell (i := 1) (by omega)
              have zf1 := (FBC41.out).frozen 1
              have zc2 := (FBC41.out).cell (i := 2) (by omega)
              have zf2 := (FBC41.out).frozen 2
              (try dsimp only [List.getD_cons_zero, List.getD_cons_succ] at zc0 zc1 zc2)
              go_simp
              obtain ⟨v42, hv42⟩ : ∃ W, W = (((v41.setCell ⟨BC, 0, none⟩ (.slice qba 1 qbc)).setCell ⟨BC, 1, none⟩ (.slice qia 1 qic)).setCell ⟨BC, 2, none⟩ (.slice qoa 1 qoc)) := ⟨_, rfl⟩
              have hg42 : v41.grownBy v42 (some BC) := by rw [hv42]; exact grown_put3 (World.grownBy.refl _ _)
              have HBv42 := Lib.hid (below_grown (HBv41.out) hg42 GEBC.out (HBv41.out).size)
              have FBC42 : Hid (v42.rowIs BC 29 3 (fun i => ([.slice qba 1 qbc, .slice qia 1 qic, .slice qoa 1 qoc] : List Value).getD i undef)) := Lib.hid (by rw [hv42]; exact put3_row (FBC41.out))
              have FN42 := Lib.hid ((HN41.out).grownS hg42 (FBC41.out))
              (try rw [← hv42])
              clear hg42 hv42 zc0 zf0 zc1 zf1 zc2 zf2
              refine hK.out _ _ (by exact HKG.out _ HBv42.out) (fun hHeld => ?_)
              clear hK K
              try simp only [Act.put, List.setIfInBounds_toArray, List.set_cons_zero, List.set_cons_succ]
              refine wpAnyH_take (i := 8) (v := ?_) (by simp only [List.getElem?_toArray, List.getElem?_cons_succ, List.getElem?_cons_zero]; rfl) (by kernel_rfl) (by kernel_rfl) (by kernel_rfl) (by intro _ _ _ h; exact h) (Or.inl ⟨by rfl, ?_⟩) (by assumption) ?_
              rotate_left
              · intro w hSw; (try dsimp only at hSw); go_simp; try with_reducible rfl
              try simp only [Act.put, List.setIfInBounds_toArray, List.set_cons_zero, List.set_cons_succ]
              refine wpAnyH_done (by kernel_rfl) ?_ _
              go_wp2_with fail
              go_meet
              exact ⟨BC, qba, qbc, qia, qic, qoa, qoc, rfl, rfl, Lib.hid ⟨HBv42.out, FBC42.out, (FN42.out).anew⟩⟩
          case rest =>
            obtain ⟨BC, qba, qbc, qia, qic, qoa, qoc, rfl, rfl, HC9⟩ := hcut
            obtain ⟨wE, hwE⟩ : ∃ W, W = wc := ⟨_, rfl⟩
            subst hwE
            have HC2' := Lib.hid (HC2.out.later HC9.out.below)
            have HC8' := Lib.hid (HC8.out.later HC9.out.below)
            obtain ⟨b1, k1, b2, k2, b3, k3, rfl, rfl, rfl, hl1⟩ := HC2'.out.lists
            obtain ⟨b4, k4, b5, k5, b6, k6, rfl, rfl, rfl, hl2⟩ := HC8'.out.lists
            have HKZ : Hid (∀ W, Below wE.heap.size wE W → (W.cell? ⟨H, 0, none⟩ = some (.int .i64 2) ∧ W.cell? ⟨H, 1, none⟩ = some (.int .i64 1) ∧ W.cell? ⟨H, 2, none⟩ = some (.int .i64 1)) ∧ (W.cell? ⟨B2, 0, none⟩ = some (.slice (some ⟨b1, k1, none⟩) 1 bc) ∧ W.cell? ⟨B2, 1, none⟩ = some (.slice (some ⟨b2, k2, none⟩) 1 ic) ∧ W.cell? ⟨B2, 2, none⟩ = some (.slice (some ⟨b3, k3, none⟩) 1 oc)) ∧ (W.cell? ⟨B9, 0, none⟩ = some (.slice (some ⟨b4, k4, none⟩) 1 rbc) ∧ W.cell? ⟨B9, 1, none⟩ = some (.slice (some ⟨b5, k5, none⟩) 1 ric) ∧ W.cell? ⟨B9, 2, none⟩ = some (.slice (some ⟨b6, k6, none⟩) 1 roc)) ∧ (W.cell? ⟨BC, 0, none⟩ = some (.slice qba 1 qbc) ∧ W.cell? ⟨BC, 1, none⟩ = some (.slice qia 1 qic) ∧ W.cell? ⟨BC, 2, none⟩ = some (.slice qoa 1 qoc)) ∧ (W.cell? ⟨b1, k1, none⟩ = some (.int .i64 0) ∧ W.cell? ⟨b2, k2, none⟩ = some (.int .i64 0) ∧ W.cell? ⟨b3, k3, none⟩ = some (.int .i64 1) ∧ W.cell? ⟨b4, k4, none⟩ = some (.int .i64 0))) := Lib.hid fun W hW => ⟨HK.out W (HC2'.out.below.trans (hW.mono HC2'.out.below.size)), HC2'.out.cells W hW, HC8'.out.cells W hW, HC9.out.cells W hW, (hl1 W hW).1, (hl1 W hW).2.1, (hl1 W hW).2.2, (hl2 W hW).1⟩
            clear HC8 HC8' HC2 HKG hl1 hl2
            go_upto_region 10 with fail
            refine wp_region_held_drew (S := fun w' => ((w'.cell? ⟨H, 0, none⟩ = some (.int .i64 2) ∧ w'.cell? ⟨H, 1, none⟩ = some (.int .i64 1) ∧ w'.cell? ⟨H, 2, none⟩ = some (.int .i64 1)) ∧ (w'.cell? ⟨B2, 0, none⟩ = some (.slice (some ⟨b1, k1, none⟩) 1 bc) ∧ w'.cell? ⟨B2, 1, none⟩ = some (.slice (some ⟨b2, k2, none⟩) 1 ic) ∧ w'.cell? ⟨B2, 2, none⟩ = some (.slice (some ⟨b3, k3, none⟩) 1 oc)) ∧ (w'.cell? ⟨B9, 0, none⟩ = some (.slice (some ⟨b4, k4, none⟩) 1 rbc) ∧ w'.cell? ⟨B9, 1, none⟩ = some (.slice (some ⟨b5, k5, none⟩) 1 ric) ∧ w'.cell? ⟨B9, 2, none⟩ = some (.slice (some ⟨b6, k6, none⟩) 1 roc)) ∧ (w'.cell? ⟨BC, 0, none⟩ = some (.slice qba 1 qbc) ∧ w'.cell? ⟨BC, 1, none⟩ = some (.slice qia 1 qic) ∧ w'.cell? ⟨BC, 2, none⟩ = some (.slice qoa 1 qoc)) ∧ w'.cell? ⟨b1, k1, none⟩ = some (.int .i64 0) ∧ w'.cell? ⟨b2, k2, none⟩ = some (.int .i64 0) ∧ w'.cell? ⟨b3, k3, none⟩ = some (.int .i64 1) ∧ w'.cell? ⟨b4, k4, none⟩ = some (.int .i64 0))) (by kernel_rfl) (HKZ.out _ (Below.refl _ _).drew) (fun hHeld => ?_)
            obtain ⟨v43, hv43⟩ : ∃ W, W = wE.drew := ⟨_, rfl⟩
            have hb43 : Below wE.heap.size wE v43 := by rw [hv43]; exact (Below.refl _ _).drew
            rw [← hv43] at hHeld ⊢
            have HBv43 := Lib.hid hb43
            have FA43 := Lib.hid ((HC2'.out.at_).below hb43 (Nat.le_refl _))
            have FQ43 := Lib.hid ((HC9.out.at_).below hb43 (Nat.le_refl _))
            clear hb43 hv43
            refine wpAnyH_take (i := 0) (v := ?_) (by simp only [List.getElem?_toArray, List.getElem?_cons_succ, List.getElem?_cons_zero]; rfl) (by kernel_rfl) (by kernel_rfl) (by kernel_rfl) (by intro _ _ _ h; exact h) (Or.inl ⟨by rfl, ?_⟩) (by assumption) ?_
            rotate_left
            · intro w hSw; (try dsimp only at hSw); go_simp; try with_reducible rfl
            try simp only [Act.put, List.setIfInBounds_toArray, List.set_cons_zero, List.set_cons_succ]
            refine wpAnyH_take (i := 1) (v := ?_) (by simp only [List.getElem?_toArray, List.getElem?_cons_succ, List.getElem?_cons_zero]; rfl) (by kernel_rfl) (by kernel_rfl) (by kernel_rfl) (by intro _ _ _ h; exact h) (Or.inl ⟨by rfl, ?_⟩) (by assumption) ?_
            rotate_left
            · intro w hSw; (try dsimp only at hSw); go_simp; try with_reducible rfl
            try simp only [Act.put, List.setIfInBounds_toArray, List.set_cons_zero, List.set_cons_succ]
            refine wpAnyH_take (i := 2) (v := ?_) (by simp only [List.getElem?_toArray, List.getElem?_cons_succ, List.getElem?_cons_zero]; rfl) (by kernel_rfl) (by kernel_rfl) (by kernel_rfl) (by intro _ _ _ h; exact h) (Or.inl ⟨by rfl, ?_⟩) (by assumption) ?_
            rotate_left
            · intro w hSw; (try dsimp only at hSw); go_simp; first | with_reducible rfl | rw [if_pos (by omega)]
            try simp only [Act.put, List.setIfInBounds_toArray, List.set_cons_zero, List.set_cons_succ]
            refine wpAnyH_take (i := 3) (v := ?_) (by simp only [List.getElem?_toArray, List.getElem?_cons_succ, List.getElem?_cons_zero]; rfl) (by kernel_rfl) (by kernel_rfl) (by kernel_rfl) (by intro _ _ _ h; exact h) (Or.inl ⟨by rfl, ?_⟩) (by assumption) ?_
            rotate_left
            · intro w hSw; (try dsimp only at hSw); go_simp; try with_reducible rfl
            try simp only [Act.put, List.setIfInBounds_toArray, List.set_cons_zero, List.set_cons_succ]
            refine wpAnyH_take (i := 4) (v := ?_) (by simp only [List.getElem?_toArray, List.getElem?_cons_succ, List.getElem?_cons_zero]; rfl) (by kernel_rfl) (by kernel_rfl) (by kernel_rfl) (by intro _ _ _ h; exact h) (Or.inl ⟨by rfl, ?_⟩) (by assumption) ?_
            rotate_left
            · intro w hSw; (try dsimp only at hSw); go_simp; try with_reducible rfl
            try simp only [Act.put, List.setIfInBounds_toArray, List.set_cons_zero, List.set_cons_succ]
            refine wpAnyH_take (i := 5) (v := ?_) (by simp only [List.getElem?_toArray, List.getElem?_cons_succ, List.getElem?_cons_zero]; rfl) (by kernel_rfl) (by kernel_rfl) (by kernel_rfl) (by intro _ _ _ h; exact h) (Or.inl ⟨by rfl, ?_⟩) (by assumption) ?_
            rotate_left
            · intro w hSw; (try dsimp only at hSw); go_simp; try with_reducible rfl
            try simp only [Act.put, List.setIfInBounds_toArray, List.set_cons_zero, List.set_cons_succ]
            refine wpAnyH_take (i := 6) (v := ?_) (by simp only [List.getElem?_toArray, List.getElem?_cons_succ, List.getElem?_cons_zero]; rfl) (by kernel_rfl) (by kernel_rfl) (by kernel_rfl) (by intro _ _ _ h; exact h) (Or.inl ⟨by rfl, ?_⟩) (by assumption) ?_
            rotate_left
            · intro w hSw; (try dsimp only at hSw); go_simp; try with_reducible rfl
            try simp only [Act.put, List.setIfInBounds_toArray, List.set_cons_zero, List.set_cons_succ]
            refine wpAnyH_take (i := 7) (v := ?_) (by simp only [List.getElem?_toArray, List.getElem?_cons_succ, List.getElem?_cons_zero]; rfl) (by kernel_rfl) (by kernel_rfl) (by kernel_rfl) (by intro _ _ _ h; exact h) (Or.inl ⟨by rfl, ?_⟩) (by assumption) ?_
            rotate_left
            · intro w hSw; (try dsimp only at hSw); go_simp; try with_reducible rfl
            try simp only [Act.put, List.setIfInBounds_toArray, List.set_cons_zero, List.set_cons_succ]
            refine wpAnyH_take (i := 8) (v := ?_) (by simp only [List.getElem?_toArray, List.getElem?_cons_succ, List.getElem?_cons_zero]; rfl) (by kernel_rfl) (by kernel_rfl) (by kernel_rfl) (by intro _ _ _ h; exact h) (Or.inl ⟨by rfl, ?_⟩) (by assumption) ?_
            rotate_left
            · intro w hSw; (try dsimp only at hSw); go_simp; first | with_reducible rfl | rw [if_pos (by omega)]
            try simp only [Act.put, List.setIfInBounds_toArray, List.set_cons_zero, List.set_cons_succ]
            refine wpAnyH_take (i := 9) (v := ?_) (by simp only [List.getElem?_toArray, List.getElem?_cons_succ, List.getElem?_cons_zero]; rfl) (by kernel_rfl) (by kernel_rfl) (by kernel_rfl) (by intro _ _ _ h; exact h) (Or.inl ⟨by rfl, ?_⟩) (by assumption) ?_
            rotate_left
            · intro w hSw; (try dsimp only at hSw); go_simp; try with_reducible rfl
            try simp only [Act.put, List.setIfInBounds_toArray, List.set_cons_zero, List.set_cons_succ]
            refine wpAnyH_take (i := 10) (v := ?_) (by simp only [List.getElem?_toArray, List.getElem?_cons_succ, List.getElem?_cons_zero]; rfl) (by kernel_rfl) (by kernel_rfl) (by kernel_rfl) (by intro _ _ _ h; exact h) (Or.inl ⟨by rfl, ?_⟩) (by assumption) ?_
            rotate_left
            · intro w hSw; (try dsimp only at hSw); go_simp; try with_reducible rfl
            try simp only [Act.put, List.setIfInBounds_toArray, List.set_cons_zero, List.set_cons_succ]
            refine wpAnyH_take (i := 11) (v := ?_) (by simp only [List.getElem?_toArray, List.getElem?_cons_succ, List.getElem?_cons_zero]; rfl) (by kernel_rfl) (by kernel_rfl) (by kernel_rfl) (by intro _ _ _ h; exact h) (Or.inl ⟨by rfl, ?_⟩) (by assumption) ?_
            rotate_left
            · intro w hSw; (try dsimp only at hSw); go_simp; try with_reducible rfl
            try simp only [Act.put, List.setIfInBounds_toArray, List.set_cons_zero, List.set_cons_succ]
            refine wpAnyH_take (i := 12) (v := ?_) (by simp only [List.getElem?_toArray, List.getElem?_cons_succ, List.getElem?_cons_zero]; rfl) (by kernel_rfl) (by kernel_rfl) (by kernel_rfl) (by intro _ _ _ h; exact h) (Or.inl ⟨by rfl, ?_⟩) (by assumption) ?_
            rotate_left
            · intro w hSw; (try dsimp only at hSw); go_simp; try with_reducible rfl
            try simp only [Act.put, List.setIfInBounds_toArray, List.set_cons_zero, List.set_cons_succ]
            refine wpAnyH_take (i := 13) (v := ?_) (by simp only [List.getElem?_toArray, List.getElem?_cons_succ, List.getElem?_cons_zero]; rfl) (by kernel_rfl) (by kernel_rfl) (by kernel_rfl) (by intro _ _ _ h; exact h) (Or.inl ⟨by rfl, ?_⟩) (by assumption) ?_
            rotate_left
            · intro w hSw; (try dsimp only at hSw); go_simp; try with_reducible rfl
            try simp only [Act.put, List.setIfInBounds_toArray, List.set_cons_zero, List.set_cons_succ]
            refine wpAnyH_take (i := 14) (v := ?_) (by simp only [List.getElem?_toArray, List.getElem?_cons_succ, List.getElem?_cons_zero]; rfl) (by kernel_rfl) (by kernel_rfl) (by kernel_rfl) (by intro _ _ _ h; exact h) (Or.inl ⟨by rfl, ?_⟩) (by assumption) ?_
            rotate_left
            · intro w hSw; (try dsimp only at hSw); go_simp; try with_reducible rfl
            try simp only [Act.put, List.setIfInBounds_toArray, List.set_cons_zero, List.set_cons_succ]
            refine wpAnyH_take (i := 15) (v := ?_) (by simp only [List.getElem?_toArray, List.getElem?_cons_succ, List.getElem?_cons_zero]; rfl) (by kernel_rfl) (by kernel_rfl) (by kernel_rfl) (by intro _ _ _ h; exact h) (Or.inl ⟨by rfl, ?_⟩) (by assumption) ?_
            rotate_left
            · intro w hSw; (try dsimp only at hSw); go_simp; first | with_reducible rfl | rw [if_pos (by omega)]
            try simp only [Act.put, List.setIfInBounds_toArray, List.set_cons_zero, List.set_cons_succ]
            refine wpAnyH_take (i := 16) (v := ?_) (by simp only [List.getElem?_toArray, List.getElem?_cons_succ, List.getElem?_cons_zero]; rfl) (by kernel_rfl) (by kernel_rfl) (by kernel_rfl) (by intro _ _ _ h; exact h) (Or.inl ⟨by rfl, ?_⟩) (by assumption) ?_
            rotate_left
            · intro w hSw; (try dsimp only at hSw); go_simp; try with_reducible rfl
            try simp only [Act.put, List.setIfInBounds_toArray, List.set_cons_zero, List.set_cons_succ]
            refine wpAnyH_take (i := 17) (v := ?_) (by simp only [List.getElem?_toArray, List.getElem?_cons_succ, List.getElem?_cons_zero]; rfl) (by kernel_rfl) (by kernel_rfl) (by kernel_rfl) (by intro _ _ _ h; exact h) (Or.inl ⟨by rfl, ?_⟩) (by assumption) ?_
            rotate_left
            · intro w hSw; (try dsimp only at hSw); go_simp; try with_reducible rfl
            try simp only [Act.put, List.setIfInBounds_toArray, List.set_cons_zero, List.set_cons_succ]
            refine wpAnyH_take (i := 18) (v := ?_) (by simp only [List.getElem?_toArray, List.getElem?_cons_succ, List.getElem?_cons_zero]; rfl) (by kernel_rfl) (by kernel_rfl) (by kernel_rfl) (by intro _ _ _ h; exact h) (Or.inl ⟨by rfl, ?_⟩) (by assumption) ?_
            rotate_left
            · intro w hSw; (try dsimp only at hSw); go_simp; try with_reducible rfl
            try simp only [Act.put, List.setIfInBounds_toArray, List.set_cons_zero, List.set_cons_succ]
            refine wpAnyH_take (i := 19) (v := ?_) (by simp only [List.getElem?_toArray, List.getElem?_cons_succ, List.getElem?_cons_zero]; rfl) (by kernel_rfl) (by kernel_rfl) (by kernel_rfl) (by intro _ _ _ h; exact h) (Or.inl ⟨by rfl, ?_⟩) (by assumption) ?_
            rotate_left
            · intro w hSw; (try dsimp only at hSw); go_simp; try with_reducible rfl
            try simp only [Act.put, List.setIfInBounds_toArray, List.set_cons_zero, List.set_cons_succ]
            refine wpAnyH_take (i := 20) (v := ?_) (by simp only [List.getElem?_toArray, List.getElem?_cons_succ, List.getElem?_cons_zero]; rfl) (by kernel_rfl) (by kernel_rfl) (by kernel_rfl) (by intro _ _ _ h; exact h) (Or.inl ⟨by rfl, ?_⟩) (by assumption) ?_
            rotate_left
            · intro w hSw; (try dsimp only at hSw); go_simp; try with_reducible rfl
            try simp only [Act.put, List.setIfInBounds_toArray, List.set_cons_zero, List.set_cons_succ]
            refine wpAnyH_take (i := 21) (v := ?_) (by simp only [List.getElem?_toArray, List.getElem?_cons_succ, List.getElem?_cons_zero]; rfl) (by kernel_rfl) (by kernel_rfl) (by kernel_rfl) (by intro _ _ _ h; exact h) (Or.inl ⟨by rfl, ?_⟩) (by assumption) ?_
            rotate_left
            · intro w hSw; (try dsimp only at hSw); go_simp; try with_reducible rfl
            try simp only [Act.put, List.setIfInBounds_toArray, List.set_cons_zero, List.set_cons_succ]
            refine wpAnyH_take (i := 22) (v := ?_) (by simp only [List.getElem?_toArray, List.getElem?_cons_succ, List.getElem?_cons_zero]; rfl) (by kernel_rfl) (by kernel_rfl) (by kernel_rfl) (by intro _ _ _ h; exact h) (Or.inl ⟨by rfl, ?_⟩) (by assumption) ?_
            rotate_left
            · intro w hSw; (try dsimp only at hSw); go_simp; try with_reducible rfl
            try simp only [Act.put, List.setIfInBounds_toArray, List.set_cons_zero, List.set_cons_succ]
            refine wpAnyH_take (i := 23) (v := ?_) (by simp only [List.getElem?_toArray, List.getElem?_cons_succ, List.getElem?_cons_zero]; rfl) (by kernel_rfl) (by kernel_rfl) (by kernel_rfl) (by intro _ _ _ h; exact h) (Or.inl ⟨by rfl, ?_⟩) (by assumption) ?_
            rotate_left
            · intro w hSw; (try dsimp only at hSw); go_simp; try with_reducible rfl
            try simp only [Act.put, List.setIfInBounds_toArray, List.set_cons_zero, List.set_cons_succ]
            refine wpAnyH_take (i := 24) (v := ?_) (by simp only [List.getElem?_toArray, List.getElem?_cons_succ, List.getElem?_cons_zero]; rfl) (by kernel_rfl) (by kernel_rfl) (by kernel_rfl) (by intro _ _ _ h; exact h) (Or.inl ⟨by rfl, ?_⟩) (by assumption) ?_
            rotate_left
            · intro w hSw; (try dsimp only at hSw); go_simp; try with_reducible rfl
            try simp only [Act.put, List.setIfInBounds_toArray, List.set_cons_zero, List.set_cons_succ]
            refine wpAnyH_take (i := 25) (v := ?_) (by simp only [List.getElem?_toArray, List.getElem?_cons_succ, List.getElem?_cons_zero]; rfl) (by kernel_rfl) (by kernel_rfl) (by kernel_rfl) (by intro _ _ _ h; exact h) (Or.inl ⟨by rfl, ?_⟩) (by assumption) ?_
            rotate_left
            · intro w hSw; (try dsimp only at hSw); go_simp; try with_reducible rfl
            try simp only [Act.put, List.setIfInBounds_toArray, List.set_cons_zero, List.set_cons_succ]
            refine wpAnyH_take (i := 26) (v := ?_) (by simp only [List.getElem?_toArray, List.getElem?_cons_succ, List.getElem?_cons_zero]; rfl) (by kernel_rfl) (by kernel_rfl) (by kernel_rfl) (by intro _ _ _ h; exact h) (Or.inl ⟨by rfl, ?_⟩) (by assumption) ?_
            rotate_left
            · intro w hSw; (try dsimp only at hSw); go_simp; try with_reducible rfl
            try simp only [Act.put, List.setIfInBounds_toArray, List.set_cons_zero, List.set_cons_succ]
            refine wpAnyH_take (i := 27) (v := ?_) (by simp only [List.getElem?_toArray, List.getElem?_cons_succ, List.getElem?_cons_zero]; rfl) (by kernel_rfl) (by kernel_rfl) (by kernel_rfl) (by intro _ _ _ h; exact h) (Or.inl ⟨by rfl, ?_⟩) (by assumption) ?_
            rotate_left
            · intro w hSw; (try dsimp only at hSw); go_simp; try with_reducible rfl
            try simp only [Act.put, List.setIfInBounds_toArray, List.set_cons_zero, List.set_cons_succ]
            refine wpAnyH_take (i := 28) (v := ?_) (by simp only [List.getElem?_toArray, List.getElem?_cons_succ, List.getElem?_cons_zero]; rfl) (by kernel_rfl) (by kernel_rfl) (by kernel_rfl) (by intro _ _ _ h; exact h) (Or.inl ⟨by rfl, ?_⟩) (by assumption) ?_
            rotate_left
            · intro w hSw; (try dsimp only at hSw); go_simp; try with_reducible rfl
            try simp only [Act.put, List.setIfInBounds_toArray, List.set_cons_zero, List.set_cons_succ]
            refine wpAnyH_take (i := 29) (v := ?_) (by simp only [List.getElem?_toArray, List.getElem?_cons_succ, List.getElem?_cons_zero]; rfl) (by kernel_rfl) (by kernel_rfl) (by kernel_rfl) (by intro _ _ _ h; exact h) (Or.inl ⟨by rfl, ?_⟩) (by assumption) ?_
            rotate_left
            · intro w hSw; (try dsimp only at hSw); go_simp; try with_reducible rfl
            try simp only [Act.put, List.setIfInBounds_toArray, List.set_cons_zero, List.set_cons_succ]
            refine wpAnyH_take (i := 30) (v := ?_) (by simp only [List.getElem?_toArray, List.getElem?_cons_succ, List.getElem?_cons_zero]; rfl) (by kernel_rfl) (by kernel_rfl) (by kernel_rfl) (by intro _ _ _ h; exact h) (Or.inl ⟨by rfl, ?_⟩) (by assumption) ?_
            rotate_left
            · intro w hSw; (try dsimp only at hSw); go_simp; try with_reducible rfl
            try simp only [Act.put, List.setIfInBounds_toArray, List.set_cons_zero, List.set_cons_succ]
            refine wpAnyH_take (i := 31) (v := ?_) (by simp only [List.getElem?_toArray, List.getElem?_cons_succ, List.getElem?_cons_zero]; rfl) (by kernel_rfl) (by kernel_rfl) (by kernel_rfl) (by intro _ _ _ h; exact h) (Or.inl ⟨by rfl, ?_⟩) (by assumption) ?_
            rotate_left
            · intro w hSw; (try dsimp only at hSw); go_simp; try with_reducible rfl
            try simp only [Act.put, List.setIfInBounds_toArray, List.set_cons_zero, List.set_cons_succ]
            refine wpAnyH_take (i := 32) (v := ?_) (by simp only [List.getElem?_toArray, List.getElem?_cons_succ, List.getElem?_cons_zero]; rfl) (by kernel_rfl) (by kernel_rfl) (by kernel_rfl) (by intro _ _ _ h; exact h) (Or.inl ⟨by rfl, ?_⟩) (by assumption) ?_
            rotate_left
            · intro w hSw; (try dsimp only at hSw); go_simp; try with_reducible rfl
            try simp only [Act.put, List.setIfInBounds_toArray, List.set_cons_zero, List.set_cons_succ]
            refine wpAnyH_take (i := 33) (v := ?_) (by simp only [List.getElem?_toArray, List.getElem?_cons_succ, List.getElem?_cons_zero]; rfl) (by kernel_rfl) (by kernel_rfl) (by kernel_rfl) (by intro _ _ _ h; exact h) (Or.inl ⟨by rfl, ?_⟩) (by assumption) ?_
            rotate_left
            · intro w hSw; (try dsimp only at hSw); go_simp; try with_reducible rfl
            try simp only [Act.put, List.setIfInBounds_toArray, List.set_cons_zero, List.set_cons_succ]
            refine wpAnyH_take (i := 34) (v := ?_) (by simp only [List.getElem?_toArray, List.getElem?_cons_succ, List.getElem?_cons_zero]; rfl) (by kernel_rfl) (by kernel_rfl) (by kernel_rfl) (by intro _ _ _ h; exact h) (Or.inl ⟨by rfl, ?_⟩) (by assumption) ?_
            rotate_left
            · intro w hSw; (try dsimp only at hSw); go_simp; try with_reducible rfl
            try simp only [Act.put, List.setIfInBounds_toArray, List.set_cons_zero, List.set_cons_succ]
            refine wpAnyH_take (i := 35) (v := ?_) (by simp only [List.getElem?_toArray, List.getElem?_cons_succ, List.getElem?_cons_zero]; rfl) (by kernel_rfl) (by kernel_rfl) (by kernel_rfl) (by intro _ _ _ h; exact h) (Or.inl ⟨by rfl, ?_⟩) (by assumption) ?_
            rotate_left
            · intro w hSw; (try dsimp only at hSw); go_simp; try with_reducible rfl
            try simp only [Act.put, List.setIfInBounds_toArray, List.set_cons_zero, List.set_cons_succ]
            refine wpAnyH_take (i := 36) (v := ?_) (by simp only [List.getElem?_toArray, List.getElem?_cons_succ, List.getElem?_cons_zero]; rfl) (by kernel_rfl) (by kernel_rfl) (by kernel_rfl) (by intro _ _ _ h; exact h) (Or.inl ⟨by rfl, ?_⟩) (by assumption) ?_
            rotate_left
            · intro w hSw; (try dsimp only at hSw); go_simp; try with_reducible rfl
            try simp only [Act.put, List.setIfInBounds_toArray, List.set_cons_zero, List.set_cons_succ]
            refine wpAnyH_take (i := 37) (v := ?_) (by simp only [List.getElem?_toArray, List.getElem?_cons_succ, List.getElem?_cons_zero]; rfl) (by kernel_rfl) (by kernel_rfl) (by kernel_rfl) (by intro _ _ _ h; exact h) (Or.inl ⟨by rfl, ?_⟩) (by assumption) ?_
            rotate_left
            · intro w hSw; (try dsimp only at hSw); go_simp; try with_reducible rfl
            try simp only [Act.put, List.setIfInBounds_toArray, List.set_cons_zero, List.set_cons_succ]
            refine wpAnyH_take (i := 38) (v := ?_) (by simp only [List.getElem?_toArray, List.getElem?_cons_succ, List.getElem?_cons_zero]; rfl) (by kernel_rfl) (by kernel_rfl) (by kernel_rfl) (by intro _ _ _ h; exact h) (Or.inl ⟨by rfl, ?_⟩) (by assumption) ?_
            rotate_left
            · intro w hSw; (try dsimp only at hSw); go_simp; try with_reducible rfl
            try simp only [Act.put, List.setIfInBounds_toArray, List.set_cons_zero, List.set_cons_succ]
            refine wpAnyH_take (i := 39) (v := ?_) (by simp only [List.getElem?_toArray, List.getElem?_cons_succ, List.getElem?_cons_zero]; rfl) (by kernel_rfl) (by kernel_rfl) (by kernel_rfl) (by intro _ _ _ h; exact h) (Or.inl ⟨by rfl, ?_⟩) (by assumption) ?_
            rotate_left
            · intro w hSw; (try dsimp only at hSw); go_simp; try with_reducible rfl
            try simp only [Act.put, List.setIfInBounds_toArray, List.set_cons_zero, List.set_cons_succ]
            refine wpAnyH_take (i := 40) (v := ?_) (by simp only [List.getElem?_toArray, List.getElem?_cons_succ, List.getElem?_cons_zero]; rfl) (by kernel_rfl) (by kernel_rfl) (by kernel_rfl) (by intro _ _ _ h; exact h) (Or.inl ⟨by rfl, ?_⟩) (by assumption) ?_
            rotate_left
            · intro w hSw; (try dsimp only at hSw); go_simp; try with_reducible rfl
            try simp only [Act.put, List.setIfInBounds_toArray, List.set_cons_zero, List.set_cons_succ]
            refine wpAnyH_take (i := 41) (v := ?_) (by simp only [List.getElem?_toArray, List.getElem?_cons_succ, List.getElem?_cons_zero]; rfl) (by kernel_rfl) (by kernel_rfl) (by kernel_rfl) (by intro _ _ _ h; exact h) (Or.inl ⟨by rfl, ?_⟩) (by assumption) ?_
            rotate_left
            · intro w hSw; (try dsimp only at hSw); go_simp; try with_reducible rfl
            try simp only [Act.put, List.setIfInBounds_toArray, List.set_cons_zero, List.set_cons_succ]
            refine wpAnyH_take (i := 42) (v := ?_) (by simp only [List.getElem?_toArray, List.getElem?_cons_succ, List.getElem?_cons_zero]; rfl) (by kernel_rfl) (by kernel_rfl) (by kernel_rfl) (by intro _ _ _ h; exact h) (Or.inl ⟨by rfl, ?_⟩) (by assumption) ?_
            rotate_left
            · intro w hSw; (try dsimp only at hSw); go_simp; try with_reducible rfl
            try simp only [Act.put, List.setIfInBounds_toArray, List.set_cons_zero, List.set_cons_succ]
            refine wpAnyH_take (i := 43) (v := ?_) (by simp only [List.getElem?_toArray, List.getElem?_cons_succ, List.getElem?_cons_zero]; rfl) (by kernel_rfl) (by kernel_rfl) (by kernel_rfl) (by intro _ _ _ h; exact h) (Or.inl ⟨by rfl, ?_⟩) (by assumption) ?_
            rotate_left
            · intro w hSw; (try dsimp only at hSw); go_simp; try with_reducible rfl
            try simp only [Act.put, List.setIfInBounds_toArray, List.set_cons_zero, List.set_cons_succ]
            refine wpAnyH_take (i := 44) (v := ?_) (by simp only [List.getElem?_toArray, List.getElem?_cons_succ, List.getElem?_cons_zero]; rfl) (by kernel_rfl) (by kernel_rfl) (by kernel_rfl) (by intro _ _ _ h; exact h) (Or.inl ⟨by rfl, ?_⟩) (by assumption) ?_
            rotate_left
            · intro w hSw; (try dsimp only at hSw); go_simp; try with_reducible rfl
            try simp only [Act.put, List.setIfInBounds_toArray, List.set_cons_zero, List.set_cons_succ]
            refine wpAnyH_take (i := 45) (v := ?_) (by simp only [List.getElem?_toArray, List.getElem?_cons_succ, List.getElem?_cons_zero]; rfl) (by kernel_rfl) (by kernel_rfl) (by kernel_rfl) (by intro _ _ _ h; exact h) (Or.inl ⟨by rfl, ?_⟩) (by assumption) ?_
            rotate_left
            · intro w hSw; (try dsimp only at hSw); go_simp; try with_reducible rfl
            try simp only [Act.put, List.setIfInBounds_toArray, List.set_cons_zero, List.set_cons_succ]
            refine wpAnyH_take (i := 46) (v := ?_) (by simp only [List.getElem?_toArray, List.getElem?_cons_succ, List.getElem?_cons_zero]; rfl) (by kernel_rfl) (by kernel_rfl) (by kernel_rfl) (by intro _ _ _ h; exact h) (Or.inl ⟨by rfl, ?_⟩) (by assumption) ?_
            rotate_left
            · intro w hSw; (try dsimp only at hSw); go_simp; try with_reducible rfl
            try simp only [Act.put, List.setIfInBounds_toArray, List.set_cons_zero, List.set_cons_succ]
            refine wpAnyH_take (i := 47) (v := ?_) (by simp only [List.getElem?_toArray, List.getElem?_cons_succ, List.getElem?_cons_zero]; rfl) (by kernel_rfl) (by kernel_rfl) (by kernel_rfl) (by intro _ _ _ h; exact h) (Or.inl ⟨by rfl, ?_⟩) (by assumption) ?_
            rotate_left
            · intro w hSw; (try dsimp only at hSw); go_simp; first | with_reducible rfl | rw [if_pos (by omega)]
            try simp only [Act.put, List.setIfInBounds_toArray, List.set_cons_zero, List.set_cons_succ]
            refine wpAnyH_take (i := 48) (v := ?_) (by simp only [List.getElem?_toArray, List.getElem?_cons_succ, List.getElem?_cons_zero]; rfl) (by kernel_rfl) (by kernel_rfl) (by kernel_rfl) (by intro _ _ _ h; exact h) (Or.inl ⟨by rfl, ?_⟩) (by assumption) ?_
            rotate_left
            · intro w hSw; (try dsimp only at hSw); go_simp; try with_reducible rfl
            try simp only [Act.put, List.setIfInBounds_toArray, List.set_cons_zero, List.set_cons_succ]
            refine wpAnyH_take (i := 49) (v := ?_) (by simp only [List.getElem?_toArray, List.getElem?_cons_succ, List.getElem?_cons_zero]; rfl) (by kernel_rfl) (by kernel_rfl) (by kernel_rfl) (by intro _ _ _ h; exact h) (Or.inl ⟨by rfl, ?_⟩) (by assumption) ?_
            rotate_left
            · intro w hSw; (try dsimp only at hSw); go_simp; try with_reducible rfl
            try simp only [Act.put, List.setIfInBounds_toArray, List.set_cons_zero, List.set_cons_succ]
            refine wpAnyH_take (i := 50) (v := ?_) (by simp only [List.getElem?_toArray, List.getElem?_cons_succ, List.getElem?_cons_zero]; rfl) (by kernel_rfl) (by kernel_rfl) (by kernel_rfl) (by intro _ _ _ h; exact h) (Or.inl ⟨by rfl, ?_⟩) (by assumption) ?_
            rotate_left
            · intro w hSw; (try dsimp only at hSw); go_simp; try with_reducible rfl
            try simp only [Act.put, List.setIfInBounds_toArray, List.set_cons_zero, List.set_cons_succ]
            refine wpAnyH_take (i := 51) (v := ?_) (by simp only [List.getElem?_toArray, List.getElem?_cons_succ, List.getElem?_cons_zero]; rfl) (by kernel_rfl) (by kernel_rfl) (by kernel_rfl) (by intro _ _ _ h; exact h) (Or.inl ⟨by rfl, ?_⟩) (by assumption) ?_
            rotate_left
            · intro w hSw; (try dsimp only at hSw); go_simp; try with_reducible rfl
            try simp only [Act.put, List.setIfInBounds_toArray, List.set_cons_zero, List.set_cons_succ]
            refine wpAnyH_take (i := 52) (v := ?_) (by simp only [List.getElem?_toArray, List.getElem?_cons_succ, List.getElem?_cons_zero]; rfl) (by kernel_rfl) (by kernel_rfl) (by kernel_rfl) (by intro _ _ _ h; exact h) (Or.inl ⟨by rfl, ?_⟩) (by assumption) ?_
            rotate_left
            · intro w hSw; (try dsimp only at hSw); go_simp; try with_reducible rfl
            try simp only [Act.put, List.setIfInBounds_toArray, List.set_cons_zero, List.set_cons_succ]
            refine wpAnyH_take (i := 53) (v := ?_) (by simp only [List.getElem?_toArray, List.getElem?_cons_succ, List.getElem?_cons_zero]; rfl) (by kernel_rfl) (by kernel_rfl) (by kernel_rfl) (by intro _ _ _ h; exact h) (Or.inl ⟨by rfl, ?_⟩) (by assumption) ?_
            rotate_left
            · intro w hSw; (try dsimp only at hSw); go_simp; try with_reducible rfl
            try simp only [Act.put, List.setIfInBounds_toArray, List.set_cons_zero, List.set_cons_succ]
            refine wpAnyH_take (i := 54) (v := ?_) (by simp only [List.getElem?_toArray, List.getElem?_cons_succ, List.getElem?_cons_zero]; rfl) (by kernel_rfl) (by kernel_rfl) (by kernel_rfl) (by intro _ _ _ h; exact h) (Or.inl ⟨by rfl, ?_⟩) (by assumption) ?_
            rotate_left
            · intro w hSw; (try dsimp only at hSw); go_simp; try with_reducible rfl
            try simp only [Act.put, List.setIfInBounds_toArray, List.set_cons_zero, List.set_cons_succ]
            refine wpAnyH_take (i := 55) (v := ?_) (by simp only [List.getElem?_toArray, List.getElem?_cons_succ, List.getElem?_cons_zero]; rfl) (by kernel_rfl) (by kernel_rfl) (by kernel_rfl) (by intro _ _ _ h; exact h) (Or.inl ⟨by rfl, ?_⟩) (by assumption) ?_
            rotate_left
            · intro w hSw; (try dsimp only at hSw); go_simp; try with_reducible rfl
            try simp only [Act.put, List.setIfInBounds_toArray, List.set_cons_zero, List.set_cons_succ]
            refine wpAnyH_take (i := 56) (v := ?_) (by simp only [List.getElem?_toArray, List.getElem?_cons_succ, List.getElem?_cons_zero]; rfl) (by kernel_rfl) (by kernel_rfl) (by kernel_rfl) (by intro _ _ _ h; exact h) (Or.inl ⟨by rfl, ?_⟩) (by assumption) ?_
            rotate_left
            · intro w hSw; (try dsimp only at hSw); go_simp; try with_reducible rfl
            try simp only [Act.put, List.setIfInBounds_toArray, List.set_cons_zero, List.set_cons_succ]
            refine wpAnyH_take (i := 57) (v := ?_) (by simp only [List.getElem?_toArray, List.getElem?_cons_succ, List.getElem?_cons_zero]; rfl) (by kernel_rfl) (by kernel_rfl) (by kernel_rfl) (by intro _ _ _ h; exact h) (Or.inl ⟨by rfl, ?_⟩) (by assumption) ?_
            rotate_left
            · intro w hSw; (try dsimp only at hSw); go_simp; try with_reducible rfl
            try simp only [Act.put, List.setIfInBounds_toArray, List.set_cons_zero, List.set_cons_succ]
            refine wpAnyH_ready (rs := [58]) (by kernel_rfl) (by simp) ?_
            refine AllReadyH.cons (o := _) (by simp only [List.getElem?_toArray, List.getElem?_cons_succ, List.getElem?_cons_zero]; rfl) (fun K hK => ?_) AllReadyH.nil
            go_simp
            go_at_call 21
            refine Calls.mono (lv8 v43 (some ⟨b1, k1, none⟩) bc (some ⟨b2, k2, none⟩) ic (some ⟨b3, k3, none⟩) oc qba qbc qia qic qoa qoc (FA43.out) (FQ43.out)) ?_
            rintro e v44 ⟨rfl, hb44⟩
            have HBv44 := Lib.hid ((HBv43.out).trans (hb44.mono (HBv43.out).size))
            have FA44 := Lib.hid ((FA43.out).below hb44 (Nat.le_refl _))
            have FQ44 := Lib.hid ((FQ43.out).below hb44 (Nat.le_refl _))
            clear hb44
            go_simp
            refine hK.out _ _ (by exact HKZ.out _ HBv44.out) (fun hHeld => ?_)
            clear hK K
            try simp only [Act.put, List.setIfInBounds_toArray, List.set_cons_zero, List.set_cons_succ]
            refine wpAnyH_take (i := 59) (v := ?_) (by simp only [List.getElem?_toArray, List.getElem?_cons_succ, List.getElem?_cons_zero]; rfl) (by kernel_rfl) (by kernel_rfl) (by kernel_rfl) (by intro _ _ _ h; exact h) (Or.inl ⟨by rfl, ?_⟩) (by assumption) ?_
            rotate_left
            · intro w hSw; (try dsimp only at hSw); go_simp; try with_reducible rfl
            try simp only [Act.put, List.setIfInBounds_toArray, List.set_cons_zero, List.set_cons_succ]
            refine wpAnyH_take (i := 60) (v := ?_) (by simp only [List.getElem?_toArray, List.getElem?_cons_succ, List.getElem?_cons_zero]; rfl) (by kernel_rfl) (by kernel_rfl) (by kernel_rfl) (by intro _ _ _ h; exact h) (Or.inl ⟨by rfl, ?_⟩) (by assumption) ?_
            rotate_left
            · intro w hSw; (try dsimp only at hSw); go_simp; try with_reducible rfl
            try simp only [Act.put, List.setIfInBounds_toArray, List.set_cons_zero, List.set_cons_succ]
            refine wpAnyH_take (i := 61) (v := ?_) (by simp only [List.getElem?_toArray, List.getElem?_cons_succ, List.getElem?_cons_zero]; rfl) (by kernel_rfl) (by kernel_rfl) (by kernel_rfl) (by intro _ _ _ h; exact h) (Or.inl ⟨by rfl, ?_⟩) (by assumption) ?_
            rotate_left
            · intro w hSw; (try dsimp only at hSw); go_simp; try with_reducible rfl
            try simp only [Act.put, List.setIfInBounds_toArray, List.set_cons_zero, List.set_cons_succ]
            refine wpAnyH_take (i := 63) (v := ?_) (by simp only [List.getElem?_toArray, List.getElem?_cons_succ, List.getElem?_cons_zero]; rfl) (by kernel_rfl) (by kernel_rfl) (by kernel_rfl) (by intro _ _ _ h; exact h) (Or.inl ⟨by rfl, ?_⟩) (by assumption) ?_
            rotate_left
            · intro w hSw; (try dsimp only at hSw); go_simp; try with_reducible rfl
            try simp only [Act.put, List.setIfInBounds_toArray, List.set_cons_zero, List.set_cons_succ]
            refine wpAnyH_ready (rs := [62]) (by kernel_rfl) (by simp) ?_
            refine AllReadyH.cons (o := _) (by simp only [List.getElem?_toArray, List.getElem?_cons_succ, List.getElem?_cons_zero]; rfl) (fun K hK => ?_) AllReadyH.nil
            go_simp
            go_at_call 27
            refine Calls.mono (lv0 v44) ?_
            rintro e v45 ⟨pv45, rfl, hp45, hb45⟩
            have HBv45 := Lib.hid ((HBv44.out).trans (hb45.mono (HBv44.out).size))
            have FA45 := Lib.hid ((FA44.out).below hb45 (Nat.le_refl _))
            have FQ45 := Lib.hid ((FQ44.out).below hb45 (Nat.le_refl _))
            have HP45 := Lib.hid hp45
            clear hp45
            clear hb45
            go_simp
            refine hK.out _ _ (by exact HKZ.out _ HBv45.out) (fun hHeld => ?_)
            clear hK K
            try simp only [Act.put, List.setIfInBounds_toArray, List.set_cons_zero, List.set_cons_succ]
            refine wpAnyH_ready (rs := [64]) (by kernel_rfl) (by simp) ?_
            refine AllReadyH.cons (o := _) (by simp only [List.getElem?_toArray, List.getElem?_cons_succ, List.getElem?_cons_zero]; rfl) (fun K hK => ?_) AllReadyH.nil
            go_simp
            go_at_call 15
            refine Calls.mono (lv6 v45 pv45 (HP45.out) (some ⟨b1, k1, none⟩) bc (some ⟨b2, k2, none⟩) ic (some ⟨b3, k3, none⟩) oc (FA45.out)) ?_
            rintro e v46 ⟨rfl, hb46⟩
            have HBv46 := Lib.hid ((HBv45.out).trans (hb46.mono (HBv45.out).size))
            have FA46 := Lib.hid ((FA45.out).below hb46 (Nat.le_refl _))
            have FQ46 := Lib.hid ((FQ45.out).below hb46 (Nat.le_refl _))
            have FP46 := Lib.hid ((HP45.out).below hb46 (Nat.le_refl _))
            clear hb46
            go_simp
            refine hK.out _ _ (by exact HKZ.out _ HBv46.out) (fun hHeld => ?_)
            clear hK K
            try simp only [Act.put, List.setIfInBounds_toArray, List.set_cons_zero, List.set_cons_succ]
            refine wpAnyH_take (i := 65) (v := ?_) (by simp only [List.getElem?_toArray, List.getElem?_cons_succ, List.getElem?_cons_zero]; rfl) (by kernel_rfl) (by kernel_rfl) (by kernel_rfl) (by intro _ _ _ h; exact h) (Or.inl ⟨by rfl, ?_⟩) (by assumption) ?_
            rotate_left
            · intro w hSw; (try dsimp only at hSw); go_simp; try with_reducible rfl
            try simp only [Act.put, List.setIfInBounds_toArray, List.set_cons_zero, List.set_cons_succ]
            refine wpAnyH_take (i := 66) (v := ?_) (by simp only [List.getElem?_toArray, List.getElem?_cons_succ, List.getElem?_cons_zero]; rfl) (by kernel_rfl) (by kernel_rfl) (by kernel_rfl) (by intro _ _ _ h; exact h) (Or.inl ⟨by rfl, ?_⟩) (by assumption) ?_
            rotate_left
            · intro w hSw; (try dsimp only at hSw); go_simp; try with_reducible rfl
            try simp only [Act.put, List.setIfInBounds_toArray, List.set_cons_zero, List.set_cons_succ]
            refine wpAnyH_take (i := 67) (v := ?_) (by simp only [List.getElem?_toArray, List.getElem?_cons_succ, List.getElem?_cons_zero]; rfl) (by kernel_rfl) (by kernel_rfl) (by kernel_rfl) (by intro _ _ _ h; exact h) (Or.inl ⟨by rfl, ?_⟩) (by assumption) ?_
            rotate_left
            · intro w hSw; (try dsimp only at hSw); go_simp; try with_reducible rfl
            try simp only [Act.put, List.setIfInBounds_toArray, List.set_cons_zero, List.set_cons_succ]
            refine wpAnyH_take (i := 68) (v := ?_) (by simp only [List.getElem?_toArray, List.getElem?_cons_succ, List.getElem?_cons_zero]; rfl) (by kernel_rfl) (by kernel_rfl) (by kernel_rfl) (by intro _ _ _ h; exact h) (Or.inl ⟨by rfl, ?_⟩) (by assumption) ?_
            rotate_left
            · intro w hSw; (try dsimp only at hSw); go_simp; try with_reducible rfl
            try simp only [Act.put, List.setIfInBounds_toArray, List.set_cons_zero, List.set_cons_succ]
            refine wpAnyH_take (i := 70) (v := ?_) (by simp only [List.getElem?_toArray, List.getElem?_cons_succ, List.getElem?_cons_zero]; rfl) (by kernel_rfl) (by kernel_rfl) (by kernel_rfl) (by intro _ _ _ h; exact h) (Or.inl ⟨by rfl, ?_⟩) (by assumption) ?_
            rotate_left
            · intro w hSw; (try dsimp only at hSw); go_simp; try with_reducible rfl
            try simp only [Act.put, List.setIfInBounds_toArray, List.set_cons_zero, List.set_cons_succ]
            refine wpAnyH_ready (rs := [69]) (by kernel_rfl) (by simp) ?_
            refine AllReadyH.cons (o := _) (by simp only [List.getElem?_toArray, List.getElem?_cons_succ, List.getElem?_cons_zero]; rfl) (fun K hK => ?_) AllReadyH.nil
            go_simp
            go_at_call 27
            refine Calls.mono (lv0 v46) ?_
            rintro e v47 ⟨pv47, rfl, hp47, hb47⟩
            have HBv47 := Lib.hid ((HBv46.out).trans (hb47.mono (HBv46.out).size))
            have FA47 := Lib.hid ((FA46.out).below hb47 (Nat.le_refl _))
            have FQ47 := Lib.hid ((FQ46.out).below hb47 (Nat.le_refl _))
            have FP47 := Lib.hid ((FP46.out).below hb47 (Nat.le_refl _))
            have HP47 := Lib.hid hp47
            clear hp47
            clear hb47
            go_simp
            refine hK.out _ _ (by exact HKZ.out _ HBv47.out) (fun hHeld => ?_)
            clear hK K
            try simp only [Act.put, List.setIfInBounds_toArray, List.set_cons_zero, List.set_cons_succ]
            refine wpAnyH_ready (rs := [71]) (by kernel_rfl) (by simp) ?_
            refine AllReadyH.cons (o := _) (by simp only [List.getElem?_toArray, List.getElem?_cons_succ, List.getElem?_cons_zero]; rfl) (fun K hK => ?_) AllReadyH.nil
            go_simp
            go_at_call 15
            refine Calls.mono (lv7 v47 pv47 (HP47.out) ) ?_
            rintro e v48 ⟨rfl, hb48⟩
            have HBv48 := Lib.hid ((HBv47.out).trans (hb48.mono (HBv47.out).size))
            have FA48 := Lib.hid ((FA47.out).below hb48 (Nat.le_refl _))
            have FQ48 := Lib.hid ((FQ47.out).below hb48 (Nat.le_refl _))
            have FP48 := Lib.hid ((FP47.out).below hb48 (Nat.le_refl _))
            have FP48 := Lib.hid ((HP47.out).below hb48 (Nat.le_refl _))
            clear hb48
            go_simp
            refine hK.out _ _ (by exact HKZ.out _ HBv48.out) (fun hHeld => ?_)
            clear hK K
            try simp only [Act.put, List.setIfInBounds_toArray, List.set_cons_zero, List.set_cons_succ]
            refine wpAnyH_take (i := 72) (v := ?_) (by simp only [List.getElem?_toArray, List.getElem?_cons_succ, List.getElem?_cons_zero]; rfl) (by kernel_rfl) (by kernel_rfl) (by kernel_rfl) (by intro _ _ _ h; exact h) (Or.inl ⟨by rfl, ?_⟩) (by assumption) ?_
            rotate_left
            · intro w hSw; (try dsimp only at hSw); go_simp; try with_reducible rfl
            try simp only [Act.put, List.setIfInBounds_toArray, List.set_cons_zero, List.set_cons_succ]
            refine wpAnyH_take (i := 73) (v := ?_) (by simp only [List.getElem?_toArray, List.getElem?_cons_succ, List.getElem?_cons_zero]; rfl) (by kernel_rfl) (by kernel_rfl) (by kernel_rfl) (by intro _ _ _ h; exact h) (Or.inl ⟨by rfl, ?_⟩) (by assumption) ?_
            rotate_left
            · intro w hSw; (try dsimp only at hSw); go_simp; try with_reducible rfl
            try simp only [Act.put, List.setIfInBounds_toArray, List.set_cons_zero, List.set_cons_succ]
            refine wpAnyH_take (i := 74) (v := ?_) (by simp only [List.getElem?_toArray, List.getElem?_cons_succ, List.getElem?_cons_zero]; rfl) (by kernel_rfl) (by kernel_rfl) (by kernel_rfl) (by intro _ _ _ h; exact h) (Or.inl ⟨by rfl, ?_⟩) (by assumption) ?_
            rotate_left
            · intro w hSw; (try dsimp only at hSw); go_simp; try with_reducible rfl
            try simp only [Act.put, List.setIfInBounds_toArray, List.set_cons_zero, List.set_cons_succ]
            refine wpAnyH_done (by kernel_rfl) ?_ _
            go_wp2_with fail
            go_ret
            exact ⟨rfl, HB1.out _ (HC2'.out.below.trans ((HBv48.out).mono HC2'.out.below.size))⟩
end Go.Proofs.Ytholafodachjnaa
