/- Where an event goes (BinarySearchFunc). -/
import Derived.Test.YtbhbebidkeejbaaQ5
namespace Go.Proofs.Ytbhbebidkeejbaa
open Go.RowKit Go.Shelf
set_option linter.unusedVariables false
set_option linter.unusedSimpArgs false

set_option maxRecDepth 100000 in
set_option maxHeartbeats 4000000 in
theorem search28 (w : World) (a : Option Addr) (n c : Nat) (l : List EvV) (y : WhenV) (hn : l.length = n) (h : LAt w a l) (h9 : n ≤ 1000) (hs : SortedL l) :
    Calls Try.prog 28 #[.slice a n c, y.val, .func (.func 30) #[] #[]] w fun e w' => ∃ f, e = .returned (.tuple #[.int .i64 (posL l y), .bool f]) ∧ Below w.heap.size w w' := by
  have HLA := Lib.hid h
  have HN := Lib.hid hn
  have HSo := Lib.hid hs
  obtain ⟨yt, yd, yn⟩ := y
  obtain ⟨p, hp⟩ : ∃ p, p = posL l ⟨yt, yd, yn⟩ := ⟨_, rfl⟩
  rw [← hp]
  have HP := Lib.hid hp
  obtain ⟨H, hH⟩ : ∃ h, h = w.heap.size := ⟨_, rfl⟩
  obtain ⟨w1, hw1⟩ : ∃ W, W = w.alloc (Obj.cells #[Value.int .i64 yt, Value.int .i64 yd, Value.int .i64 yn] 54) := ⟨_, rfl⟩
  have k0 : w1.cell? ⟨H, 0, none⟩ = some (.int .i64 yt) := by rw [hw1, hH]; simp
  have k1 : w1.cell? ⟨H, 1, none⟩ = some (.int .i64 yd) := by rw [hw1, hH]; simp
  have k2 : w1.cell? ⟨H, 2, none⟩ = some (.int .i64 yn) := by rw [hw1, hH]; simp
  have HX1 : Hid (Below w.heap.size w w1) := Lib.hid (by rw [hw1]; exact (Below.refl _ _).alloc (Nat.le_refl _) _)
  have hs1 : H < w1.heap.size := World.block_lt_of_cell? w1 _ k0
  have HS1 := Lib.hid hs1
  have HW1 := Lib.hid hw1
  have HHH := Lib.hid hH
  clear h hn hs hp hH hw1 hs1
  go_enter Try.func28, Try.ntmps28
  go_wp2_with fail
  rw [← HW1.out, ← HHH.out]
  go_loopw [9, 10] (fun iv jv wr => ∃ lo hi : Nat, lo ≤ hi ∧ hi ≤ n ∧ iv = .int .i64 lo ∧ jv = .int .i64 hi ∧ Hid (Below w1.heap.size w1 wr ∧ (∀ j, j < lo → ltW (l.getD j default).when ⟨yt, yd, yn⟩) ∧ ∀ j, hi ≤ j → j < n → ¬ ltW (l.getD j default).when ⟨yt, yd, yn⟩)) (fun iv jv _ => (intOf jv).toNat - (intOf iv).toNat)
  case atStart => exact ⟨0, n, by omega, by omega, rfl, rfl, Lib.hid ⟨Below.refl _ _, fun j hj => by omega, fun j h1 h2 => by omega⟩⟩
  case round =>
    obtain ⟨lo, hi, hlh, hhn, rfl, rfl, hh⟩ := hrel
    have HRr := Lib.hid hh.out.1
    have HLo := Lib.hid hh.out.2.1
    have HHi := Lib.hid hh.out.2.2
    have hbw : Below w.heap.size w wr := HX1.out.trans (hh.out.1.mono (by have := HS1.out; have := HHH.out; omega))
    have HBw := Lib.hid hbw
    have u0 := (hh.out.1.cell (p := ⟨H, 0, none⟩) HS1.out).trans k0
    have u1 := (hh.out.1.cell (p := ⟨H, 1, none⟩) HS1.out).trans k1
    have u2 := (hh.out.1.cell (p := ⟨H, 2, none⟩) HS1.out).trans k2
    clear hh
    by_cases hlt : lo < hi
    · obtain ⟨m, hm⟩ : ∃ m, m = (lo + hi) / 2 := ⟨_, rfl⟩
      have hml : lo ≤ m := by omega
      have hmh : m < hi := by omega
      have hmn : m < n := by omega
      have HHalf : Hid (((lo : Int) + (hi : Int)) / 2 = (m : Int)) := Lib.hid (by omega)
      obtain ⟨b, off, ha, hbb, e0, e1, e2, e3, e4⟩ := (HLA.out.below hbw (Nat.le_refl _)).ev m (by rw [HN.out]; omega)
      obtain ⟨x, hx⟩ : ∃ x, x = l.getD m default := ⟨_, rfl⟩
      have hcs := cmpW_cases (l.getD m default).when ⟨yt, yd, yn⟩
      rw [← hx] at e0 e1 e2 e3 e4 hcs
      obtain ⟨xt, xd, xn, xs, xv⟩ := x
      dsimp only at e0 e1 e2 e3 e4 hcs
      obtain ⟨cc, hcc⟩ : ∃ c, c = cmpW ⟨xt, xd, xn⟩ ⟨yt, yd, yn⟩ := ⟨_, rfl⟩
      rw [← hcc] at hcs
      have HCc : Hid (cc = cmpW (EvV.when ⟨xt, xd, xn, xs, xv⟩) ⟨yt, yd, yn⟩) := Lib.hid hcc
      have HHx := Lib.hid hx
      have HM := Lib.hid hm
      clear hbw hcc hx hm
      subst ha
      by_cases hltw : ltW ⟨xt, xd, xn⟩ ⟨yt, yd, yn⟩
      · have hc1 : cc = -1 := by
          rcases hcs with h | h | h
          · exact h.2
          · exact absurd hltw (by unfold ltW; dsimp only at h ⊢; omega)
          · exact absurd (ltW_trans hltw h.1) (ltW_irrefl _)
        have HLt : Hid (ltW (l.getD m default).when ⟨yt, yd, yn⟩) := Lib.hid (by rw [← HHx.out]; exact hltw)
        have hdc : decide (cc < 0) = true := by rw [hc1]; rfl
        clear hcs hltw hc1
        go_wp2_with fail
        rw [HHalf.out]
        refine wp_region_held_drew (S := fun w' => w'.cell? ⟨b, off + m * 5, none⟩ = some (.int .i64 xt) ∧ w'.cell? ⟨b, off + m * 5 + 1, none⟩ = some (.int .i64 xd) ∧ w'.cell? ⟨b, off + m * 5 + 2, none⟩ = some (.int .i64 xn) ∧ w'.cell? ⟨b, off + m * 5 + 3, none⟩ = some (.int .i64 xs) ∧ w'.cell? ⟨b, off + m * 5 + 4, none⟩ = some (.int .u64 xv) ∧ w'.cell? ⟨H, 0, none⟩ = some (.int .i64 yt) ∧ w'.cell? ⟨H, 1, none⟩ = some (.int .i64 yd) ∧ w'.cell? ⟨H, 2, none⟩ = some (.int .i64 yn)) (by kernel_rfl) (⟨e0, e1, e2, e3, e4, u0, u1, u2⟩) (fun hHeld => ?_)
        refine wpAnyH_take (i := 0) (v := ?_) (by simp only [List.getElem?_toArray, List.getElem?_cons_succ, List.getElem?_cons_zero]; rfl) (by kernel_rfl) (by kernel_rfl) (by kernel_rfl) (by intro _ _ _ h; exact h) (Or.inl ⟨by rfl, ?_⟩) (by assumption) ?_
        rotate_left
        · intro w hSw; (try dsimp only at hSw); go_simp; try with_reducible rfl
        try simp only [Act.put, List.setIfInBounds_toArray, List.set_cons_zero, List.set_cons_succ]
        refine wpAnyH_take (i := 1) (v := ?_) (by simp only [List.getElem?_toArray, List.getElem?_cons_succ, List.getElem?_cons_zero]; rfl) (by kernel_rfl) (by kernel_rfl) (by kernel_rfl) (by intro _ _ _ h; exact h) (Or.inl ⟨by rfl, ?_⟩) (by assumption) ?_
        rotate_left
        · intro w hSw; (try dsimp only at hSw); go_simp; try with_reducible rfl
        try simp only [Act.put, List.setIfInBounds_toArray, List.set_cons_zero, List.set_cons_succ]
        refine wpAnyH_take (i := 2) (v := ?_) (by simp only [List.getElem?_toArray, List.getElem?_cons_succ, List.getElem?_cons_zero]; rfl) (by kernel_rfl) (by kernel_rfl) (by kernel_rfl) (by intro _ _ _ h; exact h) (Or.inl ⟨by rfl, ?_⟩) (by assumption) ?_
        rotate_left
        · intro w hSw; (try dsimp only at hSw); go_simp; try with_reducible rfl
        try simp only [Act.put, List.setIfInBounds_toArray, List.set_cons_zero, List.set_cons_succ]
        refine wpAnyH_take (i := 3) (v := ?_) (by simp only [List.getElem?_toArray, List.getElem?_cons_succ, List.getElem?_cons_zero]; rfl) (by kernel_rfl) (by kernel_rfl) (by kernel_rfl) (by intro _ _ _ h; exact h) (Or.inl ⟨by rfl, ?_⟩) (by assumption) ?_
        rotate_left
        · intro w hSw; (try dsimp only at hSw); go_simp; first | with_reducible rfl | rw [if_pos (by omega)]
        try simp only [Act.put, List.setIfInBounds_toArray, List.set_cons_zero, List.set_cons_succ]
        refine wpAnyH_take (i := 4) (v := ?_) (by simp only [List.getElem?_toArray, List.getElem?_cons_succ, List.getElem?_cons_zero]; rfl) (by kernel_rfl) (by kernel_rfl) (by kernel_rfl) (by intro _ _ _ h; exact h) (Or.inl ⟨by rfl, ?_⟩) (by assumption) ?_
        rotate_left
        · intro w hSw; (try dsimp only at hSw); go_simp; try with_reducible rfl
        try simp only [Act.put, List.setIfInBounds_toArray, List.set_cons_zero, List.set_cons_succ]
        refine wpAnyH_take (i := 5) (v := ?_) (by simp only [List.getElem?_toArray, List.getElem?_cons_succ, List.getElem?_cons_zero]; rfl) (by kernel_rfl) (by kernel_rfl) (by kernel_rfl) (by intro _ _ _ h; exact h) (Or.inl ⟨by rfl, ?_⟩) (by assumption) ?_
        rotate_left
        · intro w hSw; (try dsimp only at hSw); go_simp; try with_reducible rfl
        try simp only [Act.put, List.setIfInBounds_toArray, List.set_cons_zero, List.set_cons_succ]
        refine wpAnyH_ready (rs := [6]) (by kernel_rfl) (by simp) ?_
        refine AllReadyH.cons (o := _) (by simp only [List.getElem?_toArray, List.getElem?_cons_succ, List.getElem?_cons_zero]; rfl) (fun K hK => ?_) AllReadyH.nil
        go_simp
        go_at_call 30
        refine Calls.mono (cmp30 wr.drew ⟨xt, xd, xn, xs, xv⟩ ⟨yt, yd, yn⟩) ?_
        rintro e w7 ⟨rfl, hb7⟩
        rw [← HCc.out]
        have hk7 : ∀ {b o : Nat} {v : Value}, wr.cell? ⟨b, o, none⟩ = some v → w7.cell? ⟨b, o, none⟩ = some v := fun h => (hb7.cell (p := ⟨_, _, none⟩) (World.block_lt_of_cell? wr _ h)).trans h
        have HB7 : Hid (Below wr.heap.size wr w7) := Lib.hid ((Below.refl _ _).drew.trans hb7)
        clear hb7
        go_simp
        refine hK.out _ _ (by exact ⟨hk7 e0, hk7 e1, hk7 e2, hk7 e3, hk7 e4, hk7 u0, hk7 u1, hk7 u2⟩) (fun hHeld => ?_)
        clear hK K
        try simp only [Act.put, List.setIfInBounds_toArray, List.set_cons_zero, List.set_cons_succ]
        refine wpAnyH_take (i := 7) (v := ?_) (by simp only [List.getElem?_toArray, List.getElem?_cons_succ, List.getElem?_cons_zero]; rfl) (by kernel_rfl) (by kernel_rfl) (by kernel_rfl) (by intro _ _ _ h; exact h) (Or.inl ⟨by rfl, ?_⟩) (by assumption) ?_
        rotate_left
        · intro w hSw; (try dsimp only at hSw); go_simp; try with_reducible rfl
        try simp only [Act.put, List.setIfInBounds_toArray, List.set_cons_zero, List.set_cons_succ]
        refine wpAnyH_done (by kernel_rfl) ?_ _
        go_wp2_with fail
        go_roundw
        case rel => exact ⟨m + 1, hi, by omega, by omega, by go_num, rfl, Lib.hid ⟨HRr.out.trans (HB7.out.mono HRr.out.size), fun j hj => by
          by_cases e : j < lo
          · exact HLo.out j e
          · by_cases e2 : j = m
            · rw [e2]; exact HLt.out
            · exact ltW_trans (HSo.out j m (by omega) (by rw [HN.out]; omega)) HLt.out, HHi.out⟩⟩
        case measure => simp [intOf]; omega
      · have hc1 : cc = 0 ∨ cc = 1 := by
          rcases hcs with h | h | h
          · exact absurd h.1 hltw
          · exact .inl h.2
          · exact .inr h.2
        have HLt : Hid (¬ ltW (l.getD m default).when ⟨yt, yd, yn⟩) := Lib.hid (by rw [← HHx.out]; exact hltw)
        have hdc : decide (cc < 0) = false := by rcases hc1 with h | h <;> rw [h] <;> rfl
        clear hcs hltw hc1
        go_wp2_with fail
        rw [HHalf.out]
        refine wp_region_held_drew (S := fun w' => w'.cell? ⟨b, off + m * 5, none⟩ = some (.int .i64 xt) ∧ w'.cell? ⟨b, off + m * 5 + 1, none⟩ = some (.int .i64 xd) ∧ w'.cell? ⟨b, off + m * 5 + 2, none⟩ = some (.int .i64 xn) ∧ w'.cell? ⟨b, off + m * 5 + 3, none⟩ = some (.int .i64 xs) ∧ w'.cell? ⟨b, off + m * 5 + 4, none⟩ = some (.int .u64 xv) ∧ w'.cell? ⟨H, 0, none⟩ = some (.int .i64 yt) ∧ w'.cell? ⟨H, 1, none⟩ = some (.int .i64 yd) ∧ w'.cell? ⟨H, 2, none⟩ = some (.int .i64 yn)) (by kernel_rfl) (⟨e0, e1, e2, e3, e4, u0, u1, u2⟩) (fun hHeld => ?_)
        refine wpAnyH_take (i := 0) (v := ?_) (by simp only [List.getElem?_toArray, List.getElem?_cons_succ, List.getElem?_cons_zero]; rfl) (by kernel_rfl) (by kernel_rfl) (by kernel_rfl) (by intro _ _ _ h; exact h) (Or.inl ⟨by rfl, ?_⟩) (by assumption) ?_
        rotate_left
        · intro w hSw; (try dsimp only at hSw); go_simp; try with_reducible rfl
        try simp only [Act.put, List.setIfInBounds_toArray, List.set_cons_zero, List.set_cons_succ]
        refine wpAnyH_take (i := 1) (v := ?_) (by simp only [List.getElem?_toArray, List.getElem?_cons_succ, List.getElem?_cons_zero]; rfl) (by kernel_rfl) (by kernel_rfl) (by kernel_rfl) (by intro _ _ _ h; exact h) (Or.inl ⟨by rfl, ?_⟩) (by assumption) ?_
        rotate_left
        · intro w hSw; (try dsimp only at hSw); go_simp; try with_reducible rfl
        try simp only [Act.put, List.setIfInBounds_toArray, List.set_cons_zero, List.set_cons_succ]
        refine wpAnyH_take (i := 2) (v := ?_) (by simp only [List.getElem?_toArray, List.getElem?_cons_succ, List.getElem?_cons_zero]; rfl) (by kernel_rfl) (by kernel_rfl) (by kernel_rfl) (by intro _ _ _ h; exact h) (Or.inl ⟨by rfl, ?_⟩) (by assumption) ?_
        rotate_left
        · intro w hSw; (try dsimp only at hSw); go_simp; try with_reducible rfl
        try simp only [Act.put, List.setIfInBounds_toArray, List.set_cons_zero, List.set_cons_succ]
        refine wpAnyH_take (i := 3) (v := ?_) (by simp only [List.getElem?_toArray, List.getElem?_cons_succ, List.getElem?_cons_zero]; rfl) (by kernel_rfl) (by kernel_rfl) (by kernel_rfl) (by intro _ _ _ h; exact h) (Or.inl ⟨by rfl, ?_⟩) (by assumption) ?_
        rotate_left
        · intro w hSw; (try dsimp only at hSw); go_simp; first | with_reducible rfl | rw [if_pos (by omega)]
        try simp only [Act.put, List.setIfInBounds_toArray, List.set_cons_zero, List.set_cons_succ]
        refine wpAnyH_take (i := 4) (v := ?_) (by simp only [List.getElem?_toArray, List.getElem?_cons_succ, List.getElem?_cons_zero]; rfl) (by kernel_rfl) (by kernel_rfl) (by kernel_rfl) (by intro _ _ _ h; exact h) (Or.inl ⟨by rfl, ?_⟩) (by assumption) ?_
        rotate_left
        · intro w hSw; (try dsimp only at hSw); go_simp; try with_reducible rfl
        try simp only [Act.put, List.setIfInBounds_toArray, List.set_cons_zero, List.set_cons_succ]
        refine wpAnyH_take (i := 5) (v := ?_) (by simp only [List.getElem?_toArray, List.getElem?_cons_succ, List.getElem?_cons_zero]; rfl) (by kernel_rfl) (by kernel_rfl) (by kernel_rfl) (by intro _ _ _ h; exact h) (Or.inl ⟨by rfl, ?_⟩) (by assumption) ?_
        rotate_left
        · intro w hSw; (try dsimp only at hSw); go_simp; try with_reducible rfl
        try simp only [Act.put, List.setIfInBounds_toArray, List.set_cons_zero, List.set_cons_succ]
        refine wpAnyH_ready (rs := [6]) (by kernel_rfl) (by simp) ?_
        refine AllReadyH.cons (o := _) (by simp only [List.getElem?_toArray, List.getElem?_cons_succ, List.getElem?_cons_zero]; rfl) (fun K hK => ?_) AllReadyH.nil
        go_simp
        go_at_call 30
        refine Calls.mono (cmp30 wr.drew ⟨xt, xd, xn, xs, xv⟩ ⟨yt, yd, yn⟩) ?_
        rintro e w7 ⟨rfl, hb7⟩
        rw [← HCc.out]
        have hk7 : ∀ {b o : Nat} {v : Value}, wr.cell? ⟨b, o, none⟩ = some v → w7.cell? ⟨b, o, none⟩ = some v := fun h => (hb7.cell (p := ⟨_, _, none⟩) (World.block_lt_of_cell? wr _ h)).trans h
        have HB7 : Hid (Below wr.heap.size wr w7) := Lib.hid ((Below.refl _ _).drew.trans hb7)
        clear hb7
        go_simp
        refine hK.out _ _ (by exact ⟨hk7 e0, hk7 e1, hk7 e2, hk7 e3, hk7 e4, hk7 u0, hk7 u1, hk7 u2⟩) (fun hHeld => ?_)
        clear hK K
        try simp only [Act.put, List.setIfInBounds_toArray, List.set_cons_zero, List.set_cons_succ]
        refine wpAnyH_take (i := 7) (v := ?_) (by simp only [List.getElem?_toArray, List.getElem?_cons_succ, List.getElem?_cons_zero]; rfl) (by kernel_rfl) (by kernel_rfl) (by kernel_rfl) (by intro _ _ _ h; exact h) (Or.inl ⟨by rfl, ?_⟩) (by assumption) ?_
        rotate_left
        · intro w hSw; (try dsimp only at hSw); go_simp; try with_reducible rfl
        try simp only [Act.put, List.setIfInBounds_toArray, List.set_cons_zero, List.set_cons_succ]
        refine wpAnyH_done (by kernel_rfl) ?_ _
        go_wp2_with fail
        go_roundw
        case rel => exact ⟨lo, m, by omega, by omega, rfl, rfl, Lib.hid ⟨HRr.out.trans (HB7.out.mono HRr.out.size), HLo.out, fun j h1 h2 hl => by
          by_cases e2 : j = m
          · rw [e2] at hl; exact HLt.out hl
          · exact HLt.out (ltW_trans (HSo.out m j (by omega) (by rw [HN.out]; omega)) hl)⟩⟩
        case measure => simp [intOf]; omega
    · obtain rfl : lo = hi := by omega
      have HPos : Hid (p = lo) := Lib.hid (HP.out.trans (posL_of l _ lo (by rw [HN.out]; exact hhn) (fun j hj => HLo.out j hj) (fun hl => HHi.out lo (Nat.le_refl _) (by rw [HN.out] at hl; exact hl))))
      by_cases hln : lo < n
      · obtain ⟨b, off, ha, hbb, e0, e1, e2, e3, e4⟩ := (HLA.out.below hbw (Nat.le_refl _)).ev lo (by rw [HN.out]; omega)
        obtain ⟨x, hx⟩ : ∃ x, x = l.getD lo default := ⟨_, rfl⟩
        rw [← hx] at e0 e1 e2 e3 e4
        obtain ⟨xt, xd, xn, xs, xv⟩ := x
        dsimp only at e0 e1 e2 e3 e4
        obtain ⟨cc, hcc⟩ : ∃ c, c = cmpW ⟨xt, xd, xn⟩ ⟨yt, yd, yn⟩ := ⟨_, rfl⟩
        have HCc : Hid (cc = cmpW (EvV.when ⟨xt, xd, xn, xs, xv⟩) ⟨yt, yd, yn⟩) := Lib.hid hcc
        have hdl : decide ((lo : Int) < (n : Int)) = true := by simpa using hln
        clear hbw hcc hx
        subst ha
        go_wp2_with fail
        refine wp_region_held_drew (S := fun w' => w'.cell? ⟨b, off + lo * 5, none⟩ = some (.int .i64 xt) ∧ w'.cell? ⟨b, off + lo * 5 + 1, none⟩ = some (.int .i64 xd) ∧ w'.cell? ⟨b, off + lo * 5 + 2, none⟩ = some (.int .i64 xn) ∧ w'.cell? ⟨b, off + lo * 5 + 3, none⟩ = some (.int .i64 xs) ∧ w'.cell? ⟨b, off + lo * 5 + 4, none⟩ = some (.int .u64 xv) ∧ w'.cell? ⟨H, 0, none⟩ = some (.int .i64 yt) ∧ w'.cell? ⟨H, 1, none⟩ = some (.int .i64 yd) ∧ w'.cell? ⟨H, 2, none⟩ = some (.int .i64 yn)) (by kernel_rfl) (⟨e0, e1, e2, e3, e4, u0, u1, u2⟩) (fun hHeld => ?_)
        refine wpAnyH_take (i := 0) (v := ?_) (by simp only [List.getElem?_toArray, List.getElem?_cons_succ, List.getElem?_cons_zero]; rfl) (by kernel_rfl) (by kernel_rfl) (by kernel_rfl) (by intro _ _ _ h; exact h) (Or.inl ⟨by rfl, ?_⟩) (by assumption) ?_
        rotate_left
        · intro w hSw; (try dsimp only at hSw); go_simp; try with_reducible rfl
        try simp only [Act.put, List.setIfInBounds_toArray, List.set_cons_zero, List.set_cons_succ]
        refine wpAnyH_take (i := 1) (v := ?_) (by simp only [List.getElem?_toArray, List.getElem?_cons_succ, List.getElem?_cons_zero]; rfl) (by kernel_rfl) (by kernel_rfl) (by kernel_rfl) (by intro _ _ _ h; exact h) (Or.inl ⟨by rfl, ?_⟩) (by assumption) ?_
        rotate_left
        · intro w hSw; (try dsimp only at hSw); go_simp; try with_reducible rfl
        try simp only [Act.put, List.setIfInBounds_toArray, List.set_cons_zero, List.set_cons_succ]
        refine wpAnyH_take (i := 2) (v := ?_) (by simp only [List.getElem?_toArray, List.getElem?_cons_succ, List.getElem?_cons_zero]; rfl) (by kernel_rfl) (by kernel_rfl) (by kernel_rfl) (by intro _ _ _ h; exact h) (Or.inl ⟨by rfl, ?_⟩) (by assumption) ?_
        rotate_left
        · intro w hSw; (try dsimp only at hSw); go_simp; try with_reducible rfl
        try simp only [Act.put, List.setIfInBounds_toArray, List.set_cons_zero, List.set_cons_succ]
        refine wpAnyH_take (i := 3) (v := ?_) (by simp only [List.getElem?_toArray, List.getElem?_cons_succ, List.getElem?_cons_zero]; rfl) (by kernel_rfl) (by kernel_rfl) (by kernel_rfl) (by intro _ _ _ h; exact h) (Or.inl ⟨by rfl, ?_⟩) (by assumption) ?_
        rotate_left
        · intro w hSw; (try dsimp only at hSw); go_simp; try with_reducible rfl
        try simp only [Act.put, List.setIfInBounds_toArray, List.set_cons_zero, List.set_cons_succ]
        refine wpAnyH_take (i := 4) (v := ?_) (by simp only [List.getElem?_toArray, List.getElem?_cons_succ, List.getElem?_cons_zero]; rfl) (by kernel_rfl) (by kernel_rfl) (by kernel_rfl) (by intro _ _ _ h; exact h) (Or.inl ⟨by rfl, ?_⟩) (by assumption) ?_
        rotate_left
        · intro w hSw; (try dsimp only at hSw); go_simp; try with_reducible rfl
        try simp only [Act.put, List.setIfInBounds_toArray, List.set_cons_zero, List.set_cons_succ]
        refine wpAnyH_take (i := 5) (v := ?_) (by simp only [List.getElem?_toArray, List.getElem?_cons_succ, List.getElem?_cons_zero]; rfl) (by kernel_rfl) (by kernel_rfl) (by kernel_rfl) (by intro _ _ _ h; exact h) (Or.inl ⟨by rfl, ?_⟩) (by assumption) ?_
        rotate_left
        · intro w hSw; (try dsimp only at hSw); go_simp; try with_reducible rfl
        try simp only [Act.put, List.setIfInBounds_toArray, List.set_cons_zero, List.set_cons_succ]
        refine wpAnyH_take (i := 6) (v := ?_) (by simp only [List.getElem?_toArray, List.getElem?_cons_succ, List.getElem?_cons_zero]; rfl) (by kernel_rfl) (by kernel_rfl) (by kernel_rfl) (by intro _ _ _ h; exact h) (Or.inl ⟨by rfl, ?_⟩) (by assumption) ?_
        rotate_left
        · intro w hSw; (try dsimp only at hSw); go_simp; try with_reducible rfl
        try simp only [Act.put, List.setIfInBounds_toArray, List.set_cons_zero, List.set_cons_succ]
        refine wpAnyH_take (i := 7) (v := ?_) (by simp only [List.getElem?_toArray, List.getElem?_cons_succ, List.getElem?_cons_zero]; rfl) (by kernel_rfl) (by kernel_rfl) (by kernel_rfl) (by intro _ _ _ h; exact h) (Or.inl ⟨by rfl, ?_⟩) (by assumption) ?_
        rotate_left
        · intro w hSw; (try dsimp only at hSw); go_simp; try with_reducible rfl
        try simp only [Act.put, List.setIfInBounds_toArray, List.set_cons_zero, List.set_cons_succ]
        refine wpAnyH_take (i := 8) (v := ?_) (by simp only [List.getElem?_toArray, List.getElem?_cons_succ, List.getElem?_cons_zero]; rfl) (by kernel_rfl) (by kernel_rfl) (by kernel_rfl) (by intro _ _ _ h; exact h) (Or.inl ⟨by rfl, ?_⟩) (by assumption) ?_
        rotate_left
        · intro w hSw; (try dsimp only at hSw); go_simp; first | with_reducible rfl | rw [if_pos (by omega)]
        try simp only [Act.put, List.setIfInBounds_toArray, List.set_cons_zero, List.set_cons_succ]
        refine wpAnyH_take (i := 9) (v := ?_) (by simp only [List.getElem?_toArray, List.getElem?_cons_succ, List.getElem?_cons_zero]; rfl) (by kernel_rfl) (by kernel_rfl) (by kernel_rfl) (by intro _ _ _ h; exact h) (Or.inl ⟨by rfl, ?_⟩) (by assumption) ?_
        rotate_left
        · intro w hSw; (try dsimp only at hSw); go_simp; try with_reducible rfl
        try simp only [Act.put, List.setIfInBounds_toArray, List.set_cons_zero, List.set_cons_succ]
        refine wpAnyH_take (i := 10) (v := ?_) (by simp only [List.getElem?_toArray, List.getElem?_cons_succ, List.getElem?_cons_zero]; rfl) (by kernel_rfl) (by kernel_rfl) (by kernel_rfl) (by intro _ _ _ h; exact h) (Or.inl ⟨by rfl, ?_⟩) (by assumption) ?_
        rotate_left
        · intro w hSw; (try dsimp only at hSw); go_simp; try with_reducible rfl
        try simp only [Act.put, List.setIfInBounds_toArray, List.set_cons_zero, List.set_cons_succ]
        refine wpAnyH_ready (rs := [11]) (by kernel_rfl) (by simp) ?_
        refine AllReadyH.cons (o := _) (by simp only [List.getElem?_toArray, List.getElem?_cons_succ, List.getElem?_cons_zero]; rfl) (fun K hK => ?_) AllReadyH.nil
        go_simp
        go_at_call 30
        refine Calls.mono (cmp30 wr.drew ⟨xt, xd, xn, xs, xv⟩ ⟨yt, yd, yn⟩) ?_
        rintro e w7 ⟨rfl, hb7⟩
        rw [← HCc.out]
        have hk7 : ∀ {b o : Nat} {v : Value}, wr.cell? ⟨b, o, none⟩ = some v → w7.cell? ⟨b, o, none⟩ = some v := fun h => (hb7.cell (p := ⟨_, _, none⟩) (World.block_lt_of_cell? wr _ h)).trans h
        have HB7 : Hid (Below wr.heap.size wr w7) := Lib.hid ((Below.refl _ _).drew.trans hb7)
        clear hb7
        go_simp
        refine hK.out _ _ (by exact ⟨hk7 e0, hk7 e1, hk7 e2, hk7 e3, hk7 e4, hk7 u0, hk7 u1, hk7 u2⟩) (fun hHeld => ?_)
        clear hK K
        try simp only [Act.put, List.setIfInBounds_toArray, List.set_cons_zero, List.set_cons_succ]
        refine wpAnyH_take (i := 12) (v := ?_) (by simp only [List.getElem?_toArray, List.getElem?_cons_succ, List.getElem?_cons_zero]; rfl) (by kernel_rfl) (by kernel_rfl) (by kernel_rfl) (by intro _ _ _ h; exact h) (Or.inl ⟨by rfl, ?_⟩) (by assumption) ?_
        rotate_left
        · intro w hSw; (try dsimp only at hSw); go_simp; try with_reducible rfl
        try simp only [Act.put, List.setIfInBounds_toArray, List.set_cons_zero, List.set_cons_succ]
        refine wpAnyH_take (i := 13) (v := ?_) (by simp only [List.getElem?_toArray, List.getElem?_cons_succ, List.getElem?_cons_zero]; rfl) (by kernel_rfl) (by kernel_rfl) (by kernel_rfl) (by intro _ _ _ h; exact h) (Or.inl ⟨by rfl, ?_⟩) (by assumption) ?_
        rotate_left
        · intro w hSw; (try dsimp only at hSw); go_simp; try with_reducible rfl
        try simp only [Act.put, List.setIfInBounds_toArray, List.set_cons_zero, List.set_cons_succ]
        refine wpAnyH_take (i := 14) (v := ?_) (by simp only [List.getElem?_toArray, List.getElem?_cons_succ, List.getElem?_cons_zero]; rfl) (by kernel_rfl) (by kernel_rfl) (by kernel_rfl) (by intro _ _ _ h; exact h) (Or.inl ⟨by rfl, ?_⟩) (by assumption) ?_
        rotate_left
        · intro w hSw; (try dsimp only at hSw); go_simp; try with_reducible rfl
        try simp only [Act.put, List.setIfInBounds_toArray, List.set_cons_zero, List.set_cons_succ]
        refine wpAnyH_take (i := 15) (v := ?_) (by simp only [List.getElem?_toArray, List.getElem?_cons_succ, List.getElem?_cons_zero]; rfl) (by kernel_rfl) (by kernel_rfl) (by kernel_rfl) (by intro _ _ _ h; exact h) (Or.inl ⟨by rfl, ?_⟩) (by assumption) ?_
        rotate_left
        · intro w hSw; (try dsimp only at hSw); go_simp; try with_reducible rfl
        try simp only [Act.put, List.setIfInBounds_toArray, List.set_cons_zero, List.set_cons_succ]
        refine wpAnyH_done (by kernel_rfl) ?_ _
        go_wp2_with fail
        go_ret2
        exact ⟨cc == 0, by rw [HPos.out]; rfl, HBw.out.trans (HB7.out.mono HBw.out.size)⟩
      · obtain rfl : lo = n := by omega
        clear hbw
        go_wp2_with fail
        refine wp_region_held_drew (S := fun w' => True) (by kernel_rfl) (trivial) (fun hHeld => ?_)
        refine wpAnyH_take (i := 0) (v := ?_) (by simp only [List.getElem?_toArray, List.getElem?_cons_succ, List.getElem?_cons_zero]; rfl) (by kernel_rfl) (by kernel_rfl) (by kernel_rfl) (by intro _ _ _ h; exact h) (Or.inl ⟨by rfl, ?_⟩) (by assumption) ?_
        rotate_left
        · intro w hSw; (try dsimp only at hSw); go_simp; try with_reducible rfl
        try simp only [Act.put, List.setIfInBounds_toArray, List.set_cons_zero, List.set_cons_succ]
        refine wpAnyH_take (i := 1) (v := ?_) (by simp only [List.getElem?_toArray, List.getElem?_cons_succ, List.getElem?_cons_zero]; rfl) (by kernel_rfl) (by kernel_rfl) (by kernel_rfl) (by intro _ _ _ h; exact h) (Or.inl ⟨by rfl, ?_⟩) (by assumption) ?_
        rotate_left
        · intro w hSw; (try dsimp only at hSw); go_simp; try with_reducible rfl
        try simp only [Act.put, List.setIfInBounds_toArray, List.set_cons_zero, List.set_cons_succ]
        refine wpAnyH_take (i := 2) (v := ?_) (by simp only [List.getElem?_toArray, List.getElem?_cons_succ, List.getElem?_cons_zero]; rfl) (by kernel_rfl) (by kernel_rfl) (by kernel_rfl) (by intro _ _ _ h; exact h) (Or.inl ⟨by rfl, ?_⟩) (by assumption) ?_
        rotate_left
        · intro w hSw; (try dsimp only at hSw); go_simp; try with_reducible rfl
        try simp only [Act.put, List.setIfInBounds_toArray, List.set_cons_zero, List.set_cons_succ]
        refine wpAnyH_take (i := 3) (v := ?_) (by simp only [List.getElem?_toArray, List.getElem?_cons_succ, List.getElem?_cons_zero]; rfl) (by kernel_rfl) (by kernel_rfl) (by kernel_rfl) (by intro _ _ _ h; exact h) (Or.inl ⟨by rfl, ?_⟩) (by assumption) ?_
        rotate_left
        · intro w hSw; (try dsimp only at hSw); go_simp; try with_reducible rfl
        try simp only [Act.put, List.setIfInBounds_toArray, List.set_cons_zero, List.set_cons_succ]
        refine wpAnyH_take (i := 4) (v := ?_) (by simp only [List.getElem?_toArray, List.getElem?_cons_succ, List.getElem?_cons_zero]; rfl) (by kernel_rfl) (by kernel_rfl) (by kernel_rfl) (by intro _ _ _ h; exact h) (Or.inl ⟨by rfl, ?_⟩) (by assumption) ?_
        rotate_left
        · intro w hSw; (try dsimp only at hSw); go_simp; try with_reducible rfl
        try simp only [Act.put, List.setIfInBounds_toArray, List.set_cons_zero, List.set_cons_succ]
        refine wpAnyH_take (i := 5) (v := undef) (by simp only [List.getElem?_toArray, List.getElem?_cons_succ, List.getElem?_cons_zero]; rfl) (by kernel_rfl) (by kernel_rfl) (by kernel_rfl) (by intro _ _ _ h; exact h) (Or.inr ⟨by rfl, rfl⟩) (by assumption) ?_
        try simp only [Act.put, List.setIfInBounds_toArray, List.set_cons_zero, List.set_cons_succ]
        refine wpAnyH_take (i := 6) (v := undef) (by simp only [List.getElem?_toArray, List.getElem?_cons_succ, List.getElem?_cons_zero]; rfl) (by kernel_rfl) (by kernel_rfl) (by kernel_rfl) (by intro _ _ _ h; exact h) (Or.inr ⟨by rfl, rfl⟩) (by assumption) ?_
        try simp only [Act.put, List.setIfInBounds_toArray, List.set_cons_zero, List.set_cons_succ]
        refine wpAnyH_take (i := 7) (v := undef) (by simp only [List.getElem?_toArray, List.getElem?_cons_succ, List.getElem?_cons_zero]; rfl) (by kernel_rfl) (by kernel_rfl) (by kernel_rfl) (by intro _ _ _ h; exact h) (Or.inr ⟨by rfl, rfl⟩) (by assumption) ?_
        try simp only [Act.put, List.setIfInBounds_toArray, List.set_cons_zero, List.set_cons_succ]
        refine wpAnyH_take (i := 8) (v := undef) (by simp only [List.getElem?_toArray, List.getElem?_cons_succ, List.getElem?_cons_zero]; rfl) (by kernel_rfl) (by kernel_rfl) (by kernel_rfl) (by intro _ _ _ h; exact h) (Or.inr ⟨by rfl, rfl⟩) (by assumption) ?_
        try simp only [Act.put, List.setIfInBounds_toArray, List.set_cons_zero, List.set_cons_succ]
        refine wpAnyH_take (i := 9) (v := undef) (by simp only [List.getElem?_toArray, List.getElem?_cons_succ, List.getElem?_cons_zero]; rfl) (by kernel_rfl) (by kernel_rfl) (by kernel_rfl) (by intro _ _ _ h; exact h) (Or.inr ⟨by rfl, rfl⟩) (by assumption) ?_
        try simp only [Act.put, List.setIfInBounds_toArray, List.set_cons_zero, List.set_cons_succ]
        refine wpAnyH_take (i := 10) (v := undef) (by simp only [List.getElem?_toArray, List.getElem?_cons_succ, List.getElem?_cons_zero]; rfl) (by kernel_rfl) (by kernel_rfl) (by kernel_rfl) (by intro _ _ _ h; exact h) (Or.inr ⟨by rfl, rfl⟩) (by assumption) ?_
        try simp only [Act.put, List.setIfInBounds_toArray, List.set_cons_zero, List.set_cons_succ]
        refine wpAnyH_take (i := 11) (v := undef) (by simp only [List.getElem?_toArray, List.getElem?_cons_succ, List.getElem?_cons_zero]; rfl) (by kernel_rfl) (by kernel_rfl) (by kernel_rfl) (by intro _ _ _ h; exact h) (Or.inr ⟨by rfl, rfl⟩) (by assumption) ?_
        try simp only [Act.put, List.setIfInBounds_toArray, List.set_cons_zero, List.set_cons_succ]
        refine wpAnyH_take (i := 12) (v := undef) (by simp only [List.getElem?_toArray, List.getElem?_cons_succ, List.getElem?_cons_zero]; rfl) (by kernel_rfl) (by kernel_rfl) (by kernel_rfl) (by intro _ _ _ h; exact h) (Or.inr ⟨by rfl, rfl⟩) (by assumption) ?_
        try simp only [Act.put, List.setIfInBounds_toArray, List.set_cons_zero, List.set_cons_succ]
        refine wpAnyH_take (i := 13) (v := ?_) (by simp only [List.getElem?_toArray, List.getElem?_cons_succ, List.getElem?_cons_zero]; rfl) (by kernel_rfl) (by kernel_rfl) (by kernel_rfl) (by intro _ _ _ h; exact h) (Or.inl ⟨by rfl, ?_⟩) (by assumption) ?_
        rotate_left
        · intro w hSw; (try dsimp only at hSw); go_simp; try with_reducible rfl
        try simp only [Act.put, List.setIfInBounds_toArray, List.set_cons_zero, List.set_cons_succ]
        refine wpAnyH_take (i := 14) (v := ?_) (by simp only [List.getElem?_toArray, List.getElem?_cons_succ, List.getElem?_cons_zero]; rfl) (by kernel_rfl) (by kernel_rfl) (by kernel_rfl) (by intro _ _ _ h; exact h) (Or.inl ⟨by rfl, ?_⟩) (by assumption) ?_
        rotate_left
        · intro w hSw; (try dsimp only at hSw); go_simp; try with_reducible rfl
        try simp only [Act.put, List.setIfInBounds_toArray, List.set_cons_zero, List.set_cons_succ]
        refine wpAnyH_take (i := 15) (v := ?_) (by simp only [List.getElem?_toArray, List.getElem?_cons_succ, List.getElem?_cons_zero]; rfl) (by kernel_rfl) (by kernel_rfl) (by kernel_rfl) (by intro _ _ _ h; exact h) (Or.inl ⟨by rfl, ?_⟩) (by assumption) ?_
        rotate_left
        · intro w hSw; (try dsimp only at hSw); go_simp; try with_reducible rfl
        try simp only [Act.put, List.setIfInBounds_toArray, List.set_cons_zero, List.set_cons_succ]
        refine wpAnyH_done (by kernel_rfl) ?_ _
        go_wp2_with fail
        go_ret2
        exact ⟨false, by rw [HPos.out]; rfl, HBw.out.trans (((Below.refl _ _).drew : Below wr.heap.size wr wr.drew).mono HBw.out.size)⟩
end Go.Proofs.Ytbhbebidkeejbaa
