/- Two packs of blocks that hold the same are the same, as SameBlocks tells. -/
import Derived.Test.YtibimdhmfchcoaaBM
namespace Go.Proofs.Ytibimdhmfchcoaa
open Go.RowKit Go.Shelf Go.Maps
set_option linter.unusedVariables false
set_option linter.unusedSimpArgs false

set_option maxRecDepth 100000 in
set_option maxHeartbeats 8000000 in
theorem same18 (w : World) (P Q : PackV) (hP : PackAt w P) (hQ : PackAt w Q) (h4 : ∀ b ∈ P.bs, b.ins.length ≤ 1000) (he : P.data = Q.data) :
    Calls Try.prog 18 #[P.val, Q.val] w fun e w' => e = .returned (.bool true) ∧ Below w.heap.size w w' := by
  have e1 : P.ins = Q.ins := congrArg PackD.ins he
  have e2 : P.bs.map BlkV.data = Q.bs.map BlkV.data := congrArg PackD.bs he
  have e3 : P.os = Q.os := congrArg PackD.outs he
  have e4 : P.bs.length = Q.bs.length := by have := congrArg List.length e2; simpa using this
  have e5 : ∀ k, (P.bs.getD k default).data = (Q.bs.getD k default).data := fun k => by rw [← getD_map_blk, ← getD_map_blk, e2]
  have HP := Lib.hid hP
  have HQ := Lib.hid hQ
  have hol := hP.outsL
  have hbl := hP.blocksL
  have hos := hP.outs
  have hqs := hQ.outs
  obtain ⟨H, hH⟩ : ∃ h, h = w.heap.size := ⟨_, rfl⟩
  obtain ⟨n, hn⟩ : ∃ h, h = P.bs.length := ⟨_, rfl⟩
  obtain ⟨on, hon⟩ : ∃ h, h = P.os.length := ⟨_, rfl⟩
  obtain ⟨ins, hins⟩ : ∃ h, h = P.ins := ⟨_, rfl⟩
  obtain ⟨ba, hba⟩ : ∃ h, h = P.ba := ⟨_, rfl⟩
  obtain ⟨bc, hbc⟩ : ∃ h, h = P.bc := ⟨_, rfl⟩
  obtain ⟨oa, hoa⟩ : ∃ h, h = P.oa := ⟨_, rfl⟩
  obtain ⟨oc, hoc⟩ : ∃ h, h = P.oc := ⟨_, rfl⟩
  obtain ⟨ba2, hba2⟩ : ∃ h, h = Q.ba := ⟨_, rfl⟩
  obtain ⟨bc2, hbc2⟩ : ∃ h, h = Q.bc := ⟨_, rfl⟩
  obtain ⟨oa2, hoa2⟩ : ∃ h, h = Q.oa := ⟨_, rfl⟩
  obtain ⟨oc2, hoc2⟩ : ∃ h, h = Q.oc := ⟨_, rfl⟩
  obtain ⟨os, hose⟩ : ∃ h, h = P.os := ⟨_, rfl⟩
  rw [← hose] at e3 hon
  rw [← hose, ← hoa, ← hon] at hos
  rw [← e3, ← hoa2, ← hon] at hqs
  have hvv : P.val = .agg #[.int .i64 ins, .slice ba n bc, .slice oa on oc] := by unfold PackV.val; rw [hins, hba, hn, hbc, hoa, hoc, hon, hose]
  have hvq : Q.val = .agg #[.int .i64 ins, .slice ba2 n bc2, .slice oa2 on oc2] := by unfold PackV.val; rw [hins, hba2, hn, hbc2, hoa2, hoc2, hon, e1, e3, e4]
  rw [hvv, hvq]
  obtain ⟨w1, hw1⟩ : ∃ W, W = (w.alloc (.cells #[.int .i64 ins, .slice ba n bc, .slice oa on oc] 31)).alloc (.cells #[.int .i64 ins, .slice ba2 n bc2, .slice oa2 on oc2] 31) := ⟨_, rfl⟩
  have hb1 : Below w.heap.size w w1 := by rw [hw1]; exact ((Below.refl _ _).alloc (Nat.le_refl _) _).alloc (by simp) _
  have hs1 : w1.heap.size = H + 2 := by rw [hw1, hH]; simp
  have p1 : w1.cell? ⟨H, 1, none⟩ = some (.slice ba n bc) := by rw [hw1, hH]; exact cell_alloc _ (by simp)
  have q1 : w1.cell? ⟨H + 1, 1, none⟩ = some (.slice ba2 n bc2) := by rw [hw1, hH]; simp
  have p0 : w1.cell? ⟨H, 0, none⟩ = some (.int .i64 ins) := by rw [hw1, hH]; exact cell_alloc _ (by simp)
  have q0 : w1.cell? ⟨H + 1, 0, none⟩ = some (.int .i64 ins) := by rw [hw1, hH]; simp
  have p2 : w1.cell? ⟨H, 2, none⟩ = some (.slice oa on oc) := by rw [hw1, hH]; exact cell_alloc _ (by simp)
  have q2 : w1.cell? ⟨H + 1, 2, none⟩ = some (.slice oa2 on oc2) := by rw [hw1, hH]; simp
  have HP1 := Lib.hid p1
  have HQ1 := Lib.hid q1
  rw [hw1] at p0 p1 p2 q0 q1 q2
  have HW1 := Lib.hid hw1
  have HB1 := Lib.hid hb1
  have HOs := Lib.hid hos
  have HQs := Lib.hid hqs
  have HN := Lib.hid hn
  have HOn : Hid (os.length = on) := Lib.hid hon.symm
  have HE5 := Lib.hid e5
  have HE4 := Lib.hid e4
  have HBa := Lib.hid hba
  have HBa2 := Lib.hid hba2
  have HH := Lib.hid hH
  have hol : on ≤ 9223372036854775807 := by rw [hon, hose]; exact hol
  have hbl : n ≤ 9223372036854775807 := by rw [hn]; exact hbl
  have HHsz := Lib.hid hs1
  rw [hH] at p0 p1 p2 q0 q1 q2
  clear hP hQ he e1 e2 e3 e4 e5 hn hon hins hba hbc hoa hoc hba2 hbc2 hoa2 hoc2 hose hvv hvq hw1 hb1 hos hqs hs1 hH
  go_enter Try.func18, Try.ntmps18
  go_wp2_with fail
  rw [← HW1.out]
  refine Calls.mono (sameInts _ oa oa2 on oc on oc2 os os HOn.out HOn.out (by omega) (by omega) (HOs.out.below HB1.out (Nat.le_refl _)) (HQs.out.below HB1.out (Nat.le_refl _))) ?_
  rintro e w2 ⟨rfl, hb2⟩
  have p1 : w2.cell? ⟨H, 1, none⟩ = some (.slice ba n bc) := (hb2.cell (p := ⟨_, _, none⟩) (by have := HHsz.out; simp only; omega)).trans HP1.out
  have q1 : w2.cell? ⟨H + 1, 1, none⟩ = some (.slice ba2 n bc2) := (hb2.cell (p := ⟨_, _, none⟩) (by have := HHsz.out; simp only; omega)).trans HQ1.out
  have HB2 := Lib.hid hb2
  clear hb2
  try rw [← HH.out]
  go_wp2_with fail
  go_loopw [33] (fun kv wr => ∃ k : Nat, k ≤ n ∧ kv = .int .i64 k ∧ Hid (Below w1.heap.size w1 wr)) (fun kv _ => n - (intOf kv).toNat)
  case atStart => exact ⟨0, by omega, rfl, HB2⟩
  case round =>
    obtain ⟨k, hk, rfl, HRr⟩ := hrel
    by_cases hlk : k < n
    · have hbw : Below w.heap.size w wr := HB1.out.trans (HRr.out.mono (by have := HHsz.out; have := HH.out; omega))
      obtain ⟨kb, ko, hkb, hkbl, d0, d1, d2, d3⟩ := (HP.out.below hbw (Nat.le_refl _)).blk k (by rw [← HN.out]; exact hlk)
      obtain ⟨mb, mo, hmb, hmbl, e0, e1, e2, e3⟩ := (HQ.out.below hbw (Nat.le_refl _)).blk k (by rw [← HE4.out, ← HN.out]; exact hlk)
      have he := HE5.out k
      have hm : P.bs.getD k default ∈ P.bs := getD_mem P.bs default (by rw [← HN.out]; exact hlk)
      have hm2 : Q.bs.getD k default ∈ Q.bs := getD_mem Q.bs default (by rw [← HE4.out, ← HN.out]; exact hlk)
      have hsL := ((HP.out.below hbw (Nat.le_refl _)).each _ hm).1
      have hsM := ((HQ.out.below hbw (Nat.le_refl _)).each _ hm2).1
      have hlL := h4 _ hm
      rw [← HBa.out] at hkb
      rw [← HBa2.out] at hmb
      obtain ⟨LL, hLL⟩ : ∃ L, L = P.bs.getD k default := ⟨_, rfl⟩
      obtain ⟨MM, hMM⟩ : ∃ L, L = Q.bs.getD k default := ⟨_, rfl⟩
      rw [← hLL] at d0 d1 d2 d3 hsL hlL he
      rw [← hMM] at e0 e1 e2 e3 hsM he
      obtain ⟨La, Lc, Li, Lt, ff, fi⟩ := LL
      obtain ⟨Ma, Mc, Mi, Mt, mf, mi⟩ := MM
      have a1 := congrArg BlkD.ins he
      have a2 := congrArg BlkD.tab he
      have a3 := congrArg BlkD.ff he
      have a4 := congrArg BlkD.init he
      dsimp only [BlkV.data] at a1 a2 a3 a4
      subst a1 a2 a3 a4
      dsimp only at d0 d1 d2 d3 e0 e1 e2 e3 hsL hsM hlL
      have z1 : wr.cell? ⟨H, 1, none⟩ = some (.slice ba n bc) := (HRr.out.cell (p := ⟨_, _, none⟩) (by have := HHsz.out; simp only; omega)).trans HP1.out
      have z2 : wr.cell? ⟨H + 1, 1, none⟩ = some (.slice ba2 n bc2) := (HRr.out.cell (p := ⟨_, _, none⟩) (by have := HHsz.out; simp only; omega)).trans HQ1.out
      have HSL := Lib.hid hsL
      have HSM := Lib.hid hsM
      clear hsL hsM he hm hm2 hLL hMM hbw
      subst hkb hmb
      go_wp2_with fail
      refine wp_region_K (S := fun w' => w'.cell? ⟨H, 1, none⟩ = some (.slice (some ⟨kb, ko, none⟩) n bc) ∧ w'.cell? ⟨H + 1, 1, none⟩ = some (.slice (some ⟨mb, mo, none⟩) n bc2) ∧ w'.cell? ⟨kb, ko + k * 4, none⟩ = some (.slice La Li.length Lc) ∧ w'.cell? ⟨kb, ko + k * 4 + 1, none⟩ = some (.int .i64 Lt) ∧ w'.cell? ⟨kb, ko + k * 4 + 2, none⟩ = some (.bool ff) ∧ w'.cell? ⟨kb, ko + k * 4 + 3, none⟩ = some (.bool fi) ∧ w'.cell? ⟨mb, mo + k * 4, none⟩ = some (.slice Ma Li.length Mc) ∧ w'.cell? ⟨mb, mo + k * 4 + 1, none⟩ = some (.int .i64 Lt) ∧ w'.cell? ⟨mb, mo + k * 4 + 2, none⟩ = some (.bool ff) ∧ w'.cell? ⟨mb, mo + k * 4 + 3, none⟩ = some (.bool fi)) 13 (by kernel_rfl) (⟨z1, z2, d0, d1, d2, d3, e0, e1, e2, e3⟩) (fun hHeld => ?_)
      refine wpAnyK_take (i := 0) (v := ?_) (by simp only [List.getElem?_toArray, List.getElem?_cons_succ, List.getElem?_cons_zero]; rfl) (by kernel_rfl) (by kernel_rfl) (by kernel_rfl) (by kernel_rfl) (by intro _ _ _ h; exact h) (Or.inl ⟨by rfl, ?_⟩) (by assumption) ?_
      rotate_left
      · intro w hSw; (try dsimp only at hSw); go_simp; try with_reducible rfl
      try simp only [Act.put, List.setIfInBounds_toArray, List.set_cons_zero, List.set_cons_succ]
      refine wpAnyK_take (i := 1) (v := ?_) (by simp only [List.getElem?_toArray, List.getElem?_cons_succ, List.getElem?_cons_zero]; rfl) (by kernel_rfl) (by kernel_rfl) (by kernel_rfl) (by kernel_rfl) (by intro _ _ _ h; exact h) (Or.inl ⟨by rfl, ?_⟩) (by assumption) ?_
      rotate_left
      · intro w hSw; (try dsimp only at hSw); go_simp; try with_reducible rfl
      try simp only [Act.put, List.setIfInBounds_toArray, List.set_cons_zero, List.set_cons_succ]
      refine wpAnyK_take (i := 2) (v := ?_) (by simp only [List.getElem?_toArray, List.getElem?_cons_succ, List.getElem?_cons_zero]; rfl) (by kernel_rfl) (by kernel_rfl) (by kernel_rfl) (by kernel_rfl) (by intro _ _ _ h; exact h) (Or.inl ⟨by rfl, ?_⟩) (by assumption) ?_
      rotate_left
      · intro w hSw; (try dsimp only at hSw); go_simp; try with_reducible rfl
      try simp only [Act.put, List.setIfInBounds_toArray, List.set_cons_zero, List.set_cons_succ]
      refine wpAnyK_take (i := 3) (v := ?_) (by simp only [List.getElem?_toArray, List.getElem?_cons_succ, List.getElem?_cons_zero]; rfl) (by kernel_rfl) (by kernel_rfl) (by kernel_rfl) (by kernel_rfl) (by intro _ _ _ h; exact h) (Or.inl ⟨by rfl, ?_⟩) (by assumption) ?_
      rotate_left
      · intro w hSw; (try dsimp only at hSw); go_simp; first | with_reducible rfl | rw [if_pos (by omega)]
      try simp only [Act.put, List.setIfInBounds_toArray, List.set_cons_zero, List.set_cons_succ]
      refine wpAnyK_take (i := 4) (v := ?_) (by simp only [List.getElem?_toArray, List.getElem?_cons_succ, List.getElem?_cons_zero]; rfl) (by kernel_rfl) (by kernel_rfl) (by kernel_rfl) (by kernel_rfl) (by intro _ _ _ h; exact h) (Or.inl ⟨by rfl, ?_⟩) (by assumption) ?_
      rotate_left
      · intro w hSw; (try dsimp only at hSw); go_simp; try with_reducible rfl
      try simp only [Act.put, List.setIfInBounds_toArray, List.set_cons_zero, List.set_cons_succ]
      refine wpAnyK_take (i := 5) (v := ?_) (by simp only [List.getElem?_toArray, List.getElem?_cons_succ, List.getElem?_cons_zero]; rfl) (by kernel_rfl) (by kernel_rfl) (by kernel_rfl) (by kernel_rfl) (by intro _ _ _ h; exact h) (Or.inl ⟨by rfl, ?_⟩) (by assumption) ?_
      rotate_left
      · intro w hSw; (try dsimp only at hSw); go_simp; try with_reducible rfl
      try simp only [Act.put, List.setIfInBounds_toArray, List.set_cons_zero, List.set_cons_succ]
      refine wpAnyK_take (i := 6) (v := ?_) (by simp only [List.getElem?_toArray, List.getElem?_cons_succ, List.getElem?_cons_zero]; rfl) (by kernel_rfl) (by kernel_rfl) (by kernel_rfl) (by kernel_rfl) (by intro _ _ _ h; exact h) (Or.inl ⟨by rfl, ?_⟩) (by assumption) ?_
      rotate_left
      · intro w hSw; (try dsimp only at hSw); go_simp; try with_reducible rfl
      try simp only [Act.put, List.setIfInBounds_toArray, List.set_cons_zero, List.set_cons_succ]
      refine wpAnyK_take (i := 7) (v := ?_) (by simp only [List.getElem?_toArray, List.getElem?_cons_succ, List.getElem?_cons_zero]; rfl) (by kernel_rfl) (by kernel_rfl) (by kernel_rfl) (by kernel_rfl) (by intro _ _ _ h; exact h) (Or.inl ⟨by rfl, ?_⟩) (by assumption) ?_
      rotate_left
      · intro w hSw; (try dsimp only at hSw); go_simp; try with_reducible rfl
      try simp only [Act.put, List.setIfInBounds_toArray, List.set_cons_zero, List.set_cons_succ]
      refine wpAnyK_take (i := 8) (v := ?_) (by simp only [List.getElem?_toArray, List.getElem?_cons_succ, List.getElem?_cons_zero]; rfl) (by kernel_rfl) (by kernel_rfl) (by kernel_rfl) (by kernel_rfl) (by intro _ _ _ h; exact h) (Or.inl ⟨by rfl, ?_⟩) (by assumption) ?_
      rotate_left
      · intro w hSw; (try dsimp only at hSw); go_simp; first | with_reducible rfl | rw [if_pos (by omega)]
      try simp only [Act.put, List.setIfInBounds_toArray, List.set_cons_zero, List.set_cons_succ]
      refine wpAnyK_take (i := 9) (v := ?_) (by simp only [List.getElem?_toArray, List.getElem?_cons_succ, List.getElem?_cons_zero]; rfl) (by kernel_rfl) (by kernel_rfl) (by kernel_rfl) (by kernel_rfl) (by intro _ _ _ h; exact h) (Or.inl ⟨by rfl, ?_⟩) (by assumption) ?_
      rotate_left
      · intro w hSw; (try dsimp only at hSw); go_simp; try with_reducible rfl
      try simp only [Act.put, List.setIfInBounds_toArray, List.set_cons_zero, List.set_cons_succ]
      refine wpAnyK_ready (rs := [10, 11]) (by kernel_rfl) (by simp) ?_
      refine AllReadyK.cons (o := _) (by simp only [List.getElem?_toArray, List.getElem?_cons_succ, List.getElem?_cons_zero]; rfl) (fun K hK => ?_) (AllReadyK.cons (o := _) (by simp only [List.getElem?_toArray, List.getElem?_cons_succ, List.getElem?_cons_zero]; rfl) (fun K hK => ?_) AllReadyK.nil)
      · go_simp

        refine hK.out _ _ (fun _ => by first | exact ⟨cell_alloc _ z1, cell_alloc _ z2, cell_alloc _ d0, cell_alloc _ d1, cell_alloc _ d2, cell_alloc _ d3, cell_alloc _ e0, cell_alloc _ e1, cell_alloc _ e2, cell_alloc _ e3⟩ | exact ⟨cell_alloc _ (cell_alloc _ z1), cell_alloc _ (cell_alloc _ z2), cell_alloc _ (cell_alloc _ d0), cell_alloc _ (cell_alloc _ d1), cell_alloc _ (cell_alloc _ d2), cell_alloc _ (cell_alloc _ d3), cell_alloc _ (cell_alloc _ e0), cell_alloc _ (cell_alloc _ e1), cell_alloc _ (cell_alloc _ e2), cell_alloc _ (cell_alloc _ e3)⟩) (fun hH => ?_)
        have hHeld := hH (by decide)
        clear hK K hH
        try simp only [Act.put, List.setIfInBounds_toArray, List.set_cons_zero, List.set_cons_succ]
        refine wpAnyK_ready (rs := [11]) (by kernel_rfl) (by simp) ?_
        refine AllReadyK.cons (o := _) (by simp only [List.getElem?_toArray, List.getElem?_cons_succ, List.getElem?_cons_zero]; rfl) (fun K hK => ?_) AllReadyK.nil
        go_simp

        refine hK.out _ _ (fun _ => by first | exact ⟨cell_alloc _ z1, cell_alloc _ z2, cell_alloc _ d0, cell_alloc _ d1, cell_alloc _ d2, cell_alloc _ d3, cell_alloc _ e0, cell_alloc _ e1, cell_alloc _ e2, cell_alloc _ e3⟩ | exact ⟨cell_alloc _ (cell_alloc _ z1), cell_alloc _ (cell_alloc _ z2), cell_alloc _ (cell_alloc _ d0), cell_alloc _ (cell_alloc _ d1), cell_alloc _ (cell_alloc _ d2), cell_alloc _ (cell_alloc _ d3), cell_alloc _ (cell_alloc _ e0), cell_alloc _ (cell_alloc _ e1), cell_alloc _ (cell_alloc _ e2), cell_alloc _ (cell_alloc _ e3)⟩) (fun hH => ?_)
        have hHeld := hH (by decide)
        clear hK K hH
        try simp only [Act.put, List.setIfInBounds_toArray, List.set_cons_zero, List.set_cons_succ]
        refine wpAnyK_ready (rs := [12]) (by kernel_rfl) (by simp) ?_
        refine AllReadyK.cons (o := _) (by simp only [List.getElem?_toArray, List.getElem?_cons_succ, List.getElem?_cons_zero]; rfl) (fun K hK => ?_) AllReadyK.nil
        go_simp

        refine hK.out _ _ (fun _ => by first | exact ⟨cell_alloc _ z1, cell_alloc _ z2, cell_alloc _ d0, cell_alloc _ d1, cell_alloc _ d2, cell_alloc _ d3, cell_alloc _ e0, cell_alloc _ e1, cell_alloc _ e2, cell_alloc _ e3⟩ | exact ⟨cell_alloc _ (cell_alloc _ z1), cell_alloc _ (cell_alloc _ z2), cell_alloc _ (cell_alloc _ d0), cell_alloc _ (cell_alloc _ d1), cell_alloc _ (cell_alloc _ d2), cell_alloc _ (cell_alloc _ d3), cell_alloc _ (cell_alloc _ e0), cell_alloc _ (cell_alloc _ e1), cell_alloc _ (cell_alloc _ e2), cell_alloc _ (cell_alloc _ e3)⟩) (fun hH => ?_)
        have hHeld := hH (by decide)
        clear hK K hH
        try simp only [Act.put, List.setIfInBounds_toArray, List.set_cons_zero, List.set_cons_succ]
        refine wpAnyK_ready (rs := [13]) (by kernel_rfl) (by simp) ?_
        refine AllReadyK.cons (o := _) (by simp only [List.getElem?_toArray, List.getElem?_cons_succ, List.getElem?_cons_zero]; rfl) (fun K hK => ?_) AllReadyK.nil
        go_simp

        refine hK.out _ _ (fun h => absurd rfl h) (fun _ => ?_)
        clear hK K
        try simp only [Act.put, List.setIfInBounds_toArray, List.set_cons_zero, List.set_cons_succ]
        refine wpAnyK_done (by kernel_rfl) ?_ _
        go_wp2_with fail
        refine Calls.mono (sameInts _ La Ma Li.length Lc Li.length Mc Li Li rfl rfl (by omega) (by omega) (HSL.out.below (((Below.refl _ _).drew.alloc (by simp) _).alloc (by simp) _) (Nat.le_refl _)) (HSM.out.below (((Below.refl _ _).drew.alloc (by simp) _).alloc (by simp) _) (Nat.le_refl _))) ?_
        rintro e w9 ⟨rfl, hb9⟩
        have g1 : w9.cell? ⟨wr.heap.size, 1, none⟩ = some (.int .i64 Lt) := (hb9.cell (p := ⟨_, _, none⟩) (by simp <;> omega)).trans (by simp)
        have g2 : w9.cell? ⟨wr.heap.size, 2, none⟩ = some (.bool ff) := (hb9.cell (p := ⟨_, _, none⟩) (by simp <;> omega)).trans (by simp)
        have g3 : w9.cell? ⟨wr.heap.size, 3, none⟩ = some (.bool fi) := (hb9.cell (p := ⟨_, _, none⟩) (by simp <;> omega)).trans (by simp)
        have f1 : w9.cell? ⟨wr.heap.size + 1, 1, none⟩ = some (.int .i64 Lt) := (hb9.cell (p := ⟨_, _, none⟩) (by simp <;> omega)).trans (by simp)
        have f2 : w9.cell? ⟨wr.heap.size + 1, 2, none⟩ = some (.bool ff) := (hb9.cell (p := ⟨_, _, none⟩) (by simp <;> omega)).trans (by simp)
        have f3 : w9.cell? ⟨wr.heap.size + 1, 3, none⟩ = some (.bool fi) := (hb9.cell (p := ⟨_, _, none⟩) (by simp <;> omega)).trans (by simp)
        have hbb : Below wr.heap.size wr w9 := (((Below.refl _ _).drew.alloc (by simp <;> omega) _).alloc (by simp <;> omega) _).trans (hb9.mono (by simp <;> omega))
        have HN1 : Hid (Below w1.heap.size w1 w9) := Lib.hid (HRr.out.trans (hbb.mono HRr.out.size))
        clear hb9 hbb
        go_wp2_with fail
        go_roundw
        case rel => exact ⟨k + 1, by omega, by go_num, HN1⟩
        case measure => simp [intOf]; omega
      · go_simp

        refine hK.out _ _ (fun _ => by first | exact ⟨cell_alloc _ z1, cell_alloc _ z2, cell_alloc _ d0, cell_alloc _ d1, cell_alloc _ d2, cell_alloc _ d3, cell_alloc _ e0, cell_alloc _ e1, cell_alloc _ e2, cell_alloc _ e3⟩ | exact ⟨cell_alloc _ (cell_alloc _ z1), cell_alloc _ (cell_alloc _ z2), cell_alloc _ (cell_alloc _ d0), cell_alloc _ (cell_alloc _ d1), cell_alloc _ (cell_alloc _ d2), cell_alloc _ (cell_alloc _ d3), cell_alloc _ (cell_alloc _ e0), cell_alloc _ (cell_alloc _ e1), cell_alloc _ (cell_alloc _ e2), cell_alloc _ (cell_alloc _ e3)⟩) (fun hH => ?_)
        have hHeld := hH (by decide)
        clear hK K hH
        try simp only [Act.put, List.setIfInBounds_toArray, List.set_cons_zero, List.set_cons_succ]
        refine wpAnyK_ready (rs := [10]) (by kernel_rfl) (by simp) ?_
        refine AllReadyK.cons (o := _) (by simp only [List.getElem?_toArray, List.getElem?_cons_succ, List.getElem?_cons_zero]; rfl) (fun K hK => ?_) AllReadyK.nil
        go_simp

        refine hK.out _ _ (fun _ => by first | exact ⟨cell_alloc _ z1, cell_alloc _ z2, cell_alloc _ d0, cell_alloc _ d1, cell_alloc _ d2, cell_alloc _ d3, cell_alloc _ e0, cell_alloc _ e1, cell_alloc _ e2, cell_alloc _ e3⟩ | exact ⟨cell_alloc _ (cell_alloc _ z1), cell_alloc _ (cell_alloc _ z2), cell_alloc _ (cell_alloc _ d0), cell_alloc _ (cell_alloc _ d1), cell_alloc _ (cell_alloc _ d2), cell_alloc _ (cell_alloc _ d3), cell_alloc _ (cell_alloc _ e0), cell_alloc _ (cell_alloc _ e1), cell_alloc _ (cell_alloc _ e2), cell_alloc _ (cell_alloc _ e3)⟩) (fun hH => ?_)
        have hHeld := hH (by decide)
        clear hK K hH
        try simp only [Act.put, List.setIfInBounds_toArray, List.set_cons_zero, List.set_cons_succ]
        refine wpAnyK_ready (rs := [12]) (by kernel_rfl) (by simp) ?_
        refine AllReadyK.cons (o := _) (by simp only [List.getElem?_toArray, List.getElem?_cons_succ, List.getElem?_cons_zero]; rfl) (fun K hK => ?_) AllReadyK.nil
        go_simp

        refine hK.out _ _ (fun _ => by first | exact ⟨cell_alloc _ z1, cell_alloc _ z2, cell_alloc _ d0, cell_alloc _ d1, cell_alloc _ d2, cell_alloc _ d3, cell_alloc _ e0, cell_alloc _ e1, cell_alloc _ e2, cell_alloc _ e3⟩ | exact ⟨cell_alloc _ (cell_alloc _ z1), cell_alloc _ (cell_alloc _ z2), cell_alloc _ (cell_alloc _ d0), cell_alloc _ (cell_alloc _ d1), cell_alloc _ (cell_alloc _ d2), cell_alloc _ (cell_alloc _ d3), cell_alloc _ (cell_alloc _ e0), cell_alloc _ (cell_alloc _ e1), cell_alloc _ (cell_alloc _ e2), cell_alloc _ (cell_alloc _ e3)⟩) (fun hH => ?_)
        have hHeld := hH (by decide)
        clear hK K hH
        try simp only [Act.put, List.setIfInBounds_toArray, List.set_cons_zero, List.set_cons_succ]
        refine wpAnyK_ready (rs := [13]) (by kernel_rfl) (by simp) ?_
        refine AllReadyK.cons (o := _) (by simp only [List.getElem?_toArray, List.getElem?_cons_succ, List.getElem?_cons_zero]; rfl) (fun K hK => ?_) AllReadyK.nil
        go_simp

        refine hK.out _ _ (fun h => absurd rfl h) (fun _ => ?_)
        clear hK K
        try simp only [Act.put, List.setIfInBounds_toArray, List.set_cons_zero, List.set_cons_succ]
        refine wpAnyK_done (by kernel_rfl) ?_ _
        go_wp2_with fail
        refine Calls.mono (sameInts _ La Ma Li.length Lc Li.length Mc Li Li rfl rfl (by omega) (by omega) (HSL.out.below (((Below.refl _ _).drew.alloc (by simp) _).alloc (by simp) _) (Nat.le_refl _)) (HSM.out.below (((Below.refl _ _).drew.alloc (by simp) _).alloc (by simp) _) (Nat.le_refl _))) ?_
        rintro e w9 ⟨rfl, hb9⟩
        have g1 : w9.cell? ⟨wr.heap.size, 1, none⟩ = some (.int .i64 Lt) := (hb9.cell (p := ⟨_, _, none⟩) (by simp <;> omega)).trans (by simp)
        have g2 : w9.cell? ⟨wr.heap.size, 2, none⟩ = some (.bool ff) := (hb9.cell (p := ⟨_, _, none⟩) (by simp <;> omega)).trans (by simp)
        have g3 : w9.cell? ⟨wr.heap.size, 3, none⟩ = some (.bool fi) := (hb9.cell (p := ⟨_, _, none⟩) (by simp <;> omega)).trans (by simp)
        have f1 : w9.cell? ⟨wr.heap.size + 1, 1, none⟩ = some (.int .i64 Lt) := (hb9.cell (p := ⟨_, _, none⟩) (by simp <;> omega)).trans (by simp)
        have f2 : w9.cell? ⟨wr.heap.size + 1, 2, none⟩ = some (.bool ff) := (hb9.cell (p := ⟨_, _, none⟩) (by simp <;> omega)).trans (by simp)
        have f3 : w9.cell? ⟨wr.heap.size + 1, 3, none⟩ = some (.bool fi) := (hb9.cell (p := ⟨_, _, none⟩) (by simp <;> omega)).trans (by simp)
        have hbb : Below wr.heap.size wr w9 := (((Below.refl _ _).drew.alloc (by simp <;> omega) _).alloc (by simp <;> omega) _).trans (hb9.mono (by simp <;> omega))
        have HN1 : Hid (Below w1.heap.size w1 w9) := Lib.hid (HRr.out.trans (hbb.mono HRr.out.size))
        clear hb9 hbb
        go_wp2_with fail
        go_roundw
        case rel => exact ⟨k + 1, by omega, by go_num, HN1⟩
        case measure => simp [intOf]; omega
    · obtain rfl : k = n := by omega
      have hbw : Below w.heap.size w wr := HB1.out.trans (HRr.out.mono (by have := HHsz.out; have := HH.out; omega))
      have HBW := Lib.hid hbw
      clear hbw
      go_wp2_with fail
      go_ret
      exact ⟨rfl, HBW.out⟩

end Go.Proofs.Ytibimdhmfchcoaa
