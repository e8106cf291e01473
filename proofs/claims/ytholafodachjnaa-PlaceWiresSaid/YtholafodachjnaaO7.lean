import Derived.Test.YtholafodachjnaaBQ
namespace Go.Proofs.Ytholafodachjnaa
open Go.RowKit Go.Shelf Go.Maps
set_option linter.unusedVariables false
set_option linter.unusedSimpArgs false
theorem OS.start {w0 w : World} {P : PackV} {wb hb R : Nat} (hb0 : PBox w0.heap.size w0 P w) (hw : w.rowIs wb 3 P.bs.length (fun _ => .int .i64 0)) (hh : w.rowIs hb 25 P.bs.length (fun _ => .slice none 0 0)) (h1 : w0.heap.size < wb) (h2 : w0.heap.size < hb) (h3 : wb < R) (h4 : hb < R) (h5 : wb ≠ hb)
    (hR : w.heap[R]? = some (.cells #[.slice none 0 0] 89)) : OS w0 P wb hb R (fun _ => 0) (fun _ => .slice none 0 0) (fun _ => []) [] (.slice none 0 0) w :=
  ⟨hb0, h1, h2, h3, h4, h5, hw, hh, fun j hj => World.ownsRow_nil _ _ _ _, fun j k g hj hk e => by simp [Value.ownBlock] at e,
   ⟨(cells_at hR 0).1, (cells_at hR 0).2, World.ownsRow_nil _ _ _ _, fun k h0 hk => by simp at hk⟩, fun j g hj e => by simp [Value.ownBlock] at e⟩


set_option maxRecDepth 100000 in
set_option maxHeartbeats 16000000 in
theorem order29 (w : World) (P : PackV) (h : PackAt w P) (hf : FewP P) :
    Calls Try.prog 48 #[P.val] w (NewOrder w P.data) := by
  obtain ⟨W1, hW1⟩ : ∃ W1, W1 = w.alloc P.obj := ⟨_, rfl⟩
  have hX := PBox.start w P
  rw [← hW1] at hX
  have h1 : PackAt W1 P := h.below hX.below (Nat.le_refl _)
  have HM := Lib.hid (may57 W1 P h1 hf)
  have x0 := hX.c0
  have x1 := hX.c1
  have x2 := hX.c2
  have HX := Lib.hid hX
  have HP := Lib.hid h
  have HF := Lib.hid hf
  have hnow := nowTo_bs P
  have hDn := data_n P
  have hDk := data_blk P
  have hDi : P.data.ins = P.ins := rfl
  have hordD : orderE P.data = if mayB P.data then (if (orderL P.data).length < nowTo P.data P.data.n then 321 else 0) else 1 := rfl
  have hlen := orderL_len P.data
  have hfb := hf.bs
  have hfi := hf.ins
  rw [hDn] at hordD hlen
  have hmay : mayB P.data = true → 0 ≤ P.ins ∧ ∀ b, b < P.bs.length → (∀ x ∈ (P.bs.getD b default).ins, 0 ≤ x ∧ x < P.ins + P.bs.length) ∧ (P.bs.getD b default).ins.length ≤ 4 := by
    intro hmm
    unfold mayB at hmm
    simp only [Bool.and_eq_true, decide_eq_true_eq] at hmm
    refine ⟨hmm.1.1.1, fun b hb => ?_⟩
    have := (blk_all P.data _).1 hmm.2.1 b (by rw [data_n]; exact hb)
    rw [data_blk, data_n] at this
    unfold blkB at this
    simp only [Bool.and_eq_true, decide_eq_true_eq, List.all_eq_true] at this
    exact ⟨this.2, this.1.1.1⟩
  have HMay := Lib.hid hmay
  obtain ⟨D, hD⟩ : ∃ D, D = P.data := ⟨_, rfl⟩
  rw [← hD] at HM HMay hnow hDn hDk hDi hordD hlen ⊢
  obtain ⟨n, hn⟩ : ∃ n, n = P.bs.length := ⟨_, rfl⟩
  obtain ⟨ins, hins⟩ : ∃ n, n = P.ins := ⟨_, rfl⟩
  obtain ⟨ba, hba⟩ : ∃ n, n = P.ba := ⟨_, rfl⟩
  obtain ⟨bc, hbc⟩ : ∃ n, n = P.bc := ⟨_, rfl⟩
  have hPn := hn.symm
  rw [← hn] at x1 hDn hlen hfb HMay hordD
  rw [← hba, ← hbc] at x1
  rw [← hins] at x0 hfi HMay hDi
  have HPn := Lib.hid hPn
  have HIns := Lib.hid hins.symm
  have HBa := Lib.hid hba.symm
  have HBc := Lib.hid hbc.symm
  have HDn := Lib.hid hDn
  have HDk := Lib.hid hDk
  have HDi := Lib.hid hDi
  have HNow := Lib.hid hnow
  have HE := Lib.hid hordD
  have HLen := Lib.hid hlen
  have HW1 := Lib.hid hW1
  obtain ⟨mb, hmb⟩ : ∃ b, b = mayB D := ⟨_, rfl⟩
  rw [← hmb] at HM HE HMay
  have hvv : P.val = .agg #[.int .i64 ins, .slice ba n bc, .slice P.oa P.os.length P.oc] := by rw [hins, hba, hn, hbc]
  have hvo : P.obj = .cells #[.int .i64 ins, .slice ba n bc, .slice P.oa P.os.length P.oc] 27 := by rw [hins, hba, hn, hbc]
  obtain ⟨oa, hoa⟩ : ∃ n, n = P.oa := ⟨_, rfl⟩
  obtain ⟨oc, hoc⟩ : ∃ n, n = P.oc := ⟨_, rfl⟩
  obtain ⟨on, hon⟩ : ∃ n, n = P.os.length := ⟨_, rfl⟩
  rw [← hoa, ← hoc, ← hon] at hvv hvo x2
  rw [hvo] at HW1
  rw [hvv] at HM
  rw [hvv]
  have HOa := Lib.hid hoa
  have HOc := Lib.hid hoc
  have HOn := Lib.hid hon
  clear h h1 hf hX hnow hDn hDk hDi hordD hlen hD hW1 hmb hn hins hba hbc hPn hvv hvo hoa hoc hon hmay
  go_enter Try.func48, Try.ntmps48
  go_wp2_with fail
  rw [← HW1.out]
  go_wp2_with fail
  refine Calls.mono HM.out ?_
  rintro e w2 ⟨rfl, hb2⟩
  cases mb
  · go_wp2_with fail
    have he : orderE D = 1 := by rw [HE.out]; rfl
    have := noOrder (w := w) (w' := w2) (D := D) (by rw [he]; decide) (HX.out.below.trans (hb2.mono (by have := HX.out.size; omega)))
    rw [he] at this
    go_ret2
    exact this
  · have hX2 := HX.out.step hb2 (by have := HX.out.size; omega)
    obtain ⟨hi0, hInW⟩ := HMay.out rfl
    have HInW := Lib.hid hInW
    have HX2 := Lib.hid hX2
    have y0 := hX2.c0
    have y1 := hX2.c1
    rw [HIns.out] at y0
    rw [HBa.out, HPn.out, HBc.out] at y1
    have hmk := run_make_row' (P := Try.prog) 25 3 (.int .i64 0) 8 Try.underlying25 info3 rfl .i64 .i64 n (by omega) (by omega)
    have hmk2 := run_make_row' (P := Try.prog) 85 25 (.slice none 0 0) 24 Try.underlying85 info24 rfl .i64 .i64 n (by omega) (by omega)
    clear hX2 hb2 hInW
    go_wp2_with fail
    refine wp_region_held_drew (S := fun w' => w'.cell? ⟨w.heap.size, 0, none⟩ = some (.int .i64 ins) ∧ w'.cell? ⟨w.heap.size, 1, none⟩ = some (.slice ba n bc)) (by kernel_rfl) (⟨y0, y1⟩) (fun hHeld => ?_)
    refine wpAnyH_take (i := 0) (v := ?_) (by simp only [List.getElem?_toArray, List.getElem?_cons_succ, List.getElem?_cons_zero]; rfl) (by kernel_rfl) (by kernel_rfl) (by kernel_rfl) (by intro _ _ _ h; exact h) (Or.inl ⟨by rfl, ?_⟩) (by assumption) ?_
    rotate_left
    · intro w hSw; (try dsimp only at hSw); go_simp; try with_reducible rfl
    try simp only [Act.put, List.setIfInBounds_toArray, List.set_cons_zero, List.set_cons_succ]
    refine wpAnyH_take (i := 1) (v := ?_) (by simp only [List.getElem?_toArray, List.getElem?_cons_succ, List.getElem?_cons_zero]; rfl) (by kernel_rfl) (by kernel_rfl) (by kernel_rfl) (by intro _ _ _ h; exact h) (Or.inl ⟨by rfl, ?_⟩) (by assumption) ?_
    rotate_left
    · intro w hSw; (try dsimp only at hSw); go_simp; try with_reducible rfl
    try simp only [Act.put, List.setIfInBounds_toArray, List.set_cons_zero, List.set_cons_succ]
    refine wpAnyH_take (i := 4) (v := ?_) (by simp only [List.getElem?_toArray, List.getElem?_cons_succ, List.getElem?_cons_zero]; rfl) (by kernel_rfl) (by kernel_rfl) (by kernel_rfl) (by intro _ _ _ h; exact h) (Or.inl ⟨by rfl, ?_⟩) (by assumption) ?_
    rotate_left
    · intro w hSw; (try dsimp only at hSw); go_simp; try with_reducible rfl
    try simp only [Act.put, List.setIfInBounds_toArray, List.set_cons_zero, List.set_cons_succ]
    refine wpAnyH_take (i := 5) (v := ?_) (by simp only [List.getElem?_toArray, List.getElem?_cons_succ, List.getElem?_cons_zero]; rfl) (by kernel_rfl) (by kernel_rfl) (by kernel_rfl) (by intro _ _ _ h; exact h) (Or.inl ⟨by rfl, ?_⟩) (by assumption) ?_
    rotate_left
    · intro w hSw; (try dsimp only at hSw); go_simp; try with_reducible rfl
    try simp only [Act.put, List.setIfInBounds_toArray, List.set_cons_zero, List.set_cons_succ]
    refine wpAnyH_take (i := 2) (v := ?_) (by simp only [List.getElem?_toArray, List.getElem?_cons_succ, List.getElem?_cons_zero]; rfl) (by kernel_rfl) (by kernel_rfl) (by kernel_rfl) (by intro _ _ _ h; exact h) (Or.inl ⟨by rfl, ?_⟩) (by assumption) ?_
    rotate_left
    · intro w hSw; (try dsimp only at hSw); go_simp; try with_reducible rfl
    try simp only [Act.put, List.setIfInBounds_toArray, List.set_cons_zero, List.set_cons_succ]
    refine wpAnyH_take (i := 6) (v := ?_) (by simp only [List.getElem?_toArray, List.getElem?_cons_succ, List.getElem?_cons_zero]; rfl) (by kernel_rfl) (by kernel_rfl) (by kernel_rfl) (by intro _ _ _ h; exact h) (Or.inl ⟨by rfl, ?_⟩) (by assumption) ?_
    rotate_left
    · intro w hSw; (try dsimp only at hSw); go_simp; try with_reducible rfl
    try simp only [Act.put, List.setIfInBounds_toArray, List.set_cons_zero, List.set_cons_succ]
    refine wpAnyH_ready (rs := [3, 7]) (by kernel_rfl) (by simp) ?_
    refine AllReadyH.cons (o := _) (by simp only [List.getElem?_toArray, List.getElem?_cons_succ, List.getElem?_cons_zero]; rfl) (fun K hK => ?_) (AllReadyH.cons (o := _) (by simp only [List.getElem?_toArray, List.getElem?_cons_succ, List.getElem?_cons_zero]; rfl) (fun K hK => ?_) AllReadyH.nil)
    · go_simp

      refine hK.out _ _ (by exact ⟨cell_alloc _ hHeld.1, cell_alloc _ hHeld.2⟩) (fun hHeld => ?_)
      clear hK K
      try simp only [Act.put, List.setIfInBounds_toArray, List.set_cons_zero, List.set_cons_succ]
      refine wpAnyH_take (i := 8) (v := ?_) (by simp only [List.getElem?_toArray, List.getElem?_cons_succ, List.getElem?_cons_zero]; rfl) (by kernel_rfl) (by kernel_rfl) (by kernel_rfl) (by intro _ _ _ h; exact h) (Or.inl ⟨by rfl, ?_⟩) (by assumption) ?_
      rotate_left
      · intro w hSw; (try dsimp only at hSw); go_simp; try with_reducible rfl
      try simp only [Act.put, List.setIfInBounds_toArray, List.set_cons_zero, List.set_cons_succ]
      refine wpAnyH_ready (rs := [7]) (by kernel_rfl) (by simp) ?_
      refine AllReadyH.cons (o := _) (by simp only [List.getElem?_toArray, List.getElem?_cons_succ, List.getElem?_cons_zero]; rfl) (fun K hK => ?_) AllReadyH.nil
      go_simp

      refine hK.out _ _ (by exact ⟨cell_alloc _ hHeld.1, cell_alloc _ hHeld.2⟩) (fun hHeld => ?_)
      clear hK K
      try simp only [Act.put, List.setIfInBounds_toArray, List.set_cons_zero, List.set_cons_succ]
      refine wpAnyH_take (i := 9) (v := ?_) (by simp only [List.getElem?_toArray, List.getElem?_cons_succ, List.getElem?_cons_zero]; rfl) (by kernel_rfl) (by kernel_rfl) (by kernel_rfl) (by intro _ _ _ h; exact h) (Or.inl ⟨by rfl, ?_⟩) (by assumption) ?_
      rotate_left
      · intro w hSw; (try dsimp only at hSw); go_simp; try with_reducible rfl
      try simp only [Act.put, List.setIfInBounds_toArray, List.set_cons_zero, List.set_cons_succ]
      refine wpAnyH_done (by kernel_rfl) ?_ _
      have hwa : (((w2.alloc (Obj.cells (madeCells #[Value.int IntKind.i64 0] n) 3)).alloc (Obj.cells (madeCells #[Value.slice none 0 0] n) 25)).drew).rowIs w2.heap.size 3 n (fun _ => .int .i64 0) := ((World.rowIs_made w2 (Value.int IntKind.i64 0) n 3).alloc _).drew
      have hha : (((w2.alloc (Obj.cells (madeCells #[Value.int IntKind.i64 0] n) 3)).alloc (Obj.cells (madeCells #[Value.slice none 0 0] n) 25)).drew).rowIs (w2.heap.size + 1) 25 n (fun _ => .slice none 0 0) := by have h := World.rowIs_made (w2.alloc (Obj.cells (madeCells #[Value.int IntKind.i64 0] n) 3)) (Value.slice none 0 0) n 25; rw [show (w2.alloc (Obj.cells (madeCells #[Value.int IntKind.i64 0] n) 3)).heap.size = w2.heap.size + 1 by simp] at h; exact h.drew
      have hsz : (((w2.alloc (Obj.cells (madeCells #[Value.int IntKind.i64 0] n) 3)).alloc (Obj.cells (madeCells #[Value.slice none 0 0] n) 25)).drew).heap.size = w2.heap.size + 2 := by simp
      have hbw : Below w2.heap.size w2 (((w2.alloc (Obj.cells (madeCells #[Value.int IntKind.i64 0] n) 3)).alloc (Obj.cells (madeCells #[Value.slice none 0 0] n) 25)).drew) := (((Below.refl _ _).alloc (Nat.le_refl _) _).alloc (by simp) _).drew
      obtain ⟨W3, hW3⟩ : ∃ W, W = (((w2.alloc (Obj.cells (madeCells #[Value.int IntKind.i64 0] n) 3)).alloc (Obj.cells (madeCells #[Value.slice none 0 0] n) 25)).drew) := ⟨_, rfl⟩
      rw [← hW3] at hwa hha hsz hbw ⊢
      obtain ⟨wb, hwb⟩ : ∃ b, b = w2.heap.size := ⟨_, rfl⟩
      obtain ⟨hb, hhb⟩ : ∃ b, b = (w2.heap.size + 1) := ⟨_, rfl⟩
      rw [← hwb] at hwa
      rw [← hhb] at hha
      rw [← hhb, ← hwb]
      have hX3 := HX2.out.step hbw HX2.out.size
      have hb4 : Below W3.heap.size W3 (W3.alloc (Obj.cells #[.slice none 0 0] 89)) := (Below.refl _ _).alloc (Nat.le_refl _) _
      have hX4 := hX3.step hb4 (by have := HX2.out.size; omega)
      have hsz0 := HX2.out.size
      have hOS := OS.start (wb := wb) (hb := hb) (R := W3.heap.size) hX4 (by rw [HPn.out]; exact hwa.alloc _) (by rw [HPn.out]; exact hha.alloc _) (by omega) (by omega) (by omega) (by omega) (by omega) (alloc_top W3 _)
      have HLA : Hid (LA w P wb hb W3.heap.size D 0 (W3.alloc (Obj.cells #[.slice none 0 0] 89))) := Lib.hid ⟨_, _, _, _, _, hOS, KA.zero D⟩
      obtain ⟨W4, hW4⟩ : ∃ W, W = W3.alloc (Obj.cells #[.slice none 0 0] 89) := ⟨_, rfl⟩
      have z1 := hX4.c1
      rw [← hW4] at HLA
      rw [HBa.out, HPn.out, HBc.out] at z1
      obtain ⟨R, hR⟩ : ∃ r, r = W3.heap.size := ⟨_, rfl⟩
      rw [← hR] at HLA
      have HR := Lib.hid hR
      have HW4 := Lib.hid hW4
      clear hwa hha hsz hbw hW3 hwb hhb hX3 hb4 hX4 hsz0 hOS hR hW4 y0 y1 hHeld
      go_wp2_with fail
      rw [← HW4.out, ← HR.out]
      refine orderL1 _ (by intro c d v a w h; cases d <;> exact h) w _ P D n hfb HP HPn HDn HDk ins hi0 hfi HIns HDi HNow HInW ba bc HBa HBc w.heap.size wb hb R (Lib.hid rfl) HLA _ _ _ _ _ _ _ _ _ _ _ _ _ _ _ _ _ _ _ _ _ _ _ _ _ _ _ _ _ _ _ _ _ _ _ _ _ _ _ _ _ _ _ _ _ _ _ _ _ _ _ _ _ _ _ _ _ _ _ _ _ _ _ _ _ _ _ _ _ _ _ _ _ _ _ _ _ _ _ _ _ _ _ _ _ _ _ _ _ _ _ _ _ _ _ _ _ _ _ _ _ _ _ _ _ _ _ _ _ _ _ _ _ _ _ _ _ _ _ _ _ ?_
      intro r8 r9 r11 r12 r31 r32 r33 r34 r35 r36 r37 r38 r39 r40 r41 r42 r43 r44 r45 r46 r47 r48 r49 r50 r51 r52 r53 r54 r55 r56 r57 r58 r59 r60 r61 r62 r63 r64 r65 r66 r67 r68 r69 r70 r71 r72 r73 r74 r75 r76 r77 r78 r79 r80 r81 r82 r83 r84 r85 r86 r87 r88 W5 H5
      have HLC : Hid (LC w P wb hb R D 0 (.slice none 0 0) W5) := by
        obtain ⟨wt, vs, bh, l, hv, hos, hka⟩ := H5.out
        refine Lib.hid ⟨wt, vs, bh, l, hv, rdA D n, hos.told0, ?_, rfl⟩
        rw [← HDn.out] at hka ⊢
        exact hka.all
      clear H5 HLA z1
      go_wp2_with fail
      refine orderL3 _ (by intro c d v a w h; cases d <;> exact h) w _ P D n hfb HP HPn HDn (Lib.hid (fun b hb => by rw [HDk.out]; exact (HInW.out b hb).2)) w.heap.size wb hb R HLC _ _ _ _ _ _ _ _ _ _ _ _ _ _ _ _ _ _ _ _ _ _ _ _ _ _ _ _ _ _ _ _ _ _ _ _ _ _ _ _ _ _ _ _ _ _ _ _ _ _ _ _ _ _ _ _ _ _ _ _ _ _ _ _ _ _ _ _ _ _ _ _ _ _ _ _ _ _ _ _ _ _ _ _ _ _ _ _ _ _ _ _ _ _ _ _ _ _ _ _ _ _ _ _ _ _ _ _ _ _ _ _ _ _ _ _ _ _ _ _ _ _ _ _ ?_
      intro r13 r14 r16 r89 r90 r91 r92 r93 r94 r95 r96 r97 r98 r99 r100 r101 r102 r103 r104 r105 r106 r107 r108 r109 r110 r111 r112 r113 r114 r115 r116 r117 r118 r119 r120 r121 r122 r123 W6 H6
      clear HLC
      obtain ⟨ho6, hb6, hlt6⟩ := H6.out
      obtain ⟨a6, c6, rfl⟩ := owns_val ho6
      have HO6 := Lib.hid (ho6.base_le (base' := w.heap.size) (by omega))
      have HB6 := Lib.hid hb6
      obtain ⟨len, hlen⟩ : ∃ l, l = (orderL D).length := ⟨_, rfl⟩
      rw [← hlen] at HO6 HE HLen ⊢
      have HLn := Lib.hid hlen
      have hnl := nowTo_le D n
      obtain ⟨nn, hnn⟩ : ∃ m, m = nowTo D n := ⟨_, rfl⟩
      rw [← hnn] at hnl HE HLen ⊢
      clear hlen hnn ho6 hb6 hlt6 H6
      have hle := HLen.out
      by_cases hne : len < nn
      · have hbb : decide ((len : Int) < (nn : Int)) = true := by simpa using hne
        have hbn : decide (len < nn) = true := by simpa using hne
        have he : orderE D = 321 := by rw [HE.out]; simp; omega
        have hres := noOrder (w := w) (w' := W6) (D := D) (by rw [he]; decide) HB6.out
        rw [he] at hres
        have HRes := Lib.hid hres
        clear hres he
        go_wp2_with fail
        go_ret2
        exact HRes.out
      · have hbb : decide ((len : Int) < (nn : Int)) = false := by simpa using hne
        have hbn : decide (len < nn) = false := by simpa using hne
        have he : orderE D = 0 := by rw [HE.out]; simp; omega
        have hres := someOrder (w := w) he (by rw [← HLn.out]; exact HO6.out) HB6.out
        have HRes := Lib.hid hres
        clear hres he
        go_wp2_with fail
        go_ret2
        exact HRes.out
    · go_simp

      refine hK.out _ _ (by exact ⟨cell_alloc _ hHeld.1, cell_alloc _ hHeld.2⟩) (fun hHeld => ?_)
      clear hK K
      try simp only [Act.put, List.setIfInBounds_toArray, List.set_cons_zero, List.set_cons_succ]
      refine wpAnyH_ready (rs := [3]) (by kernel_rfl) (by simp) ?_
      refine AllReadyH.cons (o := _) (by simp only [List.getElem?_toArray, List.getElem?_cons_succ, List.getElem?_cons_zero]; rfl) (fun K hK => ?_) AllReadyH.nil
      go_simp

      refine hK.out _ _ (by exact ⟨cell_alloc _ hHeld.1, cell_alloc _ hHeld.2⟩) (fun hHeld => ?_)
      clear hK K
      try simp only [Act.put, List.setIfInBounds_toArray, List.set_cons_zero, List.set_cons_succ]
      refine wpAnyH_take (i := 8) (v := ?_) (by simp only [List.getElem?_toArray, List.getElem?_cons_succ, List.getElem?_cons_zero]; rfl) (by kernel_rfl) (by kernel_rfl) (by kernel_rfl) (by intro _ _ _ h; exact h) (Or.inl ⟨by rfl, ?_⟩) (by assumption) ?_
      rotate_left
      · intro w hSw; (try dsimp only at hSw); go_simp; try with_reducible rfl
      try simp only [Act.put, List.setIfInBounds_toArray, List.set_cons_zero, List.set_cons_succ]
      refine wpAnyH_take (i := 9) (v := ?_) (by simp only [List.getElem?_toArray, List.getElem?_cons_succ, List.getElem?_cons_zero]; rfl) (by kernel_rfl) (by kernel_rfl) (by kernel_rfl) (by intro _ _ _ h; exact h) (Or.inl ⟨by rfl, ?_⟩) (by assumption) ?_
      rotate_left
      · intro w hSw; (try dsimp only at hSw); go_simp; try with_reducible rfl
      try simp only [Act.put, List.setIfInBounds_toArray, List.set_cons_zero, List.set_cons_succ]
      refine wpAnyH_done (by kernel_rfl) ?_ _
      have hwa : (((w2.alloc (Obj.cells (madeCells #[Value.slice none 0 0] n) 25)).alloc (Obj.cells (madeCells #[Value.int IntKind.i64 0] n) 3)).drew).rowIs (w2.heap.size + 1) 3 n (fun _ => .int .i64 0) := by have h := World.rowIs_made (w2.alloc (Obj.cells (madeCells #[Value.slice none 0 0] n) 25)) (Value.int IntKind.i64 0) n 3; rw [show (w2.alloc (Obj.cells (madeCells #[Value.slice none 0 0] n) 25)).heap.size = w2.heap.size + 1 by simp] at h; exact h.drew
      have hha : (((w2.alloc (Obj.cells (madeCells #[Value.slice none 0 0] n) 25)).alloc (Obj.cells (madeCells #[Value.int IntKind.i64 0] n) 3)).drew).rowIs w2.heap.size 25 n (fun _ => .slice none 0 0) := ((World.rowIs_made w2 (Value.slice none 0 0) n 25).alloc _).drew
      have hsz : (((w2.alloc (Obj.cells (madeCells #[Value.slice none 0 0] n) 25)).alloc (Obj.cells (madeCells #[Value.int IntKind.i64 0] n) 3)).drew).heap.size = w2.heap.size + 2 := by simp
      have hbw : Below w2.heap.size w2 (((w2.alloc (Obj.cells (madeCells #[Value.slice none 0 0] n) 25)).alloc (Obj.cells (madeCells #[Value.int IntKind.i64 0] n) 3)).drew) := (((Below.refl _ _).alloc (Nat.le_refl _) _).alloc (by simp) _).drew
      obtain ⟨W3, hW3⟩ : ∃ W, W = (((w2.alloc (Obj.cells (madeCells #[Value.slice none 0 0] n) 25)).alloc (Obj.cells (madeCells #[Value.int IntKind.i64 0] n) 3)).drew) := ⟨_, rfl⟩
      rw [← hW3] at hwa hha hsz hbw ⊢
      obtain ⟨wb, hwb⟩ : ∃ b, b = (w2.heap.size + 1) := ⟨_, rfl⟩
      obtain ⟨hb, hhb⟩ : ∃ b, b = w2.heap.size := ⟨_, rfl⟩
      rw [← hwb] at hwa
      rw [← hhb] at hha
      rw [← hwb, ← hhb]
      have hX3 := HX2.out.step hbw HX2.out.size
      have hb4 : Below W3.heap.size W3 (W3.alloc (Obj.cells #[.slice none 0 0] 89)) := (Below.refl _ _).alloc (Nat.le_refl _) _
      have hX4 := hX3.step hb4 (by have := HX2.out.size; omega)
      have hsz0 := HX2.out.size
      have hOS := OS.start (wb := wb) (hb := hb) (R := W3.heap.size) hX4 (by rw [HPn.out]; exact hwa.alloc _) (by rw [HPn.out]; exact hha.alloc _) (by omega) (by omega) (by omega) (by omega) (by omega) (alloc_top W3 _)
      have HLA : Hid (LA w P wb hb W3.heap.size D 0 (W3.alloc (Obj.cells #[.slice none 0 0] 89))) := Lib.hid ⟨_, _, _, _, _, hOS, KA.zero D⟩
      obtain ⟨W4, hW4⟩ : ∃ W, W = W3.alloc (Obj.cells #[.slice none 0 0] 89) := ⟨_, rfl⟩
      have z1 := hX4.c1
      rw [← hW4] at HLA
      rw [HBa.out, HPn.out, HBc.out] at z1
      obtain ⟨R, hR⟩ : ∃ r, r = W3.heap.size := ⟨_, rfl⟩
      rw [← hR] at HLA
      have HR := Lib.hid hR
      have HW4 := Lib.hid hW4
      clear hwa hha hsz hbw hW3 hwb hhb hX3 hb4 hX4 hsz0 hOS hR hW4 y0 y1 hHeld
      go_wp2_with fail
      rw [← HW4.out, ← HR.out]
      refine orderL1 _ (by intro c d v a w h; cases d <;> exact h) w _ P D n hfb HP HPn HDn HDk ins hi0 hfi HIns HDi HNow HInW ba bc HBa HBc w.heap.size wb hb R (Lib.hid rfl) HLA _ _ _ _ _ _ _ _ _ _ _ _ _ _ _ _ _ _ _ _ _ _ _ _ _ _ _ _ _ _ _ _ _ _ _ _ _ _ _ _ _ _ _ _ _ _ _ _ _ _ _ _ _ _ _ _ _ _ _ _ _ _ _ _ _ _ _ _ _ _ _ _ _ _ _ _ _ _ _ _ _ _ _ _ _ _ _ _ _ _ _ _ _ _ _ _ _ _ _ _ _ _ _ _ _ _ _ _ _ _ _ _ _ _ _ _ _ _ _ _ _ ?_
      intro r8 r9 r11 r12 r31 r32 r33 r34 r35 r36 r37 r38 r39 r40 r41 r42 r43 r44 r45 r46 r47 r48 r49 r50 r51 r52 r53 r54 r55 r56 r57 r58 r59 r60 r61 r62 r63 r64 r65 r66 r67 r68 r69 r70 r71 r72 r73 r74 r75 r76 r77 r78 r79 r80 r81 r82 r83 r84 r85 r86 r87 r88 W5 H5
      have HLC : Hid (LC w P wb hb R D 0 (.slice none 0 0) W5) := by
        obtain ⟨wt, vs, bh, l, hv, hos, hka⟩ := H5.out
        refine Lib.hid ⟨wt, vs, bh, l, hv, rdA D n, hos.told0, ?_, rfl⟩
        rw [← HDn.out] at hka ⊢
        exact hka.all
      clear H5 HLA z1
      go_wp2_with fail
      refine orderL3 _ (by intro c d v a w h; cases d <;> exact h) w _ P D n hfb HP HPn HDn (Lib.hid (fun b hb => by rw [HDk.out]; exact (HInW.out b hb).2)) w.heap.size wb hb R HLC _ _ _ _ _ _ _ _ _ _ _ _ _ _ _ _ _ _ _ _ _ _ _ _ _ _ _ _ _ _ _ _ _ _ _ _ _ _ _ _ _ _ _ _ _ _ _ _ _ _ _ _ _ _ _ _ _ _ _ _ _ _ _ _ _ _ _ _ _ _ _ _ _ _ _ _ _ _ _ _ _ _ _ _ _ _ _ _ _ _ _ _ _ _ _ _ _ _ _ _ _ _ _ _ _ _ _ _ _ _ _ _ _ _ _ _ _ _ _ _ _ _ _ _ ?_
      intro r13 r14 r16 r89 r90 r91 r92 r93 r94 r95 r96 r97 r98 r99 r100 r101 r102 r103 r104 r105 r106 r107 r108 r109 r110 r111 r112 r113 r114 r115 r116 r117 r118 r119 r120 r121 r122 r123 W6 H6
      clear HLC
      obtain ⟨ho6, hb6, hlt6⟩ := H6.out
      obtain ⟨a6, c6, rfl⟩ := owns_val ho6
      have HO6 := Lib.hid (ho6.base_le (base' := w.heap.size) (by omega))
      have HB6 := Lib.hid hb6
      obtain ⟨len, hlen⟩ : ∃ l, l = (orderL D).length := ⟨_, rfl⟩
      rw [← hlen] at HO6 HE HLen ⊢
      have HLn := Lib.hid hlen
      have hnl := nowTo_le D n
      obtain ⟨nn, hnn⟩ : ∃ m, m = nowTo D n := ⟨_, rfl⟩
      rw [← hnn] at hnl HE HLen ⊢
      clear hlen hnn ho6 hb6 hlt6 H6
      have hle := HLen.out
      by_cases hne : len < nn
      · have hbb : decide ((len : Int) < (nn : Int)) = true := by simpa using hne
        have hbn : decide (len < nn) = true := by simpa using hne
        have he : orderE D = 321 := by rw [HE.out]; simp; omega
        have hres := noOrder (w := w) (w' := W6) (D := D) (by rw [he]; decide) HB6.out
        rw [he] at hres
        have HRes := Lib.hid hres
        clear hres he
        go_wp2_with fail
        go_ret2
        exact HRes.out
      · have hbb : decide ((len : Int) < (nn : Int)) = false := by simpa using hne
        have hbn : decide (len < nn) = false := by simpa using hne
        have he : orderE D = 0 := by rw [HE.out]; simp; omega
        have hres := someOrder (w := w) he (by rw [← HLn.out]; exact HO6.out) HB6.out
        have HRes := Lib.hid hres
        clear hres he
        go_wp2_with fail
        go_ret2
        exact HRes.out

set_option maxRecDepth 100000 in
set_option maxHeartbeats 4000000 in
theorem check33 (w : World) (P : PackV) (h : PackAt w P) (hf : FewP P) :
    Calls Try.prog 25 #[P.val] w fun e w' => e = .returned (.int .i64 (orderE P.data)) ∧ Below w.heap.size w w' := by
  obtain ⟨W1, hW1⟩ : ∃ W1, W1 = w.alloc P.obj := ⟨_, rfl⟩
  have hX := PBox.start w P
  rw [← hW1] at hX
  have HO := Lib.hid (order29 W1 P (h.below hX.below (Nat.le_refl _)) hf)
  have x0 := hX.c0
  have x1 := hX.c1
  have x2 := hX.c2
  have HX := Lib.hid hX
  obtain ⟨D, hD⟩ : ∃ D, D = P.data := ⟨_, rfl⟩
  rw [← hD] at HO ⊢
  obtain ⟨ins, ba, bc, bs, oa, oc, os⟩ := P
  dsimp only at x0 x1 x2
  have HW1 := Lib.hid hW1
  clear h hX hW1 hD
  go_enter Try.func25, Try.ntmps25
  go_wp2_with fail
  rw [← HW1.out]
  go_wp2_with fail
  refine Calls.mono HO.out ?_
  rintro e w2 ⟨a, c, rfl, _, hb2⟩
  go_wp2_with fail
  go_ret
  exact ⟨rfl, HX.out.below.trans (hb2.mono (by have := HX.out.size; omega))⟩
end Go.Proofs.Ytholafodachjnaa

