/- Each hold is one block with a flop, in order; what Pack makes can be told. -/
import Derived.Test.YtibimdhmfchcoaaBN
import Derived.Test.YtibimdhmfchcoaaF4
import Derived.Test.YtibimdhmfchcoaaO7
namespace Go.Proofs.Ytibimdhmfchcoaa
open Go.RowKit Go.Shelf Go.Maps
set_option linter.unusedVariables false
set_option linter.unusedSimpArgs false

theorem pack_few {N : NetV} {P : PackV} (hok : NetOk N 4) (hf : Few N) (hi : P.ins = N.ins) (hb : P.bs.map BlkV.data = packBlks N) (ho : P.os = packOuts N) : FewP P := by
  have hlen : P.bs.length = (packBlks N).length := by rw [← hb, List.length_map]
  have h1 := packBlks_length N
  have h2 := hf.holds; have h3 := hf.luts; have h4 := hf.outs
  refine ⟨by rw [hi]; exact hf.ins, by omega, by rw [ho]; unfold packOuts; rw [List.length_map]; omega, fun b hbm => ?_⟩
  have h := packBlks_fine N hok _ (hb ▸ List.mem_map_of_mem hbm)
  have := h.len
  have e : b.data.ins = b.ins := rfl
  rw [e] at this
  omega
theorem pack_data {N : NetV} {P : PackV} (hi : P.ins = N.ins) (hb : P.bs.map BlkV.data = packBlks N) (ho : P.os = packOuts N) : P.data = packD N := by
  unfold packD
  rw [← hi, ← hb, ← ho]
theorem pack_blk {N : NetV} {P : PackV} (hb : P.bs.map BlkV.data = packBlks N) (k : Nat) (hk : k < P.bs.length) : (P.bs.getD k default).ff = decide (k < N.holds.length) ∧ (k < N.holds.length → (P.bs.getD k default).init = (N.holds.getD k default).init) := by
  have hlen : P.bs.length = (packBlks N).length := by rw [← hb, List.length_map]
  have h1 : (P.bs.getD k default).data = (packBlks N).getD k default := by rw [← hb, getD_map_blk]
  have h2 := pack_ff N k (by omega)
  rw [← h1] at h2
  refine ⟨h2, fun h => ?_⟩
  have h3 := pack_init N k h
  rw [← h1] at h3
  exact h3

set_option maxRecDepth 100000 in
set_option maxHeartbeats 8000000 in
theorem packKeeps (w : World) (N : NetV) (hN : NetAt w N) : Calls Try.prog 9 #[N.val] w fun e w' => e = .returned (.bool true) ∧ Below w.heap.size w w' := by
  have HNet := Lib.hid hN
  clear hN
  go_enter Try.func9, Try.ntmps9
  go_wp2_with fail
  refine (live14 _).mono ?_
  rintro e w1 ⟨rfl, hb⟩
  have hx := (Box.start w N).step hb (by simp)
  have b0 := hx.c0
  have b1 := hx.c1
  have b2 := hx.c2
  have b3 := hx.c3
  have HX := Lib.hid hx
  clear hx hb
  go_wp2_with fail
  refine (fewNet _ N (HNet.out.below HX.out.below (Nat.le_refl _))).mono ?_
  rintro e w2 ⟨rfl, hb⟩
  have hx := HX.out.step hb HX.out.size
  have b0 := hx.c0
  have b1 := hx.c1
  have b2 := hx.c2
  have b3 := hx.c3
  have HX2 := Lib.hid hx
  clear hx hb
  obtain ⟨fb, hfb⟩ : ∃ b, b = fewB N := ⟨_, rfl⟩
  rw [← hfb]
  have HFb := Lib.hid hfb
  clear hfb
  cases fb
  · go_wp2
    go_ret
    exact ⟨rfl, HX2.out.below⟩
  have HF := Lib.hid (few_of N HFb.out.symm)
  go_wp2_with fail
  refine (packs _ N (HNet.out.below HX2.out.below (Nat.le_refl _)) HF.out).mono ?_
  rintro e w3 (⟨hok, P, hi, hbd, ho, rfl, hr, hb⟩ | ⟨hno, rfl, hb⟩)
  · have hx := HX2.out.step hb HX2.out.size
    have b0 := hx.c0
    have b1 := hx.c1
    have b2 := hx.c2
    have b3 := hx.c3
    have HX3 := Lib.hid hx
    have hpa := pack_at hok HF.out hi HNet.out.insR hbd ho hr
    have HFp := Lib.hid (pack_few hok HF.out hi hbd ho)
    have hff := pack_blk (N := N) (P := P) hbd
    have hoe : orderE P.data = 0 := by rw [pack_data hi hbd ho]; exact pack_check N hok HF.out
    have h1 := packBlks_length N
    have hlen := congrArg List.length hbd
    rw [List.length_map] at hlen
    rw [← hlen] at h1
    have hol : P.os.length = N.outs.length := by rw [ho]; unfold packOuts; rw [List.length_map]
    have hge := h1.2
    have hle := h1.1
    have k1 := HF.out.holds
    have k2 := HF.out.luts
    obtain ⟨H, hH⟩ : ∃ h, h = w.heap.size := ⟨_, rfl⟩
    obtain ⟨n, hn⟩ : ∃ h, h = P.bs.length := ⟨_, rfl⟩
    obtain ⟨ba, hba⟩ : ∃ h, h = P.ba := ⟨_, rfl⟩
    obtain ⟨bc, hbc⟩ : ∃ h, h = P.bc := ⟨_, rfl⟩
    obtain ⟨oa, hoa⟩ : ∃ h, h = P.oa := ⟨_, rfl⟩
    obtain ⟨oc, hoc⟩ : ∃ h, h = P.oc := ⟨_, rfl⟩
    obtain ⟨on, hon⟩ : ∃ h, h = N.outs.length := ⟨_, rfl⟩
    obtain ⟨ins, hins⟩ : ∃ h, h = N.ins := ⟨_, rfl⟩
    obtain ⟨ha, hha⟩ : ∃ h, h = N.ha := ⟨_, rfl⟩
    obtain ⟨hc, hhc⟩ : ∃ h, h = N.hc := ⟨_, rfl⟩
    obtain ⟨hl, hhl⟩ : ∃ h, h = N.holds.length := ⟨_, rfl⟩
    have hvv : P.val = .agg #[.int .i64 ins, .slice ba n bc, .slice oa on oc] := by
      unfold PackV.val
      rw [hins, hba, hn, hbc, hoa, hoc, hon, hi, hol]
    simp only [← hH, ← hins, ← hhl, ← hha, ← hhc, ← hon, ← hn] at b0 b1 b3 hge hle k1 hff
    rw [hvv, ← hH]
    have hlt3 : H < w3.heap.size := World.block_lt_of_cell? w3 _ b0
    obtain ⟨w4, hw4⟩ : ∃ W, W = w3.alloc (.cells #[.int .i64 ins, .slice ba n bc, .slice oa on oc] 31) := ⟨_, rfl⟩
    have hb4 : Below w3.heap.size w3 w4 := by rw [hw4]; exact (Below.refl _ _).alloc (Nat.le_refl _) _
    have p0 : w4.cell? ⟨w3.heap.size, 0, none⟩ = some (.int .i64 ins) := by rw [hw4]; simp
    have p1 : w4.cell? ⟨w3.heap.size, 1, none⟩ = some (.slice ba n bc) := by rw [hw4]; simp
    have p2 : w4.cell? ⟨w3.heap.size, 2, none⟩ = some (.slice oa on oc) := by rw [hw4]; simp
    have c0 : w4.cell? ⟨H, 0, none⟩ = some (.int .i64 ins) := (hb4.cell (p := ⟨_, _, none⟩) (by simp only; omega)).trans b0
    have c1 : w4.cell? ⟨H, 1, none⟩ = some (.slice ha hl hc) := (hb4.cell (p := ⟨_, _, none⟩) (by simp only; omega)).trans b1
    have c3 : w4.cell? ⟨H, 3, none⟩ = some (.slice N.oa on N.oc) := (hb4.cell (p := ⟨_, _, none⟩) (by simp only; omega)).trans b3
    have HP4 := Lib.hid (hpa.below hb4 (Nat.le_refl _))
    have HX4 := Lib.hid (HX3.out.below.trans (hb4.mono (by rw [← hH]; omega)))
    have hb4s : w3.heap.size < w4.heap.size := by rw [hw4]; simp
    have Hsz : Hid (H < w4.heap.size) := Lib.hid (by omega)
    obtain ⟨b4, hb4e⟩ : ∃ b, b = w3.heap.size := ⟨_, rfl⟩
    rw [← hb4e] at p0 p1 p2 hb4s
    have d1 : decide (n < hl) = false := by simpa using hge
    have HB4 := Lib.hid hb4s
    have HB4e := Lib.hid hb4e
    have HW4 := Lib.hid hw4
    have HN := Lib.hid hn
    have HBa := Lib.hid hba
    have HHa := Lib.hid hha
    have HHl := Lib.hid hhl
    have HFF := Lib.hid hff
    have HVv := Lib.hid hvv
    have HOE := Lib.hid hoe
    have hn5 : n ≤ 500 := by omega
    clear hr hbd hlen hge hle h1 hol hn hba hbc hoa hoc hon hins hha hhc hhl hff hpa hb4 hb4s hb4e hw4 hvv hoe hx hb hok ho hi hH b2 k2
    go_wp2_with fail
    rw [← HW4.out, ← HB4e.out]
    clear b0 b1 b3
    go_loopw [45] (fun kv wr => ∃ k : Nat, k ≤ n ∧ kv = .int .i64 k ∧ Hid (Below (w4.heap.size) w4 wr)) (fun kv _ => n - (intOf kv).toNat)
    case atStart => exact ⟨0, by omega, rfl, Lib.hid (Below.refl _ _)⟩
    case round =>
      obtain ⟨k, hk, rfl, hh⟩ := hrel
      by_cases hlt : k < n
      · obtain ⟨kb, ko, hkb, hkbl, d0, d1, d2, d3⟩ := (HP4.out.below hh.out (Nat.le_refl _)).blk k (by rw [← HN.out]; exact hlt)
        have hnb : (P.bs.getD k default).ff = decide (k < hl) ∧ (k < hl → (P.bs.getD k default).init = (N.holds.getD k default).init) := HFF.out k hlt
        rw [← HBa.out] at hkb
        have hbW : Below w.heap.size w wr := HX4.out.trans (hh.out.mono (by have := HX4.out.size; omega))
        have y1 : wr.cell? ⟨H, 1, none⟩ = some (.slice ha hl hc) := (hh.out.cell (p := ⟨_, _, none⟩) (by have := Hsz.out; simp only; omega)).trans c1
        obtain ⟨L, hLe⟩ : ∃ L, L = P.bs.getD k default := ⟨_, rfl⟩
        rw [← hLe] at d0 d1 d2 d3 hnb
        obtain ⟨La, Lc, Li, Lt, ff, fi⟩ := L
        dsimp only at d0 d1 d2 d3 hnb
        obtain ⟨W6, hW6⟩ : ∃ W, W = wr.alloc (Obj.cells #[Value.slice La Li.length Lc, Value.int .i64 Lt, Value.bool ff, Value.bool fi] 43) := ⟨_, rfl⟩
        have hb6 : Below wr.heap.size wr W6 := by rw [hW6]; exact (Below.refl _ _).alloc (Nat.le_refl _) _
        have HN1 : Hid (Below w4.heap.size w4 W6) := Lib.hid (hh.out.trans (hb6.mono hh.out.size))
        have y1 := (hb6.cell (p := ⟨H, 1, none⟩) (by have := World.block_lt_of_cell? wr _ y1; simpa using this)).trans y1
        have e2 : W6.cell? ⟨wr.heap.size, 2, none⟩ = some (.bool ff) := by rw [hW6]; simp
        have e3 : W6.cell? ⟨wr.heap.size, 3, none⟩ = some (.bool fi) := by rw [hW6]; simp
        obtain ⟨b6, hb6e⟩ : ∃ b, b = wr.heap.size := ⟨_, rfl⟩
        rw [← hb6e] at e2 e3
        have HB6e := Lib.hid hb6e
        have HW6 := Lib.hid hW6
        clear hLe hW6 hb6 hh hb6e
        subst hkb
        obtain ⟨hnb1, hnb2⟩ := hnb
        by_cases hkh : k < hl
        · rw [decide_eq_true hkh] at hnb1
          subst hnb1
          have hi2 := hnb2 hkh
          obtain ⟨hb2, ho2, hha, hhl, hcc⟩ := (HNet.out.below hbW (Nat.le_refl _)).holds.at (2 * k) (by rw [← HHl.out]; omega)
          have x1 := hcc (k * 2 + 1) (by rw [← HHl.out]; omega)
          simp only [holdCell] at x1
          rw [if_neg (by omega), show (k * 2 + 1) / 2 = k by omega, ← hi2, ← Nat.add_assoc] at x1
          have x1 : W6.cell? ⟨hb2, ho2 + k * 2 + 1, none⟩ = some (.bool fi) := by rw [HW6.out]; exact cell_alloc _ x1
          rw [← HHa.out] at hha
          subst hha
          have dk : decide (k < hl) = true := by simpa using hkh
          clear hcc hnb2 hi2
          go_wp2_with fail
          rw [← HB6e.out, ← HW6.out]
          refine wp_region_held_drew (S := fun w' => w'.cell? ⟨H, 1, none⟩ = some (.slice (some ⟨hb2, ho2, none⟩) hl hc) ∧ w'.cell? ⟨b6, 2, none⟩ = some (.bool true) ∧ w'.cell? ⟨b6, 3, none⟩ = some (.bool fi)  ∧ w'.cell? ⟨hb2, ho2 + k * 2 + 1, none⟩ = some (.bool fi)) (by kernel_rfl) (⟨y1, e2, e3, x1⟩) (fun hHeld => ?_)
          refine wpAnyH_take (i := 0) (v := ?_) (by simp only [List.getElem?_toArray, List.getElem?_cons_succ, List.getElem?_cons_zero]; rfl) (by kernel_rfl) (by kernel_rfl) (by kernel_rfl) (by intro _ _ _ h; exact h) (Or.inl ⟨by rfl, ?_⟩) (by assumption) ?_
          rotate_left
          · intro w hSw; (try dsimp only at hSw); go_simp; try with_reducible rfl
          try simp only [Act.put, List.setIfInBounds_toArray, List.set_cons_zero, List.set_cons_succ]
          refine wpAnyH_take (i := 1) (v := ?_) (by simp only [List.getElem?_toArray, List.getElem?_cons_succ, List.getElem?_cons_zero]; rfl) (by kernel_rfl) (by kernel_rfl) (by kernel_rfl) (by intro _ _ _ h; exact h) (Or.inl ⟨by rfl, ?_⟩) (by assumption) ?_
          rotate_left
          · intro w hSw; (try dsimp only at hSw); go_simp; try with_reducible rfl
          try simp only [Act.put, List.setIfInBounds_toArray, List.set_cons_zero, List.set_cons_succ]
          refine wpAnyH_take (i := 2) (v := ?_) (by simp only [List.getElem?_toArray, List.getElem?_cons_succ, List.getElem?_cons_zero]; rfl) (by kernel_rfl) (by kernel_rfl) (by kernel_rfl) (by intro _ _ _ h; exact h) (Or.inl ⟨by rfl, ?_⟩) (by assumption) ?_
          rotate_left
          · intro w hSw; (try dsimp only at hSw); go_simp; try with_reducible rfl
          try simp only [Act.put, List.setIfInBounds_toArray, List.set_cons_zero, List.set_cons_succ]
          refine wpAnyH_take (i := 3) (v := ?_) (by simp only [List.getElem?_toArray, List.getElem?_cons_succ, List.getElem?_cons_zero]; rfl) (by kernel_rfl) (by kernel_rfl) (by kernel_rfl) (by intro _ _ _ h; exact h) (Or.inl ⟨by rfl, ?_⟩) (by assumption) ?_
          rotate_left
          · intro w hSw; (try dsimp only at hSw); go_simp; try with_reducible rfl
          try simp only [Act.put, List.setIfInBounds_toArray, List.set_cons_zero, List.set_cons_succ]
          refine wpAnyH_take (i := 4) (v := ?_) (by simp only [List.getElem?_toArray, List.getElem?_cons_succ, List.getElem?_cons_zero]; rfl) (by kernel_rfl) (by kernel_rfl) (by kernel_rfl) (by intro _ _ _ h; exact h) (Or.inl ⟨by rfl, ?_⟩) (by assumption) ?_
          rotate_left
          · intro w hSw; (try dsimp only at hSw); go_simp; try with_reducible rfl
          try simp only [Act.put, List.setIfInBounds_toArray, List.set_cons_zero, List.set_cons_succ]
          refine wpAnyH_take (i := 5) (v := ?_) (by simp only [List.getElem?_toArray, List.getElem?_cons_succ, List.getElem?_cons_zero]; rfl) (by kernel_rfl) (by kernel_rfl) (by kernel_rfl) (by intro _ _ _ h; exact h) (Or.inl ⟨by rfl, ?_⟩) (by assumption) ?_
          rotate_left
          · intro w hSw; (try dsimp only at hSw); go_simp; try with_reducible rfl
          try simp only [Act.put, List.setIfInBounds_toArray, List.set_cons_zero, List.set_cons_succ]
          refine wpAnyH_take (i := 6) (v := ?_) (by simp only [List.getElem?_toArray, List.getElem?_cons_succ, List.getElem?_cons_zero]; rfl) (by kernel_rfl) (by kernel_rfl) (by kernel_rfl) (by intro _ _ _ h; exact h) (Or.inl ⟨by rfl, ?_⟩) (by assumption) ?_
          rotate_left
          · intro w hSw; (try dsimp only at hSw); go_simp; try with_reducible rfl
          try simp only [Act.put, List.setIfInBounds_toArray, List.set_cons_zero, List.set_cons_succ]
          refine wpAnyH_take (i := 7) (v := ?_) (by simp only [List.getElem?_toArray, List.getElem?_cons_succ, List.getElem?_cons_zero]; rfl) (by kernel_rfl) (by kernel_rfl) (by kernel_rfl) (by intro _ _ _ h; exact h) (Or.inl ⟨by rfl, ?_⟩) (by assumption) ?_
          rotate_left
          · intro w hSw; (try dsimp only at hSw); go_simp; try with_reducible rfl
          try simp only [Act.put, List.setIfInBounds_toArray, List.set_cons_zero, List.set_cons_succ]
          refine wpAnyH_take (i := 8) (v := ?_) (by simp only [List.getElem?_toArray, List.getElem?_cons_succ, List.getElem?_cons_zero]; rfl) (by kernel_rfl) (by kernel_rfl) (by kernel_rfl) (by intro _ _ _ h; exact h) (Or.inl ⟨by rfl, ?_⟩) (by assumption) ?_
          rotate_left
          · intro w hSw; (try dsimp only at hSw); go_simp; try with_reducible rfl
          try simp only [Act.put, List.setIfInBounds_toArray, List.set_cons_zero, List.set_cons_succ]
          refine wpAnyH_take (i := 9) (v := ?_) (by simp only [List.getElem?_toArray, List.getElem?_cons_succ, List.getElem?_cons_zero]; rfl) (by kernel_rfl) (by kernel_rfl) (by kernel_rfl) (by intro _ _ _ h; exact h) (Or.inl ⟨by rfl, ?_⟩) (by assumption) ?_
          rotate_left
          · intro w hSw; (try dsimp only at hSw); go_simp; try with_reducible rfl
          try simp only [Act.put, List.setIfInBounds_toArray, List.set_cons_zero, List.set_cons_succ]
          refine wpAnyH_take (i := 10) (v := ?_) (by simp only [List.getElem?_toArray, List.getElem?_cons_succ, List.getElem?_cons_zero]; rfl) (by kernel_rfl) (by kernel_rfl) (by kernel_rfl) (by intro _ _ _ h; exact h) (Or.inl ⟨by rfl, ?_⟩) (by assumption) ?_
          rotate_left
          · intro w hSw; (try dsimp only at hSw); go_simp; try with_reducible rfl
          try simp only [Act.put, List.setIfInBounds_toArray, List.set_cons_zero, List.set_cons_succ]
          refine wpAnyH_take (i := 11) (v := ?_) (by simp only [List.getElem?_toArray, List.getElem?_cons_succ, List.getElem?_cons_zero]; rfl) (by kernel_rfl) (by kernel_rfl) (by kernel_rfl) (by intro _ _ _ h; exact h) (Or.inl ⟨by rfl, ?_⟩) (by assumption) ?_
          rotate_left
          · intro w hSw; (try dsimp only at hSw); go_simp; try with_reducible rfl
          try simp only [Act.put, List.setIfInBounds_toArray, List.set_cons_zero, List.set_cons_succ]
          refine wpAnyH_take (i := 12) (v := ?_) (by simp only [List.getElem?_toArray, List.getElem?_cons_succ, List.getElem?_cons_zero]; rfl) (by kernel_rfl) (by kernel_rfl) (by kernel_rfl) (by intro _ _ _ h; exact h) (Or.inl ⟨by rfl, ?_⟩) (by assumption) ?_
          rotate_left
          · intro w hSw; (try dsimp only at hSw); go_simp; try with_reducible rfl
          try simp only [Act.put, List.setIfInBounds_toArray, List.set_cons_zero, List.set_cons_succ]
          refine wpAnyH_take (i := 13) (v := ?_) (by simp only [List.getElem?_toArray, List.getElem?_cons_succ, List.getElem?_cons_zero]; rfl) (by kernel_rfl) (by kernel_rfl) (by kernel_rfl) (by intro _ _ _ h; exact h) (Or.inl ⟨by rfl, ?_⟩) (by assumption) ?_
          rotate_left
          · intro w hSw; (try dsimp only at hSw); go_simp; try with_reducible rfl
          try simp only [Act.put, List.setIfInBounds_toArray, List.set_cons_zero, List.set_cons_succ]
          refine wpAnyH_take (i := 14) (v := ?_) (by simp only [List.getElem?_toArray, List.getElem?_cons_succ, List.getElem?_cons_zero]; rfl) (by kernel_rfl) (by kernel_rfl) (by kernel_rfl) (by intro _ _ _ h; exact h) (Or.inl ⟨by rfl, ?_⟩) (by assumption) ?_
          rotate_left
          · intro w hSw; (try dsimp only at hSw); go_simp; try with_reducible rfl
          try simp only [Act.put, List.setIfInBounds_toArray, List.set_cons_zero, List.set_cons_succ]
          refine wpAnyH_take (i := 15) (v := ?_) (by simp only [List.getElem?_toArray, List.getElem?_cons_succ, List.getElem?_cons_zero]; rfl) (by kernel_rfl) (by kernel_rfl) (by kernel_rfl) (by intro _ _ _ h; exact h) (Or.inl ⟨by rfl, ?_⟩) (by assumption) ?_
          rotate_left
          · intro w hSw; (try dsimp only at hSw); go_simp; try with_reducible rfl
          try simp only [Act.put, List.setIfInBounds_toArray, List.set_cons_zero, List.set_cons_succ]
          refine wpAnyH_take (i := 16) (v := ?_) (by simp only [List.getElem?_toArray, List.getElem?_cons_succ, List.getElem?_cons_zero]; rfl) (by kernel_rfl) (by kernel_rfl) (by kernel_rfl) (by intro _ _ _ h; exact h) (Or.inl ⟨by rfl, ?_⟩) (by assumption) ?_
          rotate_left
          · intro w hSw; (try dsimp only at hSw); go_simp; try with_reducible rfl
          try simp only [Act.put, List.setIfInBounds_toArray, List.set_cons_zero, List.set_cons_succ]
          refine wpAnyH_take (i := 17) (v := ?_) (by simp only [List.getElem?_toArray, List.getElem?_cons_succ, List.getElem?_cons_zero]; rfl) (by kernel_rfl) (by kernel_rfl) (by kernel_rfl) (by intro _ _ _ h; exact h) (Or.inl ⟨by rfl, ?_⟩) (by assumption) ?_
          rotate_left
          · intro w hSw; (try dsimp only at hSw); go_simp; first | with_reducible rfl | rw [if_pos (by omega)]
          try simp only [Act.put, List.setIfInBounds_toArray, List.set_cons_zero, List.set_cons_succ]
          refine wpAnyH_take (i := 18) (v := ?_) (by simp only [List.getElem?_toArray, List.getElem?_cons_succ, List.getElem?_cons_zero]; rfl) (by kernel_rfl) (by kernel_rfl) (by kernel_rfl) (by intro _ _ _ h; exact h) (Or.inl ⟨by rfl, ?_⟩) (by assumption) ?_
          rotate_left
          · intro w hSw; (try dsimp only at hSw); go_simp; try with_reducible rfl
          try simp only [Act.put, List.setIfInBounds_toArray, List.set_cons_zero, List.set_cons_succ]
          refine wpAnyH_take (i := 19) (v := ?_) (by simp only [List.getElem?_toArray, List.getElem?_cons_succ, List.getElem?_cons_zero]; rfl) (by kernel_rfl) (by kernel_rfl) (by kernel_rfl) (by intro _ _ _ h; exact h) (Or.inl ⟨by rfl, ?_⟩) (by assumption) ?_
          rotate_left
          · intro w hSw; (try dsimp only at hSw); go_simp; try with_reducible rfl
          try simp only [Act.put, List.setIfInBounds_toArray, List.set_cons_zero, List.set_cons_succ]
          refine wpAnyH_take (i := 20) (v := ?_) (by simp only [List.getElem?_toArray, List.getElem?_cons_succ, List.getElem?_cons_zero]; rfl) (by kernel_rfl) (by kernel_rfl) (by kernel_rfl) (by intro _ _ _ h; exact h) (Or.inl ⟨by rfl, ?_⟩) (by assumption) ?_
          rotate_left
          · intro w hSw; (try dsimp only at hSw); go_simp; try with_reducible rfl
          try simp only [Act.put, List.setIfInBounds_toArray, List.set_cons_zero, List.set_cons_succ]
          refine wpAnyH_take (i := 21) (v := ?_) (by simp only [List.getElem?_toArray, List.getElem?_cons_succ, List.getElem?_cons_zero]; rfl) (by kernel_rfl) (by kernel_rfl) (by kernel_rfl) (by intro _ _ _ h; exact h) (Or.inl ⟨by rfl, ?_⟩) (by assumption) ?_
          rotate_left
          · intro w hSw; (try dsimp only at hSw); go_simp; try with_reducible rfl
          try simp only [Act.put, List.setIfInBounds_toArray, List.set_cons_zero, List.set_cons_succ]
          refine wpAnyH_take (i := 22) (v := ?_) (by simp only [List.getElem?_toArray, List.getElem?_cons_succ, List.getElem?_cons_zero]; rfl) (by kernel_rfl) (by kernel_rfl) (by kernel_rfl) (by intro _ _ _ h; exact h) (Or.inl ⟨by rfl, ?_⟩) (by assumption) ?_
          rotate_left
          · intro w hSw; (try dsimp only at hSw); go_simp; try with_reducible rfl
          try simp only [Act.put, List.setIfInBounds_toArray, List.set_cons_zero, List.set_cons_succ]
          refine wpAnyH_done (by kernel_rfl) ?_ _
          go_wp2
          go_roundw
          case rel => exact ⟨k + 1, by omega, by go_num, Lib.hid (HN1.out.trans (Below.refl _ _).drew)⟩
          case measure => simp [intOf]; omega
        · rw [decide_eq_false hkh] at hnb1
          subst hnb1
          have dk : decide (k < hl) = false := by simpa using hkh
          clear hnb2
          go_wp2_with fail
          rw [← HB6e.out, ← HW6.out]
          refine wp_region_held_drew (S := fun w' => w'.cell? ⟨H, 1, none⟩ = some (.slice ha hl hc) ∧ w'.cell? ⟨b6, 2, none⟩ = some (.bool false) ∧ w'.cell? ⟨b6, 3, none⟩ = some (.bool fi) ) (by kernel_rfl) (⟨y1, e2, e3⟩) (fun hHeld => ?_)
          refine wpAnyH_take (i := 0) (v := ?_) (by simp only [List.getElem?_toArray, List.getElem?_cons_succ, List.getElem?_cons_zero]; rfl) (by kernel_rfl) (by kernel_rfl) (by kernel_rfl) (by intro _ _ _ h; exact h) (Or.inl ⟨by rfl, ?_⟩) (by assumption) ?_
          rotate_left
          · intro w hSw; (try dsimp only at hSw); go_simp; try with_reducible rfl
          try simp only [Act.put, List.setIfInBounds_toArray, List.set_cons_zero, List.set_cons_succ]
          refine wpAnyH_take (i := 1) (v := ?_) (by simp only [List.getElem?_toArray, List.getElem?_cons_succ, List.getElem?_cons_zero]; rfl) (by kernel_rfl) (by kernel_rfl) (by kernel_rfl) (by intro _ _ _ h; exact h) (Or.inl ⟨by rfl, ?_⟩) (by assumption) ?_
          rotate_left
          · intro w hSw; (try dsimp only at hSw); go_simp; try with_reducible rfl
          try simp only [Act.put, List.setIfInBounds_toArray, List.set_cons_zero, List.set_cons_succ]
          refine wpAnyH_take (i := 2) (v := ?_) (by simp only [List.getElem?_toArray, List.getElem?_cons_succ, List.getElem?_cons_zero]; rfl) (by kernel_rfl) (by kernel_rfl) (by kernel_rfl) (by intro _ _ _ h; exact h) (Or.inl ⟨by rfl, ?_⟩) (by assumption) ?_
          rotate_left
          · intro w hSw; (try dsimp only at hSw); go_simp; try with_reducible rfl
          try simp only [Act.put, List.setIfInBounds_toArray, List.set_cons_zero, List.set_cons_succ]
          refine wpAnyH_take (i := 3) (v := ?_) (by simp only [List.getElem?_toArray, List.getElem?_cons_succ, List.getElem?_cons_zero]; rfl) (by kernel_rfl) (by kernel_rfl) (by kernel_rfl) (by intro _ _ _ h; exact h) (Or.inl ⟨by rfl, ?_⟩) (by assumption) ?_
          rotate_left
          · intro w hSw; (try dsimp only at hSw); go_simp; try with_reducible rfl
          try simp only [Act.put, List.setIfInBounds_toArray, List.set_cons_zero, List.set_cons_succ]
          refine wpAnyH_take (i := 4) (v := ?_) (by simp only [List.getElem?_toArray, List.getElem?_cons_succ, List.getElem?_cons_zero]; rfl) (by kernel_rfl) (by kernel_rfl) (by kernel_rfl) (by intro _ _ _ h; exact h) (Or.inl ⟨by rfl, ?_⟩) (by assumption) ?_
          rotate_left
          · intro w hSw; (try dsimp only at hSw); go_simp; try with_reducible rfl
          try simp only [Act.put, List.setIfInBounds_toArray, List.set_cons_zero, List.set_cons_succ]
          refine wpAnyH_take (i := 5) (v := ?_) (by simp only [List.getElem?_toArray, List.getElem?_cons_succ, List.getElem?_cons_zero]; rfl) (by kernel_rfl) (by kernel_rfl) (by kernel_rfl) (by intro _ _ _ h; exact h) (Or.inl ⟨by rfl, ?_⟩) (by assumption) ?_
          rotate_left
          · intro w hSw; (try dsimp only at hSw); go_simp; try with_reducible rfl
          try simp only [Act.put, List.setIfInBounds_toArray, List.set_cons_zero, List.set_cons_succ]
          refine wpAnyH_take (i := 6) (v := ?_) (by simp only [List.getElem?_toArray, List.getElem?_cons_succ, List.getElem?_cons_zero]; rfl) (by kernel_rfl) (by kernel_rfl) (by kernel_rfl) (by intro _ _ _ h; exact h) (Or.inl ⟨by rfl, ?_⟩) (by assumption) ?_
          rotate_left
          · intro w hSw; (try dsimp only at hSw); go_simp; try with_reducible rfl
          try simp only [Act.put, List.setIfInBounds_toArray, List.set_cons_zero, List.set_cons_succ]
          refine wpAnyH_take (i := 7) (v := ?_) (by simp only [List.getElem?_toArray, List.getElem?_cons_succ, List.getElem?_cons_zero]; rfl) (by kernel_rfl) (by kernel_rfl) (by kernel_rfl) (by intro _ _ _ h; exact h) (Or.inl ⟨by rfl, ?_⟩) (by assumption) ?_
          rotate_left
          · intro w hSw; (try dsimp only at hSw); go_simp; try with_reducible rfl
          try simp only [Act.put, List.setIfInBounds_toArray, List.set_cons_zero, List.set_cons_succ]
          refine wpAnyH_take (i := 8) (v := ?_) (by simp only [List.getElem?_toArray, List.getElem?_cons_succ, List.getElem?_cons_zero]; rfl) (by kernel_rfl) (by kernel_rfl) (by kernel_rfl) (by intro _ _ _ h; exact h) (Or.inl ⟨by rfl, ?_⟩) (by assumption) ?_
          rotate_left
          · intro w hSw; (try dsimp only at hSw); go_simp; try with_reducible rfl
          try simp only [Act.put, List.setIfInBounds_toArray, List.set_cons_zero, List.set_cons_succ]
          refine wpAnyH_take (i := 9) (v := ?_) (by simp only [List.getElem?_toArray, List.getElem?_cons_succ, List.getElem?_cons_zero]; rfl) (by kernel_rfl) (by kernel_rfl) (by kernel_rfl) (by intro _ _ _ h; exact h) (Or.inl ⟨by rfl, ?_⟩) (by assumption) ?_
          rotate_left
          · intro w hSw; (try dsimp only at hSw); go_simp; try with_reducible rfl
          try simp only [Act.put, List.setIfInBounds_toArray, List.set_cons_zero, List.set_cons_succ]
          refine wpAnyH_take (i := 10) (v := ?_) (by simp only [List.getElem?_toArray, List.getElem?_cons_succ, List.getElem?_cons_zero]; rfl) (by kernel_rfl) (by kernel_rfl) (by kernel_rfl) (by intro _ _ _ h; exact h) (Or.inl ⟨by rfl, ?_⟩) (by assumption) ?_
          rotate_left
          · intro w hSw; (try dsimp only at hSw); go_simp; try with_reducible rfl
          try simp only [Act.put, List.setIfInBounds_toArray, List.set_cons_zero, List.set_cons_succ]
          refine wpAnyH_take (i := 11) (v := ?_) (by simp only [List.getElem?_toArray, List.getElem?_cons_succ, List.getElem?_cons_zero]; rfl) (by kernel_rfl) (by kernel_rfl) (by kernel_rfl) (by intro _ _ _ h; exact h) (Or.inl ⟨by rfl, ?_⟩) (by assumption) ?_
          rotate_left
          · intro w hSw; (try dsimp only at hSw); go_simp; try with_reducible rfl
          try simp only [Act.put, List.setIfInBounds_toArray, List.set_cons_zero, List.set_cons_succ]
          refine wpAnyH_take (i := 12) (v := undef) (by simp only [List.getElem?_toArray, List.getElem?_cons_succ, List.getElem?_cons_zero]; rfl) (by kernel_rfl) (by kernel_rfl) (by kernel_rfl) (by intro _ _ _ h; exact h) (Or.inr ⟨by rfl, rfl⟩) (by assumption) ?_
          try simp only [Act.put, List.setIfInBounds_toArray, List.set_cons_zero, List.set_cons_succ]
          refine wpAnyH_take (i := 13) (v := undef) (by simp only [List.getElem?_toArray, List.getElem?_cons_succ, List.getElem?_cons_zero]; rfl) (by kernel_rfl) (by kernel_rfl) (by kernel_rfl) (by intro _ _ _ h; exact h) (Or.inr ⟨by rfl, rfl⟩) (by assumption) ?_
          try simp only [Act.put, List.setIfInBounds_toArray, List.set_cons_zero, List.set_cons_succ]
          refine wpAnyH_take (i := 14) (v := undef) (by simp only [List.getElem?_toArray, List.getElem?_cons_succ, List.getElem?_cons_zero]; rfl) (by kernel_rfl) (by kernel_rfl) (by kernel_rfl) (by intro _ _ _ h; exact h) (Or.inr ⟨by rfl, rfl⟩) (by assumption) ?_
          try simp only [Act.put, List.setIfInBounds_toArray, List.set_cons_zero, List.set_cons_succ]
          refine wpAnyH_take (i := 15) (v := undef) (by simp only [List.getElem?_toArray, List.getElem?_cons_succ, List.getElem?_cons_zero]; rfl) (by kernel_rfl) (by kernel_rfl) (by kernel_rfl) (by intro _ _ _ h; exact h) (Or.inr ⟨by rfl, rfl⟩) (by assumption) ?_
          try simp only [Act.put, List.setIfInBounds_toArray, List.set_cons_zero, List.set_cons_succ]
          refine wpAnyH_take (i := 16) (v := undef) (by simp only [List.getElem?_toArray, List.getElem?_cons_succ, List.getElem?_cons_zero]; rfl) (by kernel_rfl) (by kernel_rfl) (by kernel_rfl) (by intro _ _ _ h; exact h) (Or.inr ⟨by rfl, rfl⟩) (by assumption) ?_
          try simp only [Act.put, List.setIfInBounds_toArray, List.set_cons_zero, List.set_cons_succ]
          refine wpAnyH_take (i := 17) (v := undef) (by simp only [List.getElem?_toArray, List.getElem?_cons_succ, List.getElem?_cons_zero]; rfl) (by kernel_rfl) (by kernel_rfl) (by kernel_rfl) (by intro _ _ _ h; exact h) (Or.inr ⟨by rfl, rfl⟩) (by assumption) ?_
          try simp only [Act.put, List.setIfInBounds_toArray, List.set_cons_zero, List.set_cons_succ]
          refine wpAnyH_take (i := 18) (v := undef) (by simp only [List.getElem?_toArray, List.getElem?_cons_succ, List.getElem?_cons_zero]; rfl) (by kernel_rfl) (by kernel_rfl) (by kernel_rfl) (by intro _ _ _ h; exact h) (Or.inr ⟨by rfl, rfl⟩) (by assumption) ?_
          try simp only [Act.put, List.setIfInBounds_toArray, List.set_cons_zero, List.set_cons_succ]
          refine wpAnyH_take (i := 19) (v := undef) (by simp only [List.getElem?_toArray, List.getElem?_cons_succ, List.getElem?_cons_zero]; rfl) (by kernel_rfl) (by kernel_rfl) (by kernel_rfl) (by intro _ _ _ h; exact h) (Or.inr ⟨by rfl, rfl⟩) (by assumption) ?_
          try simp only [Act.put, List.setIfInBounds_toArray, List.set_cons_zero, List.set_cons_succ]
          refine wpAnyH_take (i := 20) (v := undef) (by simp only [List.getElem?_toArray, List.getElem?_cons_succ, List.getElem?_cons_zero]; rfl) (by kernel_rfl) (by kernel_rfl) (by kernel_rfl) (by intro _ _ _ h; exact h) (Or.inr ⟨by rfl, rfl⟩) (by assumption) ?_
          try simp only [Act.put, List.setIfInBounds_toArray, List.set_cons_zero, List.set_cons_succ]
          refine wpAnyH_take (i := 21) (v := ?_) (by simp only [List.getElem?_toArray, List.getElem?_cons_succ, List.getElem?_cons_zero]; rfl) (by kernel_rfl) (by kernel_rfl) (by kernel_rfl) (by intro _ _ _ h; exact h) (Or.inl ⟨by rfl, ?_⟩) (by assumption) ?_
          rotate_left
          · intro w hSw; (try dsimp only at hSw); go_simp; try with_reducible rfl
          try simp only [Act.put, List.setIfInBounds_toArray, List.set_cons_zero, List.set_cons_succ]
          refine wpAnyH_take (i := 22) (v := ?_) (by simp only [List.getElem?_toArray, List.getElem?_cons_succ, List.getElem?_cons_zero]; rfl) (by kernel_rfl) (by kernel_rfl) (by kernel_rfl) (by intro _ _ _ h; exact h) (Or.inl ⟨by rfl, ?_⟩) (by assumption) ?_
          rotate_left
          · intro w hSw; (try dsimp only at hSw); go_simp; try with_reducible rfl
          try simp only [Act.put, List.setIfInBounds_toArray, List.set_cons_zero, List.set_cons_succ]
          refine wpAnyH_done (by kernel_rfl) ?_ _
          go_wp2
          go_roundw
          case rel => exact ⟨k + 1, by omega, by go_num, Lib.hid (HN1.out.trans (Below.refl _ _).drew)⟩
          case measure => simp [intOf]; omega
      · obtain rfl : k = n := by omega
        have z0 : wr.cell? ⟨b4, 0, none⟩ = some (.int .i64 ins) := (hh.out.cell (p := ⟨_, _, none⟩) (by have := HB4.out; simp only; omega)).trans p0
        have z1 : wr.cell? ⟨b4, 1, none⟩ = some (.slice ba k bc) := (hh.out.cell (p := ⟨_, _, none⟩) (by have := HB4.out; simp only; omega)).trans p1
        have z2 : wr.cell? ⟨b4, 2, none⟩ = some (.slice oa on oc) := (hh.out.cell (p := ⟨_, _, none⟩) (by have := HB4.out; simp only; omega)).trans p2
        have C33 := check33 wr P (HP4.out.below hh.out (Nat.le_refl _)) HFp.out
        rw [HVv.out, HOE.out] at C33
        have HC33 := Lib.hid C33
        have hbW : Below w.heap.size w wr := HX4.out.trans (hh.out.mono (by have := HX4.out.size; omega))
        have HBW := Lib.hid hbW
        clear C33 hbW hh
        go_wp2_with fail
        refine Calls.mono HC33.out ?_
        rintro e w9 ⟨rfl, hb9⟩
        have HB9 := Lib.hid hb9
        clear hb9
        go_wp2_with fail
        go_ret
        exact ⟨rfl, HBW.out.trans (HB9.out.mono HBW.out.size)⟩
  · have hx := HX2.out.step hb HX2.out.size
    have HX3 := Lib.hid hx
    have hlt : w.heap.size < w3.heap.size := World.block_lt_of_cell? w3 _ hx.c0
    clear hx hb hno
    go_wp2_with fail
    go_ret
    exact ⟨rfl, HX3.out.below.trans ((Below.refl _ _).alloc (by omega) _)⟩

end Go.Proofs.Ytibimdhmfchcoaa
