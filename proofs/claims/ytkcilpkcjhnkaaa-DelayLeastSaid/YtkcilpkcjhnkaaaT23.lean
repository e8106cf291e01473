import Derived.Test.YtkcilpkcjhnkaaaT22
namespace Go.Proofs.Ytkcilpkcjhnkaaa
open Go.RowKit
set_option linter.unusedVariables false
set_option linter.unusedSimpArgs false

theorem bit_and2 (tab : Int) (h : U64 tab) (r : Nat) (hr : r < 64) : (bits .and .u64 tab (IntKind.u64.wrap ((2 : Int) ^ r)) != 0) = tab.toNat.testBit r := by
  have h6 : (2 : Nat) ^ r < 18446744073709551616 := by
    have : (2 : Nat) ^ r < 2 ^ 64 := Nat.pow_lt_pow_right (by omega) hr
    have e : (2 : Nat) ^ 64 = 18446744073709551616 := by rfl
    omega
  rw [show ((2 : Int) ^ r) = ((2 ^ r : Nat) : Int) by push_cast; rfl, ← bit_and tab h r hr]
  congr 2
  rw [IntKind.wrap_u64]
  generalize 2 ^ r = z at h6 ⊢
  omega

theorem alloc_size (w : World) (o : Obj) : (w.alloc o).heap.size = w.heap.size + 1 := by simp

/-- The values of the next step, of those ahead of table i. -/
def nextTo (N : NetV) (P : List Bool) (i : Nat) : List Bool := P.take (firstN N) ++ ((N.luts.take i).map (fun l => tabVal l P) ++ P.drop (firstN N + i))

theorem nextTo_zero (N : NetV) (P : List Bool) : nextTo N P 0 = P := by simp [nextTo]

theorem nextTo_all (N : NetV) (P : List Bool) (h : P.length = firstN N + N.luts.length) : nextTo N P N.luts.length = stepV N P := by
  simp [nextTo, stepV, ← h]

theorem nextTo_succ (N : NetV) (P : List Bool) (h : P.length = firstN N + N.luts.length) (i : Nat) (hi : i < N.luts.length) :
    ((nextTo N P i).map Value.bool).set (firstN N + i) (.bool (tabVal (N.luts.getD i default) P)) = (nextTo N P (i + 1)).map Value.bool := by
  have h1 : (P.take (firstN N)).length = firstN N := by rw [List.length_take]; omega
  have h2 : ((N.luts.take i).map fun l => tabVal l P).length = i := by rw [List.length_map, List.length_take]; omega
  have h3 : P.drop (firstN N + i) = P.getD (firstN N + i) false :: P.drop (firstN N + (i + 1)) := by
    rw [List.drop_eq_getElem_cons (by omega)]
    simp [List.getD, List.getElem?_eq_getElem (show firstN N + i < P.length by omega), Nat.add_assoc]
  have h4 : N.luts.take (i + 1) = N.luts.take i ++ [N.luts.getD i default] := by
    rw [List.take_succ_eq_append_getElem hi]; simp [List.getD, List.getElem?_eq_getElem hi]
  rw [← List.map_set]
  congr 1
  unfold nextTo
  rw [h3, h4, List.set_append_right _ _ (by omega), h1, List.set_append_right _ _ (by omega), h2]
  simp

set_option maxRecDepth 100000 in
set_option maxHeartbeats 8000000 in
theorem wait_ok (w : World) (N : NetV) (h : NetAt w N) (f : Few N) (a0 a1 a2 : Option Addr) (c0 c1 c2 : Nat) (was inn st : List Bool) (S0 : Seq w a0 was.length (bools was)) (S1 : Seq w a1 inn.length (bools inn)) (S2 : Seq w a2 st.length (bools st))
    (b0 : was.length ≤ 500) (b1 : inn.length ≤ 300) (b2 : st.length ≤ 300) (hc0 : was.length ≤ c0) (hc1 : c0 ≤ 9223372036854775807) (ok : WaitOk N was.length inn.length st.length) :
    Calls Try.prog 23 #[N.val, .slice a0 was.length c0, .slice a1 inn.length c1, .slice a2 st.length c2] w fun e w' =>
      ∃ s : Nat, Rest N (now0 N was inn st) s ∧ s ≤ N.luts.length ∧ NewWait w (iterV N (now0 N was inn st) s) s 0 e w' := by
  have HBX := Lib.hid (Box.start w N)
  have hf0 := f.ins
  have hf1 := f.holds
  have hf2 := f.luts
  have hI := h.insR
  have hi0 := ok.net.ins0
  have C := fun W (hW : Below w.heap.size w W) => check W N (h.below hW (Nat.le_refl _)) f 6 (by omega)
  rw [show chk N 6 = 0 from if_pos ok.net] at C
  have C2 := fun W => first W N h.insR hf0 hf1
  rw [← firstN_eq hi0] at C2
  have hfe := firstN_eq hi0
  have hin : ∀ i, i < N.luts.length → ∀ k ∈ (N.luts.getD i default).ins, 0 ≤ k ∧ k.toNat < firstN N + i := fun i hi k hk => by
    have := (ok.net.lut i hi).ins k hk
    omega
  have hnl := now0_length N was inn st ok
  obtain ⟨V0, hV0⟩ : ∃ V, V = now0 N was inn st := ⟨_, rfl⟩
  rw [← hV0] at hnl ⊢
  have HV0 := Lib.hid hV0
  clear hV0
  obtain ⟨F0, hF0⟩ : ∃ F0, F0 = firstN N := ⟨_, rfl⟩
  have h1 := ok.was
  have h2 := ok.inn
  have h3 := ok.st
  rw [← hF0] at C2 hfe h1 hin hnl
  obtain ⟨n0, hn0⟩ : ∃ n, n = was.length := ⟨_, rfl⟩
  obtain ⟨n1, hn1⟩ : ∃ n, n = inn.length := ⟨_, rfl⟩
  obtain ⟨n2, hn2⟩ : ∃ n, n = st.length := ⟨_, rfl⟩
  rw [← hn0] at S0 b0 hc0 h1 ⊢
  rw [← hn1] at S1 b1 h2 ⊢
  rw [← hn2] at S2 b2 h3 ⊢
  have h1b : ((n0 : Int) != (F0 : Int) + N.luts.length) = false := by rw [bne_eq_false_iff_eq]; exact h1
  have h2b : ((n1 : Int) != N.ins) = false := by rw [bne_eq_false_iff_eq]; exact h2
  have h3b : ((n2 : Int) != N.holds.length) = false := by rw [bne_eq_false_iff_eq]; omega
  have hfl : F0 ≤ 201 := by omega
  have hfl0 : 0 < F0 := by omega
  have hle : F0 ≤ n0 := by omega
  have hwr : IntKind.i64.wrap ((F0 : Int) + N.luts.length) = (F0 : Int) + N.luts.length := IntWalk.i64_in _ (by omega)
  obtain ⟨B0, O0, rfl, hB0, hC0⟩ := S0.at 0 (by omega)
  have HC0 := Lib.hid hC0
  have HS1 := Lib.hid S1
  have HS2 := Lib.hid S2
  have HN0 := Lib.hid hn0
  have HN1 := Lib.hid hn1
  have HN2 := Lib.hid hn2
  have HFE := Lib.hid hfe
  have HF0 := Lib.hid hF0
  have HIn := Lib.hid hin
  have HNl := Lib.hid hnl
  have HC2 := Lib.hid C2
  have HOk := Lib.hid ok
  have HF := Lib.hid f
  have H := Lib.hid h
  have H1 := Lib.hid h1
  have hb := Box.start w N
  have e0 := hb.c0
  have e1 := hb.c1
  have e2 := hb.c2
  have e3 := hb.c3
  have hs := hb.size
  obtain ⟨W, hW⟩ : ∃ W, W = w.alloc N.obj := ⟨_, rfl⟩
  rw [← hW] at e0 e1 e2 e3 hs HBX
  have HW := Lib.hid hW
  have HC := Lib.hid C
  clear C C2 ok h f hb hW hC0 S0 S1 S2 hn0 hn1 hn2 hfe hF0 hin hnl h1 h2 h3 hI
  obtain ⟨ins, ha, hc, holds, la, lc, luts, oa, oc, outs⟩ := N
  dsimp only at hf0 hf1 hf2 e0 e1 e2 e3 hi0 h1b h2b h3b hwr ⊢
  go_enter Try.func23, Try.ntmps23
  go_wp2_with fail
  rw [← HW.out]
  refine wp_region_held_drew (S := fun w' => w'.cell? ⟨w.heap.size, 0, none⟩ = some (.int .i64 ins) ∧ w'.cell? ⟨w.heap.size, 1, none⟩ = some (Value.slice ha holds.length hc) ∧ w'.cell? ⟨w.heap.size, 2, none⟩ = some (Value.slice la luts.length lc) ∧ w'.cell? ⟨w.heap.size, 3, none⟩ = some (Value.slice oa outs.length oc)) (by kernel_rfl) (⟨e0, e1, e2, e3⟩) (fun hHeld => ?_)
  refine wpAnyH_take (i := 0) (v := ?_) (by simp only [List.getElem?_toArray, List.getElem?_cons_succ, List.getElem?_cons_zero]; rfl) (by kernel_rfl) (by kernel_rfl) (by kernel_rfl) (by intro _ _ _ h; exact h) (Or.inl ⟨by rfl, ?_⟩) (by assumption) ?_
  rotate_left
  · intro w hSw; (try dsimp only at hSw); go_simp; try with_reducible rfl
  try simp only [Act.put, List.setIfInBounds_toArray, List.set_cons_zero, List.set_cons_succ]
  refine wpAnyH_ready (rs := [1]) (by kernel_rfl) (by simp) ?_
  refine AllReadyH.cons (o := _) (by simp only [List.getElem?_toArray, List.getElem?_cons_succ, List.getElem?_cons_zero]; rfl) (fun K hK => ?_) AllReadyH.nil
  go_simp
  go_at_call 29
  refine (HC.out _ HBX.out.below.drew).mono ?_
  rintro e w2 ⟨rfl, hb2⟩
  have hs2 := hb2.size
  simp only [drew_size] at hs2
  go_simp
  refine hK.out _ _ (by exact ⟨(hb2.cell (p := ⟨_, _, none⟩) (by simp only [drew_size]; omega)).trans e0, (hb2.cell (p := ⟨_, _, none⟩) (by simp only [drew_size]; omega)).trans e1, (hb2.cell (p := ⟨_, _, none⟩) (by simp only [drew_size]; omega)).trans e2, (hb2.cell (p := ⟨_, _, none⟩) (by simp only [drew_size]; omega)).trans e3⟩) (fun hHeld => ?_)
  clear hK K
  try simp only [Act.put, List.setIfInBounds_toArray, List.set_cons_zero, List.set_cons_succ]
  refine wpAnyH_take (i := 2) (v := ?_) (by simp only [List.getElem?_toArray, List.getElem?_cons_succ, List.getElem?_cons_zero]; rfl) (by kernel_rfl) (by kernel_rfl) (by kernel_rfl) (by intro _ _ _ h; exact h) (Or.inl ⟨by rfl, ?_⟩) (by assumption) ?_
  rotate_left
  · intro w hSw; (try dsimp only at hSw); go_simp; try with_reducible rfl
  try simp only [Act.put, List.setIfInBounds_toArray, List.set_cons_zero, List.set_cons_succ]
  refine wpAnyH_take (i := 3) (v := ?_) (by simp only [List.getElem?_toArray, List.getElem?_cons_succ, List.getElem?_cons_zero]; rfl) (by kernel_rfl) (by kernel_rfl) (by kernel_rfl) (by intro _ _ _ h; exact h) (Or.inl ⟨by rfl, ?_⟩) (by assumption) ?_
  rotate_left
  · intro w hSw; (try dsimp only at hSw); go_simp; try with_reducible rfl
  try simp only [Act.put, List.setIfInBounds_toArray, List.set_cons_zero, List.set_cons_succ]
  refine wpAnyH_take (i := 4) (v := ?_) (by simp only [List.getElem?_toArray, List.getElem?_cons_succ, List.getElem?_cons_zero]; rfl) (by kernel_rfl) (by kernel_rfl) (by kernel_rfl) (by intro _ _ _ h; exact h) (Or.inl ⟨by rfl, ?_⟩) (by assumption) ?_
  rotate_left
  · intro w hSw; (try dsimp only at hSw); go_simp; try with_reducible rfl
  try simp only [Act.put, List.setIfInBounds_toArray, List.set_cons_zero, List.set_cons_succ]
  refine wpAnyH_take (i := 5) (v := ?_) (by simp only [List.getElem?_toArray, List.getElem?_cons_succ, List.getElem?_cons_zero]; rfl) (by kernel_rfl) (by kernel_rfl) (by kernel_rfl) (by intro _ _ _ h; exact h) (Or.inl ⟨by rfl, ?_⟩) (by assumption) ?_
  rotate_left
  · intro w hSw; (try dsimp only at hSw); go_simp; try with_reducible rfl
  try simp only [Act.put, List.setIfInBounds_toArray, List.set_cons_zero, List.set_cons_succ]
  refine wpAnyH_take (i := 6) (v := ?_) (by simp only [List.getElem?_toArray, List.getElem?_cons_succ, List.getElem?_cons_zero]; rfl) (by kernel_rfl) (by kernel_rfl) (by kernel_rfl) (by intro _ _ _ h; exact h) (Or.inl ⟨by rfl, ?_⟩) (by assumption) ?_
  rotate_left
  · intro w hSw; (try dsimp only at hSw); go_simp; try with_reducible rfl
  try simp only [Act.put, List.setIfInBounds_toArray, List.set_cons_zero, List.set_cons_succ]
  refine wpAnyH_take (i := 8) (v := ?_) (by simp only [List.getElem?_toArray, List.getElem?_cons_succ, List.getElem?_cons_zero]; rfl) (by kernel_rfl) (by kernel_rfl) (by kernel_rfl) (by intro _ _ _ h; exact h) (Or.inl ⟨by rfl, ?_⟩) (by assumption) ?_
  rotate_left
  · intro w hSw; (try dsimp only at hSw); go_simp; try with_reducible rfl
  try simp only [Act.put, List.setIfInBounds_toArray, List.set_cons_zero, List.set_cons_succ]
  refine wpAnyH_take (i := 9) (v := ?_) (by simp only [List.getElem?_toArray, List.getElem?_cons_succ, List.getElem?_cons_zero]; rfl) (by kernel_rfl) (by kernel_rfl) (by kernel_rfl) (by intro _ _ _ h; exact h) (Or.inl ⟨by rfl, ?_⟩) (by assumption) ?_
  rotate_left
  · intro w hSw; (try dsimp only at hSw); go_simp; try with_reducible rfl
  try simp only [Act.put, List.setIfInBounds_toArray, List.set_cons_zero, List.set_cons_succ]
  refine wpAnyH_take (i := 10) (v := ?_) (by simp only [List.getElem?_toArray, List.getElem?_cons_succ, List.getElem?_cons_zero]; rfl) (by kernel_rfl) (by kernel_rfl) (by kernel_rfl) (by intro _ _ _ h; exact h) (Or.inl ⟨by rfl, ?_⟩) (by assumption) ?_
  rotate_left
  · intro w hSw; (try dsimp only at hSw); go_simp; try with_reducible rfl
  try simp only [Act.put, List.setIfInBounds_toArray, List.set_cons_zero, List.set_cons_succ]
  refine wpAnyH_ready (rs := [7]) (by kernel_rfl) (by simp) ?_
  refine AllReadyH.cons (o := _) (by simp only [List.getElem?_toArray, List.getElem?_cons_succ, List.getElem?_cons_zero]; rfl) (fun K hK => ?_) AllReadyH.nil
  go_simp
  go_at_call 33
  refine (HC2.out _).mono ?_
  rintro e w3 ⟨rfl, hb3⟩
  have hs3 := hb3.size
  go_simp
  refine hK.out _ _ (by exact ⟨(hb3.cell (p := ⟨_, _, none⟩) (by simp only [drew_size] at *; omega)).trans ((hb2.cell (p := ⟨_, _, none⟩) (by simp only [drew_size]; omega)).trans e0), (hb3.cell (p := ⟨_, _, none⟩) (by simp only [drew_size] at *; omega)).trans ((hb2.cell (p := ⟨_, _, none⟩) (by simp only [drew_size]; omega)).trans e1), (hb3.cell (p := ⟨_, _, none⟩) (by simp only [drew_size] at *; omega)).trans ((hb2.cell (p := ⟨_, _, none⟩) (by simp only [drew_size]; omega)).trans e2), (hb3.cell (p := ⟨_, _, none⟩) (by simp only [drew_size] at *; omega)).trans ((hb2.cell (p := ⟨_, _, none⟩) (by simp only [drew_size]; omega)).trans e3)⟩) (fun hHeld => ?_)
  clear hK K
  try simp only [Act.put, List.setIfInBounds_toArray, List.set_cons_zero, List.set_cons_succ]
  refine wpAnyH_take (i := 11) (v := ?_) (by simp only [List.getElem?_toArray, List.getElem?_cons_succ, List.getElem?_cons_zero]; rfl) (by kernel_rfl) (by kernel_rfl) (by kernel_rfl) (by intro _ _ _ h; exact h) (Or.inl ⟨by rfl, ?_⟩) (by assumption) ?_
  rotate_left
  · intro w hSw; (try dsimp only at hSw); go_simp; try with_reducible rfl
  try simp only [Act.put, List.setIfInBounds_toArray, List.set_cons_zero, List.set_cons_succ]
  refine wpAnyH_take (i := 12) (v := ?_) (by simp only [List.getElem?_toArray, List.getElem?_cons_succ, List.getElem?_cons_zero]; rfl) (by kernel_rfl) (by kernel_rfl) (by kernel_rfl) (by intro _ _ _ h; exact h) (Or.inl ⟨by rfl, ?_⟩) (by assumption) ?_
  rotate_left
  · intro w hSw; (try dsimp only at hSw); go_simp; try with_reducible rfl
  try simp only [Act.put, List.setIfInBounds_toArray, List.set_cons_zero, List.set_cons_succ]
  refine wpAnyH_take (i := 13) (v := ?_) (by simp only [List.getElem?_toArray, List.getElem?_cons_succ, List.getElem?_cons_zero]; rfl) (by kernel_rfl) (by kernel_rfl) (by kernel_rfl) (by intro _ _ _ h; exact h) (Or.inl ⟨by rfl, ?_⟩) (by assumption) ?_
  rotate_left
  · intro w hSw; (try dsimp only at hSw); go_simp; try with_reducible rfl
  try simp only [Act.put, List.setIfInBounds_toArray, List.set_cons_zero, List.set_cons_succ]
  refine wpAnyH_take (i := 14) (v := ?_) (by simp only [List.getElem?_toArray, List.getElem?_cons_succ, List.getElem?_cons_zero]; rfl) (by kernel_rfl) (by kernel_rfl) (by kernel_rfl) (by intro _ _ _ h; exact h) (Or.inl ⟨by rfl, ?_⟩) (by assumption) ?_
  rotate_left
  · intro w hSw; (try dsimp only at hSw); go_simp; try with_reducible rfl
  try simp only [Act.put, List.setIfInBounds_toArray, List.set_cons_zero, List.set_cons_succ]
  refine wpAnyH_take (i := 15) (v := ?_) (by simp only [List.getElem?_toArray, List.getElem?_cons_succ, List.getElem?_cons_zero]; rfl) (by kernel_rfl) (by kernel_rfl) (by kernel_rfl) (by intro _ _ _ h; exact h) (Or.inl ⟨by rfl, ?_⟩) (by assumption) ?_
  rotate_left
  · intro w hSw; (try dsimp only at hSw); go_simp; try with_reducible rfl
  try simp only [Act.put, List.setIfInBounds_toArray, List.set_cons_zero, List.set_cons_succ]
  refine wpAnyH_take (i := 16) (v := ?_) (by simp only [List.getElem?_toArray, List.getElem?_cons_succ, List.getElem?_cons_zero]; rfl) (by kernel_rfl) (by kernel_rfl) (by kernel_rfl) (by intro _ _ _ h; exact h) (Or.inl ⟨by rfl, ?_⟩) (by assumption) ?_
  rotate_left
  · intro w hSw; (try dsimp only at hSw); go_simp; try with_reducible rfl
  try simp only [Act.put, List.setIfInBounds_toArray, List.set_cons_zero, List.set_cons_succ]
  refine wpAnyH_take (i := 17) (v := ?_) (by simp only [List.getElem?_toArray, List.getElem?_cons_succ, List.getElem?_cons_zero]; rfl) (by kernel_rfl) (by kernel_rfl) (by kernel_rfl) (by intro _ _ _ h; exact h) (Or.inl ⟨by rfl, ?_⟩) (by assumption) ?_
  rotate_left
  · intro w hSw; (try dsimp only at hSw); go_simp; try with_reducible rfl
  try simp only [Act.put, List.setIfInBounds_toArray, List.set_cons_zero, List.set_cons_succ]
  refine wpAnyH_take (i := 18) (v := ?_) (by simp only [List.getElem?_toArray, List.getElem?_cons_succ, List.getElem?_cons_zero]; rfl) (by kernel_rfl) (by kernel_rfl) (by kernel_rfl) (by intro _ _ _ h; exact h) (Or.inl ⟨by rfl, ?_⟩) (by assumption) ?_
  rotate_left
  · intro w hSw; (try dsimp only at hSw); go_simp; try with_reducible rfl
  try simp only [Act.put, List.setIfInBounds_toArray, List.set_cons_zero, List.set_cons_succ]
  refine wpAnyH_take (i := 19) (v := ?_) (by simp only [List.getElem?_toArray, List.getElem?_cons_succ, List.getElem?_cons_zero]; rfl) (by kernel_rfl) (by kernel_rfl) (by kernel_rfl) (by intro _ _ _ h; exact h) (Or.inl ⟨by rfl, ?_⟩) (by assumption) ?_
  rotate_left
  · intro w hSw; (try dsimp only at hSw); go_simp; try with_reducible rfl
  try simp only [Act.put, List.setIfInBounds_toArray, List.set_cons_zero, List.set_cons_succ]
  refine wpAnyH_take (i := 20) (v := ?_) (by simp only [List.getElem?_toArray, List.getElem?_cons_succ, List.getElem?_cons_zero]; rfl) (by kernel_rfl) (by kernel_rfl) (by kernel_rfl) (by intro _ _ _ h; exact h) (Or.inl ⟨by rfl, ?_⟩) (by assumption) ?_
  rotate_left
  · intro w hSw; (try dsimp only at hSw); go_simp; try with_reducible rfl
  try simp only [Act.put, List.setIfInBounds_toArray, List.set_cons_zero, List.set_cons_succ]
  refine wpAnyH_take (i := 21) (v := ?_) (by simp only [List.getElem?_toArray, List.getElem?_cons_succ, List.getElem?_cons_zero]; rfl) (by kernel_rfl) (by kernel_rfl) (by kernel_rfl) (by intro _ _ _ h; exact h) (Or.inl ⟨by rfl, ?_⟩) (by assumption) ?_
  rotate_left
  · intro w hSw; (try dsimp only at hSw); go_simp; try with_reducible rfl
  try simp only [Act.put, List.setIfInBounds_toArray, List.set_cons_zero, List.set_cons_succ]
  refine wpAnyH_take (i := 22) (v := ?_) (by simp only [List.getElem?_toArray, List.getElem?_cons_succ, List.getElem?_cons_zero]; rfl) (by kernel_rfl) (by kernel_rfl) (by kernel_rfl) (by intro _ _ _ h; exact h) (Or.inl ⟨by rfl, ?_⟩) (by assumption) ?_
  rotate_left
  · intro w hSw; (try dsimp only at hSw); go_simp; try with_reducible rfl
  try simp only [Act.put, List.setIfInBounds_toArray, List.set_cons_zero, List.set_cons_succ]
  refine wpAnyH_take (i := 23) (v := ?_) (by simp only [List.getElem?_toArray, List.getElem?_cons_succ, List.getElem?_cons_zero]; rfl) (by kernel_rfl) (by kernel_rfl) (by kernel_rfl) (by intro _ _ _ h; exact h) (Or.inl ⟨by rfl, ?_⟩) (by assumption) ?_
  rotate_left
  · intro w hSw; (try dsimp only at hSw); go_simp; try with_reducible rfl
  try simp only [Act.put, List.setIfInBounds_toArray, List.set_cons_zero, List.set_cons_succ]
  refine wpAnyH_take (i := 24) (v := ?_) (by simp only [List.getElem?_toArray, List.getElem?_cons_succ, List.getElem?_cons_zero]; rfl) (by kernel_rfl) (by kernel_rfl) (by kernel_rfl) (by intro _ _ _ h; exact h) (Or.inl ⟨by rfl, ?_⟩) (by assumption) ?_
  rotate_left
  · intro w hSw; (try dsimp only at hSw); go_simp; try with_reducible rfl
  try simp only [Act.put, List.setIfInBounds_toArray, List.set_cons_zero, List.set_cons_succ]
  refine wpAnyH_take (i := 25) (v := ?_) (by simp only [List.getElem?_toArray, List.getElem?_cons_succ, List.getElem?_cons_zero]; rfl) (by kernel_rfl) (by kernel_rfl) (by kernel_rfl) (by intro _ _ _ h; exact h) (Or.inl ⟨by rfl, ?_⟩) (by assumption) ?_
  rotate_left
  · intro w hSw; (try dsimp only at hSw); go_simp; try with_reducible rfl
  try simp only [Act.put, List.setIfInBounds_toArray, List.set_cons_zero, List.set_cons_succ]
  refine wpAnyH_take (i := 26) (v := ?_) (by simp only [List.getElem?_toArray, List.getElem?_cons_succ, List.getElem?_cons_zero]; rfl) (by kernel_rfl) (by kernel_rfl) (by kernel_rfl) (by intro _ _ _ h; exact h) (Or.inl ⟨by rfl, ?_⟩) (by assumption) ?_
  rotate_left
  · intro w hSw; (try dsimp only at hSw); go_simp; try with_reducible rfl
  try simp only [Act.put, List.setIfInBounds_toArray, List.set_cons_zero, List.set_cons_succ]
  refine wpAnyH_take (i := 27) (v := ?_) (by simp only [List.getElem?_toArray, List.getElem?_cons_succ, List.getElem?_cons_zero]; rfl) (by kernel_rfl) (by kernel_rfl) (by kernel_rfl) (by intro _ _ _ h; exact h) (Or.inl ⟨by rfl, ?_⟩) (by assumption) ?_
  rotate_left
  · intro w hSw; (try dsimp only at hSw); go_simp; try with_reducible rfl
  try simp only [Act.put, List.setIfInBounds_toArray, List.set_cons_zero, List.set_cons_succ]
  refine wpAnyH_take (i := 28) (v := ?_) (by simp only [List.getElem?_toArray, List.getElem?_cons_succ, List.getElem?_cons_zero]; rfl) (by kernel_rfl) (by kernel_rfl) (by kernel_rfl) (by intro _ _ _ h; exact h) (Or.inl ⟨by rfl, ?_⟩) (by assumption) ?_
  rotate_left
  · intro w hSw; (try dsimp only at hSw); go_simp; try with_reducible rfl
  try simp only [Act.put, List.setIfInBounds_toArray, List.set_cons_zero, List.set_cons_succ]
  refine wpAnyH_done (by kernel_rfl) ?_ _
  have HBX3 := Lib.hid (HBX.out.step (C := w.heap.size + 1) (((Below.refl _ _).drew.trans (hb2.mono (by simp only [drew_size]; omega))).trans (hb3.mono (by omega))) (Nat.le_refl _))
  have d0 := HBX3.out.c0
  have d1 := HBX3.out.c1
  have d2 := HBX3.out.c2
  have d3 := HBX3.out.c3
  have hs4 : w.heap.size < w3.heap.size := by omega
  dsimp only at d0 d1 d2 d3
  clear e0 e1 e2 e3 hb2 hb3 hs2 hs3 hs
  go_wp2_with fail
  refine (HC2.out _).mono ?_
  rintro e w4 ⟨rfl, hb4⟩
  have hs4' := hb4.size
  simp only [alloc_size] at hs4'
  have q0 : w4.cell? ⟨w3.heap.size, 0, none⟩ = some (.bool false) := (hb4.cell (p := ⟨_, _, none⟩) (by simp)).trans (by simp)
  have Q0 := Lib.hid q0
  clear q0
  go_wp2_with fail
  case inl =>
    have hPP : Parts (w4.alloc (Obj.cells #[Value.slice (some ⟨w3.heap.size, 0, none⟩) 1 1, Value.slice a1 n1 c1, Value.slice a2 n2 c2, Value.slice (some ⟨B0, O0, none⟩) (n0 - F0) (0)] 39)) w4.heap.size [⟨some ⟨w3.heap.size, 0, none⟩, 1, [false]⟩, ⟨a1, c1, inn⟩, ⟨a2, c2, st⟩, ⟨some ⟨B0, O0, none⟩, 0, was.drop F0⟩] := by
      have hbW : Below w.heap.size w (w4.alloc (Obj.cells #[Value.slice (some ⟨w3.heap.size, 0, none⟩) 1 1, Value.slice a1 n1 c1, Value.slice a2 n2 c2, Value.slice (some ⟨B0, O0, none⟩) (n0 - F0) (0)] 39)) := HBX3.out.below.trans (((Below.refl _ _).alloc (by omega) _).trans ((hb4.mono (by simp only [alloc_size]; omega)).trans ((Below.refl _ _).alloc (by omega) _)))
      intro i hi
      rcases (show i = 0 ∨ i = 1 ∨ i = 2 ∨ i = 3 by simp at hi; omega) with rfl | rfl | rfl | rfl
      · refine ⟨by simp, ?_, by simp⟩
        refine .inr ⟨w3.heap.size, 0, rfl, fun j hj => ?_⟩
        obtain rfl : j = 0 := by simp at hj; omega
        refine (((Below.refl _ _).alloc (Nat.le_refl _) _ : Below w4.heap.size w4 (w4.alloc (Obj.cells #[Value.slice (some ⟨w3.heap.size, 0, none⟩) 1 1, Value.slice a1 n1 c1, Value.slice a2 n2 c2, Value.slice (some ⟨B0, O0, none⟩) (n0 - F0) (0)] 39))).cell (p := ⟨_, _, none⟩) (by simp only; omega)).trans ?_
        exact Q0.out
      · refine ⟨by simp [HN1.out], ?_, by show inn.length ≤ 1000; rw [← HN1.out]; omega⟩
        show Seq _ a1 inn.length (bools inn)
        rw [← HN1.out]
        exact HS1.out.below hbW (Nat.le_refl _)
      · refine ⟨by simp [HN2.out], ?_, by show st.length ≤ 1000; rw [← HN2.out]; omega⟩
        show Seq _ a2 st.length (bools st)
        rw [← HN2.out]
        exact HS2.out.below hbW (Nat.le_refl _)
      · refine ⟨by simp [HN0.out], ?_, by show (was.drop F0).length ≤ 1000; rw [List.length_drop, ← HN0.out]; omega⟩
        exact .inl (by show (was.drop F0).length = 0; rw [List.length_drop, ← HN0.out]; omega)
    refine (concat _ w4.heap.size 4 4 [⟨some ⟨w3.heap.size, 0, none⟩, 1, [false]⟩, ⟨a1, c1, inn⟩, ⟨a2, c2, st⟩, ⟨some ⟨B0, O0, none⟩, 0, was.drop F0⟩] rfl (by omega) hPP).mono ?_
    rintro e w5 ⟨v5, rfl, hown5, hb5⟩
    have hVl := HNl.out
    obtain ⟨M, hM⟩ : ∃ M, M = F0 + luts.length := ⟨_, rfl⟩
    have hft : flatTo [⟨some ⟨w3.heap.size, 0, none⟩, 1, [false]⟩, ⟨a1, c1, inn⟩, ⟨a2, c2, st⟩, ⟨some ⟨B0, O0, none⟩, 0, was.drop F0⟩] 4 = V0 := by
      rw [HV0.out, now0, ← HF0.out]; rfl
    rw [hft, hVl, ← hM] at hown5
    have hb5' : Below (w.heap.size + 1) w3 w5 := (((Below.refl _ _).alloc (by omega) _).trans (hb4.mono (by simp only [alloc_size]; omega))).trans (((Below.refl _ _).alloc (by omega) _).trans (hb5.mono (by simp only [alloc_size]; omega)))
    have HBX5 := Lib.hid (HBX3.out.step hb5' (Nat.le_refl _))
    have HOwn5 := Lib.hid (hown5.base_le (base' := w.heap.size + 1) (by simp only [alloc_size]; omega))
    have HVl := Lib.hid hVl
    have HM := Lib.hid hM
    have hM0 : 0 < M := by omega
    have hMl : M ≤ 401 := by omega
    have hLM : luts.length ≤ M := by omega
    have hFM : F0 + luts.length ≤ M := by omega
    clear hVl hM hft hown5 hb5 hb5' hPP hb4 hs4' d0 d1 d2 d3 hs4
    go_wp2
    go_loopw [11, 12] (fun v k wr => ∃ s : Nat, s ≤ luts.length ∧ k = .int .i64 s ∧ Hid (Box w.heap.size w ⟨ins, ha, hc, holds, la, lc, luts, oa, oc, outs⟩ wr ∧ wr.ownsRow (w.heap.size + 1) 4 1 v M ((iterV ⟨ins, ha, hc, holds, la, lc, luts, oa, oc, outs⟩ V0 s).map Value.bool) ∧ ∀ t, t < s → stepV ⟨ins, ha, hc, holds, la, lc, luts, oa, oc, outs⟩ (iterV ⟨ins, ha, hc, holds, la, lc, luts, oa, oc, outs⟩ V0 t) ≠ iterV ⟨ins, ha, hc, holds, la, lc, luts, oa, oc, outs⟩ V0 t)) (fun _ k _ => luts.length - (intOf k).toNat)
    case atStart => exact ⟨0, by omega, rfl, HBX5.out, HOwn5.out, fun t ht => by omega⟩
    case round =>
      obtain ⟨s, hs, rfl, hh⟩ := hrel
      have hPl := iterV_length (N := ⟨ins, ha, hc, holds, la, lc, luts, oa, oc, outs⟩) (now := V0) (by rw [← HF0.out]; exact HIn.out) (by rw [HVl.out, ← HF0.out]) s
      rw [← HF0.out] at hPl
      obtain ⟨P, hP⟩ : ∃ P, P = iterV ⟨ins, ha, hc, holds, la, lc, luts, oa, oc, outs⟩ V0 s := ⟨_, rfl⟩
      have hown := hh.out.2.1
      rw [← hP] at hown hPl
      have HP := Lib.hid hP
      have hPl : P.length = M := by rw [hPl, HM.out]
      have HPl := Lib.hid hPl
      obtain ⟨g0, cap0, rfl, hg0, hg0s, hMc, _, hcell⟩ := ownb_shape hown hM0
      have hSeq : Seq wr (some ⟨g0, 0, none⟩) M (bools P) := .inr ⟨g0, 0, rfl, fun i hi => by rw [Nat.zero_add]; exact hcell i hi⟩
      have HSeq := Lib.hid hSeq
      have HOwn := Lib.hid hown
      have hsw := hh.out.1.size
      have hM63 : M ≤ 100000 := by omega
      clear hP hPl hcell hSeq hown
      go_wp2_with fail
      refine (cloneBools wr g0 0 M cap0 P HPl.out hM63 HSeq.out).mono ?_
      rintro e w6 ⟨v6, rfl, hown6, hb6⟩
      obtain ⟨g1, cap1, rfl, hg1, hg1s, hMc1, _, _⟩ := ownb_shape hown6 hM0
      have HBX6 := Lib.hid (hh.out.1.step hb6 hsw)
      have HB6 := Lib.hid hb6
      have HOwn6 := Lib.hid hown6
      have x2 := HBX6.out.c2
      dsimp only at x2
      obtain ⟨W1, rfl⟩ : ∃ W1, W1 = wr := ⟨_, rfl⟩
      clear hown6 hb6
      go_wp2
      go_loopw [64] (fun k wq => ∃ i : Nat, i ≤ luts.length ∧ k = .int .i64 i ∧ Hid (Below W1.heap.size W1 wq ∧ wq.ownsRow W1.heap.size 4 1 (.slice (some ⟨g1, 0, none⟩) M cap1) M ((nextTo ⟨ins, ha, hc, holds, la, lc, luts, oa, oc, outs⟩ P i).map Value.bool))) (fun k _ => luts.length - (intOf k).toNat)
      case atStart => exact ⟨0, by omega, rfl, HB6.out, by rw [nextTo_zero]; exact HOwn6.out⟩
      case round =>
        obtain ⟨i, hi, rfl, hq⟩ := hrel
        have HBXq := Lib.hid (hh.out.1.step hq.out.1 hsw)
        by_cases hlt : i < luts.length
        · obtain ⟨b, off, rfl, hbb, t0, t1⟩ := (H.out.below HBXq.out.below (Nat.le_refl _)).lut i hlt
          obtain ⟨hU, hU1, _, _⟩ := H.out.lutAt i hlt
          have hrng := HIn.out i hlt
          have h6 := (HOk.out.net.lut i hlt).len
          obtain ⟨L, hLe⟩ : ∃ L, L = luts.getD i default := ⟨_, rfl⟩
          dsimp only at t0 t1 hU hU1 hrng h6
          rw [← hLe] at t0 t1 hU hU1 hrng h6
          have HL := Lib.hid hLe
          have HSL := Lib.hid (hU.below HBXq.out.below (Nat.le_refl _))
          have HU1 := Lib.hid hU1
          have HRng := Lib.hid hrng
          have hown := hq.out.2
          have hbq := hq.out.1
          have hqs := hbq.size
          have hg1q := (hown.lt g1 rfl).2
          have HNow := Lib.hid (HSeq.out.below hbq (Nat.le_refl _))
          obtain ⟨gg, cc, hgc, _, _, _, _, hcell⟩ := ownb_shape hown hM0
          obtain ⟨rfl, rfl⟩ : g1 = gg ∧ cap1 = cc := by simpa using hgc
          have z5 := hcell (F0 + i) (by omega)
          obtain ⟨old, hold⟩ : ∃ o, o = (nextTo ⟨ins, ha, hc, holds, some ⟨b, off, none⟩, lc, luts, oa, oc, outs⟩ P i).getD (F0 + i) false := ⟨_, rfl⟩
          rw [← hold] at z5
          have z6 := hown.frozenAt (F0 + i)
          have HOwnq := Lib.hid hown
          have HBq := Lib.hid hbq
          obtain ⟨La, Lc, Li, Lt⟩ := L
          dsimp only at t0 t1 h6
          have h6' : Li.length ≤ 6 := by omega
          obtain ⟨q, hqq⟩ : ∃ q, q = wr.heap.size := ⟨_, rfl⟩
          have hqs' : w.heap.size + 1 ≤ q := by omega
          have hg1l : g1 < q := by omega
          clear hLe hU hU1 hrng hown hbq hcell hgc hold h6
          go_wp2
          obtain ⟨W2, hW2⟩ : ∃ W2, W2 = wr.alloc (Obj.cells #[Value.slice La Li.length Lc, Value.int IntKind.u64 Lt] 48) := ⟨_, rfl⟩
          rw [← hW2, ← hqq]
          have hs2 : W2.heap.size = q + 1 := by rw [hW2, hqq]; simp
          have x4 : W2.cell? ⟨q, 1, none⟩ = some (.int .u64 Lt) := by rw [hW2, hqq]; simp
          have z4 : W2.cell? ⟨q, 0, none⟩ = some (.slice La Li.length Lc) := by rw [hW2, hqq]; simp
          have hbw2 : Below q wr W2 := by rw [hW2, hqq]; exact (Below.refl _ _).alloc (Nat.le_refl _) _
          have hbx := HBXq.out.step hbw2 hqs'
          have x0 := hbx.c0
          have x1 := hbx.c1
          have x2 := hbx.c2
          have x3 := hbx.c3
          have x5 : W2.cell? ⟨g1, F0 + i, none⟩ = some (.bool old) := (hbw2.cell (p := ⟨_, _, none⟩) (by simp only; omega)).trans z5
          have x6 : W2.frozen? ⟨g1, F0 + i, none⟩ = false := (hbw2.frozen (p := ⟨_, _, none⟩) (by simp only; omega)).trans z6
          have HSL2 := Lib.hid (HSL.out.below hbw2 (by omega))
          have HNow2 := Lib.hid (HNow.out.below hbw2 (by omega))
          have HBw2 := Lib.hid hbw2
          dsimp only at x0 x1 x2 x3
          have HQ := Lib.hid hqq
          clear hbx hbw2 z5 z6 t0 t1 hW2 HSL HNow hqq
          go_wp2
          go_loop [16, 72] (fun r k => ∃ j : Nat, j ≤ Li.length ∧ k = .int .i64 j ∧ r = .int .i64 (rowTo Li P j : Nat)) (fun _ k => Li.length - (intOf k).toNat)
          case atStart => exact ⟨0, by omega, rfl, rfl⟩
          case round =>
            obtain ⟨j, hj, rfl, rfl⟩ := hrel
            by_cases hlj : j < Li.length
            · obtain ⟨b', off', hLa, hbb', hcl⟩ := HSL2.out.at j hlj
              try dsimp only at hLa
              subst hLa
              have y0 := hcl j hlj
              unfold ints at y0
              try dsimp only at y0
              have hx := HRng.out _ (getD_mem Li 0 hlj)
              try dsimp only at hx
              obtain ⟨xn, hxn⟩ := Int.eq_ofNat_of_zero_le hx.1
              have hR : rowTo Li P (j + 1) = rowTo Li P j + (if P.getD xn false then 2 ^ j else 0) := by
                simp only [rowTo]; rw [hxn, Int.toNat_natCast]
              rw [hxn] at y0 hx
              rw [Int.toNat_natCast] at hx
              have hxlt : xn < M := by omega
              obtain ⟨_, _, hbo, _, hcc⟩ := HNow2.out.at xn hxlt
              cases hbo
              have y1 := hcc xn hxlt
              unfold bools at y1
              rw [Nat.zero_add] at y1
              have hr0 := rowTo_lt Li P j
              obtain ⟨r, hr⟩ : ∃ r, r = rowTo Li P j := ⟨_, rfl⟩
              rw [← hr] at hr0 hR ⊢
              obtain ⟨y, hy⟩ : ∃ y, y = P.getD xn false := ⟨_, rfl⟩
              rw [← hy] at y1 hR
              have HR := Lib.hid hR
              have hj6 : j = 0 ∨ j = 1 ∨ j = 2 ∨ j = 3 ∨ j = 4 ∨ j = 5 := by omega
              have hxi : (xn : Int) < M := by omega
              clear hcl hxn hcc hr hy hR hx
              cases y
              · go_wp2
                go_round
                case rel => exact ⟨j + 1, by omega, by go_num, by rw [HR.out]; simp⟩
                case measure => simp [intOf]; omega
              · have hor := or_pow r j hr0 (by omega)
                rcases hj6 with rfl | rfl | rfl | rfl | rfl | rfl
                case' inl => have hor' : bits .or .i64 (r : Int) 1 = ((r + 1 : Nat) : Int) := hor
                case' inr.inl => have hor' : bits .or .i64 (r : Int) 2 = ((r + 2 : Nat) : Int) := hor
                case' inr.inr.inl => have hor' : bits .or .i64 (r : Int) 4 = ((r + 4 : Nat) : Int) := hor
                case' inr.inr.inr.inl => have hor' : bits .or .i64 (r : Int) 8 = ((r + 8 : Nat) : Int) := hor
                case' inr.inr.inr.inr.inl => have hor' : bits .or .i64 (r : Int) 16 = ((r + 16 : Nat) : Int) := hor
                case' inr.inr.inr.inr.inr => have hor' : bits .or .i64 (r : Int) 32 = ((r + 32 : Nat) : Int) := hor
                all_goals
                  clear hor
                  try rw [Nat.add_zero] at y0
                  go_wp2
                  go_round
                  case rel => exact ⟨_, hlj, by go_num, by rw [HR.out]; first | rfl | simp⟩
                  case measure => simp [intOf]; omega
            · obtain rfl : j = Li.length := by omega
              have hr0 := rowTo_small Li P Li.length h6'
              obtain ⟨r, hr⟩ : ∃ r, r = rowTo Li P Li.length := ⟨_, rfl⟩
              rw [← hr] at hr0 ⊢
              have HRr := Lib.hid hr
              clear hr
              go_wp2_with fail
              refine wp_region_held_drew (S := fun w' => w'.cell? ⟨w.heap.size, 0, none⟩ = some (.int .i64 ins) ∧ w'.cell? ⟨w.heap.size, 1, none⟩ = some (Value.slice ha holds.length hc) ∧ w'.cell? ⟨w.heap.size, 2, none⟩ = some (Value.slice (some ⟨b, off, none⟩) luts.length lc) ∧ w'.cell? ⟨w.heap.size, 3, none⟩ = some (Value.slice oa outs.length oc) ∧ w'.cell? ⟨q, 1, none⟩ = some (.int .u64 Lt)) (by kernel_rfl) (⟨x0, x1, x2, x3, x4⟩) (fun hHeld => ?_)
              refine wpAnyH_take (i := 0) (v := ?_) (by simp only [List.getElem?_toArray, List.getElem?_cons_succ, List.getElem?_cons_zero]; rfl) (by kernel_rfl) (by kernel_rfl) (by kernel_rfl) (by intro _ _ _ h; exact h) (Or.inl ⟨by rfl, ?_⟩) (by assumption) ?_
              rotate_left
              · intro w hSw; (try dsimp only at hSw); go_simp; try with_reducible rfl
              try simp only [Act.put, List.setIfInBounds_toArray, List.set_cons_zero, List.set_cons_succ]
              refine wpAnyH_take (i := 1) (v := ?_) (by simp only [List.getElem?_toArray, List.getElem?_cons_succ, List.getElem?_cons_zero]; rfl) (by kernel_rfl) (by kernel_rfl) (by kernel_rfl) (by intro _ _ _ h; exact h) (Or.inl ⟨by rfl, ?_⟩) (by assumption) ?_
              rotate_left
              · intro w hSw; (try dsimp only at hSw); go_simp; try with_reducible rfl
              try simp only [Act.put, List.setIfInBounds_toArray, List.set_cons_zero, List.set_cons_succ]
              refine wpAnyH_take (i := 3) (v := ?_) (by simp only [List.getElem?_toArray, List.getElem?_cons_succ, List.getElem?_cons_zero]; rfl) (by kernel_rfl) (by kernel_rfl) (by kernel_rfl) (by intro _ _ _ h; exact h) (Or.inl ⟨by rfl, ?_⟩) (by assumption) ?_
              rotate_left
              · intro w hSw; (try dsimp only at hSw); go_simp; try with_reducible rfl
              try simp only [Act.put, List.setIfInBounds_toArray, List.set_cons_zero, List.set_cons_succ]
              refine wpAnyH_take (i := 5) (v := ?_) (by simp only [List.getElem?_toArray, List.getElem?_cons_succ, List.getElem?_cons_zero]; rfl) (by kernel_rfl) (by kernel_rfl) (by kernel_rfl) (by intro _ _ _ h; exact h) (Or.inl ⟨by rfl, ?_⟩) (by assumption) ?_
              rotate_left
              · intro w hSw; (try dsimp only at hSw); go_simp; try with_reducible rfl
              try simp only [Act.put, List.setIfInBounds_toArray, List.set_cons_zero, List.set_cons_succ]
              refine wpAnyH_take (i := 6) (v := ?_) (by simp only [List.getElem?_toArray, List.getElem?_cons_succ, List.getElem?_cons_zero]; rfl) (by kernel_rfl) (by kernel_rfl) (by kernel_rfl) (by intro _ _ _ h; exact h) (Or.inl ⟨by rfl, ?_⟩) (by assumption) ?_
              rotate_left
              · intro w hSw; (try dsimp only at hSw); go_simp; try with_reducible rfl
              try simp only [Act.put, List.setIfInBounds_toArray, List.set_cons_zero, List.set_cons_succ]
              refine wpAnyH_take (i := 7) (v := ?_) (by simp only [List.getElem?_toArray, List.getElem?_cons_succ, List.getElem?_cons_zero]; rfl) (by kernel_rfl) (by kernel_rfl) (by kernel_rfl) (by intro _ _ _ h; exact h) (Or.inl ⟨by rfl, ?_⟩) (by assumption) ?_
              rotate_left
              · intro w hSw; (try dsimp only at hSw); go_simp; try with_reducible rfl
              try simp only [Act.put, List.setIfInBounds_toArray, List.set_cons_zero, List.set_cons_succ]
              refine wpAnyH_take (i := 8) (v := ?_) (by simp only [List.getElem?_toArray, List.getElem?_cons_succ, List.getElem?_cons_zero]; rfl) (by kernel_rfl) (by kernel_rfl) (by kernel_rfl) (by intro _ _ _ h; exact h) (Or.inl ⟨by rfl, ?_⟩) (by assumption) ?_
              rotate_left
              · intro w hSw; (try dsimp only at hSw); go_simp; try with_reducible rfl
              try simp only [Act.put, List.setIfInBounds_toArray, List.set_cons_zero, List.set_cons_succ]
              refine wpAnyH_take (i := 9) (v := ?_) (by simp only [List.getElem?_toArray, List.getElem?_cons_succ, List.getElem?_cons_zero]; rfl) (by kernel_rfl) (by kernel_rfl) (by kernel_rfl) (by intro _ _ _ h; exact h) (Or.inl ⟨by rfl, ?_⟩) (by assumption) ?_
              rotate_left
              · intro w hSw; (try dsimp only at hSw); go_simp; try with_reducible rfl
              try simp only [Act.put, List.setIfInBounds_toArray, List.set_cons_zero, List.set_cons_succ]
              refine wpAnyH_take (i := 10) (v := ?_) (by simp only [List.getElem?_toArray, List.getElem?_cons_succ, List.getElem?_cons_zero]; rfl) (by kernel_rfl) (by kernel_rfl) (by kernel_rfl) (by intro _ _ _ h; exact h) (Or.inl ⟨by rfl, ?_⟩) (by assumption) ?_
              rotate_left
              · intro w hSw; (try dsimp only at hSw); go_simp; try with_reducible rfl
              try simp only [Act.put, List.setIfInBounds_toArray, List.set_cons_zero, List.set_cons_succ]
              refine wpAnyH_ready (rs := [2]) (by kernel_rfl) (by simp) ?_
              refine AllReadyH.cons (o := _) (by simp only [List.getElem?_toArray, List.getElem?_cons_succ, List.getElem?_cons_zero]; rfl) (fun K hK => ?_) AllReadyH.nil
              go_simp
              go_at_call 33
              refine (HC2.out _).mono ?_
              rintro e w7 ⟨rfl, hb7⟩
              have hs7 := hb7.size
              simp only [drew_size] at hs7
              go_simp
              refine hK.out _ _ (by exact ⟨(hb7.cell (p := ⟨_, _, none⟩) (by simp only [drew_size]; omega)).trans x0, (hb7.cell (p := ⟨_, _, none⟩) (by simp only [drew_size]; omega)).trans x1, (hb7.cell (p := ⟨_, _, none⟩) (by simp only [drew_size]; omega)).trans x2, (hb7.cell (p := ⟨_, _, none⟩) (by simp only [drew_size]; omega)).trans x3, (hb7.cell (p := ⟨_, _, none⟩) (by simp only [drew_size]; omega)).trans x4⟩) (fun hHeld => ?_)
              clear hK K
              try simp only [Act.put, List.setIfInBounds_toArray, List.set_cons_zero, List.set_cons_succ]
              refine wpAnyH_take (i := 4) (v := ?_) (by simp only [List.getElem?_toArray, List.getElem?_cons_succ, List.getElem?_cons_zero]; rfl) (by kernel_rfl) (by kernel_rfl) (by kernel_rfl) (by intro _ _ _ h; exact h) (Or.inl ⟨by rfl, ?_⟩) (by assumption) ?_
              rotate_left
              · intro w hSw; (try dsimp only at hSw); go_simp; try with_reducible rfl
              try simp only [Act.put, List.setIfInBounds_toArray, List.set_cons_zero, List.set_cons_succ]
              have g2 : w7.cell? ⟨g1, F0 + i, none⟩ = some (.bool old) := (hb7.cell (p := ⟨_, _, none⟩) (by simp only [drew_size]; omega)).trans x5
              have g3 : w7.frozen? ⟨g1, F0 + i, none⟩ = false := (hb7.frozen (p := ⟨_, _, none⟩) (by simp only [drew_size]; omega)).trans x6
              have hFi : IntKind.i64.wrap ((F0 : Int) + (i : Int)) = (F0 : Int) + (i : Int) := IntWalk.i64_in _ (by omega)
              have hFt : ((F0 : Int) + (i : Int)).toNat = F0 + i := by omega
              refine wpAnyH_take (i := 11) (v := ?_) (by simp only [List.getElem?_toArray, List.getElem?_cons_succ, List.getElem?_cons_zero]; rfl) (by kernel_rfl) (by kernel_rfl) (by kernel_rfl) (by intro _ _ _ h; exact h) (Or.inl ⟨by rfl, ?_⟩) (by assumption) ?_
              rotate_left
              · intro w hSw; (try dsimp only at hSw); go_simp; rw [if_pos (by omega)]
              try simp only [Act.put, List.setIfInBounds_toArray, List.set_cons_zero, List.set_cons_succ]
              refine wpAnyH_ready (rs := [12]) (by kernel_rfl) (by simp) ?_
              refine AllReadyH.cons (o := _) (by simp only [List.getElem?_toArray, List.getElem?_cons_succ, List.getElem?_cons_zero]; rfl) (fun K hK => ?_) AllReadyH.nil
              go_simp

              refine hK.out _ _ (by exact ⟨(World.cell?_setCell_far _ _ _ _ (by simp only; omega)).trans ((hb7.cell (p := ⟨_, _, none⟩) (by simp only [drew_size]; omega)).trans x0), (World.cell?_setCell_far _ _ _ _ (by simp only; omega)).trans ((hb7.cell (p := ⟨_, _, none⟩) (by simp only [drew_size]; omega)).trans x1), (World.cell?_setCell_far _ _ _ _ (by simp only; omega)).trans ((hb7.cell (p := ⟨_, _, none⟩) (by simp only [drew_size]; omega)).trans x2), (World.cell?_setCell_far _ _ _ _ (by simp only; omega)).trans ((hb7.cell (p := ⟨_, _, none⟩) (by simp only [drew_size]; omega)).trans x3), (World.cell?_setCell_far _ _ _ _ (by simp only; omega)).trans ((hb7.cell (p := ⟨_, _, none⟩) (by simp only [drew_size]; omega)).trans x4)⟩) (fun hHeld => ?_)
              clear hK K
              try simp only [Act.put, List.setIfInBounds_toArray, List.set_cons_zero, List.set_cons_succ]
              refine wpAnyH_done (by kernel_rfl) ?_ _
              go_wp2
              go_roundw
              case rel =>
                have e2 : (bits BinOp.and IntKind.u64 Lt (IntKind.u64.wrap ((2 : Int) ^ r)) != 0) = tabVal (luts.getD i default) P := by
                  rw [bit_and2 Lt HU1.out r hr0, tabVal, ← HL.out]
                  simp only [← HRr.out]
                have hb6 : Below wr.heap.size wr w7 := by
                  have h2 := HBw2.out
                  rw [HQ.out] at h2 hs2
                  exact h2.trans ((Below.refl _ _).drew.trans (hb7.mono (by simp only [drew_size]; omega)))
                have hst := own_store (own_below HOwnq.out hb6) (F0 + i) (.bool (tabVal (luts.getD i default) P))
                rw [HF0.out] at hst
                have hns := nextTo_succ ⟨ins, ha, hc, holds, some ⟨b, off, none⟩, lc, luts, oa, oc, outs⟩ P (by rw [HPl.out, HM.out, HF0.out]) i hlt
                rw [hns, ← HF0.out] at hst
                refine ⟨i + 1, by omega, by go_num, ?_⟩
                rw [e2]
                exact Lib.hid ⟨(HBq.out.trans (hb6.mono (by omega))).trans (grownBy_below hst.2 (by have := hb6.size; omega) (by omega)), hst.1⟩
              case measure => simp [intOf]; omega
        · have hiL : i = luts.length := by omega
          subst hiL
          have hql : nextTo ⟨ins, ha, hc, holds, la, lc, luts, oa, oc, outs⟩ P luts.length = stepV ⟨ins, ha, hc, holds, la, lc, luts, oa, oc, outs⟩ P := nextTo_all ⟨ins, ha, hc, holds, la, lc, luts, oa, oc, outs⟩ P (by rw [← HF0.out, HPl.out, HM.out])
          have hown := hq.out.2
          rw [hql] at hown
          obtain ⟨Nx, hNx⟩ : ∃ Nx, Nx = stepV ⟨ins, ha, hc, holds, la, lc, luts, oa, oc, outs⟩ P := ⟨_, rfl⟩
          rw [← hNx] at hown
          have HNx := Lib.hid hNx
          have hNl : Nx.length = M := by have := hown.1; simpa using this
          obtain ⟨gg, cc, hgc, hgl, hgs, _, _, hcell⟩ := ownb_shape hown hM0
          obtain ⟨rfl, rfl⟩ : g1 = gg ∧ cap1 = cc := by simpa using hgc
          have hSx : Seq wr (some ⟨g1, 0, none⟩) M (bools Nx) := .inr ⟨g1, 0, rfl, fun j hj => by rw [Nat.zero_add]; exact hcell j hj⟩
          have hqs := hq.out.1.size
          have hSn := HSeq.out.below hq.out.1 (Nat.le_refl _)
          have hE := equalBools wr _ _ M cap1 M cap0 Nx P hNl HPl.out (by omega) (by omega) hSx hSn
          have HOwnx := Lib.hid hown
          clear hNx hown hcell hgc hSx hSn hql hNl
          by_cases heq : Nx = P
          · rw [decide_eq_true heq] at hE
            have HEq := Lib.hid heq
            have HE := Lib.hid hE
            clear heq hE
            go_wp2_with fail
            refine HE.out.mono ?_
            rintro e w8 ⟨rfl, hb8⟩
            go_wp2
            go_returns
            have hown : W1.ownsRow (w.heap.size + 1) 4 1 (.slice (some ⟨g0, 0, none⟩) M cap0) M (P.map Value.bool) := by rw [HP.out]; exact hh.out.2.1
            have hb9 := hq.out.1.trans (hb8.mono hqs)
            refine ⟨s, ⟨?_, hh.out.2.2⟩, hs, ?_⟩
            · rw [← HP.out, ← HNx.out, HEq.out]
            · rw [← HP.out]
              refine ⟨_, rfl, ?_, (hh.out.1.step hb9 hsw).below⟩
              rw [HPl.out]
              exact (own_below hown hb9).base_le (by omega)
          · have hsl : s < luts.length := by
              rcases Nat.lt_or_ge s luts.length with h | h
              · exact h
              · have hr := rest_at (N := ⟨ins, ha, hc, holds, la, lc, luts, oa, oc, outs⟩) (by rw [← HF0.out]; exact HIn.out) V0 (by rw [HVl.out, ← HF0.out]) s h
                rw [← HP.out, ← HNx.out] at hr
                exact absurd hr heq
            rw [decide_eq_false heq] at hE
            have HNe := Lib.hid heq
            have HE := Lib.hid hE
            clear heq hE
            go_wp2_with fail
            refine HE.out.mono ?_
            rintro e w8 ⟨rfl, hb8⟩
            go_wp2
            go_roundw
            case rel =>
              have hb9 := hq.out.1.trans (hb8.mono hqs)
              refine ⟨s + 1, by omega, by go_num, Lib.hid ⟨hh.out.1.step hb9 hsw, ?_, fun t ht => ?_⟩⟩
              · have : iterV ⟨ins, ha, hc, holds, la, lc, luts, oa, oc, outs⟩ V0 (s + 1) = Nx := by rw [HNx.out, HP.out]; rfl
                rw [this]
                exact (own_below HOwnx.out hb8).base_le (by omega)
              · rcases Nat.lt_or_ge t s with h | h
                · exact hh.out.2.2 t h
                · obtain rfl : t = s := by omega
                  rw [← HP.out, ← HNx.out]
                  exact HNe.out
            case measure => simp [intOf]; omega
  case inr =>
    have hPP : Parts (w4.alloc (Obj.cells #[Value.slice (some ⟨w3.heap.size, 0, none⟩) 1 1, Value.slice a1 n1 c1, Value.slice a2 n2 c2, Value.slice (some ⟨B0, O0 + F0, none⟩) (n0 - F0) (c0 - F0)] 39)) w4.heap.size [⟨some ⟨w3.heap.size, 0, none⟩, 1, [false]⟩, ⟨a1, c1, inn⟩, ⟨a2, c2, st⟩, ⟨some ⟨B0, O0 + F0, none⟩, c0 - F0, was.drop F0⟩] := by
      have hbW : Below w.heap.size w (w4.alloc (Obj.cells #[Value.slice (some ⟨w3.heap.size, 0, none⟩) 1 1, Value.slice a1 n1 c1, Value.slice a2 n2 c2, Value.slice (some ⟨B0, O0 + F0, none⟩) (n0 - F0) (c0 - F0)] 39)) := HBX3.out.below.trans (((Below.refl _ _).alloc (by omega) _).trans ((hb4.mono (by simp only [alloc_size]; omega)).trans ((Below.refl _ _).alloc (by omega) _)))
      intro i hi
      rcases (show i = 0 ∨ i = 1 ∨ i = 2 ∨ i = 3 by simp at hi; omega) with rfl | rfl | rfl | rfl
      · refine ⟨by simp, ?_, by simp⟩
        refine .inr ⟨w3.heap.size, 0, rfl, fun j hj => ?_⟩
        obtain rfl : j = 0 := by simp at hj; omega
        refine (((Below.refl _ _).alloc (Nat.le_refl _) _ : Below w4.heap.size w4 (w4.alloc (Obj.cells #[Value.slice (some ⟨w3.heap.size, 0, none⟩) 1 1, Value.slice a1 n1 c1, Value.slice a2 n2 c2, Value.slice (some ⟨B0, O0 + F0, none⟩) (n0 - F0) (c0 - F0)] 39))).cell (p := ⟨_, _, none⟩) (by simp only; omega)).trans ?_
        exact Q0.out
      · refine ⟨by simp [HN1.out], ?_, by show inn.length ≤ 1000; rw [← HN1.out]; omega⟩
        show Seq _ a1 inn.length (bools inn)
        rw [← HN1.out]
        exact HS1.out.below hbW (Nat.le_refl _)
      · refine ⟨by simp [HN2.out], ?_, by show st.length ≤ 1000; rw [← HN2.out]; omega⟩
        show Seq _ a2 st.length (bools st)
        rw [← HN2.out]
        exact HS2.out.below hbW (Nat.le_refl _)
      · refine ⟨by simp [HN0.out], ?_, by show (was.drop F0).length ≤ 1000; rw [List.length_drop, ← HN0.out]; omega⟩
        refine .inr ⟨B0, O0 + F0, rfl, fun j hj => ?_⟩
        have hj : j < (was.drop F0).length := hj
        rw [List.length_drop, ← HN0.out] at hj
        refine (hbW.cell (p := ⟨_, _, none⟩) hB0).trans ?_
        rw [Nat.add_assoc]
        refine (HC0.out (F0 + j) (by omega)).trans ?_
        unfold bools
        simp [List.getD]
    refine (concat _ w4.heap.size 4 4 [⟨some ⟨w3.heap.size, 0, none⟩, 1, [false]⟩, ⟨a1, c1, inn⟩, ⟨a2, c2, st⟩, ⟨some ⟨B0, O0 + F0, none⟩, c0 - F0, was.drop F0⟩] rfl (by omega) hPP).mono ?_
    rintro e w5 ⟨v5, rfl, hown5, hb5⟩
    have hVl := HNl.out
    obtain ⟨M, hM⟩ : ∃ M, M = F0 + luts.length := ⟨_, rfl⟩
    have hft : flatTo [⟨some ⟨w3.heap.size, 0, none⟩, 1, [false]⟩, ⟨a1, c1, inn⟩, ⟨a2, c2, st⟩, ⟨some ⟨B0, O0 + F0, none⟩, c0 - F0, was.drop F0⟩] 4 = V0 := by
      rw [HV0.out, now0, ← HF0.out]; rfl
    rw [hft, hVl, ← hM] at hown5
    have hb5' : Below (w.heap.size + 1) w3 w5 := (((Below.refl _ _).alloc (by omega) _).trans (hb4.mono (by simp only [alloc_size]; omega))).trans (((Below.refl _ _).alloc (by omega) _).trans (hb5.mono (by simp only [alloc_size]; omega)))
    have HBX5 := Lib.hid (HBX3.out.step hb5' (Nat.le_refl _))
    have HOwn5 := Lib.hid (hown5.base_le (base' := w.heap.size + 1) (by simp only [alloc_size]; omega))
    have HVl := Lib.hid hVl
    have HM := Lib.hid hM
    have hM0 : 0 < M := by omega
    have hMl : M ≤ 401 := by omega
    have hLM : luts.length ≤ M := by omega
    have hFM : F0 + luts.length ≤ M := by omega
    clear hVl hM hft hown5 hb5 hb5' hPP hb4 hs4' d0 d1 d2 d3 hs4
    go_wp2
    go_loopw [11, 12] (fun v k wr => ∃ s : Nat, s ≤ luts.length ∧ k = .int .i64 s ∧ Hid (Box w.heap.size w ⟨ins, ha, hc, holds, la, lc, luts, oa, oc, outs⟩ wr ∧ wr.ownsRow (w.heap.size + 1) 4 1 v M ((iterV ⟨ins, ha, hc, holds, la, lc, luts, oa, oc, outs⟩ V0 s).map Value.bool) ∧ ∀ t, t < s → stepV ⟨ins, ha, hc, holds, la, lc, luts, oa, oc, outs⟩ (iterV ⟨ins, ha, hc, holds, la, lc, luts, oa, oc, outs⟩ V0 t) ≠ iterV ⟨ins, ha, hc, holds, la, lc, luts, oa, oc, outs⟩ V0 t)) (fun _ k _ => luts.length - (intOf k).toNat)
    case atStart => exact ⟨0, by omega, rfl, HBX5.out, HOwn5.out, fun t ht => by omega⟩
    case round =>
      obtain ⟨s, hs, rfl, hh⟩ := hrel
      have hPl := iterV_length (N := ⟨ins, ha, hc, holds, la, lc, luts, oa, oc, outs⟩) (now := V0) (by rw [← HF0.out]; exact HIn.out) (by rw [HVl.out, ← HF0.out]) s
      rw [← HF0.out] at hPl
      obtain ⟨P, hP⟩ : ∃ P, P = iterV ⟨ins, ha, hc, holds, la, lc, luts, oa, oc, outs⟩ V0 s := ⟨_, rfl⟩
      have hown := hh.out.2.1
      rw [← hP] at hown hPl
      have HP := Lib.hid hP
      have hPl : P.length = M := by rw [hPl, HM.out]
      have HPl := Lib.hid hPl
      obtain ⟨g0, cap0, rfl, hg0, hg0s, hMc, _, hcell⟩ := ownb_shape hown hM0
      have hSeq : Seq wr (some ⟨g0, 0, none⟩) M (bools P) := .inr ⟨g0, 0, rfl, fun i hi => by rw [Nat.zero_add]; exact hcell i hi⟩
      have HSeq := Lib.hid hSeq
      have HOwn := Lib.hid hown
      have hsw := hh.out.1.size
      have hM63 : M ≤ 100000 := by omega
      clear hP hPl hcell hSeq hown
      go_wp2_with fail
      refine (cloneBools wr g0 0 M cap0 P HPl.out hM63 HSeq.out).mono ?_
      rintro e w6 ⟨v6, rfl, hown6, hb6⟩
      obtain ⟨g1, cap1, rfl, hg1, hg1s, hMc1, _, _⟩ := ownb_shape hown6 hM0
      have HBX6 := Lib.hid (hh.out.1.step hb6 hsw)
      have HB6 := Lib.hid hb6
      have HOwn6 := Lib.hid hown6
      have x2 := HBX6.out.c2
      dsimp only at x2
      obtain ⟨W1, rfl⟩ : ∃ W1, W1 = wr := ⟨_, rfl⟩
      clear hown6 hb6
      go_wp2
      go_loopw [64] (fun k wq => ∃ i : Nat, i ≤ luts.length ∧ k = .int .i64 i ∧ Hid (Below W1.heap.size W1 wq ∧ wq.ownsRow W1.heap.size 4 1 (.slice (some ⟨g1, 0, none⟩) M cap1) M ((nextTo ⟨ins, ha, hc, holds, la, lc, luts, oa, oc, outs⟩ P i).map Value.bool))) (fun k _ => luts.length - (intOf k).toNat)
      case atStart => exact ⟨0, by omega, rfl, HB6.out, by rw [nextTo_zero]; exact HOwn6.out⟩
      case round =>
        obtain ⟨i, hi, rfl, hq⟩ := hrel
        have HBXq := Lib.hid (hh.out.1.step hq.out.1 hsw)
        by_cases hlt : i < luts.length
        · obtain ⟨b, off, rfl, hbb, t0, t1⟩ := (H.out.below HBXq.out.below (Nat.le_refl _)).lut i hlt
          obtain ⟨hU, hU1, _, _⟩ := H.out.lutAt i hlt
          have hrng := HIn.out i hlt
          have h6 := (HOk.out.net.lut i hlt).len
          obtain ⟨L, hLe⟩ : ∃ L, L = luts.getD i default := ⟨_, rfl⟩
          dsimp only at t0 t1 hU hU1 hrng h6
          rw [← hLe] at t0 t1 hU hU1 hrng h6
          have HL := Lib.hid hLe
          have HSL := Lib.hid (hU.below HBXq.out.below (Nat.le_refl _))
          have HU1 := Lib.hid hU1
          have HRng := Lib.hid hrng
          have hown := hq.out.2
          have hbq := hq.out.1
          have hqs := hbq.size
          have hg1q := (hown.lt g1 rfl).2
          have HNow := Lib.hid (HSeq.out.below hbq (Nat.le_refl _))
          obtain ⟨gg, cc, hgc, _, _, _, _, hcell⟩ := ownb_shape hown hM0
          obtain ⟨rfl, rfl⟩ : g1 = gg ∧ cap1 = cc := by simpa using hgc
          have z5 := hcell (F0 + i) (by omega)
          obtain ⟨old, hold⟩ : ∃ o, o = (nextTo ⟨ins, ha, hc, holds, some ⟨b, off, none⟩, lc, luts, oa, oc, outs⟩ P i).getD (F0 + i) false := ⟨_, rfl⟩
          rw [← hold] at z5
          have z6 := hown.frozenAt (F0 + i)
          have HOwnq := Lib.hid hown
          have HBq := Lib.hid hbq
          obtain ⟨La, Lc, Li, Lt⟩ := L
          dsimp only at t0 t1 h6
          have h6' : Li.length ≤ 6 := by omega
          obtain ⟨q, hqq⟩ : ∃ q, q = wr.heap.size := ⟨_, rfl⟩
          have hqs' : w.heap.size + 1 ≤ q := by omega
          have hg1l : g1 < q := by omega
          clear hLe hU hU1 hrng hown hbq hcell hgc hold h6
          go_wp2
          obtain ⟨W2, hW2⟩ : ∃ W2, W2 = wr.alloc (Obj.cells #[Value.slice La Li.length Lc, Value.int IntKind.u64 Lt] 48) := ⟨_, rfl⟩
          rw [← hW2, ← hqq]
          have hs2 : W2.heap.size = q + 1 := by rw [hW2, hqq]; simp
          have x4 : W2.cell? ⟨q, 1, none⟩ = some (.int .u64 Lt) := by rw [hW2, hqq]; simp
          have z4 : W2.cell? ⟨q, 0, none⟩ = some (.slice La Li.length Lc) := by rw [hW2, hqq]; simp
          have hbw2 : Below q wr W2 := by rw [hW2, hqq]; exact (Below.refl _ _).alloc (Nat.le_refl _) _
          have hbx := HBXq.out.step hbw2 hqs'
          have x0 := hbx.c0
          have x1 := hbx.c1
          have x2 := hbx.c2
          have x3 := hbx.c3
          have x5 : W2.cell? ⟨g1, F0 + i, none⟩ = some (.bool old) := (hbw2.cell (p := ⟨_, _, none⟩) (by simp only; omega)).trans z5
          have x6 : W2.frozen? ⟨g1, F0 + i, none⟩ = false := (hbw2.frozen (p := ⟨_, _, none⟩) (by simp only; omega)).trans z6
          have HSL2 := Lib.hid (HSL.out.below hbw2 (by omega))
          have HNow2 := Lib.hid (HNow.out.below hbw2 (by omega))
          have HBw2 := Lib.hid hbw2
          dsimp only at x0 x1 x2 x3
          have HQ := Lib.hid hqq
          clear hbx hbw2 z5 z6 t0 t1 hW2 HSL HNow hqq
          go_wp2
          go_loop [16, 72] (fun r k => ∃ j : Nat, j ≤ Li.length ∧ k = .int .i64 j ∧ r = .int .i64 (rowTo Li P j : Nat)) (fun _ k => Li.length - (intOf k).toNat)
          case atStart => exact ⟨0, by omega, rfl, rfl⟩
          case round =>
            obtain ⟨j, hj, rfl, rfl⟩ := hrel
            by_cases hlj : j < Li.length
            · obtain ⟨b', off', hLa, hbb', hcl⟩ := HSL2.out.at j hlj
              try dsimp only at hLa
              subst hLa
              have y0 := hcl j hlj
              unfold ints at y0
              try dsimp only at y0
              have hx := HRng.out _ (getD_mem Li 0 hlj)
              try dsimp only at hx
              obtain ⟨xn, hxn⟩ := Int.eq_ofNat_of_zero_le hx.1
              have hR : rowTo Li P (j + 1) = rowTo Li P j + (if P.getD xn false then 2 ^ j else 0) := by
                simp only [rowTo]; rw [hxn, Int.toNat_natCast]
              rw [hxn] at y0 hx
              rw [Int.toNat_natCast] at hx
              have hxlt : xn < M := by omega
              obtain ⟨_, _, hbo, _, hcc⟩ := HNow2.out.at xn hxlt
              cases hbo
              have y1 := hcc xn hxlt
              unfold bools at y1
              rw [Nat.zero_add] at y1
              have hr0 := rowTo_lt Li P j
              obtain ⟨r, hr⟩ : ∃ r, r = rowTo Li P j := ⟨_, rfl⟩
              rw [← hr] at hr0 hR ⊢
              obtain ⟨y, hy⟩ : ∃ y, y = P.getD xn false := ⟨_, rfl⟩
              rw [← hy] at y1 hR
              have HR := Lib.hid hR
              have hj6 : j = 0 ∨ j = 1 ∨ j = 2 ∨ j = 3 ∨ j = 4 ∨ j = 5 := by omega
              have hxi : (xn : Int) < M := by omega
              clear hcl hxn hcc hr hy hR hx
              cases y
              · go_wp2
                go_round
                case rel => exact ⟨j + 1, by omega, by go_num, by rw [HR.out]; simp⟩
                case measure => simp [intOf]; omega
              · have hor := or_pow r j hr0 (by omega)
                rcases hj6 with rfl | rfl | rfl | rfl | rfl | rfl
                case' inl => have hor' : bits .or .i64 (r : Int) 1 = ((r + 1 : Nat) : Int) := hor
                case' inr.inl => have hor' : bits .or .i64 (r : Int) 2 = ((r + 2 : Nat) : Int) := hor
                case' inr.inr.inl => have hor' : bits .or .i64 (r : Int) 4 = ((r + 4 : Nat) : Int) := hor
                case' inr.inr.inr.inl => have hor' : bits .or .i64 (r : Int) 8 = ((r + 8 : Nat) : Int) := hor
                case' inr.inr.inr.inr.inl => have hor' : bits .or .i64 (r : Int) 16 = ((r + 16 : Nat) : Int) := hor
                case' inr.inr.inr.inr.inr => have hor' : bits .or .i64 (r : Int) 32 = ((r + 32 : Nat) : Int) := hor
                all_goals
                  clear hor
                  try rw [Nat.add_zero] at y0
                  go_wp2
                  go_round
                  case rel => exact ⟨_, hlj, by go_num, by rw [HR.out]; first | rfl | simp⟩
                  case measure => simp [intOf]; omega
            · obtain rfl : j = Li.length := by omega
              have hr0 := rowTo_small Li P Li.length h6'
              obtain ⟨r, hr⟩ : ∃ r, r = rowTo Li P Li.length := ⟨_, rfl⟩
              rw [← hr] at hr0 ⊢
              have HRr := Lib.hid hr
              clear hr
              go_wp2_with fail
              refine wp_region_held_drew (S := fun w' => w'.cell? ⟨w.heap.size, 0, none⟩ = some (.int .i64 ins) ∧ w'.cell? ⟨w.heap.size, 1, none⟩ = some (Value.slice ha holds.length hc) ∧ w'.cell? ⟨w.heap.size, 2, none⟩ = some (Value.slice (some ⟨b, off, none⟩) luts.length lc) ∧ w'.cell? ⟨w.heap.size, 3, none⟩ = some (Value.slice oa outs.length oc) ∧ w'.cell? ⟨q, 1, none⟩ = some (.int .u64 Lt)) (by kernel_rfl) (⟨x0, x1, x2, x3, x4⟩) (fun hHeld => ?_)
              refine wpAnyH_take (i := 0) (v := ?_) (by simp only [List.getElem?_toArray, List.getElem?_cons_succ, List.getElem?_cons_zero]; rfl) (by kernel_rfl) (by kernel_rfl) (by kernel_rfl) (by intro _ _ _ h; exact h) (Or.inl ⟨by rfl, ?_⟩) (by assumption) ?_
              rotate_left
              · intro w hSw; (try dsimp only at hSw); go_simp; try with_reducible rfl
              try simp only [Act.put, List.setIfInBounds_toArray, List.set_cons_zero, List.set_cons_succ]
              refine wpAnyH_take (i := 1) (v := ?_) (by simp only [List.getElem?_toArray, List.getElem?_cons_succ, List.getElem?_cons_zero]; rfl) (by kernel_rfl) (by kernel_rfl) (by kernel_rfl) (by intro _ _ _ h; exact h) (Or.inl ⟨by rfl, ?_⟩) (by assumption) ?_
              rotate_left
              · intro w hSw; (try dsimp only at hSw); go_simp; try with_reducible rfl
              try simp only [Act.put, List.setIfInBounds_toArray, List.set_cons_zero, List.set_cons_succ]
              refine wpAnyH_take (i := 3) (v := ?_) (by simp only [List.getElem?_toArray, List.getElem?_cons_succ, List.getElem?_cons_zero]; rfl) (by kernel_rfl) (by kernel_rfl) (by kernel_rfl) (by intro _ _ _ h; exact h) (Or.inl ⟨by rfl, ?_⟩) (by assumption) ?_
              rotate_left
              · intro w hSw; (try dsimp only at hSw); go_simp; try with_reducible rfl
              try simp only [Act.put, List.setIfInBounds_toArray, List.set_cons_zero, List.set_cons_succ]
              refine wpAnyH_take (i := 5) (v := ?_) (by simp only [List.getElem?_toArray, List.getElem?_cons_succ, List.getElem?_cons_zero]; rfl) (by kernel_rfl) (by kernel_rfl) (by kernel_rfl) (by intro _ _ _ h; exact h) (Or.inl ⟨by rfl, ?_⟩) (by assumption) ?_
              rotate_left
              · intro w hSw; (try dsimp only at hSw); go_simp; try with_reducible rfl
              try simp only [Act.put, List.setIfInBounds_toArray, List.set_cons_zero, List.set_cons_succ]
              refine wpAnyH_take (i := 6) (v := ?_) (by simp only [List.getElem?_toArray, List.getElem?_cons_succ, List.getElem?_cons_zero]; rfl) (by kernel_rfl) (by kernel_rfl) (by kernel_rfl) (by intro _ _ _ h; exact h) (Or.inl ⟨by rfl, ?_⟩) (by assumption) ?_
              rotate_left
              · intro w hSw; (try dsimp only at hSw); go_simp; try with_reducible rfl
              try simp only [Act.put, List.setIfInBounds_toArray, List.set_cons_zero, List.set_cons_succ]
              refine wpAnyH_take (i := 7) (v := ?_) (by simp only [List.getElem?_toArray, List.getElem?_cons_succ, List.getElem?_cons_zero]; rfl) (by kernel_rfl) (by kernel_rfl) (by kernel_rfl) (by intro _ _ _ h; exact h) (Or.inl ⟨by rfl, ?_⟩) (by assumption) ?_
              rotate_left
              · intro w hSw; (try dsimp only at hSw); go_simp; try with_reducible rfl
              try simp only [Act.put, List.setIfInBounds_toArray, List.set_cons_zero, List.set_cons_succ]
              refine wpAnyH_take (i := 8) (v := ?_) (by simp only [List.getElem?_toArray, List.getElem?_cons_succ, List.getElem?_cons_zero]; rfl) (by kernel_rfl) (by kernel_rfl) (by kernel_rfl) (by intro _ _ _ h; exact h) (Or.inl ⟨by rfl, ?_⟩) (by assumption) ?_
              rotate_left
              · intro w hSw; (try dsimp only at hSw); go_simp; try with_reducible rfl
              try simp only [Act.put, List.setIfInBounds_toArray, List.set_cons_zero, List.set_cons_succ]
              refine wpAnyH_take (i := 9) (v := ?_) (by simp only [List.getElem?_toArray, List.getElem?_cons_succ, List.getElem?_cons_zero]; rfl) (by kernel_rfl) (by kernel_rfl) (by kernel_rfl) (by intro _ _ _ h; exact h) (Or.inl ⟨by rfl, ?_⟩) (by assumption) ?_
              rotate_left
              · intro w hSw; (try dsimp only at hSw); go_simp; try with_reducible rfl
              try simp only [Act.put, List.setIfInBounds_toArray, List.set_cons_zero, List.set_cons_succ]
              refine wpAnyH_take (i := 10) (v := ?_) (by simp only [List.getElem?_toArray, List.getElem?_cons_succ, List.getElem?_cons_zero]; rfl) (by kernel_rfl) (by kernel_rfl) (by kernel_rfl) (by intro _ _ _ h; exact h) (Or.inl ⟨by rfl, ?_⟩) (by assumption) ?_
              rotate_left
              · intro w hSw; (try dsimp only at hSw); go_simp; try with_reducible rfl
              try simp only [Act.put, List.setIfInBounds_toArray, List.set_cons_zero, List.set_cons_succ]
              refine wpAnyH_ready (rs := [2]) (by kernel_rfl) (by simp) ?_
              refine AllReadyH.cons (o := _) (by simp only [List.getElem?_toArray, List.getElem?_cons_succ, List.getElem?_cons_zero]; rfl) (fun K hK => ?_) AllReadyH.nil
              go_simp
              go_at_call 33
              refine (HC2.out _).mono ?_
              rintro e w7 ⟨rfl, hb7⟩
              have hs7 := hb7.size
              simp only [drew_size] at hs7
              go_simp
              refine hK.out _ _ (by exact ⟨(hb7.cell (p := ⟨_, _, none⟩) (by simp only [drew_size]; omega)).trans x0, (hb7.cell (p := ⟨_, _, none⟩) (by simp only [drew_size]; omega)).trans x1, (hb7.cell (p := ⟨_, _, none⟩) (by simp only [drew_size]; omega)).trans x2, (hb7.cell (p := ⟨_, _, none⟩) (by simp only [drew_size]; omega)).trans x3, (hb7.cell (p := ⟨_, _, none⟩) (by simp only [drew_size]; omega)).trans x4⟩) (fun hHeld => ?_)
              clear hK K
              try simp only [Act.put, List.setIfInBounds_toArray, List.set_cons_zero, List.set_cons_succ]
              refine wpAnyH_take (i := 4) (v := ?_) (by simp only [List.getElem?_toArray, List.getElem?_cons_succ, List.getElem?_cons_zero]; rfl) (by kernel_rfl) (by kernel_rfl) (by kernel_rfl) (by intro _ _ _ h; exact h) (Or.inl ⟨by rfl, ?_⟩) (by assumption) ?_
              rotate_left
              · intro w hSw; (try dsimp only at hSw); go_simp; try with_reducible rfl
              try simp only [Act.put, List.setIfInBounds_toArray, List.set_cons_zero, List.set_cons_succ]
              have g2 : w7.cell? ⟨g1, F0 + i, none⟩ = some (.bool old) := (hb7.cell (p := ⟨_, _, none⟩) (by simp only [drew_size]; omega)).trans x5
              have g3 : w7.frozen? ⟨g1, F0 + i, none⟩ = false := (hb7.frozen (p := ⟨_, _, none⟩) (by simp only [drew_size]; omega)).trans x6
              have hFi : IntKind.i64.wrap ((F0 : Int) + (i : Int)) = (F0 : Int) + (i : Int) := IntWalk.i64_in _ (by omega)
              have hFt : ((F0 : Int) + (i : Int)).toNat = F0 + i := by omega
              refine wpAnyH_take (i := 11) (v := ?_) (by simp only [List.getElem?_toArray, List.getElem?_cons_succ, List.getElem?_cons_zero]; rfl) (by kernel_rfl) (by kernel_rfl) (by kernel_rfl) (by intro _ _ _ h; exact h) (Or.inl ⟨by rfl, ?_⟩) (by assumption) ?_
              rotate_left
              · intro w hSw; (try dsimp only at hSw); go_simp; rw [if_pos (by omega)]
              try simp only [Act.put, List.setIfInBounds_toArray, List.set_cons_zero, List.set_cons_succ]
              refine wpAnyH_ready (rs := [12]) (by kernel_rfl) (by simp) ?_
              refine AllReadyH.cons (o := _) (by simp only [List.getElem?_toArray, List.getElem?_cons_succ, List.getElem?_cons_zero]; rfl) (fun K hK => ?_) AllReadyH.nil
              go_simp

              refine hK.out _ _ (by exact ⟨(World.cell?_setCell_far _ _ _ _ (by simp only; omega)).trans ((hb7.cell (p := ⟨_, _, none⟩) (by simp only [drew_size]; omega)).trans x0), (World.cell?_setCell_far _ _ _ _ (by simp only; omega)).trans ((hb7.cell (p := ⟨_, _, none⟩) (by simp only [drew_size]; omega)).trans x1), (World.cell?_setCell_far _ _ _ _ (by simp only; omega)).trans ((hb7.cell (p := ⟨_, _, none⟩) (by simp only [drew_size]; omega)).trans x2), (World.cell?_setCell_far _ _ _ _ (by simp only; omega)).trans ((hb7.cell (p := ⟨_, _, none⟩) (by simp only [drew_size]; omega)).trans x3), (World.cell?_setCell_far _ _ _ _ (by simp only; omega)).trans ((hb7.cell (p := ⟨_, _, none⟩) (by simp only [drew_size]; omega)).trans x4)⟩) (fun hHeld => ?_)
              clear hK K
              try simp only [Act.put, List.setIfInBounds_toArray, List.set_cons_zero, List.set_cons_succ]
              refine wpAnyH_done (by kernel_rfl) ?_ _
              go_wp2
              go_roundw
              case rel =>
                have e2 : (bits BinOp.and IntKind.u64 Lt (IntKind.u64.wrap ((2 : Int) ^ r)) != 0) = tabVal (luts.getD i default) P := by
                  rw [bit_and2 Lt HU1.out r hr0, tabVal, ← HL.out]
                  simp only [← HRr.out]
                have hb6 : Below wr.heap.size wr w7 := by
                  have h2 := HBw2.out
                  rw [HQ.out] at h2 hs2
                  exact h2.trans ((Below.refl _ _).drew.trans (hb7.mono (by simp only [drew_size]; omega)))
                have hst := own_store (own_below HOwnq.out hb6) (F0 + i) (.bool (tabVal (luts.getD i default) P))
                rw [HF0.out] at hst
                have hns := nextTo_succ ⟨ins, ha, hc, holds, some ⟨b, off, none⟩, lc, luts, oa, oc, outs⟩ P (by rw [HPl.out, HM.out, HF0.out]) i hlt
                rw [hns, ← HF0.out] at hst
                refine ⟨i + 1, by omega, by go_num, ?_⟩
                rw [e2]
                exact Lib.hid ⟨(HBq.out.trans (hb6.mono (by omega))).trans (grownBy_below hst.2 (by have := hb6.size; omega) (by omega)), hst.1⟩
              case measure => simp [intOf]; omega
        · have hiL : i = luts.length := by omega
          subst hiL
          have hql : nextTo ⟨ins, ha, hc, holds, la, lc, luts, oa, oc, outs⟩ P luts.length = stepV ⟨ins, ha, hc, holds, la, lc, luts, oa, oc, outs⟩ P := nextTo_all ⟨ins, ha, hc, holds, la, lc, luts, oa, oc, outs⟩ P (by rw [← HF0.out, HPl.out, HM.out])
          have hown := hq.out.2
          rw [hql] at hown
          obtain ⟨Nx, hNx⟩ : ∃ Nx, Nx = stepV ⟨ins, ha, hc, holds, la, lc, luts, oa, oc, outs⟩ P := ⟨_, rfl⟩
          rw [← hNx] at hown
          have HNx := Lib.hid hNx
          have hNl : Nx.length = M := by have := hown.1; simpa using this
          obtain ⟨gg, cc, hgc, hgl, hgs, _, _, hcell⟩ := ownb_shape hown hM0
          obtain ⟨rfl, rfl⟩ : g1 = gg ∧ cap1 = cc := by simpa using hgc
          have hSx : Seq wr (some ⟨g1, 0, none⟩) M (bools Nx) := .inr ⟨g1, 0, rfl, fun j hj => by rw [Nat.zero_add]; exact hcell j hj⟩
          have hqs := hq.out.1.size
          have hSn := HSeq.out.below hq.out.1 (Nat.le_refl _)
          have hE := equalBools wr _ _ M cap1 M cap0 Nx P hNl HPl.out (by omega) (by omega) hSx hSn
          have HOwnx := Lib.hid hown
          clear hNx hown hcell hgc hSx hSn hql hNl
          by_cases heq : Nx = P
          · rw [decide_eq_true heq] at hE
            have HEq := Lib.hid heq
            have HE := Lib.hid hE
            clear heq hE
            go_wp2_with fail
            refine HE.out.mono ?_
            rintro e w8 ⟨rfl, hb8⟩
            go_wp2
            go_returns
            have hown : W1.ownsRow (w.heap.size + 1) 4 1 (.slice (some ⟨g0, 0, none⟩) M cap0) M (P.map Value.bool) := by rw [HP.out]; exact hh.out.2.1
            have hb9 := hq.out.1.trans (hb8.mono hqs)
            refine ⟨s, ⟨?_, hh.out.2.2⟩, hs, ?_⟩
            · rw [← HP.out, ← HNx.out, HEq.out]
            · rw [← HP.out]
              refine ⟨_, rfl, ?_, (hh.out.1.step hb9 hsw).below⟩
              rw [HPl.out]
              exact (own_below hown hb9).base_le (by omega)
          · have hsl : s < luts.length := by
              rcases Nat.lt_or_ge s luts.length with h | h
              · exact h
              · have hr := rest_at (N := ⟨ins, ha, hc, holds, la, lc, luts, oa, oc, outs⟩) (by rw [← HF0.out]; exact HIn.out) V0 (by rw [HVl.out, ← HF0.out]) s h
                rw [← HP.out, ← HNx.out] at hr
                exact absurd hr heq
            rw [decide_eq_false heq] at hE
            have HNe := Lib.hid heq
            have HE := Lib.hid hE
            clear heq hE
            go_wp2_with fail
            refine HE.out.mono ?_
            rintro e w8 ⟨rfl, hb8⟩
            go_wp2
            go_roundw
            case rel =>
              have hb9 := hq.out.1.trans (hb8.mono hqs)
              refine ⟨s + 1, by omega, by go_num, Lib.hid ⟨hh.out.1.step hb9 hsw, ?_, fun t ht => ?_⟩⟩
              · have : iterV ⟨ins, ha, hc, holds, la, lc, luts, oa, oc, outs⟩ V0 (s + 1) = Nx := by rw [HNx.out, HP.out]; rfl
                rw [this]
                exact (own_below HOwnx.out hb8).base_le (by omega)
              · rcases Nat.lt_or_ge t s with h | h
                · exact hh.out.2.2 t h
                · obtain rfl : t = s := by omega
                  rw [← HP.out, ← HNx.out]
                  exact HNe.out
            case measure => simp [intOf]; omega

end Go.Proofs.Ytkcilpkcjhnkaaa
