import Derived.Test.YtkcilpkcjhnkaaaT23
namespace Go.Proofs.Ytkcilpkcjhnkaaa
open Go.RowKit
set_option linter.unusedVariables false
set_option linter.unusedSimpArgs false

/-- Whether anything has changed, with one table more. -/
theorem chg_succ (N : NetV) (P : List Bool) (h : P.length = firstN N + N.luts.length) (i : Nat) (hi : i < N.luts.length) :
    decide (nextTo N P (i + 1) ≠ P) = (decide (nextTo N P i ≠ P) || (tabVal (N.luts.getD i default) P != P.getD (firstN N + i) false)) := by
  have key : ∀ j, nextTo N P j = P ↔ (N.luts.take j).map (fun l => tabVal l P) = (P.drop (firstN N)).take j := fun j => by
    have e : P = P.take (firstN N) ++ ((P.drop (firstN N)).take j ++ P.drop (firstN N + j)) := by
      rw [← List.drop_drop, List.take_append_drop, List.take_append_drop]
    constructor
    · intro k
      have k2 := k.trans e
      unfold nextTo at k2
      exact List.append_cancel_right (List.append_cancel_left k2)
    · intro k
      unfold nextTo
      rw [k]
      exact e.symm
  have h4 : N.luts.take (i + 1) = N.luts.take i ++ [N.luts.getD i default] := by
    rw [List.take_succ_eq_append_getElem hi]; simp [List.getD, List.getElem?_eq_getElem hi]
  have h5 : (P.drop (firstN N)).take (i + 1) = (P.drop (firstN N)).take i ++ [P.getD (firstN N + i) false] := by
    have hd : i < (P.drop (firstN N)).length := by rw [List.length_drop]; omega
    rw [List.take_succ_eq_append_getElem hd]
    simp [List.getD, List.getElem?_eq_getElem (show firstN N + i < P.length by omega)]
  have h6 : nextTo N P (i + 1) = P ↔ nextTo N P i = P ∧ tabVal (N.luts.getD i default) P = P.getD (firstN N + i) false := by
    rw [key, key, h4, h5, List.map_append]
    constructor
    · intro k
      have := List.append_inj k (by rw [List.length_map, List.length_take, List.length_take, List.length_drop]; omega)
      exact ⟨this.1, by simpa using this.2⟩
    · rintro ⟨a, b⟩
      rw [a, ← b]; rfl
  by_cases ha : nextTo N P i = P
  · by_cases hb : tabVal (N.luts.getD i default) P = P.getD (firstN N + i) false
    · have h7 := h6.2 ⟨ha, hb⟩
      rw [show decide (nextTo N P (i + 1) ≠ P) = false from decide_eq_false (fun k => k h7), show decide (nextTo N P i ≠ P) = false from decide_eq_false (fun k => k ha), hb]; simp
    · rw [show decide (nextTo N P (i + 1) ≠ P) = true from decide_eq_true (fun e => hb (h6.1 e).2), show decide (nextTo N P i ≠ P) = false from decide_eq_false (fun k => k ha)]
      cases h1 : tabVal (N.luts.getD i default) P <;> cases h2 : P.getD (firstN N + i) false <;> first | rfl | exact absurd (h1.trans h2.symm) hb
  · rw [show decide (nextTo N P (i + 1) ≠ P) = true from decide_eq_true (fun e => ha (h6.1 e).1), show decide (nextTo N P i ≠ P) = true from decide_eq_true ha]; rfl

set_option maxRecDepth 100000 in
set_option maxHeartbeats 8000000 in
theorem waitR_ok (w : World) (N : NetV) (h : NetAt w N) (f : Few N) (a0 a1 a2 : Option Addr) (c0 c1 c2 : Nat) (was inn st : List Bool) (S0 : Seq w a0 was.length (bools was)) (S1 : Seq w a1 inn.length (bools inn)) (S2 : Seq w a2 st.length (bools st))
    (b0 : was.length ≤ 500) (b1 : inn.length ≤ 300) (b2 : st.length ≤ 300) (hc0 : was.length ≤ c0) (hc1 : c0 ≤ 9223372036854775807) (ok : WaitOk N was.length inn.length st.length) :
    Calls Try.prog 24 #[N.val, .slice a0 was.length c0, .slice a1 inn.length c1, .slice a2 st.length c2] w fun e w' =>
      ∃ s : Nat, Rest N (now0 N was inn st) s ∧ s ≤ N.luts.length ∧ NewWait w (iterV N (now0 N was inn st) s) s 0 e w' := by
  have HBX := Lib.hid (Box.start w N)
  have hf0 := f.ins
  have hf1 := f.holds
  have hf2 := f.luts
  have hI := h.insR
  have hi0 := ok.net.ins0
  have C := fun W (hW : Below w.heap.size w W) => check25 W N (h.below hW (Nat.le_refl _)) f 6 (by omega)
  rw [show chk N 6 = 0 from if_pos ok.net] at C
  have C2 := fun W => firstR W N h.insR hf0 hf1
  rw [← firstN_eq hi0] at C2
  have hfe := firstN_eq hi0
  have hin : ∀ i, i < N.luts.length → ∀ k ∈ (N.luts.getD i default).ins, 0 ≤ k ∧ k.toNat < firstN N + i := fun i hi k hk => by
    have := (ok.net.lut i hi).ins k hk
    omega
  have hnl := now0_length N was inn st ok
  obtain ⟨V0, hV0⟩ : ∃ V, V = now0 N was inn st := ⟨_, rfl⟩
  rw [← hV0] at hnl ⊢
  have HV0 := Lib.hid hV0
  clear hV0
  obtain ⟨F0, hF0⟩ : ∃ F0, F0 = firstN N := ⟨_, rfl⟩
  have h1 := ok.was
  have h2 := ok.inn
  have h3 := ok.st
  rw [← hF0] at C2 hfe h1 hin hnl
  obtain ⟨n0, hn0⟩ : ∃ n, n = was.length := ⟨_, rfl⟩
  obtain ⟨n1, hn1⟩ : ∃ n, n = inn.length := ⟨_, rfl⟩
  obtain ⟨n2, hn2⟩ : ∃ n, n = st.length := ⟨_, rfl⟩
  rw [← hn0] at S0 b0 hc0 h1 ⊢
  rw [← hn1] at S1 b1 h2 ⊢
  rw [← hn2] at S2 b2 h3 ⊢
  have h1b : ((n0 : Int) != (F0 : Int) + N.luts.length) = false := by rw [bne_eq_false_iff_eq]; exact h1
  have h2b : ((n1 : Int) != N.ins) = false := by rw [bne_eq_false_iff_eq]; exact h2
  have h3b : ((n2 : Int) != N.holds.length) = false := by rw [bne_eq_false_iff_eq]; omega
  have hfl : F0 ≤ 201 := by omega
  have hfl0 : 0 < F0 := by omega
  have hle : F0 ≤ n0 := by omega
  have hwr : IntKind.i64.wrap ((F0 : Int) + N.luts.length) = (F0 : Int) + N.luts.length := IntWalk.i64_in _ (by omega)
  obtain ⟨B0, O0, rfl, hB0, hC0⟩ := S0.at 0 (by omega)
  have HC0 := Lib.hid hC0
  have HS1 := Lib.hid S1
  have HS2 := Lib.hid S2
  have HN0 := Lib.hid hn0
  have HN1 := Lib.hid hn1
  have HN2 := Lib.hid hn2
  have HFE := Lib.hid hfe
  have HF0 := Lib.hid hF0
  have HIn := Lib.hid hin
  have HNl := Lib.hid hnl
  have HC2 := Lib.hid C2
  have HOk := Lib.hid ok
  have HF := Lib.hid f
  have H := Lib.hid h
  have H1 := Lib.hid h1
  have hb := Box.start w N
  have e0 := hb.c0
  have e1 := hb.c1
  have e2 := hb.c2
  have e3 := hb.c3
  have hs := hb.size
  obtain ⟨W, hW⟩ : ∃ W, W = w.alloc N.obj := ⟨_, rfl⟩
  rw [← hW] at e0 e1 e2 e3 hs HBX
  have HW := Lib.hid hW
  have HC := Lib.hid C
  clear C C2 ok h f hb hW hC0 S0 S1 S2 hn0 hn1 hn2 hfe hF0 hin hnl h1 h2 h3 hI
  obtain ⟨ins, ha, hc, holds, la, lc, luts, oa, oc, outs⟩ := N
  dsimp only at hf0 hf1 hf2 e0 e1 e2 e3 hi0 h1b h2b h3b hwr ⊢
  go_enter Try.func24, Try.ntmps24
  go_wp2_with fail
  rw [← HW.out]
  refine wp_region_held_drew (S := fun w' => w'.cell? ⟨w.heap.size, 0, none⟩ = some (.int .i64 ins) ∧ w'.cell? ⟨w.heap.size, 1, none⟩ = some (Value.slice ha holds.length hc) ∧ w'.cell? ⟨w.heap.size, 2, none⟩ = some (Value.slice la luts.length lc) ∧ w'.cell? ⟨w.heap.size, 3, none⟩ = some (Value.slice oa outs.length oc)) (by kernel_rfl) (⟨e0, e1, e2, e3⟩) (fun hHeld => ?_)
  refine wpAnyH_take (i := 0) (v := ?_) (by simp only [List.getElem?_toArray, List.getElem?_cons_succ, List.getElem?_cons_zero]; rfl) (by kernel_rfl) (by kernel_rfl) (by kernel_rfl) (by intro _ _ _ h; exact h) (Or.inl ⟨by rfl, ?_⟩) (by assumption) ?_
  rotate_left
  · intro w hSw; (try dsimp only at hSw); go_simp; try with_reducible rfl
  try simp only [Act.put, List.setIfInBounds_toArray, List.set_cons_zero, List.set_cons_succ]
  refine wpAnyH_ready (rs := [1]) (by kernel_rfl) (by simp) ?_
  refine AllReadyH.cons (o := _) (by simp only [List.getElem?_toArray, List.getElem?_cons_succ, List.getElem?_cons_zero]; rfl) (fun K hK => ?_) AllReadyH.nil
  go_simp
  go_at_call 46
  refine (HC.out _ HBX.out.below.drew).mono ?_
  rintro e w2 ⟨rfl, hb2⟩
  have hs2 := hb2.size
  simp only [drew_size] at hs2
  go_simp
  refine hK.out _ _ (by exact ⟨(hb2.cell (p := ⟨_, _, none⟩) (by simp only [drew_size]; omega)).trans e0, (hb2.cell (p := ⟨_, _, none⟩) (by simp only [drew_size]; omega)).trans e1, (hb2.cell (p := ⟨_, _, none⟩) (by simp only [drew_size]; omega)).trans e2, (hb2.cell (p := ⟨_, _, none⟩) (by simp only [drew_size]; omega)).trans e3⟩) (fun hHeld => ?_)
  clear hK K
  try simp only [Act.put, List.setIfInBounds_toArray, List.set_cons_zero, List.set_cons_succ]
  refine wpAnyH_take (i := 2) (v := ?_) (by simp only [List.getElem?_toArray, List.getElem?_cons_succ, List.getElem?_cons_zero]; rfl) (by kernel_rfl) (by kernel_rfl) (by kernel_rfl) (by intro _ _ _ h; exact h) (Or.inl ⟨by rfl, ?_⟩) (by assumption) ?_
  rotate_left
  · intro w hSw; (try dsimp only at hSw); go_simp; try with_reducible rfl
  try simp only [Act.put, List.setIfInBounds_toArray, List.set_cons_zero, List.set_cons_succ]
  refine wpAnyH_take (i := 3) (v := ?_) (by simp only [List.getElem?_toArray, List.getElem?_cons_succ, List.getElem?_cons_zero]; rfl) (by kernel_rfl) (by kernel_rfl) (by kernel_rfl) (by intro _ _ _ h; exact h) (Or.inl ⟨by rfl, ?_⟩) (by assumption) ?_
  rotate_left
  · intro w hSw; (try dsimp only at hSw); go_simp; try with_reducible rfl
  try simp only [Act.put, List.setIfInBounds_toArray, List.set_cons_zero, List.set_cons_succ]
  refine wpAnyH_take (i := 4) (v := ?_) (by simp only [List.getElem?_toArray, List.getElem?_cons_succ, List.getElem?_cons_zero]; rfl) (by kernel_rfl) (by kernel_rfl) (by kernel_rfl) (by intro _ _ _ h; exact h) (Or.inl ⟨by rfl, ?_⟩) (by assumption) ?_
  rotate_left
  · intro w hSw; (try dsimp only at hSw); go_simp; try with_reducible rfl
  try simp only [Act.put, List.setIfInBounds_toArray, List.set_cons_zero, List.set_cons_succ]
  refine wpAnyH_take (i := 5) (v := ?_) (by simp only [List.getElem?_toArray, List.getElem?_cons_succ, List.getElem?_cons_zero]; rfl) (by kernel_rfl) (by kernel_rfl) (by kernel_rfl) (by intro _ _ _ h; exact h) (Or.inl ⟨by rfl, ?_⟩) (by assumption) ?_
  rotate_left
  · intro w hSw; (try dsimp only at hSw); go_simp; try with_reducible rfl
  try simp only [Act.put, List.setIfInBounds_toArray, List.set_cons_zero, List.set_cons_succ]
  refine wpAnyH_take (i := 6) (v := ?_) (by simp only [List.getElem?_toArray, List.getElem?_cons_succ, List.getElem?_cons_zero]; rfl) (by kernel_rfl) (by kernel_rfl) (by kernel_rfl) (by intro _ _ _ h; exact h) (Or.inl ⟨by rfl, ?_⟩) (by assumption) ?_
  rotate_left
  · intro w hSw; (try dsimp only at hSw); go_simp; try with_reducible rfl
  try simp only [Act.put, List.setIfInBounds_toArray, List.set_cons_zero, List.set_cons_succ]
  refine wpAnyH_take (i := 8) (v := ?_) (by simp only [List.getElem?_toArray, List.getElem?_cons_succ, List.getElem?_cons_zero]; rfl) (by kernel_rfl) (by kernel_rfl) (by kernel_rfl) (by intro _ _ _ h; exact h) (Or.inl ⟨by rfl, ?_⟩) (by assumption) ?_
  rotate_left
  · intro w hSw; (try dsimp only at hSw); go_simp; try with_reducible rfl
  try simp only [Act.put, List.setIfInBounds_toArray, List.set_cons_zero, List.set_cons_succ]
  refine wpAnyH_take (i := 9) (v := ?_) (by simp only [List.getElem?_toArray, List.getElem?_cons_succ, List.getElem?_cons_zero]; rfl) (by kernel_rfl) (by kernel_rfl) (by kernel_rfl) (by intro _ _ _ h; exact h) (Or.inl ⟨by rfl, ?_⟩) (by assumption) ?_
  rotate_left
  · intro w hSw; (try dsimp only at hSw); go_simp; try with_reducible rfl
  try simp only [Act.put, List.setIfInBounds_toArray, List.set_cons_zero, List.set_cons_succ]
  refine wpAnyH_take (i := 10) (v := ?_) (by simp only [List.getElem?_toArray, List.getElem?_cons_succ, List.getElem?_cons_zero]; rfl) (by kernel_rfl) (by kernel_rfl) (by kernel_rfl) (by intro _ _ _ h; exact h) (Or.inl ⟨by rfl, ?_⟩) (by assumption) ?_
  rotate_left
  · intro w hSw; (try dsimp only at hSw); go_simp; try with_reducible rfl
  try simp only [Act.put, List.setIfInBounds_toArray, List.set_cons_zero, List.set_cons_succ]
  refine wpAnyH_ready (rs := [7]) (by kernel_rfl) (by simp) ?_
  refine AllReadyH.cons (o := _) (by simp only [List.getElem?_toArray, List.getElem?_cons_succ, List.getElem?_cons_zero]; rfl) (fun K hK => ?_) AllReadyH.nil
  go_simp
  go_at_call 35
  refine (HC2.out _).mono ?_
  rintro e w3 ⟨rfl, hb3⟩
  have hs3 := hb3.size
  go_simp
  refine hK.out _ _ (by exact ⟨(hb3.cell (p := ⟨_, _, none⟩) (by simp only [drew_size] at *; omega)).trans ((hb2.cell (p := ⟨_, _, none⟩) (by simp only [drew_size]; omega)).trans e0), (hb3.cell (p := ⟨_, _, none⟩) (by simp only [drew_size] at *; omega)).trans ((hb2.cell (p := ⟨_, _, none⟩) (by simp only [drew_size]; omega)).trans e1), (hb3.cell (p := ⟨_, _, none⟩) (by simp only [drew_size] at *; omega)).trans ((hb2.cell (p := ⟨_, _, none⟩) (by simp only [drew_size]; omega)).trans e2), (hb3.cell (p := ⟨_, _, none⟩) (by simp only [drew_size] at *; omega)).trans ((hb2.cell (p := ⟨_, _, none⟩) (by simp only [drew_size]; omega)).trans e3)⟩) (fun hHeld => ?_)
  clear hK K
  try simp only [Act.put, List.setIfInBounds_toArray, List.set_cons_zero, List.set_cons_succ]
  refine wpAnyH_take (i := 11) (v := ?_) (by simp only [List.getElem?_toArray, List.getElem?_cons_succ, List.getElem?_cons_zero]; rfl) (by kernel_rfl) (by kernel_rfl) (by kernel_rfl) (by intro _ _ _ h; exact h) (Or.inl ⟨by rfl, ?_⟩) (by assumption) ?_
  rotate_left
  · intro w hSw; (try dsimp only at hSw); go_simp; try with_reducible rfl
  try simp only [Act.put, List.setIfInBounds_toArray, List.set_cons_zero, List.set_cons_succ]
  refine wpAnyH_take (i := 12) (v := ?_) (by simp only [List.getElem?_toArray, List.getElem?_cons_succ, List.getElem?_cons_zero]; rfl) (by kernel_rfl) (by kernel_rfl) (by kernel_rfl) (by intro _ _ _ h; exact h) (Or.inl ⟨by rfl, ?_⟩) (by assumption) ?_
  rotate_left
  · intro w hSw; (try dsimp only at hSw); go_simp; try with_reducible rfl
  try simp only [Act.put, List.setIfInBounds_toArray, List.set_cons_zero, List.set_cons_succ]
  refine wpAnyH_take (i := 13) (v := ?_) (by simp only [List.getElem?_toArray, List.getElem?_cons_succ, List.getElem?_cons_zero]; rfl) (by kernel_rfl) (by kernel_rfl) (by kernel_rfl) (by intro _ _ _ h; exact h) (Or.inl ⟨by rfl, ?_⟩) (by assumption) ?_
  rotate_left
  · intro w hSw; (try dsimp only at hSw); go_simp; try with_reducible rfl
  try simp only [Act.put, List.setIfInBounds_toArray, List.set_cons_zero, List.set_cons_succ]
  refine wpAnyH_take (i := 14) (v := ?_) (by simp only [List.getElem?_toArray, List.getElem?_cons_succ, List.getElem?_cons_zero]; rfl) (by kernel_rfl) (by kernel_rfl) (by kernel_rfl) (by intro _ _ _ h; exact h) (Or.inl ⟨by rfl, ?_⟩) (by assumption) ?_
  rotate_left
  · intro w hSw; (try dsimp only at hSw); go_simp; try with_reducible rfl
  try simp only [Act.put, List.setIfInBounds_toArray, List.set_cons_zero, List.set_cons_succ]
  refine wpAnyH_take (i := 15) (v := ?_) (by simp only [List.getElem?_toArray, List.getElem?_cons_succ, List.getElem?_cons_zero]; rfl) (by kernel_rfl) (by kernel_rfl) (by kernel_rfl) (by intro _ _ _ h; exact h) (Or.inl ⟨by rfl, ?_⟩) (by assumption) ?_
  rotate_left
  · intro w hSw; (try dsimp only at hSw); go_simp; try with_reducible rfl
  try simp only [Act.put, List.setIfInBounds_toArray, List.set_cons_zero, List.set_cons_succ]
  refine wpAnyH_take (i := 16) (v := ?_) (by simp only [List.getElem?_toArray, List.getElem?_cons_succ, List.getElem?_cons_zero]; rfl) (by kernel_rfl) (by kernel_rfl) (by kernel_rfl) (by intro _ _ _ h; exact h) (Or.inl ⟨by rfl, ?_⟩) (by assumption) ?_
  rotate_left
  · intro w hSw; (try dsimp only at hSw); go_simp; try with_reducible rfl
  try simp only [Act.put, List.setIfInBounds_toArray, List.set_cons_zero, List.set_cons_succ]
  refine wpAnyH_take (i := 17) (v := ?_) (by simp only [List.getElem?_toArray, List.getElem?_cons_succ, List.getElem?_cons_zero]; rfl) (by kernel_rfl) (by kernel_rfl) (by kernel_rfl) (by intro _ _ _ h; exact h) (Or.inl ⟨by rfl, ?_⟩) (by assumption) ?_
  rotate_left
  · intro w hSw; (try dsimp only at hSw); go_simp; try with_reducible rfl
  try simp only [Act.put, List.setIfInBounds_toArray, List.set_cons_zero, List.set_cons_succ]
  refine wpAnyH_take (i := 18) (v := ?_) (by simp only [List.getElem?_toArray, List.getElem?_cons_succ, List.getElem?_cons_zero]; rfl) (by kernel_rfl) (by kernel_rfl) (by kernel_rfl) (by intro _ _ _ h; exact h) (Or.inl ⟨by rfl, ?_⟩) (by assumption) ?_
  rotate_left
  · intro w hSw; (try dsimp only at hSw); go_simp; try with_reducible rfl
  try simp only [Act.put, List.setIfInBounds_toArray, List.set_cons_zero, List.set_cons_succ]
  refine wpAnyH_take (i := 19) (v := ?_) (by simp only [List.getElem?_toArray, List.getElem?_cons_succ, List.getElem?_cons_zero]; rfl) (by kernel_rfl) (by kernel_rfl) (by kernel_rfl) (by intro _ _ _ h; exact h) (Or.inl ⟨by rfl, ?_⟩) (by assumption) ?_
  rotate_left
  · intro w hSw; (try dsimp only at hSw); go_simp; try with_reducible rfl
  try simp only [Act.put, List.setIfInBounds_toArray, List.set_cons_zero, List.set_cons_succ]
  refine wpAnyH_take (i := 20) (v := ?_) (by simp only [List.getElem?_toArray, List.getElem?_cons_succ, List.getElem?_cons_zero]; rfl) (by kernel_rfl) (by kernel_rfl) (by kernel_rfl) (by intro _ _ _ h; exact h) (Or.inl ⟨by rfl, ?_⟩) (by assumption) ?_
  rotate_left
  · intro w hSw; (try dsimp only at hSw); go_simp; try with_reducible rfl
  try simp only [Act.put, List.setIfInBounds_toArray, List.set_cons_zero, List.set_cons_succ]
  refine wpAnyH_take (i := 21) (v := ?_) (by simp only [List.getElem?_toArray, List.getElem?_cons_succ, List.getElem?_cons_zero]; rfl) (by kernel_rfl) (by kernel_rfl) (by kernel_rfl) (by intro _ _ _ h; exact h) (Or.inl ⟨by rfl, ?_⟩) (by assumption) ?_
  rotate_left
  · intro w hSw; (try dsimp only at hSw); go_simp; try with_reducible rfl
  try simp only [Act.put, List.setIfInBounds_toArray, List.set_cons_zero, List.set_cons_succ]
  refine wpAnyH_take (i := 22) (v := ?_) (by simp only [List.getElem?_toArray, List.getElem?_cons_succ, List.getElem?_cons_zero]; rfl) (by kernel_rfl) (by kernel_rfl) (by kernel_rfl) (by intro _ _ _ h; exact h) (Or.inl ⟨by rfl, ?_⟩) (by assumption) ?_
  rotate_left
  · intro w hSw; (try dsimp only at hSw); go_simp; try with_reducible rfl
  try simp only [Act.put, List.setIfInBounds_toArray, List.set_cons_zero, List.set_cons_succ]
  refine wpAnyH_take (i := 23) (v := ?_) (by simp only [List.getElem?_toArray, List.getElem?_cons_succ, List.getElem?_cons_zero]; rfl) (by kernel_rfl) (by kernel_rfl) (by kernel_rfl) (by intro _ _ _ h; exact h) (Or.inl ⟨by rfl, ?_⟩) (by assumption) ?_
  rotate_left
  · intro w hSw; (try dsimp only at hSw); go_simp; try with_reducible rfl
  try simp only [Act.put, List.setIfInBounds_toArray, List.set_cons_zero, List.set_cons_succ]
  refine wpAnyH_take (i := 24) (v := ?_) (by simp only [List.getElem?_toArray, List.getElem?_cons_succ, List.getElem?_cons_zero]; rfl) (by kernel_rfl) (by kernel_rfl) (by kernel_rfl) (by intro _ _ _ h; exact h) (Or.inl ⟨by rfl, ?_⟩) (by assumption) ?_
  rotate_left
  · intro w hSw; (try dsimp only at hSw); go_simp; try with_reducible rfl
  try simp only [Act.put, List.setIfInBounds_toArray, List.set_cons_zero, List.set_cons_succ]
  refine wpAnyH_take (i := 25) (v := ?_) (by simp only [List.getElem?_toArray, List.getElem?_cons_succ, List.getElem?_cons_zero]; rfl) (by kernel_rfl) (by kernel_rfl) (by kernel_rfl) (by intro _ _ _ h; exact h) (Or.inl ⟨by rfl, ?_⟩) (by assumption) ?_
  rotate_left
  · intro w hSw; (try dsimp only at hSw); go_simp; try with_reducible rfl
  try simp only [Act.put, List.setIfInBounds_toArray, List.set_cons_zero, List.set_cons_succ]
  refine wpAnyH_take (i := 26) (v := ?_) (by simp only [List.getElem?_toArray, List.getElem?_cons_succ, List.getElem?_cons_zero]; rfl) (by kernel_rfl) (by kernel_rfl) (by kernel_rfl) (by intro _ _ _ h; exact h) (Or.inl ⟨by rfl, ?_⟩) (by assumption) ?_
  rotate_left
  · intro w hSw; (try dsimp only at hSw); go_simp; try with_reducible rfl
  try simp only [Act.put, List.setIfInBounds_toArray, List.set_cons_zero, List.set_cons_succ]
  refine wpAnyH_take (i := 27) (v := ?_) (by simp only [List.getElem?_toArray, List.getElem?_cons_succ, List.getElem?_cons_zero]; rfl) (by kernel_rfl) (by kernel_rfl) (by kernel_rfl) (by intro _ _ _ h; exact h) (Or.inl ⟨by rfl, ?_⟩) (by assumption) ?_
  rotate_left
  · intro w hSw; (try dsimp only at hSw); go_simp; try with_reducible rfl
  try simp only [Act.put, List.setIfInBounds_toArray, List.set_cons_zero, List.set_cons_succ]
  refine wpAnyH_take (i := 28) (v := ?_) (by simp only [List.getElem?_toArray, List.getElem?_cons_succ, List.getElem?_cons_zero]; rfl) (by kernel_rfl) (by kernel_rfl) (by kernel_rfl) (by intro _ _ _ h; exact h) (Or.inl ⟨by rfl, ?_⟩) (by assumption) ?_
  rotate_left
  · intro w hSw; (try dsimp only at hSw); go_simp; try with_reducible rfl
  try simp only [Act.put, List.setIfInBounds_toArray, List.set_cons_zero, List.set_cons_succ]
  refine wpAnyH_done (by kernel_rfl) ?_ _
  have HBX3 := Lib.hid (HBX.out.step (C := w.heap.size + 1) (((Below.refl _ _).drew.trans (hb2.mono (by simp only [drew_size]; omega))).trans (hb3.mono (by omega))) (Nat.le_refl _))
  have d0 := HBX3.out.c0
  have d1 := HBX3.out.c1
  have d2 := HBX3.out.c2
  have d3 := HBX3.out.c3
  have hs4 : w.heap.size < w3.heap.size := by omega
  dsimp only at d0 d1 d2 d3
  clear e0 e1 e2 e3 hb2 hb3 hs2 hs3 hs
  obtain ⟨i0, hi, hz0, hz1, hz2⟩ := info_parts info4
  have hb34 : Below (w.heap.size + 1) w3 (w3.alloc (Obj.cells #[Value.bool false] 4)) := (Below.refl _ _).alloc (by omega) _
  have hs34 : (w3.alloc (Obj.cells #[Value.bool false] 4)).heap.size = w3.heap.size + 1 := by simp
  go_wp2_with (at_builtin; refine wpList_append_seq rfl _ _ 39 rfl (w.heap.size + 1) 4 i0 (.bool false) 1 Try.underlying39 hi hz0 hz1 hz2 rfl (.slice (some ⟨w3.heap.size, 0, none⟩) 1 1) 1 [Value.bool false] rfl (World.ownsRow_lit w3 #[Value.bool false] 1 (by omega) (by unfold maxLen; omega) rfl) a1 n1 c1 (inn.map Value.bool) (bools inn) rfl (by rw [List.length_map, ← HN1.out]) (HS1.out.below (HBX3.out.below.trans (hb34.mono (by omega))) (Nat.le_refl _)) (fun j hj => bools_get inn j (by rw [← HN1.out]; exact hj)) (bools_one inn) (by unfold maxLen; omega) (by omega) (by omega) ?_)
  intro v4 w4 hown4 hgrow4
  have hb4 : Below (w.heap.size + 1) w3 w4 := hb34.trans ((Below.refl _ _).grown hgrow4 (by omega) (fun k e => by cases e; show w.heap.size + 1 ≤ w3.heap.size; omega))
  have hs44 := hb4.size
  clear hs34
  go_wp2_with (at_builtin; refine wpList_append_seq rfl _ _ 39 rfl (w.heap.size + 1) 4 i0 (.bool false) 1 Try.underlying39 hi hz0 hz1 hz2 rfl v4 (1 + n1) ([Value.bool false] ++ inn.map Value.bool) rfl hown4 a2 n2 c2 (st.map Value.bool) (bools st) rfl (by rw [List.length_map, ← HN2.out]) (HS2.out.below (HBX3.out.below.trans (hb4.mono (by omega))) (Nat.le_refl _)) (fun j hj => bools_get st j (by rw [← HN2.out]; exact hj)) (bools_one st) (by unfold maxLen; omega) (by omega) (by omega) ?_)
  intro v5 w5 hown5 hgrow5
  have hb5 : Below (w.heap.size + 1) w3 w5 := hb4.trans ((Below.refl _ _).grown hgrow5 (by omega) (fun k e => (hown4.lt k e).1))
  have hs55 := hb5.size
  clear hgrow5 hgrow4 hown4 hb4 hb34
  have HBX5 := Lib.hid (HBX3.out.step hb5 (Nat.le_refl _))
  have d0 := HBX5.out.c0
  have d1 := HBX5.out.c1
  have d2 := HBX5.out.c2
  have d3 := HBX5.out.c3
  dsimp only at d0 d1 d2 d3
  go_wp2_with fail
  refine (HC2.out _).mono ?_
  rintro e w6 ⟨rfl, hb6⟩
  have hb36 := hb5.trans (hb6.mono (by omega))
  have hown6 := own_below hown5 hb6
  have hs66 := hb6.size
  clear hown5 hb6 hb5
  go_wp2_with (at_builtin; refine wpList_append_seq rfl _ _ 39 rfl (w.heap.size + 1) 4 i0 (.bool false) 1 Try.underlying39 hi hz0 hz1 hz2 rfl v5 (1 + n1 + n2) (([Value.bool false] ++ inn.map Value.bool) ++ st.map Value.bool) rfl hown6 _ (n0 - F0) _ ((was.drop F0).map Value.bool) (bools (was.drop F0)) rfl (by rw [List.length_map, List.length_drop, ← HN0.out]) ?hS (fun j hj => bools_get (was.drop F0) j (by rw [List.length_drop, ← HN0.out]; exact hj)) (bools_one (was.drop F0)) (by unfold maxLen; omega) (by omega) (by omega) ?hT)
  case hS.inl => exact .inl (by omega)
  case hS.inr => exact .inr ⟨B0, O0 + F0, rfl, fun j hj => by rw [Nat.add_assoc]; refine ((HBX3.out.below.trans (hb36.mono (by omega))).cell (p := ⟨_, _, none⟩) hB0).trans ?_; refine (HC0.out (F0 + j) (by omega)).trans ?_; unfold bools; simp [List.getD]⟩
  all_goals
    intro v7 w7 hown7 hgrow7
    have k1 := HOk.out.was
    have k2 := HOk.out.inn
    have k3 := HOk.out.st
    have k4 := HFE.out
    dsimp only at k1 k2 k3 k4
    rw [← HN0.out, ← HF0.out] at k1
    rw [← HN1.out] at k2
    rw [← HN2.out] at k3
    have hF12 : F0 = 1 + n1 + n2 := by omega
    obtain ⟨M, hM⟩ : ∃ M, M = F0 + luts.length := ⟨_, rfl⟩
    have hVl := HNl.out
    have hft : ([Value.bool false] ++ inn.map Value.bool ++ st.map Value.bool) ++ (was.drop F0).map Value.bool = V0.map Value.bool := by
      rw [HV0.out, now0, ← HF0.out]; simp
    have hown7 : w7.ownsRow (w.heap.size + 1) 4 1 v7 M (V0.map Value.bool) := by
      rw [← hft, show M = 1 + n1 + n2 + (n0 - F0) by omega]
      simpa using hown7
    have hb7 : Below (w.heap.size + 1) w6 w7 := (Below.refl _ _).grown hgrow7 (by omega) (fun k e => (hown6.lt k e).1)
    have HBX5 := Lib.hid (HBX3.out.step (hb36.trans hb7) (Nat.le_refl _))
    have HOwn5 := Lib.hid hown7
    have HVl := Lib.hid hVl
    have HM := Lib.hid hM
    have hM0 : 0 < M := by omega
    have hMl : M ≤ 401 := by omega
    have hLM : luts.length ≤ M := by omega
    have hFM : F0 + luts.length ≤ M := by omega
    have hM63 : M ≤ 100000 := by omega
    clear hF12 k1 k2 k3 k4 hVl hM hft hown7 hown6 hb36 hb7 hgrow7 d0 d1 d2 d3 hs4
    go_wp2
    go_loopw [11, 12] (fun v k wr => ∃ s : Nat, s ≤ luts.length ∧ k = .int .i64 s ∧ Hid (Box w.heap.size w ⟨ins, ha, hc, holds, la, lc, luts, oa, oc, outs⟩ wr ∧ wr.ownsRow (w.heap.size + 1) 4 1 v M ((iterV ⟨ins, ha, hc, holds, la, lc, luts, oa, oc, outs⟩ V0 s).map Value.bool) ∧ ∀ t, t < s → stepV ⟨ins, ha, hc, holds, la, lc, luts, oa, oc, outs⟩ (iterV ⟨ins, ha, hc, holds, la, lc, luts, oa, oc, outs⟩ V0 t) ≠ iterV ⟨ins, ha, hc, holds, la, lc, luts, oa, oc, outs⟩ V0 t)) (fun _ k _ => luts.length - (intOf k).toNat)
    case atStart => exact ⟨0, by omega, rfl, HBX5.out, HOwn5.out, fun t ht => by omega⟩
    case round =>
      obtain ⟨s, hs, rfl, hh⟩ := hrel
      have hPl := iterV_length (N := ⟨ins, ha, hc, holds, la, lc, luts, oa, oc, outs⟩) (now := V0) (by rw [← HF0.out]; exact HIn.out) (by rw [HVl.out, ← HF0.out]) s
      rw [← HF0.out] at hPl
      obtain ⟨P, hP⟩ : ∃ P, P = iterV ⟨ins, ha, hc, holds, la, lc, luts, oa, oc, outs⟩ V0 s := ⟨_, rfl⟩
      have hown := hh.out.2.1
      rw [← hP] at hown hPl
      have HP := Lib.hid hP
      have hPl : P.length = M := by rw [hPl, HM.out]
      have HPl := Lib.hid hPl
      obtain ⟨g0, cap0, rfl, hg0, hg0s, hMc, _, hcell⟩ := ownb_shape hown hM0
      have hSeq : Seq wr (some ⟨g0, 0, none⟩) M (bools P) := .inr ⟨g0, 0, rfl, fun i hi => by rw [Nat.zero_add]; exact hcell i hi⟩
      have HSeq := Lib.hid hSeq
      have HOwn := Lib.hid hown
      have hsw := hh.out.1.size
      clear hP hPl hcell hSeq hown
      go_wp2_with (at_builtin; refine wpList_append_seq rfl _ _ 39 rfl wr.heap.size 4 i0 (.bool false) 1 Try.underlying39 hi hz0 hz1 hz2 rfl (.slice none 0 0) 0 [] rfl (World.ownsRow_nil _ _ _ _) (some ⟨g0, 0, none⟩) M cap0 (P.map Value.bool) (bools P) rfl (by rw [List.length_map, HPl.out]) HSeq.out (fun j hj => bools_get P j (by rw [HPl.out]; exact hj)) (bools_one P) (by unfold maxLen; omega) (by omega) (by omega) ?_)
      intro v6 w6 hown6 hgrow6
      try simp only [Nat.zero_add, List.nil_append] at hown6
      have hb6 : Below wr.heap.size wr w6 := (Below.refl _ _).grown hgrow6 (Nat.le_refl _) (fun k e => by cases e)
      obtain ⟨g1, cap1, rfl, hg1, hg1s, hMc1, _, _⟩ := ownb_shape hown6 hM0
      have HBX6 := Lib.hid (hh.out.1.step hb6 hsw)
      have HB6 := Lib.hid hb6
      have HOwn6 := Lib.hid hown6
      have x2 := HBX6.out.c2
      dsimp only at x2
      obtain ⟨W1, rfl⟩ : ∃ W1, W1 = wr := ⟨_, rfl⟩
      clear hown6 hb6 hgrow6
      go_wp2
      go_loopw [14, 62] (fun ch k wq => ∃ i : Nat, i ≤ luts.length ∧ k = .int .i64 i ∧ ∃ y : Bool, ch = .bool y ∧ Hid (y = decide (nextTo ⟨ins, ha, hc, holds, la, lc, luts, oa, oc, outs⟩ P i ≠ P)) ∧ Hid (Below W1.heap.size W1 wq ∧ wq.ownsRow W1.heap.size 4 1 (.slice (some ⟨g1, 0, none⟩) M cap1) M ((nextTo ⟨ins, ha, hc, holds, la, lc, luts, oa, oc, outs⟩ P i).map Value.bool))) (fun _ k _ => luts.length - (intOf k).toNat)
      case atStart => exact ⟨0, by omega, rfl, _, rfl, Lib.hid (by rw [nextTo_zero]; simp), Lib.hid ⟨HB6.out, by rw [nextTo_zero]; exact HOwn6.out⟩⟩
      case round =>
        obtain ⟨i, hi, rfl, y, rfl, HY, hq⟩ := hrel
        have HBXq := Lib.hid (hh.out.1.step hq.out.1 hsw)
        by_cases hlt : i < luts.length
        · obtain ⟨b, off, rfl, hbb, t0, t1⟩ := (H.out.below HBXq.out.below (Nat.le_refl _)).lut i hlt
          obtain ⟨hU, hU1, _, _⟩ := H.out.lutAt i hlt
          have hrng := HIn.out i hlt
          have h6 := (HOk.out.net.lut i hlt).len
          obtain ⟨L, hLe⟩ : ∃ L, L = luts.getD i default := ⟨_, rfl⟩
          dsimp only at t0 t1 hU hU1 hrng h6
          rw [← hLe] at t0 t1 hU hU1 hrng h6
          have HL := Lib.hid hLe
          have HSL := Lib.hid (hU.below HBXq.out.below (Nat.le_refl _))
          have HU1 := Lib.hid hU1
          have hown := hq.out.2
          have hbq := hq.out.1
          have hqs := hbq.size
          have hg1q := (hown.lt g1 rfl).2
          have HNow := Lib.hid (HSeq.out.below hbq (Nat.le_refl _))
          obtain ⟨gg, cc, hgc, _, _, _, _, hcell⟩ := ownb_shape hown hM0
          obtain ⟨rfl, rfl⟩ : g1 = gg ∧ cap1 = cc := by simpa using hgc
          have z5 := hcell (F0 + i) (by omega)
          obtain ⟨old, hold⟩ : ∃ o, o = (nextTo ⟨ins, ha, hc, holds, some ⟨b, off, none⟩, lc, luts, oa, oc, outs⟩ P i).getD (F0 + i) false := ⟨_, rfl⟩
          unfold bools at z5
          rw [← hold] at z5
          have z6 := hown.frozenAt (F0 + i)
          have HOwnq := Lib.hid hown
          have HBq := Lib.hid hbq
          obtain ⟨La, Lc, Li, Lt⟩ := L
          dsimp only at t0 t1 h6
          have h6' : Li.length ≤ 6 := by omega
          have HInM : Hid (∀ x ∈ Li, 0 ≤ x ∧ x < (M : Int)) := Lib.hid (fun x hx => by have := hrng x hx; omega)
          obtain ⟨tv, htv⟩ : ∃ t, t = tabVal ⟨La, Lc, Li, Lt⟩ P := ⟨_, rfl⟩
          have HTv := Lib.hid htv
          obtain ⟨pv, hpv⟩ : ∃ t, t = P.getD (F0 + i) false := ⟨_, rfl⟩
          have HPv := Lib.hid hpv
          have hFi : IntKind.i64.wrap ((F0 : Int) + (i : Int)) = (F0 : Int) + (i : Int) := IntWalk.i64_in _ (by omega)
          have hFt : ((F0 : Int) + (i : Int)).toNat = F0 + i := by omega
          obtain ⟨q, hqq⟩ : ∃ q, q = wr.heap.size := ⟨_, rfl⟩
          have hqs' : w.heap.size + 1 ≤ q := by omega
          have hg1l : g1 < q := by omega
          have hg0l : g0 < q := by omega
          clear hLe hU hU1 hrng hown hbq hcell hgc hold h6 htv hpv
          go_wp2_with fail
          obtain ⟨W2, hW2⟩ : ∃ W2, W2 = wr.alloc (Obj.cells #[Value.slice La Li.length Lc, Value.int IntKind.u64 Lt] 48) := ⟨_, rfl⟩
          rw [← hW2, ← hqq]
          have hs2 : W2.heap.size = q + 1 := by rw [hW2, hqq]; simp
          have x4 : W2.cell? ⟨q, 1, none⟩ = some (.int .u64 Lt) := by rw [hW2, hqq]; simp
          have z4 : W2.cell? ⟨q, 0, none⟩ = some (.slice La Li.length Lc) := by rw [hW2, hqq]; simp
          have hbw2 : Below q wr W2 := by rw [hW2, hqq]; exact (Below.refl _ _).alloc (Nat.le_refl _) _
          have hbx := HBXq.out.step hbw2 hqs'
          have x0 := hbx.c0
          have x1 := hbx.c1
          have x2 := hbx.c2
          have x3 := hbx.c3
          have x5 : W2.cell? ⟨g1, F0 + i, none⟩ = some (.bool old) := (hbw2.cell (p := ⟨_, _, none⟩) (by simp only; omega)).trans z5
          have x6 : W2.frozen? ⟨g1, F0 + i, none⟩ = false := (hbw2.frozen (p := ⟨_, _, none⟩) (by simp only; omega)).trans z6
          have HSL2 := Lib.hid (HSL.out.below hbw2 (by omega))
          have HNow2 := Lib.hid (HNow.out.below hbw2 (by omega))
          have HBw2 := Lib.hid hbw2
          dsimp only at x0 x1 x2 x3
          have HQ := Lib.hid hqq
          clear hbx hbw2 z5 z6 t0 t1 hW2 HSL HNow hqq
          refine wp_region_held_drew (S := fun w' => w'.cell? ⟨w.heap.size, 0, none⟩ = some (.int .i64 ins) ∧ w'.cell? ⟨w.heap.size, 1, none⟩ = some (Value.slice ha holds.length hc) ∧ w'.cell? ⟨w.heap.size, 2, none⟩ = some (Value.slice (some ⟨b, off, none⟩) luts.length lc) ∧ w'.cell? ⟨w.heap.size, 3, none⟩ = some (Value.slice oa outs.length oc) ∧ w'.cell? ⟨q, 0, none⟩ = some (.slice La Li.length Lc) ∧ w'.cell? ⟨q, 1, none⟩ = some (.int .u64 Lt)) (by kernel_rfl) (⟨x0, x1, x2, x3, z4, x4⟩) (fun hHeld => ?_)
          refine wpAnyH_take (i := 0) (v := ?_) (by simp only [List.getElem?_toArray, List.getElem?_cons_succ, List.getElem?_cons_zero]; rfl) (by kernel_rfl) (by kernel_rfl) (by kernel_rfl) (by intro _ _ _ h; exact h) (Or.inl ⟨by rfl, ?_⟩) (by assumption) ?_
          rotate_left
          · intro w hSw; (try dsimp only at hSw); go_simp; try with_reducible rfl
          try simp only [Act.put, List.setIfInBounds_toArray, List.set_cons_zero, List.set_cons_succ]
          refine wpAnyH_take (i := 1) (v := ?_) (by simp only [List.getElem?_toArray, List.getElem?_cons_succ, List.getElem?_cons_zero]; rfl) (by kernel_rfl) (by kernel_rfl) (by kernel_rfl) (by intro _ _ _ h; exact h) (Or.inl ⟨by rfl, ?_⟩) (by assumption) ?_
          rotate_left
          · intro w hSw; (try dsimp only at hSw); go_simp; try with_reducible rfl
          try simp only [Act.put, List.setIfInBounds_toArray, List.set_cons_zero, List.set_cons_succ]
          refine wpAnyH_take (i := 3) (v := ?_) (by simp only [List.getElem?_toArray, List.getElem?_cons_succ, List.getElem?_cons_zero]; rfl) (by kernel_rfl) (by kernel_rfl) (by kernel_rfl) (by intro _ _ _ h; exact h) (Or.inl ⟨by rfl, ?_⟩) (by assumption) ?_
          rotate_left
          · intro w hSw; (try dsimp only at hSw); go_simp; try with_reducible rfl
          try simp only [Act.put, List.setIfInBounds_toArray, List.set_cons_zero, List.set_cons_succ]
          refine wpAnyH_take (i := 5) (v := ?_) (by simp only [List.getElem?_toArray, List.getElem?_cons_succ, List.getElem?_cons_zero]; rfl) (by kernel_rfl) (by kernel_rfl) (by kernel_rfl) (by intro _ _ _ h; exact h) (Or.inl ⟨by rfl, ?_⟩) (by assumption) ?_
          rotate_left
          · intro w hSw; (try dsimp only at hSw); go_simp; try with_reducible rfl
          try simp only [Act.put, List.setIfInBounds_toArray, List.set_cons_zero, List.set_cons_succ]
          refine wpAnyH_take (i := 6) (v := ?_) (by simp only [List.getElem?_toArray, List.getElem?_cons_succ, List.getElem?_cons_zero]; rfl) (by kernel_rfl) (by kernel_rfl) (by kernel_rfl) (by intro _ _ _ h; exact h) (Or.inl ⟨by rfl, ?_⟩) (by assumption) ?_
          rotate_left
          · intro w hSw; (try dsimp only at hSw); go_simp; try with_reducible rfl
          try simp only [Act.put, List.setIfInBounds_toArray, List.set_cons_zero, List.set_cons_succ]
          refine wpAnyH_ready (rs := [2]) (by kernel_rfl) (by simp) ?_
          refine AllReadyH.cons (o := _) (by simp only [List.getElem?_toArray, List.getElem?_cons_succ, List.getElem?_cons_zero]; rfl) (fun K hK => ?_) AllReadyH.nil
          go_simp
          go_at_call 35
          refine (HC2.out _).mono ?_
          rintro e w7 ⟨rfl, w7b⟩
          have w7B : Below W2.heap.size W2 w7 := ((Below.refl _ _).drew.trans (w7b.mono (by first | omega | (simp only [drew_size]; omega))))
          have w7s := w7B.size
          go_simp
          refine hK.out _ _ (by exact ⟨(w7B.cell (p := ⟨_, _, none⟩) (by simp only; omega)).trans x0, (w7B.cell (p := ⟨_, _, none⟩) (by simp only; omega)).trans x1, (w7B.cell (p := ⟨_, _, none⟩) (by simp only; omega)).trans x2, (w7B.cell (p := ⟨_, _, none⟩) (by simp only; omega)).trans x3, (w7B.cell (p := ⟨_, _, none⟩) (by simp only; omega)).trans z4, (w7B.cell (p := ⟨_, _, none⟩) (by simp only; omega)).trans x4⟩) (fun hHeld => ?_)
          clear hK K
          try simp only [Act.put, List.setIfInBounds_toArray, List.set_cons_zero, List.set_cons_succ]
          refine wpAnyH_take (i := 4) (v := ?_) (by simp only [List.getElem?_toArray, List.getElem?_cons_succ, List.getElem?_cons_zero]; rfl) (by kernel_rfl) (by kernel_rfl) (by kernel_rfl) (by intro _ _ _ h; exact h) (Or.inl ⟨by rfl, ?_⟩) (by assumption) ?_
          rotate_left
          · intro w hSw; (try dsimp only at hSw); go_simp; try with_reducible rfl
          try simp only [Act.put, List.setIfInBounds_toArray, List.set_cons_zero, List.set_cons_succ]
          refine wpAnyH_ready (rs := [7]) (by kernel_rfl) (by simp) ?_
          refine AllReadyH.cons (o := _) (by simp only [List.getElem?_toArray, List.getElem?_cons_succ, List.getElem?_cons_zero]; rfl) (fun K hK => ?_) AllReadyH.nil
          go_simp
          go_at_call 47
          refine (value _ ⟨La, Lc, Li, Lt⟩ (HSL2.out.below w7B (Nat.le_refl _)) HU1.out h6' _ M cap0 P (HNow2.out.below w7B (Nat.le_refl _)) hM63 HInM.out).mono ?_
          rintro e w8 ⟨rfl, w8b⟩
          have w8B : Below W2.heap.size W2 w8 := w7B.trans (w8b.mono (by first | omega | (simp only [drew_size]; omega)))
          have w8s := w8B.size
          rw [← HTv.out]
          go_simp
          refine hK.out _ _ (by exact ⟨(w8B.cell (p := ⟨_, _, none⟩) (by simp only; omega)).trans x0, (w8B.cell (p := ⟨_, _, none⟩) (by simp only; omega)).trans x1, (w8B.cell (p := ⟨_, _, none⟩) (by simp only; omega)).trans x2, (w8B.cell (p := ⟨_, _, none⟩) (by simp only; omega)).trans x3, (w8B.cell (p := ⟨_, _, none⟩) (by simp only; omega)).trans z4, (w8B.cell (p := ⟨_, _, none⟩) (by simp only; omega)).trans x4⟩) (fun hHeld => ?_)
          clear hK K
          try simp only [Act.put, List.setIfInBounds_toArray, List.set_cons_zero, List.set_cons_succ]
          refine wpAnyH_take (i := 8) (v := ?_) (by simp only [List.getElem?_toArray, List.getElem?_cons_succ, List.getElem?_cons_zero]; rfl) (by kernel_rfl) (by kernel_rfl) (by kernel_rfl) (by intro _ _ _ h; exact h) (Or.inl ⟨by rfl, ?_⟩) (by assumption) ?_
          rotate_left
          · intro w hSw; (try dsimp only at hSw); go_simp; rw [if_pos (by omega)]
          try simp only [Act.put, List.setIfInBounds_toArray, List.set_cons_zero, List.set_cons_succ]
          have g2 : w8.cell? ⟨g1, F0 + i, none⟩ = some (.bool old) := (w8B.cell (p := ⟨_, _, none⟩) (by simp only; omega)).trans x5
          have g3 : w8.frozen? ⟨g1, F0 + i, none⟩ = false := (w8B.frozen (p := ⟨_, _, none⟩) (by simp only; omega)).trans x6
          refine wpAnyH_ready (rs := [9]) (by kernel_rfl) (by simp) ?_
          refine AllReadyH.cons (o := _) (by simp only [List.getElem?_toArray, List.getElem?_cons_succ, List.getElem?_cons_zero]; rfl) (fun K hK => ?_) AllReadyH.nil
          go_simp

          refine hK.out _ _ (by exact ⟨(World.cell?_setCell_far _ _ _ _ (by simp only; omega)).trans ((w8B.cell (p := ⟨_, _, none⟩) (by simp only; omega)).trans x0), (World.cell?_setCell_far _ _ _ _ (by simp only; omega)).trans ((w8B.cell (p := ⟨_, _, none⟩) (by simp only; omega)).trans x1), (World.cell?_setCell_far _ _ _ _ (by simp only; omega)).trans ((w8B.cell (p := ⟨_, _, none⟩) (by simp only; omega)).trans x2), (World.cell?_setCell_far _ _ _ _ (by simp only; omega)).trans ((w8B.cell (p := ⟨_, _, none⟩) (by simp only; omega)).trans x3), (World.cell?_setCell_far _ _ _ _ (by simp only; omega)).trans ((w8B.cell (p := ⟨_, _, none⟩) (by simp only; omega)).trans z4), (World.cell?_setCell_far _ _ _ _ (by simp only; omega)).trans ((w8B.cell (p := ⟨_, _, none⟩) (by simp only; omega)).trans x4)⟩) (fun hHeld => ?_)
          clear hK K
          try simp only [Act.put, List.setIfInBounds_toArray, List.set_cons_zero, List.set_cons_succ]
          refine wpAnyH_done (by kernel_rfl) ?_ _
          go_wp2_with fail
          obtain ⟨W3, hW3⟩ : ∃ W3, W3 = w8.setCell ⟨g1, F0 + i, none⟩ (.bool tv) := ⟨_, rfl⟩
          have hb6 : Below wr.heap.size wr w8 := by
            have h2 := HBw2.out
            rw [HQ.out] at h2 hs2
            exact h2.trans (w8B.mono (by omega))
          have hst := own_store (own_below HOwnq.out hb6) (F0 + i) (.bool tv)
          have hns := nextTo_succ ⟨ins, ha, hc, holds, some ⟨b, off, none⟩, lc, luts, oa, oc, outs⟩ P (by rw [HPl.out, HM.out, HF0.out]) i hlt
          have hcg := chg_succ ⟨ins, ha, hc, holds, some ⟨b, off, none⟩, lc, luts, oa, oc, outs⟩ P (by rw [HPl.out, HM.out, HF0.out]) i hlt
          dsimp only at hns hcg
          rw [← HL.out, ← HTv.out, ← HF0.out] at hns
          rw [← HL.out, ← HTv.out, ← HF0.out, ← HPv.out] at hcg
          rw [hns, ← hW3] at hst
          have hb6s := hb6.size
          have hbW3 : Below W1.heap.size W1 W3 := (HBq.out.trans (hb6.mono (by omega))).trans (grownBy_below hst.2 (by omega) (by omega))
          have hs3 : W3.heap.size = w8.heap.size := by rw [hW3]; simp
          have hbx3 := hh.out.1.step hbW3 hsw
          have y0 := hbx3.c0
          have y1 := hbx3.c1
          have y2 := hbx3.c2
          have y3 := hbx3.c3
          dsimp only at y0 y1 y2 y3
          have y4 : W3.cell? ⟨g1, F0 + i, none⟩ = some (.bool tv) := by rw [hW3]; exact World.cell?_setCell_same' _ _ _ (by rw [g2]; rfl)
          obtain ⟨_, _, hbo, _, hcc⟩ := (HSeq.out.below hbW3 (Nat.le_refl _)).at (F0 + i) (by omega)
          cases hbo
          have y5 := hcc (F0 + i) (by omega)
          unfold bools at y5
          rw [Nat.zero_add, ← HPv.out] at y5
          have hw8s := w8B.size
          rw [← hW3]
          have HB3 := Lib.hid hbW3
          have HOwn3 := Lib.hid hst.1
          have HChg := Lib.hid hcg
          clear hst hns hcg hbx3 hcc hW3 g2 g3 hb6 hbW3
          cases y
          · refine wp_region_held_drew (S := fun w' => w'.cell? ⟨w.heap.size, 0, none⟩ = some (.int .i64 ins) ∧ w'.cell? ⟨w.heap.size, 1, none⟩ = some (Value.slice ha holds.length hc) ∧ w'.cell? ⟨w.heap.size, 2, none⟩ = some (Value.slice (some ⟨b, off, none⟩) luts.length lc) ∧ w'.cell? ⟨w.heap.size, 3, none⟩ = some (Value.slice oa outs.length oc) ∧ w'.cell? ⟨g1, F0 + i, none⟩ = some (.bool tv) ∧ w'.cell? ⟨g0, F0 + i, none⟩ = some (.bool pv)) (by kernel_rfl) (⟨y0, y1, y2, y3, y4, y5⟩) (fun hHeld => ?_)
            refine wpAnyH_take (i := 0) (v := ?_) (by simp only [List.getElem?_toArray, List.getElem?_cons_succ, List.getElem?_cons_zero]; rfl) (by kernel_rfl) (by kernel_rfl) (by kernel_rfl) (by intro _ _ _ h; exact h) (Or.inl ⟨by rfl, ?_⟩) (by assumption) ?_
            rotate_left
            · intro w hSw; (try dsimp only at hSw); go_simp; try with_reducible rfl
            try simp only [Act.put, List.setIfInBounds_toArray, List.set_cons_zero, List.set_cons_succ]
            refine wpAnyH_take (i := 1) (v := ?_) (by simp only [List.getElem?_toArray, List.getElem?_cons_succ, List.getElem?_cons_zero]; rfl) (by kernel_rfl) (by kernel_rfl) (by kernel_rfl) (by intro _ _ _ h; exact h) (Or.inl ⟨by rfl, ?_⟩) (by assumption) ?_
            rotate_left
            · intro w hSw; (try dsimp only at hSw); go_simp; try with_reducible rfl
            try simp only [Act.put, List.setIfInBounds_toArray, List.set_cons_zero, List.set_cons_succ]
            refine wpAnyH_take (i := 2) (v := ?_) (by simp only [List.getElem?_toArray, List.getElem?_cons_succ, List.getElem?_cons_zero]; rfl) (by kernel_rfl) (by kernel_rfl) (by kernel_rfl) (by intro _ _ _ h; exact h) (Or.inl ⟨by rfl, ?_⟩) (by assumption) ?_
            rotate_left
            · intro w hSw; (try dsimp only at hSw); go_simp; try with_reducible rfl
            try simp only [Act.put, List.setIfInBounds_toArray, List.set_cons_zero, List.set_cons_succ]
            refine wpAnyH_take (i := 3) (v := ?_) (by simp only [List.getElem?_toArray, List.getElem?_cons_succ, List.getElem?_cons_zero]; rfl) (by kernel_rfl) (by kernel_rfl) (by kernel_rfl) (by intro _ _ _ h; exact h) (Or.inl ⟨by rfl, ?_⟩) (by assumption) ?_
            rotate_left
            · intro w hSw; (try dsimp only at hSw); go_simp; try with_reducible rfl
            try simp only [Act.put, List.setIfInBounds_toArray, List.set_cons_zero, List.set_cons_succ]
            refine wpAnyH_take (i := 5) (v := ?_) (by simp only [List.getElem?_toArray, List.getElem?_cons_succ, List.getElem?_cons_zero]; rfl) (by kernel_rfl) (by kernel_rfl) (by kernel_rfl) (by intro _ _ _ h; exact h) (Or.inl ⟨by rfl, ?_⟩) (by assumption) ?_
            rotate_left
            · intro w hSw; (try dsimp only at hSw); go_simp; try with_reducible rfl
            try simp only [Act.put, List.setIfInBounds_toArray, List.set_cons_zero, List.set_cons_succ]
            refine wpAnyH_take (i := 9) (v := ?_) (by simp only [List.getElem?_toArray, List.getElem?_cons_succ, List.getElem?_cons_zero]; rfl) (by kernel_rfl) (by kernel_rfl) (by kernel_rfl) (by intro _ _ _ h; exact h) (Or.inl ⟨by rfl, ?_⟩) (by assumption) ?_
            rotate_left
            · intro w hSw; (try dsimp only at hSw); go_simp; try with_reducible rfl
            try simp only [Act.put, List.setIfInBounds_toArray, List.set_cons_zero, List.set_cons_succ]
            refine wpAnyH_take (i := 10) (v := ?_) (by simp only [List.getElem?_toArray, List.getElem?_cons_succ, List.getElem?_cons_zero]; rfl) (by kernel_rfl) (by kernel_rfl) (by kernel_rfl) (by intro _ _ _ h; exact h) (Or.inl ⟨by rfl, ?_⟩) (by assumption) ?_
            rotate_left
            · intro w hSw; (try dsimp only at hSw); go_simp; try with_reducible rfl
            try simp only [Act.put, List.setIfInBounds_toArray, List.set_cons_zero, List.set_cons_succ]
            refine wpAnyH_take (i := 12) (v := ?_) (by simp only [List.getElem?_toArray, List.getElem?_cons_succ, List.getElem?_cons_zero]; rfl) (by kernel_rfl) (by kernel_rfl) (by kernel_rfl) (by intro _ _ _ h; exact h) (Or.inl ⟨by rfl, ?_⟩) (by assumption) ?_
            rotate_left
            · intro w hSw; (try dsimp only at hSw); go_simp; try with_reducible rfl
            try simp only [Act.put, List.setIfInBounds_toArray, List.set_cons_zero, List.set_cons_succ]
            refine wpAnyH_ready (rs := [4]) (by kernel_rfl) (by simp) ?_
            refine AllReadyH.cons (o := _) (by simp only [List.getElem?_toArray, List.getElem?_cons_succ, List.getElem?_cons_zero]; rfl) (fun K hK => ?_) AllReadyH.nil
            go_simp
            go_at_call 35
            refine (HC2.out _).mono ?_
            rintro e wA ⟨rfl, wAb⟩
            have wAB : Below W3.heap.size W3 wA := ((Below.refl _ _).drew.trans (wAb.mono (by first | omega | (simp only [drew_size]; omega))))
            have wAs := wAB.size
            go_simp
            refine hK.out _ _ (by exact ⟨(wAB.cell (p := ⟨_, _, none⟩) (by simp only; omega)).trans y0, (wAB.cell (p := ⟨_, _, none⟩) (by simp only; omega)).trans y1, (wAB.cell (p := ⟨_, _, none⟩) (by simp only; omega)).trans y2, (wAB.cell (p := ⟨_, _, none⟩) (by simp only; omega)).trans y3, (wAB.cell (p := ⟨_, _, none⟩) (by simp only; omega)).trans y4, (wAB.cell (p := ⟨_, _, none⟩) (by simp only; omega)).trans y5⟩) (fun hHeld => ?_)
            clear hK K
            try simp only [Act.put, List.setIfInBounds_toArray, List.set_cons_zero, List.set_cons_succ]
            refine wpAnyH_take (i := 6) (v := ?_) (by simp only [List.getElem?_toArray, List.getElem?_cons_succ, List.getElem?_cons_zero]; rfl) (by kernel_rfl) (by kernel_rfl) (by kernel_rfl) (by intro _ _ _ h; exact h) (Or.inl ⟨by rfl, ?_⟩) (by assumption) ?_
            rotate_left
            · intro w hSw; (try dsimp only at hSw); go_simp; try with_reducible rfl
            try simp only [Act.put, List.setIfInBounds_toArray, List.set_cons_zero, List.set_cons_succ]
            refine wpAnyH_take (i := 7) (v := ?_) (by simp only [List.getElem?_toArray, List.getElem?_cons_succ, List.getElem?_cons_zero]; rfl) (by kernel_rfl) (by kernel_rfl) (by kernel_rfl) (by intro _ _ _ h; exact h) (Or.inl ⟨by rfl, ?_⟩) (by assumption) ?_
            rotate_left
            · intro w hSw; (try dsimp only at hSw); go_simp; rw [if_pos (by omega)]
            try simp only [Act.put, List.setIfInBounds_toArray, List.set_cons_zero, List.set_cons_succ]
            refine wpAnyH_take (i := 8) (v := ?_) (by simp only [List.getElem?_toArray, List.getElem?_cons_succ, List.getElem?_cons_zero]; rfl) (by kernel_rfl) (by kernel_rfl) (by kernel_rfl) (by intro _ _ _ h; exact h) (Or.inl ⟨by rfl, ?_⟩) (by assumption) ?_
            rotate_left
            · intro w hSw; (try dsimp only at hSw); go_simp; try with_reducible rfl
            try simp only [Act.put, List.setIfInBounds_toArray, List.set_cons_zero, List.set_cons_succ]
            refine wpAnyH_ready (rs := [11]) (by kernel_rfl) (by simp) ?_
            refine AllReadyH.cons (o := _) (by simp only [List.getElem?_toArray, List.getElem?_cons_succ, List.getElem?_cons_zero]; rfl) (fun K hK => ?_) AllReadyH.nil
            go_simp
            go_at_call 35
            refine (HC2.out _).mono ?_
            rintro e wB ⟨rfl, wBb⟩
            have wBB : Below W3.heap.size W3 wB := wAB.trans (wBb.mono (by first | omega | (simp only [drew_size]; omega)))
            have wBs := wBB.size
            go_simp
            refine hK.out _ _ (by exact ⟨(wBB.cell (p := ⟨_, _, none⟩) (by simp only; omega)).trans y0, (wBB.cell (p := ⟨_, _, none⟩) (by simp only; omega)).trans y1, (wBB.cell (p := ⟨_, _, none⟩) (by simp only; omega)).trans y2, (wBB.cell (p := ⟨_, _, none⟩) (by simp only; omega)).trans y3, (wBB.cell (p := ⟨_, _, none⟩) (by simp only; omega)).trans y4, (wBB.cell (p := ⟨_, _, none⟩) (by simp only; omega)).trans y5⟩) (fun hHeld => ?_)
            clear hK K
            try simp only [Act.put, List.setIfInBounds_toArray, List.set_cons_zero, List.set_cons_succ]
            refine wpAnyH_take (i := 13) (v := ?_) (by simp only [List.getElem?_toArray, List.getElem?_cons_succ, List.getElem?_cons_zero]; rfl) (by kernel_rfl) (by kernel_rfl) (by kernel_rfl) (by intro _ _ _ h; exact h) (Or.inl ⟨by rfl, ?_⟩) (by assumption) ?_
            rotate_left
            · intro w hSw; (try dsimp only at hSw); go_simp; try with_reducible rfl
            try simp only [Act.put, List.setIfInBounds_toArray, List.set_cons_zero, List.set_cons_succ]
            refine wpAnyH_take (i := 14) (v := ?_) (by simp only [List.getElem?_toArray, List.getElem?_cons_succ, List.getElem?_cons_zero]; rfl) (by kernel_rfl) (by kernel_rfl) (by kernel_rfl) (by intro _ _ _ h; exact h) (Or.inl ⟨by rfl, ?_⟩) (by assumption) ?_
            rotate_left
            · intro w hSw; (try dsimp only at hSw); go_simp; rw [if_pos (by omega)]
            try simp only [Act.put, List.setIfInBounds_toArray, List.set_cons_zero, List.set_cons_succ]
            refine wpAnyH_take (i := 15) (v := ?_) (by simp only [List.getElem?_toArray, List.getElem?_cons_succ, List.getElem?_cons_zero]; rfl) (by kernel_rfl) (by kernel_rfl) (by kernel_rfl) (by intro _ _ _ h; exact h) (Or.inl ⟨by rfl, ?_⟩) (by assumption) ?_
            rotate_left
            · intro w hSw; (try dsimp only at hSw); go_simp; try with_reducible rfl
            try simp only [Act.put, List.setIfInBounds_toArray, List.set_cons_zero, List.set_cons_succ]
            refine wpAnyH_take (i := 16) (v := ?_) (by simp only [List.getElem?_toArray, List.getElem?_cons_succ, List.getElem?_cons_zero]; rfl) (by kernel_rfl) (by kernel_rfl) (by kernel_rfl) (by intro _ _ _ h; exact h) (Or.inl ⟨by rfl, ?_⟩) (by assumption) ?_
            rotate_left
            · intro w hSw; (try dsimp only at hSw); go_simp; try with_reducible rfl
            try simp only [Act.put, List.setIfInBounds_toArray, List.set_cons_zero, List.set_cons_succ]
            refine wpAnyH_take (i := 17) (v := ?_) (by simp only [List.getElem?_toArray, List.getElem?_cons_succ, List.getElem?_cons_zero]; rfl) (by kernel_rfl) (by kernel_rfl) (by kernel_rfl) (by intro _ _ _ h; exact h) (Or.inl ⟨by rfl, ?_⟩) (by assumption) ?_
            rotate_left
            · intro w hSw; (try dsimp only at hSw); go_simp; try with_reducible rfl
            try simp only [Act.put, List.setIfInBounds_toArray, List.set_cons_zero, List.set_cons_succ]
            refine wpAnyH_take (i := 18) (v := ?_) (by simp only [List.getElem?_toArray, List.getElem?_cons_succ, List.getElem?_cons_zero]; rfl) (by kernel_rfl) (by kernel_rfl) (by kernel_rfl) (by intro _ _ _ h; exact h) (Or.inl ⟨by rfl, ?_⟩) (by assumption) ?_
            rotate_left
            · intro w hSw; (try dsimp only at hSw); go_simp; try with_reducible rfl
            try simp only [Act.put, List.setIfInBounds_toArray, List.set_cons_zero, List.set_cons_succ]
            have HBe := Lib.hid wBB
            refine wpAnyH_done (by kernel_rfl) ?_ _
            go_wp2
            go_roundw
            case rel =>
              have hbe := HB3.out.trans (HBe.out.mono (by omega))
              refine ⟨i + 1, by omega, by go_num, _, rfl, Lib.hid ?_, Lib.hid ⟨hbe, own_below HOwn3.out HBe.out⟩⟩
              rw [HChg.out, ← HY.out]
              first | rfl | (cases tv <;> cases pv <;> rfl)
            case measure => simp [intOf]; omega
          · refine wp_region_held_drew (S := fun w' => w'.cell? ⟨w.heap.size, 0, none⟩ = some (.int .i64 ins) ∧ w'.cell? ⟨w.heap.size, 1, none⟩ = some (Value.slice ha holds.length hc) ∧ w'.cell? ⟨w.heap.size, 2, none⟩ = some (Value.slice (some ⟨b, off, none⟩) luts.length lc) ∧ w'.cell? ⟨w.heap.size, 3, none⟩ = some (Value.slice oa outs.length oc) ∧ w'.cell? ⟨g1, F0 + i, none⟩ = some (.bool tv) ∧ w'.cell? ⟨g0, F0 + i, none⟩ = some (.bool pv)) (by kernel_rfl) (⟨y0, y1, y2, y3, y4, y5⟩) (fun hHeld => ?_)
            refine wpAnyH_take (i := 0) (v := ?_) (by simp only [List.getElem?_toArray, List.getElem?_cons_succ, List.getElem?_cons_zero]; rfl) (by kernel_rfl) (by kernel_rfl) (by kernel_rfl) (by intro _ _ _ h; exact h) (Or.inl ⟨by rfl, ?_⟩) (by assumption) ?_
            rotate_left
            · intro w hSw; (try dsimp only at hSw); go_simp; try with_reducible rfl
            try simp only [Act.put, List.setIfInBounds_toArray, List.set_cons_zero, List.set_cons_succ]
            refine wpAnyH_take (i := 1) (v := ?_) (by simp only [List.getElem?_toArray, List.getElem?_cons_succ, List.getElem?_cons_zero]; rfl) (by kernel_rfl) (by kernel_rfl) (by kernel_rfl) (by intro _ _ _ h; exact h) (Or.inl ⟨by rfl, ?_⟩) (by assumption) ?_
            rotate_left
            · intro w hSw; (try dsimp only at hSw); go_simp; try with_reducible rfl
            try simp only [Act.put, List.setIfInBounds_toArray, List.set_cons_zero, List.set_cons_succ]
            refine wpAnyH_take (i := 2) (v := undef) (by simp only [List.getElem?_toArray, List.getElem?_cons_succ, List.getElem?_cons_zero]; rfl) (by kernel_rfl) (by kernel_rfl) (by kernel_rfl) (by intro _ _ _ h; exact h) (Or.inr ⟨by rfl, rfl⟩) (by assumption) ?_
            try simp only [Act.put, List.setIfInBounds_toArray, List.set_cons_zero, List.set_cons_succ]
            refine wpAnyH_take (i := 3) (v := undef) (by simp only [List.getElem?_toArray, List.getElem?_cons_succ, List.getElem?_cons_zero]; rfl) (by kernel_rfl) (by kernel_rfl) (by kernel_rfl) (by intro _ _ _ h; exact h) (Or.inr ⟨by rfl, rfl⟩) (by assumption) ?_
            try simp only [Act.put, List.setIfInBounds_toArray, List.set_cons_zero, List.set_cons_succ]
            refine wpAnyH_take (i := 4) (v := undef) (by simp only [List.getElem?_toArray, List.getElem?_cons_succ, List.getElem?_cons_zero]; rfl) (by kernel_rfl) (by kernel_rfl) (by kernel_rfl) (by intro _ _ _ h; exact h) (Or.inr ⟨by rfl, rfl⟩) (by assumption) ?_
            try simp only [Act.put, List.setIfInBounds_toArray, List.set_cons_zero, List.set_cons_succ]
            refine wpAnyH_take (i := 5) (v := undef) (by simp only [List.getElem?_toArray, List.getElem?_cons_succ, List.getElem?_cons_zero]; rfl) (by kernel_rfl) (by kernel_rfl) (by kernel_rfl) (by intro _ _ _ h; exact h) (Or.inr ⟨by rfl, rfl⟩) (by assumption) ?_
            try simp only [Act.put, List.setIfInBounds_toArray, List.set_cons_zero, List.set_cons_succ]
            refine wpAnyH_take (i := 6) (v := undef) (by simp only [List.getElem?_toArray, List.getElem?_cons_succ, List.getElem?_cons_zero]; rfl) (by kernel_rfl) (by kernel_rfl) (by kernel_rfl) (by intro _ _ _ h; exact h) (Or.inr ⟨by rfl, rfl⟩) (by assumption) ?_
            try simp only [Act.put, List.setIfInBounds_toArray, List.set_cons_zero, List.set_cons_succ]
            refine wpAnyH_take (i := 7) (v := undef) (by simp only [List.getElem?_toArray, List.getElem?_cons_succ, List.getElem?_cons_zero]; rfl) (by kernel_rfl) (by kernel_rfl) (by kernel_rfl) (by intro _ _ _ h; exact h) (Or.inr ⟨by rfl, rfl⟩) (by assumption) ?_
            try simp only [Act.put, List.setIfInBounds_toArray, List.set_cons_zero, List.set_cons_succ]
            refine wpAnyH_take (i := 8) (v := undef) (by simp only [List.getElem?_toArray, List.getElem?_cons_succ, List.getElem?_cons_zero]; rfl) (by kernel_rfl) (by kernel_rfl) (by kernel_rfl) (by intro _ _ _ h; exact h) (Or.inr ⟨by rfl, rfl⟩) (by assumption) ?_
            try simp only [Act.put, List.setIfInBounds_toArray, List.set_cons_zero, List.set_cons_succ]
            refine wpAnyH_take (i := 9) (v := undef) (by simp only [List.getElem?_toArray, List.getElem?_cons_succ, List.getElem?_cons_zero]; rfl) (by kernel_rfl) (by kernel_rfl) (by kernel_rfl) (by intro _ _ _ h; exact h) (Or.inr ⟨by rfl, rfl⟩) (by assumption) ?_
            try simp only [Act.put, List.setIfInBounds_toArray, List.set_cons_zero, List.set_cons_succ]
            refine wpAnyH_take (i := 10) (v := undef) (by simp only [List.getElem?_toArray, List.getElem?_cons_succ, List.getElem?_cons_zero]; rfl) (by kernel_rfl) (by kernel_rfl) (by kernel_rfl) (by intro _ _ _ h; exact h) (Or.inr ⟨by rfl, rfl⟩) (by assumption) ?_
            try simp only [Act.put, List.setIfInBounds_toArray, List.set_cons_zero, List.set_cons_succ]
            refine wpAnyH_take (i := 11) (v := undef) (by simp only [List.getElem?_toArray, List.getElem?_cons_succ, List.getElem?_cons_zero]; rfl) (by kernel_rfl) (by kernel_rfl) (by kernel_rfl) (by intro _ _ _ h; exact h) (Or.inr ⟨by rfl, rfl⟩) (by assumption) ?_
            try simp only [Act.put, List.setIfInBounds_toArray, List.set_cons_zero, List.set_cons_succ]
            refine wpAnyH_take (i := 12) (v := undef) (by simp only [List.getElem?_toArray, List.getElem?_cons_succ, List.getElem?_cons_zero]; rfl) (by kernel_rfl) (by kernel_rfl) (by kernel_rfl) (by intro _ _ _ h; exact h) (Or.inr ⟨by rfl, rfl⟩) (by assumption) ?_
            try simp only [Act.put, List.setIfInBounds_toArray, List.set_cons_zero, List.set_cons_succ]
            refine wpAnyH_take (i := 13) (v := undef) (by simp only [List.getElem?_toArray, List.getElem?_cons_succ, List.getElem?_cons_zero]; rfl) (by kernel_rfl) (by kernel_rfl) (by kernel_rfl) (by intro _ _ _ h; exact h) (Or.inr ⟨by rfl, rfl⟩) (by assumption) ?_
            try simp only [Act.put, List.setIfInBounds_toArray, List.set_cons_zero, List.set_cons_succ]
            refine wpAnyH_take (i := 14) (v := undef) (by simp only [List.getElem?_toArray, List.getElem?_cons_succ, List.getElem?_cons_zero]; rfl) (by kernel_rfl) (by kernel_rfl) (by kernel_rfl) (by intro _ _ _ h; exact h) (Or.inr ⟨by rfl, rfl⟩) (by assumption) ?_
            try simp only [Act.put, List.setIfInBounds_toArray, List.set_cons_zero, List.set_cons_succ]
            refine wpAnyH_take (i := 15) (v := undef) (by simp only [List.getElem?_toArray, List.getElem?_cons_succ, List.getElem?_cons_zero]; rfl) (by kernel_rfl) (by kernel_rfl) (by kernel_rfl) (by intro _ _ _ h; exact h) (Or.inr ⟨by rfl, rfl⟩) (by assumption) ?_
            try simp only [Act.put, List.setIfInBounds_toArray, List.set_cons_zero, List.set_cons_succ]
            refine wpAnyH_take (i := 16) (v := undef) (by simp only [List.getElem?_toArray, List.getElem?_cons_succ, List.getElem?_cons_zero]; rfl) (by kernel_rfl) (by kernel_rfl) (by kernel_rfl) (by intro _ _ _ h; exact h) (Or.inr ⟨by rfl, rfl⟩) (by assumption) ?_
            try simp only [Act.put, List.setIfInBounds_toArray, List.set_cons_zero, List.set_cons_succ]
            refine wpAnyH_take (i := 17) (v := ?_) (by simp only [List.getElem?_toArray, List.getElem?_cons_succ, List.getElem?_cons_zero]; rfl) (by kernel_rfl) (by kernel_rfl) (by kernel_rfl) (by intro _ _ _ h; exact h) (Or.inl ⟨by rfl, ?_⟩) (by assumption) ?_
            rotate_left
            · intro w hSw; (try dsimp only at hSw); go_simp; try with_reducible rfl
            try simp only [Act.put, List.setIfInBounds_toArray, List.set_cons_zero, List.set_cons_succ]
            refine wpAnyH_take (i := 18) (v := ?_) (by simp only [List.getElem?_toArray, List.getElem?_cons_succ, List.getElem?_cons_zero]; rfl) (by kernel_rfl) (by kernel_rfl) (by kernel_rfl) (by intro _ _ _ h; exact h) (Or.inl ⟨by rfl, ?_⟩) (by assumption) ?_
            rotate_left
            · intro w hSw; (try dsimp only at hSw); go_simp; try with_reducible rfl
            try simp only [Act.put, List.setIfInBounds_toArray, List.set_cons_zero, List.set_cons_succ]
            have HBe := Lib.hid ((Below.refl W3.heap.size W3).drew)
            refine wpAnyH_done (by kernel_rfl) ?_ _
            go_wp2
            go_roundw
            case rel =>
              have hbe := HB3.out.trans (HBe.out.mono (by omega))
              refine ⟨i + 1, by omega, by go_num, _, rfl, Lib.hid ?_, Lib.hid ⟨hbe, own_below HOwn3.out HBe.out⟩⟩
              rw [HChg.out, ← HY.out]
              first | rfl | (cases tv <;> cases pv <;> rfl)
            case measure => simp [intOf]; omega
        · have hiL : i = luts.length := by omega
          subst hiL
          have hql : nextTo ⟨ins, ha, hc, holds, la, lc, luts, oa, oc, outs⟩ P luts.length = stepV ⟨ins, ha, hc, holds, la, lc, luts, oa, oc, outs⟩ P := nextTo_all ⟨ins, ha, hc, holds, la, lc, luts, oa, oc, outs⟩ P (by rw [← HF0.out, HPl.out, HM.out])
          have hown := hq.out.2
          have hy := HY.out
          rw [hql] at hown hy
          obtain ⟨Nx, hNx⟩ : ∃ Nx, Nx = stepV ⟨ins, ha, hc, holds, la, lc, luts, oa, oc, outs⟩ P := ⟨_, rfl⟩
          rw [← hNx] at hown hy
          have HNx := Lib.hid hNx
          have hqs := hq.out.1.size
          have HOwnx := Lib.hid hown
          clear hNx hown hql
          cases y
          · have HEq : Hid (Nx = P) := Lib.hid (by simpa using hy)
            clear hy
            go_wp2
            go_returns
            have hown : W1.ownsRow (w.heap.size + 1) 4 1 (.slice (some ⟨g0, 0, none⟩) M cap0) M (P.map Value.bool) := by rw [HP.out]; exact hh.out.2.1
            have hb9 := hq.out.1
            refine ⟨s, ⟨?_, hh.out.2.2⟩, hs, ?_⟩
            · rw [← HP.out, ← HNx.out, HEq.out]
            · rw [← HP.out]
              refine ⟨_, rfl, ?_, (hh.out.1.step hb9 hsw).below⟩
              rw [HPl.out]
              exact (own_below hown hb9).base_le (by omega)
          · have heq : Nx ≠ P := by simpa using hy
            clear hy
            have hsl : s < luts.length := by
              rcases Nat.lt_or_ge s luts.length with h | h
              · exact h
              · have hr := rest_at (N := ⟨ins, ha, hc, holds, la, lc, luts, oa, oc, outs⟩) (by rw [← HF0.out]; exact HIn.out) V0 (by rw [HVl.out, ← HF0.out]) s h
                rw [← HP.out, ← HNx.out] at hr
                exact absurd hr heq
            have HNe := Lib.hid heq
            clear heq
            go_wp2
            go_roundw
            case rel =>
              have hb9 := hq.out.1
              refine ⟨s + 1, by omega, by go_num, Lib.hid ⟨hh.out.1.step hb9 hsw, ?_, fun t ht => ?_⟩⟩
              · have : iterV ⟨ins, ha, hc, holds, la, lc, luts, oa, oc, outs⟩ V0 (s + 1) = Nx := by rw [HNx.out, HP.out]; rfl
                rw [this]
                exact HOwnx.out.base_le (by omega)
              · rcases Nat.lt_or_ge t s with h | h
                · exact hh.out.2.2 t h
                · obtain rfl : t = s := by omega
                  rw [← HP.out, ← HNx.out]
                  exact HNe.out
            case measure => simp [intOf]; omega

end Go.Proofs.Ytkcilpkcjhnkaaa
