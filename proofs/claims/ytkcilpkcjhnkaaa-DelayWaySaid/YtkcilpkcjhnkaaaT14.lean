import Derived.Test.YtkcilpkcjhnkaaaT13
namespace Go.Proofs.Ytkcilpkcjhnkaaa
open Go.RowKit
set_option linter.unusedVariables false

theorem max_picked (P K : List Int) (h : ∀ x ∈ P, 0 ≤ x) : (((K.map fun (k : Int) => P.getD k.toNat 0) ++ [0]).foldl max (((K.map fun (k : Int) => P.getD k.toNat 0) ++ [0]).getD 0 0)) = mostOf P K := by
  have key : ∀ (K : List Int) (m : Int), (K.map fun k => P.getD k.toNat 0).foldl max m = K.foldl (fun m k => max m (P.getD k.toNat 0)) m := by
    intro K
    induction K with
    | nil => intro m; rfl
    | cons k K ih => intro m; simp only [List.map_cons, List.foldl_cons]; exact ih _
  have hpos : ∀ k : Int, 0 ≤ P.getD k.toNat 0 := by
    intro k
    by_cases hk : k.toNat < P.length
    · exact h _ (getD_mem _ _ hk)
    · simp [List.getD, List.getElem?_eq_none (Nat.le_of_not_lt hk)]
  have mono : ∀ (K : List Int) (m : Int), max (K.foldl (fun m k => max m (P.getD k.toNat 0)) m) 0 = K.foldl (fun m k => max m (P.getD k.toNat 0)) (max m 0) := by
    intro K
    induction K with
    | nil => intro m; rfl
    | cons k K ih =>
      intro m
      simp only [List.foldl_cons]
      rw [ih]
      congr 1
      omega
  rw [List.foldl_append, key]
  simp only [List.foldl_cons, List.foldl_nil]
  rw [mono]
  unfold mostOf
  cases K with
  | nil => rfl
  | cons k K =>
    have := hpos k
    have e : ((List.map (fun (k : Int) => P.getD k.toNat 0) (k :: K)) ++ [0]).getD 0 0 = P.getD k.toNat 0 := by simp
    rw [e]
    simp only [List.foldl_cons]
    congr 1
    omega

theorem getD_ones (n i : Nat) (h : i < n) : (List.replicate n (1 : Int)).getD i 0 = 1 := by simp [List.getD, h]

theorem costOk_ones (N : NetV) : CostOk N (List.replicate N.luts.length 1) ↔ NetOk N 6 :=
  ⟨fun h => h.net, fun h => ⟨h, by simp, fun c hc => by rw [List.eq_of_mem_replicate hc]; omega⟩⟩

/-- How deep the nodes are, or why it is not told. -/
noncomputable def levO (N : NetV) : List Int := arrO N (List.replicate N.luts.length 1)
noncomputable def levE (N : NetV) : Int := arrE N (List.replicate N.luts.length 1)

set_option maxHeartbeats 1000000 in
theorem levels (w : World) (N : NetV) (h : NetAt w N) (f : Few N) :
    Calls Try.prog 20 #[N.val] w (NewInts w (levO N) (levE N)) := by
  have HBX := Lib.hid (Box.start w N)
  have C := check (w.alloc N.obj) N (h.below HBX.out.below (Nat.le_refl _)) f 6 (by omega)
  rcases chk_cases N 6 with ⟨hc, ok⟩ | ⟨hc, ok⟩
  · rw [hc] at C
    have hcok := (costOk_ones N).2 ok
    rw [levO, levE, arrO, arrE, if_pos hcok, if_pos hcok]
    have hf0 := f.ins
    have hf1 := f.holds
    have hf2 := f.luts
    have hi0 := ok.ins0
    have hfl : firstN N ≤ 201 := by unfold firstN; omega
    have hfl0 : 0 < firstN N := by unfold firstN; omega
    have hfe := firstN_eq hi0
    obtain ⟨F0, hF0⟩ : ∃ F0, F0 = firstN N := ⟨_, rfl⟩
    rw [← hF0] at hfl hfl0 hfe
    have HFE := Lib.hid hfe
    have HF0 := Lib.hid hF0
    have HC := Lib.hid C
    have H := Lib.hid h
    have F := Lib.hid f
    have HOk := Lib.hid ok
    have HCk := Lib.hid hcok
    clear hc C h f ok hF0 hcok hfe
    obtain ⟨i0, hi, hz0, hz1, hz2⟩ := info_parts info3
    obtain ⟨ins, ha, hc, holds, la, lc, luts, oa, oc, outs⟩ := N
    dsimp only at hf0 hf1 hf2 hi0 HFE ⊢
    go_enter Try.func20, Try.ntmps20
    go_wp2_with fail
    refine HC.out.mono ?_
    rintro e w1 ⟨rfl, hb1⟩
    have hbx := HBX.out.step hb1 (by simp)
    have HBx := Lib.hid hbx
    have c0 := hbx.c0
    have c1 := hbx.c1
    have c2 := hbx.c2
    have hs1 := hbx.size
    dsimp only at c0 c1 c2
    clear hbx hb1
    go_wp2_with (at_make; rw [show (1 + ins + (holds.length : Int)) = ((F0 : Nat) : Int) from HFE.out.symm]; refine wpList_make_full _ rfl (.tmp 19) (.tmp 19) 24 rfl (w.heap.size + 1) 3 i0 (.int .i64 0) 1 Try.underlying24 hi hz0 hz1 .i64 .i64 _ _ _ rfl rfl rfl rfl (by rw [hz2]; omega) (by unfold maxLen; omega) (by omega) ?_)
    intro w3 hown hgrow
    have HBx3 := Lib.hid (HBx.out.step (C := w.heap.size + 1) ((Below.refl _ _).grown hgrow hs1 (fun k e => by cases e)) (Nat.le_refl _))
    have e2 := HBx3.out.c2
    dsimp only at e2
    have hs3 := HBx3.out.size
    have HOwn := Lib.hid hown
    clear hown hgrow c0 c1 c2 hs1
    go_wp2
    go_loopw [5, 24] (fun v i wr => ∃ j : Nat, j ≤ luts.length ∧ i = .int .i64 j ∧ Hid (Box w.heap.size w ⟨ins, ha, hc, holds, la, lc, luts, oa, oc, outs⟩ wr ∧ wr.ownsRow (w.heap.size + 1) 3 1 v (F0 + j) ((arrTo ⟨ins, ha, hc, holds, la, lc, luts, oa, oc, outs⟩ (List.replicate luts.length 1) j).map (Value.int .i64)))) (fun _ i _ => luts.length - (intOf i).toNat)
    case atStart =>
      refine ⟨0, by omega, rfl, HBx3.out, ?_⟩
      have := HOwn.out
      rw [Nat.add_zero]
      simpa [arrTo, toList_madeCells_one, ← HF0.out] using this
    case round =>
      obtain ⟨j, hj, rfl, hh⟩ := hrel
      by_cases hlt : j < luts.length
      · obtain ⟨b, off, rfl, hbb, d0, d1⟩ := (H.out.below hh.out.1.below (Nat.le_refl _)).lut j hlt
        have hU := (H.out.lutAt j hlt).1
        have hrng := (HOk.out.lut j hlt).ins
        have h20 := F.out.lut _ (getD_mem luts default hlt)
        obtain ⟨L, hLe⟩ : ∃ L, L = luts.getD j default := ⟨_, rfl⟩
        dsimp only at d0 d1 hU hrng
        rw [← hLe] at d0 d1 hU hrng h20
        have HL := Lib.hid hLe
        clear hLe
        obtain ⟨P, hP⟩ : ∃ P, P = arrTo ⟨ins, ha, hc, holds, some ⟨b, off, none⟩, lc, luts, oa, oc, outs⟩ (List.replicate luts.length 1) j := ⟨_, rfl⟩
        have hPl : P.length = F0 + j := by rw [hP, arrTo_length, ← HF0.out]
        have hown := hh.out.2
        rw [← hP] at hown
        have hPb := arrTo_bound ⟨ins, ha, hc, holds, some ⟨b, off, none⟩, lc, luts, oa, oc, outs⟩ (List.replicate luts.length 1) HCk.out.each j
        rw [← hP] at hPb
        have hsw := hh.out.1.size
        have hbx := hh.out.1.below
        have HPb := Lib.hid hPb
        have HP := Lib.hid hP
        have HPl := Lib.hid hPl
        have HRng := Lib.hid hrng
        have HU := Lib.hid hU
        have HOwn2 := Lib.hid hown
        have HBw := Lib.hid hbx
        clear hP hPb hPl hU hrng hown hbx
        obtain ⟨va, vc, hv, hVS, _, _⟩ := owns_seq HOwn2.out
        subst hv
        obtain ⟨La, Lc, Li, Lt⟩ := L
        dsimp only at d0 d1 h20
        have hm := mostOf_le P Li (1048576 * j) (by omega) (fun x hx => (HPb.out x hx).2)
        have hm0 := mostOf_nonneg P Li
        have HVS := Lib.hid hVS
        clear hVS
        go_wp2_with fail
        obtain ⟨W2, hW2⟩ : ∃ W2, W2 = wr.alloc (Obj.cells #[Value.slice La Li.length Lc, Value.int IntKind.u64 Lt] 48) := ⟨_, rfl⟩
        have hb2 : Below wr.heap.size wr W2 := by rw [hW2]; exact (Below.refl _ _).alloc (Nat.le_refl _) _
        rw [← hW2]
        clear hW2
        have hpk := picked W2 va La (F0 + j) vc Li.length Lc P Li HPl.out rfl (by omega) (by omega) (HVS.out.below hb2 (Nat.le_refl _)) ((HU.out.below HBw.out (Nat.le_refl _)).below hb2 (Nat.le_refl _))
          (fun k hk => by have := HRng.out k hk; have := HFE.out; omega)
        refine hpk.mono ?_
        rintro e w4 ⟨v4, rfl, hown4, hb4⟩
        have hb24 : Below wr.heap.size wr w4 := hb2.trans (hb4.mono hb2.size)
        have hs2 := hb2.size
        have hs4 := hb4.size
        have HB24 := Lib.hid hb24
        have hown4' := Lib.hid (hown4.alloc (.cells #[.int .i64 0] 3))
        clear hpk hb4 hb24 hown4 hb2
        go_wp2_with (at_builtin; refine wpList_append_own _ rfl (.tmp 32) (.tmp 33) 24 rfl W2.heap.size 3 i0 (.int .i64 0) 1 8 Try.underlying24 hi hz0 hz1 hz2 rfl (by decide) _ _ _ rfl hown4'.out ⟨w4.heap.size, 0, none⟩ 1 1 [.int .i64 0] rfl rfl (one_cell _ _) (by simp [Value.oneCell']) (by unfold maxLen; simp; omega) (by simp; omega) (by simp; omega) ?_)
        intro v5 w5 hown5 hgrow5 _
        have hown5' : w5.ownsRow W2.heap.size 3 1 v5 (Li.length + 1) (((Li.map fun (k : Int) => P.getD k.toNat 0) ++ [0]).map (Value.int .i64)) := by simpa using hown5
        have hb45 : Below W2.heap.size w4 w5 := ((Below.refl _ _).alloc hs4 _).grown hgrow5 (by simp; omega) (fun k e => (hown4'.out.lt k e).1)
        have hb5 : Below wr.heap.size wr w5 := HB24.out.trans (hb45.mono hs2)
        obtain ⟨a5, c5, hv5, hS5, _, _⟩ := owns_seq hown5'
        subst hv5
        have HB5 := Lib.hid hb5
        have hs5 := hb45.size
        have HS5 := Lib.hid hS5
        have HMx := Lib.hid (max_picked P Li (fun x hx => (HPb.out x hx).1))
        clear hown5 hown5' hgrow5 hb45 hb5 hS5
        go_wp2_with fail
        refine (maxOf w5 a5 (Li.length + 1) c5 _ (by simp) (by omega) (by omega) HS5.out).mono ?_
        rw [HMx.out]
        rintro e w6 ⟨rfl, rfl⟩
        have hcx : IntKind.i64.wrap (1 + mostOf P Li) = 1 + mostOf P Li := IntWalk.i64_in _ (by omega)
        have HOwn6 := Lib.hid ((own_below HOwn2.out HB5.out).alloc (.cells #[.int .i64 (1 + mostOf P Li)] 3))
        have hs6 := HB5.out.size
        go_wp2_with (at_builtin; refine wpList_append_own _ rfl (.tmp 28) (.tmp 37) 24 rfl (w.heap.size + 1) 3 i0 (.int .i64 0) 1 8 Try.underlying24 hi hz0 hz1 hz2 rfl (by decide) _ _ _ rfl HOwn6.out ⟨w5.heap.size, 0, none⟩ 1 1 [.int .i64 (1 + mostOf P Li)] rfl rfl (one_cell _ _) (by simp [Value.oneCell']) (by unfold maxLen; omega) (by omega) (by simp; omega) ?_)
        intro v7 w7 hown7 hgrow7 _
        have hb7 : Below (w.heap.size + 1) wr w7 := (HB5.out.mono hsw).trans (((Below.refl _ _).alloc (by omega) _).grown hgrow7 (by simp; omega) (fun k e => (HOwn6.out.lt k e).1))
        have HBx7 := Lib.hid (hh.out.1.step hb7 (Nat.le_refl _))
        have HO7 := Lib.hid hown7
        clear hown7 hgrow7 hb7
        go_wp2
        go_roundw
        case rel =>
          refine ⟨j + 1, by omega, by go_num, HBx7.out, ?_⟩
          have h := HO7.out
          rw [show arrTo ⟨ins, ha, hc, holds, some ⟨b, off, none⟩, lc, luts, oa, oc, outs⟩ (List.replicate luts.length 1) (j + 1) = P ++ [1 + mostOf P Li] by
            simp only [arrTo]; rw [← HP.out, ← HL.out, getD_ones _ _ hlt]]
          simpa [Nat.add_assoc] using h
        case measure => simp [intOf]; omega
      · obtain rfl : j = luts.length := by omega
        go_wp2
        go_ret2
        refine ⟨_, rfl, ?_, hh.out.1.below⟩
        have h1 := hh.out.2
        have h2 : (arrTo ⟨ins, ha, hc, holds, la, lc, luts, oa, oc, outs⟩ (List.replicate luts.length 1) luts.length).length = F0 + luts.length := by rw [arrTo_length, ← HF0.out]
        show World.ownsRow _ _ _ _ _ (arrTo ⟨ins, ha, hc, holds, la, lc, luts, oa, oc, outs⟩ (List.replicate luts.length 1) luts.length).length _
        rw [h2]
        exact h1.base_le (Nat.le_succ _)
  · rw [hc] at C
    have hcok := fun h => ok ((costOk_ones N).1 h)
    rw [levO, levE, arrO, arrE, if_neg hcok, if_neg hcok]
    have HC := Lib.hid C
    clear C hc hcok ok h f
    go_enter Try.func20, Try.ntmps20
    go_wp2_with fail
    refine HC.out.mono ?_
    rintro e w1 ⟨rfl, hb1⟩
    have HBx := Lib.hid (HBX.out.step hb1 (by simp))
    clear hb1
    go_wp2
    go_ret2
    exact ⟨_, rfl, World.ownsRow_nil _ _ _ _, HBx.out.below⟩
end Go.Proofs.Ytkcilpkcjhnkaaa
