import Derived.Test.YtibimdhmfchcoaaV2
import Derived.Test.YtibimdhmfchcoaaBK
namespace Go.Proofs.Ytibimdhmfchcoaa
open Go.RowKit Go.Shelf Go.Maps
set_option linter.unusedVariables false
set_option linter.unusedSimpArgs false

/-- What is newly told of inputs, and kept. -/
def NewEval (w : World) (D : PackD) (inn st : List Bool) (e : Ending) (w' : World) : Prop :=
  ∃ (a1 : Option Addr) (c1 : Nat) (a2 : Option Addr) (c2 : Nat), e = .returned (.tuple #[.slice a1 (evalO D inn st).length c1, .slice a2 (evalN D inn st).length c2, .int .i64 (evalE D inn st)]) ∧
    Wir w' w.heap.size a1 (evalO D inn st).length (fun i => (evalO D inn st).getD i false) ∧ Wir w' w.heap.size a2 (evalN D inn st).length (fun i => (evalN D inn st).getD i false) ∧ Below w.heap.size w w'
theorem Wir.mono {wr : World} {B C m : Nat} {wa : Option Addr} {f : Nat → Bool} (h : Wir wr C wa m f) (hb : B ≤ C) : Wir wr B wa m f := by
  rcases h with h | ⟨g, ha, h1, h2⟩
  · exact .inl h
  · exact .inr ⟨g, ha, Nat.le_trans hb h1, h2⟩
theorem noEval {w w' : World} {D : PackD} {inn st : List Bool} (h : evalE D inn st ≠ 0) (hb : Below w.heap.size w w') : NewEval w D inn st (.returned (.tuple #[.slice none 0 0, .slice none 0 0, .int .i64 (evalE D inn st)])) w' := by
  have e1 : evalO D inn st = [] := by unfold evalO; rw [if_neg h]
  have e2 : evalN D inn st = [] := by unfold evalN; rw [if_neg h]
  exact ⟨none, 0, none, 0, by rw [e1, e2]; rfl, by rw [e1]; exact .inl rfl, by rw [e2]; exact .inl rfl, hb⟩
theorem someEval {w w' : World} {D : PackD} {inn st : List Bool} (h : evalE D inn st = 0) {v1 v2 : Value} {B1 B2 n1 n2 : Nat} {l1 l2 : List Bool} (e1 : l1 = D.outs.map (fun x => evW D inn st x.toNat)) (e2 : l2 = nextOf D (evW D inn st) (flopsL D)) (hn1 : l1.length = n1) (hn2 : l2.length = n2)
    (o1 : w'.ownsRow B1 4 1 v1 n1 (l1.map Value.bool)) (o2 : w'.ownsRow B2 4 1 v2 n2 (l2.map Value.bool)) (hb : Below w.heap.size w w') (z1 : w.heap.size ≤ B1) (z2 : w.heap.size ≤ B2) : NewEval w D inn st (.returned (.tuple #[v1, v2, .int .i64 0])) w' := by
  have f1 : evalO D inn st = l1 := by unfold evalO; rw [if_pos h, e1]
  have f2 : evalN D inn st = l2 := by unfold evalN; rw [if_pos h, e2]
  obtain ⟨a1, c1, rfl, s1⟩ := Wir.of_own o1
  obtain ⟨a2, c2, rfl, s2⟩ := Wir.of_own o2
  subst hn1 hn2
  exact ⟨a1, c1, a2, c2, by rw [f1, f2, h], by rw [f1]; exact s1.mono z1, by rw [f2]; exact s2.mono z2, hb⟩
/-- What is known of blocks that may be. -/
theorem may_all {P : PackV} (hmm : mayB P.data = true) : 0 ≤ P.ins ∧ (∀ b, b < P.bs.length → (∀ x ∈ (P.bs.getD b default).ins, 0 ≤ x ∧ x < P.ins + P.bs.length) ∧ (P.bs.getD b default).ins.length ≤ 4 ∧ 0 ≤ (P.bs.getD b default).tab ∧ (P.bs.getD b default).tab < 65536) ∧ ∀ x ∈ P.os, 0 ≤ x ∧ x < P.ins + P.bs.length := by
  unfold mayB at hmm
  simp only [Bool.and_eq_true, decide_eq_true_eq] at hmm
  refine ⟨hmm.1.1.1, fun b hb => ?_, fun x hx => ?_⟩
  · have := (blk_all P.data _).1 hmm.2.1 b (by rw [data_n]; exact hb)
    rw [data_blk, data_n] at this
    unfold blkB at this
    simp only [Bool.and_eq_true, decide_eq_true_eq, List.all_eq_true] at this
    have h4 := this.1.1.1
    have ht := this.1.1.2.2
    refine ⟨this.2, h4, this.1.1.2.1, ?_⟩
    have hp : (2 : Nat) ^ (2 ^ (P.bs.getD b default).ins.length) ≤ 2 ^ 16 := Nat.pow_le_pow_right (by omega) (by
      have : 2 ^ (P.bs.getD b default).ins.length ≤ 2 ^ 4 := Nat.pow_le_pow_right (by omega) h4
      have e4 : (2 : Nat) ^ 4 = 16 := by decide
      omega)
    have e16 : (2 : Nat) ^ 16 = 65536 := by decide
    have hc : ((2 : Int) ^ (2 ^ (P.bs.getD b default).ins.length)) = ((2 ^ (2 ^ (P.bs.getD b default).ins.length) : Nat) : Int) := by push_cast; rfl
    have ht2 : (P.bs.getD b default).tab < (2 : Int) ^ (2 ^ (P.bs.getD b default).ins.length) := ht
    rw [hc] at ht2
    omega
  · have := hmm.2.2
    rw [List.all_eq_true] at this
    have := this x hx
    rw [data_n] at this
    simpa using this
theorem orderE_zero {D : PackD} (he : orderE D = 0) : mayB D = true ∧ orderT D = (orderL D).map Int.ofNat := by
  have ht : orderT D = (orderL D).map Int.ofNat := by unfold orderT; rw [if_pos he]
  unfold orderE at he
  split at he
  · exact ⟨by assumption, ht⟩
  · cases he
theorem nums_seq {w : World} {B : Nat} {v : Value} {l : List Nat} (h : w.ownsRow B 3 1 v l.length (nums l)) : ∃ a c, v = .slice a l.length c ∧ Seq w a l.length (fun i => .int .i64 (l.getD i 0 : Nat)) := by
  rcases Nat.eq_zero_or_pos l.length with h0 | h0
  · obtain ⟨a, c, rfl⟩ := owns_val h
    exact ⟨a, c, rfl, .inl h0⟩
  · obtain ⟨g, c, rfl, _, _, hc⟩ := owns_cells h h0
    refine ⟨_, c, rfl, .inr ⟨g, 0, rfl, fun i hi => ?_⟩⟩
    rw [Nat.zero_add, hc i (by unfold nums; rw [List.length_map]; exact hi)]
    unfold nums
    rw [List.getElem_map]
    show _ = some (Value.int .i64 ((l.getD i 0 : Nat) : Int))
    rw [List.getD_eq_getElem?_getD, List.getElem?_eq_getElem hi]; rfl

set_option maxRecDepth 100000 in
set_option maxHeartbeats 32000000 in
theorem eval20 (w : World) (P : PackV) (hP : PackAt w P) (hf : FewP P) (ia : Option Addr) (ic : Nat) (inn : List Bool) (SI : Seq w ia inn.length (bools inn)) (hi300 : inn.length ≤ 600) (sa : Option Addr) (sc : Nat) (st : List Bool) (SS : Seq w sa st.length (bools st)) (hs300 : st.length ≤ 600) :
    Calls Try.prog 20 #[P.val, .slice ia inn.length ic, .slice sa st.length sc] w (NewEval w P.data inn st) := by
  obtain ⟨i4, hi4, hz0, hz1, hz2x⟩ := info_parts info4b
  have H := Lib.hid hP
  have HF := Lib.hid hf
  have HSI := Lib.hid SI
  have HSS := Lib.hid SS
  have hDn := data_n P
  have hDk := data_blk P
  have hDi : P.data.ins = P.ins := rfl
  have hDo : P.data.outs = P.os := rfl
  have hmp := may_all (P := P)
  have hbs := hf.bs
  have hfi := hf.ins
  have hfo := hf.os
  obtain ⟨D, hD⟩ : ∃ D, D = P.data := ⟨_, rfl⟩
  have HD := Lib.hid hD
  rw [← hD] at hDn hDk hDi hDo hmp ⊢
  have hE0 := orderE_zero (D := D)
  have hEv : evalE D inn st = if orderE D = 0 then (if (inn.length : Int) = D.ins ∧ st.length = (flopsL D).length then 0 else 1) else orderE D := rfl
  obtain ⟨E, hE⟩ : ∃ E, E = orderE D := ⟨_, rfl⟩
  obtain ⟨T, hT⟩ : ∃ T, T = orderT D := ⟨_, rfl⟩
  have hTl := orderT_len D
  rw [← hE, ← hT] at hE0
  rw [← hE] at hEv
  rw [← hT, hDn] at hTl
  obtain ⟨nin, hnin⟩ : ∃ n, n = inn.length := ⟨_, rfl⟩
  obtain ⟨nst, hnst⟩ : ∃ n, n = st.length := ⟨_, rfl⟩
  rw [← hnin] at hi300 HSI hEv ⊢
  rw [← hnst] at hs300 HSS hEv ⊢
  have HE := Lib.hid hE
  have HT := Lib.hid hT
  have HE0 := Lib.hid hE0
  have HDn := Lib.hid hDn
  have HDk := Lib.hid hDk
  have HDi := Lib.hid hDi
  have HDo := Lib.hid hDo
  have HMp := Lib.hid hmp
  have HEv := Lib.hid hEv
  have HNin := Lib.hid hnin
  have HNst := Lib.hid hnst
  clear hP hf SI SS hDn hDk hDi hDo hmp hE0 hEv hD hE hT hnin hnst
  obtain ⟨h, hh⟩ : ∃ h, h = w.heap.size := ⟨_, rfl⟩
  obtain ⟨n, hn⟩ : ∃ h, h = P.bs.length := ⟨_, rfl⟩
  obtain ⟨ins, hins⟩ : ∃ h, h = P.ins := ⟨_, rfl⟩
  obtain ⟨ba, hba⟩ : ∃ h, h = P.ba := ⟨_, rfl⟩
  obtain ⟨bc, hbc⟩ : ∃ h, h = P.bc := ⟨_, rfl⟩
  obtain ⟨oa, hoa⟩ : ∃ h, h = P.oa := ⟨_, rfl⟩
  obtain ⟨oc, hoc⟩ : ∃ h, h = P.oc := ⟨_, rfl⟩
  obtain ⟨on, hon⟩ : ∃ h, h = P.os.length := ⟨_, rfl⟩
  have hvv : P.val = .agg #[.int .i64 ins, .slice ba n bc, .slice oa on oc] := by rw [hins, hba, hn, hbc, hoa, hoc, hon]
  have HVv := Lib.hid hvv
  obtain ⟨W1, hW1⟩ : ∃ W1, W1 = w.alloc P.obj := ⟨_, rfl⟩
  have hvo : P.obj = .cells #[.int .i64 ins, .slice ba n bc, .slice oa on oc] 31 := by rw [hins, hba, hn, hbc, hoa, hoc, hon]
  have hx1 := PBox.start w P
  rw [← hW1] at hx1
  have HX1 := Lib.hid hx1
  have x0 := hx1.c0
  have x1 := hx1.c1
  have x2 := hx1.c2
  rw [hvo] at hW1
  rw [hvv]
  rw [← hn] at hbs hTl
  rw [← hins] at hfi
  rw [← hon] at hfo
  rw [← hins, ← hh] at x0
  rw [← hba, ← hn, ← hbc, ← hh] at x1
  rw [← hoa, ← hon, ← hoc, ← hh] at x2
  have HH := Lib.hid hh
  have HN := Lib.hid hn
  have HIns := Lib.hid hins
  have HBa := Lib.hid hba
  have HBc := Lib.hid hbc
  have HOa := Lib.hid hoa
  have HOc := Lib.hid hoc
  have HOn := Lib.hid hon
  have HW1 := Lib.hid hW1
  have C29 := order29 W1 P (H.out.below hx1.below (Nat.le_refl _)) HF.out
  rw [hvv, ← HD.out] at C29
  have HC29 := Lib.hid C29
  clear hh hn hins hba hbc hoa hoc hon hvv hvo hW1 hx1 C29
  go_enter Try.func20, Try.ntmps20
  go_wp2_with fail
  rw [← HW1.out, ← HH.out]
  go_wp2_with fail
  refine Calls.mono HC29.out ?_
  rintro e W2 ⟨ta, tc, rfl, ho2, hb2⟩
  rw [← HT.out] at ho2
  rw [← HT.out, ← HE.out]
  have hx2 := HX1.out.step hb2 HX1.out.size
  have HX2 := Lib.hid hx2
  have y0 := hx2.c0
  have y1 := hx2.c1
  have y2 := hx2.c2
  rw [← HIns.out, ← HH.out] at y0
  rw [← HBa.out, ← HN.out, ← HBc.out, ← HH.out] at y1
  rw [← HOa.out, ← HOn.out, ← HOc.out, ← HH.out] at y2
  by_cases hEz : E = 0
  · subst hEz
    obtain ⟨hmay, hTm⟩ := HE0.out rfl
    obtain ⟨hi0, hmb, hmo⟩ := HMp.out hmay
    have hnum : (T.map (Value.int .i64)) = nums (orderL D) := by rw [hTm]; unfold nums; rw [List.map_map]; rfl
    have hTL : T.length = (orderL D).length := by rw [hTm]; simp
    rw [hnum, hTL] at ho2
    obtain ⟨ta', tc', hv', hsT⟩ := nums_seq ho2
    injection hv' with hv1 hv2 hv3
    rw [← hv1] at hsT
    rw [← HIns.out] at hi0
    have HSTo := Lib.hid hsT
    have HMb := Lib.hid hmb
    have HMo := Lib.hid hmo
    have HTL := Lib.hid hTL
    have C50 := flops50 W2 P (H.out.below hx2.below (Nat.le_refl _)) HF.out.bs
    rw [HVv.out, ← HD.out] at C50
    have HC50 := Lib.hid C50
    obtain ⟨tl, htl⟩ : ∃ t, t = T.length := ⟨_, rfl⟩
    rw [← htl] at hTl HTL ⊢
    clear hmay hTm hnum hTL ho2 hv1 hv2 hv3 hsT hmb hmo htl C50 hb2 hx2
    go_wp2_with fail
    refine Calls.mono HC50.out ?_
    rintro e W3 ⟨kv, rfl, ho3, hb3⟩
    obtain ⟨ka, kc, rfl, hsK⟩ := nums_seq ho3
    have hx3 := HX2.out.step hb3 HX2.out.size
    have HX3 := Lib.hid hx3
    have z0 := hx3.c0
    have z1 := hx3.c1
    have z2 := hx3.c2
    rw [← HIns.out, ← HH.out] at z0
    rw [← HBa.out, ← HN.out, ← HBc.out, ← HH.out] at z1
    rw [← HOa.out, ← HOn.out, ← HOc.out, ← HH.out] at z2
    have HSK3 := Lib.hid hsK
    have HST3 := Lib.hid (HSTo.out.below hb3 (Nat.le_refl _))
    have hkl := flopsTo_len D D.n
    have hkl2 : (flopsL D).length ≤ n := by have := HDn.out; have := HN.out; unfold flopsL; omega
    obtain ⟨nk, hnk⟩ : ∃ k, k = (flopsL D).length := ⟨_, rfl⟩
    rw [← hnk] at hkl2 HSK3 HEv ⊢
    have HNk := Lib.hid hnk
    clear hx3 ho3 hsK hnk hkl hb3 x0 x1 x2 y0 y1 y2
    by_cases hni : (nin : Int) = ins
    · by_cases hns : nst = nk
      · subst hni
        obtain rfl : nst = nk := hns
        have hb1 : ((nin : Int) != (nin : Int)) = false := by simp
        have hb2 : ((nst : Int) != (nst : Int)) = false := by simp
        go_wp2_with fail
        refine wp_region_K (S := fun w' => w'.cell? ⟨h, 1, none⟩ = some (.slice ba n bc)) 6 (by kernel_rfl) (z1) (fun hHeld => ?_)
        refine wpAnyK_take (i := 0) (v := ?_) (by simp only [List.getElem?_toArray, List.getElem?_cons_succ, List.getElem?_cons_zero]; rfl) (by kernel_rfl) (by kernel_rfl) (by kernel_rfl) (by kernel_rfl) (by intro _ _ _ h; exact h) (Or.inl ⟨by rfl, ?_⟩) (by assumption) ?_
        rotate_left
        · intro w hSw; (try dsimp only at hSw); go_simp; try with_reducible rfl
        try simp only [Act.put, List.setIfInBounds_toArray, List.set_cons_zero, List.set_cons_succ]
        refine wpAnyK_take (i := 2) (v := ?_) (by simp only [List.getElem?_toArray, List.getElem?_cons_succ, List.getElem?_cons_zero]; rfl) (by kernel_rfl) (by kernel_rfl) (by kernel_rfl) (by kernel_rfl) (by intro _ _ _ h; exact h) (Or.inl ⟨by rfl, ?_⟩) (by assumption) ?_
        rotate_left
        · intro w hSw; (try dsimp only at hSw); go_simp; try with_reducible rfl
        try simp only [Act.put, List.setIfInBounds_toArray, List.set_cons_zero, List.set_cons_succ]
        refine wpAnyK_take (i := 3) (v := ?_) (by simp only [List.getElem?_toArray, List.getElem?_cons_succ, List.getElem?_cons_zero]; rfl) (by kernel_rfl) (by kernel_rfl) (by kernel_rfl) (by kernel_rfl) (by intro _ _ _ h; exact h) (Or.inl ⟨by rfl, ?_⟩) (by assumption) ?_
        rotate_left
        · intro w hSw; (try dsimp only at hSw); go_simp; try with_reducible rfl
        try simp only [Act.put, List.setIfInBounds_toArray, List.set_cons_zero, List.set_cons_succ]
        refine wpAnyK_take (i := 4) (v := ?_) (by simp only [List.getElem?_toArray, List.getElem?_cons_succ, List.getElem?_cons_zero]; rfl) (by kernel_rfl) (by kernel_rfl) (by kernel_rfl) (by kernel_rfl) (by intro _ _ _ h; exact h) (Or.inl ⟨by rfl, ?_⟩) (by assumption) ?_
        rotate_left
        · intro w hSw; (try dsimp only at hSw); go_simp; try with_reducible rfl
        try simp only [Act.put, List.setIfInBounds_toArray, List.set_cons_zero, List.set_cons_succ]
        refine wpAnyK_ready (rs := [1]) (by kernel_rfl) (by simp) ?_
        refine AllReadyK.cons (o := _) (by simp only [List.getElem?_toArray, List.getElem?_cons_succ, List.getElem?_cons_zero]; rfl) (fun K hK => ?_) AllReadyK.nil
        go_simp
        go_at_call 51
        refine Calls.mono (clone51 W3.drew ia nin ic inn HNin.out.symm (by omega) ((HSI.out.below HX3.out.below (Nat.le_refl _)).below ((Below.refl _ _).drew) (Nat.le_refl _))) ?_
        rintro e W4 ⟨cv, rfl, ho4, hb4⟩
        have HO4 := Lib.hid ho4
        have HB4 := Lib.hid ((Below.refl W3.heap.size W3).drew.trans hb4)
        clear ho4 hb4
        go_simp
        refine hK.out _ _ (fun _ => by exact (HB4.out.cell (p := ⟨_, _, none⟩) (World.block_lt_of_cell? W3 _ z1)).trans z1) (fun hH => ?_)
        have hHeld := hH (by decide)
        clear hK K hH
        try simp only [Act.put, List.setIfInBounds_toArray, List.set_cons_zero, List.set_cons_succ]
        refine wpAnyK_ready (rs := [5]) (by kernel_rfl) (by simp) ?_
        refine AllReadyK.cons (o := _) (by simp only [List.getElem?_toArray, List.getElem?_cons_succ, List.getElem?_cons_zero]; rfl) (fun K hK => ?_) AllReadyK.nil
        rw [if_pos (by rfl)]
        have hs4 : W3.heap.size ≤ W4.heap.size := HB4.out.size
        obtain ⟨wa, wc, W5, hrun, ho5, hg5⟩ := run_zeros_any (P := Try.prog) W3.heap.size 37 3 37 4 i4 (.bool false) 1 .i64 .i64 Try.underlying37 Try.underlying3 hi4 hz0 hz1 hz2x rfl rfl cv nin n (inn.map Value.bool) HO4.out (by omega) (by omega) (by simpa using hs4)
        refine Lib.wp_append_run _ (.tmp 43) (.tmp 46) 37 3 rfl cv _ rfl rfl _ _ hrun ?_
        have hb5 : Below W3.heap.size W3 W5 := HB4.out.grown hg5 (by omega) (fun k e => (HO4.out.lt k e).1)
        have hwir : Wir W5 W3.heap.size wa (nin + n) (fun i => inn.getD i false) := by
          have e : inn.map Value.bool ++ List.replicate n (Value.bool false) = (inn ++ List.replicate n false).map Value.bool := by rw [List.map_append, List.map_replicate]
          rw [e] at ho5
          obtain ⟨a, c, hv, hw⟩ := Wir.of_own ho5
          injection hv with hv
          subst hv
          exact hw.ext (fun i _ => getD_zeros inn n i)
        have HB5 := Lib.hid hb5
        have HWir := Lib.hid hwir
        clear hrun ho5 hg5 hb5 hwir
        refine hK.out _ _ (fun _ => by exact (HB5.out.cell (p := ⟨_, _, none⟩) (World.block_lt_of_cell? W3 _ z1)).trans z1) (fun hH => ?_)
        have hHeld := hH (by decide)
        clear hK K hH
        try simp only [Act.put, List.setIfInBounds_toArray, List.set_cons_zero, List.set_cons_succ]
        refine wpAnyK_ready (rs := [6]) (by kernel_rfl) (by simp) ?_
        refine AllReadyK.cons (o := _) (by simp only [List.getElem?_toArray, List.getElem?_cons_succ, List.getElem?_cons_zero]; rfl) (fun K hK => ?_) AllReadyK.nil
        go_simp

        refine hK.out _ _ (fun h => absurd rfl h) (fun _ => ?_)
        clear hK K
        try simp only [Act.put, List.setIfInBounds_toArray, List.set_cons_zero, List.set_cons_succ]
        refine wpAnyK_done (by kernel_rfl) ?_ _
        go_wp2_with fail
        go_loopw [50] (fun kv wr => ∃ k : Nat, k ≤ nst ∧ kv = .int .i64 k ∧ Hid (Below W3.heap.size W3 wr ∧ Wir wr W3.heap.size wa (nin + n) (fillP D inn st (flopsL D) k))) (fun kv _ => nst - (intOf kv).toNat)
        case atStart => exact ⟨0, by omega, rfl, Lib.hid ⟨HB5.out, HWir.out⟩⟩
        case round =>
          obtain ⟨k, hk, rfl, hh⟩ := hrel
          by_cases hlk : k < nst
          · have hbw := HX3.out.size
            have hB3 := hh.out.1
            obtain ⟨kb, ko, hka, hkbl, hkc⟩ := (HSK3.out.below hB3 (Nat.le_refl _)).at k hlk
            have x0 := hkc k hlk
            have hkt := flopsTo_lt D D.n ((flopsL D).getD k 0) (getD_mem _ 0 (by show k < (flopsL D).length; rw [← HNk.out]; exact hlk))
            have hst : fillP D inn st (flopsL D) (k + 1) = upd (fillP D inn st (flopsL D) k) (D.ins.toNat + (flopsL D).getD k 0) (st.getD k false) := rfl
            rw [HDi.out, ← HIns.out, Int.toNat_natCast] at hst
            obtain ⟨kk, hkk⟩ : ∃ x, x = (flopsL D).getD k 0 := ⟨_, rfl⟩
            rw [← hkk] at x0 hkt hst
            have hkn : kk < n := by have := hkt.1; rw [HDn.out, ← HN.out] at this; exact this
            obtain ⟨sb, so, hsa, hsbl, hsc⟩ := ((HSS.out.below (w' := wr) (HX3.out.below.trans (hB3.mono (by rw [← HH.out] ; have := HX3.out.size; rw [← HH.out] at this; omega))) (Nat.le_refl _))).at k hlk
            have q1 := hsc k hlk
            unfold bools at q1
            obtain ⟨sv, hsv⟩ : ∃ x, x = st.getD k false := ⟨_, rfl⟩
            rw [← hsv] at q1 hst
            have q0 : wr.cell? ⟨h, 0, none⟩ = some (.int .i64 (nin : Int)) := (hB3.cell (p := ⟨_, _, none⟩) (World.block_lt_of_cell? W3 _ z0)).trans z0
            obtain ⟨q, hq⟩ : ∃ q, q = nin + kk := ⟨_, rfl⟩
            rw [← hq] at hst
            have hqm : q < nin + n := by omega
            obtain ⟨g, hwa, hg1, hg2, hgc, hgf, hset⟩ := (hh.out.2.below (w' := wr.drew) (Below.refl _ _).drew).at hqm
            have hgc' : wr.cell? ⟨g, q, none⟩ = some (.bool (fillP D inn st (flopsL D) k q)) := hgc
            have hgf' : wr.frozen? ⟨g, q, none⟩ = false := hgf
            have HSum : Hid (IntKind.i64.wrap ((nin : Int) + (kk : Int)) = (q : Int)) := Lib.hid (by rw [show (nin : Int) + (kk : Int) = (q : Int) by omega]; exact Lib.wrap_i64_small _ (by omega))
            have HN1 : Hid (Below W3.heap.size W3 (wr.drew.setCell ⟨g, q, none⟩ (.bool sv)) ∧ Wir (wr.drew.setCell ⟨g, q, none⟩ (.bool sv)) W3.heap.size wa (nin + n) (fillP D inn st (flopsL D) (k + 1))) := Lib.hid ⟨hB3.drew.setCell hg1 _, by rw [hst]; exact hset sv⟩
            have HQ := Lib.hid hq
            clear hq hkc hkt hst hkk hsc hsv hset hB3 hh hgc hgf
            subst hka hsa hwa
            go_wp2_with fail
            refine wp_region_K (S := fun w' => w'.cell? ⟨h, 0, none⟩ = some (.int .i64 (nin : Int)) ∧ w'.cell? ⟨sb, so + k, none⟩ = some (.bool sv)) 10 (by kernel_rfl) (⟨q0, q1⟩) (fun hHeld => ?_)
            refine wpAnyK_take (i := 0) (v := ?_) (by simp only [List.getElem?_toArray, List.getElem?_cons_succ, List.getElem?_cons_zero]; rfl) (by kernel_rfl) (by kernel_rfl) (by kernel_rfl) (by kernel_rfl) (by intro _ _ _ h; exact h) (Or.inl ⟨by rfl, ?_⟩) (by assumption) ?_
            rotate_left
            · intro w hSw; (try dsimp only at hSw); go_simp; try with_reducible rfl
            try simp only [Act.put, List.setIfInBounds_toArray, List.set_cons_zero, List.set_cons_succ]
            refine wpAnyK_take (i := 1) (v := ?_) (by simp only [List.getElem?_toArray, List.getElem?_cons_succ, List.getElem?_cons_zero]; rfl) (by kernel_rfl) (by kernel_rfl) (by kernel_rfl) (by kernel_rfl) (by intro _ _ _ h; exact h) (Or.inl ⟨by rfl, ?_⟩) (by assumption) ?_
            rotate_left
            · intro w hSw; (try dsimp only at hSw); go_simp; try with_reducible rfl
            try simp only [Act.put, List.setIfInBounds_toArray, List.set_cons_zero, List.set_cons_succ]
            refine wpAnyK_take (i := 2) (v := ?_) (by simp only [List.getElem?_toArray, List.getElem?_cons_succ, List.getElem?_cons_zero]; rfl) (by kernel_rfl) (by kernel_rfl) (by kernel_rfl) (by kernel_rfl) (by intro _ _ _ h; exact h) (Or.inl ⟨by rfl, ?_⟩) (by assumption) ?_
            rotate_left
            · intro w hSw; (try dsimp only at hSw); go_simp; try with_reducible rfl
            try simp only [Act.put, List.setIfInBounds_toArray, List.set_cons_zero, List.set_cons_succ]
            refine wpAnyK_take (i := 3) (v := ?_) (by simp only [List.getElem?_toArray, List.getElem?_cons_succ, List.getElem?_cons_zero]; rfl) (by kernel_rfl) (by kernel_rfl) (by kernel_rfl) (by kernel_rfl) (by intro _ _ _ h; exact h) (Or.inl ⟨by rfl, ?_⟩) (by assumption) ?_
            rotate_left
            · intro w hSw; (try dsimp only at hSw); go_simp; try with_reducible rfl
            try simp only [Act.put, List.setIfInBounds_toArray, List.set_cons_zero, List.set_cons_succ]
            refine wpAnyK_take (i := 4) (v := ?_) (by simp only [List.getElem?_toArray, List.getElem?_cons_succ, List.getElem?_cons_zero]; rfl) (by kernel_rfl) (by kernel_rfl) (by kernel_rfl) (by kernel_rfl) (by intro _ _ _ h; exact h) (Or.inl ⟨by rfl, ?_⟩) (by assumption) ?_
            rotate_left
            · intro w hSw; (try dsimp only at hSw); go_simp; rw [HSum.out]
            try simp only [Act.put, List.setIfInBounds_toArray, List.set_cons_zero, List.set_cons_succ]
            refine wpAnyK_take (i := 5) (v := ?_) (by simp only [List.getElem?_toArray, List.getElem?_cons_succ, List.getElem?_cons_zero]; rfl) (by kernel_rfl) (by kernel_rfl) (by kernel_rfl) (by kernel_rfl) (by intro _ _ _ h; exact h) (Or.inl ⟨by rfl, ?_⟩) (by assumption) ?_
            rotate_left
            · intro w hSw; (try dsimp only at hSw); go_simp; try with_reducible rfl
            try simp only [Act.put, List.setIfInBounds_toArray, List.set_cons_zero, List.set_cons_succ]
            refine wpAnyK_take (i := 6) (v := ?_) (by simp only [List.getElem?_toArray, List.getElem?_cons_succ, List.getElem?_cons_zero]; rfl) (by kernel_rfl) (by kernel_rfl) (by kernel_rfl) (by kernel_rfl) (by intro _ _ _ h; exact h) (Or.inl ⟨by rfl, ?_⟩) (by assumption) ?_
            rotate_left
            · intro w hSw; (try dsimp only at hSw); go_simp; try with_reducible rfl
            try simp only [Act.put, List.setIfInBounds_toArray, List.set_cons_zero, List.set_cons_succ]
            refine wpAnyK_take (i := 7) (v := ?_) (by simp only [List.getElem?_toArray, List.getElem?_cons_succ, List.getElem?_cons_zero]; rfl) (by kernel_rfl) (by kernel_rfl) (by kernel_rfl) (by kernel_rfl) (by intro _ _ _ h; exact h) (Or.inl ⟨by rfl, ?_⟩) (by assumption) ?_
            rotate_left
            · intro w hSw; (try dsimp only at hSw); go_simp; first | with_reducible rfl | rw [if_pos (by omega)]
            try simp only [Act.put, List.setIfInBounds_toArray, List.set_cons_zero, List.set_cons_succ]
            refine wpAnyK_take (i := 8) (v := ?_) (by simp only [List.getElem?_toArray, List.getElem?_cons_succ, List.getElem?_cons_zero]; rfl) (by kernel_rfl) (by kernel_rfl) (by kernel_rfl) (by kernel_rfl) (by intro _ _ _ h; exact h) (Or.inl ⟨by rfl, ?_⟩) (by assumption) ?_
            rotate_left
            · intro w hSw; (try dsimp only at hSw); go_simp; try with_reducible rfl
            try simp only [Act.put, List.setIfInBounds_toArray, List.set_cons_zero, List.set_cons_succ]
            refine wpAnyK_take (i := 9) (v := ?_) (by simp only [List.getElem?_toArray, List.getElem?_cons_succ, List.getElem?_cons_zero]; rfl) (by kernel_rfl) (by kernel_rfl) (by kernel_rfl) (by kernel_rfl) (by intro _ _ _ h; exact h) (Or.inl ⟨by rfl, ?_⟩) (by assumption) ?_
            rotate_left
            · intro w hSw; (try dsimp only at hSw); go_simp; first | with_reducible rfl | rw [if_pos (by omega)]
            try simp only [Act.put, List.setIfInBounds_toArray, List.set_cons_zero, List.set_cons_succ]
            refine wpAnyK_ready (rs := [10]) (by kernel_rfl) (by simp) ?_
            refine AllReadyK.cons (o := _) (by simp only [List.getElem?_toArray, List.getElem?_cons_succ, List.getElem?_cons_zero]; rfl) (fun K hK => ?_) AllReadyK.nil
            go_simp

            refine hK.out _ _ (fun h => absurd rfl h) (fun _ => ?_)
            clear hK K
            try simp only [Act.put, List.setIfInBounds_toArray, List.set_cons_zero, List.set_cons_succ]
            refine wpAnyK_done (by kernel_rfl) ?_ _
            go_wp2_with fail
            go_roundw
            case rel => exact ⟨k + 1, by omega, by go_num, HN1⟩
            case measure => simp [intOf]; omega
          · obtain rfl : nst = k := by omega
            have hWF : Wir wr W3.heap.size wa (nin + n) (wireF D inn st) := by
              rw [← wireF_prog D inn st (by rw [← HNin.out, HDi.out, ← HIns.out]; simp), ← HNk.out]
              exact hh.out.2
            have HWF : Hid (Below W3.heap.size W3 wr ∧ Wir wr W3.heap.size wa (nin + n) (evT D (orderL D) (wireF D inn st) 0)) := Lib.hid ⟨hh.out.1, hWF⟩
            clear hWF hh hlk hk
            go_wp2_with fail
            go_loopw [68] (fun tv wr => ∃ t : Nat, t ≤ tl ∧ tv = .int .i64 t ∧ Hid (Below W3.heap.size W3 wr ∧ Wir wr W3.heap.size wa (nin + n) (evT D (orderL D) (wireF D inn st) t))) (fun tv _ => tl - (intOf tv).toNat)
            case atStart => exact ⟨0, by omega, rfl, HWF⟩
            case round =>
              obtain ⟨t, ht, rfl, hh⟩ := hrel
              by_cases hlt : t < tl
              · obtain ⟨tb, to_, hta, htbl, htc⟩ := (HST3.out.below hh.out.1 (Nat.le_refl _)).at t (by rw [← HTL.out]; exact hlt)
                have x0 := htc t (by rw [← HTL.out]; exact hlt)
                have hbt := (orderL_told D).lt ((orderL D).getD t 0) (getD_mem _ 0 (by rw [← HTL.out]; exact hlt))
                have hst : evT D (orderL D) (wireF D inn st) (t + 1) = upd (evT D (orderL D) (wireF D inn st) t) (D.ins.toNat + (orderL D).getD t 0) (valueB (D.blk ((orderL D).getD t 0)).ins (D.blk ((orderL D).getD t 0)).tab (evT D (orderL D) (wireF D inn st) t)) := rfl
                rw [HDi.out, ← HIns.out, Int.toNat_natCast] at hst
                obtain ⟨b, hb⟩ : ∃ x, x = (orderL D).getD t 0 := ⟨_, rfl⟩
                rw [← hb] at x0 hbt hst
                have hbn : b < n := by have := hbt.1; rw [HDn.out, ← HN.out] at this; exact this
                have hB3 := hh.out.1
                have hB7 : Below w.heap.size w wr := HX3.out.below.trans (hB3.mono (by have := HX3.out.size; omega))
                obtain ⟨kb2, ko2, hba2, hkbl2, d0, d1, d2, d3⟩ := (H.out.below hB7 (Nat.le_refl _)).blk b (by rw [← HN.out]; exact hbn)
                rw [← HBa.out] at hba2
                have hEach := ((H.out.below hB7 (Nat.le_refl _)).each _ (getD_mem P.bs default (by rw [← HN.out]; exact hbn : b < P.bs.length)))
                have hmb := HMb.out b (by rw [← HN.out]; exact hbn)
                rw [← HIns.out, ← HN.out] at hmb
                have hbk := HDk.out b
                obtain ⟨L, hLe⟩ : ∃ L, L = P.bs.getD b default := ⟨_, rfl⟩
                rw [← hLe] at d0 d1 d2 d3 hEach hmb hbk
                obtain ⟨La, Lc, Li, Lt, Lf, Ln⟩ := L
                dsimp only at d0 d1 d2 d3 hEach hmb hbk
                obtain ⟨hin0, hl4, ht0, ht1⟩ := hmb
                have HIn : Hid (∀ x ∈ Li, 0 ≤ x ∧ x < ((nin + n : Nat) : Int)) := Lib.hid (fun x hx => by have := hin0 x hx; omega)
                have HBk := Lib.hid hbk
                rw [hbk] at hst
                dsimp only at hst
                obtain ⟨wv, hwv⟩ : ∃ f, f = evT D (orderL D) (wireF D inn st) t := ⟨_, rfl⟩
                rw [← hwv] at hst
                obtain ⟨q, hq⟩ : ∃ q, q = nin + b := ⟨_, rfl⟩
                rw [← hq] at hst
                have hqm : q < nin + n := by omega
                have hWd : Wir wr.drew W3.heap.size wa (nin + n) wv := by rw [hwv]; exact hh.out.2.below (Below.refl _ _).drew
                obtain ⟨g, hwa, hg1, hg2, _, _, _⟩ := hWd.at hqm
                have q0 : wr.cell? ⟨h, 0, none⟩ = some (.int .i64 (nin : Int)) := (hB3.cell (p := ⟨_, _, none⟩) (World.block_lt_of_cell? W3 _ z0)).trans z0
                have q1 : wr.cell? ⟨h, 1, none⟩ = some (.slice ba n bc) := (hB3.cell (p := ⟨_, _, none⟩) (World.block_lt_of_cell? W3 _ z1)).trans z1
                have HSum : Hid (IntKind.i64.wrap ((nin : Int) + (b : Int)) = (q : Int)) := Lib.hid (by rw [show (nin : Int) + (b : Int) = (q : Int) by omega]; exact Lib.wrap_i64_small _ (by omega))
                have HSqD := Lib.hid (hEach.1.below (w' := wr.drew) (Below.refl _ _).drew (Nat.le_refl _))
                have HB3 := Lib.hid hB3
                have HStp := Lib.hid hst
                have HQ := Lib.hid hq
                rw [hwa] at hWd
                have HWq := Lib.hid hWd
                clear hq htc hbt hst hb hLe hEach hbk hin0 hB3 hB7 hh hwv hWd
                subst hta hwa hba2
                go_wp2_with fail
                refine wp_region_K (S := fun w' => w'.cell? ⟨h, 0, none⟩ = some (.int .i64 (nin : Int)) ∧ w'.cell? ⟨h, 1, none⟩ = some (.slice (some ⟨kb2, ko2, none⟩) n bc) ∧ w'.cell? ⟨kb2, ko2 + b * 4, none⟩ = some (.slice La Li.length Lc) ∧ w'.cell? ⟨kb2, ko2 + b * 4 + 1, none⟩ = some (.int .i64 Lt) ∧ w'.cell? ⟨kb2, ko2 + b * 4 + 2, none⟩ = some (.bool Lf) ∧ w'.cell? ⟨kb2, ko2 + b * 4 + 3, none⟩ = some (.bool Ln)) 13 (by kernel_rfl) (⟨q0, q1, d0, d1, d2, d3⟩) (fun hHeld => ?_)
                refine wpAnyK_take (i := 0) (v := ?_) (by simp only [List.getElem?_toArray, List.getElem?_cons_succ, List.getElem?_cons_zero]; rfl) (by kernel_rfl) (by kernel_rfl) (by kernel_rfl) (by kernel_rfl) (by intro _ _ _ h; exact h) (Or.inl ⟨by rfl, ?_⟩) (by assumption) ?_
                rotate_left
                · intro w hSw; (try dsimp only at hSw); go_simp; try with_reducible rfl
                try simp only [Act.put, List.setIfInBounds_toArray, List.set_cons_zero, List.set_cons_succ]
                refine wpAnyK_take (i := 1) (v := ?_) (by simp only [List.getElem?_toArray, List.getElem?_cons_succ, List.getElem?_cons_zero]; rfl) (by kernel_rfl) (by kernel_rfl) (by kernel_rfl) (by kernel_rfl) (by intro _ _ _ h; exact h) (Or.inl ⟨by rfl, ?_⟩) (by assumption) ?_
                rotate_left
                · intro w hSw; (try dsimp only at hSw); go_simp; try with_reducible rfl
                try simp only [Act.put, List.setIfInBounds_toArray, List.set_cons_zero, List.set_cons_succ]
                refine wpAnyK_take (i := 2) (v := ?_) (by simp only [List.getElem?_toArray, List.getElem?_cons_succ, List.getElem?_cons_zero]; rfl) (by kernel_rfl) (by kernel_rfl) (by kernel_rfl) (by kernel_rfl) (by intro _ _ _ h; exact h) (Or.inl ⟨by rfl, ?_⟩) (by assumption) ?_
                rotate_left
                · intro w hSw; (try dsimp only at hSw); go_simp; try with_reducible rfl
                try simp only [Act.put, List.setIfInBounds_toArray, List.set_cons_zero, List.set_cons_succ]
                refine wpAnyK_take (i := 3) (v := ?_) (by simp only [List.getElem?_toArray, List.getElem?_cons_succ, List.getElem?_cons_zero]; rfl) (by kernel_rfl) (by kernel_rfl) (by kernel_rfl) (by kernel_rfl) (by intro _ _ _ h; exact h) (Or.inl ⟨by rfl, ?_⟩) (by assumption) ?_
                rotate_left
                · intro w hSw; (try dsimp only at hSw); go_simp; try with_reducible rfl
                try simp only [Act.put, List.setIfInBounds_toArray, List.set_cons_zero, List.set_cons_succ]
                refine wpAnyK_take (i := 4) (v := ?_) (by simp only [List.getElem?_toArray, List.getElem?_cons_succ, List.getElem?_cons_zero]; rfl) (by kernel_rfl) (by kernel_rfl) (by kernel_rfl) (by kernel_rfl) (by intro _ _ _ h; exact h) (Or.inl ⟨by rfl, ?_⟩) (by assumption) ?_
                rotate_left
                · intro w hSw; (try dsimp only at hSw); go_simp; rw [HSum.out]
                try simp only [Act.put, List.setIfInBounds_toArray, List.set_cons_zero, List.set_cons_succ]
                refine wpAnyK_take (i := 5) (v := ?_) (by simp only [List.getElem?_toArray, List.getElem?_cons_succ, List.getElem?_cons_zero]; rfl) (by kernel_rfl) (by kernel_rfl) (by kernel_rfl) (by kernel_rfl) (by intro _ _ _ h; exact h) (Or.inl ⟨by rfl, ?_⟩) (by assumption) ?_
                rotate_left
                · intro w hSw; (try dsimp only at hSw); go_simp; try with_reducible rfl
                try simp only [Act.put, List.setIfInBounds_toArray, List.set_cons_zero, List.set_cons_succ]
                refine wpAnyK_take (i := 6) (v := ?_) (by simp only [List.getElem?_toArray, List.getElem?_cons_succ, List.getElem?_cons_zero]; rfl) (by kernel_rfl) (by kernel_rfl) (by kernel_rfl) (by kernel_rfl) (by intro _ _ _ h; exact h) (Or.inl ⟨by rfl, ?_⟩) (by assumption) ?_
                rotate_left
                · intro w hSw; (try dsimp only at hSw); go_simp; try with_reducible rfl
                try simp only [Act.put, List.setIfInBounds_toArray, List.set_cons_zero, List.set_cons_succ]
                refine wpAnyK_take (i := 7) (v := ?_) (by simp only [List.getElem?_toArray, List.getElem?_cons_succ, List.getElem?_cons_zero]; rfl) (by kernel_rfl) (by kernel_rfl) (by kernel_rfl) (by kernel_rfl) (by intro _ _ _ h; exact h) (Or.inl ⟨by rfl, ?_⟩) (by assumption) ?_
                rotate_left
                · intro w hSw; (try dsimp only at hSw); go_simp; try with_reducible rfl
                try simp only [Act.put, List.setIfInBounds_toArray, List.set_cons_zero, List.set_cons_succ]
                refine wpAnyK_take (i := 8) (v := ?_) (by simp only [List.getElem?_toArray, List.getElem?_cons_succ, List.getElem?_cons_zero]; rfl) (by kernel_rfl) (by kernel_rfl) (by kernel_rfl) (by kernel_rfl) (by intro _ _ _ h; exact h) (Or.inl ⟨by rfl, ?_⟩) (by assumption) ?_
                rotate_left
                · intro w hSw; (try dsimp only at hSw); go_simp; first | with_reducible rfl | rw [if_pos (by omega)]
                try simp only [Act.put, List.setIfInBounds_toArray, List.set_cons_zero, List.set_cons_succ]
                refine wpAnyK_take (i := 9) (v := ?_) (by simp only [List.getElem?_toArray, List.getElem?_cons_succ, List.getElem?_cons_zero]; rfl) (by kernel_rfl) (by kernel_rfl) (by kernel_rfl) (by kernel_rfl) (by intro _ _ _ h; exact h) (Or.inl ⟨by rfl, ?_⟩) (by assumption) ?_
                rotate_left
                · intro w hSw; (try dsimp only at hSw); go_simp; try with_reducible rfl
                try simp only [Act.put, List.setIfInBounds_toArray, List.set_cons_zero, List.set_cons_succ]
                refine wpAnyK_take (i := 10) (v := ?_) (by simp only [List.getElem?_toArray, List.getElem?_cons_succ, List.getElem?_cons_zero]; rfl) (by kernel_rfl) (by kernel_rfl) (by kernel_rfl) (by kernel_rfl) (by intro _ _ _ h; exact h) (Or.inl ⟨by rfl, ?_⟩) (by assumption) ?_
                rotate_left
                · intro w hSw; (try dsimp only at hSw); go_simp; try with_reducible rfl
                try simp only [Act.put, List.setIfInBounds_toArray, List.set_cons_zero, List.set_cons_succ]
                refine wpAnyK_ready (rs := [11]) (by kernel_rfl) (by simp) ?_
                refine AllReadyK.cons (o := _) (by simp only [List.getElem?_toArray, List.getElem?_cons_succ, List.getElem?_cons_zero]; rfl) (fun K hK => ?_) AllReadyK.nil
                go_simp
                go_at_call 52
                refine Calls.mono (value52 wr.drew La Lc Li Lt Lf Ln (some ⟨g, 0, none⟩) (nin + n) wc _ HSqD.out HWq.out.seq hl4 HIn.out ht0 ht1 (by omega)) ?_
                rintro e w7 ⟨rfl, hb7⟩
                have hW7 := HWq.out.below hb7
                obtain ⟨g7, hwa7, _, _, hgc, hgf, hset⟩ := hW7.at hqm
                have hge : g7 = g := by injection hwa7 with e; injection e with e; exact e.symm
                rw [hge] at hgc hgf hset
                have kk7 : ∀ {c o : Nat} {v : Value}, wr.cell? ⟨c, o, none⟩ = some v → w7.cell? ⟨c, o, none⟩ = some v := fun {c o v} hc => (hb7.cell (p := ⟨c, o, none⟩) (World.block_lt_of_cell? wr _ hc)).trans hc
                have HN1 : Hid (Below W3.heap.size W3 (w7.setCell ⟨g, q, none⟩ (.bool (valueB Li Lt wv))) ∧ Wir (w7.setCell ⟨g, q, none⟩ (.bool (valueB Li Lt wv))) W3.heap.size (some ⟨g, 0, none⟩) (nin + n) (evT D (orderL D) (wireF D inn st) (t + 1))) := Lib.hid ⟨((HB3.out.drew).trans (hb7.mono (by simpa using HB3.out.size))).setCell hg1 _, by rw [HStp.out]; exact hset _⟩
                have r0 := kk7 q0
                have r1 := kk7 q1
                have r2 := kk7 d0
                have r3 := kk7 d1
                have r4 := kk7 d2
                have r5 := kk7 d3
                clear hb7 hW7 hwa7 hge hset kk7
                go_simp
                refine hK.out _ _ (fun _ => by exact ⟨r0, r1, r2, r3, r4, r5⟩) (fun hH => ?_)
                have hHeld := hH (by decide)
                clear hK K hH
                try simp only [Act.put, List.setIfInBounds_toArray, List.set_cons_zero, List.set_cons_succ]
                refine wpAnyK_take (i := 12) (v := ?_) (by simp only [List.getElem?_toArray, List.getElem?_cons_succ, List.getElem?_cons_zero]; rfl) (by kernel_rfl) (by kernel_rfl) (by kernel_rfl) (by kernel_rfl) (by intro _ _ _ h; exact h) (Or.inl ⟨by rfl, ?_⟩) (by assumption) ?_
                rotate_left
                · intro w hSw; (try dsimp only at hSw); go_simp; first | with_reducible rfl | rw [if_pos (by omega)]
                try simp only [Act.put, List.setIfInBounds_toArray, List.set_cons_zero, List.set_cons_succ]
                refine wpAnyK_ready (rs := [13]) (by kernel_rfl) (by simp) ?_
                refine AllReadyK.cons (o := _) (by simp only [List.getElem?_toArray, List.getElem?_cons_succ, List.getElem?_cons_zero]; rfl) (fun K hK => ?_) AllReadyK.nil
                go_simp

                refine hK.out _ _ (fun h => absurd rfl h) (fun _ => ?_)
                clear hK K
                try simp only [Act.put, List.setIfInBounds_toArray, List.set_cons_zero, List.set_cons_succ]
                refine wpAnyK_done (by kernel_rfl) ?_ _
                go_wp2_with fail
                go_roundw
                case rel => exact ⟨t + 1, by omega, by go_num, HN1⟩
                case measure => simp [intOf]; omega
              · obtain rfl : tl = t := by omega
                have hWE : Wir wr W3.heap.size wa (nin + n) (evW D inn st) := by
                  have := hh.out.2
                  rw [HTL.out] at this
                  exact this
                obtain ⟨W6, hW6⟩ : ∃ W, W = wr := ⟨_, rfl⟩
                rw [← hW6] at hWE
                have HB6 : Hid (Below W3.heap.size W3 W6) := Lib.hid (by rw [hW6]; exact hh.out.1)
                have hz2 : W6.cell? ⟨h, 2, none⟩ = some (.slice oa on oc) := (HB6.out.cell (p := ⟨_, _, none⟩) (World.block_lt_of_cell? W3 _ z2)).trans z2
                have HWE := Lib.hid hWE
                have HB67 : Hid (Below w.heap.size w W6) := Lib.hid (HX3.out.below.trans (HB6.out.mono (by have := HX3.out.size; omega)))
                rw [← hW6]
                clear hh hW6 hWE hlt ht
                go_wp2_with fail
                go_loopw [6, 89] (fun ov jv wr => ∃ (j : Nat) (v : Value), j ≤ on ∧ jv = .int .i64 j ∧ v = ov ∧ Hid (Below W6.heap.size W6 wr ∧ wr.ownsRow W6.heap.size 4 1 v j (((P.os.take j).map (fun x => evW D inn st x.toNat)).map Value.bool))) (fun _ jv _ => on - (intOf jv).toNat)
                case atStart => exact ⟨0, _, by omega, rfl, rfl, Lib.hid ⟨Below.refl _ _, World.ownsRow_nil _ _ _ _⟩⟩
                case round =>
                  obtain ⟨j, v, hj, rfl, rfl, hh⟩ := hrel
                  by_cases hlj : j < on
                  · have hjo : j < P.os.length := by rw [← HOn.out]; exact hlj
                    have hB7 : Below w.heap.size w wr := HB67.out.trans (hh.out.1.mono HB67.out.size)
                    obtain ⟨ob, oo, hoa2, hobl, hoc2⟩ := (H.out.below hB7 (Nat.le_refl _)).outs.at j hjo
                    rw [← HOa.out] at hoa2
                    have x0 := hoc2 j hjo
                    unfold ints at x0
                    have hxm := HMo.out _ (getD_mem P.os 0 hjo)
                    rw [← HIns.out, ← HN.out] at hxm
                    have htk := take_one P.os 0 j hjo
                    obtain ⟨x, hx⟩ : ∃ x, x = P.os.getD j 0 := ⟨_, rfl⟩
                    rw [← hx] at x0 hxm htk
                    obtain ⟨xn, rfl⟩ : ∃ k : Nat, x = k := ⟨x.toNat, by omega⟩
                    have hxn : xn < nin + n := by omega
                    obtain ⟨g, hwa, hg1, hg2, hgc, hgf, _⟩ := (HWE.out.below hh.out.1).at hxn
                    obtain ⟨bv, hbv⟩ : ∃ b, b = evW D inn st xn := ⟨_, rfl⟩
                    rw [← hbv] at hgc
                    obtain ⟨xs, hxs⟩ : ∃ l, l = (P.os.take j).map (fun x => evW D inn st x.toNat) := ⟨_, rfl⟩
                    have hxs2 : (P.os.take (j + 1)).map (fun x => evW D inn st x.toNat) = xs ++ [bv] := by rw [htk, List.map_append, ← hxs, hbv]; simp
                    have ho := hh.out.2
                    rw [← hxs] at ho
                    have HO := Lib.hid ho
                    have HXs2 := Lib.hid hxs2
                    have HB := Lib.hid hh.out.1
                    clear hoc2 hx htk hbv hxs hxs2 ho hB7 hh
                    have hsz6 := HB.out.size
                    subst hoa2 hwa
                    go_wp2_with (at_builtin; refine wpList_append_lies _ rfl _ _ _ rfl W6.heap.size 4 i4 (.bool false) 1 1 Try.underlying37 hi4 hz0 hz1 hz2x rfl (by decide) v j (xs.map Value.bool) rfl (HO.out.alloc _) ⟨wr.heap.size, 0, none⟩ 1 1 [.bool bv] rfl rfl (one_new (cell_newW _ _ _)) (by simp [Value.oneCell']) (by omega) (by unfold maxLen; omega) (by omega) (by simp; omega) (wr.heap.size + 1) (by simp) ?_)
                    intro gB cB w9 ho9 hg9 hat9 hlt9
                    have HN2 : Hid (Below W6.heap.size W6 w9 ∧ w9.ownsRow W6.heap.size 4 1 (.slice (some ⟨gB, 0, none⟩) (j + 1) cB) (j + 1) (((P.os.take (j + 1)).map (fun x => evW D inn st x.toNat)).map Value.bool)) := Lib.hid ⟨(HB.out.alloc hsz6 (Obj.cells #[Value.bool bv] 4)).grown hg9 (by simp; omega) (fun k e => (HO.out.lt k e).1), by rw [HXs2.out, List.map_append]; exact ho9⟩
                    clear ho9 hg9 hat9 hlt9
                    go_wp2_with fail
                    go_roundw
                    case rel => exact ⟨j + 1, _, by omega, by go_num, rfl, HN2⟩
                    case measure => simp [intOf]; omega
                  · obtain rfl : on = j := by omega
                    obtain ⟨W7, hW7⟩ : ∃ W, W = wr := ⟨_, rfl⟩
                    have hOv : W7.ownsRow W6.heap.size 4 1 v on ((P.os.map (fun x => evW D inn st x.toNat)).map Value.bool) := by
                      have h2 := hh.out.2
                      rw [hW7, show P.os.take on = P.os from List.take_of_length_le (by rw [← HOn.out]; exact Nat.le_refl _)] at *
                      exact h2
                    have HOv := Lib.hid hOv
                    have HB7 : Hid (Below W6.heap.size W6 W7) := Lib.hid (by rw [hW7]; exact hh.out.1)
                    have hW7e : Wir W7 W3.heap.size wa (nin + n) (evW D inn st) := HWE.out.below HB7.out
                    have HWE7 := Lib.hid hW7e
                    have HB77 : Hid (Below w.heap.size w W7) := Lib.hid (HB67.out.trans (HB7.out.mono HB67.out.size))
                    have HB37 : Hid (Below W3.heap.size W3 W7) := Lib.hid (HB6.out.trans (HB7.out.mono HB6.out.size))
                    have hz17 : W7.cell? ⟨h, 1, none⟩ = some (.slice ba n bc) := (HB37.out.cell (p := ⟨_, _, none⟩) (World.block_lt_of_cell? W3 _ z1)).trans z1
                    have HZ17 := Lib.hid hz17
                    rw [← hW7]
                    clear hh hW7 hOv hW7e hlj hj hz17
                    go_wp2_with fail
                    go_loopw [7, 103] (fun ov jv wr => ∃ (k : Nat) (u : Value), k ≤ nst ∧ jv = .int .i64 k ∧ u = ov ∧ Hid (Below W7.heap.size W7 wr ∧ wr.ownsRow W7.heap.size 4 1 u k ((nextOf D (evW D inn st) ((flopsL D).take k)).map Value.bool))) (fun _ jv _ => nst - (intOf jv).toNat)
                    case atStart => exact ⟨0, _, by omega, rfl, rfl, Lib.hid ⟨Below.refl _ _, World.ownsRow_nil _ _ _ _⟩⟩
                    case round =>
                      obtain ⟨k, u, hk, rfl, rfl, hh⟩ := hrel
                      by_cases hlk : k < nst
                      · have hB3 : Below W3.heap.size W3 wr := HB37.out.trans (hh.out.1.mono HB37.out.size)
                        have hB7 : Below w.heap.size w wr := HX3.out.below.trans (hB3.mono (by have := HX3.out.size; omega))
                        have hkl : k < (flopsL D).length := by rw [← HNk.out]; exact hlk
                        obtain ⟨kb, ko, hka, hkbl, hkc⟩ := (HSK3.out.below hB3 (Nat.le_refl _)).at k hlk
                        have x0 := hkc k hlk
                        have hkt := flopsTo_lt D D.n ((flopsL D).getD k 0) (getD_mem _ 0 hkl)
                        have htk := take_one (flopsL D) 0 k hkl
                        obtain ⟨b, hb⟩ : ∃ x, x = (flopsL D).getD k 0 := ⟨_, rfl⟩
                        rw [← hb] at x0 hkt htk
                        have hbn : b < n := by have := hkt.1; rw [HDn.out, ← HN.out] at this; exact this
                        obtain ⟨kb2, ko2, hba2, hkbl2, d0, d1, d2, d3⟩ := (H.out.below hB7 (Nat.le_refl _)).blk b (by rw [← HN.out]; exact hbn)
                        rw [← HBa.out] at hba2
                        have hEach := ((H.out.below hB7 (Nat.le_refl _)).each _ (getD_mem P.bs default (by rw [← HN.out]; exact hbn : b < P.bs.length)))
                        have hmb := HMb.out b (by rw [← HN.out]; exact hbn)
                        rw [← HIns.out, ← HN.out] at hmb
                        have hbk := HDk.out b
                        obtain ⟨L, hLe⟩ : ∃ L, L = P.bs.getD b default := ⟨_, rfl⟩
                        rw [← hLe] at d0 d1 d2 d3 hEach hmb hbk
                        obtain ⟨La, Lc, Li, Lt, Lf, Ln⟩ := L
                        dsimp only at d0 d1 d2 d3 hEach hmb hbk
                        obtain ⟨hin0, hl4, ht0, ht1⟩ := hmb
                        have HIn : Hid (∀ x ∈ Li, 0 ≤ x ∧ x < ((nin + n : Nat) : Int)) := Lib.hid (fun x hx => by have := hin0 x hx; omega)
                        have q1 : wr.cell? ⟨h, 1, none⟩ = some (.slice ba n bc) := (hh.out.1.cell (p := ⟨_, _, none⟩) (World.block_lt_of_cell? W7 _ HZ17.out)).trans HZ17.out
                        have HSq := Lib.hid hEach.1
                        have HWr := Lib.hid (HWE7.out.below hh.out.1)
                        obtain ⟨bv, hbv⟩ : ∃ b, b = valueB Li Lt (evW D inn st) := ⟨_, rfl⟩
                        have C52 := value52 wr La Lc Li Lt Lf Ln wa (nin + n) wc _ HSq.out HWr.out.seq hl4 HIn.out ht0 ht1 (by omega)
                        rw [← hbv] at C52
                        have HC52 := Lib.hid C52
                        obtain ⟨xs, hxs⟩ : ∃ l, l = nextOf D (evW D inn st) ((flopsL D).take k) := ⟨_, rfl⟩
                        have hxs2 : nextOf D (evW D inn st) ((flopsL D).take (k + 1)) = xs ++ [bv] := by
                          rw [htk, hxs, hbv]
                          unfold nextOf
                          rw [List.map_append, List.map_cons, List.map_nil, hbk]
                        have ho := hh.out.2
                        rw [← hxs] at ho
                        have HO := Lib.hid ho
                        have HXs2 := Lib.hid hxs2
                        have HB := Lib.hid hh.out.1
                        have hsz7 := HB.out.size
                        clear hkc hkt htk hb hLe hEach hbk hin0 hB3 hB7 hh hbv C52 hxs hxs2 ho hkl
                        subst hka hba2
                        go_wp2_with fail
                        refine Calls.mono HC52.out ?_
                        rintro e w8 ⟨rfl, hb8⟩
                        have HO8 := Lib.hid (own_below HO.out hb8)
                        have hs8 := hb8.size
                        have HB8 := Lib.hid (HB.out.trans (hb8.mono hsz7))
                        clear hb8
                        go_wp2_with (at_builtin; refine wpList_append_lies _ rfl _ _ _ rfl W7.heap.size 4 i4 (.bool false) 1 1 Try.underlying37 hi4 hz0 hz1 hz2x rfl (by decide) u k (xs.map Value.bool) rfl (HO8.out.alloc _) ⟨w8.heap.size, 0, none⟩ 1 1 [.bool bv] rfl rfl (one_new (cell_newW _ _ _)) (by simp [Value.oneCell']) (by omega) (by unfold maxLen; omega) (by omega) (by simp; omega) (w8.heap.size + 1) (by simp) ?_)
                        intro gB cB w9 ho9 hg9 hat9 hlt9
                        have HN2 : Hid (Below W7.heap.size W7 w9 ∧ w9.ownsRow W7.heap.size 4 1 (.slice (some ⟨gB, 0, none⟩) (k + 1) cB) (k + 1) ((nextOf D (evW D inn st) ((flopsL D).take (k + 1))).map Value.bool)) := Lib.hid ⟨(HB8.out.alloc (by omega) (Obj.cells #[Value.bool bv] 4)).grown hg9 (by simp; omega) (fun k e => (HO8.out.lt k e).1), by rw [HXs2.out, List.map_append]; exact ho9⟩
                        clear ho9 hg9 hat9 hlt9
                        go_wp2_with fail
                        go_roundw
                        case rel => exact ⟨k + 1, _, by omega, by go_num, rfl, HN2⟩
                        case measure => simp [intOf]; omega
                      · obtain rfl : nst = k := by omega
                        have he : evalE D inn st = 0 := by
                          rw [HEv.out, if_pos (by first | rfl | trivial), if_pos ⟨by rw [HDi.out, ← HIns.out], by first | rfl | trivial⟩]
                        have hfin := someEval (w := w) (w' := wr) (D := D) (inn := inn) (st := st) he (v1 := v) (v2 := u) (l1 := P.os.map (fun x => evW D inn st x.toNat)) (l2 := nextOf D (evW D inn st) (flopsL D)) (n1 := on) (n2 := nst) (by rw [HDo.out]) rfl
                          (by rw [List.length_map, ← HOn.out]) (by unfold nextOf; rw [List.length_map, ← HNk.out]) (own_below HOv.out hh.out.1)
                          (by have h2 := hh.out.2; rw [show (flopsL D).take nst = flopsL D from List.take_of_length_le (by rw [← HNk.out]; exact Nat.le_refl _)] at h2; exact h2) (HB77.out.trans (hh.out.1.mono HB77.out.size)) HB67.out.size HB77.out.size
                        have HFin := Lib.hid hfin
                        clear hfin he hh
                        go_wp2_with fail
                        go_ret3
                        exact HFin.out
      · have hb1 : ((nin : Int) != ins) = false := by simpa using hni
        have hb2 : ((nst : Int) != (nk : Int)) = true := by simp; omega
        have he : evalE D inn st = 1 := by rw [HEv.out, if_pos (by first | rfl | trivial), if_neg (fun e => hns e.2)]
        have hres := noEval (w := w) (w' := W3) (D := D) (inn := inn) (st := st) (by rw [he]; decide) HX3.out.below
        rw [he] at hres
        have HRes := Lib.hid hres
        clear hres he hni hns
        go_wp2_with fail
        go_ret3
        exact HRes.out
    · have hb1 : ((nin : Int) != ins) = true := by simpa using hni
      have he : evalE D inn st = 1 := by rw [HEv.out, if_pos (by first | rfl | trivial), if_neg (fun e => hni (by rw [e.1, HDi.out, HIns.out]))]
      have hres := noEval (w := w) (w' := W3) (D := D) (inn := inn) (st := st) (by rw [he]; decide) HX3.out.below
      rw [he] at hres
      have HRes := Lib.hid hres
      clear hres he hni
      go_wp2_with fail
      go_ret3
      exact HRes.out
  · have hEb : (E != 0) = true := by simpa using hEz
    have he : evalE D inn st = E := by rw [HEv.out, if_neg hEz]
    have hres := noEval (w := w) (w' := W2) (D := D) (inn := inn) (st := st) (by rw [he]; exact hEz) HX2.out.below
    rw [he] at hres
    have HRes := Lib.hid hres
    clear hres he hEz ho2
    go_wp2_with fail
    go_ret3
    exact HRes.out
end Go.Proofs.Ytibimdhmfchcoaa
