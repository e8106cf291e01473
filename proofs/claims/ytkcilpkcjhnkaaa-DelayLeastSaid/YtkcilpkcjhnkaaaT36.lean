import Derived.Test.YtkcilpkcjhnkaaaT35
namespace Go.Proofs.Ytkcilpkcjhnkaaa
open Go.RowKit
set_option linter.unusedVariables false
set_option linter.unusedSimpArgs false

set_option maxRecDepth 100000 in
set_option maxHeartbeats 8000000 in
theorem pathR_ok (w : World) (N : NetV) (h : NetAt w N) (f : Few N) (a : Option Addr) (n c : Nat) (cost : List Int) (hlen : cost.length = n) (hn : n ≤ 300) (S : Seq w a n (ints cost)) (ok : CostOk N cost) :
    Calls Try.prog 27 #[N.val, .slice a n c] w (NewPath w (wayOf N cost).reverse (headT (arrL N cost) (wayOf N cost)) 0) := by
  have HBX := Lib.hid (Box.start w N)
  have hf0 := f.ins
  have hf1 := f.holds
  have hf2 := f.luts
  have hi0 := ok.net.ins0
  have C := fun W (hW : Below w.heap.size w W) => arriveR W N (h.below hW (Nat.le_refl _)) f a n c cost hlen hn (S.below hW (Nat.le_refl _))
  have C2 := fun W => firstR W N h.insR hf0 hf1
  have C3 := fun W (hW : Below w.heap.size w W) => endsR W N (h.below hW (Nat.le_refl _)) f
  rw [arrO, if_pos ok, arrE, if_pos ok] at C
  rw [← firstN_eq hi0] at C2
  obtain ⟨hway, hwl, hwr⟩ := wayOf_is (cost := cost) ok.net
  have hEr := endsOf_range ok.net
  have hEl := endsOf_length N f
  have hTl : (arrL N cost).length = firstN N + N.luts.length := arrTo_length _ _ _
  have hIr := fun k hk => insOf_range ok.net k hk
  have hfe := firstN_eq hi0
  obtain ⟨T, hT⟩ : ∃ T, T = arrL N cost := ⟨_, rfl⟩
  obtain ⟨Wy, hWy⟩ : ∃ W, W = wayOf N cost := ⟨_, rfl⟩
  obtain ⟨E, hE⟩ : ∃ E, E = endsOf N := ⟨_, rfl⟩
  obtain ⟨F0, hF0⟩ : ∃ F, F = firstN N := ⟨_, rfl⟩
  rw [← hT] at C hway hTl ⊢
  rw [← hWy] at hway hwl hwr ⊢
  rw [← hE] at C3 hway hEr hEl
  rw [← hF0] at C2 hwl hwr hEr hTl hIr hfe
  have hF0u : F0 ≤ 201 := by omega
  have hb := Box.start w N
  have e0 := hb.c0
  have e1 := hb.c1
  have e2 := hb.c2
  have e3 := hb.c3
  have hs := hb.size
  have H := Lib.hid h
  have HC := Lib.hid C
  have HC2 := Lib.hid C2
  have HC3 := Lib.hid C3
  have HWay := Lib.hid hway
  have HTl := Lib.hid hTl
  have HIr := Lib.hid hIr
  have HFe := Lib.hid hfe
  have HEr := Lib.hid hEr
  have HWr := Lib.hid hwr
  have HF0 := Lib.hid hF0
  have HLen : Hid (∀ i, i < N.luts.length → (N.luts.getD i default).ins.length ≤ 6) := Lib.hid (fun i hi => by have := (ok.net.lut i hi).len; omega)
  obtain ⟨W0, hW0⟩ : ∃ W, W = w.alloc N.obj := ⟨_, rfl⟩
  rw [← hW0] at e0 e1 e2 e3 hs HBX
  have HW0 := Lib.hid hW0
  clear C C2 C3 ok h f S hb hW0 hT hWy hE hF0 hway hwr hEr hTl hIr hfe hlen
  obtain ⟨ins, ha, hc, holds, la, lc, luts, oa, oc, outs⟩ := N
  dsimp only at hf0 hf1 hf2 hi0 e0 e1 e2 e3 hwl HTl HWr HEr HIr
  go_enter Try.func27, Try.ntmps27
  go_wp2_with fail
  rw [← HW0.out]
  refine (HC.out _ HBX.out.below).mono ?_
  rintro e w1 ⟨v, rfl, hown, hb1⟩
  obtain ⟨va, vc, rfl, hVS, _, _⟩ := owns_seq hown
  rw [HTl.out] at hVS ⊢
  have hbx := HBX.out.step (hb1.mono hs) (Nat.le_refl _)
  have HVS := Lib.hid hVS
  have HBX2 := Lib.hid hbx
  have d0 := hbx.c0
  have d1 := hbx.c1
  have d2 := hbx.c2
  have d3 := hbx.c3
  dsimp only at d0 d1 d2 d3
  have hs1 := hbx.size
  clear hbx hVS hown hb1 e0 e1 e2 e3
  go_wp2_with fail
  refine (HC3.out _ HBX2.out.below).mono ?_
  rintro e w2 ⟨v3, rfl, hown3, hb3⟩
  obtain ⟨ea, ec, rfl, hES, _, _⟩ := owns_seq hown3
  have hs2 := hb3.size
  have hbx3 := HBX2.out.step (hb3.mono (by omega)) (Nat.le_refl _)
  have HBX2 := Lib.hid hbx3
  have HVS2 := Lib.hid (HVS.out.below hb3 (Nat.le_refl _))
  have HES2 := Lib.hid hES
  have k0 := hbx3.c0
  have k1 := hbx3.c1
  have k2 := hbx3.c2
  have k3 := hbx3.c3
  dsimp only at k0 k1 k2 k3
  clear hbx3 hown3 hb3 hES d0 d1 d2 d3
  go_wp2_with fail
  refine (latest _ va (F0 + luts.length) vc T HVS2.out (by omega) ea E.length ec E rfl (by omega) HES2.out HEr.out).mono ?_
  rintro e w3 ⟨rfl, hb3⟩
  have hs3 := hb3.size
  have hbx3 := HBX2.out.step (hb3.mono (by omega)) (Nat.le_refl _)
  have HBX3 := Lib.hid hbx3
  have HVS3 := Lib.hid (HVS2.out.below hb3 (Nat.le_refl _))
  have hs3b := hbx3.size
  clear hbx3 hb3 k0 k1 k2 k3
  by_cases hE0 : E = []
  · subst hE0
    have hWy0 : Wy = [] := HWay.out.unique .stop
    subst hWy0
    simp only [List.length_nil, List.reverse_nil, headT, latestV]
    go_wp2
    go_returns
    exact ⟨_, rfl, World.ownsRow_nil _ _ _ _, HBX3.out.below⟩
  · obtain ⟨l0, hl0, hwy0⟩ : ∃ l0, Wy = latestV T E :: l0 ∧ Way ⟨ins, ha, hc, holds, la, lc, luts, oa, oc, outs⟩ T (insOf ⟨ins, ha, hc, holds, la, lc, luts, oa, oc, outs⟩ (latestV T E)) l0 := by
      have h := HWay.out
      generalize Wy = W at h
      cases h with
      | stop => exact absurd rfl hE0
      | go _ r => exact ⟨_, rfl, r⟩
    have hmem := HEr.out _ (latestV_mem T E hE0)
    have hh0 : headT T Wy = T.getD (latestV T E).toNat 0 := by rw [hl0]; rfl
    obtain ⟨nd0, hnd0⟩ : ∃ x, x = latestV T E := ⟨_, rfl⟩
    rw [← hnd0] at hl0 hwy0 hmem hh0 ⊢
    obtain ⟨hm0, hm1⟩ := hmem
    have hneg : ¬ nd0 < 0 := by omega
    obtain ⟨tb, toff, rfl, htb, htc⟩ := HVS3.out.at nd0.toNat (by omega)
    have y1 := htc nd0.toNat (by omega)
    unfold ints at y1
    obtain ⟨tot, htot⟩ : ∃ t, t = T.getD nd0.toNat 0 := ⟨_, rfl⟩
    rw [← htot] at y1 hh0
    have HH0 := Lib.hid hh0
    have HL0 := Lib.hid hl0
    have HWy0 := Lib.hid hwy0
    clear htc htot hh0 hl0 hwy0 hnd0 hE0
    go_wp2
    go_loopw [9, 11] (fun nv wv wr => ∃ (nd : Int) (pre l3 : List Int), nv = .int .i64 nd ∧ 0 ≤ nd ∧ nd < ((F0 + luts.length : Nat) : Int) ∧ Hid (Below w3.heap.size w3 wr ∧ wr.ownsRow w3.heap.size 3 1 wv (pre.length + 1) ((pre ++ [nd]).reverse.map (Value.int .i64)) ∧ Way ⟨ins, ha, hc, holds, la, lc, luts, oa, oc, outs⟩ T (insOf ⟨ins, ha, hc, holds, la, lc, luts, oa, oc, outs⟩ nd) l3 ∧ pre ++ nd :: l3 = Wy)) (fun _ wv _ => Wy.length - sliceLen wv)
    case atStart => exact ⟨nd0, [], l0, rfl, hm0, hm1, (Below.refl _ _).alloc (Nat.le_refl _) _, by simpa using World.ownsRow_lit w3 #[Value.int .i64 nd0] 1 (Nat.le_refl _) (by unfold maxLen; omega) rfl, HWy0.out, by rw [HL0.out]; rfl⟩
    case round =>
      obtain ⟨nd, pre, l3, rfl, hn0, hn1, hh⟩ := hrel
      obtain ⟨hbr, hown, hwy, hpre⟩ := hh.out
      have hbxr := HBX3.out.step (hbr.mono (by omega)) (Nat.le_refl _)
      have hsr := hbr.size
      have hpl := congrArg List.length hpre
      rw [List.length_append, List.length_cons] at hpl
      obtain ⟨wa, wc, rfl, hWS, _, _⟩ := owns_seq hown
      have k0 := hbxr.c0
      have k1 := hbxr.c1
      have k2 := hbxr.c2
      have k3 := hbxr.c3
      dsimp only at k0 k1 k2 k3
      have HOwn := Lib.hid hown
      have HBr := Lib.hid hbr
      have HWS := Lib.hid hWS
      clear hown hbr hbxr hWS
      have hstop : insOf ⟨ins, ha, hc, holds, la, lc, luts, oa, oc, outs⟩ nd = [] → l3 = [] ∧ (pre ++ [nd]) = Wy := fun e => by
        rw [e] at hwy
        have : l3 = [] := hwy.unique .stop
        subst this
        exact ⟨rfl, hpre⟩
      by_cases hge : (F0 : Int) ≤ nd
      · obtain ⟨i, hi_⟩ : ∃ i, i = nd.toNat - F0 := ⟨_, rfl⟩
        have hni : nd = (F0 : Int) + i := by omega
        have hiL : i < luts.length := by omega
        obtain ⟨b, off, rfl, hbb, t0, _⟩ := (H.out.below (HBX3.out.below.trans (HBr.out.mono (by omega))) (Nat.le_refl _)).lut i hiL
        obtain ⟨hU, _, _, _⟩ := H.out.lutAt i hiL
        have hl6 := HLen.out i hiL
        have hins : insOf ⟨ins, ha, hc, holds, some ⟨b, off, none⟩, lc, luts, oa, oc, outs⟩ nd = (luts.getD i default).ins := by
          rw [insOf, if_pos (by rw [← HF0.out]; exact hge), ← HF0.out, ← hi_]
        have hrg := HIr.out nd (by omega)
        rw [hins] at hrg hwy hstop
        obtain ⟨L, hLe⟩ : ∃ L, L = luts.getD i default := ⟨_, rfl⟩
        dsimp only at t0 hU hl6
        rw [← hLe] at t0 hU hl6 hrg hwy hstop
        obtain ⟨La, Lc, Li, Lt⟩ := L
        dsimp only at t0 hU hl6 hrg hwy hstop
        have HU := Lib.hid hU
        have HRg := Lib.hid hrg
        have HWy4 := Lib.hid hwy
        have HSt := Lib.hid hstop
        have HLe := Lib.hid hLe
        have HPre := Lib.hid hpre
        have hsub : IntKind.i64.wrap (nd - (F0 : Int)) = (i : Int) := by rw [IntWalk.i64_in _ (by omega)]; omega
        have hto : (nd - (F0 : Int)).toNat = i := by omega
        have hgb : decide ((F0 : Int) ≤ nd) = true := decide_eq_true hge
        clear hLe hU hrg hwy hins hi_ hni hstop hpre
        go_wp2_with fail
        refine wp_region_held_drew (S := fun w' => w'.cell? ⟨w.heap.size, 0, none⟩ = some (.int .i64 ins) ∧ w'.cell? ⟨w.heap.size, 1, none⟩ = some (Value.slice ha holds.length hc) ∧ w'.cell? ⟨w.heap.size, 2, none⟩ = some (Value.slice (some ⟨b, off, none⟩) luts.length lc) ∧ w'.cell? ⟨w.heap.size, 3, none⟩ = some (Value.slice oa outs.length oc) ∧ w'.cell? ⟨b, off + i * 2, none⟩ = some (.slice La Li.length Lc)) (by kernel_rfl) (⟨k0, k1, k2, k3, t0⟩) (fun hHeld => ?_)
        refine wpAnyH_take (i := 0) (v := ?_) (by simp only [List.getElem?_toArray, List.getElem?_cons_succ, List.getElem?_cons_zero]; rfl) (by kernel_rfl) (by kernel_rfl) (by kernel_rfl) (by intro _ _ _ h; exact h) (Or.inl ⟨by rfl, ?_⟩) (by assumption) ?_
        rotate_left
        · intro w hSw; (try dsimp only at hSw); go_simp; try with_reducible rfl
        try simp only [Act.put, List.setIfInBounds_toArray, List.set_cons_zero, List.set_cons_succ]
        refine wpAnyH_take (i := 1) (v := ?_) (by simp only [List.getElem?_toArray, List.getElem?_cons_succ, List.getElem?_cons_zero]; rfl) (by kernel_rfl) (by kernel_rfl) (by kernel_rfl) (by intro _ _ _ h; exact h) (Or.inl ⟨by rfl, ?_⟩) (by assumption) ?_
        rotate_left
        · intro w hSw; (try dsimp only at hSw); go_simp; try with_reducible rfl
        try simp only [Act.put, List.setIfInBounds_toArray, List.set_cons_zero, List.set_cons_succ]
        refine wpAnyH_ready (rs := [2]) (by kernel_rfl) (by simp) ?_
        refine AllReadyH.cons (o := _) (by simp only [List.getElem?_toArray, List.getElem?_cons_succ, List.getElem?_cons_zero]; rfl) (fun K hK => ?_) AllReadyH.nil
        go_simp
        go_at_call 35
        refine (HC2.out _).mono ?_
        rintro e w4 ⟨rfl, w4b⟩
        have w4B : Below wr.heap.size wr w4 := (Below.refl _ _).drew.trans w4b
        have w4s := w4B.size
        go_simp
        refine hK.out _ _ (by exact ⟨(w4B.cell (p := ⟨_, _, none⟩) (by simp only; omega)).trans k0, (w4B.cell (p := ⟨_, _, none⟩) (by simp only; omega)).trans k1, (w4B.cell (p := ⟨_, _, none⟩) (by simp only; omega)).trans k2, (w4B.cell (p := ⟨_, _, none⟩) (by simp only; omega)).trans k3, (w4B.cell (p := ⟨_, _, none⟩) (by simp only; omega)).trans t0⟩) (fun hHeld => ?_)
        clear hK K
        try simp only [Act.put, List.setIfInBounds_toArray, List.set_cons_zero, List.set_cons_succ]
        refine wpAnyH_take (i := 3) (v := ?_) (by simp only [List.getElem?_toArray, List.getElem?_cons_succ, List.getElem?_cons_zero]; rfl) (by kernel_rfl) (by kernel_rfl) (by kernel_rfl) (by intro _ _ _ h; exact h) (Or.inl ⟨by rfl, ?_⟩) (by assumption) ?_
        rotate_left
        · intro w hSw; (try dsimp only at hSw); go_simp; try with_reducible rfl
        try simp only [Act.put, List.setIfInBounds_toArray, List.set_cons_zero, List.set_cons_succ]
        refine wpAnyH_take (i := 4) (v := ?_) (by simp only [List.getElem?_toArray, List.getElem?_cons_succ, List.getElem?_cons_zero]; rfl) (by kernel_rfl) (by kernel_rfl) (by kernel_rfl) (by intro _ _ _ h; exact h) (Or.inl ⟨by rfl, ?_⟩) (by assumption) ?_
        rotate_left
        · intro w hSw; (try dsimp only at hSw); go_simp; try with_reducible rfl
        try simp only [Act.put, List.setIfInBounds_toArray, List.set_cons_zero, List.set_cons_succ]
        refine wpAnyH_take (i := 5) (v := ?_) (by simp only [List.getElem?_toArray, List.getElem?_cons_succ, List.getElem?_cons_zero]; rfl) (by kernel_rfl) (by kernel_rfl) (by kernel_rfl) (by intro _ _ _ h; exact h) (Or.inl ⟨by rfl, ?_⟩) (by assumption) ?_
        rotate_left
        · intro w hSw; (try dsimp only at hSw); go_simp; try with_reducible rfl
        try simp only [Act.put, List.setIfInBounds_toArray, List.set_cons_zero, List.set_cons_succ]
        refine wpAnyH_take (i := 6) (v := ?_) (by simp only [List.getElem?_toArray, List.getElem?_cons_succ, List.getElem?_cons_zero]; rfl) (by kernel_rfl) (by kernel_rfl) (by kernel_rfl) (by intro _ _ _ h; exact h) (Or.inl ⟨by rfl, ?_⟩) (by assumption) ?_
        rotate_left
        · intro w hSw; (try dsimp only at hSw); go_simp; try with_reducible rfl
        try simp only [Act.put, List.setIfInBounds_toArray, List.set_cons_zero, List.set_cons_succ]
        refine wpAnyH_take (i := 7) (v := ?_) (by simp only [List.getElem?_toArray, List.getElem?_cons_succ, List.getElem?_cons_zero]; rfl) (by kernel_rfl) (by kernel_rfl) (by kernel_rfl) (by intro _ _ _ h; exact h) (Or.inl ⟨by rfl, ?_⟩) (by assumption) ?_
        rotate_left
        · intro w hSw; (try dsimp only at hSw); go_simp; try with_reducible rfl
        try simp only [Act.put, List.setIfInBounds_toArray, List.set_cons_zero, List.set_cons_succ]
        refine wpAnyH_take (i := 8) (v := ?_) (by simp only [List.getElem?_toArray, List.getElem?_cons_succ, List.getElem?_cons_zero]; rfl) (by kernel_rfl) (by kernel_rfl) (by kernel_rfl) (by intro _ _ _ h; exact h) (Or.inl ⟨by rfl, ?_⟩) (by assumption) ?_
        rotate_left
        · intro w hSw; (try dsimp only at hSw); go_simp; try with_reducible rfl
        try simp only [Act.put, List.setIfInBounds_toArray, List.set_cons_zero, List.set_cons_succ]
        refine wpAnyH_ready (rs := [9]) (by kernel_rfl) (by simp) ?_
        refine AllReadyH.cons (o := _) (by simp only [List.getElem?_toArray, List.getElem?_cons_succ, List.getElem?_cons_zero]; rfl) (fun K hK => ?_) AllReadyH.nil
        go_simp
        go_at_call 35
        refine (HC2.out _).mono ?_
        rintro e w5 ⟨rfl, w5b⟩
        have w5B : Below wr.heap.size wr w5 := w4B.trans (w5b.mono (by omega))
        have w5s := w5B.size
        go_simp
        refine hK.out _ _ (by exact ⟨(w5B.cell (p := ⟨_, _, none⟩) (by simp only; omega)).trans k0, (w5B.cell (p := ⟨_, _, none⟩) (by simp only; omega)).trans k1, (w5B.cell (p := ⟨_, _, none⟩) (by simp only; omega)).trans k2, (w5B.cell (p := ⟨_, _, none⟩) (by simp only; omega)).trans k3, (w5B.cell (p := ⟨_, _, none⟩) (by simp only; omega)).trans t0⟩) (fun hHeld => ?_)
        clear hK K
        try simp only [Act.put, List.setIfInBounds_toArray, List.set_cons_zero, List.set_cons_succ]
        refine wpAnyH_take (i := 10) (v := ?_) (by simp only [List.getElem?_toArray, List.getElem?_cons_succ, List.getElem?_cons_zero]; rfl) (by kernel_rfl) (by kernel_rfl) (by kernel_rfl) (by intro _ _ _ h; exact h) (Or.inl ⟨by rfl, ?_⟩) (by assumption) ?_
        rotate_left
        · intro w hSw; (try dsimp only at hSw); go_simp; try with_reducible rfl
        try simp only [Act.put, List.setIfInBounds_toArray, List.set_cons_zero, List.set_cons_succ]
        refine wpAnyH_take (i := 11) (v := ?_) (by simp only [List.getElem?_toArray, List.getElem?_cons_succ, List.getElem?_cons_zero]; rfl) (by kernel_rfl) (by kernel_rfl) (by kernel_rfl) (by intro _ _ _ h; exact h) (Or.inl ⟨by rfl, ?_⟩) (by assumption) ?_
        rotate_left
        · intro w hSw; (try dsimp only at hSw); go_simp; first | with_reducible rfl | rw [if_pos (by omega)]
        try simp only [Act.put, List.setIfInBounds_toArray, List.set_cons_zero, List.set_cons_succ]
        refine wpAnyH_take (i := 12) (v := ?_) (by simp only [List.getElem?_toArray, List.getElem?_cons_succ, List.getElem?_cons_zero]; rfl) (by kernel_rfl) (by kernel_rfl) (by kernel_rfl) (by intro _ _ _ h; exact h) (Or.inl ⟨by rfl, ?_⟩) (by assumption) ?_
        rotate_left
        · intro w hSw; (try dsimp only at hSw); go_simp; try with_reducible rfl
        try simp only [Act.put, List.setIfInBounds_toArray, List.set_cons_zero, List.set_cons_succ]
        refine wpAnyH_take (i := 13) (v := ?_) (by simp only [List.getElem?_toArray, List.getElem?_cons_succ, List.getElem?_cons_zero]; rfl) (by kernel_rfl) (by kernel_rfl) (by kernel_rfl) (by intro _ _ _ h; exact h) (Or.inl ⟨by rfl, ?_⟩) (by assumption) ?_
        rotate_left
        · intro w hSw; (try dsimp only at hSw); go_simp; try with_reducible rfl
        try simp only [Act.put, List.setIfInBounds_toArray, List.set_cons_zero, List.set_cons_succ]
        refine wpAnyH_take (i := 14) (v := ?_) (by simp only [List.getElem?_toArray, List.getElem?_cons_succ, List.getElem?_cons_zero]; rfl) (by kernel_rfl) (by kernel_rfl) (by kernel_rfl) (by intro _ _ _ h; exact h) (Or.inl ⟨by rfl, ?_⟩) (by assumption) ?_
        rotate_left
        · intro w hSw; (try dsimp only at hSw); go_simp; try with_reducible rfl
        try simp only [Act.put, List.setIfInBounds_toArray, List.set_cons_zero, List.set_cons_succ]
        refine wpAnyH_take (i := 15) (v := ?_) (by simp only [List.getElem?_toArray, List.getElem?_cons_succ, List.getElem?_cons_zero]; rfl) (by kernel_rfl) (by kernel_rfl) (by kernel_rfl) (by intro _ _ _ h; exact h) (Or.inl ⟨by rfl, ?_⟩) (by assumption) ?_
        rotate_left
        · intro w hSw; (try dsimp only at hSw); go_simp; try with_reducible rfl
        try simp only [Act.put, List.setIfInBounds_toArray, List.set_cons_zero, List.set_cons_succ]
        refine wpAnyH_take (i := 16) (v := ?_) (by simp only [List.getElem?_toArray, List.getElem?_cons_succ, List.getElem?_cons_zero]; rfl) (by kernel_rfl) (by kernel_rfl) (by kernel_rfl) (by intro _ _ _ h; exact h) (Or.inl ⟨by rfl, ?_⟩) (by assumption) ?_
        rotate_left
        · intro w hSw; (try dsimp only at hSw); go_simp; try with_reducible rfl
        try simp only [Act.put, List.setIfInBounds_toArray, List.set_cons_zero, List.set_cons_succ]
        refine wpAnyH_done (by kernel_rfl) ?_ _
        have hbr5 := HBr.out.trans (w5B.mono hsr)
        have hown5 := own_below HOwn.out w5B
        have hWS5 := HWS.out.below w5B (Nat.le_refl _)
        have hs5 := hbr5.size
        have hbx5 := HBX3.out.step (hbr5.mono (by omega)) (Nat.le_refl _)
        by_cases hli : Li = []
        · subst hli
          have h3 := (HSt.out rfl).2
          go_wp2
          go_returns
          refine ⟨_, by rw [HH0.out]; rfl, ?_, hbx5.below⟩
          rw [List.length_reverse, ← h3, List.length_append, List.length_singleton]
          exact hown5.base_le (by omega)
        · have hlp : 0 < Li.length := List.length_pos_iff.2 hli
          obtain ⟨b', off', hla, hbb', t0, _⟩ := (H.out.below (HBX3.out.below.trans (hbr5.mono (by omega))) (Nat.le_refl _)).lut i hiL
          cases hla
          dsimp only at t0
          rw [← HLe.out] at t0
          dsimp only at t0
          obtain ⟨l4, hl4, hwy4⟩ : ∃ l4, l3 = latestV T Li :: l4 ∧ Way ⟨ins, ha, hc, holds, some ⟨b, off, none⟩, lc, luts, oa, oc, outs⟩ T (insOf ⟨ins, ha, hc, holds, some ⟨b, off, none⟩, lc, luts, oa, oc, outs⟩ (latestV T Li)) l4 := by
            have h := HWy4.out
            generalize l3 = W at h
            cases h with
            | stop => exact absurd rfl hli
            | go _ r => exact ⟨_, rfl, r⟩
          have hm := HRg.out _ (latestV_mem T Li hli)
          have HRg2 : Hid (∀ x ∈ Li, 0 ≤ x ∧ x < ((F0 + luts.length : Nat) : Int)) := Lib.hid (fun x hx => by have := HRg.out x hx; omega)
          obtain ⟨nd2, hnd2⟩ : ∃ x, x = latestV T Li := ⟨_, rfl⟩
          rw [← hnd2] at hl4 hwy4 hm
          have HNd2 := Lib.hid hnd2
          have HL4 := Lib.hid hl4
          have HWy5 := Lib.hid hwy4
          obtain ⟨hm2, hm3⟩ := hm
          have k0 := hbx5.c0
          have k1 := hbx5.c1
          have k2 := hbx5.c2
          have k3 := hbx5.c3
          dsimp only at k0 k1 k2 k3
          obtain ⟨i0, hi, hz0, hz1, hz2⟩ := info_parts info3
          have hpl2 := congrArg List.length HL4.out
          rw [List.length_cons] at hpl2
          have hlw := owns_len HOwn.out
          obtain ⟨ml, hml⟩ : ∃ m, m = Li.length := ⟨_, rfl⟩
          rw [← hml] at hlp hl6 t0 ⊢
          have HMl := Lib.hid hml
          have hmlb : decide (0 < (ml : Int)) = true := decide_eq_true (by omega)
          clear hnd2 hl4 hwy4 hli hbx5 hml
          go_wp2_with fail
          refine wp_region_held_drew (S := fun w' => w'.cell? ⟨w.heap.size, 0, none⟩ = some (.int .i64 ins) ∧ w'.cell? ⟨w.heap.size, 1, none⟩ = some (Value.slice ha holds.length hc) ∧ w'.cell? ⟨w.heap.size, 2, none⟩ = some (Value.slice (some ⟨b, off, none⟩) luts.length lc) ∧ w'.cell? ⟨w.heap.size, 3, none⟩ = some (Value.slice oa outs.length oc) ∧ w'.cell? ⟨b, off + i * 2, none⟩ = some (.slice La ml Lc)) (by kernel_rfl) (⟨k0, k1, k2, k3, t0⟩) (fun hHeld => ?_)
          refine wpAnyH_take (i := 0) (v := ?_) (by simp only [List.getElem?_toArray, List.getElem?_cons_succ, List.getElem?_cons_zero]; rfl) (by kernel_rfl) (by kernel_rfl) (by kernel_rfl) (by intro _ _ _ h; exact h) (Or.inl ⟨by rfl, ?_⟩) (by assumption) ?_
          rotate_left
          · intro w hSw; (try dsimp only at hSw); go_simp; try with_reducible rfl
          try simp only [Act.put, List.setIfInBounds_toArray, List.set_cons_zero, List.set_cons_succ]
          refine wpAnyH_take (i := 1) (v := ?_) (by simp only [List.getElem?_toArray, List.getElem?_cons_succ, List.getElem?_cons_zero]; rfl) (by kernel_rfl) (by kernel_rfl) (by kernel_rfl) (by intro _ _ _ h; exact h) (Or.inl ⟨by rfl, ?_⟩) (by assumption) ?_
          rotate_left
          · intro w hSw; (try dsimp only at hSw); go_simp; try with_reducible rfl
          try simp only [Act.put, List.setIfInBounds_toArray, List.set_cons_zero, List.set_cons_succ]
          refine wpAnyH_take (i := 2) (v := ?_) (by simp only [List.getElem?_toArray, List.getElem?_cons_succ, List.getElem?_cons_zero]; rfl) (by kernel_rfl) (by kernel_rfl) (by kernel_rfl) (by intro _ _ _ h; exact h) (Or.inl ⟨by rfl, ?_⟩) (by assumption) ?_
          rotate_left
          · intro w hSw; (try dsimp only at hSw); go_simp; try with_reducible rfl
          try simp only [Act.put, List.setIfInBounds_toArray, List.set_cons_zero, List.set_cons_succ]
          refine wpAnyH_take (i := 3) (v := ?_) (by simp only [List.getElem?_toArray, List.getElem?_cons_succ, List.getElem?_cons_zero]; rfl) (by kernel_rfl) (by kernel_rfl) (by kernel_rfl) (by intro _ _ _ h; exact h) (Or.inl ⟨by rfl, ?_⟩) (by assumption) ?_
          rotate_left
          · intro w hSw; (try dsimp only at hSw); go_simp; try with_reducible rfl
          try simp only [Act.put, List.setIfInBounds_toArray, List.set_cons_zero, List.set_cons_succ]
          refine wpAnyH_take (i := 4) (v := ?_) (by simp only [List.getElem?_toArray, List.getElem?_cons_succ, List.getElem?_cons_zero]; rfl) (by kernel_rfl) (by kernel_rfl) (by kernel_rfl) (by intro _ _ _ h; exact h) (Or.inl ⟨by rfl, ?_⟩) (by assumption) ?_
          rotate_left
          · intro w hSw; (try dsimp only at hSw); go_simp; try with_reducible rfl
          try simp only [Act.put, List.setIfInBounds_toArray, List.set_cons_zero, List.set_cons_succ]
          refine wpAnyH_ready (rs := [5]) (by kernel_rfl) (by simp) ?_
          refine AllReadyH.cons (o := _) (by simp only [List.getElem?_toArray, List.getElem?_cons_succ, List.getElem?_cons_zero]; rfl) (fun K hK => ?_) AllReadyH.nil
          go_simp
          go_at_call 35
          refine (HC2.out _).mono ?_
          rintro e w6 ⟨rfl, w6b⟩
          have w6B : Below w5.heap.size w5 w6 := (Below.refl _ _).drew.trans w6b
          have w6s := w6B.size
          go_simp
          refine hK.out _ _ (by exact ⟨(w6B.cell (p := ⟨_, _, none⟩) (by simp only; omega)).trans k0, (w6B.cell (p := ⟨_, _, none⟩) (by simp only; omega)).trans k1, (w6B.cell (p := ⟨_, _, none⟩) (by simp only; omega)).trans k2, (w6B.cell (p := ⟨_, _, none⟩) (by simp only; omega)).trans k3, (w6B.cell (p := ⟨_, _, none⟩) (by simp only; omega)).trans t0⟩) (fun hHeld => ?_)
          clear hK K
          try simp only [Act.put, List.setIfInBounds_toArray, List.set_cons_zero, List.set_cons_succ]
          refine wpAnyH_take (i := 6) (v := ?_) (by simp only [List.getElem?_toArray, List.getElem?_cons_succ, List.getElem?_cons_zero]; rfl) (by kernel_rfl) (by kernel_rfl) (by kernel_rfl) (by intro _ _ _ h; exact h) (Or.inl ⟨by rfl, ?_⟩) (by assumption) ?_
          rotate_left
          · intro w hSw; (try dsimp only at hSw); go_simp; try with_reducible rfl
          try simp only [Act.put, List.setIfInBounds_toArray, List.set_cons_zero, List.set_cons_succ]
          refine wpAnyH_take (i := 7) (v := ?_) (by simp only [List.getElem?_toArray, List.getElem?_cons_succ, List.getElem?_cons_zero]; rfl) (by kernel_rfl) (by kernel_rfl) (by kernel_rfl) (by intro _ _ _ h; exact h) (Or.inl ⟨by rfl, ?_⟩) (by assumption) ?_
          rotate_left
          · intro w hSw; (try dsimp only at hSw); go_simp; first | with_reducible rfl | rw [if_pos (by omega)]
          try simp only [Act.put, List.setIfInBounds_toArray, List.set_cons_zero, List.set_cons_succ]
          refine wpAnyH_take (i := 8) (v := ?_) (by simp only [List.getElem?_toArray, List.getElem?_cons_succ, List.getElem?_cons_zero]; rfl) (by kernel_rfl) (by kernel_rfl) (by kernel_rfl) (by intro _ _ _ h; exact h) (Or.inl ⟨by rfl, ?_⟩) (by assumption) ?_
          rotate_left
          · intro w hSw; (try dsimp only at hSw); go_simp; try with_reducible rfl
          try simp only [Act.put, List.setIfInBounds_toArray, List.set_cons_zero, List.set_cons_succ]
          refine wpAnyH_take (i := 9) (v := ?_) (by simp only [List.getElem?_toArray, List.getElem?_cons_succ, List.getElem?_cons_zero]; rfl) (by kernel_rfl) (by kernel_rfl) (by kernel_rfl) (by intro _ _ _ h; exact h) (Or.inl ⟨by rfl, ?_⟩) (by assumption) ?_
          rotate_left
          · intro w hSw; (try dsimp only at hSw); go_simp; try with_reducible rfl
          try simp only [Act.put, List.setIfInBounds_toArray, List.set_cons_zero, List.set_cons_succ]
          refine wpAnyH_ready (rs := [10]) (by kernel_rfl) (by simp) ?_
          refine AllReadyH.cons (o := _) (by simp only [List.getElem?_toArray, List.getElem?_cons_succ, List.getElem?_cons_zero]; rfl) (fun K hK => ?_) AllReadyH.nil
          go_simp
          go_at_call 53
          refine (latest _ _ (F0 + luts.length) vc T (HVS3.out.below (hbr5.trans (w6B.mono (by omega))) (Nat.le_refl _)) (by omega) La ml Lc Li HMl.out.symm (by omega) (by rw [HMl.out]; exact HU.out.below (HBX3.out.below.trans ((hbr5.trans (w6B.mono (by omega))).mono (by omega))) (Nat.le_refl _)) HRg2.out).mono ?_
          rintro e w7 ⟨rfl, w7b⟩
          have w7B : Below w5.heap.size w5 w7 := w6B.trans (w7b.mono (by omega))
          have w7s := w7B.size
          rw [← HNd2.out]
          go_simp
          refine hK.out _ _ (by exact ⟨(w7B.cell (p := ⟨_, _, none⟩) (by simp only; omega)).trans k0, (w7B.cell (p := ⟨_, _, none⟩) (by simp only; omega)).trans k1, (w7B.cell (p := ⟨_, _, none⟩) (by simp only; omega)).trans k2, (w7B.cell (p := ⟨_, _, none⟩) (by simp only; omega)).trans k3, (w7B.cell (p := ⟨_, _, none⟩) (by simp only; omega)).trans t0⟩) (fun hHeld => ?_)
          clear hK K
          try simp only [Act.put, List.setIfInBounds_toArray, List.set_cons_zero, List.set_cons_succ]
          refine wpAnyH_take (i := 11) (v := ?_) (by simp only [List.getElem?_toArray, List.getElem?_cons_succ, List.getElem?_cons_zero]; rfl) (by kernel_rfl) (by kernel_rfl) (by kernel_rfl) (by intro _ _ _ h; exact h) (Or.inl ⟨by rfl, ?_⟩) (by assumption) ?_
          rotate_left
          · intro w hSw; (try dsimp only at hSw); go_simp; try with_reducible rfl
          try simp only [Act.put, List.setIfInBounds_toArray, List.set_cons_zero, List.set_cons_succ]
          refine wpAnyH_done (by kernel_rfl) ?_ _
          have hbr7 := hbr5.trans (w7B.mono hs5)
          have hs7 := hbr7.size
          have hb78 : Below w3.heap.size w3 (w7.alloc (Obj.cells #[Value.int IntKind.i64 nd2] 3)) := hbr7.alloc hs7 _
          have hWS7 := hWS5.below (w7B.alloc w7s (Obj.cells #[Value.int IntKind.i64 nd2] 3)) (Nat.le_refl _)
          have hl9 : (pre ++ [nd]).reverse.length = pre.length + 1 := by simp
          have HRow : Hid (∀ (v8 : Value) (w8 : World), w8.ownsRow w3.heap.size 3 1 v8 (1 + (pre.length + 1)) ([Value.int IntKind.i64 nd2] ++ (pre ++ [nd]).reverse.map (Value.int .i64)) → w8.ownsRow w3.heap.size 3 1 v8 ((pre ++ [nd]).length + 1) (((pre ++ [nd]) ++ [nd2]).reverse.map (Value.int .i64)) ∧ sliceLen v8 = pre.length + 2) := Lib.hid (fun v8 w8 h => by
            have e : [Value.int IntKind.i64 nd2] ++ (pre ++ [nd]).reverse.map (Value.int .i64) = ((pre ++ [nd]) ++ [nd2]).reverse.map (Value.int .i64) := by simp
            rw [e] at h
            have hl := owns_len h
            refine ⟨by rw [show (pre ++ [nd]).length + 1 = 1 + (pre.length + 1) by simp; omega]; exact h, by omega⟩)
          obtain ⟨rw_, hrw⟩ : ∃ r, r = (pre ++ [nd]).reverse := ⟨_, rfl⟩
          rw [← hrw] at hWS7 hl9 HRow
          clear hrw
          go_wp2_with (at_builtin; refine wpList_append_seq rfl _ _ 24 rfl w3.heap.size 3 i0 (.int .i64 0) 8 Try.underlying24 hi hz0 hz1 hz2 rfl (.slice (some ⟨w7.heap.size, 0, none⟩) 1 1) 1 [.int .i64 nd2] rfl (World.ownsRow_lit w7 #[Value.int .i64 nd2] 1 (by omega) (by unfold maxLen; omega) rfl) wa (pre.length + 1) wc (rw_.map (Value.int .i64)) (ints rw_) rfl (by rw [List.length_map, hl9]) hWS7 (fun j hj => ints_get rw_ j (by rw [hl9]; exact hj)) (ints_one rw_) (by unfold maxLen; omega) (by omega) (by simp; omega) ?_)
          intro v8 w8 hown8 hgrow8
          have hb8 : Below w3.heap.size w3 w8 := hb78.grown hgrow8 (by simp; omega) (fun k e => by cases e; exact hs7)
          have hrow := HRow.out v8 w8 (by first | exact hown8 | simpa using hown8)
          have HB8 := Lib.hid hb8
          have HOwn8 := Lib.hid hrow.1
          have hlv := hrow.2
          have HLv : Hid (Wy.length - sliceLen v8 < Wy.length - (pre.length + 1)) := Lib.hid (by rw [hlv]; omega)
          clear hb8 hrow hlv hown8 hgrow8
          go_wp2
          go_roundw
          case rel => exact ⟨nd2, pre ++ [nd], l4, rfl, hm2, by omega, Lib.hid ⟨HB8.out, HOwn8.out, HWy5.out, by rw [List.append_assoc]; have := HPre.out; rw [HL4.out] at this; exact this⟩⟩
          case measure => exact HLv.out
      · have hins : insOf ⟨ins, ha, hc, holds, la, lc, luts, oa, oc, outs⟩ nd = [] := by rw [insOf, if_neg (by rw [← HF0.out]; exact hge)]
        have h3 := (hstop hins).2
        have H3 := Lib.hid h3
        have hgb : decide ((F0 : Int) ≤ nd) = false := decide_eq_false hge
        clear hins hstop h3 hwy hpre
        go_wp2_with fail
        refine wp_region_held_drew (S := fun w' => w'.cell? ⟨w.heap.size, 0, none⟩ = some (.int .i64 ins) ∧ w'.cell? ⟨w.heap.size, 1, none⟩ = some (Value.slice ha holds.length hc) ∧ w'.cell? ⟨w.heap.size, 2, none⟩ = some (Value.slice la luts.length lc) ∧ w'.cell? ⟨w.heap.size, 3, none⟩ = some (Value.slice oa outs.length oc)) (by kernel_rfl) (⟨k0, k1, k2, k3⟩) (fun hHeld => ?_)
        refine wpAnyH_take (i := 0) (v := ?_) (by simp only [List.getElem?_toArray, List.getElem?_cons_succ, List.getElem?_cons_zero]; rfl) (by kernel_rfl) (by kernel_rfl) (by kernel_rfl) (by intro _ _ _ h; exact h) (Or.inl ⟨by rfl, ?_⟩) (by assumption) ?_
        rotate_left
        · intro w hSw; (try dsimp only at hSw); go_simp; try with_reducible rfl
        try simp only [Act.put, List.setIfInBounds_toArray, List.set_cons_zero, List.set_cons_succ]
        refine wpAnyH_take (i := 1) (v := ?_) (by simp only [List.getElem?_toArray, List.getElem?_cons_succ, List.getElem?_cons_zero]; rfl) (by kernel_rfl) (by kernel_rfl) (by kernel_rfl) (by intro _ _ _ h; exact h) (Or.inl ⟨by rfl, ?_⟩) (by assumption) ?_
        rotate_left
        · intro w hSw; (try dsimp only at hSw); go_simp; try with_reducible rfl
        try simp only [Act.put, List.setIfInBounds_toArray, List.set_cons_zero, List.set_cons_succ]
        refine wpAnyH_ready (rs := [2]) (by kernel_rfl) (by simp) ?_
        refine AllReadyH.cons (o := _) (by simp only [List.getElem?_toArray, List.getElem?_cons_succ, List.getElem?_cons_zero]; rfl) (fun K hK => ?_) AllReadyH.nil
        go_simp
        go_at_call 35
        refine (HC2.out _).mono ?_
        rintro e w4 ⟨rfl, w4b⟩
        have w4B : Below wr.heap.size wr w4 := (Below.refl _ _).drew.trans w4b
        have w4s := w4B.size
        go_simp
        refine hK.out _ _ (by exact ⟨(w4B.cell (p := ⟨_, _, none⟩) (by simp only; omega)).trans k0, (w4B.cell (p := ⟨_, _, none⟩) (by simp only; omega)).trans k1, (w4B.cell (p := ⟨_, _, none⟩) (by simp only; omega)).trans k2, (w4B.cell (p := ⟨_, _, none⟩) (by simp only; omega)).trans k3⟩) (fun hHeld => ?_)
        clear hK K
        try simp only [Act.put, List.setIfInBounds_toArray, List.set_cons_zero, List.set_cons_succ]
        refine wpAnyH_take (i := 3) (v := ?_) (by simp only [List.getElem?_toArray, List.getElem?_cons_succ, List.getElem?_cons_zero]; rfl) (by kernel_rfl) (by kernel_rfl) (by kernel_rfl) (by intro _ _ _ h; exact h) (Or.inl ⟨by rfl, ?_⟩) (by assumption) ?_
        rotate_left
        · intro w hSw; (try dsimp only at hSw); go_simp; try with_reducible rfl
        try simp only [Act.put, List.setIfInBounds_toArray, List.set_cons_zero, List.set_cons_succ]
        refine wpAnyH_take (i := 4) (v := ?_) (by simp only [List.getElem?_toArray, List.getElem?_cons_succ, List.getElem?_cons_zero]; rfl) (by kernel_rfl) (by kernel_rfl) (by kernel_rfl) (by intro _ _ _ h; exact h) (Or.inl ⟨by rfl, ?_⟩) (by assumption) ?_
        rotate_left
        · intro w hSw; (try dsimp only at hSw); go_simp; try with_reducible rfl
        try simp only [Act.put, List.setIfInBounds_toArray, List.set_cons_zero, List.set_cons_succ]
        refine wpAnyH_take (i := 5) (v := undef) (by simp only [List.getElem?_toArray, List.getElem?_cons_succ, List.getElem?_cons_zero]; rfl) (by kernel_rfl) (by kernel_rfl) (by kernel_rfl) (by intro _ _ _ h; exact h) (Or.inr ⟨by rfl, rfl⟩) (by assumption) ?_
        try simp only [Act.put, List.setIfInBounds_toArray, List.set_cons_zero, List.set_cons_succ]
        refine wpAnyH_take (i := 6) (v := undef) (by simp only [List.getElem?_toArray, List.getElem?_cons_succ, List.getElem?_cons_zero]; rfl) (by kernel_rfl) (by kernel_rfl) (by kernel_rfl) (by intro _ _ _ h; exact h) (Or.inr ⟨by rfl, rfl⟩) (by assumption) ?_
        try simp only [Act.put, List.setIfInBounds_toArray, List.set_cons_zero, List.set_cons_succ]
        refine wpAnyH_take (i := 7) (v := undef) (by simp only [List.getElem?_toArray, List.getElem?_cons_succ, List.getElem?_cons_zero]; rfl) (by kernel_rfl) (by kernel_rfl) (by kernel_rfl) (by intro _ _ _ h; exact h) (Or.inr ⟨by rfl, rfl⟩) (by assumption) ?_
        try simp only [Act.put, List.setIfInBounds_toArray, List.set_cons_zero, List.set_cons_succ]
        refine wpAnyH_take (i := 8) (v := undef) (by simp only [List.getElem?_toArray, List.getElem?_cons_succ, List.getElem?_cons_zero]; rfl) (by kernel_rfl) (by kernel_rfl) (by kernel_rfl) (by intro _ _ _ h; exact h) (Or.inr ⟨by rfl, rfl⟩) (by assumption) ?_
        try simp only [Act.put, List.setIfInBounds_toArray, List.set_cons_zero, List.set_cons_succ]
        refine wpAnyH_take (i := 9) (v := undef) (by simp only [List.getElem?_toArray, List.getElem?_cons_succ, List.getElem?_cons_zero]; rfl) (by kernel_rfl) (by kernel_rfl) (by kernel_rfl) (by intro _ _ _ h; exact h) (Or.inr ⟨by rfl, rfl⟩) (by assumption) ?_
        try simp only [Act.put, List.setIfInBounds_toArray, List.set_cons_zero, List.set_cons_succ]
        refine wpAnyH_take (i := 10) (v := undef) (by simp only [List.getElem?_toArray, List.getElem?_cons_succ, List.getElem?_cons_zero]; rfl) (by kernel_rfl) (by kernel_rfl) (by kernel_rfl) (by intro _ _ _ h; exact h) (Or.inr ⟨by rfl, rfl⟩) (by assumption) ?_
        try simp only [Act.put, List.setIfInBounds_toArray, List.set_cons_zero, List.set_cons_succ]
        refine wpAnyH_take (i := 11) (v := undef) (by simp only [List.getElem?_toArray, List.getElem?_cons_succ, List.getElem?_cons_zero]; rfl) (by kernel_rfl) (by kernel_rfl) (by kernel_rfl) (by intro _ _ _ h; exact h) (Or.inr ⟨by rfl, rfl⟩) (by assumption) ?_
        try simp only [Act.put, List.setIfInBounds_toArray, List.set_cons_zero, List.set_cons_succ]
        refine wpAnyH_take (i := 12) (v := undef) (by simp only [List.getElem?_toArray, List.getElem?_cons_succ, List.getElem?_cons_zero]; rfl) (by kernel_rfl) (by kernel_rfl) (by kernel_rfl) (by intro _ _ _ h; exact h) (Or.inr ⟨by rfl, rfl⟩) (by assumption) ?_
        try simp only [Act.put, List.setIfInBounds_toArray, List.set_cons_zero, List.set_cons_succ]
        refine wpAnyH_take (i := 13) (v := undef) (by simp only [List.getElem?_toArray, List.getElem?_cons_succ, List.getElem?_cons_zero]; rfl) (by kernel_rfl) (by kernel_rfl) (by kernel_rfl) (by intro _ _ _ h; exact h) (Or.inr ⟨by rfl, rfl⟩) (by assumption) ?_
        try simp only [Act.put, List.setIfInBounds_toArray, List.set_cons_zero, List.set_cons_succ]
        refine wpAnyH_take (i := 14) (v := undef) (by simp only [List.getElem?_toArray, List.getElem?_cons_succ, List.getElem?_cons_zero]; rfl) (by kernel_rfl) (by kernel_rfl) (by kernel_rfl) (by intro _ _ _ h; exact h) (Or.inr ⟨by rfl, rfl⟩) (by assumption) ?_
        try simp only [Act.put, List.setIfInBounds_toArray, List.set_cons_zero, List.set_cons_succ]
        refine wpAnyH_take (i := 15) (v := undef) (by simp only [List.getElem?_toArray, List.getElem?_cons_succ, List.getElem?_cons_zero]; rfl) (by kernel_rfl) (by kernel_rfl) (by kernel_rfl) (by intro _ _ _ h; exact h) (Or.inr ⟨by rfl, rfl⟩) (by assumption) ?_
        try simp only [Act.put, List.setIfInBounds_toArray, List.set_cons_zero, List.set_cons_succ]
        refine wpAnyH_take (i := 16) (v := ?_) (by simp only [List.getElem?_toArray, List.getElem?_cons_succ, List.getElem?_cons_zero]; rfl) (by kernel_rfl) (by kernel_rfl) (by kernel_rfl) (by intro _ _ _ h; exact h) (Or.inl ⟨by rfl, ?_⟩) (by assumption) ?_
        rotate_left
        · intro w hSw; (try dsimp only at hSw); go_simp; try with_reducible rfl
        try simp only [Act.put, List.setIfInBounds_toArray, List.set_cons_zero, List.set_cons_succ]
        refine wpAnyH_done (by kernel_rfl) ?_ _
        have hbr4 := HBr.out.trans (w4B.mono hsr)
        have hown4 := own_below HOwn.out w4B
        have hbx4 := HBX3.out.step (hbr4.mono (by omega)) (Nat.le_refl _)
        go_wp2
        go_returns
        refine ⟨_, by rw [HH0.out]; rfl, ?_, hbx4.below⟩
        rw [List.length_reverse, ← H3.out, List.length_append, List.length_singleton]
        exact hown4.base_le (by omega)

set_option maxRecDepth 100000 in
set_option maxHeartbeats 4000000 in
theorem path_bad (w : World) (N : NetV) (h : NetAt w N) (f : Few N) (a : Option Addr) (n c : Nat) (cost : List Int) (hlen : cost.length = n) (hn : n ≤ 300) (S : Seq w a n (ints cost)) (ok : ¬ CostOk N cost) :
    Calls Try.prog 26 #[N.val, .slice a n c] w (NewPath w [] 0 1) := by
  have HBX := Lib.hid (Box.start w N)
  have C := fun W (hW : Below w.heap.size w W) => arrive W N (h.below hW (Nat.le_refl _)) f a n c cost hlen hn (S.below hW (Nat.le_refl _))
  rw [arrO, if_neg ok, arrE, if_neg ok] at C
  have HC := Lib.hid C
  clear C h f S ok
  go_enter Try.func26, Try.ntmps26
  go_wp2_with fail
  refine (HC.out _ HBX.out.below).mono ?_
  rintro e w1 ⟨v, rfl, hown, hb1⟩
  obtain ⟨va, vc, rfl, hVS, _, _⟩ := owns_seq (l := []) hown
  have hbx := HBX.out.step hb1 HBX.out.size
  have HB2 := Lib.hid (hbx.below.alloc (by have := hbx.size; omega) (Obj.cells #[Value.slice va 0 vc] 24))
  clear hbx hb1 hown hVS
  simp only [List.length_nil]
  go_wp2
  go_returns
  exact ⟨_, rfl, World.ownsRow_nil _ _ _ _, HB2.out⟩

set_option maxRecDepth 100000 in
set_option maxHeartbeats 4000000 in
theorem pathR_bad (w : World) (N : NetV) (h : NetAt w N) (f : Few N) (a : Option Addr) (n c : Nat) (cost : List Int) (hlen : cost.length = n) (hn : n ≤ 300) (S : Seq w a n (ints cost)) (ok : ¬ CostOk N cost) :
    Calls Try.prog 27 #[N.val, .slice a n c] w (NewPath w [] 0 1) := by
  have HBX := Lib.hid (Box.start w N)
  have C := fun W (hW : Below w.heap.size w W) => arriveR W N (h.below hW (Nat.le_refl _)) f a n c cost hlen hn (S.below hW (Nat.le_refl _))
  rw [arrO, if_neg ok, arrE, if_neg ok] at C
  have HC := Lib.hid C
  clear C h f S ok
  go_enter Try.func27, Try.ntmps27
  go_wp2_with fail
  refine (HC.out _ HBX.out.below).mono ?_
  rintro e w1 ⟨v, rfl, hown, hb1⟩
  have HB2 := Lib.hid (HBX.out.step hb1 HBX.out.size)
  clear hb1 hown
  go_wp2
  go_returns
  exact ⟨_, rfl, World.ownsRow_nil _ _ _ _, HB2.out.below⟩

section
variable (w : World) (N : NetV) (h : NetAt w N) (f : Few N) (a : Option Addr) (n c : Nat) (cost : List Int) (hlen : cost.length = n) (hn : n ≤ 300) (S : Seq w a n (ints cost))
include h f hlen hn S
theorem path : Calls Try.prog 26 #[N.val, .slice a n c] w (NewPath w (pathO N cost) (pathT N cost) (arrE N cost)) := by
  by_cases ok : CostOk N cost
  · rw [pathO, if_pos ok, pathT, if_pos ok, arrE, if_pos ok]; exact path_ok w N h f a n c cost hlen hn S ok
  · rw [pathO, if_neg ok, pathT, if_neg ok, arrE, if_neg ok]; exact path_bad w N h f a n c cost hlen hn S ok
theorem pathR : Calls Try.prog 27 #[N.val, .slice a n c] w (NewPath w (pathO N cost) (pathT N cost) (arrE N cost)) := by
  by_cases ok : CostOk N cost
  · rw [pathO, if_pos ok, pathT, if_pos ok, arrE, if_pos ok]; exact pathR_ok w N h f a n c cost hlen hn S ok
  · rw [pathO, if_neg ok, pathT, if_neg ok, arrE, if_neg ok]; exact pathR_bad w N h f a n c cost hlen hn S ok
end
end Go.Proofs.Ytkcilpkcjhnkaaa
