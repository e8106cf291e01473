import Derived.Test.YtkcilpkcjhnkaaaT34
import Derived.Test.YtkcilpkcjhnkaaaB6
namespace Go.Proofs.Ytkcilpkcjhnkaaa
open Go.RowKit
set_option linter.unusedVariables false
set_option linter.unusedSimpArgs false

def sliceLen : Value → Nat
  | .slice _ n _ => n
  | _ => 0

theorem endsOf_length (N : NetV) (f : Few N) : (endsOf N).length ≤ 200 := by
  have := f.outs
  have := f.holds
  simp [endsOf]; omega

/-- A row of numbers as it lies, with its length to be seen. -/
theorem owns_len {w : World} {base e n : Nat} {v : Value} {l : List Int} (h : w.ownsRow base e 1 v n (l.map (Value.int .i64))) : sliceLen v = n := by
  obtain ⟨a, c, rfl, _⟩ := owns_seq h
  rfl

set_option maxRecDepth 100000 in
set_option maxHeartbeats 8000000 in
theorem path_ok (w : World) (N : NetV) (h : NetAt w N) (f : Few N) (a : Option Addr) (n c : Nat) (cost : List Int) (hlen : cost.length = n) (hn : n ≤ 300) (S : Seq w a n (ints cost)) (ok : CostOk N cost) :
    Calls Try.prog 26 #[N.val, .slice a n c] w (NewPath w (wayOf N cost).reverse (headT (arrL N cost) (wayOf N cost)) 0) := by
  have HBX := Lib.hid (Box.start w N)
  have hf0 := f.ins
  have hf1 := f.holds
  have hf2 := f.luts
  have hi0 := ok.net.ins0
  have C := fun W (hW : Below w.heap.size w W) => arrive W N (h.below hW (Nat.le_refl _)) f a n c cost hlen hn (S.below hW (Nat.le_refl _))
  have C2 := fun W => first W N h.insR hf0 hf1
  have C3 := fun W (hW : Below w.heap.size w W) => ends W N (h.below hW (Nat.le_refl _)) f
  rw [arrO, if_pos ok, arrE, if_pos ok] at C
  rw [← firstN_eq hi0] at C2
  obtain ⟨hway, hwl, hwr⟩ := wayOf_is (cost := cost) ok.net
  have hEr := endsOf_range ok.net
  have hEl := endsOf_length N f
  have hTl : (arrL N cost).length = firstN N + N.luts.length := arrTo_length _ _ _
  have hIr := fun k hk => insOf_range ok.net k hk
  have hfe := firstN_eq hi0
  obtain ⟨T, hT⟩ : ∃ T, T = arrL N cost := ⟨_, rfl⟩
  obtain ⟨Wy, hWy⟩ : ∃ W, W = wayOf N cost := ⟨_, rfl⟩
  obtain ⟨E, hE⟩ : ∃ E, E = endsOf N := ⟨_, rfl⟩
  obtain ⟨F0, hF0⟩ : ∃ F, F = firstN N := ⟨_, rfl⟩
  rw [← hT] at C hway hTl ⊢
  rw [← hWy] at hway hwl hwr ⊢
  rw [← hE] at C3 hway hEr hEl
  rw [← hF0] at C2 hwl hwr hEr hTl hIr hfe
  have hF0u : F0 ≤ 201 := by omega
  have hb := Box.start w N
  have e0 := hb.c0
  have e1 := hb.c1
  have e2 := hb.c2
  have e3 := hb.c3
  have hs := hb.size
  have H := Lib.hid h
  have HC := Lib.hid C
  have HC2 := Lib.hid C2
  have HC3 := Lib.hid C3
  have HWay := Lib.hid hway
  have HTl := Lib.hid hTl
  have HIr := Lib.hid hIr
  have HFe := Lib.hid hfe
  have HEr := Lib.hid hEr
  have HWr := Lib.hid hwr
  have HF0 := Lib.hid hF0
  have HLen : Hid (∀ i, i < N.luts.length → (N.luts.getD i default).ins.length ≤ 6) := Lib.hid (fun i hi => by have := (ok.net.lut i hi).len; omega)
  obtain ⟨W0, hW0⟩ : ∃ W, W = w.alloc N.obj := ⟨_, rfl⟩
  rw [← hW0] at e0 e1 e2 e3 hs HBX
  have HW0 := Lib.hid hW0
  clear C C2 C3 ok h f S hb hW0 hT hWy hE hF0 hway hwr hEr hTl hIr hfe hlen
  obtain ⟨ins, ha, hc, holds, la, lc, luts, oa, oc, outs⟩ := N
  dsimp only at hf0 hf1 hf2 hi0 e0 e1 e2 e3 hwl HTl HWr HEr HIr
  go_enter Try.func26, Try.ntmps26
  go_wp2_with fail
  rw [← HW0.out]
  refine (HC.out _ HBX.out.below).mono ?_
  rintro e w1 ⟨v, rfl, hown, hb1⟩
  obtain ⟨va, vc, rfl, hVS, _, _⟩ := owns_seq hown
  rw [HTl.out] at hVS ⊢
  have hbx := HBX.out.step (hb1.mono hs) (Nat.le_refl _)
  obtain ⟨W2, hW2⟩ : ∃ W, W = w1.alloc (Obj.cells #[Value.slice va (F0 + luts.length) vc] 24) := ⟨_, rfl⟩
  obtain ⟨pb, hpb⟩ : ∃ p, p = w1.heap.size := ⟨_, rfl⟩
  have hbw2 : Below w1.heap.size w1 W2 := by rw [hW2]; exact (Below.refl _ _).alloc (Nat.le_refl _) _
  have z0 : W2.cell? ⟨pb, 0, none⟩ = some (.slice va (F0 + luts.length) vc) := by rw [hW2, hpb]; simp
  have hs2 : W2.heap.size = pb + 1 := by rw [hW2, hpb]; simp
  have hbx2 := hbx.step (hbw2.mono hbx.size) (Nat.le_refl _)
  have hsb := hbx.size
  rw [← hpb] at hsb
  have HVS := Lib.hid (hVS.below hbw2 (Nat.le_refl _))
  have HBX2 := Lib.hid hbx2
  have HW2 := Lib.hid hW2
  have HPb := Lib.hid hpb
  have d0 := hbx2.c0
  have d1 := hbx2.c1
  have d2 := hbx2.c2
  have d3 := hbx2.c3
  have q0 := hbx.c0
  have q1 := hbx.c1
  have q2 := hbx.c2
  have q3 := hbx.c3
  dsimp only at d0 d1 d2 d3 q0 q1 q2 q3
  rw [hW2] at d0 d1 d2 d3
  have hsb2 : w.heap.size + 1 ≤ w1.heap.size := hbx.size
  clear hbx hbx2 hbw2 hVS hown hb1 hpb hW2 e0 e1 e2 e3
  go_wp2_with fail
  rw [← HW2.out, ← HPb.out]
  refine (HC3.out _ HBX2.out.below).mono ?_
  rintro e w3 ⟨v3, rfl, hown3, hb3⟩
  obtain ⟨ea, ec, rfl, hES, _, _⟩ := owns_seq hown3
  have hs3 := hb3.size
  have hbx3 := HBX2.out.step (hb3.mono (by omega)) (Nat.le_refl _)
  have HBX3 := Lib.hid hbx3
  have HVS3 := Lib.hid (HVS.out.below hb3 (Nat.le_refl _))
  have HES3 := Lib.hid hES
  have z3 : w3.cell? ⟨pb, 0, none⟩ = some (.slice va (F0 + luts.length) vc) := (hb3.cell (p := ⟨_, _, none⟩) (by simp only; omega)).trans z0
  have Z3 := Lib.hid z3
  have k0 := hbx3.c0
  have k1 := hbx3.c1
  have k2 := hbx3.c2
  have k3 := hbx3.c3
  dsimp only at k0 k1 k2 k3
  clear hbx3 hown3 hb3 hES d0 d1 d2 d3 q0 q1 q2 q3 z0 z3
  by_cases hE0 : E = []
  · subst hE0
    have hWy0 : Wy = [] := HWay.out.unique .stop
    subst hWy0
    simp only [List.length_nil, List.reverse_nil, headT]
    go_wp2
    go_returns
    exact ⟨_, rfl, World.ownsRow_nil _ _ _ _, HBX3.out.below⟩
  · have hEl0 : 0 < E.length := List.length_pos_iff.2 hE0
    have hne : ((E.length : Int) == 0) = false := by rw [beq_eq_false_iff_ne]; omega
    have hWne : Wy ≠ [] := by
      intro e; have := HWay.out; rw [e] at this; cases this; exact hE0 rfl
    have HE0 := Lib.hid hE0
    clear hE0
    go_wp2
    go_loopw [10, 11] (fun fv wv wr => ∃ (fr pre l2 : List Int) (fa : Option Addr) (fc : Nat), fv = .slice fa fr.length fc ∧ fr.length ≤ 1000 ∧ Hid (Seq w3 fa fr.length (ints fr) ∧ Below w3.heap.size w3 wr ∧ wr.ownsRow w3.heap.size 3 1 wv pre.length (pre.map (Value.int .i64)) ∧ Way ⟨ins, ha, hc, holds, la, lc, luts, oa, oc, outs⟩ T fr l2 ∧ pre ++ l2 = Wy ∧ ∀ x ∈ fr, 0 ≤ x ∧ x < ((F0 + luts.length : Nat) : Int))) (fun _ wv _ => Wy.length - sliceLen wv)
    case atStart => exact ⟨E, [], Wy, ea, ec, rfl, by omega, HES3.out, Below.refl _ _, World.ownsRow_nil _ _ _ _, HWay.out, rfl, HEr.out⟩
    case round =>
      obtain ⟨fr, pre, l2, fa, fc, rfl, hfl, hh⟩ := hrel
      obtain ⟨hfS, hbr, hown, hwy, hpre, hfr⟩ := hh.out
      have hbxr := HBX3.out.step (hbr.mono (by omega)) (Nat.le_refl _)
      have hsr := hbr.size
      have hpl := congrArg List.length hpre
      rw [List.length_append] at hpl
      by_cases hf0 : fr = []
      · subst hf0
        have hl20 : l2 = [] := hwy.unique .stop
        subst hl20
        rw [List.append_nil] at hpre
        subst hpre
        obtain ⟨g, cap, rfl, hg, hgs, hgc, hcell⟩ := owns_shape hown (by exact List.length_pos_iff.2 hWne)
        have hpl0 : 0 < pre.length := List.length_pos_iff.2 hWne
        have y0 := hcell 0 hpl0
        have hx := HWr.out _ (getD_mem pre 0 hpl0)
        have hh0 : headT T pre = T.getD (pre.getD 0 0).toNat 0 := by
          cases pre with
          | nil => exact absurd rfl hWne
          | cons x l => rfl
        obtain ⟨x0, hx0⟩ : ∃ x, x = pre.getD 0 0 := ⟨_, rfl⟩
        rw [← hx0] at y0 hx hh0
        obtain ⟨tb, toff, rfl, htb, htc⟩ := (HVS3.out.below hbr (Nat.le_refl _)).at x0.toNat (by omega)
        have y1 := htc x0.toNat (by omega)
        unfold ints at y1
        have y2 := (hbr.cell (p := ⟨pb, 0, none⟩) (by simp only; omega)).trans Z3.out
        obtain ⟨tot, htot⟩ : ∃ t, t = T.getD x0.toNat 0 := ⟨_, rfl⟩
        rw [← htot] at y1 hh0
        have HH0 := Lib.hid hh0
        obtain ⟨hx1, hx2⟩ := hx
        have HOwn := Lib.hid hown
        have HBr := Lib.hid hbr
        clear htc hx0 htot hh0 hcell hown hbr hwy hfr hbxr
        simp only [List.length_nil]
        go_wp2_with fail
        go_quiet (fail)
        go_wp2_with fail
        refine (reverse _ w3.heap.size g pre.length cap pre rfl (by omega) (by first | exact HOwn.out | exact own_drewN HOwn.out)).mono ?_
        rintro e w8 ⟨⟨v8, rfl⟩, hown8, hgr8⟩
        have HOwn8 := Lib.hid hown8
        have hb8 : Below w3.heap.size wr w8 := by
          first | exact grownBy_below hgr8 hsr hg | exact (belowN (Below.refl _ _)).trans (grownBy_below hgr8 hsr hg)
        have HB8 := Lib.hid hb8
        clear hown8 hgr8 hb8
        go_wp2
        go_returns
        refine ⟨_, by rw [HH0.out]; rfl, ?_, (HBX3.out.step ((HBr.out.trans HB8.out).mono (by omega)) (Nat.le_refl _)).below⟩
        rw [List.length_reverse]
        exact HOwn8.out.base_le (by omega)
      · have hfl0 : 0 < fr.length := List.length_pos_iff.2 hf0
        have hmax := maxFunc wr fa fr.length fc fr rfl hfl0 (by omega) (hfS.below hbr (Nat.le_refl _)) pb 0 va (F0 + luts.length) vc T ((hbr.cell (p := ⟨_, _, none⟩) (by simp only; omega)).trans Z3.out) (HVS3.out.below hbr (Nat.le_refl _)) (by omega) hfr
        have hmem := hfr _ (latestV_mem T fr hf0)
        obtain ⟨l3, hl3, hwy3⟩ : ∃ l3, l2 = latestV T fr :: l3 ∧ Way ⟨ins, ha, hc, holds, la, lc, luts, oa, oc, outs⟩ T (insOf ⟨ins, ha, hc, holds, la, lc, luts, oa, oc, outs⟩ (latestV T fr)) l3 := by
          cases hwy with
          | stop => exact absurd rfl hf0
          | go _ r => exact ⟨_, rfl, r⟩
        rw [hl3, List.length_cons] at hpl
        obtain ⟨nd, hnd⟩ : ∃ x, x = latestV T fr := ⟨_, rfl⟩
        rw [← hnd] at hmax hmem hl3 hwy3
        have HMax := Lib.hid hmax
        have HWy3 := Lib.hid hwy3
        have HL3 := Lib.hid hl3
        obtain ⟨hm0, hm1⟩ := hmem
        clear hmax hwy3 hl3 hnd hwy hfS
        go_wp2_with fail
        refine HMax.out.mono ?_
        rintro e w4 ⟨rfl, hb4⟩
        have hbr4 := hbr.trans (hb4.mono hsr)
        have hown4 := own_below hown hb4
        have hs4 := hb4.size
        obtain ⟨i0, hi, hz0, hz1, hz2⟩ := info_parts info3
        clear HMax
        go_wp2_with (at_builtin; refine wpList_append_seq rfl _ _ 24 rfl w3.heap.size 3 i0 (.int .i64 0) 8 Try.underlying24 hi hz0 hz1 hz2 rfl _ _ _ rfl (hown4.alloc _) (some ⟨w4.heap.size, 0, none⟩) 1 1 [.int .i64 nd] (fun _ => .int .i64 nd) rfl rfl ?_ ?_ ?_ ?_ ?_ ?_ ?_)
        · exact Seq.one rfl
        · intro j hj
          obtain rfl : j = 0 := by omega
          rfl
        · simp [Value.oneCell']
        · unfold maxLen; omega
        · omega
        · simp; omega
        intro v5 w5 hown5 hgrow5
        have hb45 : Below w3.heap.size w4 w5 := (((Below.refl _ _).alloc (by omega) (Obj.cells #[.int .i64 nd] 3)).grown hgrow5 (by simp; omega) (fun k e => (hown4.lt k e).1))
        have hbr5 := hbr4.trans hb45
        have hs5 := hbr5.size
        have hbx5 := HBX3.out.step (hbr5.mono (by omega)) (Nat.le_refl _)
        have k0 := hbx5.c0
        have k1 := hbx5.c1
        have k2 := hbx5.c2
        have k3 := hbx5.c3
        dsimp only at k0 k1 k2 k3
        have hl5 := owns_len (l := pre ++ [nd]) (by rw [List.map_append]; exact hown5)
        have hlw := owns_len hown
        have HLen5 : Hid (Wy.length - sliceLen v5 < Wy.length - sliceLen u11) := Lib.hid (by rw [hl5, hlw]; omega)
        have HOwn5 : Hid (w5.ownsRow w3.heap.size 3 1 v5 (pre.length + 1) ((pre ++ [nd]).map (Value.int .i64))) := Lib.hid (by rw [List.map_append]; exact hown5)
        have HBr5 := Lib.hid hbr5
        clear hb45 hgrow5 hown5 hown4 hb4 hbx5 hl5 hlw
        go_wp2_with fail
        refine (HC2.out _).mono ?_
        rintro e w6 ⟨rfl, hb6⟩
        have hbr6 := HBr5.out.trans (hb6.mono hs5)
        have hs6 := hbr6.size
        have HBr6 := Lib.hid hbr6
        have HOwn6 := Lib.hid (own_below HOwn5.out hb6)
        have hbx6 := HBX3.out.step (hbr6.mono (by omega)) (Nat.le_refl _)
        have k0 := hbx6.c0
        have k1 := hbx6.c1
        have k2 := hbx6.c2
        have k3 := hbx6.c3
        dsimp only at k0 k1 k2 k3
        clear hb6 hbr6 hbx6 hbr5
        have HPre : Hid ((pre ++ [nd]) ++ l3 = Wy) := Lib.hid (by rw [List.append_assoc]; have := HL3.out; rw [this] at hpre; exact hpre)
        by_cases hge : (F0 : Int) ≤ nd
        · obtain ⟨i, hi_⟩ : ∃ i, i = nd.toNat - F0 := ⟨_, rfl⟩
          have hni : nd = (F0 : Int) + i := by omega
          have hiL : i < luts.length := by omega
          obtain ⟨b, off, rfl, hbb, t0, _⟩ := (H.out.below (HBX3.out.below.trans (HBr6.out.mono (by omega))) (Nat.le_refl _)).lut i hiL
          obtain ⟨hU, _, _, _⟩ := H.out.lutAt i hiL
          have hl6 := HLen.out i hiL
          have hins : insOf ⟨ins, ha, hc, holds, some ⟨b, off, none⟩, lc, luts, oa, oc, outs⟩ nd = (luts.getD i default).ins := by
            rw [insOf, if_pos (by rw [← HF0.out]; exact hge), ← HF0.out, ← hi_]
          have hrg := HIr.out nd (by omega)
          have hwy3 := HWy3.out
          rw [hins] at hrg hwy3
          obtain ⟨L, hLe⟩ : ∃ L, L = luts.getD i default := ⟨_, rfl⟩
          dsimp only at t0 hU hl6
          rw [← hLe] at t0 hU hl6 hrg hwy3
          obtain ⟨La, Lc, Li, Lt⟩ := L
          dsimp only at t0 hU hl6 hrg hwy3
          have HU := Lib.hid hU
          have HRg := Lib.hid hrg
          have HWy4 := Lib.hid hwy3
          have hsub : IntKind.i64.wrap (nd - (F0 : Int)) = (i : Int) := by rw [IntWalk.i64_in _ (by omega)]; omega
          have hto : (nd - (F0 : Int)).toNat = i := by omega
          have HNi := Lib.hid hni
          clear hLe hU hrg hwy3 hins hi_ hni
          go_wp2_with fail
          refine wp_region_held_drew (S := fun w' => w'.cell? ⟨w.heap.size, 0, none⟩ = some (.int .i64 ins) ∧ w'.cell? ⟨w.heap.size, 1, none⟩ = some (Value.slice ha holds.length hc) ∧ w'.cell? ⟨w.heap.size, 2, none⟩ = some (Value.slice (some ⟨b, off, none⟩) luts.length lc) ∧ w'.cell? ⟨w.heap.size, 3, none⟩ = some (Value.slice oa outs.length oc) ∧ w'.cell? ⟨b, off + i * 2, none⟩ = some (.slice La Li.length Lc)) (by kernel_rfl) (⟨k0, k1, k2, k3, t0⟩) (fun hHeld => ?_)
          refine wpAnyH_take (i := 0) (v := ?_) (by simp only [List.getElem?_toArray, List.getElem?_cons_succ, List.getElem?_cons_zero]; rfl) (by kernel_rfl) (by kernel_rfl) (by kernel_rfl) (by intro _ _ _ h; exact h) (Or.inl ⟨by rfl, ?_⟩) (by assumption) ?_
          rotate_left
          · intro w hSw; (try dsimp only at hSw); go_simp; try with_reducible rfl
          try simp only [Act.put, List.setIfInBounds_toArray, List.set_cons_zero, List.set_cons_succ]
          refine wpAnyH_take (i := 1) (v := ?_) (by simp only [List.getElem?_toArray, List.getElem?_cons_succ, List.getElem?_cons_zero]; rfl) (by kernel_rfl) (by kernel_rfl) (by kernel_rfl) (by intro _ _ _ h; exact h) (Or.inl ⟨by rfl, ?_⟩) (by assumption) ?_
          rotate_left
          · intro w hSw; (try dsimp only at hSw); go_simp; try with_reducible rfl
          try simp only [Act.put, List.setIfInBounds_toArray, List.set_cons_zero, List.set_cons_succ]
          refine wpAnyH_take (i := 2) (v := ?_) (by simp only [List.getElem?_toArray, List.getElem?_cons_succ, List.getElem?_cons_zero]; rfl) (by kernel_rfl) (by kernel_rfl) (by kernel_rfl) (by intro _ _ _ h; exact h) (Or.inl ⟨by rfl, ?_⟩) (by assumption) ?_
          rotate_left
          · intro w hSw; (try dsimp only at hSw); go_simp; try with_reducible rfl
          try simp only [Act.put, List.setIfInBounds_toArray, List.set_cons_zero, List.set_cons_succ]
          refine wpAnyH_take (i := 3) (v := ?_) (by simp only [List.getElem?_toArray, List.getElem?_cons_succ, List.getElem?_cons_zero]; rfl) (by kernel_rfl) (by kernel_rfl) (by kernel_rfl) (by intro _ _ _ h; exact h) (Or.inl ⟨by rfl, ?_⟩) (by assumption) ?_
          rotate_left
          · intro w hSw; (try dsimp only at hSw); go_simp; try with_reducible rfl
          try simp only [Act.put, List.setIfInBounds_toArray, List.set_cons_zero, List.set_cons_succ]
          refine wpAnyH_ready (rs := [4]) (by kernel_rfl) (by simp) ?_
          refine AllReadyH.cons (o := _) (by simp only [List.getElem?_toArray, List.getElem?_cons_succ, List.getElem?_cons_zero]; rfl) (fun K hK => ?_) AllReadyH.nil
          go_simp
          go_at_call 33
          refine (HC2.out _).mono ?_
          rintro e w7 ⟨rfl, hb7⟩
          have hB7 : Below w6.heap.size w6 w7 := (Below.refl _ _).drew.trans hb7
          have hs7 := hB7.size
          go_simp
          refine hK.out _ _ (by exact ⟨(hB7.cell (p := ⟨_, _, none⟩) (by simp only; omega)).trans k0, (hB7.cell (p := ⟨_, _, none⟩) (by simp only; omega)).trans k1, (hB7.cell (p := ⟨_, _, none⟩) (by simp only; omega)).trans k2, (hB7.cell (p := ⟨_, _, none⟩) (by simp only; omega)).trans k3, (hB7.cell (p := ⟨_, _, none⟩) (by simp only; omega)).trans t0⟩) (fun hHeld => ?_)
          clear hK K
          try simp only [Act.put, List.setIfInBounds_toArray, List.set_cons_zero, List.set_cons_succ]
          refine wpAnyH_take (i := 5) (v := ?_) (by simp only [List.getElem?_toArray, List.getElem?_cons_succ, List.getElem?_cons_zero]; rfl) (by kernel_rfl) (by kernel_rfl) (by kernel_rfl) (by intro _ _ _ h; exact h) (Or.inl ⟨by rfl, ?_⟩) (by assumption) ?_
          rotate_left
          · intro w hSw; (try dsimp only at hSw); go_simp; try with_reducible rfl
          try simp only [Act.put, List.setIfInBounds_toArray, List.set_cons_zero, List.set_cons_succ]
          refine wpAnyH_take (i := 6) (v := ?_) (by simp only [List.getElem?_toArray, List.getElem?_cons_succ, List.getElem?_cons_zero]; rfl) (by kernel_rfl) (by kernel_rfl) (by kernel_rfl) (by intro _ _ _ h; exact h) (Or.inl ⟨by rfl, ?_⟩) (by assumption) ?_
          rotate_left
          · intro w hSw; (try dsimp only at hSw); go_simp; first | with_reducible rfl | rw [if_pos (by omega)]
          try simp only [Act.put, List.setIfInBounds_toArray, List.set_cons_zero, List.set_cons_succ]
          refine wpAnyH_take (i := 7) (v := ?_) (by simp only [List.getElem?_toArray, List.getElem?_cons_succ, List.getElem?_cons_zero]; rfl) (by kernel_rfl) (by kernel_rfl) (by kernel_rfl) (by intro _ _ _ h; exact h) (Or.inl ⟨by rfl, ?_⟩) (by assumption) ?_
          rotate_left
          · intro w hSw; (try dsimp only at hSw); go_simp; try with_reducible rfl
          try simp only [Act.put, List.setIfInBounds_toArray, List.set_cons_zero, List.set_cons_succ]
          refine wpAnyH_take (i := 8) (v := ?_) (by simp only [List.getElem?_toArray, List.getElem?_cons_succ, List.getElem?_cons_zero]; rfl) (by kernel_rfl) (by kernel_rfl) (by kernel_rfl) (by intro _ _ _ h; exact h) (Or.inl ⟨by rfl, ?_⟩) (by assumption) ?_
          rotate_left
          · intro w hSw; (try dsimp only at hSw); go_simp; try with_reducible rfl
          try simp only [Act.put, List.setIfInBounds_toArray, List.set_cons_zero, List.set_cons_succ]
          refine wpAnyH_take (i := 9) (v := ?_) (by simp only [List.getElem?_toArray, List.getElem?_cons_succ, List.getElem?_cons_zero]; rfl) (by kernel_rfl) (by kernel_rfl) (by kernel_rfl) (by intro _ _ _ h; exact h) (Or.inl ⟨by rfl, ?_⟩) (by assumption) ?_
          rotate_left
          · intro w hSw; (try dsimp only at hSw); go_simp; try with_reducible rfl
          try simp only [Act.put, List.setIfInBounds_toArray, List.set_cons_zero, List.set_cons_succ]
          refine wpAnyH_done (by kernel_rfl) ?_ _
          go_wp2
          go_roundw
          case rel =>
            have hb7' := HBr6.out.trans (hB7.mono hs6)
            refine ⟨Li, pre ++ [nd], l3, La, Lc, rfl, by omega, Lib.hid ⟨HU.out.below HBX3.out.below (Nat.le_refl _), hb7', ?_, HWy4.out, HPre.out, fun x hx => by have := HRg.out x hx; omega⟩⟩
            rw [List.length_append, List.length_singleton]
            exact own_below HOwn6.out hB7
          case measure => exact HLen5.out
        · have hins : insOf ⟨ins, ha, hc, holds, la, lc, luts, oa, oc, outs⟩ nd = [] := by rw [insOf, if_neg (by rw [← HF0.out]; exact hge)]
          have hwy3 := HWy3.out
          rw [hins] at hwy3
          have HWy4 := Lib.hid hwy3
          clear hins hwy3
          go_wp2
          go_roundw
          case rel =>
            refine ⟨[], pre ++ [nd], l3, none, 0, rfl, by simp, Lib.hid ⟨.inl rfl, HBr6.out, ?_, HWy4.out, HPre.out, fun x hx => by cases hx⟩⟩
            rw [List.length_append, List.length_singleton]
            exact HOwn6.out
          case measure => exact HLen5.out
end Go.Proofs.Ytkcilpkcjhnkaaa
