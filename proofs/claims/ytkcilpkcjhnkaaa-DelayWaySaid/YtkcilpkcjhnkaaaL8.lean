import Derived.Test.YtkcilpkcjhnkaaaL7
import Derived.Test.YtkcilpkcjhnkaaaP7
namespace Go.Proofs.Ytkcilpkcjhnkaaa
open Go.RowKit
set_option linter.unusedVariables false
set_option linter.unusedSimpArgs false

theorem any_take (l : List Int) (p : Int) (q : Nat) (hq : q < l.length) : (l.take (q + 1)).any (· == p) = ((l.take q).any (· == p) || (l.getD q 0 == p)) := by
  rw [List.take_succ_eq_append_getElem hq, List.any_append]
  simp [List.getD, List.getElem?_eq_getElem hq]

set_option maxRecDepth 100000 in
set_option maxHeartbeats 4000000 in
theorem delayWay (w : World) (N : NetV) (h : NetAt w N) (a : Option Addr) (n c : Nat) (cost : List Int) (hlen : cost.length = n) (hn : n ≤ 9223372036854775807) (S : Seq w a n (ints cost)) :
    Calls Try.prog 9 #[N.val, .slice a n c] w fun e w' => e = .returned (.bool true) ∧ Below w.heap.size w w' := by
  have HBX := Lib.hid (Box.start w N)
  have H := Lib.hid h
  have HS := Lib.hid S
  have HLen := Lib.hid hlen
  clear h S hlen
  obtain ⟨fb, hfb⟩ : ∃ b, b = fewB N := ⟨_, rfl⟩
  have HF := Lib.hid hfb
  clear hfb
  go_enter Try.func9, Try.ntmps9
  go_wp2_with fail
  refine (live _).mono ?_
  rintro e w1 ⟨rfl, hb1⟩
  have hbx := HBX.out.step hb1 (by simp)
  have HBx := Lib.hid hbx
  have c0 := hbx.c0
  have c1 := hbx.c1
  have c2 := hbx.c2
  have c3 := hbx.c3
  clear hbx hb1
  go_wp2_with fail
  have hC := few w1 N (H.out.below HBx.out.below (Nat.le_refl _)) a n c hn
  rw [← HF.out] at hC
  refine hC.mono ?_
  rintro e w2 ⟨rfl, hb2⟩
  have hbx := HBx.out.step hb2 HBx.out.size
  have HBx2 := Lib.hid hbx
  have d0 := hbx.c0
  have d1 := hbx.c1
  have d2 := hbx.c2
  have d3 := hbx.c3
  clear hbx hb2 c0 c1 c2 c3 hC
  cases fb
  · go_wp2
    go_ret
    exact ⟨ret_bool (by simp), HBx2.out.below⟩
  · by_cases h300 : n ≤ 300
    · have F := few_of N HF.out.symm
      have hAl := pathO_length N cost F
      have HFw := Lib.hid F
      have hf0 := F.ins
      have hf1 := F.holds
      have hf2 := F.luts
      have hf4 := F.outs
      go_wp2_with fail
      have hC := path w2 N (H.out.below HBx2.out.below (Nat.le_refl _)) F a n c cost HLen.out h300 (HS.out.below HBx2.out.below (Nat.le_refl _))
      clear F
      by_cases ok : CostOk N cost
      · have hok := way_ok ok
        have hcb := costK_bound ok
        have hln := ok.len
        have hi0 := ok.net.ins0
        have hfe := firstN_eq hi0
        rw [pathO, if_pos ok] at hAl
        rw [pathO, if_pos ok, pathT, if_pos ok, arrE, if_pos ok] at hC
        have HNet := Lib.hid ok.net
        obtain ⟨wy, hwy⟩ : ∃ x, x = (wayOf N cost).reverse := ⟨_, rfl⟩
        rw [← hwy] at hC hok hAl
        obtain ⟨tot, htot⟩ : ∃ x, x = headT (arrL N cost) (wayOf N cost) := ⟨_, rfl⟩
        rw [← htot] at hC hok
        obtain ⟨F0, hF0⟩ : ∃ x, x = firstN N := ⟨_, rfl⟩
        rw [← hF0] at hfe
        obtain ⟨m, hm⟩ : ∃ m, m = wy.length := ⟨_, rfl⟩
        rw [← hm] at hAl
        have hF0u : F0 ≤ 201 := by omega
        have hnl : n = N.luts.length := by rw [← HLen.out]; exact hln
        have hnb : ((n : Int) != (N.luts.length : Int)) = false := by rw [bne_eq_false_iff_eq]; omega
        have hnil : m = 0 ↔ N.outs.length + N.holds.length = 0 := by
          rw [hm, List.length_eq_zero_iff, hok.nil, ← List.length_eq_zero_iff]
          simp [endsOf]
        have HOk := Lib.hid hok
        have HCb := Lib.hid hcb
        have HFe := Lib.hid hfe
        have HF0 := Lib.hid hF0
        have HM := Lib.hid hm
        have HNil := Lib.hid hnil
        have HNl := Lib.hid hnl
        clear ok hok hcb hwy htot hF0 hm hnil hnl hfe hln
        refine hC.mono ?_
        rintro e w3 ⟨v, rfl, hown, hb3⟩
        obtain ⟨va, vc, rfl, hVS, _, _⟩ := owns_seq hown
        rw [← HM.out] at hVS ⊢
        have hbx := HBx2.out.step hb3 HBx2.out.size
        have HBx3 := Lib.hid hbx
        have k0 := hbx.c0
        have k1 := hbx.c1
        have k2 := hbx.c2
        have k3 := hbx.c3
        have HVS := Lib.hid hVS
        clear hbx hb3 hC hown hVS d0 d1 d2 d3
        obtain ⟨ins, ha, hc, holds, la, lc, luts, oa, oc, outs⟩ := N
        dsimp only at k0 k1 k2 k3 hf0 hf1 hf2 hf4 hi0 hnb
        go_wp2_with fail
        rw [← show (F0 : Int) = 1 + ins + (holds.length : Int) from HFe.out]
        go_loop [9, 53] (fun sv iv => ∃ i : Nat, i ≤ m ∧ iv = .int .i64 i ∧ sv = .int .i64 (sumL (costK ⟨ins, ha, hc, holds, la, lc, luts, oa, oc, outs⟩ cost) (wy.take i))) (fun _ iv => m - (intOf iv).toNat)
        case atStart => exact ⟨0, by omega, rfl, rfl⟩
        case round =>
          obtain ⟨i, hi, rfl, rfl⟩ := hrel
          obtain ⟨hs0, hs1⟩ := sumL_bound _ HCb.out wy i (by rw [← HM.out]; exact hi)
          by_cases hlt : i < m
          · have hst := sumL_take (costK ⟨ins, ha, hc, holds, la, lc, luts, oa, oc, outs⟩ cost) wy i (by rw [← HM.out]; exact hlt)
            obtain ⟨b1, off1, hva, _, hcl⟩ := HVS.out.at i hlt
            have y0 := hcl i hlt
            unfold ints at y0
            obtain ⟨hr0, hr1⟩ := HOk.out.range i (by rw [← HM.out]; exact hlt)
            have htab := HOk.out.tab i
            have hstart := HOk.out.start (by rw [← HM.out]; omega)
            rw [← HM.out] at htab
            rw [← HF0.out] at hr1 htab
            have hkc : costK ⟨ins, ha, hc, holds, la, lc, luts, oa, oc, outs⟩ cost (wy.getD i 0) = if (F0 : Int) ≤ wy.getD i 0 then cost.getD ((wy.getD i 0).toNat - F0) 0 else 0 := by rw [costK, ← HF0.out]
            dsimp only at hr1
            obtain ⟨k, hk⟩ : ∃ k, k = wy.getD i 0 := ⟨_, rfl⟩
            rw [← hk] at y0 hr0 hr1 htab hst hkc
            rw [hkc] at hst
            obtain ⟨s, hs⟩ : ∃ s, s = sumL (costK ⟨ins, ha, hc, holds, la, lc, luts, oa, oc, outs⟩ cost) (wy.take i) := ⟨_, rfl⟩
            rw [← hs] at hs0 hs1 hst ⊢
            by_cases hkf : (F0 : Int) ≤ k
            · obtain ⟨j, hj⟩ : ∃ j, j = k.toNat - F0 := ⟨_, rfl⟩
              have hjL : j < luts.length := by omega
              have hkj : k = (F0 : Int) + j := by omega
              have hjn : j < n := by rw [HNl.out]; exact hjL
              rw [if_pos hkf, ← hj] at hst
              obtain ⟨b2, off2, ha2, _, hcc⟩ := (HS.out.below HBx3.out.below (Nat.le_refl _)).at j (by rw [HNl.out]; exact hjL)
              have z0 := hcc j (by rw [HNl.out]; exact hjL)
              unfold ints at z0
              have hcb := HCb.out k
              rw [costK, if_pos (by rw [← HF0.out]; exact hkf), ← HF0.out, ← hj] at hcb
              obtain ⟨cx, hcx⟩ : ∃ x, x = cost.getD j 0 := ⟨_, rfl⟩
              rw [← hcx] at z0 hst hcb
              obtain ⟨hcx0, hcx1⟩ := hcb
              obtain ⟨b, off, hla, hbb, t0, _⟩ := (H.out.below HBx3.out.below (Nat.le_refl _)).lut j hjL
              obtain ⟨hU, _, _, _⟩ := H.out.lutAt j hjL
              have hl6 := (HNet.out.lut j hjL).len
              have hins : insOf ⟨ins, ha, hc, holds, la, lc, luts, oa, oc, outs⟩ k = (luts.getD j default).ins := by rw [insOf, if_pos (by rw [← HF0.out]; exact hkf), ← HF0.out, ← hj]
              dsimp only at t0 hU hl6 hla
              rw [hins] at htab
              obtain ⟨L, hLe⟩ : ∃ L, L = luts.getD j default := ⟨_, rfl⟩
              rw [← hLe] at t0 hU hl6 htab hins
              obtain ⟨La, Lc, Li, Lt⟩ := L
              dsimp only at t0 hU hl6 htab hins
              have HU := Lib.hid (hU.below HBx3.out.below (Nat.le_refl _))
              have hsub : IntKind.i64.wrap (k - (F0 : Int)) = (j : Int) := by rw [IntWalk.i64_in _ (by omega)]; omega
              have hto : (k - (F0 : Int)).toNat = j := by omega
              have hknl : ¬ k < (F0 : Int) := by omega
              have hku : ¬ ((F0 : Int) + luts.length ≤ k) := by omega
              have hws : IntKind.i64.wrap (s + cx) = s + cx := IntWalk.i64_in _ (by omega)
              obtain ⟨ml, hml⟩ : ∃ m, m = Li.length := ⟨_, rfl⟩
              rw [← hml] at t0 hU hl6
              subst ha2
              subst hla
              have HMl := Lib.hid hml
              have HSt := Lib.hid hst
              have HTab := Lib.hid htab
              have HU2 : Hid (Seq w3 La ml (ints Li)) := Lib.hid (by rw [HMl.out]; exact HU.out)
              by_cases hi0 : i = 0
              · subst hi0
                rw [← hk, hins] at hstart
                have hml0 : ml = 0 := by rw [HMl.out, hstart]; rfl
                subst hml0
                subst hva
                rw [Nat.add_zero] at y0
                clear htab hstart hkc hst hs hk hcl hcc hcx hLe hU hins hml hj hkj hkf
                go_wp2
                go_loop [13, 107] (fun mv jv => mv = .bool true ∧ jv = .int .i64 0) (fun _ _ => 0)
                case atStart => exact ⟨rfl, rfl⟩
                case round =>
                  obtain ⟨rfl, rfl⟩ := hrel
                  go_wp2
                  go_round
                  case rel => exact ⟨1, by omega, by go_num, by rw [HSt.out]⟩
                  case measure => simp [intOf]; omega
              · obtain ⟨i', hi'⟩ : ∃ i', i = i' + 1 := ⟨i - 1, by omega⟩
                have hmem := (htab (by omega) hlt).2
                rw [show i - 1 = i' by omega] at hmem
                have y2 := hcl i' (by omega)
                unfold ints at y2
                obtain ⟨pv, hpv⟩ : ∃ p, p = wy.getD i' 0 := ⟨_, rfl⟩
                rw [← hpv] at hmem y2
                have HMem : Hid (Li.any (· == pv) = true) := Lib.hid (List.any_eq_true.2 ⟨pv, hmem, by simp⟩)
                have hml0 : ml ≠ 0 := by
                  intro e; rw [HMl.out] at e
                  rw [List.length_eq_zero_iff.1 e] at hmem; cases hmem
                have hmlb : ((ml : Int) == 0) = false := by rw [beq_eq_false_iff_ne]; omega
                have hib : ((i : Int) == 0) = false := by rw [beq_eq_false_iff_ne]; omega
                have hsub1 : IntKind.i64.wrap ((i : Int) - 1) = (i' : Int) := by rw [IntWalk.i64_in _ (by omega)]; omega
                have hto1 : ((i : Int) - 1).toNat = i' := by omega
                have hip : 0 < i := by omega
                have hi'm : i' < m := by omega
                have HI := Lib.hid hi'
                subst hva
                clear htab hstart hkc hst hs hk hcl hcc hcx hLe hU hins hml hj hkj hkf hpv hmem hi'
                go_wp2_with fail
                go_loop [13, 107] (fun mv jv => ∃ q : Nat, q ≤ ml ∧ jv = .int .i64 q ∧ mv = .bool ((Li.take q).any (· == pv))) (fun _ jv => ml - (intOf jv).toNat)
                case atStart => exact ⟨0, by omega, rfl, rfl⟩
                case round =>
                  obtain ⟨q, hq, rfl, rfl⟩ := hrel
                  by_cases hlq : q < ml
                  · have hany := any_take Li pv q (by rw [← HMl.out]; exact hlq)
                    obtain ⟨b3, off3, hb3, _, hc3⟩ := HU2.out.at q hlq
                    have x0 := hc3 q hlq
                    unfold ints at x0
                    subst hb3
                    obtain ⟨x, hx⟩ : ∃ x, x = Li.getD q 0 := ⟨_, rfl⟩
                    rw [← hx] at x0 hany
                    obtain ⟨y, hy⟩ : ∃ y, y = (Li.take q).any (· == pv) := ⟨_, rfl⟩
                    rw [← hy] at hany ⊢
                    have HAny := Lib.hid hany
                    clear hany hx hy hc3
                    cases y
                    · cases hxp : (x == pv)
                      · have HXP := Lib.hid hxp
                        go_wp2
                        go_round
                        case rel => exact ⟨q + 1, by omega, by go_num, by rw [HAny.out, HXP.out]; rfl⟩
                        case measure => simp [intOf]; omega
                      · have HXP := Lib.hid hxp
                        have hxe : x = pv := by simpa using hxp
                        go_wp2
                        go_round
                        case rel => exact ⟨q + 1, by omega, by go_num, by rw [HAny.out, HXP.out]; rfl⟩
                        case measure => simp [intOf]; omega
                    · go_wp2
                      go_round
                      case rel => exact ⟨q + 1, by omega, by go_num, by rw [HAny.out]; rfl⟩
                      case measure => simp [intOf]; omega
                  · obtain rfl : q = ml := by omega
                    rw [List.take_of_length_le (by rw [← HMl.out]; exact Nat.le_refl _), HMem.out]
                    go_wp2
                    go_round
                    case rel => exact ⟨i + 1, by omega, by go_num, by rw [HSt.out]⟩
                    case measure => simp [intOf]; omega
            · have hi00 : i = 0 := by
                rcases Nat.eq_zero_or_pos i with h | h
                · exact h
                · exact absurd (htab h hlt).1 hkf
              subst hi00
              rw [if_neg hkf] at hst
              have HSt := Lib.hid hst
              clear htab hstart hkc hst hs hk hcl
              subst hva
              rw [Nat.add_zero] at y0
              have hkl : k < (F0 : Int) := by omega
              clear hkf
              go_wp2
              go_round
              case rel => exact ⟨1, by omega, by go_num, by rw [HSt.out]; go_num⟩
              case measure => simp [intOf]; omega
          · obtain rfl : i = m := by omega
            have hsum := HOk.out.sum
            rw [List.take_of_length_le (by rw [← HM.out]; exact Nat.le_refl _)] at hs0 hs1 ⊢
            rw [hsum] at hs0 hs1 ⊢
            have hnil := HNil.out
            clear hsum
            by_cases hm0 : i = 0
            · have h00 := hnil.1 hm0
              try dsimp only at h00
              have h01 : outs.length = 0 := by omega
              have h02 : holds.length = 0 := by omega
              have h03 : ((outs.length : Int) + (holds.length : Int) == 0) = true := by rw [beq_iff_eq]; omega
              subst hm0
              clear hnil h00
              go_wp2
              go_ret
              exact ⟨ret_bool (by simp [h01, h02]), HBx3.out.below⟩
            · have h00 : ¬ (outs.length + holds.length = 0) := fun h => hm0 (hnil.2 h)
              have hmb : ((i : Int) == 0) = false := by rw [beq_eq_false_iff_ne]; omega
              have h03 : ((outs.length : Int) + (holds.length : Int) == 0) = false := by rw [beq_eq_false_iff_ne]; omega
              clear hnil hm0
              go_wp2
              go_ret
              exact ⟨ret_bool (by simp [hmb, h03]), HBx3.out.below⟩
      · rw [pathO, if_neg ok, pathT, if_neg ok, arrE, if_neg ok] at hC
        clear ok hAl
        refine hC.mono ?_
        rintro e w3 ⟨v, rfl, hown, hb3⟩
        obtain ⟨va, vc, rfl, hVS, _, _⟩ := owns_seq (l := []) hown
        have HB3 := Lib.hid (HBx2.out.step hb3 HBx2.out.size)
        clear hown hC hb3 hVS
        simp only [List.length_nil]
        go_wp2
        go_ret
        exact ⟨ret_bool (by simp), HB3.out.below⟩
    · go_wp2
      go_ret
      exact ⟨ret_bool (by simp), HBx2.out.below⟩
end Go.Proofs.Ytkcilpkcjhnkaaa
