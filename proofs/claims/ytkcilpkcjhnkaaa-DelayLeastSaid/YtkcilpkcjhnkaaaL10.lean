import Derived.Test.YtkcilpkcjhnkaaaP9
import Derived.Test.YtkcilpkcjhnkaaaL7
namespace Go.Proofs.Ytkcilpkcjhnkaaa
open Go.RowKit
set_option linter.unusedVariables false
set_option linter.unusedSimpArgs false

theorem headT_bound {N : NetV} {cost : List Int} (ok : CostOk N cost) (f : Few N) : 0 ≤ headT (arrL N cost) (wayOf N cost) ∧ headT (arrL N cost) (wayOf N cost) ≤ 1048576 * 200 := by
  have hb := arrTo_bound N cost ok.each N.luts.length
  have hl := f.luts
  cases h : wayOf N cost with
  | nil => simp [headT]
  | cons k l =>
    show 0 ≤ (arrL N cost).getD k.toNat 0 ∧ (arrL N cost).getD k.toNat 0 ≤ _
    by_cases hk : k.toNat < (arrL N cost).length
    · have h2 := hb _ (getD_mem (arrL N cost) 0 hk)
      change 0 ≤ (arrL N cost).getD k.toNat 0 ∧ (arrL N cost).getD k.toNat 0 ≤ _ at h2
      omega
    · rw [show (arrL N cost).getD k.toNat 0 = 0 by simp [List.getD, List.getElem?_eq_none (Nat.le_of_not_lt hk)]]; omega

theorem lastOf_take_le {N : NetV} {cost : List Int} (ok : CostOk N cost) (f : Few N) (j : Nat) : lastOf ((arrL N cost).take j) ≤ 1048576 * 200 := by
  refine lastOf_le _ _ (by omega) fun x hx => ?_
  have := arrTo_bound N cost ok.each N.luts.length x (List.mem_of_mem_take hx)
  have := f.luts
  omega

set_option maxRecDepth 100000 in
set_option maxHeartbeats 4000000 in
theorem delayLeast (w : World) (N : NetV) (h : NetAt w N) (a : Option Addr) (n c : Nat) (cost : List Int) (hlen : cost.length = n) (hn : n ≤ 9223372036854775807) (S : Seq w a n (ints cost)) (till : Int) (htill : -9223372036854775808 ≤ till ∧ till ≤ 9223372036854775807) :
    Calls Try.prog 12 #[N.val, .slice a n c, .int .i64 till] w fun e w' => e = .returned (.bool true) ∧ Below w.heap.size w w' := by
  have HBX := Lib.hid (Box.start w N)
  have H := Lib.hid h
  have HS := Lib.hid S
  have HLen := Lib.hid hlen
  clear h S hlen
  obtain ⟨fb, hfb⟩ : ∃ b, b = fewB N := ⟨_, rfl⟩
  have HF := Lib.hid hfb
  clear hfb
  go_enter Try.func12, Try.ntmps12
  go_wp2_with fail
  refine (live _).mono ?_
  rintro e w1 ⟨rfl, hb1⟩
  have hbx := HBX.out.step hb1 (by simp)
  have HBx := Lib.hid hbx
  have c0 := hbx.c0
  have c1 := hbx.c1
  have c2 := hbx.c2
  have c3 := hbx.c3
  clear hbx hb1
  go_wp2_with fail
  have hC := few w1 N (H.out.below HBx.out.below (Nat.le_refl _)) a n c hn
  rw [← HF.out] at hC
  refine hC.mono ?_
  rintro e w2 ⟨rfl, hb2⟩
  have hbx := HBx.out.step hb2 HBx.out.size
  have HBx2 := Lib.hid hbx
  have d0 := hbx.c0
  have d1 := hbx.c1
  have d2 := hbx.c2
  have d3 := hbx.c3
  clear hbx hb2 c0 c1 c2 c3 hC
  by_cases hall : fb = true ∧ n ≤ 300 ∧ -1099511627776 ≤ till ∧ till ≤ 1099511627776
  · obtain ⟨rfl, h300, ht0, ht1⟩ := hall
    have F := few_of N HF.out.symm
    have hf0 := F.ins
    have hf1 := F.holds
    have hf2 := F.luts
    have b300 : decide ((n : Int) ≤ 300) = true := decide_eq_true (by omega)
    have n1 : ¬ till < -1099511627776 := by omega
    have n2 : ¬ 1099511627776 < till := by omega
    go_wp2_with fail
    have hC := path w2 N (H.out.below HBx2.out.below (Nat.le_refl _)) F a n c cost HLen.out h300 (HS.out.below HBx2.out.below (Nat.le_refl _))
    have hC2 := fun W (hW : Below w.heap.size w W) => slack W N (H.out.below hW (Nat.le_refl _)) F a n c cost HLen.out h300 (HS.out.below hW (Nat.le_refl _)) till
    have hC3 := fun W (hW : Below w.heap.size w W) => arrive W N (H.out.below hW (Nat.le_refl _)) F a n c cost HLen.out h300 (HS.out.below hW (Nat.le_refl _))
    by_cases ok : CostOk N cost
    · have sok : SlackOk N cost till := ⟨ok, ht0, ht1⟩
      rw [pathO, if_pos ok, pathT, if_pos ok, arrE, if_pos ok] at hC
      rw [slackO, if_pos sok, slackE, if_pos sok] at hC2
      rw [arrO, if_pos ok, arrE, if_pos ok] at hC3
      obtain ⟨hw, hwl, hwr⟩ := wayOf_is (cost := cost) ok.net
      have hsw := slack_way ok till
      have hsl := slack_low ok till
      have hhb := headT_bound ok F
      have hlb := lastOf_take_le ok F
      have hll := slackL_length N cost (arrL N cost) till
      have hal : (arrL N cost).length = firstN N + N.luts.length := arrTo_length _ _ _
      have hfe := firstN_eq ok.net.ins0
      have hi0 := ok.net.ins0
      obtain ⟨ns, hns⟩ : ∃ m, m = firstN N + N.luts.length := ⟨_, rfl⟩
      have hnse : ((ns : Int) != 1 + N.ins + (N.holds.length : Int) + (N.luts.length : Int)) = false := by rw [bne_eq_false_iff_eq]; omega
      have hnsu : ns ≤ 401 := by omega
      rw [← hns] at hwl hwr hsl hll hal
      obtain ⟨T, hT⟩ : ∃ l, l = arrL N cost := ⟨_, rfl⟩
      rw [← hT] at hC hC2 hC3 hsw hsl hhb hlb hll hal
      obtain ⟨SL, hSL⟩ : ∃ l, l = slackL N cost T till := ⟨_, rfl⟩
      rw [← hSL] at hC2 hsw hsl hll
      obtain ⟨tot, htot⟩ : ∃ x, x = headT T (wayOf N cost) := ⟨_, rfl⟩
      rw [← htot] at hC hsw hhb
      obtain ⟨wy, hwy⟩ : ∃ x, x = (wayOf N cost).reverse := ⟨_, rfl⟩
      have hsw2 : ∀ k ∈ wy, (0 ≤ k ∧ k < (ns : Int)) ∧ SL.getD k.toNat 0 ≤ till - tot := fun k hk => by
        rw [hwy, List.mem_reverse] at hk
        exact ⟨hwr k hk, hsw k hk⟩
      have hwyl : wy.length ≤ 401 := by rw [hwy, List.length_reverse]; omega
      rw [← hwy] at hC
      obtain ⟨m, hm⟩ : ∃ m, m = wy.length := ⟨_, rfl⟩
      rw [← hm] at hwyl
      have hwt : IntKind.i64.wrap (till - tot) = till - tot := IntWalk.i64_in _ (by omega)
      obtain ⟨hh0, hh1⟩ := hhb
      have HM := Lib.hid hm
      have HSw := Lib.hid hsw2
      have HSl := Lib.hid hsl
      have HLb := Lib.hid hlb
      have HLl := Lib.hid hll
      have HAl := Lib.hid hal
      have HNs := Lib.hid hnse
      have HC2 := Lib.hid hC2
      have HC3 := Lib.hid hC3
      clear ok sok hw hwl hwr hsw hsl hlb hll hal hfe hns hT hSL htot hwy hsw2 hm hnse hC2 hC3 F
      refine hC.mono ?_
      rintro e w3 ⟨v, rfl, hown, hb3⟩
      obtain ⟨va, vc, rfl, hVS, _, _⟩ := owns_seq hown
      rw [← HM.out] at hVS ⊢
      have hbx := HBx2.out.step hb3 HBx2.out.size
      have HBx3 := Lib.hid hbx
      have k0 := hbx.c0
      have k1 := hbx.c1
      have k2 := hbx.c2
      have k3 := hbx.c3
      have HVS := Lib.hid hVS
      clear hbx hb3 hC hown hVS d0 d1 d2 d3
      go_wp2_with fail
      refine (HC2.out _ HBx3.out.below).mono ?_
      rintro e w4 ⟨v, rfl, hown, hb4⟩
      obtain ⟨sa, sc, rfl, hSS, _, _⟩ := owns_seq hown
      rw [HLl.out] at hSS ⊢
      have hbx := HBx3.out.step hb4 HBx3.out.size
      have HBx4 := Lib.hid hbx
      have j0 := hbx.c0
      have j1 := hbx.c1
      have j2 := hbx.c2
      have j3 := hbx.c3
      have HVS4 := Lib.hid (HVS.out.below hb4 (Nat.le_refl _))
      have HSS := Lib.hid hSS
      have hnse := HNs.out
      clear hbx hb4 hown hSS k0 k1 k2 k3 HVS
      go_wp2_with fail
      clear hnse
      go_loop [79] (fun iv => ∃ i : Nat, i ≤ m ∧ iv = .int .i64 i) (fun iv => m - (intOf iv).toNat)
      case atStart => exact ⟨0, by omega, rfl⟩
      case round =>
        obtain ⟨i, hi, rfl⟩ := hrel
        by_cases hlt : i < m
        · obtain ⟨b1, off1, hva, _, hcl⟩ := HVS4.out.at i hlt
          have y0 := hcl i hlt
          unfold ints at y0
          obtain ⟨⟨hr0, hr1⟩, hr2⟩ := HSw.out _ (getD_mem wy 0 (by rw [← HM.out]; exact hlt))
          obtain ⟨k, hk⟩ : ∃ k, k = wy.getD i 0 := ⟨_, rfl⟩
          rw [← hk] at y0 hr0 hr1 hr2
          obtain ⟨kn, hkn⟩ := Int.eq_ofNat_of_zero_le hr0
          subst hkn
          rw [Int.toNat_natCast] at hr2
          obtain ⟨b2, off2, hsa, _, hcs⟩ := HSS.out.at kn (by omega)
          have z0 := hcs kn (by omega)
          unfold ints at z0
          obtain ⟨sl, hsl⟩ : ∃ s, s = SL.getD kn 0 := ⟨_, rfl⟩
          rw [← hsl] at z0 hr2
          have hkl : kn < ns := by omega
          have hng : ¬ (till - tot < sl) := by omega
          subst hva
          subst hsa
          clear hcl hk hcs hsl
          go_wp2
          go_round
          case rel => exact ⟨i + 1, by omega, by go_num⟩
          case measure => simp [intOf]; omega
        · obtain rfl : i = m := by omega
          go_wp2_with fail
          refine (HC3.out _ HBx4.out.below).mono ?_
          rintro e w5 ⟨v, rfl, hown, hb5⟩
          obtain ⟨ta, tc, rfl, hTS, _, _⟩ := owns_seq hown
          rw [HAl.out] at hTS ⊢
          have HB5 := Lib.hid (HBx4.out.step hb5 HBx4.out.size).below
          have HSS5 := Lib.hid (HSS.out.below hb5 (Nat.le_refl _))
          have HTS := Lib.hid hTS
          clear hb5 hown hTS j0 j1 j2 j3 HSS
          go_wp2_with fail
          go_loop [16, 110] (fun mv kv => ∃ j : Nat, j ≤ ns ∧ kv = .int .i64 j ∧ mv = .int .i64 (lastOf (T.take j))) (fun _ kv => ns - (intOf kv).toNat)
          case atStart => exact ⟨0, by omega, rfl, rfl⟩
          case round =>
            obtain ⟨j, hj, rfl, rfl⟩ := hrel
            have hs1 := HLb.out j
            have hs0 := lastOf_nonneg (T.take j)
            by_cases hlt2 : j < ns
            · obtain ⟨b', off', rfl, hbb', hcl⟩ := HTS.out.at j hlt2
              have y0 := hcl j hlt2
              unfold ints at y0
              have hst := lastOf_take T j (by rw [HAl.out]; exact hlt2)
              obtain ⟨x, hx⟩ : ∃ x, x = T.getD j 0 := ⟨_, rfl⟩
              rw [← hx] at y0 hst
              obtain ⟨mx, hmx⟩ : ∃ m, m = lastOf (T.take j) := ⟨_, rfl⟩
              rw [← hmx] at hst hs1 hs0 ⊢
              have HSt := Lib.hid hst
              clear hcl hst hx hmx
              go_wp2
              go_round
              case rel => exact ⟨j + 1, by omega, by go_num, by rw [HSt.out]; congr 1; first | omega | (split <;> omega)⟩
              case measure => simp [intOf]; omega
            · obtain rfl : j = ns := by omega
              rw [List.take_of_length_le (by rw [HAl.out]; exact Nat.le_refl _)] at hs1 hs0 ⊢
              have hlow := HSl.out
              obtain ⟨lt, hlt3⟩ : ∃ m, m = lastOf T := ⟨_, rfl⟩
              rw [← hlt3] at hlow hs1 hs0 ⊢
              have HLow := Lib.hid hlow
              have hwl : IntKind.i64.wrap (till - lt) = till - lt := IntWalk.i64_in _ (by omega)
              clear hlow hlt3
              go_wp2
              go_loop [120] (fun kv => ∃ q : Nat, q ≤ j ∧ kv = .int .i64 q) (fun kv => j - (intOf kv).toNat)
              case atStart => exact ⟨0, by omega, rfl⟩
              case round =>
                obtain ⟨q, hq, rfl⟩ := hrel
                by_cases hlq : q < j
                · obtain ⟨b2, off2, hsa, _, hcs⟩ := HSS5.out.at q hlq
                  have z0 := hcs q hlq
                  unfold ints at z0
                  have hlo := HLow.out q hlq
                  obtain ⟨sl, hsl⟩ : ∃ s, s = SL.getD q 0 := ⟨_, rfl⟩
                  rw [← hsl] at z0 hlo
                  have hng : ¬ (sl < till - lt) := by omega
                  subst hsa
                  clear hcs hsl
                  go_wp2
                  go_round
                  case rel => exact ⟨q + 1, by omega, by go_num⟩
                  case measure => simp [intOf]; omega
                · obtain rfl : q = j := by omega
                  go_wp2
                  go_ret
                  exact ⟨ret_bool (by simp), HB5.out⟩
    · have nsok : ¬ SlackOk N cost till := fun h => ok h.1
      rw [pathO, if_neg ok, pathT, if_neg ok, arrE, if_neg ok] at hC
      rw [slackO, if_neg nsok, slackE, if_neg nsok] at hC2
      have HC2 := Lib.hid hC2
      clear ok nsok hC2 hC3 F
      refine hC.mono ?_
      rintro e w3 ⟨v, rfl, hown, hb3⟩
      have hbx := HBx2.out.step hb3 HBx2.out.size
      have HBx3 := Lib.hid hbx
      have k0 := hbx.c0
      have k1 := hbx.c1
      have k2 := hbx.c2
      have k3 := hbx.c3
      clear hbx hb3 hC hown d0 d1 d2 d3
      go_wp2_with fail
      refine (HC2.out _ HBx3.out.below).mono ?_
      rintro e w4 ⟨v4, rfl, hown, hb4⟩
      obtain ⟨va, vc, rfl, hVS, _, _⟩ := owns_seq (l := []) hown
      have HB4 := Lib.hid (HBx3.out.step hb4 HBx3.out.size)
      clear hown hb4 hVS
      simp only [List.length_nil]
      go_wp2
      go_ret
      exact ⟨ret_bool (by simp), HB4.out.below⟩
  · cases fb
    · clear hall
      go_wp2
      go_ret
      exact ⟨ret_bool (by simp), HBx2.out.below⟩
    · by_cases h300 : n ≤ 300
      · have b300 : decide ((n : Int) ≤ 300) = true := decide_eq_true (by omega)
        by_cases h1 : till < -1099511627776
        · clear hall
          go_wp2
          go_ret
          exact ⟨ret_bool (by simp), HBx2.out.below⟩
        · have h2 : 1099511627776 < till := by
            by_cases h2 : 1099511627776 < till
            · exact h2
            · exact absurd ⟨rfl, h300, by omega, by omega⟩ hall
          clear hall
          go_wp2
          go_ret
          exact ⟨ret_bool (by simp), HBx2.out.below⟩
      · have b300 : decide ((n : Int) ≤ 300) = false := decide_eq_false (by omega)
        clear hall
        go_wp2
        go_ret
        exact ⟨ret_bool (by simp), HBx2.out.below⟩
end Go.Proofs.Ytkcilpkcjhnkaaa
