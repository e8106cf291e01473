import Derived.Test.YtkcilpkcjhnkaaaL1
import Derived.Test.YtkcilpkcjhnkaaaP3
namespace Go.Proofs.Ytkcilpkcjhnkaaa
open Go.RowKit

theorem costOk_set (N : NetV) (cost : List Int) (at_ : Nat) (d : Int) (h : at_ < cost.length) (hd : 0 ≤ d ∧ d ≤ 255) (hc : 0 ≤ cost.getD at_ 0 ∧ cost.getD at_ 0 ≤ 524288) :
    CostOk N (cost.set at_ (cost.getD at_ 0 + d)) ↔ CostOk N cost := by
  constructor
  · intro ok
    refine ⟨ok.net, by simpa using ok.len, fun c hm => ?_⟩
    obtain ⟨i, hi, rfl⟩ := List.getElem_of_mem hm
    by_cases e : i = at_
    · subst e
      simp [List.getD, List.getElem?_eq_getElem h] at hc
      omega
    · have h2 := ok.each _ (getD_mem (cost.set at_ (cost.getD at_ 0 + d)) 0 (k := i) (by simpa using hi))
      rw [getD_set _ _ _ _ h, if_neg e] at h2
      simpa [List.getD, List.getElem?_eq_getElem hi] using h2
  · intro ok
    refine ⟨ok.net, by simpa using ok.len, fun c hm => ?_⟩
    obtain ⟨i, hi, rfl⟩ := List.getElem_of_mem hm
    have hi' : i < cost.length := by simpa using hi
    have h1 := getD_set cost at_ (cost.getD at_ 0 + d) i h
    rw [show (cost.set at_ (cost.getD at_ 0 + d)).getD i 0 = (cost.set at_ (cost.getD at_ 0 + d))[i] by rw [List.getD, List.getElem?_eq_getElem hi]; rfl] at h1
    rw [h1]
    split
    · omega
    · exact ok.each _ (getD_mem _ _ hi')

theorem more_out (N : NetV) (cost : List Int) (at_ : Nat) (d : Int) (h : at_ < cost.length) (hd : 0 ≤ d ∧ d ≤ 255) (hc : 0 ≤ cost.getD at_ 0 ∧ cost.getD at_ 0 ≤ 524288) :
    arrE N (cost.set at_ (cost.getD at_ 0 + d)) = arrE N cost ∧ Near d (arrO N cost) (arrO N (cost.set at_ (cost.getD at_ 0 + d))) ∧ (arrE N cost ≠ 0 → arrO N cost = []) := by
  have hiff := costOk_set N cost at_ d h hd hc
  by_cases ok : CostOk N cost
  · have ok' := hiff.2 ok
    unfold arrE arrO
    rw [if_pos ok, if_pos ok', if_pos ok, if_pos ok']
    exact ⟨rfl, arrL_near N cost at_ d hd.1 h, fun h => absurd rfl h⟩
  · have ok' := fun h => ok (hiff.1 h)
    unfold arrE arrO
    rw [if_neg ok, if_neg ok', if_neg ok, if_neg ok']
    exact ⟨rfl, Near.refl d hd.1 _, fun _ => rfl⟩

theorem arrO_bound (N : NetV) (cost : List Int) (f : Few N) : ∀ x ∈ arrO N cost, 0 ≤ x ∧ x ≤ 1048576 * 200 := by
  unfold arrO
  split
  · rename_i ok
    intro x hx
    have := arrTo_bound N cost ok.each _ x hx
    have := f.luts
    omega
  · intro x hx; cases hx

set_option maxRecDepth 100000 in
set_option maxHeartbeats 2000000 in
theorem delayMore (w : World) (N : NetV) (h : NetAt w N) (a : Option Addr) (n c : Nat) (cost : List Int) (hlen : cost.length = n) (hn : n ≤ 9223372036854775807) (S : Seq w a n (ints cost)) (at_ : Int) (hat : I64 at_) (d : Int) (hd : 0 ≤ d ∧ d ≤ 255) :
    Calls Try.prog 4 #[N.val, .slice a n c, .int .i64 at_, .int .u8 d] w fun e w' => e = .returned (.bool true) ∧ Below w.heap.size w w' := by
  have HBX := Lib.hid (Box.start w N)
  have H := Lib.hid h
  have HS := Lib.hid S
  have HLen := Lib.hid hlen
  obtain ⟨hd0, hd1⟩ := hd
  clear h S hlen
  obtain ⟨fb, hfb⟩ : ∃ b, b = fewB N := ⟨_, rfl⟩
  have HF := Lib.hid hfb
  clear hfb
  obtain ⟨i0, hi, hz0, hz1, hz2⟩ := info_parts info3
  go_enter Try.func4, Try.ntmps4
  go_wp2_with fail
  refine (live _).mono ?_
  rintro e w1 ⟨rfl, hb1⟩
  have hbx := HBX.out.step hb1 (by simp)
  have HBx := Lib.hid hbx
  have c0 := hbx.c0
  have c1 := hbx.c1
  have c2 := hbx.c2
  have c3 := hbx.c3
  clear hbx hb1
  go_wp2_with fail
  have hC := few w1 N (H.out.below HBx.out.below (Nat.le_refl _)) a n c hn
  rw [← HF.out] at hC
  refine hC.mono ?_
  rintro e w2 ⟨rfl, hb2⟩
  have hbx := HBx.out.step hb2 HBx.out.size
  have HBx2 := Lib.hid hbx
  have d0 := hbx.c0
  have d1 := hbx.c1
  have d2 := hbx.c2
  have d3 := hbx.c3
  clear hbx hb2 c0 c1 c2 c3 hC
  cases fb
  · go_wp2
    go_ret
    exact ⟨ret_bool (by simp), HBx2.out.below⟩
  · by_cases h300 : n ≤ 300
    · by_cases ha0 : at_ < 0
      · go_wp2
        go_ret
        exact ⟨ret_bool (by simp), HBx2.out.below⟩
      · by_cases han : at_ < n
        · obtain ⟨k, rfl⟩ := Int.eq_ofNat_of_zero_le (show 0 ≤ at_ by omega)
          have hkn : k < n := by omega
          obtain ⟨b, off, rfl, hbb, hcc⟩ := (HS.out.below HBx2.out.below (Nat.le_refl _)).at k hkn
          have g0 := hcc k hkn
          unfold ints at g0
          have HCC := Lib.hid hcc
          obtain ⟨x, hx⟩ : ∃ x, x = cost.getD k 0 := ⟨_, rfl⟩
          rw [← hx] at g0
          have HX := Lib.hid hx
          clear hcc hx
          by_cases hx0 : x < 0
          · go_wp2
            go_ret
            exact ⟨ret_bool (by simp), HBx2.out.below⟩
          · by_cases hx1 : 524288 < x
            · go_wp2
              go_ret
              exact ⟨ret_bool (by simp), HBx2.out.below⟩
            · go_wp2_with fail
              have F := few_of N HF.out.symm
              have HFw := Lib.hid F
              clear F
              have hC := arrive w2 N (H.out.below HBx2.out.below (Nat.le_refl _)) HFw.out (some ⟨b, off, none⟩) n c cost HLen.out h300 (HS.out.below HBx2.out.below (Nat.le_refl _))
              have hAl := arrO_length N cost HFw.out
              have hAb := arrO_bound N cost HFw.out
              have hmo := more_out N cost k d (by rw [HLen.out]; exact hkn) ⟨hd0, hd1⟩ (by rw [← HX.out]; omega)
              have hBb := arrO_bound N (cost.set k (cost.getD k 0 + d)) HFw.out
              have hCost' : (cost.set k (cost.getD k 0 + d)).length = n := by rw [List.length_set]; exact HLen.out
              have HCost' := Lib.hid hCost'
              obtain ⟨A, hA⟩ : ∃ A, A = arrO N cost := ⟨_, rfl⟩
              obtain ⟨E, hE⟩ : ∃ E, E = arrE N cost := ⟨_, rfl⟩
              rw [← HX.out] at hmo hBb HCost'
              obtain ⟨B, hB⟩ : ∃ B, B = arrO N (cost.set k (x + d)) := ⟨_, rfl⟩
              rw [← hA] at hAl hAb hmo hC
              rw [← hE] at hC hmo
              rw [← hB] at hmo hBb
              have HA := Lib.hid hA
              have HE := Lib.hid hE
              have HB := Lib.hid hB
              have HMo := Lib.hid hmo
              have HAb := Lib.hid hAb
              have HBb := Lib.hid hBb
              have hBl : B.length = A.length := hmo.2.1.len.symm
              have HBl := Lib.hid hBl
              clear hA hE hB hmo hAb hBb hBl hCost'
              refine hC.mono ?_
              rintro e w3 ⟨v, rfl, hown, hb3⟩
              obtain ⟨va, vc, rfl, hVS, _, _⟩ := owns_seq hown
              have hbx := HBx2.out.step hb3 HBx2.out.size
              have HBx3 := Lib.hid hbx
              have HVS := Lib.hid hVS
              have hs3 := hbx.size
              have hsw := HBx2.out.size
              have hs23 := hb3.size
              clear hC hown hVS d0 d1 d2 d3 hbx
              have hcell3 : ∀ j u, (cost.map (Value.int .i64))[j]? = some u → w3.cell? ((⟨b, off, none⟩ : Addr).add j) = some u := by
                intro j u hu
                have hj : j < n := by
                  have := (List.getElem?_eq_some_iff.1 hu).1
                  rw [List.length_map, HLen.out] at this; exact this
                rw [Addr.add_lit, hb3.cell (p := ⟨b, off + j, none⟩) hbb, HCC.out j hj, ← hu]
                simp [ints, List.getD, List.getElem?_eq_getElem (show j < cost.length by rw [HLen.out]; exact hj)]
              have HCell3 := Lib.hid hcell3
              clear hcell3 hb3 g0
              go_wp2_with (at_builtin; refine wpList_append_own _ rfl (.const (Value.slice none 0 0)) (.tmp 51) 24 rfl w3.heap.size 3 i0 (.int .i64 0) 1 8 Try.underlying24 hi hz0 hz1 hz2 rfl (by decide) _ 0 [] rfl (World.ownsRow_nil _ _ _ _) ⟨b, off, none⟩ n c (cost.map (Value.int .i64)) rfl (by rw [List.length_map, HLen.out, Nat.mul_one]) HCell3.out (ints_oneCell _ _) (by unfold maxLen; omega) (by omega) (Nat.le_refl _) ?_)
              intro v4 w4 hown4 hgrow4 _
              obtain ⟨g, cap, rfl, hgB, hgs, hgc, hcell4⟩ := owns_shape hown4 (by omega)
              have g0 := hcell4 k hkn
              rw [← HX.out] at g0
              have gf := hown4.frozenAt k
              have HB34 : Below (w.heap.size + 1) w3 w4 := (Below.refl _ _).grown hgrow4 hs3 (fun k e => by cases e)
              have hBw4 : Below w3.heap.size w3 w4 := ⟨hgrow4.os, hgrow4.tape, hgrow4.output, hgrow4.size, fun k hk => hgrow4.block k hk (by simp [Value.ownBlock])⟩
              have hst := own_store hown4 k (.int .i64 (x + d))
              have hset : (cost.map (Value.int .i64)).set k (.int .i64 (x + d)) = (cost.set k (x + d)).map (Value.int .i64) := by rw [List.map_set]
              rw [hset] at hst
              have hb45 : Below (w.heap.size + 1) w4 (w4.setCell ⟨g, k, none⟩ (.int .i64 (x + d))) := grownBy_below hst.2 (by have := hgrow4.size; omega) (by omega)
              have hbx5 := (HBx3.out.step HB34 (Nat.le_refl _)).step hb45 (Nat.le_refl _)
              have HVS5 := Lib.hid ((HVS.out.below hBw4 (Nat.le_refl _)))
              have HSt := Lib.hid hst
              have HBx5 := Lib.hid hbx5
              have hbx4 := HBx3.out.step HB34 (Nat.le_refl _)
              have e0 := hbx4.c0
              have e1 := hbx4.c1
              have e2 := hbx4.c2
              have e3 := hbx4.c3
              have HB45 := Lib.hid (grownBy_below hst.2 (B := g) (by omega) (Nat.le_refl _))
              obtain ⟨W5, hW5⟩ : ∃ W5, W5 = w4.setCell ⟨g, k, none⟩ (.int .i64 (x + d)) := ⟨_, rfl⟩
              rw [← hW5] at HSt HBx5 HB45
              have HW5 := Lib.hid hW5
              have HS4 := Lib.hid (owns_seq HSt.out.1)
              clear hown4 hcell4 HB34 hBw4 hst hset hb45 hbx5 HSt hW5 hbx4
              go_wp2_with fail
              rw [← HW5.out]
              obtain ⟨a5, c5, hsl, hS5, _, _⟩ := HS4.out
              obtain ⟨rfl, rfl⟩ : some ⟨g, 0, none⟩ = a5 ∧ cap = c5 := by simpa using hsl
              have hC := arrive W5 N (H.out.below HBx5.out.below (Nat.le_refl _)) HFw.out (some ⟨g, 0, none⟩) n cap (cost.set k (x + d)) HCost'.out h300 hS5
              rw [← HB.out, HMo.out.1] at hC
              refine hC.mono ?_
              rintro e w6 ⟨v6, rfl, hown6, hb6⟩
              obtain ⟨ua, uc, rfl, hUS, _, _⟩ := owns_seq hown6
              have HBx6 := Lib.hid (HBx5.out.step hb6 HBx5.out.size)
              have HUS := Lib.hid hUS
              have HVS6 := Lib.hid (((HVS.out.below (B := w3.heap.size) ((⟨hgrow4.os, hgrow4.tape, hgrow4.output, hgrow4.size, fun k hk => hgrow4.block k hk (by simp [Value.ownBlock])⟩ : Below w3.heap.size w3 w4).trans (HB45.out.mono hgB)) (Nat.le_refl _)).below hb6 (Nat.le_refl _)))
              have hVl := HBl.out
              obtain ⟨E0, hE0⟩ : ∃ E0, E0 = E := ⟨_, rfl⟩
              by_cases hEz : E = 0
              · subst hEz
                rw [hVl] at HUS
                have hb7 := HBx6.out.below
                have HB7 := Lib.hid hb7
                have HNear := Lib.hid HMo.out.2.1
                clear HE HMo hC hown6 hb6 hb7 hE0 hsl hgrow4 hS5 HS4
                go_wp2_with fail
                go_loopw [93] (fun q wr => ∃ r : Nat, r ≤ A.length ∧ q = .int .i64 r ∧ Hid (∃ nq, wr = w6.drewN nq)) (fun q _ => A.length - (intOf q).toNat)
                case atStart => exact ⟨0, by omega, rfl, 0, rfl⟩
                case round =>
                  obtain ⟨r, hr, rfl, hq⟩ := hrel
                  obtain ⟨nq, rfl⟩ := hq
                  by_cases hlr : r < A.length
                  · obtain ⟨b1, o1, rfl, _, hca⟩ := HVS6.out.at r hlr
                    obtain ⟨b2, o2, rfl, _, hcb⟩ := HUS.out.at r hlr
                    have p1 := hca r hlr
                    have p2 := hcb r hlr
                    unfold ints at p1 p2
                    have hnr := HNear.out.each r
                    have hxa := HAb.out _ (getD_mem A 0 hlr)
                    obtain ⟨y, hy⟩ : ∃ y, y = A.getD r 0 := ⟨_, rfl⟩
                    obtain ⟨z, hz⟩ : ∃ z, z = B.getD r 0 := ⟨_, rfl⟩
                    rw [← hy] at p1 hnr hxa
                    rw [← hz] at p2 hnr
                    clear hca hcb hy hz
                    obtain ⟨hn1, hn2⟩ := hnr
                    have t1 : decide (z < y) = false := by simp; omega
                    have hw1 : IntKind.i64.wrap (y + d) = y + d := IntWalk.i64_in _ (by omega)
                    have t2 : decide (y + d < z) = false := by simp; omega
                    have hr0 : (0 : Int) ≤ (r : Int) := by omega
                    have hr1 : (r : Int) < A.length := by omega
                    go_wp2_with fail
                    go_quiet (fail)
                    go_wp2
                    go_roundw
                    case rel => exact ⟨r + 1, by omega, by go_num, _, rfl⟩
                    case measure => simp [intOf]; omega
                  · obtain rfl : r = A.length := by omega
                    go_wp2
                    go_ret
                    exact ⟨rfl, belowN HB7.out⟩
              · have hE1 : E = 1 := by
                  rw [HE.out] at hEz ⊢
                  unfold arrE at hEz ⊢
                  split
                  · rename_i h; rw [if_pos h] at hEz; exact absurd rfl hEz
                  · rfl
                have hA0 := HMo.out.2.2 hEz
                subst hE1
                subst hA0
                have hB7 := Lib.hid HBx6.out.below
                rw [hVl] at HUS
                rw [hVl]
                clear HE HMo hC hown6 hb6 hE0 hsl hgrow4 hS5 HS4 hEz
                simp only [List.length_nil]
                go_wp2_with fail
                go_ret
                exact ⟨ret_bool (by simp), hB7.out⟩
        · go_wp2
          go_ret
          exact ⟨ret_bool (by simp), HBx2.out.below⟩
    · go_wp2
      go_ret
      exact ⟨ret_bool (by simp), HBx2.out.below⟩
end Go.Proofs.Ytkcilpkcjhnkaaa
