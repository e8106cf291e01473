import Derived.Test.YtkcilpkcjhnkaaaB6
import Derived.Test.YtkcilpkcjhnkaaaT20
namespace Go.Proofs.Ytkcilpkcjhnkaaa
open Go.RowKit
set_option linter.unusedVariables false
set_option linter.unusedSimpArgs false

theorem own_block {w w' : World} {base e size n g cap : Nat} {xs : List Value} (h : w.ownsRow base e size (.slice (some ⟨g, 0, none⟩) n cap) n xs) (hb : w'.heap[g]? = w.heap[g]?) : w'.ownsRow base e size (.slice (some ⟨g, 0, none⟩) n cap) n xs := by
  refine ⟨h.1, ?_⟩
  rcases h.2 with h0 | ⟨g', cap', cur, hv, hbase, hg, rest⟩
  · exact .inl h0
  · cases hv; exact .inr ⟨_, _, cur, rfl, hbase, hb.trans hg, rest⟩

theorem Two.below {w w' : World} {B gN cN gA cA n : Nat} {M : Need} (h : Two w B gN cN gA cA n M) (hb : Below w.heap.size w w') : Two w' B gN cN gA cA n M :=
  ⟨own_below h.need hb, own_below h.asked hb, h.ne, h.len⟩

theorem Seq.upd {w w' : World} {gN gA b off n : Nat} {f : Nat → Value} (h : Seq w (some ⟨b, off, none⟩) n f) (u : Upd gN gA w w') (h1 : b ≠ gN) (h2 : b ≠ gA) : Seq w' (some ⟨b, off, none⟩) n f := by
  by_cases hn : n = 0
  · exact .inl hn
  · obtain ⟨b', off', he, hb, hc⟩ := h.at 0 (by omega)
    cases he
    exact .inr ⟨b, off, rfl, fun i hi => (u.cell (p := ⟨_, _, none⟩) hb h1 h2).trans (hc i hi)⟩

theorem NRow_none (n : Nat) : NRow (List.replicate n none) = List.replicate n (.int .i64 0) := by simp [NRow]
theorem ARow_none (n : Nat) : ARow (List.replicate n none) = List.replicate n (.bool false) := by simp [ARow]

/-- One list as far as k, another from there on. -/
def mixTo (S a : List Int) (k : Nat) : List Int := S.take k ++ a.drop k
theorem mixTo_get (S a : List Int) (k : Nat) (h : S.length = a.length) (hk : k < a.length) : (mixTo S a k)[k]? = some (a.getD k 0) := by
  unfold mixTo
  rw [List.getElem?_append_right (by rw [List.length_take]; omega), List.length_take, show k - min k S.length = 0 by omega, List.getElem?_drop]
  simp [List.getD, List.getElem?_eq_getElem hk]
theorem mixTo_set (S a : List Int) (k : Nat) (h : S.length = a.length) (hk : k < a.length) : ((mixTo S a k).map (Value.int .i64)).set k (.int .i64 (S.getD k 0)) = (mixTo S a (k + 1)).map (Value.int .i64) := by
  rw [← List.map_set]
  congr 1
  unfold mixTo
  rw [List.set_append_right _ _ (by rw [List.length_take]; omega), List.length_take, show k - min k S.length = 0 by omega]
  rw [List.drop_eq_getElem_cons hk, List.set_cons_zero, List.take_succ_eq_append_getElem (show k < S.length by omega), List.append_assoc, show S.getD k 0 = S[k]'(by omega) by simp [List.getD, List.getElem?_eq_getElem (show k < S.length by omega)]]
  rfl

theorem slackL_length (N : NetV) (cost a : List Int) (till : Int) : (slackL N cost a till).length = firstN N + N.luts.length := by simp [slackL]
theorem slackL_get (N : NetV) (cost a : List Int) (till : Int) (k : Nat) (hk : k < firstN N + N.luts.length) : (slackL N cost a till).getD k 0 = ((slackM N cost till).getD k none).getD till - a.getD k 0 := by
  simp [slackL, List.getD, hk]

set_option maxRecDepth 100000 in
set_option maxHeartbeats 8000000 in
theorem slackR_ok (w : World) (N : NetV) (h : NetAt w N) (f : Few N) (a : Option Addr) (n0 c : Nat) (cost : List Int) (hlen : cost.length = n0) (hn : n0 ≤ 300) (S : Seq w a n0 (ints cost)) (ok : CostOk N cost) (till : Int) (ht : -1099511627776 ≤ till ∧ till ≤ 1099511627776) :
    Calls Try.prog 22 #[N.val, .slice a n0 c, .int .i64 till] w (NewInts w (slackL N cost (arrL N cost) till) 0) := by
  have HBX := Lib.hid (Box.start w N)
  have hf0 := f.ins
  have hf1 := f.holds
  have hf2 := f.luts
  have hi0 := ok.net.ins0
  obtain ⟨ht0, ht1⟩ := ht
  have C := fun W (hW : Below w.heap.size w W) => arriveR W N (h.below hW (Nat.le_refl _)) f a n0 c cost hlen hn (S.below hW (Nat.le_refl _))
  have C2 := fun W => firstR W N h.insR hf0 hf1
  have C3 := fun W (hW : Below w.heap.size w W) => endsR W N (h.below hW (Nat.le_refl _)) f
  rw [arrO, if_pos ok, arrE, if_pos ok] at C
  rw [← firstN_eq hi0] at C2
  have hEr := endsOf_range ok.net
  have hEl : (endsOf N).length ≤ 200 := by
    have := f.outs
    have := f.holds
    simp [endsOf]; omega
  have hTl : (arrL N cost).length = firstN N + N.luts.length := arrTo_length _ _ _
  have hTb := fun x hx => arrTo_bound N cost ok.each N.luts.length x hx
  have hfe := firstN_eq hi0
  obtain ⟨T, hT⟩ : ∃ T, T = arrL N cost := ⟨_, rfl⟩
  obtain ⟨E, hE⟩ : ∃ E, E = endsOf N := ⟨_, rfl⟩
  obtain ⟨F0, hF0⟩ : ∃ F, F = firstN N := ⟨_, rfl⟩
  obtain ⟨n, hnn⟩ : ∃ n, n = F0 + N.luts.length := ⟨_, rfl⟩
  obtain ⟨SL, hSL⟩ : ∃ s, s = slackL N cost (arrL N cost) till := ⟨_, rfl⟩
  rw [← hSL]
  rw [← hT] at C hTl hSL
  rw [← hE] at C3 hEr hEl
  rw [← hF0] at C2 hEr hTl hfe
  rw [← hnn] at hTl hEr
  have hF0u : F0 ≤ 201 := by omega
  have hF1 : 0 < F0 := by omega
  have hnu : n ≤ 401 := by omega
  have hb := Box.start w N
  have e0 := hb.c0
  have e1 := hb.c1
  have e2 := hb.c2
  have e3 := hb.c3
  have hs := hb.size
  have H := Lib.hid h
  have HS := Lib.hid S
  have HOk := Lib.hid ok
  have HC := Lib.hid C
  have HC2 := Lib.hid C2
  have HC3 := Lib.hid C3
  have HTl := Lib.hid hTl
  have HFe := Lib.hid hfe
  have HEr := Lib.hid hEr
  have HF0 := Lib.hid hF0
  have HE := Lib.hid hE
  have HSL := Lib.hid hSL
  have HN := Lib.hid hnn
  have HLen := Lib.hid hlen
  have HTb : Hid (∀ x ∈ T, 0 ≤ x ∧ x ≤ 1048576 * (N.luts.length : Int)) := Lib.hid (fun x hx => by rw [hT] at hx; exact hTb x hx)
  obtain ⟨W0, hW0⟩ : ∃ W, W = w.alloc N.obj := ⟨_, rfl⟩
  rw [← hW0] at e0 e1 e2 e3 hs HBX
  have HW0 := Lib.hid hW0
  clear C C2 C3 ok h f S hb hW0 hT hE hF0 hEr hTl hfe hlen hSL hTb
  obtain ⟨ins, ha, hc, holds, la, lc, luts, oa, oc, outs⟩ := N
  dsimp only at hf0 hf1 hf2 hi0 e0 e1 e2 e3 hnn HN
  have hnL : luts.length ≤ n := by omega
  have hn0 : 0 < n := by omega
  clear hnn
  obtain ⟨i0, hi, hz0, hz1, hz2⟩ := info_parts info3
  obtain ⟨i4, hj, hy0, hy1, hy2⟩ := info_parts info4
  go_enter Try.func22, Try.ntmps22
  go_wp2_with fail
  rw [← HW0.out]
  refine (HC.out _ HBX.out.below).mono ?_
  rintro e w1 ⟨v, rfl, hown, hb1⟩
  rw [HTl.out] at hown
  obtain ⟨gT, cT, rfl, hgT, hgTs, hgc, hTc⟩ := owns_shape hown hn0
  have hbx := HBX.out.step (hb1.mono hs) (Nat.le_refl _)
  have HOwnT := Lib.hid hown
  have HBX1 := Lib.hid hbx
  have hs1 := hbx.size
  have d0 := hbx.c0
  have d1 := hbx.c1
  have d2 := hbx.c2
  have d3 := hbx.c3
  dsimp only at d0 d1 d2 d3
  obtain ⟨B1, hB1⟩ : ∃ b, b = w1.heap.size := ⟨_, rfl⟩
  have HB1 := Lib.hid hB1
  clear hbx hown hb1 e0 e1 e2 e3
  go_wp2_with (at_make; refine wpList_make_full _ rfl (.tmp 36) (.tmp 36) 24 rfl w1.heap.size 3 i0 (.int .i64 0) 1 Try.underlying24 hi hz0 hz1 .i64 .i64 n _ _ rfl rfl rfl rfl (by rw [hz2]; omega) (by unfold maxLen; omega) (Nat.le_refl _) ?_)
  intro w2 hown2 hgrow2
  have HOwnN := Lib.hid hown2
  have hgN0 := (hown2.lt w1.heap.size rfl).2
  have HGr2 := Lib.hid hgrow2
  have hbx2 := HBX1.out.step (C := w1.heap.size) ((Below.refl _ _).grown hgrow2 (Nat.le_refl _) (fun k e => by cases e)) hs1
  have d0 := hbx2.c0
  have d1 := hbx2.c1
  have d2 := hbx2.c2
  have d3 := hbx2.c3
  dsimp only at d0 d1 d2 d3
  clear hown2 hgrow2
  go_wp2_with (at_make; refine wpList_make_full _ rfl (.tmp 39) (.tmp 39) 39 rfl w2.heap.size 4 i4 (.bool false) 1 Try.underlying39 hj hy0 hy1 .i64 .i64 n _ _ rfl rfl rfl rfl (by rw [hy2]; omega) (by unfold maxLen; omega) (Nat.le_refl _) ?_)
  intro w3 hown3 hgrow3
  have hgA0 := (hown3.lt w2.heap.size rfl).2
  have hb3 : Below w2.heap.size w2 w3 := (Below.refl _ _).grown hgrow3 (Nat.le_refl _) (fun k e => by cases e)
  have hbx3 := hbx2.step (hb3.mono hbx2.size) (Nat.le_refl _)
  have hTwo3 : Two w3 B1 w1.heap.size n w2.heap.size n n (List.replicate n none) := by
    refine ⟨?_, ?_, by omega, by simp⟩
    · have h2 := own_below HOwnN.out hb3
      rw [toList_madeCells_one] at h2
      rw [NRow_none, HB1.out]; exact h2
    · have h2 := hown3
      rw [toList_madeCells_one] at h2
      rw [ARow_none]; exact h2.base_le (by omega)
  have d0 := hbx3.c0
  have d1 := hbx3.c1
  have d2 := hbx3.c2
  have d3 := hbx3.c3
  dsimp only at d0 d1 d2 d3
  have HTwo3 := Lib.hid hTwo3
  have HBX3 := Lib.hid hbx3
  have HB3 := Lib.hid hb3
  clear hown3 hgrow3 hbx2 hbx3 hTwo3 hb3
  go_wp2_with fail
  refine (HC3.out _ HBX3.out.below).mono ?_
  rintro e w4 ⟨v4, rfl, hownE, hb4⟩
  obtain ⟨gN, hgNe⟩ : ∃ g, g = w1.heap.size := ⟨_, rfl⟩
  obtain ⟨gA, hgAe⟩ : ∃ g, g = w2.heap.size := ⟨_, rfl⟩
  have hTwo4 := HTwo3.out.below hb4
  rw [← hgNe, ← hgAe] at hTwo4
  rw [← hgNe, ← hgAe]
  have hbx4 := HBX3.out.step (hb4.mono HBX3.out.size) (Nat.le_refl _)
  have hs4 := hb4.size
  have hgN : B1 ≤ gN := by have := HB1.out; omega
  have hgA : B1 ≤ gA := by have := HB1.out; omega
  have hB4 : B1 ≤ w4.heap.size := by have := HB1.out; omega
  have hBw : w.heap.size + 1 ≤ B1 := by have := HB1.out; omega
  have hgNE : gN < w3.heap.size := by omega
  have hgAE : gA < w3.heap.size := by omega
  have hgTB : gT < B1 := by have := HB1.out; omega
  have hgTw : w.heap.size ≤ gT := by omega
  -- the times' row
  have hbT : Below w1.heap.size w1 w4 := (((Below.refl _ _).grown HGr2.out (Nat.le_refl _) (fun k e => by cases e)).trans (HB3.out.mono (by omega))).trans (hb4.mono (by omega))
  have HOwnT4 := Lib.hid (own_below HOwnT.out hbT)
  have HTwo4 := Lib.hid hTwo4
  have HBX4 := Lib.hid hbx4
  have HOwnE := Lib.hid hownE
  obtain ⟨ea, ec, rfl, hES, _, _⟩ := owns_seq hownE
  have HES := Lib.hid hES
  clear hTwo4 hbx4 hb4 hownE hES d0 d1 d2 d3 hgNe hgAe HTwo3 HBX3 HB3 HOwnN HGr2 hbT hgN0 hgA0
  obtain ⟨M00, hM00⟩ : ∃ M, M = (List.replicate n none : Need) := ⟨_, rfl⟩
  rw [← hM00] at HTwo4
  have HM00 := Lib.hid hM00
  clear hM00
  go_wp2
  go_loopw [44] (fun i wr => ∃ j : Nat, j ≤ E.length ∧ i = .int .i64 j ∧ Hid (Two wr B1 gN n gA n n (askAll M00 (E.take j) till) ∧ Upd gN gA w4 wr)) (fun i _ => E.length - (intOf i).toNat)
  case atStart => exact ⟨0, by omega, rfl, HTwo4.out, Upd.refl _ _ _⟩
  case round =>
    obtain ⟨j, hj_, rfl, hh⟩ := hrel
    by_cases hlt : j < E.length
    · have hstep := askAll_take M00 E till j hlt
      obtain ⟨gE, cE, hva, hgE, hgEs, _, hcE⟩ := owns_shape HOwnE.out (by omega)
      cases hva
      have x0 := (hh.out.2.cell (p := ⟨gE, j, none⟩) hgEs (by simp only; omega) (by simp only; omega)).trans (hcE j hlt)
      have hx := HEr.out _ (getD_mem E 0 hlt)
      obtain ⟨x, hxx⟩ : ∃ x, x = E.getD j 0 := ⟨_, rfl⟩
      rw [← hxx] at x0 hx hstep
      obtain ⟨xn, hxn0⟩ := Int.eq_ofNat_of_zero_le hx.1
      subst hxn0
      have hxn : xn < n := by omega
      have HStep := Lib.hid hstep
      clear hcE hxx hstep
      go_wp2_with fail
      refine (askR _ B1 gN n gA n n (askAll M00 (E.take j) till) hh.out.1 xn hxn till).mono ?_
      rintro e w5 ⟨⟨v5, rfl⟩, h5, u5⟩
      have H5 := Lib.hid h5
      have U5 := Lib.hid (hh.out.2.trans u5)
      clear h5 u5
      go_wp2
      go_roundw
      case rel => exact ⟨j + 1, by omega, by go_num, Lib.hid ⟨by rw [HStep.out]; exact H5.out, U5.out⟩⟩
      case measure => simp [intOf]; omega
    · obtain rfl : j = E.length := by omega
      have hh1 := hh.out
      rw [List.take_length] at hh1
      obtain ⟨M0, hM0⟩ : ∃ M, M = askAll M00 E till := ⟨_, rfl⟩
      rw [← hM0] at hh1
      have hbr1 : Below B1 w4 wr := hh1.2.below hgN hgA hB4
      have hbx1 := HBX4.out.step hbr1 (by omega)
      have k2 := hbx1.c2
      dsimp only at k2
      have HTM0 := Lib.hid hh1.1
      have HUM0 := Lib.hid hh1.2
      have hWi0 : Within M0 till till := by
        rw [hM0]
        refine Within.askAll till (by omega) E ?_
        intro k v hv
        rw [HM00.out] at hv
        by_cases hk : k < n
        · simp [List.getD, hk] at hv
        · simp [List.getD, hk] at hv
      have HWi0 := Lib.hid hWi0
      have HM0 := Lib.hid hM0
      clear hh1 hM0 hbx1 hWi0 hbr1
      go_wp2
      go_loopw [57] (fun i wr => ∃ j : Nat, j ≤ luts.length ∧ i = .int .i64 j ∧ Hid (Two wr B1 gN n gA n n (backM ⟨ins, ha, hc, holds, la, lc, luts, oa, oc, outs⟩ cost till M0 j) ∧ Upd gN gA w4 wr ∧ Within (backM ⟨ins, ha, hc, holds, la, lc, luts, oa, oc, outs⟩ cost till M0 j) (till - 1048576 * j) till)) (fun i _ => luts.length - (intOf i).toNat)
      case atStart => exact ⟨0, by omega, rfl, HTM0.out, HUM0.out, HWi0.out.mono (by omega)⟩
      case round =>
        obtain ⟨j, hj2, rfl, hh2⟩ := hrel
        obtain ⟨hT2, hU2, hW2⟩ := hh2.out
        have hbr2 : Below B1 w4 wr := hU2.below hgN hgA hB4
        have hbx2 := HBX4.out.step hbr2 (by omega)
        by_cases hlt2 : j < luts.length
        · obtain ⟨at_, hat⟩ : ∃ x, x = luts.length - 1 - j := ⟨_, rfl⟩
          have hatL : at_ < luts.length := by omega
          obtain ⟨b, off, rfl, hbb, t0, _⟩ := (H.out.below hbx2.below (Nat.le_refl _)).lut at_ hatL
          obtain ⟨hU, _, _, _⟩ := H.out.lutAt at_ hatL
          have hl6 := (HOk.out.net.lut at_ hatL).len
          have hrng := HOk.out.net.range at_ hatL
          rw [← HF0.out] at hrng
          obtain ⟨L, hLe⟩ : ∃ L, L = luts.getD at_ default := ⟨_, rfl⟩
          dsimp only at t0 hU hl6 hrng
          rw [← hLe] at t0 hU hl6 hrng
          obtain ⟨La, Lc, Li, Lt⟩ := L
          dsimp only at t0 hU hl6 hrng
          obtain ⟨node, hnd⟩ : ∃ x, x = F0 + at_ := ⟨_, rfl⟩
          rw [← hnd] at hrng
          have hatn : at_ < n0 := by rw [← HLen.out, HOk.out.len]; exact hatL
          have hnode : node < n := by have := HN.out; omega
          obtain ⟨cb, coff, ha2, hcb, hcc⟩ := HS.out.at at_ (by rw [← HLen.out, HOk.out.len]; exact hatL)
          have hcx0 := (HBX4.out.below.cell (p := ⟨_, _, none⟩) hcb).trans (hcc at_ (by rw [← HLen.out, HOk.out.len]; exact hatL))
          unfold ints at hcx0
          have hcxb := HOk.out.each _ (getD_mem cost 0 (show at_ < cost.length by rw [HOk.out.len]; exact hatL))
          obtain ⟨cx, hcx⟩ : ∃ x, x = cost.getD at_ 0 := ⟨_, rfl⟩
          rw [← hcx] at hcx0 hcxb
          obtain ⟨M, hM⟩ : ∃ M, M = backM ⟨ins, ha, hc, holds, some ⟨b, off, none⟩, lc, luts, oa, oc, outs⟩ cost till M0 j := ⟨_, rfl⟩
          rw [← hM] at hT2 hW2
          obtain ⟨M1, hM1⟩ : ∃ M1, M1 = openM M node till := ⟨_, rfl⟩
          have hlM : M.length = n := hT2.len
          obtain ⟨nv, hnv⟩ := openM_some M node till (by omega)
          rw [← hM1] at hnv
          have hW1 := hW2.open node till (by omega)
          rw [← hM1] at hW1
          obtain ⟨hnv0, hnv1⟩ := hW1 node nv hnv
          obtain ⟨ml, hml⟩ : ∃ m, m = Li.length := ⟨_, rfl⟩
          rw [← hml] at t0 hU hl6
          have HCx := Lib.hid hcx0
          have HCxe := Lib.hid hcx
          have HLS := Lib.hid hU
          have HRng := Lib.hid hrng
          have HKne : Hid (∀ k ∈ Li, k.toNat ≠ node) := Lib.hid (fun k hk => by have := hrng k hk; omega)
          have HNv1 := Lib.hid hnv
          have HWi1 := Lib.hid hW1
          have HM := Lib.hid hM
          have HM1 := Lib.hid hM1
          have HMl := Lib.hid hml
          have HLe := Lib.hid hLe
          have HAt := Lib.hid hat
          have HNode := Lib.hid hnd
          have hati : (luts.length : Int) - 1 - (j : Int) = (at_ : Int) := by omega
          have hndi : (F0 : Int) + (at_ : Int) = (node : Int) := by omega
          have k0 := hbx2.c0
          have k1 := hbx2.c1
          have k2 := hbx2.c2
          have k3 := hbx2.c3
          dsimp only at k0 k1 k2 k3
          have HT2 := Lib.hid hT2
          have HU2 := Lib.hid hU2
          have hsr := hU2.size
          have hmi : IntKind.i64.wrap (node : Int) = (node : Int) := IntWalk.i64_in _ (by omega)
          have HATI := Lib.hid hati
          subst ha2
          clear hU hrng hnv hW1 hM hM1 hml hLe hat hnd hcx hcc hcx0 hT2 hU2 hW2 hbx2 hati
          go_wp2_with fail
          rw [HATI.out]
          refine (HC2.out _).mono ?_
          rintro e w5 ⟨rfl, hb5⟩
          have hT5 := HT2.out.below hb5
          have hU5 := HU2.out.trans (Upd.ofBelow hb5)
          have hbr5 : Below B1 w4 w5 := hU5.below hgN hgA hB4
          have hbx5 := HBX4.out.step hbr5 (by omega)
          obtain ⟨b', off', hla', hbb', t0, _⟩ := (H.out.below hbx5.below (Nat.le_refl _)).lut at_ hatL
          cases hla'
          dsimp only at t0
          rw [← HLe.out] at t0
          dsimp only at t0
          rw [← HMl.out] at t0
          have k0 := hbx5.c0
          have k1 := hbx5.c1
          have k2 := hbx5.c2
          have k3 := hbx5.c3
          dsimp only at k0 k1 k2 k3
          have y0 := hT5.askedAt node hnode
          obtain ⟨om, hmn⟩ : ∃ o, M.getD node none = o := ⟨_, rfl⟩
          rw [hmn] at y0
          cases om with
          | none =>
            simp only [Option.isSome_none] at y0
            have e1 : askM M (node : Int) till = M1 := by rw [HM1.out]; unfold askM openM; rw [Int.toNat_natCast, hmn]; rfl
            have HT5 := Lib.hid hT5
            have HU5 := Lib.hid hU5
            have HE1 := Lib.hid e1
            clear hT5 hU5 hbx5 hb5 e1 hmn
            go_wp2_with fail
            refine (askR _ B1 gN n gA n n M HT5.out node hnode till).mono ?_
            rintro e w6 ⟨⟨v6, rfl⟩, h6, u6⟩
            rw [HE1.out] at h6
            have HT1 := Lib.hid h6
            have HU1 := Lib.hid (HU5.out.trans u6)
            have hbr6 : Below B1 w4 w6 := HU1.out.below hgN hgA hB4
            have hbx6 := HBX4.out.step hbr6 (by omega)
            obtain ⟨b', off', hla', hbb', t0, _⟩ := (H.out.below hbx6.below (Nat.le_refl _)).lut at_ hatL
            cases hla'
            dsimp only at t0
            rw [← HLe.out] at t0
            dsimp only at t0
            rw [← HMl.out] at t0
            have k0 := hbx6.c0
            have k1 := hbx6.c1
            have k2 := hbx6.c2
            have k3 := hbx6.c3
            dsimp only at k0 k1 k2 k3
            clear h6 u6 hbx6
            go_wp2
            go_loopw [87] (fun qv wq => ∃ q : Nat, q ≤ ml ∧ qv = .int .i64 q ∧ Hid (Two wq B1 gN n gA n n (askIns M1 (Li.take q) node cx) ∧ Upd gN gA w4 wq)) (fun qv _ => ml - (intOf qv).toNat)
            case atStart => exact ⟨0, by omega, rfl, HT1.out, HU1.out⟩
            case round =>
              obtain ⟨q, hq, rfl, hi_⟩ := hrel
              have hi3 := hi_.out
              have hbq : Below B1 w4 wr := hi3.2.below hgN hgA hB4
              have hbxq := HBX4.out.step hbq (by omega)
              have hsq := hi3.2.size
              by_cases hlq : q < ml
              · have hstep := askIns_take M1 Li node cx q (by rw [← HMl.out]; exact hlq)
                obtain ⟨b3, off3, hLa, hb3, hc3⟩ := (HLS.out.below (HBX4.out.below.trans (hbq.mono (by omega))) (Nat.le_refl _)).at q hlq
                have x0 := hc3 q hlq
                unfold ints at x0
                have hx := HRng.out _ (getD_mem Li 0 (show q < Li.length by rw [← HMl.out]; exact hlq))
                have hnode2 := askIns_node M1 Li node cx nv HNv1.out HKne.out q (by rw [← HMl.out]; exact hq)
                have HNv : Hid ((askIns M1 (Li.take q) node cx).getD node none = some nv) := Lib.hid hnode2
                have z0 := hi3.1.needAt node hnode
                rw [hnode2, Option.getD_some] at z0
                have z1 : wr.cell? ⟨cb, coff + at_, none⟩ = some (.int .i64 cx) := (hi3.2.cell (p := ⟨_, _, none⟩) (by simp only; omega) (by simp only; omega) (by simp only; omega)).trans HCx.out
                obtain ⟨x, hxx⟩ : ∃ x, x = Li.getD q 0 := ⟨_, rfl⟩
                rw [← hxx] at x0 hx hstep
                obtain ⟨xn, hxn0⟩ := Int.eq_ofNat_of_zero_le hx.1
                subst hxn0
                rw [Int.toNat_natCast] at hx
                have hxn : xn < n := by omega
                have hxnode : xn ≠ node := by omega
                have hwrap : IntKind.i64.wrap (nv - cx) = nv - cx := IntWalk.i64_in _ (by omega)
                have hno : needOf (askIns M1 (Li.take q) node cx) node = nv := by rw [needOf, hnode2]; rfl
                rw [hno] at hstep
                have HStep := Lib.hid hstep
                have HTw := Lib.hid hi3.1
                have HUw := Lib.hid hi3.2
                have hgaps : gN < wr.heap.size ∧ gA < wr.heap.size := ⟨(hi3.1.need.lt gN rfl).2, (hi3.1.asked.lt gA rfl).2⟩
                obtain ⟨hgN2, hgA2⟩ := hgaps
                have hcbr : cb < wr.heap.size := by omega
                have hcbN : cb ≠ gN := by omega
                have hcbA : cb ≠ gA := by omega
                subst hLa
                clear hc3 hnode2 hno hstep hxx hi3 hbxq
                go_wp2_with fail
                refine wp_region_held_drew (S := fun w' => w'.cell? ⟨gN, node, none⟩ = some (.int .i64 nv) ∧ w'.cell? ⟨cb, coff + at_, none⟩ = some (.int .i64 cx)) (by kernel_rfl) (⟨z0, z1⟩) (fun hHeld => ?_)
                refine wpAnyH_take (i := 0) (v := ?_) (by simp only [List.getElem?_toArray, List.getElem?_cons_succ, List.getElem?_cons_zero]; rfl) (by kernel_rfl) (by kernel_rfl) (by kernel_rfl) (by intro _ _ _ h; exact h) (Or.inl ⟨by rfl, ?_⟩) (by assumption) ?_
                rotate_left
                · intro w hSw; (try dsimp only at hSw); go_simp; try with_reducible rfl
                try simp only [Act.put, List.setIfInBounds_toArray, List.set_cons_zero, List.set_cons_succ]
                refine wpAnyH_take (i := 1) (v := ?_) (by simp only [List.getElem?_toArray, List.getElem?_cons_succ, List.getElem?_cons_zero]; rfl) (by kernel_rfl) (by kernel_rfl) (by kernel_rfl) (by intro _ _ _ h; exact h) (Or.inl ⟨by rfl, ?_⟩) (by assumption) ?_
                rotate_left
                · intro w hSw; (try dsimp only at hSw); go_simp; try with_reducible rfl
                try simp only [Act.put, List.setIfInBounds_toArray, List.set_cons_zero, List.set_cons_succ]
                refine wpAnyH_take (i := 2) (v := ?_) (by simp only [List.getElem?_toArray, List.getElem?_cons_succ, List.getElem?_cons_zero]; rfl) (by kernel_rfl) (by kernel_rfl) (by kernel_rfl) (by intro _ _ _ h; exact h) (Or.inl ⟨by rfl, ?_⟩) (by assumption) ?_
                rotate_left
                · intro w hSw; (try dsimp only at hSw); go_simp; try with_reducible rfl
                try simp only [Act.put, List.setIfInBounds_toArray, List.set_cons_zero, List.set_cons_succ]
                refine wpAnyH_take (i := 3) (v := ?_) (by simp only [List.getElem?_toArray, List.getElem?_cons_succ, List.getElem?_cons_zero]; rfl) (by kernel_rfl) (by kernel_rfl) (by kernel_rfl) (by intro _ _ _ h; exact h) (Or.inl ⟨by rfl, ?_⟩) (by assumption) ?_
                rotate_left
                · intro w hSw; (try dsimp only at hSw); go_simp; try with_reducible rfl
                try simp only [Act.put, List.setIfInBounds_toArray, List.set_cons_zero, List.set_cons_succ]
                refine wpAnyH_take (i := 4) (v := ?_) (by simp only [List.getElem?_toArray, List.getElem?_cons_succ, List.getElem?_cons_zero]; rfl) (by kernel_rfl) (by kernel_rfl) (by kernel_rfl) (by intro _ _ _ h; exact h) (Or.inl ⟨by rfl, ?_⟩) (by assumption) ?_
                rotate_left
                · intro w hSw; (try dsimp only at hSw); go_simp; try with_reducible rfl
                try simp only [Act.put, List.setIfInBounds_toArray, List.set_cons_zero, List.set_cons_succ]
                refine wpAnyH_take (i := 5) (v := ?_) (by simp only [List.getElem?_toArray, List.getElem?_cons_succ, List.getElem?_cons_zero]; rfl) (by kernel_rfl) (by kernel_rfl) (by kernel_rfl) (by intro _ _ _ h; exact h) (Or.inl ⟨by rfl, ?_⟩) (by assumption) ?_
                rotate_left
                · intro w hSw; (try dsimp only at hSw); go_simp; first | with_reducible rfl | rw [if_pos (by omega)]
                try simp only [Act.put, List.setIfInBounds_toArray, List.set_cons_zero, List.set_cons_succ]
                refine wpAnyH_take (i := 6) (v := ?_) (by simp only [List.getElem?_toArray, List.getElem?_cons_succ, List.getElem?_cons_zero]; rfl) (by kernel_rfl) (by kernel_rfl) (by kernel_rfl) (by intro _ _ _ h; exact h) (Or.inl ⟨by rfl, ?_⟩) (by assumption) ?_
                rotate_left
                · intro w hSw; (try dsimp only at hSw); go_simp; try with_reducible rfl
                try simp only [Act.put, List.setIfInBounds_toArray, List.set_cons_zero, List.set_cons_succ]
                refine wpAnyH_take (i := 7) (v := ?_) (by simp only [List.getElem?_toArray, List.getElem?_cons_succ, List.getElem?_cons_zero]; rfl) (by kernel_rfl) (by kernel_rfl) (by kernel_rfl) (by intro _ _ _ h; exact h) (Or.inl ⟨by rfl, ?_⟩) (by assumption) ?_
                rotate_left
                · intro w hSw; (try dsimp only at hSw); go_simp; try with_reducible rfl
                try simp only [Act.put, List.setIfInBounds_toArray, List.set_cons_zero, List.set_cons_succ]
                refine wpAnyH_take (i := 8) (v := ?_) (by simp only [List.getElem?_toArray, List.getElem?_cons_succ, List.getElem?_cons_zero]; rfl) (by kernel_rfl) (by kernel_rfl) (by kernel_rfl) (by intro _ _ _ h; exact h) (Or.inl ⟨by rfl, ?_⟩) (by assumption) ?_
                rotate_left
                · intro w hSw; (try dsimp only at hSw); go_simp; try with_reducible rfl
                try simp only [Act.put, List.setIfInBounds_toArray, List.set_cons_zero, List.set_cons_succ]
                refine wpAnyH_take (i := 9) (v := ?_) (by simp only [List.getElem?_toArray, List.getElem?_cons_succ, List.getElem?_cons_zero]; rfl) (by kernel_rfl) (by kernel_rfl) (by kernel_rfl) (by intro _ _ _ h; exact h) (Or.inl ⟨by rfl, ?_⟩) (by assumption) ?_
                rotate_left
                · intro w hSw; (try dsimp only at hSw); go_simp; first | with_reducible rfl | rw [if_pos (by omega)]
                try simp only [Act.put, List.setIfInBounds_toArray, List.set_cons_zero, List.set_cons_succ]
                refine wpAnyH_take (i := 10) (v := ?_) (by simp only [List.getElem?_toArray, List.getElem?_cons_succ, List.getElem?_cons_zero]; rfl) (by kernel_rfl) (by kernel_rfl) (by kernel_rfl) (by intro _ _ _ h; exact h) (Or.inl ⟨by rfl, ?_⟩) (by assumption) ?_
                rotate_left
                · intro w hSw; (try dsimp only at hSw); go_simp; try with_reducible rfl
                try simp only [Act.put, List.setIfInBounds_toArray, List.set_cons_zero, List.set_cons_succ]
                refine wpAnyH_take (i := 11) (v := ?_) (by simp only [List.getElem?_toArray, List.getElem?_cons_succ, List.getElem?_cons_zero]; rfl) (by kernel_rfl) (by kernel_rfl) (by kernel_rfl) (by intro _ _ _ h; exact h) (Or.inl ⟨by rfl, ?_⟩) (by assumption) ?_
                rotate_left
                · intro w hSw; (try dsimp only at hSw); go_simp; try with_reducible rfl
                try simp only [Act.put, List.setIfInBounds_toArray, List.set_cons_zero, List.set_cons_succ]
                refine wpAnyH_ready (rs := [12]) (by kernel_rfl) (by simp) ?_
                refine AllReadyH.cons (o := _) (by simp only [List.getElem?_toArray, List.getElem?_cons_succ, List.getElem?_cons_zero]; rfl) (fun K hK => ?_) AllReadyH.nil
                go_simp
                go_at_call 42
                refine (askR _ B1 gN n gA n n (askIns M1 (Li.take q) node cx) (HTw.out.below (Below.refl wr.heap.size wr).drew) xn hxn (nv - cx)).mono ?_
                rintro e w6 ⟨⟨v6, rfl⟩, h6, u6⟩
                go_simp
                refine hK.out _ _ (by exact ⟨by have h := h6.needAt node hnode; rw [askM_other _ _ _ _ (by rw [Int.toNat_natCast]; omega)] at h; rw [h, HNv.out]; rfl, (u6.cell (p := ⟨_, _, none⟩) (by simp only [drew_size]; omega) (by simp only; omega) (by simp only; omega)).trans z1⟩) (fun hHeld => ?_)
                clear hK K
                try simp only [Act.put, List.setIfInBounds_toArray, List.set_cons_zero, List.set_cons_succ]
                refine wpAnyH_done (by kernel_rfl) ?_ _
                go_wp2
                go_roundw
                case rel => exact ⟨q + 1, by omega, by go_num, Lib.hid ⟨by rw [HStep.out]; exact h6, HUw.out.trans (Upd.trans (Upd.ofBelow (Below.refl _ _).drew) u6)⟩⟩
                case measure => simp [intOf]; omega
              · obtain rfl : q = ml := by omega
                rw [List.take_of_length_le (by rw [← HMl.out]; exact Nat.le_refl _)] at hi3
                have hTab : askIns M1 Li node cx = backM ⟨ins, ha, hc, holds, some ⟨b, off, none⟩, lc, luts, oa, oc, outs⟩ cost till M0 (j + 1) := by rw [backM, tabM, ← HAt.out, ← HM.out, ← HF0.out, ← HNode.out, ← HM1.out, ← HLe.out, ← HCxe.out]
                have hWi := askIns_within HWi1.out Li node cx nv hcxb HNv1.out HKne.out Li.length (Nat.le_refl _)
                rw [List.take_length, hTab] at hWi
                rw [hTab] at hi3
                have HTw := Lib.hid hi3.1
                have HUw := Lib.hid hi3.2
                have HWi := Lib.hid hWi
                clear hi3 hTab hWi hbxq
                go_wp2
                go_roundw
                case rel => exact ⟨j + 1, by omega, by go_num, Lib.hid ⟨HTw.out, HUw.out, HWi.out.mono (by omega)⟩⟩
                case measure => simp [intOf]; omega
          | some sv =>
            simp only [Option.isSome_some] at y0
            have e1 : M = M1 := by rw [HM1.out]; unfold openM; rw [hmn]; rfl
            have HT1 : Hid (Two w5 B1 gN n gA n n M1) := Lib.hid (by rw [← e1]; exact hT5)
            have HU1 := Lib.hid hU5
            clear hT5 hU5 hbx5 hb5 e1 hmn
            go_wp2
            go_loopw [87] (fun qv wq => ∃ q : Nat, q ≤ ml ∧ qv = .int .i64 q ∧ Hid (Two wq B1 gN n gA n n (askIns M1 (Li.take q) node cx) ∧ Upd gN gA w4 wq)) (fun qv _ => ml - (intOf qv).toNat)
            case atStart => exact ⟨0, by omega, rfl, HT1.out, HU1.out⟩
            case round =>
              obtain ⟨q, hq, rfl, hi_⟩ := hrel
              have hi3 := hi_.out
              have hbq : Below B1 w4 wr := hi3.2.below hgN hgA hB4
              have hbxq := HBX4.out.step hbq (by omega)
              have hsq := hi3.2.size
              by_cases hlq : q < ml
              · have hstep := askIns_take M1 Li node cx q (by rw [← HMl.out]; exact hlq)
                obtain ⟨b3, off3, hLa, hb3, hc3⟩ := (HLS.out.below (HBX4.out.below.trans (hbq.mono (by omega))) (Nat.le_refl _)).at q hlq
                have x0 := hc3 q hlq
                unfold ints at x0
                have hx := HRng.out _ (getD_mem Li 0 (show q < Li.length by rw [← HMl.out]; exact hlq))
                have hnode2 := askIns_node M1 Li node cx nv HNv1.out HKne.out q (by rw [← HMl.out]; exact hq)
                have HNv : Hid ((askIns M1 (Li.take q) node cx).getD node none = some nv) := Lib.hid hnode2
                have z0 := hi3.1.needAt node hnode
                rw [hnode2, Option.getD_some] at z0
                have z1 : wr.cell? ⟨cb, coff + at_, none⟩ = some (.int .i64 cx) := (hi3.2.cell (p := ⟨_, _, none⟩) (by simp only; omega) (by simp only; omega) (by simp only; omega)).trans HCx.out
                obtain ⟨x, hxx⟩ : ∃ x, x = Li.getD q 0 := ⟨_, rfl⟩
                rw [← hxx] at x0 hx hstep
                obtain ⟨xn, hxn0⟩ := Int.eq_ofNat_of_zero_le hx.1
                subst hxn0
                rw [Int.toNat_natCast] at hx
                have hxn : xn < n := by omega
                have hxnode : xn ≠ node := by omega
                have hwrap : IntKind.i64.wrap (nv - cx) = nv - cx := IntWalk.i64_in _ (by omega)
                have hno : needOf (askIns M1 (Li.take q) node cx) node = nv := by rw [needOf, hnode2]; rfl
                rw [hno] at hstep
                have HStep := Lib.hid hstep
                have HTw := Lib.hid hi3.1
                have HUw := Lib.hid hi3.2
                have hgaps : gN < wr.heap.size ∧ gA < wr.heap.size := ⟨(hi3.1.need.lt gN rfl).2, (hi3.1.asked.lt gA rfl).2⟩
                obtain ⟨hgN2, hgA2⟩ := hgaps
                have hcbr : cb < wr.heap.size := by omega
                have hcbN : cb ≠ gN := by omega
                have hcbA : cb ≠ gA := by omega
                subst hLa
                clear hc3 hnode2 hno hstep hxx hi3 hbxq
                go_wp2_with fail
                refine wp_region_held_drew (S := fun w' => w'.cell? ⟨gN, node, none⟩ = some (.int .i64 nv) ∧ w'.cell? ⟨cb, coff + at_, none⟩ = some (.int .i64 cx)) (by kernel_rfl) (⟨z0, z1⟩) (fun hHeld => ?_)
                refine wpAnyH_take (i := 0) (v := ?_) (by simp only [List.getElem?_toArray, List.getElem?_cons_succ, List.getElem?_cons_zero]; rfl) (by kernel_rfl) (by kernel_rfl) (by kernel_rfl) (by intro _ _ _ h; exact h) (Or.inl ⟨by rfl, ?_⟩) (by assumption) ?_
                rotate_left
                · intro w hSw; (try dsimp only at hSw); go_simp; try with_reducible rfl
                try simp only [Act.put, List.setIfInBounds_toArray, List.set_cons_zero, List.set_cons_succ]
                refine wpAnyH_take (i := 1) (v := ?_) (by simp only [List.getElem?_toArray, List.getElem?_cons_succ, List.getElem?_cons_zero]; rfl) (by kernel_rfl) (by kernel_rfl) (by kernel_rfl) (by intro _ _ _ h; exact h) (Or.inl ⟨by rfl, ?_⟩) (by assumption) ?_
                rotate_left
                · intro w hSw; (try dsimp only at hSw); go_simp; try with_reducible rfl
                try simp only [Act.put, List.setIfInBounds_toArray, List.set_cons_zero, List.set_cons_succ]
                refine wpAnyH_take (i := 2) (v := ?_) (by simp only [List.getElem?_toArray, List.getElem?_cons_succ, List.getElem?_cons_zero]; rfl) (by kernel_rfl) (by kernel_rfl) (by kernel_rfl) (by intro _ _ _ h; exact h) (Or.inl ⟨by rfl, ?_⟩) (by assumption) ?_
                rotate_left
                · intro w hSw; (try dsimp only at hSw); go_simp; try with_reducible rfl
                try simp only [Act.put, List.setIfInBounds_toArray, List.set_cons_zero, List.set_cons_succ]
                refine wpAnyH_take (i := 3) (v := ?_) (by simp only [List.getElem?_toArray, List.getElem?_cons_succ, List.getElem?_cons_zero]; rfl) (by kernel_rfl) (by kernel_rfl) (by kernel_rfl) (by intro _ _ _ h; exact h) (Or.inl ⟨by rfl, ?_⟩) (by assumption) ?_
                rotate_left
                · intro w hSw; (try dsimp only at hSw); go_simp; try with_reducible rfl
                try simp only [Act.put, List.setIfInBounds_toArray, List.set_cons_zero, List.set_cons_succ]
                refine wpAnyH_take (i := 4) (v := ?_) (by simp only [List.getElem?_toArray, List.getElem?_cons_succ, List.getElem?_cons_zero]; rfl) (by kernel_rfl) (by kernel_rfl) (by kernel_rfl) (by intro _ _ _ h; exact h) (Or.inl ⟨by rfl, ?_⟩) (by assumption) ?_
                rotate_left
                · intro w hSw; (try dsimp only at hSw); go_simp; try with_reducible rfl
                try simp only [Act.put, List.setIfInBounds_toArray, List.set_cons_zero, List.set_cons_succ]
                refine wpAnyH_take (i := 5) (v := ?_) (by simp only [List.getElem?_toArray, List.getElem?_cons_succ, List.getElem?_cons_zero]; rfl) (by kernel_rfl) (by kernel_rfl) (by kernel_rfl) (by intro _ _ _ h; exact h) (Or.inl ⟨by rfl, ?_⟩) (by assumption) ?_
                rotate_left
                · intro w hSw; (try dsimp only at hSw); go_simp; first | with_reducible rfl | rw [if_pos (by omega)]
                try simp only [Act.put, List.setIfInBounds_toArray, List.set_cons_zero, List.set_cons_succ]
                refine wpAnyH_take (i := 6) (v := ?_) (by simp only [List.getElem?_toArray, List.getElem?_cons_succ, List.getElem?_cons_zero]; rfl) (by kernel_rfl) (by kernel_rfl) (by kernel_rfl) (by intro _ _ _ h; exact h) (Or.inl ⟨by rfl, ?_⟩) (by assumption) ?_
                rotate_left
                · intro w hSw; (try dsimp only at hSw); go_simp; try with_reducible rfl
                try simp only [Act.put, List.setIfInBounds_toArray, List.set_cons_zero, List.set_cons_succ]
                refine wpAnyH_take (i := 7) (v := ?_) (by simp only [List.getElem?_toArray, List.getElem?_cons_succ, List.getElem?_cons_zero]; rfl) (by kernel_rfl) (by kernel_rfl) (by kernel_rfl) (by intro _ _ _ h; exact h) (Or.inl ⟨by rfl, ?_⟩) (by assumption) ?_
                rotate_left
                · intro w hSw; (try dsimp only at hSw); go_simp; try with_reducible rfl
                try simp only [Act.put, List.setIfInBounds_toArray, List.set_cons_zero, List.set_cons_succ]
                refine wpAnyH_take (i := 8) (v := ?_) (by simp only [List.getElem?_toArray, List.getElem?_cons_succ, List.getElem?_cons_zero]; rfl) (by kernel_rfl) (by kernel_rfl) (by kernel_rfl) (by intro _ _ _ h; exact h) (Or.inl ⟨by rfl, ?_⟩) (by assumption) ?_
                rotate_left
                · intro w hSw; (try dsimp only at hSw); go_simp; try with_reducible rfl
                try simp only [Act.put, List.setIfInBounds_toArray, List.set_cons_zero, List.set_cons_succ]
                refine wpAnyH_take (i := 9) (v := ?_) (by simp only [List.getElem?_toArray, List.getElem?_cons_succ, List.getElem?_cons_zero]; rfl) (by kernel_rfl) (by kernel_rfl) (by kernel_rfl) (by intro _ _ _ h; exact h) (Or.inl ⟨by rfl, ?_⟩) (by assumption) ?_
                rotate_left
                · intro w hSw; (try dsimp only at hSw); go_simp; first | with_reducible rfl | rw [if_pos (by omega)]
                try simp only [Act.put, List.setIfInBounds_toArray, List.set_cons_zero, List.set_cons_succ]
                refine wpAnyH_take (i := 10) (v := ?_) (by simp only [List.getElem?_toArray, List.getElem?_cons_succ, List.getElem?_cons_zero]; rfl) (by kernel_rfl) (by kernel_rfl) (by kernel_rfl) (by intro _ _ _ h; exact h) (Or.inl ⟨by rfl, ?_⟩) (by assumption) ?_
                rotate_left
                · intro w hSw; (try dsimp only at hSw); go_simp; try with_reducible rfl
                try simp only [Act.put, List.setIfInBounds_toArray, List.set_cons_zero, List.set_cons_succ]
                refine wpAnyH_take (i := 11) (v := ?_) (by simp only [List.getElem?_toArray, List.getElem?_cons_succ, List.getElem?_cons_zero]; rfl) (by kernel_rfl) (by kernel_rfl) (by kernel_rfl) (by intro _ _ _ h; exact h) (Or.inl ⟨by rfl, ?_⟩) (by assumption) ?_
                rotate_left
                · intro w hSw; (try dsimp only at hSw); go_simp; try with_reducible rfl
                try simp only [Act.put, List.setIfInBounds_toArray, List.set_cons_zero, List.set_cons_succ]
                refine wpAnyH_ready (rs := [12]) (by kernel_rfl) (by simp) ?_
                refine AllReadyH.cons (o := _) (by simp only [List.getElem?_toArray, List.getElem?_cons_succ, List.getElem?_cons_zero]; rfl) (fun K hK => ?_) AllReadyH.nil
                go_simp
                go_at_call 42
                refine (askR _ B1 gN n gA n n (askIns M1 (Li.take q) node cx) (HTw.out.below (Below.refl wr.heap.size wr).drew) xn hxn (nv - cx)).mono ?_
                rintro e w6 ⟨⟨v6, rfl⟩, h6, u6⟩
                go_simp
                refine hK.out _ _ (by exact ⟨by have h := h6.needAt node hnode; rw [askM_other _ _ _ _ (by rw [Int.toNat_natCast]; omega)] at h; rw [h, HNv.out]; rfl, (u6.cell (p := ⟨_, _, none⟩) (by simp only [drew_size]; omega) (by simp only; omega) (by simp only; omega)).trans z1⟩) (fun hHeld => ?_)
                clear hK K
                try simp only [Act.put, List.setIfInBounds_toArray, List.set_cons_zero, List.set_cons_succ]
                refine wpAnyH_done (by kernel_rfl) ?_ _
                go_wp2
                go_roundw
                case rel => exact ⟨q + 1, by omega, by go_num, Lib.hid ⟨by rw [HStep.out]; exact h6, HUw.out.trans (Upd.trans (Upd.ofBelow (Below.refl _ _).drew) u6)⟩⟩
                case measure => simp [intOf]; omega
              · obtain rfl : q = ml := by omega
                rw [List.take_of_length_le (by rw [← HMl.out]; exact Nat.le_refl _)] at hi3
                have hTab : askIns M1 Li node cx = backM ⟨ins, ha, hc, holds, some ⟨b, off, none⟩, lc, luts, oa, oc, outs⟩ cost till M0 (j + 1) := by rw [backM, tabM, ← HAt.out, ← HM.out, ← HF0.out, ← HNode.out, ← HM1.out, ← HLe.out, ← HCxe.out]
                have hWi := askIns_within HWi1.out Li node cx nv hcxb HNv1.out HKne.out Li.length (Nat.le_refl _)
                rw [List.take_length, hTab] at hWi
                rw [hTab] at hi3
                have HTw := Lib.hid hi3.1
                have HUw := Lib.hid hi3.2
                have HWi := Lib.hid hWi
                clear hi3 hTab hWi hbxq
                go_wp2
                go_roundw
                case rel => exact ⟨j + 1, by omega, by go_num, Lib.hid ⟨HTw.out, HUw.out, HWi.out.mono (by omega)⟩⟩
                case measure => simp [intOf]; omega
        · obtain rfl : j = luts.length := by omega
          have hMFe : slackM ⟨ins, ha, hc, holds, la, lc, luts, oa, oc, outs⟩ cost till = backM ⟨ins, ha, hc, holds, la, lc, luts, oa, oc, outs⟩ cost till M0 luts.length := by rw [slackM, HM0.out, HM00.out, HN.out, HF0.out, HE.out]
          have hgl := fun k hk => slackL_get ⟨ins, ha, hc, holds, la, lc, luts, oa, oc, outs⟩ cost T till k hk
          have hll := slackL_length ⟨ins, ha, hc, holds, la, lc, luts, oa, oc, outs⟩ cost T till
          rw [← HSL.out] at hgl hll
          rw [hMFe] at hgl
          dsimp only at hgl hll
          rw [← HF0.out, ← HN.out] at hgl hll
          obtain ⟨MF, hMF⟩ : ∃ M, M = backM ⟨ins, ha, hc, holds, la, lc, luts, oa, oc, outs⟩ cost till M0 luts.length := ⟨_, rfl⟩
          rw [← hMF] at hT2 hW2 hgl
          have hlMF : MF.length = n := hT2.len
          have hgTb := hU2.block gT (by omega) (by omega) (by omega)
          have hTr := own_block HOwnT4.out hgTb
          have hNr := hT2.need
          have hAr := hT2.asked
          have hbrL : Below (w.heap.size + 1) w4 wr := hbr2.mono (by omega)
          have hTbd : ∀ x ∈ T, 0 ≤ x ∧ x ≤ 1048576 * 200 := by
            intro x hx
            have h4 := HTb.out x hx
            try dsimp only at h4
            omega
          have HTbd := Lib.hid hTbd
          have HGl := Lib.hid hgl
          have HLl := Lib.hid hll
          have HWF := Lib.hid hW2
          have HlMF := Lib.hid hlMF
          have HTr := Lib.hid hTr
          have HNr := Lib.hid hNr
          have HAr := Lib.hid hAr
          have HBrL := Lib.hid hbrL
          have hgTw1 : w.heap.size + 1 ≤ gT := by omega
          have hneNA : gN ≠ gA := HTwo4.out.ne
          clear hMFe hgl hll hMF hlMF hgTb hTr hNr hAr hT2 hW2 hU2 hbr2 hbrL hbx2 hTbd
          go_wp2
          go_loopw [108] (fun kv wq => ∃ k : Nat, k ≤ n ∧ kv = .int .i64 k ∧ Hid (∃ nr : List Int, nr.length = n ∧ (∀ t, k ≤ t → t < n → nr.getD t 0 = needOf MF t) ∧ wq.ownsRow B1 3 1 (.slice (some ⟨gN, 0, none⟩) n n) n (nr.map (Value.int .i64)) ∧ wq.ownsRow B1 4 1 (.slice (some ⟨gA, 0, none⟩) n n) n (ARow MF) ∧ wq.ownsRow W0.heap.size 3 1 (.slice (some ⟨gT, 0, none⟩) n cT) n ((mixTo SL T k).map (Value.int .i64)) ∧ Below (w.heap.size + 1) w4 wq)) (fun kv _ => n - (intOf kv).toNat)
          case atStart =>
            refine ⟨0, by omega, rfl, Lib.hid ⟨MF.map (fun o => o.getD 0), by rw [List.length_map, HlMF.out], fun t _ ht => ?_, ?_, HAr.out, by simpa [mixTo] using HTr.out, HBrL.out⟩⟩
            · have hl := HlMF.out
              simp [needOf, List.getD, List.getElem?_eq_getElem (show t < MF.length by omega)]
            · have h3 := HNr.out
              rw [NRow] at h3
              rw [List.map_map]; exact h3
          case round =>
            obtain ⟨k, hk, rfl, hh3⟩ := hrel
            obtain ⟨nr, hnl, hnr, hoN, hoA, hoT, hBb⟩ := hh3.out
            by_cases hlt3 : k < n
            · have zT := hoT.cellAt k (by omega)
              rw [List.getElem?_map, mixTo_get SL T k (by rw [HLl.out, HTl.out]) (by rw [HTl.out]; exact hlt3)] at zT
              simp only [Option.map_some] at zT
              have fT := hoT.frozenAt k
              have zN := hoN.cellAt k (by omega)
              rw [List.getElem?_map, List.getElem?_eq_getElem (by omega)] at zN
              simp only [Option.map_some] at zN
              rw [show nr[k]'(by omega) = nr.getD k 0 by simp [List.getD, List.getElem?_eq_getElem (show k < nr.length by omega)]] at zN
              have fN := hoN.frozenAt k
              have zA := hoA.cellAt k (by omega)
              rw [ARow_get MF k (by rw [HlMF.out]; exact hlt3)] at zA
              have hmix := mixTo_set SL T k (by rw [HLl.out, HTl.out]) (by rw [HTl.out]; exact hlt3)
              have hslk := HGl.out k hlt3
              have htk := HTbd.out _ (getD_mem T 0 (show k < T.length by rw [HTl.out]; exact hlt3))
              have hnk := hnr k (Nat.le_refl _) hlt3
              obtain ⟨tk, htke⟩ : ∃ t, t = T.getD k 0 := ⟨_, rfl⟩
              rw [← htke] at zT hslk htk
              obtain ⟨om, hom⟩ : ∃ o, MF.getD k none = o := ⟨_, rfl⟩
              rw [hom] at zA hslk
              rw [needOf, hom] at hnk
              rw [hnk] at zN
              rw [hslk] at hmix
              have hwf := HWF.out k
              rw [hom] at hwf
              cases om with
              | none =>
                simp only [Option.isSome_none, Option.getD_none] at zA zN hmix
                have hst := own_store hoN k (.int .i64 till)
                rw [← List.map_set] at hst
                have hg := hst.2
                have HoN : Hid ((wr.setCell ⟨gN, k, none⟩ (.int .i64 till)).ownsRow B1 3 1 (.slice (some ⟨gN, 0, none⟩) n n) n ((nr.set k till).map (Value.int .i64))) := Lib.hid hst.1
                have HoA := Lib.hid (hoA.kept hg (.inr (by simp [Value.ownBlock]; omega)))
                have HoT := Lib.hid (hoT.kept hg (.inr (by simp [Value.ownBlock]; omega)))
                have hBs : Below (w.heap.size + 1) w4 (wr.setCell ⟨gN, k, none⟩ (.int .i64 till)) := hBb.trans (grownBy_below hg (by have := hBb.size; omega) (by omega))
                obtain ⟨nr2, hnr2⟩ : ∃ l, l = nr.set k till := ⟨_, rfl⟩
                obtain ⟨nv2, hnv2⟩ : ∃ v, v = till := ⟨_, rfl⟩
                have hnl2 : nr2.length = n := by rw [hnr2, List.length_set, hnl]
                have HNr2 : Hid (∀ t, k + 1 ≤ t → t < n → nr2.getD t 0 = needOf MF t) := Lib.hid (fun t h1 h2 => by rw [hnr2, getD_set _ _ _ _ (by omega), if_neg (by omega)]; exact hnr t (by omega) h2)
                have HMix : Hid (((mixTo SL T k).map (Value.int .i64)).set k (.int .i64 (nv2 - tk)) = (mixTo SL T (k + 1)).map (Value.int .i64)) := Lib.hid (by rw [hnv2]; exact hmix)
                rw [← hnr2] at HoN
                have hnvb : -2199023255552 ≤ nv2 ∧ nv2 ≤ 2199023255552 := by omega
                have HBb := Lib.hid hBs
                have HTke := Lib.hid htke
                have HNv3 : Hid (nr2[k]'(by omega) = nv2) := Lib.hid (by rw [hnv2]; subst hnr2; simp)
                clear hnr hoN hoA hoT hBb hmix hslk hnk hom htke hwf hst hg hBs hnr2 hnv2
                go_wp2_with fail
                obtain ⟨ws, hws⟩ : ∃ x, x = wr.setCell ⟨gN, k, none⟩ (.int .i64 till) := ⟨_, rfl⟩
                rw [← hws] at HoN HoA HoT HBb ⊢
                have zN := HoN.out.cellAt k (by omega)
                rw [List.getElem?_map, List.getElem?_eq_getElem (by omega)] at zN
                simp only [Option.map_some] at zN
                rw [HNv3.out] at zN
                have zT := HoT.out.cellAt k (by omega)
                rw [List.getElem?_map, mixTo_get SL T k (by rw [HLl.out, HTl.out]) (by rw [HTl.out]; exact hlt3)] at zT
                simp only [Option.map_some] at zT
                rw [← HTke.out] at zT
                have fT := HoT.out.frozenAt k
                have hwrp : IntKind.i64.wrap (nv2 - tk) = nv2 - tk := IntWalk.i64_in _ (by omega)
                clear hws zA fN
                have hsz := HBb.out.size
                have HBb' : Hid (w.heap.size + 1 ≤ ws.heap.size) := Lib.hid (by omega)
                refine wp_region_held_drew (S := fun _ => True) (by kernel_rfl) (trivial) (fun hHeld => ?_)
                refine wpAnyH_take (i := 0) (v := ?_) (by simp only [List.getElem?_toArray, List.getElem?_cons_succ, List.getElem?_cons_zero]; rfl) (by kernel_rfl) (by kernel_rfl) (by kernel_rfl) (by intro _ _ _ h; exact h) (Or.inl ⟨by rfl, ?_⟩) (by assumption) ?_
                rotate_left
                · intro w hSw; (try dsimp only at hSw); go_simp; try with_reducible rfl
                try simp only [Act.put, List.setIfInBounds_toArray, List.set_cons_zero, List.set_cons_succ]
                refine wpAnyH_take (i := 1) (v := ?_) (by simp only [List.getElem?_toArray, List.getElem?_cons_succ, List.getElem?_cons_zero]; rfl) (by kernel_rfl) (by kernel_rfl) (by kernel_rfl) (by intro _ _ _ h; exact h) (Or.inl ⟨by rfl, ?_⟩) (by assumption) ?_
                rotate_left
                · intro w hSw; (try dsimp only at hSw); go_simp; try with_reducible rfl
                try simp only [Act.put, List.setIfInBounds_toArray, List.set_cons_zero, List.set_cons_succ]
                refine wpAnyH_take (i := 2) (v := ?_) (by simp only [List.getElem?_toArray, List.getElem?_cons_succ, List.getElem?_cons_zero]; rfl) (by kernel_rfl) (by kernel_rfl) (by kernel_rfl) (by intro _ _ _ h; exact h) (Or.inl ⟨by rfl, ?_⟩) (by assumption) ?_
                rotate_left
                · intro w hSw; (try dsimp only at hSw); go_simp; try with_reducible rfl
                try simp only [Act.put, List.setIfInBounds_toArray, List.set_cons_zero, List.set_cons_succ]
                refine wpAnyH_take (i := 3) (v := ?_) (by simp only [List.getElem?_toArray, List.getElem?_cons_succ, List.getElem?_cons_zero]; rfl) (by kernel_rfl) (by kernel_rfl) (by kernel_rfl) (by intro _ _ _ h; exact h) (Or.inl ⟨by rfl, ?_⟩) (by assumption) ?_
                rotate_left
                · intro w hSw; (try dsimp only at hSw); go_simp; try with_reducible rfl
                try simp only [Act.put, List.setIfInBounds_toArray, List.set_cons_zero, List.set_cons_succ]
                refine wpAnyH_take (i := 4) (v := ?_) (by simp only [List.getElem?_toArray, List.getElem?_cons_succ, List.getElem?_cons_zero]; rfl) (by kernel_rfl) (by kernel_rfl) (by kernel_rfl) (by intro _ _ _ h; exact h) (Or.inl ⟨by rfl, ?_⟩) (by assumption) ?_
                rotate_left
                · intro w hSw; (try dsimp only at hSw); go_simp; first | with_reducible rfl | rw [if_pos (by omega)]
                try simp only [Act.put, List.setIfInBounds_toArray, List.set_cons_zero, List.set_cons_succ]
                refine wpAnyH_take (i := 6) (v := ?_) (by simp only [List.getElem?_toArray, List.getElem?_cons_succ, List.getElem?_cons_zero]; rfl) (by kernel_rfl) (by kernel_rfl) (by kernel_rfl) (by intro _ _ _ h; exact h) (Or.inl ⟨by rfl, ?_⟩) (by assumption) ?_
                rotate_left
                · intro w hSw; (try dsimp only at hSw); go_simp; try with_reducible rfl
                try simp only [Act.put, List.setIfInBounds_toArray, List.set_cons_zero, List.set_cons_succ]
                refine wpAnyH_take (i := 7) (v := ?_) (by simp only [List.getElem?_toArray, List.getElem?_cons_succ, List.getElem?_cons_zero]; rfl) (by kernel_rfl) (by kernel_rfl) (by kernel_rfl) (by intro _ _ _ h; exact h) (Or.inl ⟨by rfl, ?_⟩) (by assumption) ?_
                rotate_left
                · intro w hSw; (try dsimp only at hSw); go_simp; try with_reducible rfl
                try simp only [Act.put, List.setIfInBounds_toArray, List.set_cons_zero, List.set_cons_succ]
                refine wpAnyH_take (i := 8) (v := ?_) (by simp only [List.getElem?_toArray, List.getElem?_cons_succ, List.getElem?_cons_zero]; rfl) (by kernel_rfl) (by kernel_rfl) (by kernel_rfl) (by intro _ _ _ h; exact h) (Or.inl ⟨by rfl, ?_⟩) (by assumption) ?_
                rotate_left
                · intro w hSw; (try dsimp only at hSw); go_simp; first | with_reducible rfl | rw [if_pos (by omega)]
                try simp only [Act.put, List.setIfInBounds_toArray, List.set_cons_zero, List.set_cons_succ]
                refine wpAnyH_ready (rs := [5, 9]) (by kernel_rfl) (by simp) ?_
                refine AllReadyH.cons (o := _) (by simp only [List.getElem?_toArray, List.getElem?_cons_succ, List.getElem?_cons_zero]; rfl) (fun K hK => ?_) (AllReadyH.cons (o := _) (by simp only [List.getElem?_toArray, List.getElem?_cons_succ, List.getElem?_cons_zero]; rfl) (fun K hK => ?_) AllReadyH.nil)
                · go_simp
                  refine hK.out _ _ (by trivial) (fun hHeld => ?_)
                  clear hK K
                  try simp only [Act.put, List.setIfInBounds_toArray, List.set_cons_zero, List.set_cons_succ]
                  refine wpAnyH_ready (rs := [9]) (by kernel_rfl) (by simp) ?_
                  refine AllReadyH.cons (o := _) (by simp only [List.getElem?_toArray, List.getElem?_cons_succ, List.getElem?_cons_zero]; rfl) (fun K hK => ?_) AllReadyH.nil
                  go_simp

                  refine hK.out _ _ (by trivial) (fun hHeld => ?_)
                  clear hK K
                  try simp only [Act.put, List.setIfInBounds_toArray, List.set_cons_zero, List.set_cons_succ]
                  refine wpAnyH_take (i := 10) (v := ?_) (by simp only [List.getElem?_toArray, List.getElem?_cons_succ, List.getElem?_cons_zero]; rfl) (by kernel_rfl) (by kernel_rfl) (by kernel_rfl) (by intro _ _ _ h; exact h) (Or.inl ⟨by rfl, ?_⟩) (by assumption) ?_
                  rotate_left
                  · intro w hSw; (try dsimp only at hSw); go_simp; try with_reducible rfl
                  try simp only [Act.put, List.setIfInBounds_toArray, List.set_cons_zero, List.set_cons_succ]
                  refine wpAnyH_take (i := 11) (v := ?_) (by simp only [List.getElem?_toArray, List.getElem?_cons_succ, List.getElem?_cons_zero]; rfl) (by kernel_rfl) (by kernel_rfl) (by kernel_rfl) (by intro _ _ _ h; exact h) (Or.inl ⟨by rfl, ?_⟩) (by assumption) ?_
                  rotate_left
                  · intro w hSw; (try dsimp only at hSw); go_simp; first | with_reducible rfl | rw [if_pos (by omega)]
                  try simp only [Act.put, List.setIfInBounds_toArray, List.set_cons_zero, List.set_cons_succ]
                  have q0 : ws.drew.cell? ⟨gT, k, none⟩ = some (.int .i64 tk) := zT
                  have q1 : ws.drew.frozen? ⟨gT, k, none⟩ = false := fT
                  refine wpAnyH_ready (rs := [12]) (by kernel_rfl) (by simp) ?_
                  refine AllReadyH.cons (o := _) (by simp only [List.getElem?_toArray, List.getElem?_cons_succ, List.getElem?_cons_zero]; rfl) (fun K hK => ?_) AllReadyH.nil
                  go_simp

                  refine hK.out _ _ (by trivial) (fun hHeld => ?_)
                  clear hK K
                  try simp only [Act.put, List.setIfInBounds_toArray, List.set_cons_zero, List.set_cons_succ]
                  refine wpAnyH_done (by kernel_rfl) ?_ _
                  go_wp2
                  go_roundw
                  case rel =>
                    have hst := own_store HoT.out k (.int .i64 (nv2 - tk))
                    have hg := hst.2
                    refine ⟨k + 1, by omega, by go_num, Lib.hid ⟨nr2, hnl2, fun t h1 h2 => HNr2.out t (by omega) h2, ?_, ?_, ?_, ?_⟩⟩
                    · exact own_drewN (k := 1) (HoN.out.kept hg (.inr (by simp [Value.ownBlock]; omega)))
                    · exact own_drewN (k := 1) (HoA.out.kept hg (.inr (by simp [Value.ownBlock]; omega)))
                    · have h3 := hst.1
                      rw [HMix.out] at h3
                      exact own_drewN (k := 1) h3
                    · exact (HBb.out.trans (grownBy_below hg HBb'.out (by omega))).trans (Below.refl _ _).drew
                  case measure => simp [intOf]; omega
                · go_simp
                  refine hK.out _ _ (by trivial) (fun hHeld => ?_)
                  clear hK K
                  try simp only [Act.put, List.setIfInBounds_toArray, List.set_cons_zero, List.set_cons_succ]
                  refine wpAnyH_ready (rs := [5]) (by kernel_rfl) (by simp) ?_
                  refine AllReadyH.cons (o := _) (by simp only [List.getElem?_toArray, List.getElem?_cons_succ, List.getElem?_cons_zero]; rfl) (fun K hK => ?_) AllReadyH.nil
                  go_simp

                  refine hK.out _ _ (by trivial) (fun hHeld => ?_)
                  clear hK K
                  try simp only [Act.put, List.setIfInBounds_toArray, List.set_cons_zero, List.set_cons_succ]
                  refine wpAnyH_take (i := 10) (v := ?_) (by simp only [List.getElem?_toArray, List.getElem?_cons_succ, List.getElem?_cons_zero]; rfl) (by kernel_rfl) (by kernel_rfl) (by kernel_rfl) (by intro _ _ _ h; exact h) (Or.inl ⟨by rfl, ?_⟩) (by assumption) ?_
                  rotate_left
                  · intro w hSw; (try dsimp only at hSw); go_simp; try with_reducible rfl
                  try simp only [Act.put, List.setIfInBounds_toArray, List.set_cons_zero, List.set_cons_succ]
                  refine wpAnyH_take (i := 11) (v := ?_) (by simp only [List.getElem?_toArray, List.getElem?_cons_succ, List.getElem?_cons_zero]; rfl) (by kernel_rfl) (by kernel_rfl) (by kernel_rfl) (by intro _ _ _ h; exact h) (Or.inl ⟨by rfl, ?_⟩) (by assumption) ?_
                  rotate_left
                  · intro w hSw; (try dsimp only at hSw); go_simp; first | with_reducible rfl | rw [if_pos (by omega)]
                  try simp only [Act.put, List.setIfInBounds_toArray, List.set_cons_zero, List.set_cons_succ]
                  have q0 : ws.drew.cell? ⟨gT, k, none⟩ = some (.int .i64 tk) := zT
                  have q1 : ws.drew.frozen? ⟨gT, k, none⟩ = false := fT
                  refine wpAnyH_ready (rs := [12]) (by kernel_rfl) (by simp) ?_
                  refine AllReadyH.cons (o := _) (by simp only [List.getElem?_toArray, List.getElem?_cons_succ, List.getElem?_cons_zero]; rfl) (fun K hK => ?_) AllReadyH.nil
                  go_simp

                  refine hK.out _ _ (by trivial) (fun hHeld => ?_)
                  clear hK K
                  try simp only [Act.put, List.setIfInBounds_toArray, List.set_cons_zero, List.set_cons_succ]
                  refine wpAnyH_done (by kernel_rfl) ?_ _
                  go_wp2
                  go_roundw
                  case rel =>
                    have hst := own_store HoT.out k (.int .i64 (nv2 - tk))
                    have hg := hst.2
                    refine ⟨k + 1, by omega, by go_num, Lib.hid ⟨nr2, hnl2, fun t h1 h2 => HNr2.out t (by omega) h2, ?_, ?_, ?_, ?_⟩⟩
                    · exact own_drewN (k := 1) (HoN.out.kept hg (.inr (by simp [Value.ownBlock]; omega)))
                    · exact own_drewN (k := 1) (HoA.out.kept hg (.inr (by simp [Value.ownBlock]; omega)))
                    · have h3 := hst.1
                      rw [HMix.out] at h3
                      exact own_drewN (k := 1) h3
                    · exact (HBb.out.trans (grownBy_below hg HBb'.out (by omega))).trans (Below.refl _ _).drew
                  case measure => simp [intOf]; omega
              | some sv =>
                simp only [Option.isSome_some, Option.getD_some] at zA zN hmix
                have hwf2 := hwf sv rfl
                obtain ⟨nr2, hnr2⟩ : ∃ l, l = nr := ⟨_, rfl⟩
                obtain ⟨nv2, hnv2⟩ : ∃ v, v = sv := ⟨_, rfl⟩
                rw [← hnr2] at hnl hoN hnr
                rw [← hnv2] at zN hmix hwf2
                have hnl2 := hnl
                have HNr2 : Hid (∀ t, k + 1 ≤ t → t < n → nr2.getD t 0 = needOf MF t) := Lib.hid (fun t h1 h2 => hnr t (by omega) h2)
                have HMix := Lib.hid hmix
                have HoN := Lib.hid hoN
                have HoA := Lib.hid hoA
                have HoT := Lib.hid hoT
                have HBb := Lib.hid hBb
                have hnvb : -2199023255552 ≤ nv2 ∧ nv2 ≤ 2199023255552 := by omega
                have hwrp : IntKind.i64.wrap (nv2 - tk) = nv2 - tk := IntWalk.i64_in _ (by omega)
                obtain ⟨ws, rfl⟩ : ∃ x, x = wr := ⟨_, rfl⟩
                clear hnr hoN hoA hoT hBb hmix hslk hnk hom htke hwf hnr2 hnv2 hnl
                go_wp2_with fail
                have hsz := HBb.out.size
                have HBb' : Hid (w.heap.size + 1 ≤ ws.heap.size) := Lib.hid (by omega)
                refine wp_region_held_drew (S := fun _ => True) (by kernel_rfl) (trivial) (fun hHeld => ?_)
                refine wpAnyH_take (i := 0) (v := ?_) (by simp only [List.getElem?_toArray, List.getElem?_cons_succ, List.getElem?_cons_zero]; rfl) (by kernel_rfl) (by kernel_rfl) (by kernel_rfl) (by intro _ _ _ h; exact h) (Or.inl ⟨by rfl, ?_⟩) (by assumption) ?_
                rotate_left
                · intro w hSw; (try dsimp only at hSw); go_simp; try with_reducible rfl
                try simp only [Act.put, List.setIfInBounds_toArray, List.set_cons_zero, List.set_cons_succ]
                refine wpAnyH_take (i := 1) (v := ?_) (by simp only [List.getElem?_toArray, List.getElem?_cons_succ, List.getElem?_cons_zero]; rfl) (by kernel_rfl) (by kernel_rfl) (by kernel_rfl) (by intro _ _ _ h; exact h) (Or.inl ⟨by rfl, ?_⟩) (by assumption) ?_
                rotate_left
                · intro w hSw; (try dsimp only at hSw); go_simp; try with_reducible rfl
                try simp only [Act.put, List.setIfInBounds_toArray, List.set_cons_zero, List.set_cons_succ]
                refine wpAnyH_take (i := 2) (v := ?_) (by simp only [List.getElem?_toArray, List.getElem?_cons_succ, List.getElem?_cons_zero]; rfl) (by kernel_rfl) (by kernel_rfl) (by kernel_rfl) (by intro _ _ _ h; exact h) (Or.inl ⟨by rfl, ?_⟩) (by assumption) ?_
                rotate_left
                · intro w hSw; (try dsimp only at hSw); go_simp; try with_reducible rfl
                try simp only [Act.put, List.setIfInBounds_toArray, List.set_cons_zero, List.set_cons_succ]
                refine wpAnyH_take (i := 3) (v := ?_) (by simp only [List.getElem?_toArray, List.getElem?_cons_succ, List.getElem?_cons_zero]; rfl) (by kernel_rfl) (by kernel_rfl) (by kernel_rfl) (by intro _ _ _ h; exact h) (Or.inl ⟨by rfl, ?_⟩) (by assumption) ?_
                rotate_left
                · intro w hSw; (try dsimp only at hSw); go_simp; try with_reducible rfl
                try simp only [Act.put, List.setIfInBounds_toArray, List.set_cons_zero, List.set_cons_succ]
                refine wpAnyH_take (i := 4) (v := ?_) (by simp only [List.getElem?_toArray, List.getElem?_cons_succ, List.getElem?_cons_zero]; rfl) (by kernel_rfl) (by kernel_rfl) (by kernel_rfl) (by intro _ _ _ h; exact h) (Or.inl ⟨by rfl, ?_⟩) (by assumption) ?_
                rotate_left
                · intro w hSw; (try dsimp only at hSw); go_simp; first | with_reducible rfl | rw [if_pos (by omega)]
                try simp only [Act.put, List.setIfInBounds_toArray, List.set_cons_zero, List.set_cons_succ]
                refine wpAnyH_take (i := 6) (v := ?_) (by simp only [List.getElem?_toArray, List.getElem?_cons_succ, List.getElem?_cons_zero]; rfl) (by kernel_rfl) (by kernel_rfl) (by kernel_rfl) (by intro _ _ _ h; exact h) (Or.inl ⟨by rfl, ?_⟩) (by assumption) ?_
                rotate_left
                · intro w hSw; (try dsimp only at hSw); go_simp; try with_reducible rfl
                try simp only [Act.put, List.setIfInBounds_toArray, List.set_cons_zero, List.set_cons_succ]
                refine wpAnyH_take (i := 7) (v := ?_) (by simp only [List.getElem?_toArray, List.getElem?_cons_succ, List.getElem?_cons_zero]; rfl) (by kernel_rfl) (by kernel_rfl) (by kernel_rfl) (by intro _ _ _ h; exact h) (Or.inl ⟨by rfl, ?_⟩) (by assumption) ?_
                rotate_left
                · intro w hSw; (try dsimp only at hSw); go_simp; try with_reducible rfl
                try simp only [Act.put, List.setIfInBounds_toArray, List.set_cons_zero, List.set_cons_succ]
                refine wpAnyH_take (i := 8) (v := ?_) (by simp only [List.getElem?_toArray, List.getElem?_cons_succ, List.getElem?_cons_zero]; rfl) (by kernel_rfl) (by kernel_rfl) (by kernel_rfl) (by intro _ _ _ h; exact h) (Or.inl ⟨by rfl, ?_⟩) (by assumption) ?_
                rotate_left
                · intro w hSw; (try dsimp only at hSw); go_simp; first | with_reducible rfl | rw [if_pos (by omega)]
                try simp only [Act.put, List.setIfInBounds_toArray, List.set_cons_zero, List.set_cons_succ]
                refine wpAnyH_ready (rs := [5, 9]) (by kernel_rfl) (by simp) ?_
                refine AllReadyH.cons (o := _) (by simp only [List.getElem?_toArray, List.getElem?_cons_succ, List.getElem?_cons_zero]; rfl) (fun K hK => ?_) (AllReadyH.cons (o := _) (by simp only [List.getElem?_toArray, List.getElem?_cons_succ, List.getElem?_cons_zero]; rfl) (fun K hK => ?_) AllReadyH.nil)
                · go_simp
                  refine hK.out _ _ (by trivial) (fun hHeld => ?_)
                  clear hK K
                  try simp only [Act.put, List.setIfInBounds_toArray, List.set_cons_zero, List.set_cons_succ]
                  refine wpAnyH_ready (rs := [9]) (by kernel_rfl) (by simp) ?_
                  refine AllReadyH.cons (o := _) (by simp only [List.getElem?_toArray, List.getElem?_cons_succ, List.getElem?_cons_zero]; rfl) (fun K hK => ?_) AllReadyH.nil
                  go_simp

                  refine hK.out _ _ (by trivial) (fun hHeld => ?_)
                  clear hK K
                  try simp only [Act.put, List.setIfInBounds_toArray, List.set_cons_zero, List.set_cons_succ]
                  refine wpAnyH_take (i := 10) (v := ?_) (by simp only [List.getElem?_toArray, List.getElem?_cons_succ, List.getElem?_cons_zero]; rfl) (by kernel_rfl) (by kernel_rfl) (by kernel_rfl) (by intro _ _ _ h; exact h) (Or.inl ⟨by rfl, ?_⟩) (by assumption) ?_
                  rotate_left
                  · intro w hSw; (try dsimp only at hSw); go_simp; try with_reducible rfl
                  try simp only [Act.put, List.setIfInBounds_toArray, List.set_cons_zero, List.set_cons_succ]
                  refine wpAnyH_take (i := 11) (v := ?_) (by simp only [List.getElem?_toArray, List.getElem?_cons_succ, List.getElem?_cons_zero]; rfl) (by kernel_rfl) (by kernel_rfl) (by kernel_rfl) (by intro _ _ _ h; exact h) (Or.inl ⟨by rfl, ?_⟩) (by assumption) ?_
                  rotate_left
                  · intro w hSw; (try dsimp only at hSw); go_simp; first | with_reducible rfl | rw [if_pos (by omega)]
                  try simp only [Act.put, List.setIfInBounds_toArray, List.set_cons_zero, List.set_cons_succ]
                  have q0 : ws.drew.cell? ⟨gT, k, none⟩ = some (.int .i64 tk) := zT
                  have q1 : ws.drew.frozen? ⟨gT, k, none⟩ = false := fT
                  refine wpAnyH_ready (rs := [12]) (by kernel_rfl) (by simp) ?_
                  refine AllReadyH.cons (o := _) (by simp only [List.getElem?_toArray, List.getElem?_cons_succ, List.getElem?_cons_zero]; rfl) (fun K hK => ?_) AllReadyH.nil
                  go_simp

                  refine hK.out _ _ (by trivial) (fun hHeld => ?_)
                  clear hK K
                  try simp only [Act.put, List.setIfInBounds_toArray, List.set_cons_zero, List.set_cons_succ]
                  refine wpAnyH_done (by kernel_rfl) ?_ _
                  go_wp2
                  go_roundw
                  case rel =>
                    have hst := own_store HoT.out k (.int .i64 (nv2 - tk))
                    have hg := hst.2
                    refine ⟨k + 1, by omega, by go_num, Lib.hid ⟨nr2, hnl2, fun t h1 h2 => HNr2.out t (by omega) h2, ?_, ?_, ?_, ?_⟩⟩
                    · exact own_drewN (k := 1) (HoN.out.kept hg (.inr (by simp [Value.ownBlock]; omega)))
                    · exact own_drewN (k := 1) (HoA.out.kept hg (.inr (by simp [Value.ownBlock]; omega)))
                    · have h3 := hst.1
                      rw [HMix.out] at h3
                      exact own_drewN (k := 1) h3
                    · exact (HBb.out.trans (grownBy_below hg HBb'.out (by omega))).trans (Below.refl _ _).drew
                  case measure => simp [intOf]; omega
                · go_simp
                  refine hK.out _ _ (by trivial) (fun hHeld => ?_)
                  clear hK K
                  try simp only [Act.put, List.setIfInBounds_toArray, List.set_cons_zero, List.set_cons_succ]
                  refine wpAnyH_ready (rs := [5]) (by kernel_rfl) (by simp) ?_
                  refine AllReadyH.cons (o := _) (by simp only [List.getElem?_toArray, List.getElem?_cons_succ, List.getElem?_cons_zero]; rfl) (fun K hK => ?_) AllReadyH.nil
                  go_simp

                  refine hK.out _ _ (by trivial) (fun hHeld => ?_)
                  clear hK K
                  try simp only [Act.put, List.setIfInBounds_toArray, List.set_cons_zero, List.set_cons_succ]
                  refine wpAnyH_take (i := 10) (v := ?_) (by simp only [List.getElem?_toArray, List.getElem?_cons_succ, List.getElem?_cons_zero]; rfl) (by kernel_rfl) (by kernel_rfl) (by kernel_rfl) (by intro _ _ _ h; exact h) (Or.inl ⟨by rfl, ?_⟩) (by assumption) ?_
                  rotate_left
                  · intro w hSw; (try dsimp only at hSw); go_simp; try with_reducible rfl
                  try simp only [Act.put, List.setIfInBounds_toArray, List.set_cons_zero, List.set_cons_succ]
                  refine wpAnyH_take (i := 11) (v := ?_) (by simp only [List.getElem?_toArray, List.getElem?_cons_succ, List.getElem?_cons_zero]; rfl) (by kernel_rfl) (by kernel_rfl) (by kernel_rfl) (by intro _ _ _ h; exact h) (Or.inl ⟨by rfl, ?_⟩) (by assumption) ?_
                  rotate_left
                  · intro w hSw; (try dsimp only at hSw); go_simp; first | with_reducible rfl | rw [if_pos (by omega)]
                  try simp only [Act.put, List.setIfInBounds_toArray, List.set_cons_zero, List.set_cons_succ]
                  have q0 : ws.drew.cell? ⟨gT, k, none⟩ = some (.int .i64 tk) := zT
                  have q1 : ws.drew.frozen? ⟨gT, k, none⟩ = false := fT
                  refine wpAnyH_ready (rs := [12]) (by kernel_rfl) (by simp) ?_
                  refine AllReadyH.cons (o := _) (by simp only [List.getElem?_toArray, List.getElem?_cons_succ, List.getElem?_cons_zero]; rfl) (fun K hK => ?_) AllReadyH.nil
                  go_simp

                  refine hK.out _ _ (by trivial) (fun hHeld => ?_)
                  clear hK K
                  try simp only [Act.put, List.setIfInBounds_toArray, List.set_cons_zero, List.set_cons_succ]
                  refine wpAnyH_done (by kernel_rfl) ?_ _
                  go_wp2
                  go_roundw
                  case rel =>
                    have hst := own_store HoT.out k (.int .i64 (nv2 - tk))
                    have hg := hst.2
                    refine ⟨k + 1, by omega, by go_num, Lib.hid ⟨nr2, hnl2, fun t h1 h2 => HNr2.out t (by omega) h2, ?_, ?_, ?_, ?_⟩⟩
                    · exact own_drewN (k := 1) (HoN.out.kept hg (.inr (by simp [Value.ownBlock]; omega)))
                    · exact own_drewN (k := 1) (HoA.out.kept hg (.inr (by simp [Value.ownBlock]; omega)))
                    · have h3 := hst.1
                      rw [HMix.out] at h3
                      exact own_drewN (k := 1) h3
                    · exact (HBb.out.trans (grownBy_below hg HBb'.out (by omega))).trans (Below.refl _ _).drew
                  case measure => simp [intOf]; omega
            · obtain rfl : k = n := by omega
              go_wp2
              go_ret2
              refine ⟨_, rfl, ?_, (HBX4.out.step hBb (Nat.le_refl _)).below⟩
              have h3 := hoT
              rw [mixTo, List.take_of_length_le (by rw [HLl.out]; exact Nat.le_refl _), List.drop_eq_nil_of_le (by rw [HTl.out]; exact Nat.le_refl _), List.append_nil] at h3
              rw [HLl.out]
              exact h3.base_le (by omega)
end Go.Proofs.Ytkcilpkcjhnkaaa
