/- Values picked; all values of a net. -/
import Derived.Test.YtibimdhmfchcoaaS3
import Derived.Test.YtibimdhmfchcoaaA6
/- T28 -/
set_option maxRecDepth 100000
namespace Go.Proofs.Ytibimdhmfchcoaa
open Go.RowKit
set_option linter.unusedVariables false
set_option linter.unusedSimpArgs false

theorem Seq.one {w : World} {v : Value} {t : TypeId} {f : Nat → Value} (hf : f 0 = v) : Seq (w.alloc (Obj.cells #[v] t)) (some ⟨w.heap.size, 0, none⟩) 1 f :=
  .inr ⟨w.heap.size, 0, rfl, fun j hj => by obtain rfl : j = 0 := by omega
                                            rw [hf]; simp⟩

def pickB (v : List Bool) (ins : List Int) : List Bool := ins.map fun x => v.getD x.toNat false

set_option maxRecDepth 100000 in
set_option maxHeartbeats 1000000 in
theorem pickBools (w : World) (a : Option Addr) (n c : Nat) (v : List Bool) (S : Seq w a n (bools v)) (hn : n ≤ 100000) (b : Option Addr) (m d : Nat) (ins : List Int) (hlen : ins.length = m) (hm : m ≤ 1000) (T : Seq w b m (ints ins))
    (hin : ∀ x ∈ ins, 0 ≤ x ∧ x < n) : Calls Try.prog 68 #[.slice a n c, .slice b m d] w (NewBools w (pickB v ins)) := by
  have HS := Lib.hid S
  have HT := Lib.hid T
  have HIn := Lib.hid hin
  have HLen := Lib.hid hlen
  obtain ⟨i0, hi, hz0, hz1, hz2⟩ := info_parts info4
  clear S T hin hlen
  go_enter Try.func68, Try.ntmps68
  go_wp2
  go_loopw [5, 10] (fun r i wr => ∃ k : Nat, k ≤ m ∧ i = .int .i64 k ∧ Hid (Below w.heap.size w wr ∧ wr.ownsRow w.heap.size 4 1 r k ((pickB v (ins.take k)).map Value.bool))) (fun _ i _ => m - (intOf i).toNat)
  case atStart => exact ⟨0, by omega, rfl, Below.refl _ _, by simpa [pickB] using World.ownsRow_nil _ _ _ _⟩
  case round =>
    obtain ⟨k, hk, rfl, hh⟩ := hrel
    by_cases hlt : k < m
    · obtain ⟨b', off', rfl, hbb', hcl⟩ := (HT.out.below hh.out.1 (Nat.le_refl _)).at k hlt
      have y0 := hcl k hlt
      unfold ints at y0
      have hx := HIn.out _ (getD_mem ins 0 (by rw [HLen.out]; exact hlt))
      obtain ⟨xn, hxn⟩ := Int.eq_ofNat_of_zero_le hx.1
      have hst : pickB v (ins.take (k + 1)) = pickB v (ins.take k) ++ [v.getD xn false] := by
        have hk' : k < ins.length := by rw [HLen.out]; exact hlt
        rw [List.take_succ_eq_append_getElem hk', pickB, List.map_append, pickB]
        have e : ins[k] = (xn : Int) := by rw [← hxn]; simp [List.getD, hk']
        simp [e]
      rw [hxn] at y0 hx
      have hxlt : xn < n := by omega
      have hxi : (xn : Int) < n := by omega
      obtain ⟨b2, off2, rfl, hbb2, hcc⟩ := (HS.out.below hh.out.1 (Nat.le_refl _)).at xn hxlt
      have y1 := hcc xn hxlt
      unfold bools at y1
      obtain ⟨y, hy⟩ : ∃ y, y = v.getD xn false := ⟨_, rfl⟩
      rw [← hy] at y1 hst
      have HSt := Lib.hid hst
      have hsz := hh.out.1.size
      clear hcl hcc hst hy hx hxn
      go_wp2_with (at_builtin; refine wpList_append_seq rfl _ _ 37 rfl w.heap.size 4 i0 (.bool false) 1 Try.underlying37 hi hz0 hz1 hz2 rfl _ _ _ rfl (hh.out.2.alloc _) (some ⟨wr.heap.size, 0, none⟩) 1 1 [.bool y] (fun _ => .bool y) rfl rfl ?_ ?_ ?_ ?_ ?_ ?_ ?_)
      · exact Seq.one rfl
      · intro j hj
        obtain rfl : j = 0 := by omega
        rfl
      · simp [Value.oneCell']
      · unfold maxLen; omega
      · omega
      · simp; omega
      intro v' w2 hown2 hgrow2
      have hb2 := (hh.out.1.alloc hsz (Obj.cells #[.bool y] 4)).grown hgrow2 (by simp; omega) (fun q e => (hh.out.2.lt q e).1)
      have HB2 := Lib.hid hb2
      have HOwn2 := Lib.hid hown2
      clear hb2 hown2 hgrow2
      go_wp2
      go_roundw
      case rel => exact ⟨k + 1, by omega, by go_num, HB2.out, by rw [HSt.out, List.map_append]; exact HOwn2.out⟩
      case measure => simp [intOf]; omega
    · obtain rfl : k = m := by omega
      go_wp2
      go_ret
      refine ⟨_, rfl, ?_, hh.out.1⟩
      have h2 := hh.out.2
      rw [List.take_of_length_le (by rw [HLen.out]; exact Nat.le_refl _)] at h2
      rw [show (pickB v ins).length = k by rw [pickB, List.length_map, HLen.out]]
      exact h2
end Go.Proofs.Ytibimdhmfchcoaa

/- T29 -/
namespace Go.Proofs.Ytibimdhmfchcoaa
open Go.RowKit
set_option linter.unusedVariables false
set_option linter.unusedSimpArgs false

theorem rowB_append (l : List Bool) (x : Bool) : rowB (l ++ [x]) = rowB l + (if x then 2 ^ l.length else 0) := by
  induction l with
  | nil => simp [rowB]
  | cons y l ih => simp only [List.cons_append, rowB, ih, List.length_cons, Nat.pow_succ]; split <;> omega

theorem rowB_take (v : List Bool) (ins : List Int) (j : Nat) (hj : j ≤ ins.length) : rowB (pickB v (ins.take j)) = rowTo ins v j := by
  induction j with
  | zero => rfl
  | succ j ih =>
    have e : pickB v (ins.take (j + 1)) = pickB v (ins.take j) ++ [v.getD (ins.getD j 0).toNat false] := by
      rw [List.take_succ_eq_append_getElem (by omega), pickB, List.map_append, pickB]
      simp [List.getD, List.getElem?_eq_getElem (show j < ins.length by omega)]
    have hl : (pickB v (ins.take j)).length = j := by rw [pickB, List.length_map, List.length_take]; omega
    rw [e, rowB_append, ih (by omega), hl, rowTo]

theorem rowB_pick (v : List Bool) (ins : List Int) : rowB (pickB v ins) = rowTo ins v ins.length := by
  have := rowB_take v ins ins.length (Nat.le_refl _)
  rwa [List.take_length] at this

theorem firstN_int {N : NetV} (h : 0 ≤ N.ins) : ((firstN N : Nat) : Int) = 1 + N.ins + N.holds.length := by unfold firstN; omega
theorem chk_cases (N : NetV) (k : Int) : (chk N k = 0 ∧ NetOk N k) ∨ (chk N k = 1 ∧ ¬ NetOk N k) := by
  unfold chk
  by_cases h : NetOk N k
  · exact .inl ⟨if_pos h, h⟩
  · exact .inr ⟨if_neg h, h⟩

set_option maxRecDepth 100000 in
set_option maxHeartbeats 4000000 in
theorem values (w : World) (N : NetV) (h : NetAt w N) (f : Few N) (ok : NetOk N 6) (a1 a2 : Option Addr) (c1 c2 : Nat) (inn st : List Bool) (S1 : Seq w a1 inn.length (bools inn)) (S2 : Seq w a2 st.length (bools st))
    (h2 : (inn.length : Int) = N.ins) (h3 : st.length = N.holds.length) :
    Calls Try.prog 67 #[N.val, .slice a1 inn.length c1, .slice a2 st.length c2] w (NewBools w (valTo N (v0Of inn st) N.luts.length)) := by
  have hf0 := f.ins
  have hf1 := f.holds
  have hf2 := f.luts
  have hi0 := ok.ins0
  have hfe := firstN_int hi0
  have hin : ∀ i, i < N.luts.length → ∀ k ∈ (N.luts.getD i default).ins, 0 ≤ k ∧ k < ((firstN N + i : Nat) : Int) := fun i hi k hk => by
    have := (ok.lut i hi).ins k hk
    omega
  have hvl : (v0Of inn st).length = firstN N := by simp [v0Of]; omega
  obtain ⟨V0, hV0⟩ : ∃ V, V = v0Of inn st := ⟨_, rfl⟩
  rw [← hV0] at hvl ⊢
  obtain ⟨F0, hF0⟩ : ∃ F, F = firstN N := ⟨_, rfl⟩
  rw [← hF0] at hfe hin hvl
  obtain ⟨n1, hn1⟩ : ∃ n, n = inn.length := ⟨_, rfl⟩
  obtain ⟨n2, hn2⟩ : ∃ n, n = st.length := ⟨_, rfl⟩
  rw [← hn1] at S1 h2 ⊢
  rw [← hn2] at S2 h3 ⊢
  have hb := Box.start w N
  have HBX := Lib.hid hb
  have e2 := hb.c2
  have hs := hb.size
  have HV0 := Lib.hid hV0
  have HVl := Lib.hid hvl
  have HIn := Lib.hid hin
  have HN1 := Lib.hid hn1
  have HN2 := Lib.hid hn2
  have HS1 := Lib.hid S1
  have HS2 := Lib.hid S2
  have H := Lib.hid h
  have HOk := Lib.hid ok
  have HFE := Lib.hid hfe
  have hF0u : F0 ≤ 201 := by omega
  have hF1 : 0 < F0 := by omega
  have hn1u : n1 ≤ 1000 := by omega
  have hn2u : n2 ≤ 1000 := by omega
  have HH2 := Lib.hid h2
  have HH3 := Lib.hid h3
  obtain ⟨i0, hi, hz0, hz1, hz2⟩ := info_parts info4
  obtain ⟨W0, hW0⟩ : ∃ W, W = w.alloc N.obj := ⟨_, rfl⟩
  rw [← hW0] at e2 hs HBX
  have HW0 := Lib.hid hW0
  clear hb hV0 hvl hin hn1 hn2 S1 S2 h ok f hF0 hW0 hfe h2 h3
  obtain ⟨ins, ha, hc, holds, la, lc, luts, oa, oc, outs⟩ := N
  dsimp only at hf0 hf1 hf2 hi0 e2
  go_enter Try.func67, Try.ntmps67
  go_wp2_with fail
  have hsW : W0.heap.size = w.heap.size + 1 := by rw [HW0.out]; simp
  rw [← HW0.out, ← hsW]
  have hbW : Below W0.heap.size W0 ((W0.alloc (Obj.cells #[Value.bool false] 4)).alloc (Obj.cells #[Value.slice (some ⟨W0.heap.size, 0, none⟩) 1 1, Value.slice a1 n1 c1, Value.slice a2 n2 c2] 37)) := ((Below.refl _ _).alloc (Nat.le_refl _) _).alloc (by simp) _
  have hPP : Parts ((W0.alloc (Obj.cells #[Value.bool false] 4)).alloc (Obj.cells #[Value.slice (some ⟨W0.heap.size, 0, none⟩) 1 1, Value.slice a1 n1 c1, Value.slice a2 n2 c2] 37)) (W0.heap.size + 1) [⟨some ⟨W0.heap.size, 0, none⟩, 1, [false]⟩, ⟨a1, c1, inn⟩, ⟨a2, c2, st⟩] := by
    have hbw : Below w.heap.size w ((W0.alloc (Obj.cells #[Value.bool false] 4)).alloc (Obj.cells #[Value.slice (some ⟨W0.heap.size, 0, none⟩) 1 1, Value.slice a1 n1 c1, Value.slice a2 n2 c2] 37)) := HBX.out.below.trans (hbW.mono (by omega))
    intro i hi
    rcases (show i = 0 ∨ i = 1 ∨ i = 2 by simp at hi; omega) with rfl | rfl | rfl
    · refine ⟨by simp, ?_, by simp⟩
      refine .inr ⟨W0.heap.size, 0, rfl, fun j hj => ?_⟩
      obtain rfl : j = 0 := by simp at hj; omega
      simp [bools]
    · refine ⟨by simp [HN1.out], ?_, by show inn.length ≤ 1000; rw [← HN1.out]; omega⟩
      show Seq _ a1 inn.length (bools inn)
      rw [← HN1.out]
      exact HS1.out.below hbw (Nat.le_refl _)
    · refine ⟨by simp [HN2.out], ?_, by show st.length ≤ 1000; rw [← HN2.out]; omega⟩
      show Seq _ a2 st.length (bools st)
      rw [← HN2.out]
      exact HS2.out.below hbw (Nat.le_refl _)
  refine (concat _ (W0.heap.size + 1) 3 3 [⟨some ⟨W0.heap.size, 0, none⟩, 1, [false]⟩, ⟨a1, c1, inn⟩, ⟨a2, c2, st⟩] rfl (by omega) hPP).mono ?_
  rintro e w5 ⟨v5, rfl, hown5, hb5⟩
  have hft : flatTo [⟨some ⟨W0.heap.size, 0, none⟩, 1, [false]⟩, ⟨a1, c1, inn⟩, ⟨a2, c2, st⟩] 3 = V0 := by
    rw [HV0.out, v0Of]; rfl
  rw [hft, HVl.out] at hown5
  have hb5' : Below (w.heap.size + 1) W0 w5 := (hbW.trans (hb5.mono (by simp; omega))).mono (by omega)
  have hbx := HBX.out.step hb5' (Nat.le_refl _)
  have HBX5 := Lib.hid hbx
  have HOwn5 := Lib.hid (hown5.base_le (base' := w.heap.size + 1) (by simp; omega))
  have y2 := hbx.c2
  dsimp only at y2
  clear hbx hft hown5 hb5 hb5' hPP hbW e2
  go_wp2
  go_loopw [7, 18] (fun v k wr => ∃ i : Nat, i ≤ luts.length ∧ k = .int .i64 i ∧ Hid (Box w.heap.size w ⟨ins, ha, hc, holds, la, lc, luts, oa, oc, outs⟩ wr ∧ wr.ownsRow (w.heap.size + 1) 4 1 v (F0 + i) ((valTo ⟨ins, ha, hc, holds, la, lc, luts, oa, oc, outs⟩ V0 i).map Value.bool))) (fun _ k _ => luts.length - (intOf k).toNat)
  case atStart => exact ⟨0, by omega, rfl, HBX5.out, HOwn5.out⟩
  case round =>
    obtain ⟨i, hil, rfl, hq⟩ := hrel
    by_cases hlt : i < luts.length
    · obtain ⟨b, off, rfl, hbb, t0, t1⟩ := (H.out.below hq.out.1.below (Nat.le_refl _)).lut i hlt
      obtain ⟨hU, hU1, _, _⟩ := H.out.lutAt i hlt
      have hrng := HIn.out i hlt
      have h6 := (HOk.out.lut i hlt).len
      have hsuc : valTo ⟨ins, ha, hc, holds, some ⟨b, off, none⟩, lc, luts, oa, oc, outs⟩ V0 (i + 1) = valTo ⟨ins, ha, hc, holds, some ⟨b, off, none⟩, lc, luts, oa, oc, outs⟩ V0 i ++ [tabVal (luts.getD i default) (valTo ⟨ins, ha, hc, holds, some ⟨b, off, none⟩, lc, luts, oa, oc, outs⟩ V0 i)] := rfl
      obtain ⟨L, hLe⟩ : ∃ L, L = luts.getD i default := ⟨_, rfl⟩
      dsimp only at t0 t1 hU hU1 hrng h6
      rw [← hLe] at t0 t1 hU hU1 hrng h6 hsuc
      have HL := Lib.hid hLe
      have HSL := Lib.hid (hU.below hq.out.1.below (Nat.le_refl _))
      have HU1 := Lib.hid hU1
      have hown := hq.out.2
      obtain ⟨V, hV⟩ : ∃ V, V = valTo ⟨ins, ha, hc, holds, some ⟨b, off, none⟩, lc, luts, oa, oc, outs⟩ V0 i := ⟨_, rfl⟩
      rw [← hV] at hown hsuc
      have HV := Lib.hid hV
      obtain ⟨M, hM⟩ : ∃ M, M = F0 + i := ⟨_, rfl⟩
      rw [← hM] at hown
      have hMl : M ≤ 401 := by omega
      obtain ⟨a7, c7, rfl, hS7, _, _⟩ := ownb_seq hown
      have HNow := Lib.hid hS7
      have HOwnq := Lib.hid hown
      have hqs := hq.out.1.size
      obtain ⟨La, Lc, Li, Lt⟩ := L
      dsimp only at t0 t1 h6
      have h6' : Li.length ≤ 6 := by omega
      have HInM : Hid (∀ x ∈ Li, 0 ≤ x ∧ x < (M : Int)) := Lib.hid (fun x hx => by have := hrng x hx; omega)
      obtain ⟨tv, htv⟩ : ∃ t, t = tabVal ⟨La, Lc, Li, Lt⟩ V := ⟨_, rfl⟩
      have HTv : Hid (Lt.toNat.testBit (rowB (pickB V Li)) = tv) := Lib.hid (by rw [htv, tabVal, rowB_pick])
      rw [← htv] at hsuc
      have HSuc := Lib.hid hsuc
      have HM := Lib.hid hM
      obtain ⟨q, hqq⟩ : ∃ q, q = wr.heap.size := ⟨_, rfl⟩
      have hqs' : w.heap.size + 1 ≤ q := by omega
      clear hLe hU hU1 hrng hown hV h6 htv hsuc hS7 hM
      go_wp2_with fail
      obtain ⟨W2, hW2⟩ : ∃ W2, W2 = wr.alloc (Obj.cells #[Value.slice La Li.length Lc, Value.int IntKind.u64 Lt] 41) := ⟨_, rfl⟩
      rw [← hW2, ← hqq]
      have hs2 : W2.heap.size = q + 1 := by rw [hW2, hqq]; simp
      have x4 : W2.cell? ⟨q, 1, none⟩ = some (.int .u64 Lt) := by rw [hW2, hqq]; simp
      have z4 : W2.cell? ⟨q, 0, none⟩ = some (.slice La Li.length Lc) := by rw [hW2, hqq]; simp
      have hbw2 : Below wr.heap.size wr W2 := by rw [hW2]; exact (Below.refl _ _).alloc (Nat.le_refl _) _
      have HSL2 := Lib.hid (HSL.out.below hbw2 (Nat.le_refl _))
      have HNow2 := Lib.hid (HNow.out.below hbw2 (Nat.le_refl _))
      have HBw2 := Lib.hid hbw2
      have HQ := Lib.hid hqq
      have hqw : wr.heap.size = q := hqq.symm
      clear hbw2 t0 t1 hW2 HSL HNow hqq
      refine wp_region_held_drew (S := fun w' => w'.cell? ⟨q, 0, none⟩ = some (.slice La Li.length Lc) ∧ w'.cell? ⟨q, 1, none⟩ = some (.int .u64 Lt)) (by kernel_rfl) (⟨z4, x4⟩) (fun hHeld => ?_)
      refine wpAnyH_take (i := 0) (v := ?_) (by simp only [List.getElem?_toArray, List.getElem?_cons_succ, List.getElem?_cons_zero]; rfl) (by kernel_rfl) (by kernel_rfl) (by kernel_rfl) (by intro _ _ _ h; exact h) (Or.inl ⟨by rfl, ?_⟩) (by assumption) ?_
      rotate_left
      · intro w hSw; (try dsimp only at hSw); go_simp; try with_reducible rfl
      try simp only [Act.put, List.setIfInBounds_toArray, List.set_cons_zero, List.set_cons_succ]
      refine wpAnyH_take (i := 1) (v := ?_) (by simp only [List.getElem?_toArray, List.getElem?_cons_succ, List.getElem?_cons_zero]; rfl) (by kernel_rfl) (by kernel_rfl) (by kernel_rfl) (by intro _ _ _ h; exact h) (Or.inl ⟨by rfl, ?_⟩) (by assumption) ?_
      rotate_left
      · intro w hSw; (try dsimp only at hSw); go_simp; try with_reducible rfl
      try simp only [Act.put, List.setIfInBounds_toArray, List.set_cons_zero, List.set_cons_succ]
      refine wpAnyH_take (i := 2) (v := ?_) (by simp only [List.getElem?_toArray, List.getElem?_cons_succ, List.getElem?_cons_zero]; rfl) (by kernel_rfl) (by kernel_rfl) (by kernel_rfl) (by intro _ _ _ h; exact h) (Or.inl ⟨by rfl, ?_⟩) (by assumption) ?_
      rotate_left
      · intro w hSw; (try dsimp only at hSw); go_simp; try with_reducible rfl
      try simp only [Act.put, List.setIfInBounds_toArray, List.set_cons_zero, List.set_cons_succ]
      refine wpAnyH_take (i := 3) (v := ?_) (by simp only [List.getElem?_toArray, List.getElem?_cons_succ, List.getElem?_cons_zero]; rfl) (by kernel_rfl) (by kernel_rfl) (by kernel_rfl) (by intro _ _ _ h; exact h) (Or.inl ⟨by rfl, ?_⟩) (by assumption) ?_
      rotate_left
      · intro w hSw; (try dsimp only at hSw); go_simp; try with_reducible rfl
      try simp only [Act.put, List.setIfInBounds_toArray, List.set_cons_zero, List.set_cons_succ]
      refine wpAnyH_take (i := 4) (v := ?_) (by simp only [List.getElem?_toArray, List.getElem?_cons_succ, List.getElem?_cons_zero]; rfl) (by kernel_rfl) (by kernel_rfl) (by kernel_rfl) (by intro _ _ _ h; exact h) (Or.inl ⟨by rfl, ?_⟩) (by assumption) ?_
      rotate_left
      · intro w hSw; (try dsimp only at hSw); go_simp; try with_reducible rfl
      try simp only [Act.put, List.setIfInBounds_toArray, List.set_cons_zero, List.set_cons_succ]
      refine wpAnyH_take (i := 5) (v := ?_) (by simp only [List.getElem?_toArray, List.getElem?_cons_succ, List.getElem?_cons_zero]; rfl) (by kernel_rfl) (by kernel_rfl) (by kernel_rfl) (by intro _ _ _ h; exact h) (Or.inl ⟨by rfl, ?_⟩) (by assumption) ?_
      rotate_left
      · intro w hSw; (try dsimp only at hSw); go_simp; try with_reducible rfl
      try simp only [Act.put, List.setIfInBounds_toArray, List.set_cons_zero, List.set_cons_succ]
      refine wpAnyH_ready (rs := [6]) (by kernel_rfl) (by simp) ?_
      refine AllReadyH.cons (o := _) (by simp only [List.getElem?_toArray, List.getElem?_cons_succ, List.getElem?_cons_zero]; rfl) (fun K hK => ?_) AllReadyH.nil
      go_simp
      go_at_call 68
      refine (pickBools _ a7 M c7 V (HNow2.out.below (Below.refl W2.heap.size W2).drew (Nat.le_refl _)) (by omega) La Li.length Lc Li rfl (by omega) (HSL2.out.below (Below.refl W2.heap.size W2).drew (Nat.le_refl _)) HInM.out).mono ?_
      rintro e w3 ⟨v3, rfl, hown3, hb3⟩
      have hB3 : Below W2.heap.size W2 w3 := (Below.refl _ _).drew.trans hb3
      have hs3 := hB3.size
      obtain ⟨a3, c3, rfl, hS3, _, _⟩ := ownb_seq hown3
      have hl3 : (pickB V Li).length = Li.length := List.length_map _
      rw [hl3] at hS3
      have HS3 := Lib.hid hS3
      rw [hl3]
      clear hS3 hown3
      go_simp
      refine hK.out _ _ (by exact ⟨(hB3.cell (p := ⟨_, _, none⟩) (by simp only; omega)).trans z4, (hB3.cell (p := ⟨_, _, none⟩) (by simp only; omega)).trans x4⟩) (fun hHeld => ?_)
      clear hK K
      try simp only [Act.put, List.setIfInBounds_toArray, List.set_cons_zero, List.set_cons_succ]
      refine wpAnyH_ready (rs := [7]) (by kernel_rfl) (by simp) ?_
      refine AllReadyH.cons (o := _) (by simp only [List.getElem?_toArray, List.getElem?_cons_succ, List.getElem?_cons_zero]; rfl) (fun K hK => ?_) AllReadyH.nil
      go_simp
      go_at_call 74
      refine (bit _ Lt HU1.out a3 _ c3 (pickB V Li) hl3 h6' HS3.out).mono ?_
      rintro e w4 ⟨rfl, hb4⟩
      have hB4 : Below W2.heap.size W2 w4 := hB3.trans (hb4.mono (by omega))
      have hs4 := hB4.size
      rw [HTv.out]
      go_simp
      refine hK.out _ _ (by exact ⟨(hB4.cell (p := ⟨_, _, none⟩) (by simp only; omega)).trans z4, (hB4.cell (p := ⟨_, _, none⟩) (by simp only; omega)).trans x4⟩) (fun hHeld => ?_)
      clear hK K
      try simp only [Act.put, List.setIfInBounds_toArray, List.set_cons_zero, List.set_cons_succ]
      refine wpAnyH_ready (rs := [8]) (by kernel_rfl) (by simp) ?_
      refine AllReadyH.cons (o := _) (by simp only [List.getElem?_toArray, List.getElem?_cons_succ, List.getElem?_cons_zero]; rfl) (fun K hK => ?_) AllReadyH.nil
      go_simp

      refine hK.out _ _ (by exact ⟨((hB4.alloc hs4 (Obj.cells #[Value.bool tv] 4)).cell (p := ⟨_, _, none⟩) (by simp only; omega)).trans z4, ((hB4.alloc hs4 (Obj.cells #[Value.bool tv] 4)).cell (p := ⟨_, _, none⟩) (by simp only; omega)).trans x4⟩) (fun hHeld => ?_)
      clear hK K
      try simp only [Act.put, List.setIfInBounds_toArray, List.set_cons_zero, List.set_cons_succ]
      refine wpAnyH_ready (rs := [9]) (by kernel_rfl) (by simp) ?_
      refine AllReadyH.cons (o := _) (by simp only [List.getElem?_toArray, List.getElem?_cons_succ, List.getElem?_cons_zero]; rfl) (fun K hK => ?_) AllReadyH.nil
      rw [if_pos (by rfl)]
      have hown4 : (w4.alloc (Obj.cells #[Value.bool tv] 4)).ownsRow (w.heap.size + 1) 4 1 (.slice a7 M c7) M (V.map Value.bool) := own_below HOwnq.out ((HBw2.out.trans (hB4.mono (by omega))).trans ((Below.refl _ _).alloc (by have := HBw2.out.size; omega) _))
      have hs8 : (w4.alloc (Obj.cells #[Value.bool tv] 4)).heap.size = w4.heap.size + 1 := by simp
      refine wp_append_own _ (.tmp 22) (.tmp 30) 37 rfl (w.heap.size + 1) 4 i0 (.bool false) 1 1 Try.underlying37 hi hz0 hz1 hz2 rfl (by decide) (.slice a7 M c7) M (V.map Value.bool) rfl hown4 ⟨w4.heap.size, 0, none⟩ 1 1 [.bool tv] rfl rfl ?_ (by simp [Value.oneCell']) (by unfold maxLen; omega) (by omega) (by omega) ?_
      · intro j u hj
        obtain ⟨rfl, rfl⟩ : j = 0 ∧ u = .bool tv := by
          cases j with
          | zero => simp at hj; exact ⟨rfl, hj.symm⟩
          | succ j => simp at hj
        rw [Addr.add_lit]
        simp
      intro v5 w5 hown5 hgrow5 _
      have hg7 : ∀ k, (Value.slice a7 M c7).ownBlock = some k → k < q := fun k e => by rw [HQ.out]; exact (HOwnq.out.lt k e).2
      have hb5 : Below (w.heap.size + 1) wr w5 := (HBw2.out.trans (hB4.mono (by omega))).mono (by omega) |>.trans (((Below.refl _ _).alloc (by omega) _).grown hgrow5 (by omega) (fun k e => (hown4.lt k e).1))
      have k5 : ∀ i, w5.cell? ⟨q, i, none⟩ = (w4.alloc (Obj.cells #[Value.bool tv] 4)).cell? ⟨q, i, none⟩ := fun i => World.cell?_of_block (hgrow5.block q (by omega) (fun e => by have := hg7 q e.symm; omega))
      refine hK.out _ _ (by
        have hB8 := hB4.alloc hs4 (Obj.cells #[Value.bool tv] 4)
        exact ⟨(k5 0).trans ((hB8.cell (p := ⟨_, _, none⟩) (by simp only; omega)).trans z4), (k5 1).trans ((hB8.cell (p := ⟨_, _, none⟩) (by simp only; omega)).trans x4)⟩) (fun hHeld => ?_)
      clear hK K
      try simp only [Act.put, List.setIfInBounds_toArray, List.set_cons_zero, List.set_cons_succ]
      refine wpAnyH_take (i := 10) (v := ?_) (by simp only [List.getElem?_toArray, List.getElem?_cons_succ, List.getElem?_cons_zero]; rfl) (by kernel_rfl) (by kernel_rfl) (by kernel_rfl) (by intro _ _ _ h; exact h) (Or.inl ⟨by rfl, ?_⟩) (by assumption) ?_
      rotate_left
      · intro w hSw; (try dsimp only at hSw); go_simp; try with_reducible rfl
      try simp only [Act.put, List.setIfInBounds_toArray, List.set_cons_zero, List.set_cons_succ]
      refine wpAnyH_done (by kernel_rfl) ?_ _
      go_wp2
      go_roundw
      case rel =>
        have hx := hq.out.1.step hb5 (Nat.le_refl _)
        refine ⟨i + 1, by omega, by go_num, Lib.hid ⟨hx, ?_⟩⟩
        rw [HSuc.out, List.map_append, show F0 + (i + 1) = M + 1 by rw [HM.out]; omega]
        exact hown5
      case measure => simp [intOf]; omega
    · obtain rfl : i = luts.length := by omega
      go_wp2
      go_ret
      refine ⟨_, rfl, ?_, hq.out.1.below⟩
      have h2 := hq.out.2
      rw [valTo_length, HVl.out]
      exact h2.base_le (by omega)

/-- Whether lutmap.Nodes tells values. -/
structure NodesOk (N : NetV) (n1 n2 : Nat) : Prop where
  net : NetOk N 6
  inn : (n1 : Int) = N.ins
  st : n2 = N.holds.length

/-- What lutmap.Nodes hands back. -/
def NewNodes (w : World) (l : List Bool) (c : Int) (e : Ending) (w' : World) : Prop :=
  ∃ v, e = .returned (.tuple #[v, .int .i64 c]) ∧ w'.ownsRow w.heap.size 4 1 v l.length (l.map Value.bool) ∧ Below w.heap.size w w'

end Go.Proofs.Ytibimdhmfchcoaa

/- T30 -/
namespace Go.Proofs.Ytibimdhmfchcoaa
open Go.RowKit
set_option linter.unusedVariables false
set_option linter.unusedSimpArgs false

open Classical in
noncomputable def nodesO (N : NetV) (inn st : List Bool) : List Bool := if NodesOk N inn.length st.length then valTo N (v0Of inn st) N.luts.length else []
open Classical in
noncomputable def nodesE (N : NetV) (inn st : List Bool) : Int := if NodesOk N inn.length st.length then 0 else 1

set_option maxRecDepth 100000 in
set_option maxHeartbeats 4000000 in
theorem nodes (w : World) (N : NetV) (h : NetAt w N) (f : Few N) (a1 a2 : Option Addr) (c1 c2 : Nat) (inn st : List Bool) (S1 : Seq w a1 inn.length (bools inn)) (S2 : Seq w a2 st.length (bools st)) (b1 : inn.length ≤ 300) (b2 : st.length ≤ 300) :
    Calls Try.prog 53 #[N.val, .slice a1 inn.length c1, .slice a2 st.length c2] w (NewNodes w (nodesO N inn st) (nodesE N inn st)) := by
  have H := Lib.hid h
  have HF := Lib.hid f
  have HS1 := Lib.hid S1
  have HS2 := Lib.hid S2
  have hb := Box.start w N
  have HBX := Lib.hid hb
  have hf0 := f.ins
  have hf1 := f.holds
  have hf2 := f.luts
  have hI := h.insR
  by_cases ok : NodesOk N inn.length st.length
  · have C := fun W (hW : Below w.heap.size w W) => check W N (h.below hW (Nat.le_refl _)) f 6 (by omega)
    rw [show chk N 6 = 0 from if_pos ok.net] at C
    have V := fun W (hW : Below w.heap.size w W) => values W N (h.below hW (Nat.le_refl _)) f ok.net a1 a2 c1 c2 inn st (S1.below hW (Nat.le_refl _)) (S2.below hW (Nat.le_refl _)) ok.inn ok.st
    rw [nodesO, if_pos ok, nodesE, if_pos ok]
    obtain ⟨R, hR⟩ : ∃ R, R = valTo N (v0Of inn st) N.luts.length := ⟨_, rfl⟩
    rw [← hR] at V ⊢
    have hi := ok.inn
    have hs := ok.st
    obtain ⟨n1, hn1⟩ : ∃ n, n = inn.length := ⟨_, rfl⟩
    obtain ⟨n2, hn2⟩ : ∃ n, n = st.length := ⟨_, rfl⟩
    rw [← hn1, ← hn2] at V ⊢
    rw [← hn1] at hi
    rw [← hn2] at hs
    have h1b : ((n1 : Int) != N.ins) = false := by rw [bne_eq_false_iff_eq]; exact hi
    have h2b : ((n2 : Int) != N.holds.length) = false := by rw [bne_eq_false_iff_eq]; omega
    have HC := Lib.hid C
    have HV := Lib.hid V
    clear C V hR ok S1 S2 h f hb hn1 hn2 hi hs
    go_enter Try.func53, Try.ntmps53
    go_wp2_with fail
    refine (HC.out _ HBX.out.below).mono ?_
    rintro e w1 ⟨rfl, hb1⟩
    have hbx := HBX.out.step hb1 HBX.out.size
    have HBx := Lib.hid hbx
    have k0 := hbx.c0
    have k1 := hbx.c1
    have k2 := hbx.c2
    have k3 := hbx.c3
    clear hbx hb1
    go_wp2_with fail
    refine (HV.out _ HBx.out.below).mono ?_
    rintro e w2 ⟨v, rfl, hown, hb2⟩
    have HO := Lib.hid (hown.base_le (base' := w.heap.size) (by have := HBx.out.size; omega))
    have HB2 := Lib.hid (HBx.out.below.trans (hb2.mono (by have := HBx.out.size; omega)))
    clear hown hb2
    go_wp2
    go_ret2
    exact ⟨_, rfl, HO.out, HB2.out⟩
  · have C := fun W (hW : Below w.heap.size w W) => check W N (h.below hW (Nat.le_refl _)) f 6 (by omega)
    rw [nodesO, if_neg ok, nodesE, if_neg ok]
    obtain ⟨n1, hn1⟩ : ∃ n, n = inn.length := ⟨_, rfl⟩
    obtain ⟨n2, hn2⟩ : ∃ n, n = st.length := ⟨_, rfl⟩
    rw [← hn1, ← hn2] at ok ⊢
    have HOk := Lib.hid ok
    rcases chk_cases N 6 with ⟨hc, nok⟩ | ⟨hc, nok⟩
    · rw [hc] at C
      have HC := Lib.hid C
      have hn : n1 ≤ 300 ∧ n2 ≤ 300 := by omega
      by_cases h1 : (n1 : Int) = N.ins
      · have h2 : n2 ≠ N.holds.length := fun h2 => ok ⟨nok, h1, h2⟩
        have h1b : ((n1 : Int) != N.ins) = false := by rw [bne_eq_false_iff_eq]; exact h1
        have h2b : ((n2 : Int) != N.holds.length) = true := by rw [bne_iff_ne]; omega
        clear C S1 S2 h f hb hn1 hn2 ok nok hc h1 h2
        go_enter Try.func53, Try.ntmps53
        go_wp2_with fail
        refine (HC.out _ HBX.out.below).mono ?_
        rintro e w1 ⟨rfl, hb1⟩
        have hbx := HBX.out.step hb1 HBX.out.size
        have HBx := Lib.hid hbx
        have k0 := hbx.c0
        have k1 := hbx.c1
        clear hbx hb1
        go_wp2
        go_ret2
        exact ⟨_, rfl, World.ownsRow_nil _ _ _ _, HBx.out.below⟩
      · have h1b : ((n1 : Int) != N.ins) = true := by rw [bne_iff_ne]; exact h1
        clear C S1 S2 h f hb hn1 hn2 ok nok hc h1
        go_enter Try.func53, Try.ntmps53
        go_wp2_with fail
        refine (HC.out _ HBX.out.below).mono ?_
        rintro e w1 ⟨rfl, hb1⟩
        have hbx := HBX.out.step hb1 HBX.out.size
        have HBx := Lib.hid hbx
        have k0 := hbx.c0
        have k1 := hbx.c1
        clear hbx hb1
        go_wp2
        go_ret2
        exact ⟨_, rfl, World.ownsRow_nil _ _ _ _, HBx.out.below⟩
    · rw [hc] at C
      have HC := Lib.hid C
      clear C S1 S2 h f hb hn1 hn2 ok nok hc
      go_enter Try.func53, Try.ntmps53
      go_wp2_with fail
      refine (HC.out _ HBX.out.below).mono ?_
      rintro e w1 ⟨rfl, hb1⟩
      have HBx := Lib.hid (HBX.out.step hb1 HBX.out.size)
      clear hb1
      go_wp2
      go_ret2
      exact ⟨_, rfl, World.ownsRow_nil _ _ _ _, HBx.out.below⟩
end Go.Proofs.Ytibimdhmfchcoaa
