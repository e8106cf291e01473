import Derived.Test.YtkcilpkcjhnkaaaT29
namespace Go.Proofs.Ytkcilpkcjhnkaaa
open Go.RowKit
set_option linter.unusedVariables false
set_option linter.unusedSimpArgs false

open Classical in
noncomputable def nodesO (N : NetV) (inn st : List Bool) : List Bool := if NodesOk N inn.length st.length then valTo N (v0Of inn st) N.luts.length else []
open Classical in
noncomputable def nodesE (N : NetV) (inn st : List Bool) : Int := if NodesOk N inn.length st.length then 0 else 1

set_option maxRecDepth 100000 in
set_option maxHeartbeats 4000000 in
theorem nodes (w : World) (N : NetV) (h : NetAt w N) (f : Few N) (a1 a2 : Option Addr) (c1 c2 : Nat) (inn st : List Bool) (S1 : Seq w a1 inn.length (bools inn)) (S2 : Seq w a2 st.length (bools st)) (b1 : inn.length ≤ 300) (b2 : st.length ≤ 300) :
    Calls Try.prog 28 #[N.val, .slice a1 inn.length c1, .slice a2 st.length c2] w (NewNodes w (nodesO N inn st) (nodesE N inn st)) := by
  have H := Lib.hid h
  have HF := Lib.hid f
  have HS1 := Lib.hid S1
  have HS2 := Lib.hid S2
  have hb := Box.start w N
  have HBX := Lib.hid hb
  have hf0 := f.ins
  have hf1 := f.holds
  have hf2 := f.luts
  have hI := h.insR
  by_cases ok : NodesOk N inn.length st.length
  · have C := fun W (hW : Below w.heap.size w W) => check W N (h.below hW (Nat.le_refl _)) f 6 (by omega)
    rw [show chk N 6 = 0 from if_pos ok.net] at C
    have V := fun W (hW : Below w.heap.size w W) => values W N (h.below hW (Nat.le_refl _)) f ok.net a1 a2 c1 c2 inn st (S1.below hW (Nat.le_refl _)) (S2.below hW (Nat.le_refl _)) ok.inn ok.st
    rw [nodesO, if_pos ok, nodesE, if_pos ok]
    obtain ⟨R, hR⟩ : ∃ R, R = valTo N (v0Of inn st) N.luts.length := ⟨_, rfl⟩
    rw [← hR] at V ⊢
    have hi := ok.inn
    have hs := ok.st
    obtain ⟨n1, hn1⟩ : ∃ n, n = inn.length := ⟨_, rfl⟩
    obtain ⟨n2, hn2⟩ : ∃ n, n = st.length := ⟨_, rfl⟩
    rw [← hn1, ← hn2] at V ⊢
    rw [← hn1] at hi
    rw [← hn2] at hs
    have h1b : ((n1 : Int) != N.ins) = false := by rw [bne_eq_false_iff_eq]; exact hi
    have h2b : ((n2 : Int) != N.holds.length) = false := by rw [bne_eq_false_iff_eq]; omega
    have HC := Lib.hid C
    have HV := Lib.hid V
    clear C V hR ok S1 S2 h f hb hn1 hn2 hi hs
    go_enter Try.func28, Try.ntmps28
    go_wp2_with fail
    refine (HC.out _ HBX.out.below).mono ?_
    rintro e w1 ⟨rfl, hb1⟩
    have hbx := HBX.out.step hb1 HBX.out.size
    have HBx := Lib.hid hbx
    have k0 := hbx.c0
    have k1 := hbx.c1
    have k2 := hbx.c2
    have k3 := hbx.c3
    clear hbx hb1
    go_wp2_with fail
    refine (HV.out _ HBx.out.below).mono ?_
    rintro e w2 ⟨v, rfl, hown, hb2⟩
    have HO := Lib.hid (hown.base_le (base' := w.heap.size) (by have := HBx.out.size; omega))
    have HB2 := Lib.hid (HBx.out.below.trans (hb2.mono (by have := HBx.out.size; omega)))
    clear hown hb2
    go_wp2
    go_ret2
    exact ⟨_, rfl, HO.out, HB2.out⟩
  · have C := fun W (hW : Below w.heap.size w W) => check W N (h.below hW (Nat.le_refl _)) f 6 (by omega)
    rw [nodesO, if_neg ok, nodesE, if_neg ok]
    obtain ⟨n1, hn1⟩ : ∃ n, n = inn.length := ⟨_, rfl⟩
    obtain ⟨n2, hn2⟩ : ∃ n, n = st.length := ⟨_, rfl⟩
    rw [← hn1, ← hn2] at ok ⊢
    have HOk := Lib.hid ok
    rcases chk_cases N 6 with ⟨hc, nok⟩ | ⟨hc, nok⟩
    · rw [hc] at C
      have HC := Lib.hid C
      have hn : n1 ≤ 300 ∧ n2 ≤ 300 := by omega
      by_cases h1 : (n1 : Int) = N.ins
      · have h2 : n2 ≠ N.holds.length := fun h2 => ok ⟨nok, h1, h2⟩
        have h1b : ((n1 : Int) != N.ins) = false := by rw [bne_eq_false_iff_eq]; exact h1
        have h2b : ((n2 : Int) != N.holds.length) = true := by rw [bne_iff_ne]; omega
        clear C S1 S2 h f hb hn1 hn2 ok nok hc h1 h2
        go_enter Try.func28, Try.ntmps28
        go_wp2_with fail
        refine (HC.out _ HBX.out.below).mono ?_
        rintro e w1 ⟨rfl, hb1⟩
        have hbx := HBX.out.step hb1 HBX.out.size
        have HBx := Lib.hid hbx
        have k0 := hbx.c0
        have k1 := hbx.c1
        clear hbx hb1
        go_wp2
        go_ret2
        exact ⟨_, rfl, World.ownsRow_nil _ _ _ _, HBx.out.below⟩
      · have h1b : ((n1 : Int) != N.ins) = true := by rw [bne_iff_ne]; exact h1
        clear C S1 S2 h f hb hn1 hn2 ok nok hc h1
        go_enter Try.func28, Try.ntmps28
        go_wp2_with fail
        refine (HC.out _ HBX.out.below).mono ?_
        rintro e w1 ⟨rfl, hb1⟩
        have hbx := HBX.out.step hb1 HBX.out.size
        have HBx := Lib.hid hbx
        have k0 := hbx.c0
        have k1 := hbx.c1
        clear hbx hb1
        go_wp2
        go_ret2
        exact ⟨_, rfl, World.ownsRow_nil _ _ _ _, HBx.out.below⟩
    · rw [hc] at C
      have HC := Lib.hid C
      clear C S1 S2 h f hb hn1 hn2 ok nok hc
      go_enter Try.func28, Try.ntmps28
      go_wp2_with fail
      refine (HC.out _ HBX.out.below).mono ?_
      rintro e w1 ⟨rfl, hb1⟩
      have HBx := Lib.hid (HBX.out.step hb1 HBX.out.size)
      clear hb1
      go_wp2
      go_ret2
      exact ⟨_, rfl, World.ownsRow_nil _ _ _ _, HBx.out.below⟩
end Go.Proofs.Ytkcilpkcjhnkaaa
