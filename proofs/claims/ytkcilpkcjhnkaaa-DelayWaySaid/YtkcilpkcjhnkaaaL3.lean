import Derived.Test.YtkcilpkcjhnkaaaT14
namespace Go.Proofs.Ytkcilpkcjhnkaaa
open Go.RowKit
set_option linter.unusedVariables false

theorem levE_cases (N : NetV) : levE N = 0 ∨ (levE N = 1 ∧ levO N = []) := by
  unfold levE levO arrE arrO
  split
  · exact .inl rfl
  · exact .inr ⟨rfl, rfl⟩

set_option maxHeartbeats 2000000 in
theorem delayDeep (w : World) (N : NetV) (h : NetAt w N) :
    Calls Try.prog 5 #[N.val] w fun e w' => e = .returned (.bool true) ∧ Below w.heap.size w w' := by
  have HBX := Lib.hid (Box.start w N)
  have H := Lib.hid h
  clear h
  obtain ⟨fb, hfb⟩ : ∃ b, b = fewB N := ⟨_, rfl⟩
  have HF := Lib.hid hfb
  clear hfb
  go_enter Try.func5, Try.ntmps5
  go_wp2_with fail
  refine (live _).mono ?_
  rintro e w1 ⟨rfl, hb1⟩
  have hbx := HBX.out.step hb1 (by simp)
  have HBx := Lib.hid hbx
  have c0 := hbx.c0
  have c1 := hbx.c1
  have c2 := hbx.c2
  have c3 := hbx.c3
  clear hbx hb1
  go_wp2_with fail
  have hC := fewNet w1 N (H.out.below HBx.out.below (Nat.le_refl _))
  rw [← HF.out] at hC
  refine hC.mono ?_
  rintro e w2 ⟨rfl, hb2⟩
  have hbx := HBx.out.step hb2 HBx.out.size
  have HBx2 := Lib.hid hbx
  have d0 := hbx.c0
  have d1 := hbx.c1
  have d2 := hbx.c2
  have d3 := hbx.c3
  have hs2 := hbx.size
  clear hbx hb2 c0 c1 c2 c3 hC
  cases fb
  · go_wp2
    go_ret
    exact ⟨ret_bool (by simp), HBx2.out.below⟩
  · have F := few_of N HF.out.symm
    have hAl := arrO_length N (List.replicate N.luts.length 1) F
    have hl2 := F.luts
    have hEc := levE_cases N
    obtain ⟨A, hA⟩ : ∃ A, A = levO N := ⟨_, rfl⟩
    obtain ⟨E, hE⟩ : ∃ E, E = levE N := ⟨_, rfl⟩
    rw [show arrO N (List.replicate N.luts.length 1) = A from hA.symm] at hAl
    rw [← hA, ← hE] at hEc
    have HFw := Lib.hid F
    have HA := Lib.hid hA
    have HE := Lib.hid hE
    have HEc := Lib.hid hEc
    clear F hA hE hEc
    go_wp2_with fail
    go_region_held3 (fun w' => w'.cell? ⟨w.heap.size, 0, none⟩ = some (.int .i64 N.ins) ∧ w'.cell? ⟨w.heap.size, 1, none⟩ = some (Value.slice N.ha N.holds.length N.hc) ∧ w'.cell? ⟨w.heap.size, 2, none⟩ = some (Value.slice N.la N.luts.length N.lc) ∧ w'.cell? ⟨w.heap.size, 3, none⟩ = some (Value.slice N.oa N.outs.length N.oc))
      (first | exact ⟨d0, d1, d2, d3⟩ | exact ⟨(hk4 _).trans d0, (hk4 _).trans d1, (hk4 _).trans d2, (hk4 _).trans d3⟩ | exact ⟨(hk3 _).trans d0, (hk3 _).trans d1, (hk3 _).trans d2, (hk3 _).trans d3⟩)
      (first | (go_at_call 19; refine (units _ N hl2).mono ?_; rintro e w3 ⟨v3, rfl, hown3, hb3⟩; obtain ⟨ua, uc, rfl, hU, _, _⟩ := owns_seq hown3; rw [List.length_replicate] at hU ⊢; have hs3 : w2.heap.size ≤ w3.heap.size := hb3.size; have hk3 : ∀ i, w3.cell? ⟨w.heap.size, i, none⟩ = w2.cell? ⟨w.heap.size, i, none⟩ := (fun i => hb3.cell (p := ⟨w.heap.size, i, none⟩) (by show w.heap.size < w2.heap.size; omega)); have hbx3 := HBx2.out.step (C := w2.heap.size) ((Below.refl _ _).drew.trans hb3) hs2)
             | (go_at_call 15; refine (arrive _ N (H.out.below hbx3.below (Nat.le_refl _)) HFw.out ua N.luts.length uc (List.replicate N.luts.length 1) (List.length_replicate ..) (by omega) hU).mono ?_; rintro e w4 ⟨v4, rfl, hown4, hb4⟩; obtain ⟨va, vc, rfl, hV, _, _⟩ := owns_seq hown4; have hk4 : ∀ i, w4.cell? ⟨w.heap.size, i, none⟩ = w2.cell? ⟨w.heap.size, i, none⟩ := (fun i => (hb4.cell (p := ⟨w.heap.size, i, none⟩) (by show w.heap.size < w3.heap.size; omega)).trans (hk3 i))))
    have HBx4 := Lib.hid (hbx3.step hb4 hbx3.size)
    rw [show arrO N (List.replicate N.luts.length 1) = A from HA.out.symm, show arrE N (List.replicate N.luts.length 1) = E from HE.out.symm] at *
    have HV := Lib.hid hV
    clear hb3 hb4 hown3 hown4 hU hV hk3 hbx3
    have f0 := HBx4.out.c0
    have f1 := HBx4.out.c1
    have f2 := HBx4.out.c2
    have f3 := HBx4.out.c3
    clear d0 d1 d2 d3 hk4
    go_wp2_with fail
    have hC := levels w4 N (H.out.below HBx4.out.below (Nat.le_refl _)) HFw.out
    rw [← HA.out, ← HE.out] at hC
    refine hC.mono ?_
    rintro e w5 ⟨v5, rfl, hown5, hb5⟩
    obtain ⟨ta, tc, rfl, hT, _, _⟩ := owns_seq hown5
    have HBx5 := Lib.hid (HBx4.out.step hb5 HBx4.out.size)
    have HV5 := Lib.hid (HV.out.below hb5 (Nat.le_refl _))
    have HT := Lib.hid hT
    clear hC hown5 hb5 hT f0 f1 f2 f3
    rcases HEc.out with hE0 | ⟨hE1, hA0⟩
    · subst hE0
      go_wp2_with fail
      have hC := sameInts w5 va ta A.length vc A.length tc A A rfl rfl (by omega) (by omega) HV5.out HT.out
      rw [decide_eq_true (rfl : A = A)] at hC
      refine hC.mono ?_
      rintro e w6 ⟨rfl, hb6⟩
      have HB6 := Lib.hid (HBx5.out.below.trans (hb6.mono (by have := HBx5.out.size; omega)))
      clear hb6 hC
      go_wp2
      go_ret
      exact ⟨ret_bool (by simp), HB6.out⟩
    · subst hE1
      subst hA0
      simp only [List.length_nil]
      go_wp2
      go_ret
      exact ⟨ret_bool (by simp), HBx5.out.below⟩
end Go.Proofs.Ytkcilpkcjhnkaaa
