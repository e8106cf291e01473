import Derived.Test.YtibimdhmfchcoaaG3
namespace Go.Proofs.Ytibimdhmfchcoaa
open Go.RowKit Go.Shelf Go.Maps
set_option linter.unusedVariables false
set_option linter.unusedSimpArgs false
set_option maxRecDepth 100000 in
set_option maxHeartbeats 8000000 in
theorem packPlays (w : World) (P : PackV) (h : PackAt w P) (a0 : Option Addr) (c0 : Nat) (is : List RowV) (h0 : RowsAt w a0 is) :
    Calls Try.prog 12 #[P.val, .slice a0 is.length c0] w fun e w' => e = .returned (.bool true) ∧ Below w.heap.size w w' := by
  have HX := Lib.hid (PBox.start w P)
  have H := Lib.hid h
  have HI := Lib.hid h0
  clear h h0
  obtain ⟨fb, hfb⟩ : ∃ b, b = fewPB P := ⟨_, rfl⟩
  have HFb := Lib.hid hfb
  clear hfb
  obtain ⟨m, hm⟩ : ∃ m, m = is.length := ⟨_, rfl⟩
  have hml := HI.out.len
  rw [← hm] at hml ⊢
  have HMi := Lib.hid hm
  clear hm
  go_enter Try.func12, Try.ntmps12
  go_wp2_with fail
  refine (live14 _).mono ?_
  rintro e w1 ⟨rfl, hb1⟩
  have hx1 := HX.out.step hb1 (by simp)
  have HX1 := Lib.hid hx1
  have k0 := hx1.c0
  have k1 := hx1.c1
  have k2 := hx1.c2
  clear hb1 hx1
  go_wp2_with fail
  refine (few28 w1 P (H.out.below HX1.out.below (Nat.le_refl _))).mono ?_
  rintro e w2 ⟨rfl, hb2⟩
  rw [← HFb.out]
  have hx2 := HX1.out.step hb2 HX1.out.size
  have HX2 := Lib.hid hx2
  have m0 := hx2.c0
  have m1 := hx2.c1
  have m2 := hx2.c2
  clear hb2 hx2
  cases fb
  · go_wp2_with fail
    go_ret
    exact ⟨rfl, HX2.out.below⟩
  obtain ⟨fr, hfr⟩ : ∃ b, b = fewRowsB (rowsL is) := ⟨_, rfl⟩
  have HFr := Lib.hid hfr
  clear hfr k0 k1 k2
  go_wp2_with fail
  refine Calls.mono (fewRows24 w2 a0 m c0 is HMi.out (HI.out.below HX2.out.below (Nat.le_refl _))) ?_
  rintro e w3 ⟨rfl, hb3⟩
  rw [← HFr.out]
  have hx3 := HX2.out.step hb3 HX2.out.size
  have HX3 := Lib.hid hx3
  have n0 := hx3.c0
  have n1 := hx3.c1
  have n2 := hx3.c2
  clear hb3 hx3 m0 m1 m2
  cases fr
  · go_wp2_with fail
    go_ret
    exact ⟨rfl, HX3.out.below⟩
  have HF := Lib.hid ((fewPB_iff P).1 HFb.out.symm)
  have C25 := run25 w3 P (H.out.below HX3.out.below (Nat.le_refl _)) HF.out a0 c0 is (HI.out.below HX3.out.below (Nat.le_refl _)) HFr.out.symm
  rw [← HMi.out] at C25
  have HC25 := Lib.hid C25
  obtain ⟨E, hE⟩ : ∃ E, E = runE P.data (rowsL is) := ⟨_, rfl⟩
  have HE := Lib.hid hE
  clear C25 hE
  go_wp2_with fail
  refine Calls.mono HC25.out ?_
  rintro e w4 ⟨a1, c1, r1, rfl, ho1, hr1, hb4⟩
  rw [← HE.out]
  have hx4 := HX3.out.step hb4 HX3.out.size
  have HX4 := Lib.hid hx4
  have k0 := hx4.c0
  have k1 := hx4.c1
  have k2 := hx4.c2
  have HR1 := Lib.hid hr1
  have HO1 := Lib.hid ho1
  have C36 := run36 w4 P (H.out.below HX4.out.below (Nat.le_refl _)) HF.out a0 c0 is (HI.out.below HX4.out.below (Nat.le_refl _)) HFr.out.symm
  rw [← HMi.out] at C36
  have HC36 := Lib.hid C36
  obtain ⟨l1, hl1⟩ : ∃ n, n = r1.length := ⟨_, rfl⟩
  rw [← hl1]
  have HL1 := Lib.hid hl1
  clear hb4 hx4 hr1 ho1 C36 hl1 n0 n1 n2
  go_wp2_with fail
  refine Calls.mono HC36.out ?_
  rintro e w5 ⟨a2, c2, r2, rfl, ho2, hr2, hb5⟩
  rw [← HE.out]
  have hx5 := HX4.out.step hb5 HX4.out.size
  have HX5 := Lib.hid hx5
  have HR2 := Lib.hid hr2
  have HO2 := Lib.hid ho2
  have HR1' := Lib.hid (HR1.out.below hb5 (Nat.le_refl _))
  obtain ⟨l2, hl2⟩ : ∃ n, n = r2.length := ⟨_, rfl⟩
  rw [← hl2]
  have HL2 := Lib.hid hl2
  have hq1 := HR1.out.len
  have hq2 := HR2.out.len
  rw [← HL1.out] at hq1
  rw [← HL2.out] at hq2
  clear hb5 hx5 hr2 ho2 hl2 k0 k1 k2
  go_wp2_with fail
  refine Calls.mono (sameRows w5 a1 a2 l1 l2 c1 c2 r1 r2 HL1.out HL2.out HR1'.out HR2.out) ?_
  rintro e w6 ⟨rfl, hb6⟩
  rw [show decide (rowsL r1 = rowsL r2) = true from decide_eq_true (by rw [HO1.out, HO2.out])]
  have hx6 := HX5.out.step hb6 HX5.out.size
  have HX6 := Lib.hid hx6
  clear hb6 hx6
  go_wp2_with fail
  go_ret
  exact ⟨by simp, HX6.out.below⟩
end Go.Proofs.Ytibimdhmfchcoaa
