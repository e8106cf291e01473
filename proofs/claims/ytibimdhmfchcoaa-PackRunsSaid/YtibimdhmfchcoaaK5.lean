/- Blocks tell, tick by tick, what the net tells of which they are made. -/
import Derived.Test.YtibimdhmfchcoaaS6
import Derived.Test.YtibimdhmfchcoaaR6
import Derived.Test.YtibimdhmfchcoaaK3
namespace Go.Proofs.Ytibimdhmfchcoaa
open Go.RowKit Go.Shelf Go.Maps
set_option linter.unusedVariables false
set_option linter.unusedSimpArgs false

def emptyP : PackV := ⟨0, none, 0, [], none, 0, []⟩
theorem emptyP_at (w : World) : PackAt w emptyP :=
  ⟨⟨by show (-9223372036854775808 : Int) ≤ 0; omega, by show (0 : Int) ≤ _; omega⟩, .inl rfl, .inl rfl, fun b hb => by simp [emptyP] at hb, fun x hx => by simp [emptyP] at hx, by simp [emptyP], by simp [emptyP]⟩
theorem net_more {N : NetV} (h : NetOk N 4) : NetOk N 6 :=
  ⟨h.ins0, fun i hi => ⟨by have := (h.lut i hi).len; omega, (h.lut i hi).tab, (h.lut i hi).ins⟩, h.outs, h.holds⟩

set_option maxRecDepth 100000 in
set_option maxHeartbeats 8000000 in
theorem packRuns (w : World) (N : NetV) (hN : NetAt w N) (a0 : Option Addr) (c0 : Nat) (is : List RowV) (h0 : RowsAt w a0 is) : Calls Try.prog 6 #[N.val, .slice a0 is.length c0] w fun e w' => e = .returned (.bool true) ∧ Below w.heap.size w w' := by
  have HNet := Lib.hid hN
  have HI := Lib.hid h0
  clear hN h0
  obtain ⟨m, hm⟩ : ∃ m, m = is.length := ⟨_, rfl⟩
  have hml := HI.out.len
  rw [← hm] at hml ⊢
  have HMi := Lib.hid hm
  clear hm
  go_enter Try.func6, Try.ntmps6
  go_wp2_with fail
  refine (live14 _).mono ?_
  rintro e w1 ⟨rfl, hb⟩
  have hx := (Box.start w N).step hb (by simp)
  have b0 := hx.c0
  have b1 := hx.c1
  have b2 := hx.c2
  have b3 := hx.c3
  have HX := Lib.hid hx
  clear hx hb
  go_wp2_with fail
  refine (fewNet _ N (HNet.out.below HX.out.below (Nat.le_refl _))).mono ?_
  rintro e w2 ⟨rfl, hb⟩
  have hx := HX.out.step hb HX.out.size
  have b0 := hx.c0
  have b1 := hx.c1
  have b2 := hx.c2
  have b3 := hx.c3
  have HX2 := Lib.hid hx
  clear hx hb
  obtain ⟨fb, hfb⟩ : ∃ b, b = fewB N := ⟨_, rfl⟩
  rw [← hfb]
  have HFb := Lib.hid hfb
  clear hfb
  cases fb
  · go_wp2
    go_ret
    exact ⟨rfl, HX2.out.below⟩
  have HF := Lib.hid (few_of N HFb.out.symm)
  obtain ⟨fr, hfr⟩ : ∃ b, b = fewRowsB (rowsL is) := ⟨_, rfl⟩
  have HFr := Lib.hid hfr
  clear hfr
  go_wp2_with fail
  refine Calls.mono (fewRows24 w2 a0 m c0 is HMi.out (HI.out.below HX2.out.below (Nat.le_refl _))) ?_
  rintro e w2' ⟨rfl, hb⟩
  rw [← HFr.out]
  have hx := HX2.out.step hb HX2.out.size
  have b0 := hx.c0
  have b1 := hx.c1
  have b2 := hx.c2
  have b3 := hx.c3
  have HX2 := Lib.hid hx
  clear hx hb
  cases fr
  · go_wp2_with fail
    go_ret
    exact ⟨rfl, HX2.out.below⟩
  go_wp2_with fail
  refine (packs _ N (HNet.out.below HX2.out.below (Nat.le_refl _)) HF.out).mono ?_
  rintro e w3 (⟨hok, P, hi, hbd, ho, rfl, hr, hb⟩ | ⟨hno, rfl, hb⟩)
  · have hx := HX2.out.step hb HX2.out.size
    have b0 := hx.c0
    have b1 := hx.c1
    have b2 := hx.c2
    have b3 := hx.c3
    have HX3 := Lib.hid hx
    have hpa := pack_at hok HF.out hi HNet.out.insR hbd ho hr
    have HFp := Lib.hid (pack_few hok HF.out hi hbd ho)
    have hdat := pack_data hi hbd ho
    obtain ⟨hs1, hs2⟩ := run_same N hok HF.out (rowsL is)
    have hlt3 : w.heap.size < w3.heap.size := World.block_lt_of_cell? w3 _ b0
    have hpbel : ∀ W, Below w3.heap.size w3 W → PackAt W P := fun W hW => hpa.below hW (Nat.le_refl _)
    obtain ⟨w4, hw4⟩ : ∃ W, W = w3.alloc (.cells #[.int .i64 P.ins, .slice P.ba P.bs.length P.bc, .slice P.oa P.os.length P.oc] 31) := ⟨_, rfl⟩
    have hb4 : Below w3.heap.size w3 w4 := by rw [hw4]; exact (Below.refl _ _).alloc (Nat.le_refl _) _
    have hX4 : Below w.heap.size w w4 := HX3.out.below.trans (hb4.mono (by omega))
    have C25 := run25 w4 P (hpbel _ hb4) HFp.out a0 c0 is (HI.out.below hX4 (Nat.le_refl _)) HFr.out.symm
    rw [← HMi.out, hdat] at C25
    obtain ⟨E, hE⟩ : ∃ E, E = netRE N (rowsL is) := ⟨_, rfl⟩
    obtain ⟨RO, hRO⟩ : ∃ E, E = netRO N (rowsL is) := ⟨_, rfl⟩
    have HX4 := Lib.hid (hx.step hb4 (by omega))
    have HC25 := Lib.hid C25
    have HE := Lib.hid hE
    have HRO := Lib.hid hRO
    have HS1 := Lib.hid hs1
    have HS2 := Lib.hid hs2
    have HW4 := Lib.hid hw4
    have HOk := Lib.hid hok
    clear hx hb hpa hdat hs1 hs2 hw4 hb4 hX4 C25 hE hRO hr hbd ho hi hok hpbel
    go_wp2_with fail
    rw [← HW4.out]
    refine Calls.mono HC25.out ?_
    rintro e w5 ⟨a1, c1, r1, rfl, ho1, hr1, hb5⟩
    rw [HS1.out, ← HE.out]
    rw [HS2.out, ← HRO.out] at ho1
    have hx5 := HX4.out.step hb5 HX4.out.size
    have k0 := hx5.c0
    have k1 := hx5.c1
    have k2 := hx5.c2
    have k3 := hx5.c3
    have HX5 := Lib.hid hx5
    have HR1 := Lib.hid hr1
    have HO1 := Lib.hid ho1
    have hr200 := (few_rows HFr.out.symm).2
    have hm30 := (few_rows HFr.out.symm).1
    have C26 := run26 w5 N (HNet.out.below HX5.out.below (Nat.le_refl _)) HF.out (net_more HOk.out) a0 c0 is (HI.out.below HX5.out.below (Nat.le_refl _)) (by simp [rowsL] at hm30; omega) hr200
    rw [← HMi.out, ← HE.out, ← HRO.out] at C26
    have HC26 := Lib.hid C26
    obtain ⟨l1, hl1⟩ : ∃ n, n = r1.length := ⟨_, rfl⟩
    rw [← hl1]
    have HL1 := Lib.hid hl1
    clear hb5 hx5 hr1 ho1 C26 hl1 hr200 hm30
    go_wp2_with fail
    refine Calls.mono HC26.out ?_
    rintro e w6 ⟨a2, c2, r2, rfl, ho2, hr2, hb6⟩
    have hx6 := HX5.out.step hb6 HX5.out.size
    have HX6 := Lib.hid hx6
    have HR2 := Lib.hid hr2
    have HO2 := Lib.hid ho2
    have HR1' := Lib.hid (HR1.out.below hb6 (Nat.le_refl _))
    obtain ⟨l2, hl2⟩ : ∃ n, n = r2.length := ⟨_, rfl⟩
    rw [← hl2]
    have HL2 := Lib.hid hl2
    have hq1 := HR1.out.len
    have hq2 := HR2.out.len
    rw [← HL1.out] at hq1
    rw [← HL2.out] at hq2
    clear hb6 hx6 hr2 ho2 hl2 k0 k1 k2 k3
    go_wp2_with fail
    refine Calls.mono (sameRows w6 a1 a2 l1 l2 c1 c2 r1 r2 HL1.out HL2.out HR1'.out HR2.out) ?_
    rintro e w7 ⟨rfl, hb7⟩
    rw [show decide (rowsL r1 = rowsL r2) = true from decide_eq_true (by rw [HO1.out, HO2.out])]
    have hx7 := HX6.out.step hb7 HX6.out.size
    have HX7 := Lib.hid hx7
    clear hb7 hx7
    go_wp2_with fail
    go_ret
    exact ⟨by simp, HX7.out.below⟩
  · have hx := HX2.out.step hb HX2.out.size
    have HX3 := Lib.hid hx
    have hlt : w.heap.size < w3.heap.size := World.block_lt_of_cell? w3 _ hx.c0
    have C18 := same18 (w3.alloc (.cells #[.int .i64 0, .slice none 0 0, .slice none 0 0] 31)) emptyP emptyP (emptyP_at _) (emptyP_at _) (fun b hb => by simp [emptyP] at hb) rfl
    have HC18 := Lib.hid C18
    have HB4 : Hid (Below w.heap.size w (w3.alloc (.cells #[.int .i64 0, .slice none 0 0, .slice none 0 0] 31))) := Lib.hid (HX3.out.below.alloc (by omega) _)
    clear hx hb hno C18
    go_wp2_with fail
    refine Calls.mono HC18.out ?_
    rintro e w5 ⟨rfl, hb5⟩
    have HX5 := Lib.hid (HB4.out.trans (hb5.mono HB4.out.size))
    clear hb5
    go_wp2_with fail
    go_ret
    exact ⟨rfl, HX5.out⟩
end Go.Proofs.Ytibimdhmfchcoaa
