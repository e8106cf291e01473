/- What is made of any net is what the document makes. -/
import Derived.Test.YtibimdhmfchcoaaR5
import Derived.Test.YtibimdhmfchcoaaR6
import Derived.Test.YtibimdhmfchcoaaF4
import Derived.Test.YtibimdhmfchcoaaK3
namespace Go.Proofs.Ytibimdhmfchcoaa
open Go.RowKit Go.Shelf Go.Maps
set_option linter.unusedVariables false
set_option linter.unusedSimpArgs false

/-- The reference's, whether there are blocks or none. -/
theorem refPacks (w : World) (N : NetV) (hN : NetAt w N) (hf : Few N) (hcap : ∀ l ∈ N.luts, l.ins.length ≤ l.c) : Calls Try.prog 17 #[N.val] w fun e w' =>
    (NetOk N 4 ∧ NewPack w N e w') ∨ (¬ NetOk N 4 ∧ e = .returned (.tuple #[.agg #[.int .i64 0, .slice none 0 0, .slice none 0 0], .int .i64 1]) ∧ Below w.heap.size w w') := by
  by_cases hok : NetOk N 4
  · exact refPack_ok w N hN hf hok hcap _ (fun e w' h => .inl ⟨hok, h⟩)
  · exact (refPack_bad w N hN hf hok).mono (fun e w' h => .inr ⟨hok, h⟩)
def noPack : PackV := ⟨0, none, 0, [], none, 0, []⟩
theorem noPack_at (w : World) : PackAt w noPack :=
  ⟨⟨by show (-9223372036854775808 : Int) ≤ 0; omega, by show (0 : Int) ≤ _; omega⟩, .inl rfl, .inl rfl, fun b hb => by simp [noPack] at hb, fun x hx => by simp [noPack] at hx, by simp [noPack], by simp [noPack]⟩

set_option maxRecDepth 100000 in
set_option maxHeartbeats 8000000 in
theorem packMakes (w : World) (N : NetV) (hN : NetAt w N) (hcap : ∀ l ∈ N.luts, l.ins.length ≤ l.c) : Calls Try.prog 3 #[N.val] w fun e w' => e = .returned (.bool true) ∧ Below w.heap.size w w' := by
  have HNet := Lib.hid hN
  clear hN
  go_enter Try.func3, Try.ntmps3
  go_wp2_with fail
  refine (live14 _).mono ?_
  rintro e w1 ⟨rfl, hb⟩
  have hx := (Box.start w N).step hb (by simp)
  have b0 := hx.c0
  have b1 := hx.c1
  have b2 := hx.c2
  have b3 := hx.c3
  have HX := Lib.hid hx
  clear hx hb
  go_wp2_with fail
  refine (fewNet _ N (HNet.out.below HX.out.below (Nat.le_refl _))).mono ?_
  rintro e w2 ⟨rfl, hb⟩
  have hx := HX.out.step hb HX.out.size
  have b0 := hx.c0
  have b1 := hx.c1
  have b2 := hx.c2
  have b3 := hx.c3
  have HX2 := Lib.hid hx
  clear hx hb
  obtain ⟨fb, hfb⟩ : ∃ b, b = fewB N := ⟨_, rfl⟩
  rw [← hfb]
  have HFb := Lib.hid hfb
  clear hfb
  cases fb
  · go_wp2
    go_ret
    exact ⟨rfl, HX2.out.below⟩
  have HF := Lib.hid (few_of N HFb.out.symm)
  go_wp2_with fail
  refine (packs _ N (HNet.out.below HX2.out.below (Nat.le_refl _)) HF.out).mono ?_
  rintro e w3 h3
  have h3 : ∃ (P : PackV) (c : Int), e = .returned (.tuple #[P.val, .int .i64 c]) ∧ PackAt w3 P ∧ (∀ b ∈ P.bs, b.ins.length ≤ 1000) ∧ Below w2.heap.size w2 w3 ∧ ((NetOk N 4 ∧ P.data = packD N ∧ c = 0) ∨ (¬ NetOk N 4 ∧ P.data = noPack.data ∧ c = 1)) := by
    rcases h3 with ⟨hok, P, hi, hbd, ho, he, hr, hb⟩ | ⟨hno, he, hb⟩
    · exact ⟨P, 0, he, pack_at hok HF.out hi HNet.out.insR hbd ho hr, fun b hbm => by have := (pack_few hok HF.out hi hbd ho).each b hbm; omega, hb, .inl ⟨hok, pack_data hi hbd ho, rfl⟩⟩
    · exact ⟨noPack, 1, he, noPack_at _, fun b hb => by simp [noPack] at hb, hb, .inr ⟨hno, rfl, rfl⟩⟩
  obtain ⟨P, c, rfl, hPA, hP4, hb3, hcase⟩ := h3
  have hx := HX2.out.step hb3 HX2.out.size
  have b0 := hx.c0
  have b1 := hx.c1
  have b2 := hx.c2
  have b3 := hx.c3
  have HX3 := Lib.hid hx
  have HPA := Lib.hid hPA
  have HP4 := Lib.hid hP4
  have HCase := Lib.hid hcase
  have hlt3 : w.heap.size < w3.heap.size := World.block_lt_of_cell? w3 _ b0
  clear hx hb3 hPA hP4 hcase
  go_wp2_with fail
  obtain ⟨w4, hw4⟩ : ∃ W, W = w3.alloc (.cells #[.int .i64 P.ins, .slice P.ba P.bs.length P.bc, .slice P.oa P.os.length P.oc] 31) := ⟨_, rfl⟩
  rw [← hw4]
  have hb4 : Below w3.heap.size w3 w4 := by rw [hw4]; exact (Below.refl _ _).alloc (Nat.le_refl _) _
  have p0 : w4.cell? ⟨w3.heap.size, 0, none⟩ = some (.int .i64 P.ins) := by rw [hw4]; simp
  have p1 : w4.cell? ⟨w3.heap.size, 1, none⟩ = some (.slice P.ba P.bs.length P.bc) := by rw [hw4]; simp
  have p2 : w4.cell? ⟨w3.heap.size, 2, none⟩ = some (.slice P.oa P.os.length P.oc) := by rw [hw4]; simp
  have hs4 : w4.heap.size = w3.heap.size + 1 := by rw [hw4]; simp
  obtain ⟨b4, hb4e⟩ : ∃ b, b = w3.heap.size := ⟨_, rfl⟩
  rw [← hb4e] at p0 p1 p2 hs4 ⊢
  have hX4 : Below w.heap.size w w4 := HX3.out.below.trans (hb4.mono (by omega))
  have HP0 := Lib.hid (And.intro p0 (And.intro p1 p2))
  have HX4 := Lib.hid hX4
  have HB4 := Lib.hid hb4
  have HS4 := Lib.hid hs4
  have HB4e := Lib.hid hb4e
  have HW4 := Lib.hid hw4
  have Hlt := Lib.hid hlt3
  clear p0 p1 p2 hs4 hb4e hb4 hX4 hw4 hlt3 b0 b1 b2 b3
  refine (refPacks _ N (HNet.out.below HX4.out (Nat.le_refl _)) HF.out hcap).mono ?_
  rintro e w5 h5
  have h5 : ∃ (Q : PackV), e = .returned (.tuple #[Q.val, .int .i64 c]) ∧ PackAt w5 Q ∧ P.data = Q.data ∧ Below w4.heap.size w4 w5 := by
    rcases HCase.out with ⟨hok, hd, rfl⟩ | ⟨hno, hd, rfl⟩
    · rcases h5 with ⟨_, Q, hi, hbd, ho, he, hr, hb⟩ | ⟨hno, _⟩
      · exact ⟨Q, he, pack_at hok HF.out hi HNet.out.insR hbd ho hr, by rw [hd, pack_data hi hbd ho], hb⟩
      · exact absurd hok hno
    · rcases h5 with ⟨hok, _⟩ | ⟨_, he, hb⟩
      · exact absurd hok hno
      · exact ⟨noPack, he, noPack_at _, hd, hb⟩
  obtain ⟨Q, rfl, hQA, hdd, hb5⟩ := h5
  have p0 : w5.cell? ⟨b4, 0, none⟩ = some (.int .i64 P.ins) := (hb5.cell (p := ⟨_, _, none⟩) (by have := HS4.out; simp only; omega)).trans HP0.out.1
  have p1 : w5.cell? ⟨b4, 1, none⟩ = some (.slice P.ba P.bs.length P.bc) := (hb5.cell (p := ⟨_, _, none⟩) (by have := HS4.out; simp only; omega)).trans HP0.out.2.1
  have p2 : w5.cell? ⟨b4, 2, none⟩ = some (.slice P.oa P.os.length P.oc) := (hb5.cell (p := ⟨_, _, none⟩) (by have := HS4.out; simp only; omega)).trans HP0.out.2.2
  have hlt5 : b4 < w5.heap.size := World.block_lt_of_cell? w5 _ p0
  have hX5 : Below w.heap.size w w5 := HX4.out.trans (hb5.mono HX4.out.size)
  have HX5 := Lib.hid hX5
  have HQA := Lib.hid hQA
  have HDd := Lib.hid hdd
  have HPA5 := Lib.hid ((HPA.out.below HB4.out (Nat.le_refl _)).below hb5 (Nat.le_refl _))
  clear hX5 hQA hdd hb5
  have S18 := same18 (w5.alloc (.cells #[.int .i64 Q.ins, .slice Q.ba Q.bs.length Q.bc, .slice Q.oa Q.os.length Q.oc] 31)) P Q (HPA5.out.below ((Below.refl _ _).alloc (Nat.le_refl _) _) (Nat.le_refl _)) (HQA.out.below ((Below.refl _ _).alloc (Nat.le_refl _) _) (Nat.le_refl _)) HP4.out HDd.out
  have HS18 := Lib.hid S18
  have hbX : Below w.heap.size w (w5.alloc (.cells #[.int .i64 Q.ins, .slice Q.ba Q.bs.length Q.bc, .slice Q.oa Q.os.length Q.oc] 31)) := HX5.out.alloc HX5.out.size _
  have HBX := Lib.hid hbX
  clear S18 hbX
  go_wp2_with fail
  refine Calls.mono HS18.out ?_
  rintro e w6 ⟨rfl, hb6⟩
  have HB6 := Lib.hid (HBX.out.trans (hb6.mono HBX.out.size))
  clear hb6
  go_wp2_with fail
  go_ret
  exact ⟨rfl, HB6.out⟩
end Go.Proofs.Ytibimdhmfchcoaa
