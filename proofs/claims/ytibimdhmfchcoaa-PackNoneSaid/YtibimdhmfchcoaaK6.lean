/- A block hangs on no node 0. -/
import Derived.Test.YtibimdhmfchcoaaS7
import Derived.Test.YtibimdhmfchcoaaK3
import Derived.Test.YtibimdhmfchcoaaE1
import Derived.Test.YtibimdhmfchcoaaOpen
namespace Go.Proofs.Ytibimdhmfchcoaa
open Go.RowKit Go.Shelf Go.Maps
set_option linter.unusedVariables false
set_option linter.unusedSimpArgs false

theorem wfu16 {x : Int} (h : (Lit.int .u16 x).wf = true) : 0 ≤ x ∧ x ≤ 65535 := by
  simp only [Lit.wf, Bool.and_eq_true, decide_eq_true_eq] at h
  exact h
def inL (q : Nat) : List Int := [1, 2, 3, 4].set q 0
theorem inL_all (q : Nat) (hq : q < 4) : (inL q).length = 4 ∧ (∀ x ∈ inL q, 0 ≤ x ∧ x < 5) ∧ (keptTo (inL q) 4).length = 3 := by
  have : q = 0 ∨ q = 1 ∨ q = 2 ∨ q = 3 := by omega
  rcases this with rfl | rfl | rfl | rfl <;> decide
def oneNet (h : Nat) (q : Nat) (T : Int) : NetV := ⟨4, none, 0, [], some ⟨h + 1 + 1, 0, none⟩, 1, [⟨some ⟨h, 0, none⟩, 4, inL q, T⟩], some ⟨h + 1 + 1 + 1, 0, none⟩, 1, [5]⟩
theorem one_few (h q : Nat) (T : Int) (hq : q < 4) : Few (oneNet h q T) := by
  refine ⟨fun l hl => ?_, by show (4 : Int) ≤ 100; omega, by show (0 : Nat) ≤ 100; omega, by show (1 : Nat) ≤ 200; omega, by show (1 : Nat) ≤ 100; omega⟩
  have hl : l ∈ [(⟨some ⟨h, 0, none⟩, 4, inL q, T⟩ : LutV)] := hl
  rw [List.mem_singleton] at hl
  subst hl
  show (inL q).length ≤ 20
  rw [(inL_all q hq).1]; omega
theorem one_ok (h q : Nat) (T : Int) (hq : q < 4) (hT : T ≤ 65535) (k : Int) (hk : 4 ≤ k) : NetOk (oneNet h q T) k := by
  obtain ⟨h1, h2, _⟩ := inL_all q hq
  refine ⟨by show (0 : Int) ≤ 4; omega, fun i hi => ?_, fun x hx => ?_, fun x hx => by cases hx⟩
  · have hi : i < 1 := hi
    obtain rfl : i = 0 := by omega
    refine ⟨?_, ?_, fun x hx => ?_⟩
    · show ((inL q).length : Int) ≤ k
      rw [h1]; exact hk
    · show T ≤ rowsN (inL q).length
      rw [h1]
      exact hT
    · have := h2 x hx
      show 0 ≤ x ∧ x < 1 + 4 + 0 + 0
      omega
  · have hx : x ∈ ([5] : List Int) := hx
    rw [List.mem_singleton] at hx
    subst hx
    show (0 : Int) ≤ 5 ∧ (5 : Int) < 1 + 4 + 0 + 1
    omega
theorem one_blks (h q : Nat) (T : Int) (hq : q < 4) : ∃ b, packBlks (oneNet h q T) = [b] ∧ b.ins.length = 3 := by
  obtain ⟨h1, _, h3⟩ := inL_all q hq
  have hw : whoF (oneNet h q T) (fstN (oneNet h q T) + (0 : Nat)) = false := rfl
  have e : lutBlks (oneNet h q T) (whoF (oneNet h q T)) (wiresF (oneNet h q T)) 1 = [toldD (wiresF (oneNet h q T)) (inL q) T.toNat false false] := by
    rw [lutBlks, hw]; rfl
  refine ⟨toldD (wiresF (oneNet h q T)) (inL q) T.toNat false false, ?_, ?_⟩
  · unfold packBlks
    show holdBlks _ _ _ 0 ++ lutBlks _ _ _ 1 ++ _ = _
    rw [e]
    rfl
  · show (liveTo _ (inL q) (inL q).length).length = 3
    rw [liveTo_length, h1, h3]
theorem one_at {W : World} {h q : Nat} {T : Int} (hq : q < 4) (hT : 0 ≤ T ∧ T ≤ 65535) (h0 : ∀ j, j < 4 → W.cell? ⟨h, j, none⟩ = some (.int .i64 ((inL q).getD j 0)))
    (h1 : W.cell? ⟨h + 1 + 1, 0, none⟩ = some (.slice (some ⟨h, 0, none⟩) 4 4)) (h2 : W.cell? ⟨h + 1 + 1, 1, none⟩ = some (.int .u64 T)) (h3 : W.cell? ⟨h + 1 + 1 + 1, 0, none⟩ = some (.int .i64 5)) : NetAt W (oneNet h q T) := by
  obtain ⟨e1, e2, _⟩ := inL_all q hq
  refine ⟨⟨by show (-9223372036854775808 : Int) ≤ 4; omega, by show (4 : Int) ≤ _; omega⟩, .inl rfl, .inr ⟨h + 1 + 1, 0, rfl, fun i hi => ?_⟩, .inr ⟨h + 1 + 1 + 1, 0, rfl, fun i hi => ?_⟩, fun l hl => ?_, fun x hx => (by cases hx), fun x hx => ?_, by show (0 : Nat) ≤ _; omega, by show (1 : Nat) ≤ _; omega, by show (1 : Nat) ≤ _; omega⟩
  · have hi : i < 2 := hi
    have : i = 0 ∨ i = 1 := by omega
    rcases this with rfl | rfl
    · rw [Nat.zero_add, h1]
      show _ = some (Value.slice (some ⟨h, 0, none⟩) (inL q).length 4)
      rw [e1]
    · rw [Nat.zero_add, h2]; rfl
  · have hi : i < 1 := hi
    obtain rfl : i = 0 := by omega
    rw [Nat.zero_add, h3]; rfl
  · have hl : l ∈ [(⟨some ⟨h, 0, none⟩, 4, inL q, T⟩ : LutV)] := hl
    rw [List.mem_singleton] at hl
    subst hl
    refine ⟨.inr ⟨h, 0, rfl, fun i hi => ?_⟩, ⟨hT.1, by show T ≤ _; omega⟩, fun x hx => ?_, ?_⟩
    · have hi : i < (inL q).length := hi
      rw [Nat.zero_add, h0 i (by omega)]; rfl
    · have := e2 x hx
      exact ⟨by omega, by omega⟩
    · show (inL q).length ≤ _
      rw [e1]; omega
  · have hx : x ∈ ([5] : List Int) := hx
    rw [List.mem_singleton] at hx
    subst hx
    exact ⟨by omega, by omega⟩

set_option maxRecDepth 100000 in
set_option maxHeartbeats 8000000 in
theorem packNone (w : World) (a0 : Option Addr) (n0 c0 : Nat) (l0 : List Bool) (e0 : l0.length = n0) (b0 : n0 ≤ 9223372036854775807) (h0 : Seq w a0 n0 (bools l0)) (T : Int) (hT : 0 ≤ T ∧ T ≤ 65535) (k : Int) (hk : 0 ≤ k ∧ k ≤ 255) :
    Calls Try.prog 5 #[.slice a0 n0 c0, .int .u16 T, .int .u8 k] w fun e w' => e = .returned (.bool true) ∧ Below w.heap.size w w' := by
  have H0 := Lib.hid h0
  have E0 := Lib.hid e0
  clear h0 e0
  go_enter Try.func5, Try.ntmps5
  go_wp2_with fail
  refine (live14 _).mono ?_
  rintro e w1 ⟨rfl, hb1⟩
  have HB1 := Lib.hid hb1
  clear hb1
  by_cases h4 : n0 = 4
  · subst h4
    obtain ⟨kn, rfl⟩ : ∃ n : Nat, k = n := ⟨k.toNat, by omega⟩
    obtain ⟨q, hq⟩ : ∃ q, q = kn % 4 := ⟨_, rfl⟩
    have hq4 : q < 4 := by omega
    have hrem : Int.tmod (kn : Int) 4 = (q : Int) := by rw [Int.tmod_eq_emod_of_nonneg (by omega)]; omega
    clear hq
    obtain ⟨h, hh⟩ : ∃ h, h = w1.heap.size := ⟨_, rfl⟩
    obtain ⟨x1, hx1⟩ : ∃ W, W = w1.alloc (Obj.cells (([Value.int IntKind.i64 1, Value.int IntKind.i64 2, Value.int IntKind.i64 3, Value.int IntKind.i64 4] : List Value).set q (Value.int IntKind.i64 0)).toArray 3) := ⟨_, rfl⟩
    obtain ⟨x2, hx2⟩ : ∃ W, W = x1.alloc (Obj.cells #[Value.slice (some ⟨w1.heap.size, 0, none⟩) 4 4, Value.int IntKind.u64 T] 41) := ⟨_, rfl⟩
    obtain ⟨x3, hx3⟩ : ∃ W, W = x2.alloc (Obj.cells #[Value.slice (some ⟨w1.heap.size, 0, none⟩) 4 4, Value.int IntKind.u64 T] 41) := ⟨_, rfl⟩
    obtain ⟨x4, hx4⟩ : ∃ W, W = x3.alloc (Obj.cells #[Value.int IntKind.i64 5] 3) := ⟨_, rfl⟩
    obtain ⟨w2, hw2⟩ : ∃ W, W = x4.alloc (Obj.cells #[Value.int IntKind.i64 4, Value.slice none 0 0, Value.slice (some ⟨w1.heap.size + 1 + 1, 0, none⟩) 1 1, Value.slice (some ⟨w1.heap.size + 1 + 1 + 1, 0, none⟩) 1 1] 26) := ⟨_, rfl⟩
    have s1 : x1.heap.size = h + 1 := by rw [hx1, hh]; simp
    have s2 : x2.heap.size = h + 1 + 1 := by rw [hx2]; simp [s1]
    have s3 : x3.heap.size = h + 1 + 1 + 1 := by rw [hx3]; simp [s2]
    have s4 : x4.heap.size = h + 1 + 1 + 1 + 1 := by rw [hx4]; simp [s3]
    have s5 : w2.heap.size = h + 1 + 1 + 1 + 1 + 1 := by rw [hw2]; simp [s4]
    have hb1 : Below h w1 w2 := by rw [hw2, hx4, hx3, hx2, hx1, hh]; exact (((((Below.refl _ _).alloc (Nat.le_refl _) _).alloc (by simp <;> omega) _).alloc (by simp <;> omega) _).alloc (by simp <;> omega) _).alloc (by simp <;> omega) _
    have f0 : ∀ j, j < 4 → x1.cell? ⟨h, j, none⟩ = some (.int .i64 ((inL q).getD j 0)) := by
      intro j hj
      have e : x1.cell? ⟨h, j, none⟩ = (([Value.int IntKind.i64 1, Value.int IntKind.i64 2, Value.int IntKind.i64 3, Value.int IntKind.i64 4] : List Value).set q (Value.int IntKind.i64 0))[j]? := by rw [hx1, hh]; simp
      rw [e]
      have h1 : q = 0 ∨ q = 1 ∨ q = 2 ∨ q = 3 := by omega
      have h2 : j = 0 ∨ j = 1 ∨ j = 2 ∨ j = 3 := by omega
      rcases h1 with rfl | rfl | rfl | rfl <;> rcases h2 with rfl | rfl | rfl | rfl <;> rfl
    have g0 : ∀ j, j < 4 → w2.cell? ⟨h, j, none⟩ = some (.int .i64 ((inL q).getD j 0)) := fun j hj => by rw [hw2, hx4, hx3, hx2]; exact cell_alloc _ (cell_alloc _ (cell_alloc _ (cell_alloc _ (f0 j hj))))
    have g1 : w2.cell? ⟨h + 1 + 1, 0, none⟩ = some (.slice (some ⟨h, 0, none⟩) 4 4) := by rw [hw2, hx4]; refine cell_alloc _ (cell_alloc _ ?_); rw [hx3, ← s2, hh]; simp
    have g2 : w2.cell? ⟨h + 1 + 1, 1, none⟩ = some (.int .u64 T) := by rw [hw2, hx4]; refine cell_alloc _ (cell_alloc _ ?_); rw [hx3, ← s2]; simp
    have g3 : w2.cell? ⟨h + 1 + 1 + 1, 0, none⟩ = some (.int .i64 5) := by rw [hw2]; refine cell_alloc _ ?_; rw [hx4, ← s3]; simp
    have n0 : w2.cell? ⟨h + 1 + 1 + 1 + 1, 0, none⟩ = some (.int .i64 4) := by rw [hw2, ← s4]; simp
    have n1 : w2.cell? ⟨h + 1 + 1 + 1 + 1, 1, none⟩ = some (.slice none 0 0) := by rw [hw2, ← s4]; simp
    have n2 : w2.cell? ⟨h + 1 + 1 + 1 + 1, 2, none⟩ = some (.slice (some ⟨h + 1 + 1, 0, none⟩) 1 1) := by rw [hw2, ← s4, hh]; simp
    have n3 : w2.cell? ⟨h + 1 + 1 + 1 + 1, 3, none⟩ = some (.slice (some ⟨h + 1 + 1 + 1, 0, none⟩) 1 1) := by rw [hw2, ← s4, hh]; simp
    have hNet := one_at hq4 hT g0 g1 g2 g3
    have hFew := one_few h q T hq4
    have hOk := one_ok h q T hq4 hT.2 4 (by omega)
    have hOk6 := one_ok h q T hq4 hT.2 6 (by omega)
    have hBl := one_blks h q T hq4
    have hsz1 : h ≤ w1.heap.size := by omega
    obtain ⟨N, hN⟩ : ∃ N, N = oneNet h q T := ⟨_, rfl⟩
    have hNv : N.val = .agg #[.int .i64 4, .slice none 0 0, .slice (some ⟨h + 1 + 1, 0, none⟩) 1 1, .slice (some ⟨h + 1 + 1 + 1, 0, none⟩) 1 1] := by rw [hN]; rfl
    have hNi : N.ins = 4 := by rw [hN]; rfl
    have hNh : N.holds.length = 0 := by rw [hN]; rfl
    have hNo : N.outs.length = 1 := by rw [hN]; rfl
    rw [← hN] at hNet hFew hOk hOk6 hBl
    have C16 := packs w2 N hNet hFew
    rw [hNv] at C16
    have HC16 := Lib.hid C16
    have HNet := Lib.hid hNet
    have HFew := Lib.hid hFew
    have HOk := Lib.hid hOk
    have HOk6 := Lib.hid hOk6
    have HBl := Lib.hid hBl
    have HNv := Lib.hid hNv
    have HNi := Lib.hid hNi
    have HNh := Lib.hid hNh
    have HNo := Lib.hid hNo
    have HX2 : Hid (Below w.heap.size w w2) := Lib.hid (HB1.out.trans (hb1.mono (by have := HB1.out.size; omega)))
    have HW2 : Hid (w2 = ((((w1.alloc (Obj.cells (([Value.int IntKind.i64 1, Value.int IntKind.i64 2, Value.int IntKind.i64 3, Value.int IntKind.i64 4] : List Value).set q (Value.int IntKind.i64 0)).toArray 3)).alloc (Obj.cells #[Value.slice (some ⟨w1.heap.size, 0, none⟩) 4 4, Value.int IntKind.u64 T] 41)).alloc (Obj.cells #[Value.slice (some ⟨w1.heap.size, 0, none⟩) 4 4, Value.int IntKind.u64 T] 41)).alloc (Obj.cells #[Value.int IntKind.i64 5] 3)).alloc (Obj.cells #[Value.int IntKind.i64 4, Value.slice none 0 0, Value.slice (some ⟨w1.heap.size + 1 + 1, 0, none⟩) 1 1, Value.slice (some ⟨w1.heap.size + 1 + 1 + 1, 0, none⟩) 1 1] 26)) := Lib.hid (by rw [hw2, hx4, hx3, hx2, hx1])
    have HS5 := Lib.hid s5
    have HHh := Lib.hid hh
    have HNN := Lib.hid (And.intro n0 (And.intro n1 (And.intro n2 n3)))
    clear hx1 hx2 hx3 hx4 hw2 s1 s2 s3 s4 s5 f0 g0 g1 g2 g3 hNet hFew hOk hOk6 hBl hNv hNi hNh hNo C16 hb1 hh n0 n1 n2 n3 hsz1 hN
    go_wp2_with fail
    rw [← HW2.out, ← HHh.out]
    refine Calls.mono HC16.out ?_
    rintro e w3 (⟨_, P, hi, hbd, ho, rfl, hr, hb⟩ | ⟨hno, _, _⟩)
    · have hpa := pack_at HOk.out HFew.out hi HNet.out.insR hbd ho hr
      have HFp := Lib.hid (pack_few HOk.out HFew.out hi hbd ho)
      have hdat := pack_data hi hbd ho
      obtain ⟨bd, hbd1, hbd3⟩ := HBl.out
      have hlen1 : P.bs.length = 1 := by have := congrArg List.length hbd; rw [List.length_map, hbd1] at this; exact this
      have hb0 : (P.bs.getD 0 default).ins.length = 3 := by
        have h1 : (P.bs.getD 0 default).data = (packBlks N).getD 0 default := by rw [← hbd, getD_map_blk]
        rw [hbd1] at h1
        have h2 : (P.bs.getD 0 default).data = bd := h1
        rw [← h2] at hbd3
        exact hbd3
      obtain ⟨kb, ko, hkb, hkbl, d0, _, _, _⟩ := hpa.blk 0 (by omega)
      rw [hb0, Nat.zero_mul, Nat.add_zero] at d0
      have hol : P.os.length = 1 := by rw [ho]; unfold packOuts; rw [List.length_map, HNo.out]
      obtain ⟨La, hLa⟩ : ∃ l, l = (P.bs.getD 0 default).a := ⟨_, rfl⟩
      obtain ⟨Lc, hLc⟩ : ∃ l, l = (P.bs.getD 0 default).c := ⟨_, rfl⟩
      rw [← hLa, ← hLc] at d0
      obtain ⟨bc, hbc⟩ : ∃ l, l = P.bc := ⟨_, rfl⟩
      obtain ⟨oa, hoa⟩ : ∃ l, l = P.oa := ⟨_, rfl⟩
      obtain ⟨oc, hoc⟩ : ∃ l, l = P.oc := ⟨_, rfl⟩
      have hvv : P.val = .agg #[.int .i64 4, .slice (some ⟨kb, ko, none⟩) 1 bc, .slice oa 1 oc] := by unfold PackV.val; rw [hi, HNi.out, hlen1, hol, hkb, hbc, hoa, hoc]
      rw [hvv]
      have hbw : Below w2.heap.size w2 w3 := hb
      have m0 := (hbw.cell (p := ⟨h + 1 + 1 + 1 + 1, 0, none⟩) (by have := HS5.out; simp only; omega)).trans HNN.out.1
      have m1 := (hbw.cell (p := ⟨h + 1 + 1 + 1 + 1, 1, none⟩) (by have := HS5.out; simp only; omega)).trans HNN.out.2.1
      have m2 := (hbw.cell (p := ⟨h + 1 + 1 + 1 + 1, 2, none⟩) (by have := HS5.out; simp only; omega)).trans HNN.out.2.2.1
      have m3 := (hbw.cell (p := ⟨h + 1 + 1 + 1 + 1, 3, none⟩) (by have := HS5.out; simp only; omega)).trans HNN.out.2.2.2
      obtain ⟨w4, hw4⟩ : ∃ W, W = w3.alloc (.cells #[.int .i64 4, .slice (some ⟨kb, ko, none⟩) 1 bc, .slice oa 1 oc] 31) := ⟨_, rfl⟩
      have hb4 : Below w3.heap.size w3 w4 := by rw [hw4]; exact (Below.refl _ _).alloc (Nat.le_refl _) _
      have hX3 : Below w.heap.size w w3 := HX2.out.trans (hb.mono HX2.out.size)
      have hX4 : Below w.heap.size w w4 := hX3.trans (hb4.mono hX3.size)
      have hk3 : h + 1 + 1 + 1 + 1 < w3.heap.size := World.block_lt_of_cell? w3 _ m0
      have k0 := (hb4.cell (p := ⟨h + 1 + 1 + 1 + 1, 0, none⟩) hk3).trans m0
      have k1 := (hb4.cell (p := ⟨h + 1 + 1 + 1 + 1, 1, none⟩) hk3).trans m1
      have k2 := (hb4.cell (p := ⟨h + 1 + 1 + 1 + 1, 2, none⟩) hk3).trans m2
      have k3 := (hb4.cell (p := ⟨h + 1 + 1 + 1 + 1, 3, none⟩) hk3).trans m3
      have hS4 : Seq w4 a0 l0.length (bools l0) := by rw [E0.out]; exact H0.out.below hX4 (Nat.le_refl _)
      have C20 := eval20 w4 P (hpa.below hb4 (Nat.le_refl _)) HFp.out a0 c0 l0 hS4 (by have := E0.out; omega) none 0 [] (.inl rfl) (by simp)
      rw [hvv, E0.out, hdat] at C20
      have hil : (l0.length : Int) = N.ins := by rw [E0.out, HNi.out]; rfl
      have hev := ev_same N HOk.out HFew.out l0 [] hil HNh.out.symm
      have hee := ev_err N HOk.out HFew.out l0 [] HNh.out.symm
      rw [if_pos hil] at hee
      have HEv := Lib.hid hev
      have HEe := Lib.hid hee
      have HC20 := Lib.hid C20
      have HW4 := Lib.hid hw4
      have HX4 := Lib.hid hX4
      have HNet4 := Lib.hid (HNet.out.below (hb.trans (hb4.mono hb.size)) (Nat.le_refl _))
      have HKK := Lib.hid (And.intro k0 (And.intro k1 (And.intro k2 k3)))
      have HIl := Lib.hid hil
      have hkh : h + 1 + 1 + 1 + 1 < w4.heap.size := World.block_lt_of_cell? w4 _ k0
      have HKh := Lib.hid hkh
      clear hk3 hpa hdat hbd1 hbd3 hlen1 hb0 hol hLa hLc hbc hoa hoc hvv hbw m0 m1 m2 m3 hw4 hb4 hX3 hX4 k0 k1 k2 k3 hS4 C20 hil hev hee hr hbd ho hi hb hkb hkh
      go_wp2_with fail
      rw [← HW4.out]
      refine Calls.mono HC20.out ?_
      rintro e w5 ⟨a1, c1, a2, c2, rfl, t1, t2, hb5⟩
      rw [HEv.out.1] at t1
      rw [HEv.out.1, HEe.out]
      obtain ⟨O, hO⟩ : ∃ O, O = netOut N (netV N l0 []) := ⟨_, rfl⟩
      have hOl : O.length = 1 := by rw [hO]; unfold netOut; rw [List.length_map, HNo.out]
      obtain ⟨nl, hnl⟩ : ∃ n, n = (evalN (packD N) l0 []).length := ⟨_, rfl⟩
      rw [← hO] at t1
      rw [← hO, ← hnl, hOl]
      have k0 := (hb5.cell (p := ⟨h + 1 + 1 + 1 + 1, 0, none⟩) HKh.out).trans HKK.out.1
      have k1 := (hb5.cell (p := ⟨h + 1 + 1 + 1 + 1, 1, none⟩) HKh.out).trans HKK.out.2.1
      have k2 := (hb5.cell (p := ⟨h + 1 + 1 + 1 + 1, 2, none⟩) HKh.out).trans HKK.out.2.2.1
      have k3 := (hb5.cell (p := ⟨h + 1 + 1 + 1 + 1, 3, none⟩) HKh.out).trans HKK.out.2.2.2
      have hX5 : Below w.heap.size w w5 := HX4.out.trans (hb5.mono HX4.out.size)
      have hS5 : Seq w5 a0 l0.length (bools l0) := by rw [E0.out]; exact H0.out.below hX5 (Nat.le_refl _)
      have hN5 := HNet4.out.below hb5 (Nat.le_refl _)
      have C21 := eval21 w5 N hN5 HFew.out HOk6.out a0 none c0 0 l0 [] hS5 (.inl rfl) HIl.out HNh.out.symm
      rw [HNv.out, E0.out, ← hO, hOl] at C21
      have HC21 := Lib.hid C21
      have HT1 := Lib.hid t1
      have HX5 := Lib.hid hX5
      have HN5 := Lib.hid hN5
      have HKK5 := Lib.hid (And.intro k0 (And.intro k1 (And.intro k2 k3)))
      have HOl := Lib.hid hOl
      have HK5 : Hid (h + 1 + 1 + 1 + 1 < w5.heap.size) := Lib.hid (World.block_lt_of_cell? w5 _ k0)
      clear t1 t2 hb5 hO hOl hnl hX5 hS5 hN5 C21
      go_wp2_with fail
      refine Calls.mono HC21.out ?_
      rintro e w6 ⟨p1, d1, p2, d2, rfl, u1, hb6⟩
      obtain ⟨ml, hml⟩ : ∃ n, n = (netNext N (netV N l0 [])).length := ⟨_, rfl⟩
      rw [← hml]
      have j0 := (hb6.cell (p := ⟨h + 1 + 1 + 1 + 1, 0, none⟩) HK5.out).trans HKK5.out.1
      have j1 := (hb6.cell (p := ⟨h + 1 + 1 + 1 + 1, 1, none⟩) HK5.out).trans HKK5.out.2.1
      have j2 := (hb6.cell (p := ⟨h + 1 + 1 + 1 + 1, 2, none⟩) HK5.out).trans HKK5.out.2.2.1
      have j3 := (hb6.cell (p := ⟨h + 1 + 1 + 1 + 1, 3, none⟩) HK5.out).trans HKK5.out.2.2.2
      have hX6 : Below w.heap.size w w6 := HX5.out.trans (hb6.mono HX5.out.size)
      have hs1 : Seq w6 a1 1 (bools O) := by
        have := (HT1.out.seq).below hb6 (Nat.le_refl _)
        rw [HOl.out] at this; exact this
      have hs2 : Seq w6 p1 1 (bools O) := u1.seq
      have C22 := sameBools w6 a1 p1 1 c1 1 d1 O O HOl.out HOl.out (by omega) (by omega) hs1 hs2
      rw [decide_eq_true rfl] at C22
      have HC22 := Lib.hid C22
      have HX6 := Lib.hid hX6
      have HN6 := Lib.hid (HN5.out.below hb6 (Nat.le_refl _))
      have HK6 : Hid (h + 1 + 1 + 1 + 1 < w6.heap.size) := Lib.hid (World.block_lt_of_cell? w6 _ j0)
      have HJJ := Lib.hid (And.intro j0 (And.intro j1 (And.intro j2 j3)))
      clear u1 hb6 hml hX6 hs1 hs2 C22 k0 k1 k2 k3
      go_wp2_with fail
      refine Calls.mono HC22.out ?_
      rintro e w7 ⟨rfl, hb7⟩
      have i0 := (hb7.cell (p := ⟨h + 1 + 1 + 1 + 1, 0, none⟩) HK6.out).trans HJJ.out.1
      have i1 := (hb7.cell (p := ⟨h + 1 + 1 + 1 + 1, 1, none⟩) HK6.out).trans HJJ.out.2.1
      have i2 := (hb7.cell (p := ⟨h + 1 + 1 + 1 + 1, 2, none⟩) HK6.out).trans HJJ.out.2.2.1
      have i3 := (hb7.cell (p := ⟨h + 1 + 1 + 1 + 1, 3, none⟩) HK6.out).trans HJJ.out.2.2.2
      have hX7 : Below w.heap.size w w7 := HX6.out.trans (hb7.mono HX6.out.size)
      have C23 := check25 w7 N (HN6.out.below hb7 (Nat.le_refl _)) HFew.out 4 (by omega)
      rw [HNv.out, show chk N 4 = 0 from by unfold chk; rw [if_pos HOk.out]] at C23
      have HC23 := Lib.hid C23
      have HX7 := Lib.hid hX7
      clear hb7 hX7 C23 j0 j1 j2 j3
      go_wp2_with fail
      refine Calls.mono HC23.out ?_
      rintro e w8 ⟨rfl, hb8⟩
      have HX8 := Lib.hid (HX7.out.trans (hb8.mono HX7.out.size))
      clear hb8
      go_wp2_with fail
      go_ret
      exact ⟨rfl, HX8.out⟩
    · exact absurd HOk.out hno
  · have h4b : ((n0 : Int) != 4) = true := by simpa using (by omega : ¬ (n0 : Int) = 4)
    go_wp2_with fail
    go_ret
    exact ⟨rfl, HB1.out⟩
end Go.Proofs.Ytibimdhmfchcoaa
