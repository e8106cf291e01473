import Derived.Test.YtibimdhmfchcoaaV0
import Derived.Test.YtibimdhmfchcoaaBA
namespace Go.Proofs.Ytibimdhmfchcoaa
open Go.RowKit Go.Shelf Go.Maps
set_option linter.unusedVariables false
set_option linter.unusedSimpArgs false

/-- Which bit of its table a block tells, of its first k inputs. -/
def idxTo (ins : List Int) (wv : Nat → Bool) : Nat → Nat
  | 0 => 0
  | k + 1 => idxTo ins wv k + (if wv (ins.getD k 0).toNat then 2 ^ k else 0)
def valueB (ins : List Int) (tab : Int) (wv : Nat → Bool) : Bool := decide (tab.toNat / 2 ^ (idxTo ins wv ins.length) % 2 = 1)
theorem idxTo_lt (ins : List Int) (wv : Nat → Bool) (k : Nat) : idxTo ins wv k < 2 ^ k := by
  induction k with
  | zero => simp [idxTo]
  | succ k ih =>
    unfold idxTo
    have : 2 ^ (k + 1) = 2 * 2 ^ k := by rw [Nat.pow_succ]; omega
    split <;> omega
theorem or_pow (a k : Nat) (h : a < 2 ^ k) : a ||| 2 ^ k = a + 2 ^ k := by
  have := Nat.two_pow_add_eq_or_of_lt h 1
  rw [Nat.mul_one] at this
  rw [Nat.or_comm, ← this, Nat.add_comm]
theorem bit_and (t n : Nat) : (t &&& 2 ^ n != 0) = decide (t / 2 ^ n % 2 = 1) := by
  have h := Nat.testBit_eq_decide_div_mod_eq (x := t) (i := n)
  rw [← h, Bool.eq_iff_iff, bne_iff_ne]
  constructor
  · intro hne
    by_cases hb : t.testBit n = true
    · exact hb
    · exfalso
      apply hne
      apply Nat.eq_of_testBit_eq
      intro i
      rw [Nat.testBit_and, Nat.testBit_two_pow, Nat.zero_testBit]
      by_cases e : n = i
      · subst e; simp [hb]
      · simp [e]
  · intro hb h0
    have := congrArg (fun x => Nat.testBit x n) h0
    simp [Nat.testBit_and, Nat.testBit_two_pow, hb] at this
theorem pow_small (q : Nat) (h : q < 4) : 2 ^ q ≤ 8 := by
  match q, h with
  | 0, _ => decide
  | 1, _ => decide
  | 2, _ => decide
  | 3, _ => decide
theorem wpow (q : Nat) (h : q ≤ 16) : wrap64 ((2 : Int) ^ q) = ((2 ^ q : Nat) : Int) := by
  have h1 : (2 : Nat) ^ q ≤ 2 ^ 16 := Nat.pow_le_pow_right (by omega) h
  have e : (2 : Nat) ^ 16 = 65536 := by decide
  rw [show ((2 : Int) ^ q) = ((2 ^ q : Nat) : Int) by push_cast; rfl]
  exact wrap64_small _ (by omega)
theorem pow63 (q : Nat) (h : q ≤ 16) : 2 ^ q < 9223372036854775808 := by
  have h1 : (2 : Nat) ^ q ≤ 2 ^ 16 := Nat.pow_le_pow_right (by omega) h
  have e : (2 : Nat) ^ 16 = 65536 := by decide
  omega
theorem eq_cast (a : Nat) : ((a : Int) == 1) = decide (a = 1) := by
  rw [Bool.eq_iff_iff]; simp; omega
theorem ne_cast (a : Nat) : ((a : Int) != 0) = (a != 0) := by
  rw [Bool.eq_iff_iff]; simp
theorem wadd (a b : Nat) (ha : a < 100) (hb : b < 100) : wrap64 ((a : Int) + (b : Int)) = ((a + b : Nat) : Int) := by
  rw [show (a : Int) + b = ((a + b : Nat) : Int) by omega]; exact wrap64_small _ (by omega)

set_option maxRecDepth 100000 in
set_option maxHeartbeats 4000000 in
theorem value62 (w : World) (La : Option Addr) (Lc : Nat) (Li : List Int) (Lt : Int) (Lf Ln : Bool) (wa : Option Addr) (m c : Nat) (wv : Nat → Bool) (S : Seq w La Li.length (ints Li)) (SW : Seq w wa m (fun i => .bool (wv i))) (h4 : Li.length ≤ 4) (hin : ∀ x ∈ Li, 0 ≤ x ∧ x < m) (ht0 : 0 ≤ Lt) (ht1 : Lt < 65536) (hm : m ≤ 1000) :
    Calls Try.prog 62 #[.agg #[.slice La Li.length Lc, .int .i64 Lt, .bool Lf, .bool Ln], .slice wa m c] w fun e w' => e = .returned (.bool (valueB Li Lt wv)) ∧ Below w.heap.size w w' := by
  obtain ⟨W1, hW1⟩ : ∃ W1, W1 = w.alloc (Obj.cells #[.slice La Li.length Lc, .int .i64 Lt, .bool Lf, .bool Ln] 43) := ⟨_, rfl⟩
  have hb : Below w.heap.size w W1 := by rw [hW1]; exact (Below.refl _ _).alloc (Nat.le_refl _) _
  have HS := Lib.hid (S.below hb (Nat.le_refl _))
  have HSW := Lib.hid (SW.below hb (Nat.le_refl _))
  have e0 : W1.cell? ⟨w.heap.size, 0, none⟩ = some (.slice La Li.length Lc) := by rw [hW1]; simp
  have e1 : W1.cell? ⟨w.heap.size, 1, none⟩ = some (.int .i64 Lt) := by rw [hW1]; simp
  have HIn := Lib.hid hin
  have HB := Lib.hid hb
  have HW1 := Lib.hid hW1
  have HVal : Hid (valueB Li Lt wv = decide (Lt.toNat / 2 ^ (idxTo Li wv Li.length) % 2 = 1)) := Lib.hid rfl
  clear S SW hin hb hW1
  go_enter Try.func62, Try.ntmps62
  go_wp2_with fail
  rw [← HW1.out]
  go_loop [5, 11] (fun av qv => ∃ q : Nat, q ≤ Li.length ∧ qv = .int .i64 q ∧ av = .int .i64 (idxTo Li wv q : Nat)) (fun _ qv => Li.length - (intOf qv).toNat)
  case atStart => exact ⟨0, by omega, rfl, rfl⟩
  case round =>
    obtain ⟨q, hq, rfl, rfl⟩ := hrel
    have hil := idxTo_lt Li wv q
    by_cases hlq : q < Li.length
    · obtain ⟨b3, off3, hLa, hb3, hc3⟩ := HS.out.at q hlq
      have x0 := hc3 q hlq
      unfold ints at x0
      have hxin := HIn.out _ (getD_mem Li 0 hlq)
      have hst : idxTo Li wv (q + 1) = idxTo Li wv q + (if wv (Li.getD q 0).toNat then 2 ^ q else 0) := rfl
      obtain ⟨x, hx⟩ : ∃ x, x = Li.getD q 0 := ⟨_, rfl⟩
      rw [← hx] at x0 hxin hst
      obtain ⟨xn, rfl⟩ : ∃ n : Nat, x = n := ⟨x.toNat, by omega⟩
      have hxm : xn < m := by omega
      obtain ⟨b4, off4, hWa, hb4, hc4⟩ := HSW.out.at xn hxm
      have y0 := hc4 xn hxm
      rw [Int.toNat_natCast] at hst
      obtain ⟨bv, hbv⟩ : ∃ b, b = wv xn := ⟨_, rfl⟩
      rw [← hbv] at y0 hst
      have HSh := Lib.hid (wpow q (by omega))
      have hp8 := pow_small q (by omega)
      obtain ⟨iq, hiq⟩ : ∃ i, i = idxTo Li wv q := ⟨_, rfl⟩
      rw [← hiq] at hst hil ⊢
      obtain ⟨pq, hpq⟩ : ∃ i, i = 2 ^ q := ⟨_, rfl⟩
      rw [← hpq] at hst hil HSh hp8
      have hor0 := or_pow iq q (by rw [← hpq]; exact hil)
      rw [← hpq] at hor0
      have hiq8 : iq < 8 := by omega
      have HOr : Hid (wrap64 ((iq : Int) + wrap64 ((2 : Int) ^ q)) = ((iq + pq : Nat) : Int)) := Lib.hid (by rw [HSh.out]; exact wadd iq pq (by omega) (by omega))
      have HSt := Lib.hid hst
      clear hx hbv hst hiq hpq hc3 hc4 hil hor0
      subst hLa hWa
      cases bv
      · go_wp2_with fail
        go_round
        case rel => exact ⟨q + 1, by omega, by go_num, by rw [HSt.out]; simp⟩
        case measure => simp [intOf]; omega
      · go_wp2_with fail
        go_round
        case rel => exact ⟨q + 1, by omega, by go_num, by rw [HSt.out]; exact congrArg (Value.int .i64) HOr.out⟩
        case measure => simp [intOf]; omega
    · obtain rfl : q = Li.length := by omega
      have hi16 : idxTo Li wv Li.length < 16 := by
        have h2 : 2 ^ Li.length ≤ 2 ^ 4 := Nat.pow_le_pow_right (by omega) h4
        have e4 : (2 : Nat) ^ 4 = 16 := by decide
        omega
      obtain ⟨ix, hix⟩ : ∃ i, i = idxTo Li wv Li.length := ⟨_, rfl⟩
      rw [← hix] at HVal hi16 ⊢
      have HI := Lib.hid hi16
      obtain ⟨T, rfl⟩ : ∃ T : Nat, Lt = T := ⟨Lt.toNat, by omega⟩
      clear hil hix hi16
      go_wp2_with fail
      go_ret
      refine ⟨ret_bool ?_, HB.out⟩
      rw [HVal.out, show min ix 64 = ix by have := HI.out; omega, bit_i64 T ix (by omega), Int.toNat_natCast, eq_cast]

set_option maxRecDepth 100000 in
set_option maxHeartbeats 4000000 in
theorem value52 (w : World) (La : Option Addr) (Lc : Nat) (Li : List Int) (Lt : Int) (Lf Ln : Bool) (wa : Option Addr) (m c : Nat) (wv : Nat → Bool) (S : Seq w La Li.length (ints Li)) (SW : Seq w wa m (fun i => .bool (wv i))) (h4 : Li.length ≤ 4) (hin : ∀ x ∈ Li, 0 ≤ x ∧ x < m) (ht0 : 0 ≤ Lt) (ht1 : Lt < 65536) (hm : m ≤ 1000) :
    Calls Try.prog 52 #[.agg #[.slice La Li.length Lc, .int .i64 Lt, .bool Lf, .bool Ln], .slice wa m c] w fun e w' => e = .returned (.bool (valueB Li Lt wv)) ∧ Below w.heap.size w w' := by
  obtain ⟨W1, hW1⟩ : ∃ W1, W1 = w.alloc (Obj.cells #[.slice La Li.length Lc, .int .i64 Lt, .bool Lf, .bool Ln] 43) := ⟨_, rfl⟩
  have hb : Below w.heap.size w W1 := by rw [hW1]; exact (Below.refl _ _).alloc (Nat.le_refl _) _
  have HS := Lib.hid (S.below hb (Nat.le_refl _))
  have HSW := Lib.hid (SW.below hb (Nat.le_refl _))
  have e0 : W1.cell? ⟨w.heap.size, 0, none⟩ = some (.slice La Li.length Lc) := by rw [hW1]; simp
  have e1 : W1.cell? ⟨w.heap.size, 1, none⟩ = some (.int .i64 Lt) := by rw [hW1]; simp
  have HIn := Lib.hid hin
  have HB := Lib.hid hb
  have HW1 := Lib.hid hW1
  have HVal : Hid (valueB Li Lt wv = decide (Lt.toNat / 2 ^ (idxTo Li wv Li.length) % 2 = 1)) := Lib.hid rfl
  clear S SW hin hb hW1
  go_enter Try.func52, Try.ntmps52
  go_wp2_with fail
  rw [← HW1.out]
  go_loop [5, 11] (fun av qv => ∃ q : Nat, q ≤ Li.length ∧ qv = .int .i64 q ∧ av = .int .i64 (idxTo Li wv q : Nat)) (fun _ qv => Li.length - (intOf qv).toNat)
  case atStart => exact ⟨0, by omega, rfl, rfl⟩
  case round =>
    obtain ⟨q, hq, rfl, rfl⟩ := hrel
    have hil := idxTo_lt Li wv q
    by_cases hlq : q < Li.length
    · obtain ⟨b3, off3, hLa, hb3, hc3⟩ := HS.out.at q hlq
      have x0 := hc3 q hlq
      unfold ints at x0
      have hxin := HIn.out _ (getD_mem Li 0 hlq)
      have hst : idxTo Li wv (q + 1) = idxTo Li wv q + (if wv (Li.getD q 0).toNat then 2 ^ q else 0) := rfl
      obtain ⟨x, hx⟩ : ∃ x, x = Li.getD q 0 := ⟨_, rfl⟩
      rw [← hx] at x0 hxin hst
      obtain ⟨xn, rfl⟩ : ∃ n : Nat, x = n := ⟨x.toNat, by omega⟩
      have hxm : xn < m := by omega
      obtain ⟨b4, off4, hWa, hb4, hc4⟩ := HSW.out.at xn hxm
      have y0 := hc4 xn hxm
      rw [Int.toNat_natCast] at hst
      obtain ⟨bv, hbv⟩ : ∃ b, b = wv xn := ⟨_, rfl⟩
      rw [← hbv] at y0 hst
      have HSh := Lib.hid (wpow q (by omega))
      have hp8 := pow_small q (by omega)
      obtain ⟨iq, hiq⟩ : ∃ i, i = idxTo Li wv q := ⟨_, rfl⟩
      rw [← hiq] at hst hil ⊢
      obtain ⟨pq, hpq⟩ : ∃ i, i = 2 ^ q := ⟨_, rfl⟩
      rw [← hpq] at hst hil HSh hp8
      have hor0 := or_pow iq q (by rw [← hpq]; exact hil)
      rw [← hpq] at hor0
      have hiq8 : iq < 8 := by omega
      have HOr : Hid (bits .or .i64 (iq : Int) (wrap64 ((2 : Int) ^ q)) = ((iq + pq : Nat) : Int)) := Lib.hid (by rw [HSh.out, i64_or_nat _ _ (by omega) (by omega), hor0])
      have HSt := Lib.hid hst
      clear hx hbv hst hiq hpq hc3 hc4 hil hor0
      subst hLa hWa
      cases bv
      · go_wp2_with fail
        go_round
        case rel => exact ⟨q + 1, by omega, by go_num, by rw [HSt.out]; simp⟩
        case measure => simp [intOf]; omega
      · go_wp2_with fail
        go_round
        case rel => exact ⟨q + 1, by omega, by go_num, by rw [HSt.out]; exact congrArg (Value.int .i64) HOr.out⟩
        case measure => simp [intOf]; omega
    · obtain rfl : q = Li.length := by omega
      have hi16 : idxTo Li wv Li.length < 16 := by
        have h2 : 2 ^ Li.length ≤ 2 ^ 4 := Nat.pow_le_pow_right (by omega) h4
        have e4 : (2 : Nat) ^ 4 = 16 := by decide
        omega
      obtain ⟨ix, hix⟩ : ∃ i, i = idxTo Li wv Li.length := ⟨_, rfl⟩
      rw [← hix] at HVal hi16 ⊢
      have HI := Lib.hid hi16
      obtain ⟨T, rfl⟩ : ∃ T : Nat, Lt = T := ⟨Lt.toNat, by omega⟩
      have hix2 : (ix : Int) < 64 := by omega
      clear hil hix
      go_wp2_with fail
      go_quiet (fail)
      go_wp2_with fail
      go_ret
      refine ⟨ret_bool ?_, belowN HB.out⟩
      rw [HVal.out, wpow ix (by have := HI.out; omega), i64_and_nat T (2 ^ ix) (by omega) (pow63 ix (by have := HI.out; omega)), ne_cast, bit_and, Int.toNat_natCast]

/-- The blocks with a flop. -/
def flopsTo (D : PackD) (j : Nat) : List Nat := (List.range j).filter (fun i => (D.blk i).ff)
def flopsL (D : PackD) : List Nat := flopsTo D D.n
theorem flopsTo_succ (D : PackD) (j : Nat) : flopsTo D (j + 1) = flopsTo D j ++ (if (D.blk j).ff then [j] else []) := by
  unfold flopsTo
  rw [List.range_succ, List.filter_append]
  by_cases h : (D.blk j).ff = true
  · rw [if_pos h, List.filter_cons, if_pos h]; rfl
  · rw [if_neg h, List.filter_cons, if_neg h]; rfl
theorem flopsTo_len (D : PackD) (j : Nat) : (flopsTo D j).length ≤ j := by
  unfold flopsTo
  exact Nat.le_trans (List.length_filter_le _ _) (by simp)
theorem flopsTo_lt (D : PackD) (j : Nat) : ∀ x ∈ flopsTo D j, x < j ∧ (D.blk x).ff = true := by
  intro x hx
  unfold flopsTo at hx
  simpa using hx
def NewNums (w : World) (l : List Nat) (e : Ending) (w' : World) : Prop := ∃ v, e = .returned v ∧ w'.ownsRow w.heap.size 3 1 v l.length (nums l) ∧ Below w.heap.size w w'
set_option maxRecDepth 100000 in
set_option maxHeartbeats 4000000 in
theorem flops50 (w : World) (P : PackV) (h : PackAt w P) (hf1 : P.bs.length ≤ 500) : Calls Try.prog 50 #[P.val] w (NewNums w (flopsL P.data)) := by
  obtain ⟨i3, hi3, hz0, hz1, hz2⟩ := info_parts info3
  have hx := PBox.start w P
  obtain ⟨W1, hW1⟩ : ∃ W1, W1 = w.alloc P.obj := ⟨_, rfl⟩
  rw [← hW1] at hx
  have c1 := hx.c1
  have HX := Lib.hid hx
  have H := Lib.hid h
  have hst := fun i => flopsTo_succ P.data i
  have hbk := data_blk P
  have hDn := data_n P
  obtain ⟨D, hD⟩ : ∃ D, D = P.data := ⟨_, rfl⟩
  rw [← hD] at hst hbk hDn ⊢
  have HSt := Lib.hid hst
  have HBk := Lib.hid hbk
  have HDn := Lib.hid hDn
  obtain ⟨ins, ba, bc, bs, oa, oc, os⟩ := P
  dsimp only at c1 hf1
  have HW1 := Lib.hid hW1
  have hs1 := hx.size
  clear hx h hst hbk hDn hD hW1
  go_enter Try.func50, Try.ntmps50
  go_wp2_with fail
  rw [← HW1.out]
  go_loopw [2, 8] (fun ov iv wr => ∃ (i : Nat) (v : Value), i ≤ bs.length ∧ iv = .int .i64 i ∧ v = ov ∧ Hid (Below W1.heap.size W1 wr ∧ wr.ownsRow W1.heap.size 3 1 v (flopsTo D i).length (nums (flopsTo D i)))) (fun _ iv _ => bs.length - (intOf iv).toNat)
  case atStart => exact ⟨0, _, by omega, rfl, rfl, Lib.hid ⟨Below.refl _ _, World.ownsRow_nil _ _ _ _⟩⟩
  case round =>
    obtain ⟨i, v, hi, rfl, rfl, hh⟩ := hrel
    by_cases hlt : i < bs.length
    · have hx := HX.out.step hh.out.1 HX.out.size
      obtain ⟨b, off, hba, hbb, d0, d1, d2, d3⟩ := (H.out.below hx.below (Nat.le_refl _)).blk i hlt
      have hs := HSt.out i
      rw [HBk.out] at hs
      have hlen := flopsTo_len D i
      dsimp only at hba d0 d1 d2 d3 hs
      obtain ⟨L, hLe⟩ : ∃ L, L = bs.getD i default := ⟨_, rfl⟩
      rw [← hLe] at d0 d1 d2 d3 hs
      obtain ⟨La, Lc, Li, Lt, Lf, Ln⟩ := L
      dsimp only at d0 d1 d2 d3 hs
      have HS := Lib.hid hs
      have hzs := hh.out.1.size
      have HOw := Lib.hid (hh.out.2.alloc (Obj.cells #[Value.slice La Li.length Lc, Value.int .i64 Lt, Value.bool Lf, Value.bool Ln] 43))
      have HB := Lib.hid hh.out.1
      obtain ⟨fl, hfl⟩ : ∃ f, f = flopsTo D i := ⟨_, rfl⟩
      rw [← hfl] at hlen HS HOw
      clear hLe hs hx hh hfl
      subst hba
      cases Lf
      · go_wp2_with fail
        go_roundw
        case rel => exact ⟨i + 1, v, by omega, by go_num, rfl, Lib.hid ⟨HB.out.alloc hzs _, by rw [HS.out]; simpa using HOw.out⟩⟩
        case measure => simp [intOf]; omega
      · go_wp2_with (at_builtin; go_loud (refine wpList_append_lies _ rfl _ _ _ rfl W1.heap.size 3 i3 (.int .i64 0) 1 8 Try.underlying24 hi3 hz0 hz1 hz2 rfl (by decide) v fl.length (nums fl) rfl (HOw.out.alloc _) ⟨wr.heap.size + 1, 0, none⟩ 1 1 [.int .i64 i] rfl rfl (one_new (by exact cell_top _ _ _ _ _ _ (by simp) rfl)) (by simp [Value.oneCell']) (by omega) (by unfold maxLen; omega) (by omega) (by simp; omega) (wr.heap.size + 2) (by simp) ?_))
        intro gB cB w9 ho9 hg9 hat9 hlt9
        have hb9 : Below W1.heap.size W1 w9 := ((HB.out.alloc hzs (Obj.cells #[Value.slice La Li.length Lc, Value.int .i64 Lt, Value.bool true, Value.bool Ln] 43)).alloc (by simp; omega) (Obj.cells #[Value.int .i64 i] 3)).grown hg9 (by simp; omega) (fun k e => (HOw.out.lt k e).1)
        have HN : Hid (Below W1.heap.size W1 w9 ∧ w9.ownsRow W1.heap.size 3 1 (.slice (some ⟨gB, 0, none⟩) (fl.length + 1) cB) (flopsTo D (i + 1)).length (nums (flopsTo D (i + 1)))) := Lib.hid ⟨hb9, by rw [HS.out, if_pos (by first | rfl | trivial), nums_snoc, List.length_append]; exact ho9⟩
        clear ho9 hg9 hat9 hlt9 hb9
        go_wp2_with fail
        go_roundw
        case rel => exact ⟨i + 1, _, by omega, by go_num, rfl, HN⟩
        case measure => simp [intOf]; omega
    · obtain rfl : i = bs.length := by omega
      go_wp2_with fail
      go_ret
      refine ⟨v, rfl, ?_, HX.out.below.trans (hh.out.1.mono (by omega))⟩
      have e : flopsL D = flopsTo D bs.length := by unfold flopsL; rw [HDn.out]
      rw [e]
      exact hh.out.2.base_le (by omega)
end Go.Proofs.Ytibimdhmfchcoaa
