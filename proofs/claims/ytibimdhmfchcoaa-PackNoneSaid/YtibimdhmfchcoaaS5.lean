/- What a net tells, and keeps (played, Eval). -/
import Derived.Test.YtibimdhmfchcoaaS4
import Derived.Test.YtibimdhmfchcoaaBW
import Derived.Test.YtibimdhmfchcoaaG3
namespace Go.Proofs.Ytibimdhmfchcoaa
open Go.RowKit Go.Shelf Go.Maps
set_option linter.unusedVariables false
set_option linter.unusedSimpArgs false

theorem Wir.base {w : World} {B B' m : Nat} {a : Option Addr} {f : Nat → Bool} (h : Wir w B a m f) (hb : B' ≤ B) : Wir w B' a m f := by
  rcases h with h | ⟨g, ha, h1, r⟩
  · exact .inl h
  · exact .inr ⟨g, ha, by omega, r⟩
def NewPlayed (w : World) (N : NetV) (V : List Bool) (e : Ending) (w' : World) : Prop :=
  ∃ p1 c1 p2 c2, e = .returned (.tuple #[.slice p1 (netOut N V).length c1, .slice p2 (netNext N V).length c2]) ∧
    Wir w' w.heap.size p1 (netOut N V).length (fun j => (netOut N V).getD j false) ∧ Wir w' w.heap.size p2 (netNext N V).length (fun j => (netNext N V).getD j false) ∧ Below w.heap.size w w'
theorem netNext_take (N : NetV) (V : List Bool) (j : Nat) (hj : j < N.holds.length) : (netNext N V).take (j + 1) = (netNext N V).take j ++ [V.getD (N.holds.getD j default).d.toNat false] := by
  have hl : j < (netNext N V).length := by simp [netNext, hj]
  rw [take_one (netNext N V) false j hl]
  congr 2
  unfold netNext
  simp [List.getD_eq_getElem?_getD, List.getElem?_eq_getElem hj]

set_option maxRecDepth 100000 in
set_option maxHeartbeats 8000000 in
theorem played (w : World) (N : NetV) (hN : NetAt w N) (hf : Few N) (hok : NetOk N 6) (a1 a2 : Option Addr) (c1 c2 : Nat) (inn st : List Bool) (S1 : Seq w a1 inn.length (bools inn)) (S2 : Seq w a2 st.length (bools st))
    (h2 : (inn.length : Int) = N.ins) (h3 : st.length = N.holds.length) :
    Calls Try.prog 54 #[N.val, .slice a1 inn.length c1, .slice a2 st.length c2] w (NewPlayed w N (netV N inn st)) := by
  obtain ⟨i4, hi4, hz0, hz1, hz2⟩ := info_parts info4b
  have hi1 := hf.ins
  have hi0 := hok.ins0
  have hh1 := hf.holds
  have hl1 := hf.luts
  have ho1 := hf.outs
  have HX := Lib.hid (Box.start w N)
  have HN := Lib.hid hN
  have HF := Lib.hid hf
  have hVl : (netV N inn st).length = firstN N + N.luts.length := by
    unfold netV
    rw [valTo_length]
    have : (v0Of inn st).length = firstN N := by unfold v0Of firstN; simp; omega
    omega
  have hfi := firstN_int hi0
  have C67 := fun W (hW : Below w.heap.size w W) => values W N (hN.below hW (Nat.le_refl _)) hf hok a1 a2 c1 c2 inn st (S1.below hW (Nat.le_refl _)) (S2.below hW (Nat.le_refl _)) h2 h3
  have hdd : ∀ h ∈ N.holds, 0 ≤ h.d ∧ h.d < 1 + N.ins + N.holds.length + N.luts.length := hok.holds
  have hdo : ∀ x ∈ N.outs, 0 ≤ x ∧ x < 1 + N.ins + N.holds.length + N.luts.length := hok.outs
  rw [show valTo N (v0Of inn st) N.luts.length = netV N inn st from rfl] at C67
  obtain ⟨V, hV⟩ : ∃ v, v = netV N inn st := ⟨_, rfl⟩
  rw [← hV] at C67 hVl ⊢
  obtain ⟨n, hn⟩ : ∃ n, n = V.length := ⟨_, rfl⟩
  rw [← hn] at hVl
  obtain ⟨n1, hn1⟩ : ∃ n, n = inn.length := ⟨_, rfl⟩
  obtain ⟨n2, hn2⟩ : ∃ n, n = st.length := ⟨_, rfl⟩
  rw [← hn1, ← hn2] at C67 ⊢
  have HC67 := Lib.hid C67
  have HDd := Lib.hid hdd
  have HDo := Lib.hid hdo
  have HNV := Lib.hid hn
  have hnn : (n : Int) = 1 + N.ins + N.holds.length + N.luts.length := by omega
  have HNn := Lib.hid hnn
  have hn500 : n ≤ 500 := by omega
  clear hV hn1 hn2 C67 hdd hdo S1 S2 h2 h3 hN hf hn hVl hfi hnn hok
  obtain ⟨nh, hnh⟩ : ∃ n, n = N.holds.length := ⟨_, rfl⟩
  obtain ⟨no, hno⟩ : ∃ n, n = N.outs.length := ⟨_, rfl⟩
  obtain ⟨ha, hha⟩ : ∃ n, n = N.ha := ⟨_, rfl⟩
  obtain ⟨oa, hoa⟩ : ∃ n, n = N.oa := ⟨_, rfl⟩
  go_enter Try.func54, Try.ntmps54
  go_wp2_with fail
  refine Calls.mono (HC67.out _ HX.out.below) ?_
  rintro e w2 ⟨v, rfl, how, hb2⟩
  rw [← HNV.out] at how
  obtain ⟨va, vc, rfl, hvw⟩ := Wir.of_own how
  have hx := HX.out.step hb2 (by simp)
  have b1 := hx.c1
  have b3 := hx.c3
  rw [← hnh, ← hha] at b1
  rw [← hno, ← hoa] at b3
  have HX2 := Lib.hid hx
  have hvs : Seq w2 va n (bools V) := hvw.seq
  have HVs := Lib.hid hvs
  have HNh := Lib.hid hnh
  have HNo := Lib.hid hno
  have HHa := Lib.hid hha
  have HOa := Lib.hid hoa
  rw [← hnh] at hh1
  rw [← hno] at ho1
  have HSz2 := Lib.hid hx.size
  clear how hb2 hvw hx hvs hnh hno hha hoa
  go_wp2_with fail
  go_loopw [7, 18] (fun ov jv wr => ∃ (j : Nat) (u : Value), j ≤ nh ∧ jv = .int .i64 j ∧ u = ov ∧ Hid (Below w2.heap.size w2 wr ∧ wr.ownsRow w2.heap.size 4 1 u j (((netNext N V).take j).map Value.bool))) (fun _ jv _ => nh - (intOf jv).toNat)
  case atStart => exact ⟨0, _, by omega, rfl, rfl, Lib.hid ⟨Below.refl _ _, World.ownsRow_nil _ _ _ _⟩⟩
  case round =>
    obtain ⟨j, u, hj, rfl, rfl, hh⟩ := hrel
    have hB7 : Below w.heap.size w wr := HX2.out.below.trans (hh.out.1.mono (by have := HSz2.out; omega))
    by_cases hlt : j < nh
    · have hjl : j < N.holds.length := by rw [← HNh.out]; exact hlt
      obtain ⟨kb, ko, hka, hkb, hcs⟩ := (HN.out.below hB7 (Nat.le_refl _)).holds.at (2 * j) (by omega)
      have d0 := hcs (j * 2) (by omega)
      have d1 := hcs (j * 2 + 1) (by omega)
      simp only [holdCell] at d0 d1
      rw [if_pos (by omega), show j * 2 / 2 = j by omega] at d0
      rw [if_neg (by omega), show (j * 2 + 1) / 2 = j by omega, ← Nat.add_assoc] at d1
      have hd := HDd.out _ (getD_mem N.holds default hjl)
      have hnt := netNext_take N V j hjl
      obtain ⟨L, hLe⟩ : ∃ L, L = N.holds.getD j default := ⟨_, rfl⟩
      rw [← hLe] at d0 d1 hd hnt
      obtain ⟨d, di⟩ := L
      dsimp only at d0 d1 hd hnt
      obtain ⟨dn, rfl⟩ : ∃ k : Nat, d = k := ⟨d.toNat, by omega⟩
      have hdn : dn < n := by have := HNn.out; omega
      rw [Int.toNat_natCast] at hnt
      obtain ⟨vb, vo, hva, hvb, hvc⟩ := (HVs.out.below hh.out.1 (Nat.le_refl _)).at dn hdn
      have yv := hvc dn hdn
      unfold bools at yv
      obtain ⟨bv, hbv⟩ : ∃ b, b = V.getD dn false := ⟨_, rfl⟩
      rw [← hbv] at yv hnt
      obtain ⟨xs, hxs⟩ : ∃ l, l = (netNext N V).take j := ⟨_, rfl⟩
      rw [← hxs] at hh hnt
      rw [← HHa.out] at hka
      have HNt := Lib.hid hnt
      have HB := Lib.hid hh.out.1
      have hsz7 := HB.out.size
      have HO5 := Lib.hid (hh.out.2.alloc (Obj.cells #[Value.int .i64 (dn : Int), Value.bool di] 63))
      clear hLe hB7 hh hxs hnt hcs hbv hvc hd
      subst hka hva
      go_wp2_with (at_builtin; refine wpList_append_lies _ rfl _ _ _ rfl w2.heap.size 4 i4 (.bool false) 1 1 Try.underlying37 hi4 hz0 hz1 hz2 rfl (by decide) u j (xs.map Value.bool) rfl (HO5.out.alloc _) ⟨wr.heap.size + 1, 0, none⟩ 1 1 [.bool bv] rfl rfl (one_new (by simp)) (by simp [Value.oneCell']) (by omega) (by unfold maxLen; omega) (by omega) (by simp; omega) (wr.heap.size + 2) (by simp) ?_)
      intro gB cB w9 ho9 hg9 hat9 hlt9
      have HN2 : Hid (Below w2.heap.size w2 w9 ∧ w9.ownsRow w2.heap.size 4 1 (.slice (some ⟨gB, 0, none⟩) (j + 1) cB) (j + 1) (((netNext N V).take (j + 1)).map Value.bool)) := Lib.hid ⟨((HB.out.alloc (by omega) _).alloc (by simp; omega) _).grown hg9 (by simp; omega) (fun k e => (HO5.out.lt k e).1), by rw [HNt.out, List.map_append]; exact ho9⟩
      clear ho9 hg9 hat9 hlt9
      go_wp2_with fail
      go_roundw
      case rel => exact ⟨j + 1, _, by omega, by go_num, rfl, HN2⟩
      case measure => simp [intOf]; omega
    · obtain rfl : nh = j := by omega
      have hnl : (netNext N V).length = nh := by simp [netNext, HNh.out]
      have ho := hh.out.2
      rw [List.take_of_length_le (by omega)] at ho
      have HB4 := Lib.hid hh.out.1
      have b1 := (HB4.out.cell (p := ⟨w.heap.size, 1, none⟩) (by have := HSz2.out; simp only; omega)).trans b1
      have b3 := (HB4.out.cell (p := ⟨w.heap.size, 3, none⟩) (by have := HSz2.out; simp only; omega)).trans b3
      have HO4 := Lib.hid ho
      have HNl := Lib.hid hnl
      have hout := (HN.out.below hB7 (Nat.le_refl _)).outs
      rw [← HNo.out, ← HOa.out] at hout
      have hnol := HNo.out
      have C68 := pickBools wr va n vc V (HVs.out.below HB4.out (Nat.le_refl _)) (by omega) oa no N.oc N.outs HNo.out.symm (by omega) hout (fun x hx => by have := HDo.out x hx; have := HNn.out; omega)
      have HC68 := Lib.hid C68
      have HB7 := Lib.hid hB7
      clear C68 hout hnol hh ho hnl hB7
      obtain ⟨ua, uc, rfl⟩ := owns_val HO4.out
      go_wp2_with fail
      refine Calls.mono HC68.out ?_
      rintro e w9 ⟨v9, rfl, how9, hb9⟩
      have e9 : pickB V N.outs = netOut N V := rfl
      rw [e9] at how9
      obtain ⟨pa, pc, rfl, hpw⟩ := Wir.of_own how9
      have HPw := Lib.hid hpw
      have HB9 := Lib.hid hb9
      have hs1 := HB7.out.size
      clear how9 hpw hb9 e9
      go_wp2_with fail
      go_ret2
      refine ⟨pa, pc, ua, uc, ?_, HPw.out.base hs1, ?_, HB7.out.trans (HB9.out.mono hs1)⟩
      · rw [HNl.out]; rfl
      · obtain ⟨a, c, hv, hw⟩ := Wir.of_own (xs := netNext N V) (own_below HO4.out HB9.out)
        injection hv with q1 q2 q3
        rw [HNl.out, q1]
        exact hw.base (by have := HX2.out.below.size; omega)
end Go.Proofs.Ytibimdhmfchcoaa
