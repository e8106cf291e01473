/- A net run tick by tick (lutmap.Run). -/
import Derived.Test.YtibimdhmfchcoaaS5
namespace Go.Proofs.Ytibimdhmfchcoaa
open Go.RowKit Go.Shelf Go.Maps
set_option linter.unusedVariables false
set_option linter.unusedSimpArgs false

/-- What stands when k rows have been told, in rows that grow. -/
structure RanF (W : World) (O : Nat → List Bool) (k : Nat) (v : Value) (rs : List RowV) (wr : World) : Prop where
  below : Below W.heap.size W wr
  own : wr.ownsRow W.heap.size 37 1 v k (rs.map RowV.val)
  len : rs.length = k
  outs : rowsL rs = (List.range k).map O
  each : ∀ i, i < k → ROff wr v (rs.getD i default)
theorem RanF.start (W : World) (O : Nat → List Bool) : RanF W O 0 (.slice none 0 0) [] W :=
  ⟨Below.refl _ _, World.ownsRow_nil _ _ _ _, rfl, rfl, fun i hi => by omega⟩
theorem RanF.step {W wr w6 w9 : World} {O : Nat → List Bool} {k gB cB : Nat} {v : Value} {rs : List RowV} {r : RowV} {o : Obj} (h : RanF W O k v rs wr) (hb : Below wr.heap.size wr w6) (hw : Wir w6 wr.heap.size r.a r.l.length (fun j => r.l.getD j false)) (ho : r.l = O k)
    (ho9 : w9.ownsRow W.heap.size 37 1 (.slice (some ⟨gB, 0, none⟩) (k + 1) cB) (k + 1) (rs.map RowV.val ++ [r.val])) (hg9 : (w6.alloc o).grownBy w9 v.ownBlock) (hat : v.ownBlock = some gB ∨ gB = w6.heap.size + 1) :
    RanF W O (k + 1) (.slice (some ⟨gB, 0, none⟩) (k + 1) cB) (rs ++ [r]) w9 := by
  have hs := h.below.size
  have hs6 := hb.size
  have hba : Below w6.heap.size w6 (w6.alloc o) := (Below.refl _ _).alloc (Nat.le_refl _) _
  refine ⟨((h.below.trans (hb.mono hs)).alloc (by omega) o).grown hg9 (by simp; omega) (fun b e => (h.own.lt b e).1), by rw [List.map_append]; exact ho9, by rw [List.length_append, h.len]; rfl, ?_, fun i hi => ?_⟩
  · rw [List.range_succ, List.map_append, ← h.outs, List.map_cons, List.map_nil, ← ho]
    unfold rowsL
    rw [List.map_append]; rfl
  · rw [rows_snoc _ _ _ (by rw [h.len]; exact hi), h.len]
    by_cases e : i = k
    · rw [if_pos e]; exact ((ROff.new h.own hw).below hba).grown hg9 hat (by simp) rfl
    · rw [if_neg e]; exact (((h.each i (by omega)).below hb).below hba).grown hg9 hat (by simp) rfl
def NewRunF (w : World) (E : Int) (Os : List (List Bool)) (e : Ending) (w' : World) : Prop :=
  ∃ (a : Option Addr) (c : Nat) (rs : List RowV), e = .returned (.tuple #[.slice a rs.length c, .int .i64 E]) ∧ rowsL rs = Os ∧ RowsAt w' a rs ∧ Below w.heap.size w w'
theorem RanF.done {w W wr : World} {O : Nat → List Bool} {m : Nat} {v : Value} {rs : List RowV} (h : RanF W O m v rs wr) (hm2 : m ≤ 1000) (hO : ∀ k, (O k).length ≤ 1000) (hb : Below w.heap.size w wr) :
    NewRunF w 0 ((List.range m).map O) (.returned (.tuple #[v, .int .i64 0])) wr := by
  obtain ⟨a, c, rfl⟩ := owns_val h.own
  refine ⟨a, c, rs, by rw [h.len], h.outs, ⟨?_, fun i hi => ?_, fun i hi => ?_, by rw [h.len]; omega⟩, hb⟩
  · rcases Nat.eq_zero_or_pos m with h0 | h0
    · exact .inl (by rw [h.len, h0])
    · obtain ⟨g, cap, hv, _, _, hc⟩ := owns_cells h.own h0
      injection hv with hv
      refine .inr ⟨g, 0, hv, fun i hi => ?_⟩
      rw [Nat.zero_add, hc i (by rw [List.length_map]; exact hi), List.getElem_map]
      unfold rowCell RowV.val
      rw [List.getD_eq_getElem?_getD, List.getElem?_eq_getElem hi]; rfl
  · exact (h.each i (by rw [← h.len]; exact hi)).seq
  · have h1 := rows_get rs i
    rw [← h1, h.outs, List.getD_eq_getElem?_getD, List.getElem?_map, List.getElem?_range (by rw [← h.len]; exact hi)]
    have := hO i
    show (O i).length ≤ _
    omega
theorem noRunF {w w' : World} {E : Int} (hb : Below w.heap.size w w') : NewRunF w E [] (.returned (.tuple #[.slice none 0 0, .int .i64 E])) w' :=
  ⟨none, 0, [], rfl, rfl, ⟨.inl rfl, fun i hi => by simp at hi, fun i hi => by simp at hi, by simp⟩, hb⟩

set_option maxRecDepth 100000 in
set_option maxHeartbeats 8000000 in
theorem run26 (w : World) (N : NetV) (hN : NetAt w N) (hf : Few N) (hok : NetOk N 6) (ra : Option Addr) (rc : Nat) (is : List RowV) (hI : RowsAt w ra is) (hm : is.length ≤ 1000) (h200 : ∀ k, ((rowsL is).getD k []).length ≤ 200) :
    Calls Try.prog 26 #[N.val, .slice ra is.length rc] w (NewRunF w (netRE N (rowsL is)) (netRO N (rowsL is))) := by
  obtain ⟨i4, hi4, hz0, hz1, hz2⟩ := info_parts info4b
  obtain ⟨i37, h37, v0, v1, v2⟩ := info_parts info37
  have hi1 := hf.ins
  have hi0 := hok.ins0
  have hh1 := hf.holds
  have hl1 := hf.luts
  have ho1 := hf.outs
  have HX := Lib.hid (Box.start w N)
  have HN := Lib.hid hN
  have HF := Lib.hid hf
  have HOk := Lib.hid hok
  have HI := Lib.hid hI
  have HR200 := Lib.hid h200
  obtain ⟨inns, hinns⟩ : ∃ l, l = rowsL is := ⟨_, rfl⟩
  have hil : inns.length = is.length := by rw [hinns]; simp [rowsL]
  rw [← hinns]
  obtain ⟨m, hme⟩ : ∃ m, m = is.length := ⟨_, rfl⟩
  rw [← hme] at hil hm ⊢
  have HIl := Lib.hid hil
  have HMi := Lib.hid hme
  have HInns := Lib.hid hinns
  have HOut : Hid (∀ k, (nOut N inns k).length ≤ 1000) := Lib.hid (fun k => by unfold nOut netOut; rw [List.length_map]; omega)
  obtain ⟨nh, hnh⟩ : ∃ n, n = N.holds.length := ⟨_, rfl⟩
  obtain ⟨ha, hha⟩ : ∃ n, n = N.ha := ⟨_, rfl⟩
  clear hN hf hok hI h200 hinns hil hme
  go_enter Try.func26, Try.ntmps26
  go_wp2_with fail
  refine (check _ N (HN.out.below HX.out.below (Nat.le_refl _)) HF.out 6 (by omega)).mono ?_
  rintro e w2 ⟨rfl, hb2⟩
  have hc0 : chk N 6 = 0 := by unfold chk; rw [if_pos HOk.out]
  rw [hc0]
  have hx := HX.out.step hb2 (by simp)
  have b1 := hx.c1
  have b0 := hx.c0
  rw [← hnh, ← hha] at b1
  have HX2 := Lib.hid hx
  have HNh := Lib.hid hnh
  have HHa := Lib.hid hha
  rw [← hnh] at hh1
  have HSz2 := Lib.hid hx.size
  clear hb2 hx hnh hha hc0
  go_wp2_with fail
  go_loopw [7, 23] (fun ov jv wr => ∃ (j : Nat) (u : Value), j ≤ nh ∧ jv = .int .i64 j ∧ u = ov ∧ Hid (Below w2.heap.size w2 wr ∧ wr.ownsRow w2.heap.size 4 1 u j (((nst N inns 0).take j).map Value.bool))) (fun _ jv _ => nh - (intOf jv).toNat)
  case atStart => exact ⟨0, _, by omega, rfl, rfl, Lib.hid ⟨Below.refl _ _, World.ownsRow_nil _ _ _ _⟩⟩
  case round =>
    obtain ⟨j, u, hj, rfl, rfl, hh⟩ := hrel
    have hB7 : Below w.heap.size w wr := HX2.out.below.trans (hh.out.1.mono (by have := HSz2.out; omega))
    by_cases hlt : j < nh
    · have hjl : j < N.holds.length := by rw [← HNh.out]; exact hlt
      obtain ⟨kb, ko, hka, hkb, hcs⟩ := (HN.out.below hB7 (Nat.le_refl _)).holds.at (2 * j) (by omega)
      have d0 := hcs (j * 2) (by omega)
      have d1 := hcs (j * 2 + 1) (by omega)
      simp only [holdCell] at d0 d1
      rw [if_pos (by omega), show j * 2 / 2 = j by omega] at d0
      rw [if_neg (by omega), show (j * 2 + 1) / 2 = j by omega, ← Nat.add_assoc] at d1
      have hnt : (nst N inns 0).take (j + 1) = (nst N inns 0).take j ++ [(N.holds.getD j default).init] := by
        rw [take_one (nst N inns 0) false j (by rw [nst_len]; exact hjl)]
        congr 2
        show (N.holds.map HoldV.init).getD j false = _
        simp [List.getD_eq_getElem?_getD, List.getElem?_eq_getElem hjl]
      obtain ⟨L, hLe⟩ : ∃ L, L = N.holds.getD j default := ⟨_, rfl⟩
      rw [← hLe] at d0 d1 hnt
      obtain ⟨d, di⟩ := L
      dsimp only at d0 d1 hnt
      obtain ⟨xs, hxs⟩ : ∃ l, l = (nst N inns 0).take j := ⟨_, rfl⟩
      rw [← hxs] at hh hnt
      rw [← HHa.out] at hka
      have HNt := Lib.hid hnt
      have HB := Lib.hid hh.out.1
      have hsz7 := HB.out.size
      have HO5 := Lib.hid (hh.out.2.alloc (Obj.cells #[Value.int .i64 d, Value.bool di] 63))
      clear hLe hB7 hh hxs hnt hcs
      subst hka
      go_wp2_with (at_builtin; refine wpList_append_lies _ rfl _ _ _ rfl w2.heap.size 4 i4 (.bool false) 1 1 Try.underlying37 hi4 hz0 hz1 hz2 rfl (by decide) u j (xs.map Value.bool) rfl (HO5.out.alloc _) ⟨wr.heap.size + 1, 0, none⟩ 1 1 [.bool di] rfl rfl (one_new (by simp)) (by simp [Value.oneCell']) (by omega) (by unfold maxLen; omega) (by omega) (by simp; omega) (wr.heap.size + 2) (by simp) ?_)
      intro gB cB w9 ho9 hg9 hat9 hlt9
      have HN2 : Hid (Below w2.heap.size w2 w9 ∧ w9.ownsRow w2.heap.size 4 1 (.slice (some ⟨gB, 0, none⟩) (j + 1) cB) (j + 1) (((nst N inns 0).take (j + 1)).map Value.bool)) := Lib.hid ⟨((HB.out.alloc (by omega) _).alloc (by simp; omega) _).grown hg9 (by simp; omega) (fun k e => (HO5.out.lt k e).1), by rw [HNt.out, List.map_append]; exact ho9⟩
      clear ho9 hg9 hat9 hlt9
      go_wp2_with fail
      go_roundw
      case rel => exact ⟨j + 1, _, by omega, by go_num, rfl, HN2⟩
      case measure => simp [intOf]; omega
    · obtain rfl : nh = j := by omega
      have hnl : (nst N inns 0).length = nh := by rw [nst_len, HNh.out]
      have ho := hh.out.2
      rw [List.take_of_length_le (by omega)] at ho
      obtain ⟨va, vc, rfl, hvs⟩ := Wir.of_own ho
      have hv0 : Seq wr va nh (bools (nst N inns 0)) := hvs.seq
      have HV0 := Lib.hid hv0
      have HXW := Lib.hid (HX2.out.step hh.out.1 (HSz2.out))
      obtain ⟨W4, hW4⟩ : ∃ W, W = wr := ⟨_, rfl⟩
      rw [← hW4] at HV0 HXW
      rw [← hW4]
      have HRan0 := Lib.hid (RanF.start W4 (nOut N inns))
      have hgs : w.heap.size + 1 ≤ W4.heap.size := HXW.out.size
      clear hh ho hvs hv0 hW4 hnl hB7
      go_wp2_with fail
      go_loopw [7, 10, 35] (fun sv ov iv wr => ∃ (k : Nat) (rs : List RowV) (sa : Option Addr) (sc : Nat) (u : Value), k ≤ m ∧ iv = .int .i64 k ∧ sv = .slice sa nh sc ∧ u = ov ∧ Hid (RanF W4 (nOut N inns) k u rs wr ∧ Seq wr sa nh (bools (nst N inns k)) ∧ ∀ j, j < k → ((inns.getD j []).length : Int) = N.ins)) (fun _ _ iv _ => m - (intOf iv).toNat)
      case atStart => exact ⟨0, [], va, vc, _, by omega, rfl, rfl, rfl, Lib.hid ⟨HRan0.out, HV0.out, fun j hj => by omega⟩⟩
      case round =>
        obtain ⟨k, rs, sa, sc, u, hk, rfl, rfl, rfl, hh⟩ := hrel
        obtain ⟨hran, hsv, hall⟩ := hh.out
        have hx := HXW.out.step hran.below hgs
        by_cases hlk : k < m
        · have q0 := hx.c0
          have q1 := hx.c1
          have q2 := hx.c2
          have q3 := hx.c3
          have hNw := HN.out.below hx.below (Nat.le_refl _)
          have hR := HI.out.below hx.below (Nat.le_refl _)
          obtain ⟨ab, ao, hia, hab, hac⟩ := hR.rows.at k (by rw [← HMi.out]; exact hlk)
          have d0 := hac k (by rw [← HMi.out]; exact hlk)
          unfold rowCell at d0
          have s0 := hR.each k (by rw [← HMi.out]; exact hlk)
          have g0 := rows_get is k
          have h200 := HR200.out k
          rw [g0] at h200
          rw [← HInns.out] at g0
          obtain ⟨x, hxe⟩ : ∃ x, x = is.getD k default := ⟨_, rfl⟩
          rw [← hxe] at d0 s0 g0 h200
          obtain ⟨xa, xc, xl⟩ := x
          dsimp only at d0 s0 g0 h200
          have HOu := Lib.hid hran.own
          have HRan := Lib.hid hran
          have HHx := Lib.hid hx
          have HAll := Lib.hid hall
          have hst : (nst N inns k).length = N.holds.length := nst_len N inns k
          have hnA : nst N inns (k + 1) = netNext N (netV N xl (nst N inns k)) := by show netNext N (netV N (inns.getD k []) _) = _; rw [g0]
          have hoA : nOut N inns k = netOut N (netV N xl (nst N inns k)) := by unfold nOut; rw [g0]
          by_cases hxl : (xl.length : Int) = N.ins
          · have C54 := played wr N hNw HF.out HOk.out xa sa xc sc xl (nst N inns k) s0 (by rw [hst, ← HNh.out]; exact hsv) hxl hst
            rw [hst, ← HNh.out] at C54
            have hxb : ((xl.length : Int) != N.ins) = false := by simpa using hxl
            have HAll2 : Hid (∀ j, j < k + 1 → ((inns.getD j []).length : Int) = N.ins) := Lib.hid (fun j hj => by
              by_cases e : j = k
              · rw [e, g0]; exact hxl
              · exact HAll.out j (by omega))
            obtain ⟨xn, hxn⟩ : ∃ n, n = xl.length := ⟨_, rfl⟩
            rw [← hxn] at d0 C54 hxb
            obtain ⟨O, hO⟩ : ∃ e, e = netOut N (netV N xl (nst N inns k)) := ⟨_, rfl⟩
            obtain ⟨X, hX⟩ : ∃ e, e = netNext N (netV N xl (nst N inns k)) := ⟨_, rfl⟩
            have hXl : X.length = nh := by rw [hX]; unfold netNext; rw [List.length_map, HNh.out]
            rw [← hO] at hoA
            rw [← hX] at hnA
            have HC54 := Lib.hid C54
            have HO := Lib.hid hO
            have HXX := Lib.hid hX
            have HOA := Lib.hid hoA
            have HNA := Lib.hid hnA
            have HXl := Lib.hid hXl
            clear hac s0 g0 hxe hsv hNw hR C54 hoA hnA hO hX hran hxn hst h200 hh hall hx hxl hXl
            subst hia
            go_wp2_with fail
            refine Calls.mono HC54.out ?_
            rintro e w6 ⟨p1, c1, p2, c2, rfl, t1, t2, hb6⟩
            rw [← HO.out] at t1
            rw [← HXX.out, HXl.out] at t2
            rw [← HO.out, ← HXX.out, HXl.out]
            have hs6 := hb6.size
            have hsW := HRan.out.below.size
            have HT1 := Lib.hid t1
            have HT2 := Lib.hid t2
            have HB6 := Lib.hid hb6
            have HO6 := Lib.hid (own_below HOu.out hb6)
            obtain ⟨ol, hol⟩ : ∃ n, n = O.length := ⟨_, rfl⟩
            rw [← hol]
            have HOl2 := Lib.hid hol
            clear t1 t2 hol hb6
            go_wp2_with (at_builtin; refine wpList_append_lies _ rfl _ _ _ rfl W4.heap.size 37 i37 (.slice none 0 0) 1 24 Try.underlying49 h37 v0 v1 v2 rfl (by decide) u k (rs.map RowV.val) rfl (HO6.out.alloc _) ⟨w6.heap.size, 0, none⟩ 1 1 [.slice p1 ol c1] rfl rfl (one_new (cell_newW _ _ _)) (by simp [Value.oneCell']) (by omega) (by unfold maxLen; omega) (by omega) (by simp; omega) (w6.heap.size + 1) (by simp) ?_)
            intro gB cB w9 ho9 hg9 hat9 hlt9
            have HN2 : Hid (RanF W4 (nOut N inns) (k + 1) (.slice (some ⟨gB, 0, none⟩) (k + 1) cB) (rs ++ [⟨p1, c1, O⟩]) w9 ∧ Seq w9 p2 nh (bools X)) := Lib.hid ⟨HRan.out.step (r := ⟨p1, c1, O⟩) HB6.out HT1.out HOA.out.symm (by rw [HOl2.out] at ho9; exact ho9) hg9 hat9, by
              have hz := (((ROff.new (r := ⟨p2, c2, X⟩) HOu.out (by show Wir w6 wr.heap.size p2 X.length _; rw [HXl.out]; exact HT2.out)).below ((Below.refl _ _).alloc (Nat.le_refl w6.heap.size) (Obj.cells #[Value.slice p1 ol c1] 37))).grown (v' := .slice (some ⟨gB, 0, none⟩) (k + 1) cB) hg9 hat9 (by simp) rfl).seq
              dsimp only at hz
              rw [HXl.out] at hz; exact hz⟩
            clear ho9 hg9 hat9 hlt9
            go_wp2_with fail
            go_roundw
            case rel => exact ⟨k + 1, _, p2, c2, _, by omega, by go_num, rfl, rfl, Lib.hid ⟨HN2.out.1, by rw [HNA.out]; exact HN2.out.2, HAll2.out⟩⟩
            case measure => simp [intOf]; omega
          · have hxb : ((xl.length : Int) != N.ins) = true := by simpa using hxl
            have hE1 : netRE N inns = 1 := by
              unfold netRE
              rw [if_neg (fun h => hxl (by have := (all_rows N inns).1 h k (by rw [HIl.out]; exact hlk); rw [g0] at this; exact this))]
            have hO1 : netRO N inns = [] := by unfold netRO; rw [if_neg (by rw [hE1]; omega)]
            have HE1 := Lib.hid hE1
            have HO1 := Lib.hid hO1
            obtain ⟨xn, hxn⟩ : ∃ n, n = xl.length := ⟨_, rfl⟩
            rw [← hxn] at d0 hxb
            clear hac s0 g0 hxe hsv hNw hR hoA hnA hran hxn hst h200 hh hall hx hxl hE1 hO1
            subst hia
            go_wp2_with fail
            go_ret2
            rw [HE1.out, HO1.out]
            exact noRunF HHx.out.below
        · obtain rfl : k = m := by omega
          have hE0 : netRE N inns = 0 := by
            unfold netRE
            rw [if_pos ((all_rows N inns).2 (fun j hj => hall j (by rw [HIl.out] at hj; exact hj)))]
          have hO0 : netRO N inns = (List.range k).map (nOut N inns) := by unfold netRO; rw [if_pos hE0, HIl.out]
          have HE0 := Lib.hid hE0
          have HO0 := Lib.hid hO0
          have HRan := Lib.hid hran
          have HHx := Lib.hid hx
          clear hran hsv hall hx hh hE0 hO0
          go_wp2_with fail
          go_ret2
          rw [HE0.out, HO0.out]
          exact HRan.out.done hm HOut.out HHx.out.below
end Go.Proofs.Ytibimdhmfchcoaa
