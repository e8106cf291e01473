import Derived.Test.YtibimdhmfchcoaaG2
namespace Go.Proofs.Ytibimdhmfchcoaa
open Go.RowKit Go.Shelf Go.Maps
set_option linter.unusedVariables false
set_option linter.unusedSimpArgs false

def RowV.val (r : RowV) : Value := .slice r.a r.l.length r.c
/-- A row that lies off a value's own block. -/
def ROff (w : World) (v : Value) (r : RowV) : Prop :=
  r.l.length = 0 ∨ ∃ b, r.a = some ⟨b, 0, none⟩ ∧ b < w.heap.size ∧ v.ownBlock ≠ some b ∧ ∀ j, j < r.l.length → w.cell? ⟨b, j, none⟩ = some (.bool (r.l.getD j false))
theorem ROff.below {w w' : World} {v : Value} {r : RowV} (h : ROff w v r) (hb : Below w.heap.size w w') : ROff w' v r := by
  rcases h with h | ⟨b, ha, h1, h2, hc⟩
  · exact .inl h
  · exact .inr ⟨b, ha, Nat.lt_of_lt_of_le h1 hb.size, h2, fun j hj => (hb.cell (p := ⟨b, j, none⟩) h1).trans (hc j hj)⟩
theorem ROff.grown {w w' : World} {v v' : Value} {r : RowV} {g H : Nat} (h : ROff w v r) (hg : w.grownBy w' v.ownBlock) (hat : v.ownBlock = some g ∨ g = H) (hH : w.heap.size ≤ H) (hv : v'.ownBlock = some g) : ROff w' v' r := by
  rcases h with h | ⟨b, ha, h1, h2, hc⟩
  · exact .inl h
  · refine .inr ⟨b, ha, Nat.lt_of_lt_of_le h1 hg.size, ?_, fun j hj => hg.cell (hc j hj) (fun e => h2 e.symm)⟩
    rw [hv]
    intro e
    injection e with e
    subst e
    rcases hat with h | h
    · exact h2 h
    · omega
theorem ROff.new {w w' : World} {B n : Nat} {v : Value} {xs : List Value} {r : RowV} (ho : w.ownsRow B 37 1 v n xs) (hr : Wir w' w.heap.size r.a r.l.length (fun j => r.l.getD j false)) : ROff w' v r := by
  rcases hr with h | ⟨b, ha, h1, h2, hc, _⟩
  · exact .inl h
  · refine .inr ⟨b, ha, h2, fun e => ?_, hc⟩
    have := (ho.lt b e).2
    omega
theorem ROff.seq {w : World} {v : Value} {r : RowV} (h : ROff w v r) : Seq w r.a r.l.length (bools r.l) := by
  rcases h with h | ⟨b, ha, _, _, hc⟩
  · exact .inl h
  · exact .inr ⟨b, 0, ha, fun j hj => by rw [Nat.zero_add]; exact hc j hj⟩
/-- What stands when k rows have been run, in rows that grow. -/
structure Ran2 (W : World) (D : PackD) (inns : List (List Bool)) (k : Nat) (v : Value) (rs : List RowV) (wr : World) : Prop where
  below : Below W.heap.size W wr
  own : wr.ownsRow W.heap.size 37 1 v k (rs.map RowV.val)
  len : rs.length = k
  outs : rowsL rs = (List.range k).map (oAt D inns)
  each : ∀ i, i < k → ROff wr v (rs.getD i default)
theorem Ran2.start (W : World) (D : PackD) (inns : List (List Bool)) : Ran2 W D inns 0 (.slice none 0 0) [] W :=
  ⟨Below.refl _ _, World.ownsRow_nil _ _ _ _, rfl, rfl, fun i hi => by omega⟩
theorem Ran2.step {W wr w6 w9 : World} {D : PackD} {inns : List (List Bool)} {k gB cB : Nat} {v : Value} {rs : List RowV} {r : RowV} {o : Obj} (h : Ran2 W D inns k v rs wr) (hb : Below wr.heap.size wr w6) (hw : Wir w6 wr.heap.size r.a r.l.length (fun j => r.l.getD j false)) (ho : r.l = oAt D inns k)
    (ho9 : w9.ownsRow W.heap.size 37 1 (.slice (some ⟨gB, 0, none⟩) (k + 1) cB) (k + 1) (rs.map RowV.val ++ [r.val])) (hg9 : (w6.alloc o).grownBy w9 v.ownBlock) (hat : v.ownBlock = some gB ∨ gB = w6.heap.size + 1) :
    Ran2 W D inns (k + 1) (.slice (some ⟨gB, 0, none⟩) (k + 1) cB) (rs ++ [r]) w9 := by
  have hs := h.below.size
  have hs6 := hb.size
  have hba : Below w6.heap.size w6 (w6.alloc o) := (Below.refl _ _).alloc (Nat.le_refl _) _
  refine ⟨((h.below.trans (hb.mono hs)).alloc (by omega) o).grown hg9 (by simp; omega) (fun b e => (h.own.lt b e).1), by rw [List.map_append]; exact ho9, by rw [List.length_append, h.len]; rfl, ?_, fun i hi => ?_⟩
  · rw [List.range_succ, List.map_append, ← h.outs, List.map_cons, List.map_nil, ← ho]
    unfold rowsL
    rw [List.map_append]; rfl
  · rw [rows_snoc _ _ _ (by rw [h.len]; exact hi), h.len]
    by_cases e : i = k
    · rw [if_pos e]; exact ((ROff.new h.own hw).below hba).grown hg9 hat (by simp) rfl
    · rw [if_neg e]; exact (((h.each i (by omega)).below hb).below hba).grown hg9 hat (by simp) rfl
theorem Ran2.done {w W wr : World} {D : PackD} {inns : List (List Bool)} {m : Nat} {v : Value} {rs : List RowV} (h : Ran2 W D inns m v rs wr) (hm : m = inns.length) (hm2 : m ≤ 1000) (hr : runE D inns = 0) (hD : D.outs.length ≤ 1000) (hb : Below w.heap.size w wr) :
    NewRun w D inns (.returned (.tuple #[v, .int .i64 0])) wr := by
  obtain ⟨a, c, rfl⟩ := owns_val h.own
  refine ⟨a, c, rs, by rw [h.len, hr], ?_, ⟨?_, fun i hi => ?_, fun i hi => ?_, by rw [h.len]; omega⟩, hb⟩
  · unfold runO
    rw [if_pos hr, h.outs, hm]
  · rcases Nat.eq_zero_or_pos m with h0 | h0
    · exact .inl (by rw [h.len, h0])
    · obtain ⟨g, cap, hv, _, _, hc⟩ := owns_cells h.own h0
      injection hv with hv
      refine .inr ⟨g, 0, hv, fun i hi => ?_⟩
      rw [Nat.zero_add, hc i (by rw [List.length_map]; exact hi), List.getElem_map]
      unfold rowCell RowV.val
      rw [List.getD_eq_getElem?_getD, List.getElem?_eq_getElem hi]; rfl
  · exact (h.each i (by rw [← h.len]; exact hi)).seq
  · have h1 := rows_get rs i
    rw [← h1, h.outs, List.getD_eq_getElem?_getD, List.getElem?_map, List.getElem?_range (by rw [← h.len]; exact hi)]
    have := evalO_len D (inns.getD i []) (stAt D inns i)
    show (oAt D inns i).length ≤ _
    unfold oAt
    omega

set_option maxRecDepth 100000 in
set_option maxHeartbeats 32000000 in
theorem run36 (w : World) (P : PackV) (hP : PackAt w P) (hf : FewP P) (ia : Option Addr) (ic : Nat) (is : List RowV) (hI : RowsAt w ia is) (hfr : fewRowsB (rowsL is) = true) :
    Calls Try.prog 36 #[P.val, .slice ia is.length ic] w (NewRun w P.data (rowsL is)) := by
  obtain ⟨i4, hi4, hz0, hz1, hz2x⟩ := info_parts info4b
  obtain ⟨i37, h37, v0, v1, v2⟩ := info_parts info37
  obtain ⟨hm30, hr200⟩ := few_rows hfr
  have H := Lib.hid hP
  have HF := Lib.hid hf
  have HI := Lib.hid hI
  have HR200 := Lib.hid hr200
  have hDn := data_n P
  have hDk := data_blk P
  have hDo : P.data.outs = P.os := rfl
  have hbs := hf.bs
  have hfi := hf.ins
  have hfo := hf.os
  obtain ⟨D, hD⟩ : ∃ D, D = P.data := ⟨_, rfl⟩
  have HD := Lib.hid hD
  rw [← hD] at hDn hDk hDo ⊢
  obtain ⟨inns, hinns⟩ : ∃ l, l = rowsL is := ⟨_, rfl⟩
  have hml := rowsL_len is
  rw [← hinns] at hm30 HR200 hml ⊢
  have HInns := Lib.hid hinns
  have hRE : runE D inns = if orderE D = 0 then runFrom D inns inns.length 0 else orderE D := rfl
  obtain ⟨E, hE⟩ : ∃ E, E = orderE D := ⟨_, rfl⟩
  rw [← hE] at hRE
  obtain ⟨m, hm⟩ : ∃ m, m = is.length := ⟨_, rfl⟩
  rw [← hm] at hml ⊢
  rw [hml] at hm30 hRE
  have HMl := Lib.hid hml
  have HMi := Lib.hid hm
  have HE := Lib.hid hE
  have HRE := Lib.hid hRE
  have HDn := Lib.hid hDn
  have HDk := Lib.hid hDk
  have HDo := Lib.hid hDo
  have HStl := Lib.hid (st_len D inns)
  clear hP hf hI hfr hr200 hDn hDk hDo hD hinns hRE hE hm hml
  obtain ⟨h, hh⟩ : ∃ h, h = w.heap.size := ⟨_, rfl⟩
  obtain ⟨n, hn⟩ : ∃ h, h = P.bs.length := ⟨_, rfl⟩
  obtain ⟨ins, hins⟩ : ∃ h, h = P.ins := ⟨_, rfl⟩
  obtain ⟨ba, hba⟩ : ∃ h, h = P.ba := ⟨_, rfl⟩
  obtain ⟨bc, hbc⟩ : ∃ h, h = P.bc := ⟨_, rfl⟩
  obtain ⟨oa, hoa⟩ : ∃ h, h = P.oa := ⟨_, rfl⟩
  obtain ⟨oc, hoc⟩ : ∃ h, h = P.oc := ⟨_, rfl⟩
  obtain ⟨on, hon⟩ : ∃ h, h = P.os.length := ⟨_, rfl⟩
  have hvv : P.val = .agg #[.int .i64 ins, .slice ba n bc, .slice oa on oc] := by rw [hins, hba, hn, hbc, hoa, hoc, hon]
  have HVv := Lib.hid hvv
  obtain ⟨W1, hW1⟩ : ∃ W1, W1 = w.alloc P.obj := ⟨_, rfl⟩
  have hvo : P.obj = .cells #[.int .i64 ins, .slice ba n bc, .slice oa on oc] 31 := by rw [hins, hba, hn, hbc, hoa, hoc, hon]
  have hx1 := PBox.start w P
  rw [← hW1] at hx1
  have HX1 := Lib.hid hx1
  have x0 := hx1.c0
  have x1 := hx1.c1
  have x2 := hx1.c2
  rw [hvo] at hW1
  rw [hvv]
  rw [← hn] at hbs
  rw [← hins] at hfi
  rw [← hon] at hfo
  rw [← hins, ← hh] at x0
  rw [← hba, ← hn, ← hbc, ← hh] at x1
  rw [← hoa, ← hon, ← hoc, ← hh] at x2
  have HH := Lib.hid hh
  have HN := Lib.hid hn
  have HIns := Lib.hid hins
  have HBa := Lib.hid hba
  have HBc := Lib.hid hbc
  have HOa := Lib.hid hoa
  have HOc := Lib.hid hoc
  have HOn := Lib.hid hon
  have HW1 := Lib.hid hW1
  have C34 := check34 W1 P (H.out.below hx1.below (Nat.le_refl _)) HF.out
  rw [hvv, ← HD.out, ← HE.out] at C34
  have HC34 := Lib.hid C34
  clear hh hn hins hba hbc hoa hoc hon hvv hvo hW1 hx1 C34
  go_enter Try.func36, Try.ntmps36
  go_wp2_with fail
  rw [← HW1.out, ← HH.out]
  go_wp2_with fail
  refine Calls.mono HC34.out ?_
  rintro e W2 ⟨rfl, hb2⟩
  have hx2 := HX1.out.step hb2 HX1.out.size
  have HX2 := Lib.hid hx2
  have y0 := hx2.c0
  have y1 := hx2.c1
  have y2 := hx2.c2
  rw [← HIns.out, ← HH.out] at y0
  rw [← HBa.out, ← HN.out, ← HBc.out, ← HH.out] at y1
  rw [← HOa.out, ← HOn.out, ← HOc.out, ← HH.out] at y2
  by_cases hEz : E = 0
  · subst hEz
    have hEb : ((0 : Int) != 0) = false := by rfl
    have hb2s := hx2.size
    have hfk := flopsTo_len D n
    clear hb2 hx2 x0 x1 x2 hfk
    go_wp2_with fail
    go_loopw [7, 24] (fun ov jv wr => ∃ (i : Nat) (u : Value), i ≤ n ∧ jv = .int .i64 i ∧ u = ov ∧ Hid (Below W2.heap.size W2 wr ∧ wr.ownsRow W2.heap.size 4 1 u (flopsTo D i).length (((flopsTo D i).map (fun b => (D.blk b).init)).map Value.bool))) (fun _ jv _ => n - (intOf jv).toNat)
    case atStart => exact ⟨0, _, by omega, rfl, rfl, Lib.hid ⟨Below.refl _ _, World.ownsRow_nil _ _ _ _⟩⟩
    case round =>
      obtain ⟨i, u, hi, rfl, rfl, hh⟩ := hrel
      have hfl := flopsTo_len D i
      by_cases hlt : i < n
      · have hB7 : Below w.heap.size w wr := HX2.out.below.trans (hh.out.1.mono (by omega))
        obtain ⟨kb2, ko2, hba2, hkbl2, d0, d1, d2, d3⟩ := (H.out.below hB7 (Nat.le_refl _)).blk i (by rw [← HN.out]; exact hlt)
        rw [← HBa.out] at hba2
        have hbk := HDk.out i
        have hst := flopsTo_succ D i
        rw [hbk] at hst
        obtain ⟨L, hLe⟩ : ∃ L, L = P.bs.getD i default := ⟨_, rfl⟩
        rw [← hLe] at d0 d1 d2 d3 hbk hst
        obtain ⟨La, Lc, Li, Lt, Lf, Ln⟩ := L
        dsimp only at d0 d1 d2 d3 hbk hst
        obtain ⟨fl, hfle⟩ : ∃ k, k = (flopsTo D i).length := ⟨_, rfl⟩
        rw [← hfle] at hfl hh
        have hfs : (flopsTo D (i + 1)).length = fl + (if Lf then 1 else 0) := by rw [hst, List.length_append, ← hfle]; cases Lf <;> rfl
        have HFs := Lib.hid hfs
        obtain ⟨xs, hxs⟩ : ∃ l, l = (flopsTo D i).map (fun b => (D.blk b).init) := ⟨_, rfl⟩
        rw [← hxs] at hh
        have hxs2 : (flopsTo D (i + 1)).map (fun b => (D.blk b).init) = xs ++ (if Lf then [Ln] else []) := by
          rw [hst, hxs]
          cases Lf
          · simp [BlkV.data]
          · simp [hbk, BlkV.data]
        have HXs2 := Lib.hid hxs2
        have HB := Lib.hid hh.out.1
        have hsz7 := HB.out.size
        have HO5 := Lib.hid (hh.out.2.alloc (Obj.cells #[Value.slice La Li.length Lc, Value.int .i64 Lt, Value.bool Lf, Value.bool Ln] 43))
        clear hst hLe hbk hB7 hh hxs hxs2 hfs hfle
        subst hba2
        cases Lf
        · go_wp2_with fail
          go_roundw
          case rel => exact ⟨i + 1, _, by omega, by go_num, rfl, Lib.hid ⟨HB.out.alloc (by omega) _, by rw [HFs.out, HXs2.out]; simpa using HO5.out⟩⟩
          case measure => simp [intOf]; omega
        · go_wp2_with (at_builtin; refine wpList_append_lies _ rfl _ _ _ rfl W2.heap.size 4 i4 (.bool false) 1 1 Try.underlying37 hi4 hz0 hz1 hz2x rfl (by decide) u fl (xs.map Value.bool) rfl (HO5.out.alloc _) ⟨wr.heap.size + 1, 0, none⟩ 1 1 [.bool Ln] rfl rfl (one_new (by simp)) (by simp [Value.oneCell']) (by omega) (by unfold maxLen; omega) (by omega) (by simp; omega) (wr.heap.size + 2) (by simp) ?_)
          intro gB cB w9 ho9 hg9 hat9 hlt9
          have HN2 : Hid (Below W2.heap.size W2 w9 ∧ w9.ownsRow W2.heap.size 4 1 (.slice (some ⟨gB, 0, none⟩) (fl + 1) cB) (flopsTo D (i + 1)).length (((flopsTo D (i + 1)).map (fun b => (D.blk b).init)).map Value.bool)) := Lib.hid ⟨((HB.out.alloc (by omega) _).alloc (by simp; omega) _).grown hg9 (by simp; omega) (fun k e => (HO5.out.lt k e).1), by rw [HFs.out, HXs2.out]; simp only [if_true, List.map_append]; exact ho9⟩
          clear ho9 hg9 hat9 hlt9
          go_wp2_with fail
          go_roundw
          case rel => exact ⟨i + 1, _, by omega, by go_num, rfl, HN2⟩
          case measure => simp [intOf]; omega
      · obtain rfl : n = i := by omega
        obtain ⟨W4, hW4⟩ : ∃ W, W = wr := ⟨_, rfl⟩
        have ho := hh.out.2
        have hfk : flopsTo D n = flopsL D := by unfold flopsL; rw [HDn.out, ← HN.out]
        rw [hfk] at ho
        have hnl : (flopsL D).length = (stAt D inns 0).length := by show _ = (st0 D).length; unfold st0; rw [List.length_map]
        rw [hnl] at ho
        obtain ⟨va, vc, rfl, hvs⟩ := Wir.of_own ho
        have hv0 : Seq wr va (stAt D inns 0).length (bools (stAt D inns 0)) := hvs.seq
        have hst0 := HStl.out 0
        rw [HDn.out, ← HN.out] at hst0
        obtain ⟨nk, hnk⟩ : ∃ n, n = (stAt D inns 0).length := ⟨_, rfl⟩
        rw [← hnk] at hv0 hst0 ⊢
        have HNl := Lib.hid hnk
        have HV0 := Lib.hid hv0
        have HB4 : Hid (Below W2.heap.size W2 wr) := Lib.hid hh.out.1
        have HXW : Hid (PBox w.heap.size w P wr) := Lib.hid (HX2.out.step HB4.out HX2.out.size)
        rw [← hW4] at HB4 HV0 HXW
        rw [← hW4]
        clear hh ho hvs hv0 hnl hlt hi hW4 hnk hfk y0 y1 y2
        have HRan0 := Lib.hid (Ran2.start W4 D inns)
        have hgs : w.heap.size + 1 ≤ W4.heap.size := HXW.out.size
        have HRF0 : Hid (runFrom D inns (m - 0) 0 = runE D inns) := Lib.hid (by rw [HRE.out, if_pos (by first | rfl | trivial)]; rfl)
        go_wp2_with fail
        go_loopw [7, 10, 38] (fun sv ov iv wr => ∃ (k : Nat) (rs : List RowV) (sa : Option Addr) (sl sc : Nat) (u : Value), k ≤ m ∧ iv = .int .i64 k ∧ sv = .slice sa sl sc ∧ u = ov ∧ Hid (Ran2 W4 D inns k u rs wr ∧ sl = (stAt D inns k).length ∧ Seq wr sa sl (bools (stAt D inns k)) ∧ runFrom D inns (m - k) k = runE D inns)) (fun _ _ iv _ => m - (intOf iv).toNat)
        case atStart => exact ⟨0, [], va, nk, vc, _, by omega, rfl, rfl, rfl, Lib.hid ⟨HRan0.out, HNl.out, HV0.out, HRF0.out⟩⟩
        case round =>
          obtain ⟨k, rs, sa, sl, sc, u, hk, rfl, rfl, rfl, hh⟩ := hrel
          obtain ⟨hran, hsl, hsv, hrf⟩ := hh.out
          by_cases hlk : k < m
          · have hx := HXW.out.step (hran.below) hgs
            have q0 := hx.c0
            have q1 := hx.c1
            have q2 := hx.c2
            rw [← HIns.out, ← HH.out] at q0
            rw [← HBa.out, ← HN.out, ← HBc.out, ← HH.out] at q1
            rw [← HOa.out, ← HOn.out, ← HOc.out, ← HH.out] at q2
            have hP := H.out.below hx.below (Nat.le_refl _)
            have hR := HI.out.below hx.below (Nat.le_refl _)
            obtain ⟨ab, ao, hia, hab, hac⟩ := hR.rows.at k (by rw [← HMi.out]; exact hlk)
            have d0 := hac k (by rw [← HMi.out]; exact hlk)
            unfold rowCell at d0
            have s0 := hR.each k (by rw [← HMi.out]; exact hlk)
            have g0 := rows_get is k
            rw [← HInns.out] at g0
            have h200 := HR200.out k
            rw [g0] at h200
            obtain ⟨x, hx⟩ : ∃ x, x = is.getD k default := ⟨_, rfl⟩
            rw [← hx] at d0 s0 g0 h200
            obtain ⟨xa, xc, xl⟩ := x
            dsimp only at d0 s0 g0 h200
            have hst := HStl.out k
            rw [HDn.out, ← HN.out] at hst
            rw [hsl] at hsv
            have C35 := eval35 wr P hP HF.out xa xc xl s0 (by omega) sa sc (stAt D inns k) hsv (by omega)
            rw [HVv.out, ← HD.out, ← hsl] at C35
            have hrs := runFrom_step D inns hlk
            have heA : eAt D inns k = evalE D xl (stAt D inns k) := by unfold eAt; rw [g0]
            have hoA : oAt D inns k = evalO D xl (stAt D inns k) := by unfold oAt; rw [g0]
            have hnA : stAt D inns (k + 1) = evalN D xl (stAt D inns k) := by show evalN D _ _ = _; rw [g0]
            have HOu := Lib.hid hran.own
            obtain ⟨xn, hxn⟩ : ∃ n, n = xl.length := ⟨_, rfl⟩
            rw [← hxn] at d0 C35
            obtain ⟨E, hE⟩ : ∃ e, e = evalE D xl (stAt D inns k) := ⟨_, rfl⟩
            obtain ⟨O, hO⟩ : ∃ e, e = evalO D xl (stAt D inns k) := ⟨_, rfl⟩
            obtain ⟨N, hN⟩ : ∃ e, e = evalN D xl (stAt D inns k) := ⟨_, rfl⟩
            rw [← hE] at heA
            rw [← hO] at hoA
            rw [← hN] at hnA
            rw [heA, hrf] at hrs
            have HC35 := Lib.hid C35
            have HE1 := Lib.hid hE
            have HO := Lib.hid hO
            have HNN := Lib.hid hN
            have HOA := Lib.hid hoA
            have HNA := Lib.hid hnA
            have HRS := Lib.hid hrs
            have HRan := Lib.hid hran
            clear hac s0 g0 hx hsl hsv hrf hP hR C35 hrs heA hoA hnA hE hO hN hran hxn hst h200 hh
            subst hia
            go_wp2_with fail
            refine Calls.mono HC35.out ?_
            rintro e w6 ⟨p1, c1, p2, c2, rfl, t1, t2, hb6⟩
            rw [← HO.out] at t1
            rw [← HNN.out] at t2
            rw [← HO.out, ← HNN.out, ← HE1.out]
            have hs6 := hb6.size
            have hsW := HRan.out.below.size
            have HT1 := Lib.hid t1
            have HT2 := Lib.hid t2
            have HB6 := Lib.hid hb6
            have HO6 := Lib.hid (own_below HOu.out hb6)
            obtain ⟨ol, hol⟩ : ∃ n, n = O.length := ⟨_, rfl⟩
            obtain ⟨nl, hnl⟩ : ∃ n, n = N.length := ⟨_, rfl⟩
            rw [← hol, ← hnl]
            have HNl2 := Lib.hid hnl
            have HOl2 := Lib.hid hol
            clear t1 t2 hol hnl hb6
            by_cases hEz : E = 0
            · subst hEz
              have hEb2 : ((0 : Int) != 0) = false := by rfl
              go_wp2_with (at_builtin; refine wpList_append_lies _ rfl _ _ _ rfl W4.heap.size 37 i37 (.slice none 0 0) 1 24 Try.underlying49 h37 v0 v1 v2 rfl (by decide) u k (rs.map RowV.val) rfl (HO6.out.alloc _) ⟨w6.heap.size, 0, none⟩ 1 1 [.slice p1 ol c1] rfl rfl (one_new (cell_newW _ _ _)) (by simp [Value.oneCell']) (by omega) (by unfold maxLen; omega) (by omega) (by simp; omega) (w6.heap.size + 1) (by simp) ?_)
              intro gB cB w9 ho9 hg9 hat9 hlt9
              have HN2 : Hid (Ran2 W4 D inns (k + 1) (.slice (some ⟨gB, 0, none⟩) (k + 1) cB) (rs ++ [⟨p1, c1, O⟩]) w9 ∧ Seq w9 p2 nl (bools N)) := Lib.hid ⟨HRan.out.step (r := ⟨p1, c1, O⟩) HB6.out HT1.out HOA.out.symm (by rw [HOl2.out] at ho9; exact ho9) hg9 hat9, by
                have hz := (((ROff.new (r := ⟨p2, c2, N⟩) HOu.out HT2.out).below ((Below.refl _ _).alloc (Nat.le_refl w6.heap.size) (Obj.cells #[Value.slice p1 ol c1] 37))).grown (v' := .slice (some ⟨gB, 0, none⟩) (k + 1) cB) hg9 hat9 (by simp) rfl).seq
                rw [HNl2.out]; exact hz⟩
              clear ho9 hg9 hat9 hlt9
              go_wp2_with fail
              go_roundw
              case rel => exact ⟨k + 1, _, p2, nl, c2, _, by omega, by go_num, rfl, rfl, Lib.hid ⟨HN2.out.1, by rw [HNA.out, HNl2.out], by rw [HNA.out]; exact HN2.out.2, by rw [HRS.out, if_pos (by first | rfl | trivial)]⟩⟩
              case measure => simp [intOf]; omega
            · have hEb2 : (E != 0) = true := by simpa using hEz
              have he : runE D inns = E := by rw [HRS.out, if_neg hEz]
              have hres := noRun (w := w) (w' := w6) (D := D) (inns := inns) (by rw [he]; exact hEz) (HXW.out.below.trans ((HRan.out.below.trans (HB6.out.mono hsW)).mono (by omega)))
              rw [he] at hres
              have HRes := Lib.hid hres
              clear hres he hEz
              go_wp2_with fail
              go_ret2
              exact HRes.out
          · obtain rfl : m = k := by omega
            have hz : runE D inns = 0 := by rw [← hrf, Nat.sub_self]; rfl
            have hres := hran.done (w := w) HMl.out.symm (by omega) hz (by rw [HDo.out, ← HOn.out]; omega) (HXW.out.below.trans (hran.below.mono (by omega)))
            have HRes := Lib.hid hres
            clear hres hz hran hsl hsv hrf hh
            go_wp2_with fail
            go_ret2
            exact HRes.out
  · have hEb : (E != 0) = true := by simpa using hEz
    have he : runE D inns = E := by rw [HRE.out, if_neg hEz]
    have hres := noRun (w := w) (w' := W2) (D := D) (inns := inns) (by rw [he]; exact hEz) HX2.out.below
    rw [he] at hres
    have HRes := Lib.hid hres
    clear hres he hEz
    go_wp2_with fail
    go_ret2
    exact HRes.out
end Go.Proofs.Ytibimdhmfchcoaa
