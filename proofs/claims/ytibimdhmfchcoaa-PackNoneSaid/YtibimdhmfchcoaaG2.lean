import Derived.Test.YtibimdhmfchcoaaBG
namespace Go.Proofs.Ytibimdhmfchcoaa
open Go.RowKit Go.Shelf Go.Maps
set_option linter.unusedVariables false
set_option linter.unusedSimpArgs false

/-- What stands when k rows have been run. -/
structure Ran (W : World) (D : PackD) (inns : List (List Bool)) (B g m k : Nat) (rs : List RowV) (wr : World) : Prop where
  below : Below g W wr
  row : wr.rowIs g 37 m (rowCell rs)
  len : rs.length = k
  outs : rowsL rs = (List.range k).map (oAt D inns)
  each : ∀ i, i < k → Wir wr B (rs.getD i default).a (rs.getD i default).l.length (fun j => (rs.getD i default).l.getD j false)
theorem Ran.start {W W0 : World} {D : PackD} {inns : List (List Bool)} {B g m : Nat} (hb : Below g W W0) (hr : W0.rowIs g 37 m (fun _ => .slice none 0 0)) : Ran W D inns B g m 0 [] W0 :=
  ⟨hb, hr.congr (fun i _ => rfl), rfl, rfl, fun i hi => by omega⟩
theorem Ran.step {W wr w5 : World} {D : PackD} {inns : List (List Bool)} {g m k : Nat} {rs : List RowV} {r : RowV} (h : Ran W D inns (g + 1) g m k rs wr) (hb : Below wr.heap.size wr w5) (hw : Wir w5 (g + 1) r.a r.l.length (fun j => r.l.getD j false)) (ho : r.l = oAt D inns k) :
    Ran W D inns (g + 1) g m (k + 1) (rs ++ [r]) (w5.setCell ⟨g, k, none⟩ (.slice r.a r.l.length r.c)) := by
  have hlt := h.row.lt
  refine ⟨(h.below.trans (hb.mono (by omega))).setCell (Nat.le_refl _) _, ?_, by rw [List.length_append, h.len]; rfl, ?_, fun i hi => ?_⟩
  · refine ((h.row.of_block (hb.block g hlt)).set k _).congr fun i hi => ?_
    rw [rowCell_append, h.len]
  · rw [List.range_succ, List.map_append, ← h.outs, List.map_cons, List.map_nil, ← ho]
    unfold rowsL
    rw [List.map_append]; rfl
  · rw [rows_snoc _ _ _ (by rw [h.len]; exact hi), h.len]
    by_cases e : i = k
    · rw [if_pos e]; exact hw.set (Nat.lt_succ_self _)
    · rw [if_neg e]; exact ((h.each i (by omega)).below hb).set (Nat.lt_succ_self _)
theorem Ran.done {w W wr : World} {D : PackD} {inns : List (List Bool)} {B g m c : Nat} {rs : List RowV} (h : Ran W D inns B g m m rs wr) (hm : m = inns.length) (hm2 : m ≤ 1000) (hr : runE D inns = 0) (hD : D.outs.length ≤ 1000) (hb : Below w.heap.size w wr) :
    NewRun w D inns (.returned (.tuple #[.slice (some ⟨g, 0, none⟩) m c, .int .i64 0])) wr := by
  refine ⟨some ⟨g, 0, none⟩, c, rs, by rw [h.len, hr], ?_, ⟨.inr ⟨g, 0, rfl, fun i hi => ?_⟩, fun i hi => ?_, fun i hi => ?_, by rw [h.len]; omega⟩, hb⟩
  · unfold runO
    rw [if_pos hr, h.outs, hm]
  · rw [Nat.zero_add]; exact h.row.cell (by rw [← h.len]; exact hi)
  · exact (h.each i (by rw [← h.len]; exact hi)).seq
  · have h1 := rows_get rs i
    rw [← h1, h.outs, List.getD_eq_getElem?_getD, List.getElem?_map, List.getElem?_range (by rw [← h.len]; exact hi)]
    have := evalO_len D (inns.getD i []) (stAt D inns i)
    show (oAt D inns i).length ≤ _
    unfold oAt
    omega

set_option maxRecDepth 100000 in
set_option maxHeartbeats 32000000 in
theorem run25 (w : World) (P : PackV) (hP : PackAt w P) (hf : FewP P) (ia : Option Addr) (ic : Nat) (is : List RowV) (hI : RowsAt w ia is) (hfr : fewRowsB (rowsL is) = true) :
    Calls Try.prog 25 #[P.val, .slice ia is.length ic] w (NewRun w P.data (rowsL is)) := by
  obtain ⟨i4, hi4, hz0, hz1, hz2x⟩ := info_parts info4b
  obtain ⟨hm30, hr200⟩ := few_rows hfr
  have H := Lib.hid hP
  have HF := Lib.hid hf
  have HI := Lib.hid hI
  have HR200 := Lib.hid hr200
  have hDn := data_n P
  have hDk := data_blk P
  have hDo : P.data.outs = P.os := rfl
  have hbs := hf.bs
  have hfi := hf.ins
  have hfo := hf.os
  obtain ⟨D, hD⟩ : ∃ D, D = P.data := ⟨_, rfl⟩
  have HD := Lib.hid hD
  rw [← hD] at hDn hDk hDo ⊢
  obtain ⟨inns, hinns⟩ : ∃ l, l = rowsL is := ⟨_, rfl⟩
  have hml := rowsL_len is
  rw [← hinns] at hm30 HR200 hml ⊢
  have HInns := Lib.hid hinns
  have hRE : runE D inns = if orderE D = 0 then runFrom D inns inns.length 0 else orderE D := rfl
  obtain ⟨E, hE⟩ : ∃ E, E = orderE D := ⟨_, rfl⟩
  rw [← hE] at hRE
  obtain ⟨m, hm⟩ : ∃ m, m = is.length := ⟨_, rfl⟩
  rw [← hm] at hml ⊢
  rw [hml] at hm30 hRE
  have HMl := Lib.hid hml
  have HMi := Lib.hid hm
  have HE := Lib.hid hE
  have HRE := Lib.hid hRE
  have HDn := Lib.hid hDn
  have HDk := Lib.hid hDk
  have HDo := Lib.hid hDo
  have HStl := Lib.hid (st_len D inns)
  clear hP hf hI hfr hr200 hDn hDk hDo hD hinns hRE hE hm hml
  obtain ⟨h, hh⟩ : ∃ h, h = w.heap.size := ⟨_, rfl⟩
  obtain ⟨n, hn⟩ : ∃ h, h = P.bs.length := ⟨_, rfl⟩
  obtain ⟨ins, hins⟩ : ∃ h, h = P.ins := ⟨_, rfl⟩
  obtain ⟨ba, hba⟩ : ∃ h, h = P.ba := ⟨_, rfl⟩
  obtain ⟨bc, hbc⟩ : ∃ h, h = P.bc := ⟨_, rfl⟩
  obtain ⟨oa, hoa⟩ : ∃ h, h = P.oa := ⟨_, rfl⟩
  obtain ⟨oc, hoc⟩ : ∃ h, h = P.oc := ⟨_, rfl⟩
  obtain ⟨on, hon⟩ : ∃ h, h = P.os.length := ⟨_, rfl⟩
  have hvv : P.val = .agg #[.int .i64 ins, .slice ba n bc, .slice oa on oc] := by rw [hins, hba, hn, hbc, hoa, hoc, hon]
  have HVv := Lib.hid hvv
  obtain ⟨W1, hW1⟩ : ∃ W1, W1 = w.alloc P.obj := ⟨_, rfl⟩
  have hvo : P.obj = .cells #[.int .i64 ins, .slice ba n bc, .slice oa on oc] 31 := by rw [hins, hba, hn, hbc, hoa, hoc, hon]
  have hx1 := PBox.start w P
  rw [← hW1] at hx1
  have HX1 := Lib.hid hx1
  have x0 := hx1.c0
  have x1 := hx1.c1
  have x2 := hx1.c2
  rw [hvo] at hW1
  rw [hvv]
  rw [← hn] at hbs
  rw [← hins] at hfi
  rw [← hon] at hfo
  rw [← hins, ← hh] at x0
  rw [← hba, ← hn, ← hbc, ← hh] at x1
  rw [← hoa, ← hon, ← hoc, ← hh] at x2
  have HH := Lib.hid hh
  have HN := Lib.hid hn
  have HIns := Lib.hid hins
  have HBa := Lib.hid hba
  have HBc := Lib.hid hbc
  have HOa := Lib.hid hoa
  have HOc := Lib.hid hoc
  have HOn := Lib.hid hon
  have HW1 := Lib.hid hW1
  have C33 := check33 W1 P (H.out.below hx1.below (Nat.le_refl _)) HF.out
  rw [hvv, ← HD.out, ← HE.out] at C33
  have HC33 := Lib.hid C33
  clear hh hn hins hba hbc hoa hoc hon hvv hvo hW1 hx1 C33
  go_enter Try.func25, Try.ntmps25
  go_wp2_with fail
  rw [← HW1.out, ← HH.out]
  go_wp2_with fail
  refine Calls.mono HC33.out ?_
  rintro e W2 ⟨rfl, hb2⟩
  have hx2 := HX1.out.step hb2 HX1.out.size
  have HX2 := Lib.hid hx2
  have y0 := hx2.c0
  have y1 := hx2.c1
  have y2 := hx2.c2
  rw [← HIns.out, ← HH.out] at y0
  rw [← HBa.out, ← HN.out, ← HBc.out, ← HH.out] at y1
  rw [← HOa.out, ← HOn.out, ← HOc.out, ← HH.out] at y2
  by_cases hEz : E = 0
  · subst hEz
    have hEb : ((0 : Int) != 0) = false := by rfl
    have C50 := flops50 W2 P (H.out.below hx2.below (Nat.le_refl _)) HF.out.bs
    rw [HVv.out, ← HD.out] at C50
    have HC50 := Lib.hid C50
    clear hb2 hx2 C50
    go_wp2_with fail
    refine Calls.mono HC50.out ?_
    rintro e W3 ⟨kv, rfl, ho3, hb3⟩
    obtain ⟨ka, kc, rfl, hsK⟩ := nums_seq ho3
    have hx3 := HX2.out.step hb3 HX2.out.size
    have HX3 := Lib.hid hx3
    have z0 := hx3.c0
    have z1 := hx3.c1
    have z2 := hx3.c2
    rw [← HIns.out, ← HH.out] at z0
    rw [← HBa.out, ← HN.out, ← HBc.out, ← HH.out] at z1
    rw [← HOa.out, ← HOn.out, ← HOc.out, ← HH.out] at z2
    have HSK3 := Lib.hid hsK
    have hkl := flopsTo_len D D.n
    have hkl2 : (flopsL D).length ≤ n := by have := HDn.out; have := HN.out; unfold flopsL; omega
    obtain ⟨nk, hnk⟩ : ∃ k, k = (flopsL D).length := ⟨_, rfl⟩
    rw [← hnk] at hkl2 HSK3 ⊢
    have HNk := Lib.hid hnk
    clear hx3 ho3 hsK hnk hkl hb3 x0 x1 x2 y0 y1 y2
    go_wp2_with fail
    go_loopw [7, 22] (fun ov jv wr => ∃ (k : Nat) (u : Value), k ≤ nk ∧ jv = .int .i64 k ∧ u = ov ∧ Hid (Below W3.heap.size W3 wr ∧ wr.ownsRow W3.heap.size 4 1 u k ((((flopsL D).take k).map (fun i => (D.blk i).init)).map Value.bool))) (fun _ jv _ => nk - (intOf jv).toNat)
    case atStart => exact ⟨0, _, by omega, rfl, rfl, Lib.hid ⟨Below.refl _ _, World.ownsRow_nil _ _ _ _⟩⟩
    case round =>
      obtain ⟨k, u, hk, rfl, rfl, hh⟩ := hrel
      by_cases hlk : k < nk
      · have hB7 : Below w.heap.size w wr := HX3.out.below.trans (hh.out.1.mono (by have := HX3.out.size; omega))
        have hkl : k < (flopsL D).length := by rw [← HNk.out]; exact hlk
        obtain ⟨kb, ko, hka, hkbl, hkc⟩ := (HSK3.out.below hh.out.1 (Nat.le_refl _)).at k hlk
        have x0 := hkc k hlk
        have hkt := flopsTo_lt D D.n ((flopsL D).getD k 0) (getD_mem _ 0 hkl)
        have htk := take_one (flopsL D) 0 k hkl
        obtain ⟨b, hb⟩ : ∃ x, x = (flopsL D).getD k 0 := ⟨_, rfl⟩
        rw [← hb] at x0 hkt htk
        have hbn : b < n := by have := hkt.1; rw [HDn.out, ← HN.out] at this; exact this
        obtain ⟨kb2, ko2, hba2, hkbl2, d0, d1, d2, d3⟩ := (H.out.below hB7 (Nat.le_refl _)).blk b (by rw [← HN.out]; exact hbn)
        rw [← HBa.out] at hba2
        have hbk := HDk.out b
        obtain ⟨L, hLe⟩ : ∃ L, L = P.bs.getD b default := ⟨_, rfl⟩
        rw [← hLe] at d0 d1 d2 d3 hbk
        obtain ⟨La, Lc, Li, Lt, Lf, Ln⟩ := L
        dsimp only at d0 d1 d2 d3 hbk
        have q1 : wr.cell? ⟨h, 1, none⟩ = some (.slice ba n bc) := (hh.out.1.cell (p := ⟨_, _, none⟩) (World.block_lt_of_cell? W3 _ z1)).trans z1
        obtain ⟨xs, hxs⟩ : ∃ l, l = ((flopsL D).take k).map (fun i => (D.blk i).init) := ⟨_, rfl⟩
        have hxs2 : ((flopsL D).take (k + 1)).map (fun i => (D.blk i).init) = xs ++ [Ln] := by
          rw [htk, hxs, List.map_append, List.map_cons, List.map_nil, hbk]
        have ho := hh.out.2
        rw [← hxs] at ho
        have HO := Lib.hid ho
        have HXs2 := Lib.hid hxs2
        have HB := Lib.hid hh.out.1
        have hsz7 := HB.out.size
        clear hkc hkt htk hb hLe hbk hB7 hh hxs hxs2 ho hkl
        subst hka hba2
        go_wp2_with (at_builtin; refine wpList_append_lies _ rfl _ _ _ rfl W3.heap.size 4 i4 (.bool false) 1 1 Try.underlying37 hi4 hz0 hz1 hz2x rfl (by decide) u k (xs.map Value.bool) rfl (HO.out.alloc _) ⟨wr.heap.size, 0, none⟩ 1 1 [.bool Ln] rfl rfl (one_new (cell_newW _ _ _)) (by simp [Value.oneCell']) (by omega) (by unfold maxLen; omega) (by omega) (by simp; omega) (wr.heap.size + 1) (by simp) ?_)
        intro gB cB w9 ho9 hg9 hat9 hlt9
        have HN2 : Hid (Below W3.heap.size W3 w9 ∧ w9.ownsRow W3.heap.size 4 1 (.slice (some ⟨gB, 0, none⟩) (k + 1) cB) (k + 1) ((((flopsL D).take (k + 1)).map (fun i => (D.blk i).init)).map Value.bool)) := Lib.hid ⟨(HB.out.alloc (by omega) (Obj.cells #[Value.bool Ln] 4)).grown hg9 (by simp; omega) (fun k e => (HO.out.lt k e).1), by rw [HXs2.out, List.map_append]; exact ho9⟩
        clear ho9 hg9 hat9 hlt9
        go_wp2_with fail
        go_roundw
        case rel => exact ⟨k + 1, _, by omega, by go_num, rfl, HN2⟩
        case measure => simp [intOf]; omega
      · obtain rfl : nk = k := by omega
        obtain ⟨W4, hW4⟩ : ∃ W, W = wr := ⟨_, rfl⟩
        have ho := hh.out.2
        rw [List.take_of_length_le (Nat.le_of_eq HNk.out.symm)] at ho
        obtain ⟨va, vc, rfl, hvs⟩ := Wir.of_own ho
        have HB4 : Hid (Below W3.heap.size W3 wr) := Lib.hid hh.out.1
        have hv0 : Seq wr va (stAt D inns 0).length (bools (stAt D inns 0)) := by
          have : (stAt D inns 0).length = nk := by show (st0 D).length = nk; unfold st0; rw [List.length_map, HNk.out]
          rw [this]; exact hvs.seq
        have hnl : nk = (stAt D inns 0).length := by show _ = (st0 D).length; unfold st0; rw [List.length_map, HNk.out]
        have HV0 := Lib.hid hv0
        have HNl := Lib.hid hnl
        have u1 : wr.cell? ⟨h, 1, none⟩ = some (.slice ba n bc) := (HB4.out.cell (p := ⟨_, _, none⟩) (World.block_lt_of_cell? W3 _ z1)).trans z1
        have HB47 : Hid (Below w.heap.size w wr) := Lib.hid (HX3.out.below.trans (HB4.out.mono (by have := HX3.out.size; omega)))
        have HXW : Hid (PBox w.heap.size w P wr) := Lib.hid (HX3.out.step HB4.out HX3.out.size)
        rw [← hW4] at HB4 HV0 u1 HB47 HXW
        rw [← hW4]
        clear hh ho hvs hv0 hnl hlk hk hW4 z0 z1 z2
        have hmk := run_make_row' (P := Try.prog) 49 37 (.slice none 0 0) 24 Try.underlying49 info37 rfl .i64 .i64 m (by omega) (by omega)
        have hrow0 : (W4.alloc (Obj.cells (madeCells #[Value.slice none 0 0] m) 37)).rowIs W4.heap.size 37 m (fun j => .slice none 0 0) := World.rowIs_made W4 _ _ _
        have hbw0 : Below W4.heap.size W4 (W4.alloc (Obj.cells (madeCells #[Value.slice none 0 0] m) 37)) := (Below.refl _ _).alloc (Nat.le_refl _) _
        obtain ⟨g, hg⟩ : ∃ b, b = W4.heap.size := ⟨_, rfl⟩
        obtain ⟨W5, hW5⟩ : ∃ W, W = W4.alloc (Obj.cells (madeCells #[Value.slice none 0 0] m) 37) := ⟨_, rfl⟩
        rw [← hW5] at hrow0 hbw0
        rw [← hg] at hrow0 hbw0
        have HRan0 : Hid (Ran W5 D inns (g + 1) g m 0 [] W5) := Lib.hid (Ran.start (Below.refl _ _) hrow0)
        have HG := Lib.hid hg
        have HW5 := Lib.hid hW5
        have HX5 : Hid (PBox w.heap.size w P W5) := Lib.hid (HXW.out.step (C := g) hbw0 (by rw [hg]; exact HXW.out.size))
        have hgs : w.heap.size + 1 ≤ g := by rw [hg]; exact HXW.out.size
        have HV5 := Lib.hid (HV0.out.below (hbw0) (Nat.le_of_eq hg.symm))
        have HRF0 : Hid (runFrom D inns (m - 0) 0 = runE D inns) := Lib.hid (by rw [HRE.out, if_pos (by first | rfl | trivial)]; rfl)
        clear hrow0 hbw0 hg hW5 u1
        go_wp2_with fail
        rw [← HW5.out, ← HG.out]
        go_loopw [7, 41] (fun sv iv wr => ∃ (k : Nat) (rs : List RowV) (sa : Option Addr) (sl sc : Nat), k ≤ m ∧ iv = .int .i64 k ∧ sv = .slice sa sl sc ∧ Hid (Ran W5 D inns (g + 1) g m k rs wr ∧ sl = (stAt D inns k).length ∧ Seq wr sa sl (bools (stAt D inns k)) ∧ runFrom D inns (m - k) k = runE D inns)) (fun _ iv _ => m - (intOf iv).toNat)
        case atStart => exact ⟨0, [], va, nk, vc, by omega, rfl, rfl, Lib.hid ⟨HRan0.out, HNl.out, by rw [HNl.out]; exact HV5.out, HRF0.out⟩⟩
        case round =>
          obtain ⟨k, rs, sa, sl, sc, hk, rfl, rfl, hh⟩ := hrel
          obtain ⟨hran, hsl, hsv, hrf⟩ := hh.out
          by_cases hlk : k < m
          · have hx := HX5.out.step (hran.below) hgs
            have q0 := hx.c0
            have q1 := hx.c1
            have q2 := hx.c2
            rw [← HIns.out, ← HH.out] at q0
            rw [← HBa.out, ← HN.out, ← HBc.out, ← HH.out] at q1
            rw [← HOa.out, ← HOn.out, ← HOc.out, ← HH.out] at q2
            have hP := H.out.below hx.below (Nat.le_refl _)
            have hR := HI.out.below hx.below (Nat.le_refl _)
            obtain ⟨ab, ao, hia, hab, hac⟩ := hR.rows.at k (by rw [← HMi.out]; exact hlk)
            have d0 := hac k (by rw [← HMi.out]; exact hlk)
            unfold rowCell at d0
            have s0 := hR.each k (by rw [← HMi.out]; exact hlk)
            have g0 := rows_get is k
            rw [← HInns.out] at g0
            have h200 := HR200.out k
            rw [g0] at h200
            obtain ⟨x, hx⟩ : ∃ x, x = is.getD k default := ⟨_, rfl⟩
            rw [← hx] at d0 s0 g0 h200
            obtain ⟨xa, xc, xl⟩ := x
            dsimp only at d0 s0 g0 h200
            have hst := HStl.out k
            rw [HDn.out, ← HN.out] at hst
            rw [hsl] at hsv
            have C20 := eval20 wr P hP HF.out xa xc xl s0 (by omega) sa sc (stAt D inns k) hsv (by omega)
            rw [HVv.out, ← HD.out, ← hsl] at C20
            have hrs := runFrom_step D inns hlk
            have heA : eAt D inns k = evalE D xl (stAt D inns k) := by unfold eAt; rw [g0]
            have hoA : oAt D inns k = evalO D xl (stAt D inns k) := by unfold oAt; rw [g0]
            have hnA : stAt D inns (k + 1) = evalN D xl (stAt D inns k) := by show evalN D _ _ = _; rw [g0]
            have hrow := hran.row
            obtain ⟨xn, hxn⟩ : ∃ n, n = xl.length := ⟨_, rfl⟩
            rw [← hxn] at d0 C20
            obtain ⟨E, hE⟩ : ∃ e, e = evalE D xl (stAt D inns k) := ⟨_, rfl⟩
            obtain ⟨O, hO⟩ : ∃ e, e = evalO D xl (stAt D inns k) := ⟨_, rfl⟩
            obtain ⟨N, hN⟩ : ∃ e, e = evalN D xl (stAt D inns k) := ⟨_, rfl⟩
            rw [← hE] at heA
            rw [← hO] at hoA
            rw [← hN] at hnA
            rw [heA, hrf] at hrs
            have HC20 := Lib.hid C20
            have HE1 := Lib.hid hE
            have HO := Lib.hid hO
            have HNN := Lib.hid hN
            have HOA := Lib.hid hoA
            have HNA := Lib.hid hnA
            have HRS := Lib.hid hrs
            have HRan := Lib.hid hran
            have HRl := hrow.lt
            clear hac s0 g0 hx hsl hsv hrf hP hR C20 hrs heA hoA hnA hE hO hN hran hrow hxn hst h200 hh
            subst hia
            go_wp2_with fail
            refine Calls.mono HC20.out ?_
            rintro e w6 ⟨p1, c1, p2, c2, rfl, t1, t2, hb6⟩
            rw [← HO.out] at t1
            rw [← HNN.out] at t2
            rw [← HO.out, ← HNN.out, ← HE1.out]
            have hrow6 := HRan.out.row.of_block (hb6.block g HRl)
            have hgc6 := hrow6.cell hlk
            have hgf6 := hrow6.frozen k
            obtain ⟨rv, hrv⟩ : ∃ v, v = rowCell rs k := ⟨_, rfl⟩
            rw [← hrv] at hgc6
            have hs6 := hb6.size
            have HNx : Hid (Ran W5 D inns (g + 1) g m (k + 1) (rs ++ [⟨p1, c1, O⟩]) (w6.setCell ⟨g, k, none⟩ (.slice p1 O.length c1)) ∧ Seq (w6.setCell ⟨g, k, none⟩ (.slice p1 O.length c1)) p2 N.length (bools N)) :=
              Lib.hid ⟨HRan.out.step (r := ⟨p1, c1, O⟩) hb6 (t1.mono (by omega)) HOA.out.symm, ((t2.mono (show g + 1 ≤ _ by omega)).set (Nat.lt_succ_self _)).seq⟩
            obtain ⟨ol, hol⟩ : ∃ n, n = O.length := ⟨_, rfl⟩
            obtain ⟨nl, hnl⟩ : ∃ n, n = N.length := ⟨_, rfl⟩
            rw [← hol, ← hnl] at HNx
            rw [← hol, ← hnl]
            have HNl2 := Lib.hid hnl
            clear t1 t2 hrow6 hrv hol hnl hb6
            by_cases hEz : E = 0
            · subst hEz
              have hEb2 : ((0 : Int) != 0) = false := by rfl
              go_wp2_with fail
              go_roundw
              case rel => exact ⟨k + 1, _, p2, nl, c2, by omega, by go_num, rfl, Lib.hid ⟨HNx.out.1, by rw [HNA.out, HNl2.out], by rw [HNA.out]; exact HNx.out.2, by rw [HRS.out, if_pos (by first | rfl | trivial)]⟩⟩
              case measure => simp [intOf]; omega
            · have hEb2 : (E != 0) = true := by simpa using hEz
              have he : runE D inns = E := by rw [HRS.out, if_neg hEz]
              have hres := noRun (w := w) (w' := w6.setCell ⟨g, k, none⟩ (.slice p1 ol c1)) (D := D) (inns := inns) (by rw [he]; exact hEz) (HX5.out.below.trans (HNx.out.1.below.mono (by omega)))
              rw [he] at hres
              have HRes := Lib.hid hres
              clear hres he hEz
              go_wp2_with fail
              go_ret2
              exact HRes.out
          · obtain rfl : m = k := by omega
            have hz : runE D inns = 0 := by rw [← hrf, Nat.sub_self]; rfl
            have hres := hran.done (w := w) (c := m) HMl.out.symm (by omega) hz (by rw [HDo.out, ← HOn.out]; omega) (HX5.out.below.trans (hran.below.mono (by omega)))
            have HRes := Lib.hid hres
            clear hres hz hran hsl hsv hrf hh
            go_wp2_with fail
            go_ret2
            exact HRes.out
  · have hEb : (E != 0) = true := by simpa using hEz
    have he : runE D inns = E := by rw [HRE.out, if_neg hEz]
    have hres := noRun (w := w) (w' := W2) (D := D) (inns := inns) (by rw [he]; exact hEz) HX2.out.below
    rw [he] at hres
    have HRes := Lib.hid hres
    clear hres he hEz
    go_wp2_with fail
    go_ret2
    exact HRes.out
end Go.Proofs.Ytibimdhmfchcoaa
