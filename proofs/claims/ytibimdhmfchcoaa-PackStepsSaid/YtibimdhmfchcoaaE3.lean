import Derived.Test.YtibimdhmfchcoaaG3
namespace Go.Proofs.Ytibimdhmfchcoaa
open Go.RowKit Go.Shelf Go.Maps
set_option linter.unusedVariables false
set_option linter.unusedSimpArgs false
theorem from_ok (D : PackD) (inns : List (List Bool)) : ∀ f k, runFrom D inns f k = 0 → ∀ j, k ≤ j → j < k + f → eAt D inns j = 0
  | 0, k, _, j, h1, h2 => by omega
  | f + 1, k, h, j, h1, h2 => by
    have h : (if eAt D inns k = 0 then runFrom D inns f (k + 1) else eAt D inns k) = 0 := h
    by_cases e : eAt D inns k = 0
    · rw [if_pos e] at h
      by_cases ej : j = k
      · rw [ej]; exact e
      · exact from_ok D inns f (k + 1) h j (by omega) (by omega)
    · rw [if_neg e] at h
      exact absurd h e
theorem run_ok (D : PackD) (inns : List (List Bool)) : runE D inns = 0 → ∀ k, k < inns.length → eAt D inns k = 0 := by
  intro h k hk
  unfold runE at h
  by_cases e : orderE D = 0
  · rw [if_pos e] at h
    exact from_ok D inns _ 0 h k (by omega) (by omega)
  · rw [if_neg e] at h
    exact absurd h e
set_option maxRecDepth 100000 in
set_option maxHeartbeats 16000000 in
theorem packSteps (w : World) (P : PackV) (h : PackAt w P) (a0 : Option Addr) (c0 : Nat) (is : List RowV) (h0 : RowsAt w a0 is) :
    Calls Try.prog 13 #[P.val, .slice a0 is.length c0] w fun e w' => e = .returned (.bool true) ∧ Below w.heap.size w w' := by
  have HX := Lib.hid (PBox.start w P)
  have H := Lib.hid h
  have HI := Lib.hid h0
  clear h h0
  obtain ⟨fb, hfb⟩ : ∃ b, b = fewPB P := ⟨_, rfl⟩
  have HFb := Lib.hid hfb
  clear hfb
  obtain ⟨m, hm⟩ : ∃ m, m = is.length := ⟨_, rfl⟩
  have hml := HI.out.len
  rw [← hm] at hml ⊢
  have HMi := Lib.hid hm
  clear hm
  go_enter Try.func13, Try.ntmps13
  go_wp2_with fail
  refine (live14 _).mono ?_
  rintro e w1 ⟨rfl, hb1⟩
  have hx1 := HX.out.step hb1 (by simp)
  have HX1 := Lib.hid hx1
  have k0 := hx1.c0
  have k1 := hx1.c1
  have k2 := hx1.c2
  clear hb1 hx1
  go_wp2_with fail
  refine (few28 w1 P (H.out.below HX1.out.below (Nat.le_refl _))).mono ?_
  rintro e w2 ⟨rfl, hb2⟩
  rw [← HFb.out]
  have hx2 := HX1.out.step hb2 HX1.out.size
  have HX2 := Lib.hid hx2
  have m0 := hx2.c0
  have m1 := hx2.c1
  have m2 := hx2.c2
  clear hb2 hx2
  cases fb
  · go_wp2_with fail
    go_ret
    exact ⟨rfl, HX2.out.below⟩
  obtain ⟨fr, hfr⟩ : ∃ b, b = fewRowsB (rowsL is) := ⟨_, rfl⟩
  have HFr := Lib.hid hfr
  clear hfr k0 k1 k2
  go_wp2_with fail
  refine Calls.mono (fewRows24 w2 a0 m c0 is HMi.out (HI.out.below HX2.out.below (Nat.le_refl _))) ?_
  rintro e w3 ⟨rfl, hb3⟩
  rw [← HFr.out]
  have hx3 := HX2.out.step hb3 HX2.out.size
  have HX3 := Lib.hid hx3
  have n0 := hx3.c0
  have n1 := hx3.c1
  have n2 := hx3.c2
  clear hb3 hx3 m0 m1 m2
  cases fr
  · go_wp2_with fail
    go_ret
    exact ⟨rfl, HX3.out.below⟩
  have HF := Lib.hid ((fewPB_iff P).1 HFb.out.symm)
  have C25 := run25 w3 P (H.out.below HX3.out.below (Nat.le_refl _)) HF.out a0 c0 is (HI.out.below HX3.out.below (Nat.le_refl _)) HFr.out.symm
  rw [← HMi.out] at C25
  have HC25 := Lib.hid C25
  obtain ⟨D, hD⟩ : ∃ D, D = P.data := ⟨_, rfl⟩
  obtain ⟨inns, hinns⟩ : ∃ l, l = rowsL is := ⟨_, rfl⟩
  rw [← hD, ← hinns] at HC25
  have hml := rowsL_len is
  have hfr2 := few_rows HFr.out.symm
  rw [← hinns, ← HMi.out] at hml
  rw [← hinns] at hfr2
  rw [hml] at hfr2
  obtain ⟨hm30, hr200⟩ := hfr2
  have hDn := data_n P
  have hDk := data_blk P
  have hbs := HF.out.bs
  have hfi := HF.out.ins
  have hfo := HF.out.os
  rw [← hD] at hDn hDk
  have hrk := run_ok D inns
  obtain ⟨E, hE⟩ : ∃ E, E = runE D inns := ⟨_, rfl⟩
  rw [← hE, hml] at hrk
  have HE := Lib.hid hE
  have HOK0 := Lib.hid hrk
  have HD := Lib.hid hD
  have HInns := Lib.hid hinns
  have HMl := Lib.hid hml
  have HR200 := Lib.hid hr200
  have HDn := Lib.hid hDn
  have HDk := Lib.hid hDk
  have HStl := Lib.hid (st_len D inns)
  clear C25 hE hD hinns hml hr200 hDn hDk hrk
  go_wp2_with fail
  refine Calls.mono HC25.out ?_
  rintro e w4 ⟨a1, c1, r1, rfl, ho1, hr1, hb4⟩
  rw [← HE.out]
  have hx4 := HX3.out.step hb4 HX3.out.size
  have HX4 := Lib.hid hx4
  have k0 := hx4.c0
  have k1 := hx4.c1
  have k2 := hx4.c2
  have HR1 := Lib.hid hr1
  have hl := congrArg List.length ho1
  rw [rowsL_len] at hl
  have HO1 := Lib.hid ho1
  obtain ⟨l1, hl1⟩ : ∃ n, n = r1.length := ⟨_, rfl⟩
  rw [← hl1] at hl ⊢
  have HL1 := Lib.hid hl1
  clear hb4 hr1 ho1 hl1 n0 n1 n2
  by_cases hEz : E = 0
  rotate_left
  · have hEb : (E != 0) = true := by simpa using hEz
    have : l1 = 0 := by rw [hl]; unfold runO; rw [← HE.out, if_neg hEz]; rfl
    subst this
    clear hl hx4
    go_wp2_with fail
    go_ret
    exact ⟨rfl, HX4.out.below⟩
  subst hEz
  have hlm : m = l1 := by rw [hl]; unfold runO; rw [← HE.out, if_pos rfl, List.length_map, List.length_range, HMl.out]
  subst hlm
  have HE0 : Hid (runE D inns = 0) := Lib.hid HE.out.symm
  have HOK := Lib.hid (HOK0.out rfl)
  clear hl
  obtain ⟨i4, hi4, hz0, hz1, hz2x⟩ := info_parts info4b
  obtain ⟨h, hh⟩ : ∃ h, h = w.heap.size := ⟨_, rfl⟩
  obtain ⟨n, hn⟩ : ∃ h, h = P.bs.length := ⟨_, rfl⟩
  obtain ⟨ins, hins⟩ : ∃ h, h = P.ins := ⟨_, rfl⟩
  obtain ⟨ba, hba⟩ : ∃ h, h = P.ba := ⟨_, rfl⟩
  obtain ⟨bc, hbc⟩ : ∃ h, h = P.bc := ⟨_, rfl⟩
  obtain ⟨oa, hoa⟩ : ∃ h, h = P.oa := ⟨_, rfl⟩
  obtain ⟨oc, hoc⟩ : ∃ h, h = P.oc := ⟨_, rfl⟩
  obtain ⟨on, hon⟩ : ∃ h, h = P.os.length := ⟨_, rfl⟩
  have hvv : P.val = .agg #[.int .i64 ins, .slice ba n bc, .slice oa on oc] := by rw [hins, hba, hn, hbc, hoa, hoc, hon]
  have HVv := Lib.hid hvv
  rw [← hn] at hbs
  rw [← hins] at hfi
  rw [← hon] at hfo
  rw [← hins, ← hh] at k0
  rw [← hba, ← hn, ← hbc, ← hh] at k1
  rw [← hoa, ← hon, ← hoc, ← hh] at k2
  rw [← hh]
  try rw [hvv]
  try rw [← hins]
  try rw [← hba]
  try rw [← hn]
  try rw [← hbc]
  try rw [← hoa]
  try rw [← hon]
  try rw [← hoc]
  have HH := Lib.hid hh
  have HN := Lib.hid hn
  have HIns := Lib.hid hins
  have HBa := Lib.hid hba
  have HBc := Lib.hid hbc
  have HOa := Lib.hid hoa
  have HOc := Lib.hid hoc
  have HOn := Lib.hid hon
  clear hh hn hins hba hbc hoa hoc hon hvv
  have hb2s := hx4.size
  have hfk := flopsTo_len D n
  clear hx4 hfk
  go_wp2_with fail
  go_loopw [7, 39] (fun ov jv wr => ∃ (i : Nat) (u : Value), i ≤ n ∧ jv = .int .i64 i ∧ u = ov ∧ Hid (Below w4.heap.size w4 wr ∧ wr.ownsRow w4.heap.size 4 1 u (flopsTo D i).length (((flopsTo D i).map (fun b => (D.blk b).init)).map Value.bool))) (fun _ jv _ => n - (intOf jv).toNat)
  case atStart => exact ⟨0, _, by omega, rfl, rfl, Lib.hid ⟨Below.refl _ _, World.ownsRow_nil _ _ _ _⟩⟩
  case round =>
    obtain ⟨i, u, hi, rfl, rfl, hh⟩ := hrel
    have hfl := flopsTo_len D i
    by_cases hlt : i < n
    · have hB7 : Below w.heap.size w wr := HX4.out.below.trans (hh.out.1.mono (by omega))
      obtain ⟨kb2, ko2, hba2, hkbl2, d0, d1, d2, d3⟩ := (H.out.below hB7 (Nat.le_refl _)).blk i (by rw [← HN.out]; exact hlt)
      rw [← HBa.out] at hba2
      have hbk := HDk.out i
      have hst := flopsTo_succ D i
      rw [hbk] at hst
      obtain ⟨L, hLe⟩ : ∃ L, L = P.bs.getD i default := ⟨_, rfl⟩
      rw [← hLe] at d0 d1 d2 d3 hbk hst
      obtain ⟨La, Lc, Li, Lt, Lf, Ln⟩ := L
      dsimp only at d0 d1 d2 d3 hbk hst
      obtain ⟨fl, hfle⟩ : ∃ k, k = (flopsTo D i).length := ⟨_, rfl⟩
      rw [← hfle] at hfl hh
      have hfs : (flopsTo D (i + 1)).length = fl + (if Lf then 1 else 0) := by rw [hst, List.length_append, ← hfle]; cases Lf <;> rfl
      have HFs := Lib.hid hfs
      obtain ⟨xs, hxs⟩ : ∃ l, l = (flopsTo D i).map (fun b => (D.blk b).init) := ⟨_, rfl⟩
      rw [← hxs] at hh
      have hxs2 : (flopsTo D (i + 1)).map (fun b => (D.blk b).init) = xs ++ (if Lf then [Ln] else []) := by
        rw [hst, hxs]
        cases Lf
        · simp [BlkV.data]
        · simp [hbk, BlkV.data]
      have HXs2 := Lib.hid hxs2
      have HB := Lib.hid hh.out.1
      have hsz7 := HB.out.size
      have HO5 := Lib.hid (hh.out.2.alloc (Obj.cells #[Value.slice La Li.length Lc, Value.int .i64 Lt, Value.bool Lf, Value.bool Ln] 43))
      clear hst hLe hbk hB7 hh hxs hxs2 hfs hfle
      subst hba2
      cases Lf
      · go_wp2_with fail
        go_roundw
        case rel => exact ⟨i + 1, _, by omega, by go_num, rfl, Lib.hid ⟨HB.out.alloc (by omega) _, by rw [HFs.out, HXs2.out]; simpa using HO5.out⟩⟩
        case measure => simp [intOf]; omega
      · go_wp2_with (at_builtin; refine wpList_append_lies _ rfl _ _ _ rfl w4.heap.size 4 i4 (.bool false) 1 1 Try.underlying37 hi4 hz0 hz1 hz2x rfl (by decide) u fl (xs.map Value.bool) rfl (HO5.out.alloc _) ⟨wr.heap.size + 1, 0, none⟩ 1 1 [.bool Ln] rfl rfl (one_new (by simp)) (by simp [Value.oneCell']) (by omega) (by unfold maxLen; omega) (by omega) (by simp; omega) (wr.heap.size + 2) (by simp) ?_)
        intro gB cB w9 ho9 hg9 hat9 hlt9
        have HN2 : Hid (Below w4.heap.size w4 w9 ∧ w9.ownsRow w4.heap.size 4 1 (.slice (some ⟨gB, 0, none⟩) (fl + 1) cB) (flopsTo D (i + 1)).length (((flopsTo D (i + 1)).map (fun b => (D.blk b).init)).map Value.bool)) := Lib.hid ⟨((HB.out.alloc (by omega) _).alloc (by simp; omega) _).grown hg9 (by simp; omega) (fun k e => (HO5.out.lt k e).1), by rw [HFs.out, HXs2.out]; simp only [if_true, List.map_append]; exact ho9⟩
        clear ho9 hg9 hat9 hlt9
        go_wp2_with fail
        go_roundw
        case rel => exact ⟨i + 1, _, by omega, by go_num, rfl, HN2⟩
        case measure => simp [intOf]; omega
    · obtain rfl : n = i := by omega
      obtain ⟨W4, hW4⟩ : ∃ W, W = wr := ⟨_, rfl⟩
      have ho := hh.out.2
      have hfk : flopsTo D n = flopsL D := by unfold flopsL; rw [HDn.out, ← HN.out]
      rw [hfk] at ho
      have hnl : (flopsL D).length = (stAt D inns 0).length := by show _ = (st0 D).length; unfold st0; rw [List.length_map]
      rw [hnl] at ho
      obtain ⟨va, vc, rfl, hvs⟩ := Wir.of_own ho
      have hv0 : Seq wr va (stAt D inns 0).length (bools (stAt D inns 0)) := hvs.seq
      have hst0 := HStl.out 0
      rw [HDn.out, ← HN.out] at hst0
      obtain ⟨nk, hnk⟩ : ∃ n, n = (stAt D inns 0).length := ⟨_, rfl⟩
      rw [← hnk] at hv0 hst0 ⊢
      have HNl := Lib.hid hnk
      have HV0 := Lib.hid hv0
      have HB4 : Hid (Below w4.heap.size w4 wr) := Lib.hid hh.out.1
      have HXW : Hid (PBox w.heap.size w P wr) := Lib.hid (HX4.out.step HB4.out HX4.out.size)
      rw [← hW4] at HB4 HV0 HXW
      rw [← hW4]
      clear hh ho hvs hv0 hnl hlt hi hW4 hnk hfk k0 k1 k2
      have hgs : w.heap.size + 1 ≤ W4.heap.size := HXW.out.size
      have hB44 : Below w4.heap.size w4 W4 := HB4.out
      go_wp2_with fail
      go_loopw [7, 53] (fun sv iv wr => ∃ (k : Nat) (sa : Option Addr) (sl sc : Nat), k ≤ m ∧ iv = .int .i64 k ∧ sv = .slice sa sl sc ∧ Hid (Below W4.heap.size W4 wr ∧ sl = (stAt D inns k).length ∧ Seq wr sa sl (bools (stAt D inns k)))) (fun _ iv _ => m - (intOf iv).toNat)
      case atStart => exact ⟨0, va, nk, vc, by omega, rfl, rfl, Lib.hid ⟨Below.refl _ _, HNl.out, HV0.out⟩⟩
      case round =>
        obtain ⟨k, sa, sl, sc, hk, rfl, rfl, hh⟩ := hrel
        obtain ⟨hbw, hsl, hsv⟩ := hh.out
        by_cases hlk : k < m
        · have hx := HXW.out.step hbw hgs
          have q0 := hx.c0
          have q1 := hx.c1
          have q2 := hx.c2
          rw [← HIns.out, ← HH.out] at q0
          rw [← HBa.out, ← HN.out, ← HBc.out, ← HH.out] at q1
          rw [← HOa.out, ← HOn.out, ← HOc.out, ← HH.out] at q2
          have hP := H.out.below hx.below (Nat.le_refl _)
          have hR := HI.out.below hx.below (Nat.le_refl _)
          have hS := (HR1.out.below HB4.out (Nat.le_refl _)).below hbw (Nat.le_refl _)
          obtain ⟨ab, ao, hia, hab, hac⟩ := hR.rows.at k (by rw [← HMi.out]; exact hlk)
          have d0 := hac k (by rw [← HMi.out]; exact hlk)
          unfold rowCell at d0
          have s0 := hR.each k (by rw [← HMi.out]; exact hlk)
          obtain ⟨cb, co, hca, hcb, hcc⟩ := hS.rows.at k (by rw [← HL1.out]; exact hlk)
          have f0 := hcc k (by rw [← HL1.out]; exact hlk)
          unfold rowCell at f0
          have sY := hS.each k (by rw [← HL1.out]; exact hlk)
          have lY := hS.rowL k (by rw [← HL1.out]; exact hlk)
          have g0 := rows_get is k
          have gY := rows_get r1 k
          rw [← HInns.out] at g0
          rw [HO1.out] at gY
          have gY2 : (runO D inns).getD k [] = oAt D inns k := by
            unfold runO
            rw [if_pos HE0.out, List.getD_eq_getElem?_getD, List.getElem?_map, List.getElem?_range (by rw [HMl.out]; exact hlk)]
            rfl
          rw [gY2] at gY
          have h200 := HR200.out k
          rw [g0] at h200
          obtain ⟨x, hx⟩ : ∃ x, x = is.getD k default := ⟨_, rfl⟩
          rw [← hx] at d0 s0 g0 h200
          obtain ⟨xa, xc, xl⟩ := x
          obtain ⟨y, hy⟩ : ∃ x, x = r1.getD k default := ⟨_, rfl⟩
          rw [← hy] at f0 sY gY lY
          obtain ⟨ya, yc, yl⟩ := y
          dsimp only at d0 s0 g0 h200 f0 sY gY lY
          have hst := HStl.out k
          rw [HDn.out, ← HN.out] at hst
          rw [hsl] at hsv
          have C20 := eval20 wr P hP HF.out xa xc xl s0 (by omega) sa sc (stAt D inns k) hsv (by omega)
          rw [HVv.out, ← HD.out, ← hsl] at C20
          have heA : eAt D inns k = evalE D xl (stAt D inns k) := by unfold eAt; rw [g0]
          have hoA : oAt D inns k = evalO D xl (stAt D inns k) := by unfold oAt; rw [g0]
          have hnA : stAt D inns (k + 1) = evalN D xl (stAt D inns k) := by show evalN D _ _ = _; rw [g0]
          rw [HOK.out k hlk] at heA
          obtain ⟨xn, hxn⟩ : ∃ n, n = xl.length := ⟨_, rfl⟩
          obtain ⟨yn, hyn⟩ : ∃ n, n = yl.length := ⟨_, rfl⟩
          rw [← hxn] at d0 C20
          rw [← hyn] at f0 sY lY
          obtain ⟨O, hO⟩ : ∃ e, e = evalO D xl (stAt D inns k) := ⟨_, rfl⟩
          obtain ⟨N, hN⟩ : ∃ e, e = evalN D xl (stAt D inns k) := ⟨_, rfl⟩
          rw [← hO] at hoA
          rw [← hN] at hnA
          have hOY : O = yl := by rw [← hoA, gY]
          have HC20 := Lib.hid C20
          have HE1 := Lib.hid heA
          have HO := Lib.hid hO
          have HNN := Lib.hid hN
          have HNA := Lib.hid hnA
          have HOY := Lib.hid hOY
          have HYn := Lib.hid hyn
          have HSY := Lib.hid sY
          have HBw := Lib.hid hbw
          have hkl : decide ((k : Int) ≥ (m : Int)) = false := by simp; omega
          clear hac hcc s0 g0 gY gY2 hx hy hsl hsv hP hR hS C20 heA hoA hnA hO hN hOY hxn hyn sY hst h200 hh hbw
          subst hia hca
          go_wp2_with fail
          refine Calls.mono HC20.out ?_
          rintro e w6 ⟨p1, c1, p2, c2, rfl, t1, t2, hb6⟩
          rw [← HO.out] at t1
          rw [← HNN.out] at t2
          rw [← HO.out, ← HNN.out, ← HE1.out]
          have f6 := (hb6.cell (p := ⟨cb, co + k, none⟩) (World.block_lt_of_cell? wr _ f0)).trans f0
          have hs6 := hb6.size
          have HSY6 := Lib.hid (HSY.out.below hb6 (Nat.le_refl _))
          have HT1 : Hid (Seq w6 p1 O.length (bools O)) := Lib.hid t1.seq
          have HT2 : Hid (Seq w6 p2 N.length (bools N)) := Lib.hid t2.seq
          have HB6 := Lib.hid (HBw.out.trans (hb6.mono HBw.out.size))
          have hol : O.length = yn := by rw [HOY.out, HYn.out]
          rw [hol] at HT1 ⊢
          obtain ⟨nl, hnl⟩ : ∃ n, n = N.length := ⟨_, rfl⟩
          rw [← hnl] at HT2 ⊢
          have HNl2 := Lib.hid hnl
          have HOl := Lib.hid hol
          clear t1 t2 hnl hb6 hol
          go_wp2_with fail
          refine Calls.mono (sameBools w6 p1 ya yn c1 yn yc O yl HOl.out HYn.out.symm lY lY HT1.out HSY6.out) ?_
          rintro e w7 ⟨rfl, hb7⟩
          rw [show decide (O = yl) = true from decide_eq_true HOY.out]
          have HB7 := Lib.hid (HB6.out.trans (hb7.mono HB6.out.size))
          have HT27 := Lib.hid (HT2.out.below hb7 (Nat.le_refl _))
          clear hb7
          go_wp2_with fail
          go_roundw
          case rel => exact ⟨k + 1, p2, nl, c2, by omega, by go_num, rfl, Lib.hid ⟨HB7.out, by rw [HNA.out, HNl2.out], by rw [HNA.out]; exact HT27.out⟩⟩
          case measure => simp [intOf]; omega
        · obtain rfl : m = k := by omega
          have HBf := Lib.hid (HXW.out.below.trans (hbw.mono (by omega)))
          clear hbw hsl hsv hh
          go_wp2_with fail
          go_ret
          exact ⟨ret_bool (by simp), HBf.out⟩
end Go.Proofs.Ytibimdhmfchcoaa
