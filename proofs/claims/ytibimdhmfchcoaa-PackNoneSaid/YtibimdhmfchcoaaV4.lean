import Derived.Test.YtibimdhmfchcoaaV3
import Derived.Laws.CopyOwn
namespace Go.Proofs.Ytibimdhmfchcoaa
open Go.RowKit Go.Shelf Go.Maps
set_option linter.unusedVariables false
set_option linter.unusedSimpArgs false
theorem Wir.of_row {wr : World} {B g m : Nat} {f : Nat → Bool} (h : wr.rowIs g 4 m (fun j => .bool (f j))) (hB : B ≤ g) : Wir wr B (some ⟨g, 0, none⟩) m f := .inr ⟨g, rfl, hB, h.lt, fun i hi => h.cell hi, fun i => h.frozen i⟩
theorem size4 : (Try.prog.info? 4).map (·.size) = some 1 := by kernel_rfl
/-- The inputs copied over the head of the wires. -/
theorem row_copied {w' : World} {g m : Nat} {f : Nat → Bool} {cur : Array Value} {inn : List Bool} (hc : cur.size = m) (hcf : ∀ i, i < m → cur[i]? = some (.bool (f i))) (hn : inn.length ≤ m)
    (h : w'.heap[g]? = some (.cells (splice cur.toList 0 (inn.map Value.bool)).toArray 4 (0, 0))) : w'.rowIs g 4 m (fun j => .bool (if j < inn.length then inn.getD j false else f j)) := by
  refine ⟨_, h, ?_, fun i hi => ?_⟩
  · rw [List.size_toArray, length_splice]
    · simpa using hc
    · simp; omega
  · unfold splice
    simp only [List.take_zero, List.nil_append, Nat.zero_add, List.getElem?_toArray, List.length_map]
    by_cases e : i < inn.length
    · rw [List.getElem?_append_left (by simpa using e), if_pos e, List.getElem?_map, List.getElem?_eq_getElem e, List.getD_eq_getElem?_getD, List.getElem?_eq_getElem e]; rfl
    · rw [List.getElem?_append_right (by simpa using e), if_neg e, List.getElem?_drop, List.length_map, show inn.length + (i - inn.length) = i by omega]
      have := hcf i hi
      rw [← this, Array.getElem?_toList]

set_option maxRecDepth 100000 in
set_option maxHeartbeats 32000000 in
theorem eval35 (w : World) (P : PackV) (hP : PackAt w P) (hf : FewP P) (ia : Option Addr) (ic : Nat) (inn : List Bool) (SI : Seq w ia inn.length (bools inn)) (hi300 : inn.length ≤ 600) (sa : Option Addr) (sc : Nat) (st : List Bool) (SS : Seq w sa st.length (bools st)) (hs300 : st.length ≤ 600) :
    Calls Try.prog 35 #[P.val, .slice ia inn.length ic, .slice sa st.length sc] w (NewEval w P.data inn st) := by
  obtain ⟨i4, hi4, hz0, hz1, hz2x⟩ := info_parts info4b
  have H := Lib.hid hP
  have HF := Lib.hid hf
  have HSI := Lib.hid SI
  have HSS := Lib.hid SS
  have hDn := data_n P
  have hDk := data_blk P
  have hDi : P.data.ins = P.ins := rfl
  have hDo : P.data.outs = P.os := rfl
  have hmp := may_all (P := P)
  have hbs := hf.bs
  have hfi := hf.ins
  have hfo := hf.os
  obtain ⟨D, hD⟩ : ∃ D, D = P.data := ⟨_, rfl⟩
  have HD := Lib.hid hD
  rw [← hD] at hDn hDk hDi hDo hmp ⊢
  have hE0 := orderE_zero (D := D)
  have hEv : evalE D inn st = if orderE D = 0 then (if (inn.length : Int) = D.ins ∧ st.length = (flopsL D).length then 0 else 1) else orderE D := rfl
  obtain ⟨E, hE⟩ : ∃ E, E = orderE D := ⟨_, rfl⟩
  obtain ⟨T, hT⟩ : ∃ T, T = orderT D := ⟨_, rfl⟩
  have hTl := orderT_len D
  rw [← hE, ← hT] at hE0
  rw [← hE] at hEv
  rw [← hT, hDn] at hTl
  obtain ⟨nin, hnin⟩ : ∃ n, n = inn.length := ⟨_, rfl⟩
  obtain ⟨nst, hnst⟩ : ∃ n, n = st.length := ⟨_, rfl⟩
  rw [← hnin] at hi300 HSI hEv ⊢
  rw [← hnst] at hs300 HSS hEv ⊢
  have HE := Lib.hid hE
  have HT := Lib.hid hT
  have HE0 := Lib.hid hE0
  have HDn := Lib.hid hDn
  have HDk := Lib.hid hDk
  have HDi := Lib.hid hDi
  have HDo := Lib.hid hDo
  have HMp := Lib.hid hmp
  have HEv := Lib.hid hEv
  have HNin := Lib.hid hnin
  have HNst := Lib.hid hnst
  clear hP hf SI SS hDn hDk hDi hDo hmp hE0 hEv hD hE hT hnin hnst
  obtain ⟨h, hh⟩ : ∃ h, h = w.heap.size := ⟨_, rfl⟩
  obtain ⟨n, hn⟩ : ∃ h, h = P.bs.length := ⟨_, rfl⟩
  obtain ⟨ins, hins⟩ : ∃ h, h = P.ins := ⟨_, rfl⟩
  obtain ⟨ba, hba⟩ : ∃ h, h = P.ba := ⟨_, rfl⟩
  obtain ⟨bc, hbc⟩ : ∃ h, h = P.bc := ⟨_, rfl⟩
  obtain ⟨oa, hoa⟩ : ∃ h, h = P.oa := ⟨_, rfl⟩
  obtain ⟨oc, hoc⟩ : ∃ h, h = P.oc := ⟨_, rfl⟩
  obtain ⟨on, hon⟩ : ∃ h, h = P.os.length := ⟨_, rfl⟩
  have hvv : P.val = .agg #[.int .i64 ins, .slice ba n bc, .slice oa on oc] := by rw [hins, hba, hn, hbc, hoa, hoc, hon]
  have HVv := Lib.hid hvv
  obtain ⟨W1, hW1⟩ : ∃ W1, W1 = w.alloc P.obj := ⟨_, rfl⟩
  have hvo : P.obj = .cells #[.int .i64 ins, .slice ba n bc, .slice oa on oc] 31 := by rw [hins, hba, hn, hbc, hoa, hoc, hon]
  have hx1 := PBox.start w P
  rw [← hW1] at hx1
  have HX1 := Lib.hid hx1
  have x0 := hx1.c0
  have x1 := hx1.c1
  have x2 := hx1.c2
  rw [hvo] at hW1
  rw [hvv]
  rw [← hn] at hbs hTl
  rw [← hins] at hfi
  rw [← hon] at hfo
  rw [← hins, ← hh] at x0
  rw [← hba, ← hn, ← hbc, ← hh] at x1
  rw [← hoa, ← hon, ← hoc, ← hh] at x2
  have HH := Lib.hid hh
  have HN := Lib.hid hn
  have HIns := Lib.hid hins
  have HBa := Lib.hid hba
  have HBc := Lib.hid hbc
  have HOa := Lib.hid hoa
  have HOc := Lib.hid hoc
  have HOn := Lib.hid hon
  have HW1 := Lib.hid hW1
  have C31 := order31 W1 P (H.out.below hx1.below (Nat.le_refl _)) HF.out
  rw [hvv, ← HD.out] at C31
  have HC31 := Lib.hid C31
  clear hh hn hins hba hbc hoa hoc hon hvv hvo hW1 hx1 C31
  go_enter Try.func35, Try.ntmps35
  go_wp2_with fail
  rw [← HW1.out, ← HH.out]
  go_wp2_with fail
  refine Calls.mono HC31.out ?_
  rintro e W2 ⟨ta, tc, rfl, ho2, hb2⟩
  rw [← HT.out] at ho2
  rw [← HT.out, ← HE.out]
  have hx2 := HX1.out.step hb2 HX1.out.size
  have HX2 := Lib.hid hx2
  have y0 := hx2.c0
  have y1 := hx2.c1
  have y2 := hx2.c2
  rw [← HIns.out, ← HH.out] at y0
  rw [← HBa.out, ← HN.out, ← HBc.out, ← HH.out] at y1
  rw [← HOa.out, ← HOn.out, ← HOc.out, ← HH.out] at y2
  by_cases hEz : E = 0
  · subst hEz
    obtain ⟨hmay, hTm⟩ := HE0.out rfl
    obtain ⟨hi0, hmb, hmo⟩ := HMp.out hmay
    have hnum : (T.map (Value.int .i64)) = nums (orderL D) := by rw [hTm]; unfold nums; rw [List.map_map]; rfl
    have hTL : T.length = (orderL D).length := by rw [hTm]; simp
    rw [hnum, hTL] at ho2
    obtain ⟨ta', tc', hv', hsT⟩ := nums_seq ho2
    injection hv' with hv1 hv2 hv3
    rw [← hv1] at hsT
    rw [← HIns.out] at hi0
    have HSTo := Lib.hid hsT
    have HMb := Lib.hid hmb
    have HMo := Lib.hid hmo
    have HTL := Lib.hid hTL
    obtain ⟨tl, htl⟩ : ∃ t, t = T.length := ⟨_, rfl⟩
    rw [← htl] at hTl HTL ⊢
    obtain ⟨nk, hnk⟩ : ∃ k, k = (flopsL D).length := ⟨_, rfl⟩
    rw [← hnk] at HEv
    have HNk := Lib.hid hnk
    have hkl := flopsTo_len D D.n
    have hkl2 : nk ≤ n := by have := HDn.out; have := HN.out; rw [hnk]; unfold flopsL; omega
    obtain ⟨insn, rfl⟩ : ∃ k : Nat, ins = k := ⟨ins.toNat, by omega⟩
    have hmk := run_make_row' (P := Try.prog) 37 4 (.bool false) 1 Try.underlying37 info4b rfl .i64 .i64 (insn + n) (by omega) (by omega)
    simp only [Int.natCast_add] at hmk
    have hrow0 : (W2.alloc (Obj.cells (madeCells #[Value.bool false] (insn + n)) 4)).rowIs W2.heap.size 4 (insn + n) (fun j => .bool (fillR D st 0 j)) := World.rowIs_made W2 _ _ _
    have hbw0 : Below W2.heap.size W2 (W2.alloc (Obj.cells (madeCells #[Value.bool false] (insn + n)) 4)) := (Below.refl _ _).alloc (Nat.le_refl _) _
    obtain ⟨g, hg⟩ : ∃ b, b = W2.heap.size := ⟨_, rfl⟩
    obtain ⟨W3, hW3⟩ : ∃ W, W = W2.alloc (Obj.cells (madeCells #[Value.bool false] (insn + n)) 4) := ⟨_, rfl⟩
    have u1 := cell_alloc (Obj.cells (madeCells #[Value.bool false] (insn + n)) 4) y1
    rw [← hW3] at hrow0 hbw0
    rw [← hg] at hrow0
    have HG := Lib.hid hg
    have HW3 := Lib.hid hW3
    have HRow0 := Lib.hid hrow0
    have HBw0 := Lib.hid hbw0
    have hb2s := hx2.size
    clear hmay hTm hnum hTL ho2 hv1 hv2 hv3 hsT hmb hmo htl hb2 hx2 hnk hkl hrow0 hbw0 hg hW3
    go_wp2_with fail
    rw [← HW3.out, ← HG.out]
    go_loopw [12, 41] (fun mv iv wr => ∃ i : Nat, i ≤ n ∧ iv = .int .i64 i ∧ mv = .int .i64 ((flopsTo D i).length : Nat) ∧ Hid (∃ f, Below g W2 wr ∧ wr.rowIs g 4 (insn + n) (fun j => .bool (f j)) ∧ (nst = nk → f = fillR D st i))) (fun _ iv _ => n - (intOf iv).toNat)
    case atStart => exact ⟨0, by omega, rfl, rfl, Lib.hid ⟨_, HBw0.out.mono (by rw [HG.out]; exact Nat.le_refl _), HRow0.out, fun _ => rfl⟩⟩
    case round =>
      obtain ⟨i, hi, rfl, rfl, hh⟩ := hrel
      have hfl := flopsTo_len D i
      by_cases hlt : i < n
      · obtain ⟨f, hb, hr, hf⟩ := hh.out
        have hgz : W2.heap.size ≤ g := Nat.le_of_eq HG.out.symm
        have hgz2 : g ≤ W2.heap.size := Nat.le_of_eq HG.out
        have hB7 : Below w.heap.size w wr := HX2.out.below.trans (hb.mono (by omega))
        obtain ⟨kb2, ko2, hba2, hkbl2, d0, d1, d2, d3⟩ := (H.out.below hB7 (Nat.le_refl _)).blk i (by rw [← HN.out]; exact hlt)
        rw [← HBa.out] at hba2
        have hbk := HDk.out i
        have hst := flopsTo_succ D i
        have hfr : fillR D st (i + 1) = if (D.blk i).ff then upd (fillR D st i) (D.ins.toNat + i) (st.getD (flopsTo D i).length false) else fillR D st i := rfl
        rw [HDi.out, ← HIns.out, Int.toNat_natCast] at hfr
        have hkt : nst = nk → (D.blk i).ff = true → (flopsTo D i).length < nst := by
          intro h1 h2
          have h3 := flopsTo_mono D (i + 1) (n - (i + 1))
          rw [show i + 1 + (n - (i + 1)) = n by omega] at h3
          have h4 := congrArg List.length h3
          rw [List.length_append, hst, if_pos h2, List.length_append] at h4
          have h5 := HNk.out
          unfold flopsL at h5
          rw [HDn.out, ← HN.out] at h5
          simp only [List.length_singleton] at h4
          omega
        rw [hbk] at hst hfr hkt
        obtain ⟨L, hLe⟩ : ∃ L, L = P.bs.getD i default := ⟨_, rfl⟩
        rw [← hLe] at d0 d1 d2 d3 hst hfr hkt
        obtain ⟨La, Lc, Li, Lt, Lf, Ln⟩ := L
        dsimp only at d0 d1 d2 d3 hst hfr hkt
        obtain ⟨fl, hfle⟩ : ∃ k, k = (flopsTo D i).length := ⟨_, rfl⟩
        rw [← hfle] at hfl hfr hkt ⊢
        have hfs : (flopsTo D (i + 1)).length = fl + (if Lf then 1 else 0) := by rw [hst, List.length_append, ← hfle]; cases Lf <;> rfl
        have HFs := Lib.hid hfs
        have HFr := Lib.hid hfr
        have HKt := Lib.hid hkt
        have HF' := Lib.hid hf
        have hgl := hr.lt
        have HRow := Lib.hid hr
        have HB := Lib.hid hb
        have hb2 : Below wr.heap.size wr (wr.alloc (Obj.cells #[Value.slice La Li.length Lc, Value.int .i64 Lt, Value.bool Lf, Value.bool Ln] 43)) := (Below.refl _ _).alloc (Nat.le_refl _) _
        have HB2 : Hid (Below g W2 (wr.alloc (Obj.cells #[Value.slice La Li.length Lc, Value.int .i64 Lt, Value.bool Lf, Value.bool Ln] 43))) := Lib.hid (hb.trans (hb2.mono (by omega)))
        have HRow2 : Hid ((wr.alloc (Obj.cells #[Value.slice La Li.length Lc, Value.int .i64 Lt, Value.bool Lf, Value.bool Ln] 43)).rowIs g 4 (insn + n) (fun j => .bool (f j))) := Lib.hid (hr.alloc _)
        have q0 : wr.cell? ⟨h, 0, none⟩ = some (.int .i64 (insn : Int)) := (hb.cell (p := ⟨_, _, none⟩) (by have := World.block_lt_of_cell? W2 _ y0; simp only at this ⊢; omega)).trans y0
        have HY : Hid (Below wr.heap.size w wr) → True := fun _ => trivial
        have HSw : Hid (Below w.heap.size w wr) := Lib.hid hB7
        clear hst hfr hkt hf hr hb hb2 hLe hfle hfs hB7 hh hbk HY
        subst hba2
        cases Lf
        · go_wp2_with fail
          go_roundw
          case rel => exact ⟨i + 1, by omega, by go_num, by rw [HFs.out]; rfl, Lib.hid ⟨f, HB2.out, HRow2.out, fun e => by rw [HFr.out, HF'.out e]; rfl⟩⟩
          case measure => simp [intOf]; omega
        · by_cases hfm : fl < nst
          · have hmb1 : decide ((fl : Int) < (nst : Int)) = true := by simpa using hfm
            have hmb2 : decide (fl < nst) = true := by simpa using hfm
            obtain ⟨sb, so, hsa, hsbl, hsc⟩ := (HSS.out.below HSw.out (Nat.le_refl _)).at fl hfm
            have q1 := hsc fl hfm
            unfold bools at q1
            obtain ⟨sv, hsv⟩ : ∃ x, x = st.getD fl false := ⟨_, rfl⟩
            rw [← hsv] at q1
            obtain ⟨q, hq⟩ : ∃ q, q = insn + i := ⟨_, rfl⟩
            have hqm : q < insn + n := by omega
            have hgc' := HRow.out.cell hqm
            have hgf' := HRow.out.frozen q
            have HSum : Hid (IntKind.i64.wrap ((insn : Int) + (i : Int)) = (q : Int)) := Lib.hid (by rw [show (insn : Int) + (i : Int) = (q : Int) by omega]; exact Lib.wrap_i64_small _ (by omega))
            have q0' := cell_alloc (Obj.cells #[Value.slice La Li.length Lc, Value.int .i64 Lt, Value.bool true, Value.bool Ln] 43) q0
            have q1' := cell_alloc (Obj.cells #[Value.slice La Li.length Lc, Value.int .i64 Lt, Value.bool true, Value.bool Ln] 43) q1
            obtain ⟨W5, hW5⟩ : ∃ W, W = wr.alloc (Obj.cells #[Value.slice La Li.length Lc, Value.int .i64 Lt, Value.bool true, Value.bool Ln] 43) := ⟨_, rfl⟩
            rw [← hW5] at HB2 HRow2 q0' q1'
            have hgc5 := HRow2.out.cell hqm
            have hgf5 := HRow2.out.frozen q
            have HN1 : Hid (∃ f', Below g W2 (W5.drew.setCell ⟨g, q, none⟩ (.bool sv)) ∧ (W5.drew.setCell ⟨g, q, none⟩ (.bool sv)).rowIs g 4 (insn + n) (fun j => .bool (f' j)) ∧ (nst = nk → f' = fillR D st (i + 1))) := Lib.hid ⟨upd f q sv, HB2.out.drew.setCell (Nat.le_refl _) _, (HRow2.out.drew.set q (.bool sv)).congr (fun j hj => by
              by_cases e : j = q
              · subst e; rw [if_pos rfl, upd_same]
              · rw [if_neg e, upd_other _ _ _ e]), fun e => by rw [HFr.out, if_pos (by first | rfl | trivial), HF'.out e, hq, hsv]⟩
            have HW5 := Lib.hid hW5
            have HQ := Lib.hid hq
            clear hsc hsv hq hW5 hgc' hgf' q1
            subst hsa
            go_wp2_with fail
            rw [← HW5.out]
            have q0 := q0'
            have q1 := q1'
            clear q0' q1'
            refine wp_region_K (S := fun w' => w'.cell? ⟨h, 0, none⟩ = some (.int .i64 (insn : Int)) ∧ w'.cell? ⟨sb, so + fl, none⟩ = some (.bool sv)) 10 (by kernel_rfl) (⟨q0, q1⟩) (fun hHeld => ?_)
            refine wpAnyK_take (i := 0) (v := ?_) (by simp only [List.getElem?_toArray, List.getElem?_cons_succ, List.getElem?_cons_zero]; rfl) (by kernel_rfl) (by kernel_rfl) (by kernel_rfl) (by kernel_rfl) (by intro _ _ _ h; exact h) (Or.inl ⟨by rfl, ?_⟩) (by assumption) ?_
            rotate_left
            · intro w hSw; (try dsimp only at hSw); go_simp; try with_reducible rfl
            try simp only [Act.put, List.setIfInBounds_toArray, List.set_cons_zero, List.set_cons_succ]
            refine wpAnyK_take (i := 1) (v := ?_) (by simp only [List.getElem?_toArray, List.getElem?_cons_succ, List.getElem?_cons_zero]; rfl) (by kernel_rfl) (by kernel_rfl) (by kernel_rfl) (by kernel_rfl) (by intro _ _ _ h; exact h) (Or.inl ⟨by rfl, ?_⟩) (by assumption) ?_
            rotate_left
            · intro w hSw; (try dsimp only at hSw); go_simp; try with_reducible rfl
            try simp only [Act.put, List.setIfInBounds_toArray, List.set_cons_zero, List.set_cons_succ]
            refine wpAnyK_take (i := 2) (v := ?_) (by simp only [List.getElem?_toArray, List.getElem?_cons_succ, List.getElem?_cons_zero]; rfl) (by kernel_rfl) (by kernel_rfl) (by kernel_rfl) (by kernel_rfl) (by intro _ _ _ h; exact h) (Or.inl ⟨by rfl, ?_⟩) (by assumption) ?_
            rotate_left
            · intro w hSw; (try dsimp only at hSw); go_simp; try with_reducible rfl
            try simp only [Act.put, List.setIfInBounds_toArray, List.set_cons_zero, List.set_cons_succ]
            refine wpAnyK_take (i := 3) (v := ?_) (by simp only [List.getElem?_toArray, List.getElem?_cons_succ, List.getElem?_cons_zero]; rfl) (by kernel_rfl) (by kernel_rfl) (by kernel_rfl) (by kernel_rfl) (by intro _ _ _ h; exact h) (Or.inl ⟨by rfl, ?_⟩) (by assumption) ?_
            rotate_left
            · intro w hSw; (try dsimp only at hSw); go_simp; try with_reducible rfl
            try simp only [Act.put, List.setIfInBounds_toArray, List.set_cons_zero, List.set_cons_succ]
            refine wpAnyK_take (i := 4) (v := ?_) (by simp only [List.getElem?_toArray, List.getElem?_cons_succ, List.getElem?_cons_zero]; rfl) (by kernel_rfl) (by kernel_rfl) (by kernel_rfl) (by kernel_rfl) (by intro _ _ _ h; exact h) (Or.inl ⟨by rfl, ?_⟩) (by assumption) ?_
            rotate_left
            · intro w hSw; (try dsimp only at hSw); go_simp; rw [HSum.out]
            try simp only [Act.put, List.setIfInBounds_toArray, List.set_cons_zero, List.set_cons_succ]
            refine wpAnyK_take (i := 5) (v := ?_) (by simp only [List.getElem?_toArray, List.getElem?_cons_succ, List.getElem?_cons_zero]; rfl) (by kernel_rfl) (by kernel_rfl) (by kernel_rfl) (by kernel_rfl) (by intro _ _ _ h; exact h) (Or.inl ⟨by rfl, ?_⟩) (by assumption) ?_
            rotate_left
            · intro w hSw; (try dsimp only at hSw); go_simp; try with_reducible rfl
            try simp only [Act.put, List.setIfInBounds_toArray, List.set_cons_zero, List.set_cons_succ]
            refine wpAnyK_take (i := 6) (v := ?_) (by simp only [List.getElem?_toArray, List.getElem?_cons_succ, List.getElem?_cons_zero]; rfl) (by kernel_rfl) (by kernel_rfl) (by kernel_rfl) (by kernel_rfl) (by intro _ _ _ h; exact h) (Or.inl ⟨by rfl, ?_⟩) (by assumption) ?_
            rotate_left
            · intro w hSw; (try dsimp only at hSw); go_simp; try with_reducible rfl
            try simp only [Act.put, List.setIfInBounds_toArray, List.set_cons_zero, List.set_cons_succ]
            refine wpAnyK_take (i := 7) (v := ?_) (by simp only [List.getElem?_toArray, List.getElem?_cons_succ, List.getElem?_cons_zero]; rfl) (by kernel_rfl) (by kernel_rfl) (by kernel_rfl) (by kernel_rfl) (by intro _ _ _ h; exact h) (Or.inl ⟨by rfl, ?_⟩) (by assumption) ?_
            rotate_left
            · intro w hSw; (try dsimp only at hSw); go_simp; first | with_reducible rfl | rw [if_pos (by omega)]
            try simp only [Act.put, List.setIfInBounds_toArray, List.set_cons_zero, List.set_cons_succ]
            refine wpAnyK_take (i := 8) (v := ?_) (by simp only [List.getElem?_toArray, List.getElem?_cons_succ, List.getElem?_cons_zero]; rfl) (by kernel_rfl) (by kernel_rfl) (by kernel_rfl) (by kernel_rfl) (by intro _ _ _ h; exact h) (Or.inl ⟨by rfl, ?_⟩) (by assumption) ?_
            rotate_left
            · intro w hSw; (try dsimp only at hSw); go_simp; try with_reducible rfl
            try simp only [Act.put, List.setIfInBounds_toArray, List.set_cons_zero, List.set_cons_succ]
            refine wpAnyK_take (i := 9) (v := ?_) (by simp only [List.getElem?_toArray, List.getElem?_cons_succ, List.getElem?_cons_zero]; rfl) (by kernel_rfl) (by kernel_rfl) (by kernel_rfl) (by kernel_rfl) (by intro _ _ _ h; exact h) (Or.inl ⟨by rfl, ?_⟩) (by assumption) ?_
            rotate_left
            · intro w hSw; (try dsimp only at hSw); go_simp; first | with_reducible rfl | rw [if_pos (by omega)]
            try simp only [Act.put, List.setIfInBounds_toArray, List.set_cons_zero, List.set_cons_succ]
            refine wpAnyK_ready (rs := [10]) (by kernel_rfl) (by simp) ?_
            refine AllReadyK.cons (o := _) (by simp only [List.getElem?_toArray, List.getElem?_cons_succ, List.getElem?_cons_zero]; rfl) (fun K hK => ?_) AllReadyK.nil
            go_simp

            refine hK.out _ _ (fun h => absurd rfl h) (fun _ => ?_)
            clear hK K
            try simp only [Act.put, List.setIfInBounds_toArray, List.set_cons_zero, List.set_cons_succ]
            refine wpAnyK_done (by kernel_rfl) ?_ _
            go_wp2_with fail
            go_roundw
            case rel => exact ⟨i + 1, by omega, by go_num, by rw [HFs.out]; go_num, HN1⟩
            case measure => simp [intOf]; omega
          · have hmb1 : decide ((fl : Int) < (nst : Int)) = false := by simpa using hfm
            have hmb2 : decide (fl < nst) = false := by simpa using hfm
            have HNm : Hid (nst ≠ nk) := Lib.hid (fun e => hfm (HKt.out e rfl))
            go_wp2_with fail
            go_roundw
            case rel => exact ⟨i + 1, by omega, by go_num, by rw [HFs.out]; go_num, Lib.hid ⟨f, HB2.out, HRow2.out, fun e => absurd e HNm.out⟩⟩
            case measure => simp [intOf]; omega
      · obtain rfl : n = i := by omega
        have hfk : (flopsTo D n).length = nk := by rw [HNk.out]; unfold flopsL; rw [HDn.out, ← HN.out]
        rw [hfk]
        clear hfk hlt hi hfl
        obtain ⟨f, hb, hr, hf⟩ := hh.out
        have hgz2 : g ≤ W2.heap.size := Nat.le_of_eq HG.out
        have hgz : W2.heap.size ≤ g := Nat.le_of_eq HG.out.symm
        have q0 : wr.cell? ⟨h, 0, none⟩ = some (.int .i64 (insn : Int)) := (hb.cell (p := ⟨_, _, none⟩) (by have := World.block_lt_of_cell? W2 _ y0; simp only at this ⊢; omega)).trans y0
        have HBr := Lib.hid hb
        have HFw : Hid (Below w.heap.size w wr) := Lib.hid (HX2.out.below.trans (hb.mono (by have := HX2.out.size; omega)))
        have HRr := Lib.hid hr
        have HFf := Lib.hid hf
        clear hb hr hf hh
        by_cases hni : nin = insn
        · by_cases hns : nst = nk
          · obtain rfl : nin = insn := hni
            obtain rfl : nst = nk := hns
            obtain ⟨cur, hcur, hcs, hcf⟩ := HRr.out
            have hfeq := HFf.out rfl
            have hb1 : ((nin : Int) != (nin : Int)) = false := by simp
            have hb2 : ((nst : Int) != (nst : Int)) = false := by simp
            have HCur := Lib.hid hcur
            have HCs := Lib.hid hcs
            have HCf := Lib.hid hcf
            have HFe := Lib.hid hfeq
            have HSIr := Lib.hid (HSI.out.below HFw.out (Nat.le_refl _))
            clear hcur hcs hcf hfeq
            have HC1 : Hid ((inn.map Value.bool).length = Nat.min nin (nin + n)) := Lib.hid (by rw [List.length_map, ← HNin.out]; exact (Nat.min_eq_left (by omega)).symm)
            have HC2 : Hid (0 < (inn.map Value.bool).length → (some ⟨g, 0, none⟩ : Option Addr) = some ⟨g, 0, none⟩ ∧ ∃ ad, ia = some ad ∧ ∀ j v, (inn.map Value.bool)[j]? = some v → wr.cell? (ad.add j) = some v) := Lib.hid (by
              intro h0
              rw [List.length_map, ← HNin.out] at h0
              obtain ⟨ib, io, hia, _, hic⟩ := HSIr.out.at 0 h0
              refine ⟨rfl, _, hia, fun j v hj => ?_⟩
              have hjl : j < inn.length := by have := (List.getElem?_eq_some_iff.1 hj).1; simpa using this
              rw [Addr.add_lit, hic j (by rw [HNin.out]; exact hjl), ← hj]
              simp [bools, List.getD_eq_getElem?_getD, List.getElem?_eq_getElem hjl])
            have HC3 : Hid (0 + (inn.map Value.bool).length ≤ cur.toList.length) := Lib.hid (by rw [List.length_map, ← HNin.out, Array.length_toList, HCs.out]; omega)
            have HC4 : Hid (∀ u ∈ inn.map Value.bool, u.oneCell' = true) := Lib.hid (by intro u hu; rw [List.mem_map] at hu; obtain ⟨x, _, rfl⟩ := hu; rfl)
            go_wp2_with (with_reducible refine wpList_copy_splice rfl (.tmp 76) (.tmp 77) 37 37 rfl 4 Try.underlying37 size4 (some ⟨g, 0, none⟩) ia (nin + n) (nin + n) nin ic rfl rfl g 0 cur.toList 4 HCur.out (inn.map Value.bool) HC1.out HC2.out HC3.out HC4.out g W2 HBr.out (Nat.le_refl _) ?_)
            intro w9 hg9 hb9'
            have hr9 := row_copied (f := f) HCs.out HCf.out (by rw [← HNin.out]; omega) hg9.out
            rw [HFe.out] at hr9
            have hb9 : Below W2.heap.size W2 w9 := hb9'.mono hgz
            clear hg9 hb9' q0
            obtain ⟨wr, rfl⟩ : ∃ W, W = w9 := ⟨_, rfl⟩
            obtain ⟨wa, hwa0⟩ : ∃ a, a = some (⟨g, 0, none⟩ : Addr) := ⟨_, rfl⟩
            have hWF : Wir wr W2.heap.size wa (nin + n) (wireF D inn st) := by
              rw [hwa0]
              refine Wir.ext (Wir.of_row hr9 (Nat.le_of_eq HG.out.symm)) (fun j hj => ?_)
              unfold wireF
              rw [HDi.out, ← HIns.out, Int.toNat_natCast, ← HNin.out, HDn.out, ← HN.out]
            rw [← hwa0]
            clear hwa0 hr9
            have HWF : Hid (Below W2.heap.size W2 wr ∧ Wir wr W2.heap.size wa (nin + n) (evT D (orderL D) (wireF D inn st) 0)) := Lib.hid ⟨hb9, hWF⟩
            clear hWF hb9
            go_wp2_with fail
            go_loopw [81] (fun tv wr => ∃ t : Nat, t ≤ tl ∧ tv = .int .i64 t ∧ Hid (Below W2.heap.size W2 wr ∧ Wir wr W2.heap.size wa (nin + n) (evT D (orderL D) (wireF D inn st) t))) (fun tv _ => tl - (intOf tv).toNat)
            case atStart => exact ⟨0, by omega, rfl, HWF⟩
            case round =>
              obtain ⟨t, ht, rfl, hh⟩ := hrel
              by_cases hlt : t < tl
              · obtain ⟨tb, to_, hta, htbl, htc⟩ := (HSTo.out.below hh.out.1 (Nat.le_refl _)).at t (by rw [← HTL.out]; exact hlt)
                have x0 := htc t (by rw [← HTL.out]; exact hlt)
                have hbt := (orderL_told D).lt ((orderL D).getD t 0) (getD_mem _ 0 (by rw [← HTL.out]; exact hlt))
                have hst : evT D (orderL D) (wireF D inn st) (t + 1) = upd (evT D (orderL D) (wireF D inn st) t) (D.ins.toNat + (orderL D).getD t 0) (valueB (D.blk ((orderL D).getD t 0)).ins (D.blk ((orderL D).getD t 0)).tab (evT D (orderL D) (wireF D inn st) t)) := rfl
                rw [HDi.out, ← HIns.out, Int.toNat_natCast] at hst
                obtain ⟨b, hb⟩ : ∃ x, x = (orderL D).getD t 0 := ⟨_, rfl⟩
                rw [← hb] at x0 hbt hst
                have hbn : b < n := by have := hbt.1; rw [HDn.out, ← HN.out] at this; exact this
                have hB3 := hh.out.1
                have hB7 : Below w.heap.size w wr := HX2.out.below.trans (hB3.mono (by have := HX2.out.size; omega))
                obtain ⟨kb2, ko2, hba2, hkbl2, d0, d1, d2, d3⟩ := (H.out.below hB7 (Nat.le_refl _)).blk b (by rw [← HN.out]; exact hbn)
                rw [← HBa.out] at hba2
                have hEach := ((H.out.below hB7 (Nat.le_refl _)).each _ (getD_mem P.bs default (by rw [← HN.out]; exact hbn : b < P.bs.length)))
                have hmb := HMb.out b (by rw [← HN.out]; exact hbn)
                rw [← HIns.out, ← HN.out] at hmb
                have hbk := HDk.out b
                obtain ⟨L, hLe⟩ : ∃ L, L = P.bs.getD b default := ⟨_, rfl⟩
                rw [← hLe] at d0 d1 d2 d3 hEach hmb hbk
                obtain ⟨La, Lc, Li, Lt, Lf, Ln⟩ := L
                dsimp only at d0 d1 d2 d3 hEach hmb hbk
                obtain ⟨hin0, hl4, ht0, ht1⟩ := hmb
                have HIn : Hid (∀ x ∈ Li, 0 ≤ x ∧ x < ((nin + n : Nat) : Int)) := Lib.hid (fun x hx => by have := hin0 x hx; omega)
                have HBk := Lib.hid hbk
                rw [hbk] at hst
                dsimp only at hst
                obtain ⟨wv, hwv⟩ : ∃ f, f = evT D (orderL D) (wireF D inn st) t := ⟨_, rfl⟩
                rw [← hwv] at hst
                obtain ⟨q, hq⟩ : ∃ q, q = nin + b := ⟨_, rfl⟩
                rw [← hq] at hst
                have hqm : q < nin + n := by omega
                have hWd : Wir wr.drew W2.heap.size wa (nin + n) wv := by rw [hwv]; exact hh.out.2.below (Below.refl _ _).drew
                obtain ⟨g, hwa, hg1, hg2, _, _, _⟩ := hWd.at hqm
                have q0 : wr.cell? ⟨h, 0, none⟩ = some (.int .i64 (nin : Int)) := (hB3.cell (p := ⟨_, _, none⟩) (World.block_lt_of_cell? W2 _ y0)).trans y0
                have q1 : wr.cell? ⟨h, 1, none⟩ = some (.slice ba n bc) := (hB3.cell (p := ⟨_, _, none⟩) (World.block_lt_of_cell? W2 _ y1)).trans y1
                have HSum : Hid (IntKind.i64.wrap ((nin : Int) + (b : Int)) = (q : Int)) := Lib.hid (by rw [show (nin : Int) + (b : Int) = (q : Int) by omega]; exact Lib.wrap_i64_small _ (by omega))
                have HSqD := Lib.hid (hEach.1.below (w' := wr.drew) (Below.refl _ _).drew (Nat.le_refl _))
                have HBB3 := Lib.hid hB3
                have HStp := Lib.hid hst
                have HQ := Lib.hid hq
                rw [hwa] at hWd
                have HWq := Lib.hid hWd
                clear hq htc hbt hst hb hLe hEach hbk hin0 hB3 hB7 hh hwv hWd
                subst hta hwa hba2
                go_wp2_with fail
                refine wp_region_K (S := fun w' => w'.cell? ⟨h, 0, none⟩ = some (.int .i64 (nin : Int)) ∧ w'.cell? ⟨h, 1, none⟩ = some (.slice (some ⟨kb2, ko2, none⟩) n bc) ∧ w'.cell? ⟨kb2, ko2 + b * 4, none⟩ = some (.slice La Li.length Lc) ∧ w'.cell? ⟨kb2, ko2 + b * 4 + 1, none⟩ = some (.int .i64 Lt) ∧ w'.cell? ⟨kb2, ko2 + b * 4 + 2, none⟩ = some (.bool Lf) ∧ w'.cell? ⟨kb2, ko2 + b * 4 + 3, none⟩ = some (.bool Ln)) 13 (by kernel_rfl) (⟨q0, q1, d0, d1, d2, d3⟩) (fun hHeld => ?_)
                refine wpAnyK_take (i := 0) (v := ?_) (by simp only [List.getElem?_toArray, List.getElem?_cons_succ, List.getElem?_cons_zero]; rfl) (by kernel_rfl) (by kernel_rfl) (by kernel_rfl) (by kernel_rfl) (by intro _ _ _ h; exact h) (Or.inl ⟨by rfl, ?_⟩) (by assumption) ?_
                rotate_left
                · intro w hSw; (try dsimp only at hSw); go_simp; try with_reducible rfl
                try simp only [Act.put, List.setIfInBounds_toArray, List.set_cons_zero, List.set_cons_succ]
                refine wpAnyK_take (i := 1) (v := ?_) (by simp only [List.getElem?_toArray, List.getElem?_cons_succ, List.getElem?_cons_zero]; rfl) (by kernel_rfl) (by kernel_rfl) (by kernel_rfl) (by kernel_rfl) (by intro _ _ _ h; exact h) (Or.inl ⟨by rfl, ?_⟩) (by assumption) ?_
                rotate_left
                · intro w hSw; (try dsimp only at hSw); go_simp; try with_reducible rfl
                try simp only [Act.put, List.setIfInBounds_toArray, List.set_cons_zero, List.set_cons_succ]
                refine wpAnyK_take (i := 2) (v := ?_) (by simp only [List.getElem?_toArray, List.getElem?_cons_succ, List.getElem?_cons_zero]; rfl) (by kernel_rfl) (by kernel_rfl) (by kernel_rfl) (by kernel_rfl) (by intro _ _ _ h; exact h) (Or.inl ⟨by rfl, ?_⟩) (by assumption) ?_
                rotate_left
                · intro w hSw; (try dsimp only at hSw); go_simp; try with_reducible rfl
                try simp only [Act.put, List.setIfInBounds_toArray, List.set_cons_zero, List.set_cons_succ]
                refine wpAnyK_take (i := 3) (v := ?_) (by simp only [List.getElem?_toArray, List.getElem?_cons_succ, List.getElem?_cons_zero]; rfl) (by kernel_rfl) (by kernel_rfl) (by kernel_rfl) (by kernel_rfl) (by intro _ _ _ h; exact h) (Or.inl ⟨by rfl, ?_⟩) (by assumption) ?_
                rotate_left
                · intro w hSw; (try dsimp only at hSw); go_simp; try with_reducible rfl
                try simp only [Act.put, List.setIfInBounds_toArray, List.set_cons_zero, List.set_cons_succ]
                refine wpAnyK_take (i := 4) (v := ?_) (by simp only [List.getElem?_toArray, List.getElem?_cons_succ, List.getElem?_cons_zero]; rfl) (by kernel_rfl) (by kernel_rfl) (by kernel_rfl) (by kernel_rfl) (by intro _ _ _ h; exact h) (Or.inl ⟨by rfl, ?_⟩) (by assumption) ?_
                rotate_left
                · intro w hSw; (try dsimp only at hSw); go_simp; rw [HSum.out]
                try simp only [Act.put, List.setIfInBounds_toArray, List.set_cons_zero, List.set_cons_succ]
                refine wpAnyK_take (i := 5) (v := ?_) (by simp only [List.getElem?_toArray, List.getElem?_cons_succ, List.getElem?_cons_zero]; rfl) (by kernel_rfl) (by kernel_rfl) (by kernel_rfl) (by kernel_rfl) (by intro _ _ _ h; exact h) (Or.inl ⟨by rfl, ?_⟩) (by assumption) ?_
                rotate_left
                · intro w hSw; (try dsimp only at hSw); go_simp; try with_reducible rfl
                try simp only [Act.put, List.setIfInBounds_toArray, List.set_cons_zero, List.set_cons_succ]
                refine wpAnyK_take (i := 6) (v := ?_) (by simp only [List.getElem?_toArray, List.getElem?_cons_succ, List.getElem?_cons_zero]; rfl) (by kernel_rfl) (by kernel_rfl) (by kernel_rfl) (by kernel_rfl) (by intro _ _ _ h; exact h) (Or.inl ⟨by rfl, ?_⟩) (by assumption) ?_
                rotate_left
                · intro w hSw; (try dsimp only at hSw); go_simp; try with_reducible rfl
                try simp only [Act.put, List.setIfInBounds_toArray, List.set_cons_zero, List.set_cons_succ]
                refine wpAnyK_take (i := 7) (v := ?_) (by simp only [List.getElem?_toArray, List.getElem?_cons_succ, List.getElem?_cons_zero]; rfl) (by kernel_rfl) (by kernel_rfl) (by kernel_rfl) (by kernel_rfl) (by intro _ _ _ h; exact h) (Or.inl ⟨by rfl, ?_⟩) (by assumption) ?_
                rotate_left
                · intro w hSw; (try dsimp only at hSw); go_simp; try with_reducible rfl
                try simp only [Act.put, List.setIfInBounds_toArray, List.set_cons_zero, List.set_cons_succ]
                refine wpAnyK_take (i := 8) (v := ?_) (by simp only [List.getElem?_toArray, List.getElem?_cons_succ, List.getElem?_cons_zero]; rfl) (by kernel_rfl) (by kernel_rfl) (by kernel_rfl) (by kernel_rfl) (by intro _ _ _ h; exact h) (Or.inl ⟨by rfl, ?_⟩) (by assumption) ?_
                rotate_left
                · intro w hSw; (try dsimp only at hSw); go_simp; first | with_reducible rfl | rw [if_pos (by omega)]
                try simp only [Act.put, List.setIfInBounds_toArray, List.set_cons_zero, List.set_cons_succ]
                refine wpAnyK_take (i := 9) (v := ?_) (by simp only [List.getElem?_toArray, List.getElem?_cons_succ, List.getElem?_cons_zero]; rfl) (by kernel_rfl) (by kernel_rfl) (by kernel_rfl) (by kernel_rfl) (by intro _ _ _ h; exact h) (Or.inl ⟨by rfl, ?_⟩) (by assumption) ?_
                rotate_left
                · intro w hSw; (try dsimp only at hSw); go_simp; try with_reducible rfl
                try simp only [Act.put, List.setIfInBounds_toArray, List.set_cons_zero, List.set_cons_succ]
                refine wpAnyK_take (i := 10) (v := ?_) (by simp only [List.getElem?_toArray, List.getElem?_cons_succ, List.getElem?_cons_zero]; rfl) (by kernel_rfl) (by kernel_rfl) (by kernel_rfl) (by kernel_rfl) (by intro _ _ _ h; exact h) (Or.inl ⟨by rfl, ?_⟩) (by assumption) ?_
                rotate_left
                · intro w hSw; (try dsimp only at hSw); go_simp; try with_reducible rfl
                try simp only [Act.put, List.setIfInBounds_toArray, List.set_cons_zero, List.set_cons_succ]
                refine wpAnyK_ready (rs := [11]) (by kernel_rfl) (by simp) ?_
                refine AllReadyK.cons (o := _) (by simp only [List.getElem?_toArray, List.getElem?_cons_succ, List.getElem?_cons_zero]; rfl) (fun K hK => ?_) AllReadyK.nil
                go_simp
                go_at_call 62
                refine Calls.mono (value62 wr.drew La Lc Li Lt Lf Ln (some ⟨g, 0, none⟩) (nin + n) (nin + n) _ HSqD.out HWq.out.seq hl4 HIn.out ht0 ht1 (by omega)) ?_
                rintro e w7 ⟨rfl, hb7⟩
                have hW7 := HWq.out.below hb7
                obtain ⟨g7, hwa7, _, _, hgc, hgf, hset⟩ := hW7.at hqm
                have hge : g7 = g := by injection hwa7 with e; injection e with e; exact e.symm
                rw [hge] at hgc hgf hset
                have kk7 : ∀ {c o : Nat} {v : Value}, wr.cell? ⟨c, o, none⟩ = some v → w7.cell? ⟨c, o, none⟩ = some v := fun {c o v} hc => (hb7.cell (p := ⟨c, o, none⟩) (World.block_lt_of_cell? wr _ hc)).trans hc
                have HN1 : Hid (Below W2.heap.size W2 (w7.setCell ⟨g, q, none⟩ (.bool (valueB Li Lt wv))) ∧ Wir (w7.setCell ⟨g, q, none⟩ (.bool (valueB Li Lt wv))) W2.heap.size (some ⟨g, 0, none⟩) (nin + n) (evT D (orderL D) (wireF D inn st) (t + 1))) := Lib.hid ⟨((HBB3.out.drew).trans (hb7.mono (by simpa using HBB3.out.size))).setCell hg1 _, by rw [HStp.out]; exact hset _⟩
                have r0 := kk7 q0
                have r1 := kk7 q1
                have r2 := kk7 d0
                have r3 := kk7 d1
                have r4 := kk7 d2
                have r5 := kk7 d3
                clear hb7 hW7 hwa7 hge hset kk7
                go_simp
                refine hK.out _ _ (fun _ => by exact ⟨r0, r1, r2, r3, r4, r5⟩) (fun hH => ?_)
                have hHeld := hH (by decide)
                clear hK K hH
                try simp only [Act.put, List.setIfInBounds_toArray, List.set_cons_zero, List.set_cons_succ]
                refine wpAnyK_take (i := 12) (v := ?_) (by simp only [List.getElem?_toArray, List.getElem?_cons_succ, List.getElem?_cons_zero]; rfl) (by kernel_rfl) (by kernel_rfl) (by kernel_rfl) (by kernel_rfl) (by intro _ _ _ h; exact h) (Or.inl ⟨by rfl, ?_⟩) (by assumption) ?_
                rotate_left
                · intro w hSw; (try dsimp only at hSw); go_simp; first | with_reducible rfl | rw [if_pos (by omega)]
                try simp only [Act.put, List.setIfInBounds_toArray, List.set_cons_zero, List.set_cons_succ]
                refine wpAnyK_ready (rs := [13]) (by kernel_rfl) (by simp) ?_
                refine AllReadyK.cons (o := _) (by simp only [List.getElem?_toArray, List.getElem?_cons_succ, List.getElem?_cons_zero]; rfl) (fun K hK => ?_) AllReadyK.nil
                go_simp

                refine hK.out _ _ (fun h => absurd rfl h) (fun _ => ?_)
                clear hK K
                try simp only [Act.put, List.setIfInBounds_toArray, List.set_cons_zero, List.set_cons_succ]
                refine wpAnyK_done (by kernel_rfl) ?_ _
                go_wp2_with fail
                go_roundw
                case rel => exact ⟨t + 1, by omega, by go_num, HN1⟩
                case measure => simp [intOf]; omega
              · obtain rfl : tl = t := by omega
                have hWE : Wir wr W2.heap.size wa (nin + n) (evW D inn st) := by
                  have := hh.out.2
                  rw [HTL.out] at this
                  exact this
                obtain ⟨W6, hW6⟩ : ∃ W, W = wr := ⟨_, rfl⟩
                rw [← hW6] at hWE
                have HB6 : Hid (Below W2.heap.size W2 W6) := Lib.hid (by rw [hW6]; exact hh.out.1)
                have hz2 : W6.cell? ⟨h, 2, none⟩ = some (.slice oa on oc) := (HB6.out.cell (p := ⟨_, _, none⟩) (World.block_lt_of_cell? W2 _ y2)).trans y2
                have HWE := Lib.hid hWE
                have HB67 : Hid (Below w.heap.size w W6) := Lib.hid (HX2.out.below.trans (HB6.out.mono (by have := HX2.out.size; omega)))
                rw [← hW6]
                clear hh hW6 hWE hlt ht
                go_wp2_with fail
                go_loopw [17, 102] (fun ov jv wr => ∃ (j : Nat) (v : Value), j ≤ on ∧ jv = .int .i64 j ∧ v = ov ∧ Hid (Below W6.heap.size W6 wr ∧ wr.ownsRow W6.heap.size 4 1 v j (((P.os.take j).map (fun x => evW D inn st x.toNat)).map Value.bool))) (fun _ jv _ => on - (intOf jv).toNat)
                case atStart => exact ⟨0, _, by omega, rfl, rfl, Lib.hid ⟨Below.refl _ _, World.ownsRow_nil _ _ _ _⟩⟩
                case round =>
                  obtain ⟨j, v, hj, rfl, rfl, hh⟩ := hrel
                  by_cases hlj : j < on
                  · have hjo : j < P.os.length := by rw [← HOn.out]; exact hlj
                    have hB7 : Below w.heap.size w wr := HB67.out.trans (hh.out.1.mono HB67.out.size)
                    obtain ⟨ob, oo, hoa2, hobl, hoc2⟩ := (H.out.below hB7 (Nat.le_refl _)).outs.at j hjo
                    rw [← HOa.out] at hoa2
                    have x0 := hoc2 j hjo
                    unfold ints at x0
                    have hxm := HMo.out _ (getD_mem P.os 0 hjo)
                    rw [← HIns.out, ← HN.out] at hxm
                    have htk := take_one P.os 0 j hjo
                    obtain ⟨x, hx⟩ : ∃ x, x = P.os.getD j 0 := ⟨_, rfl⟩
                    rw [← hx] at x0 hxm htk
                    obtain ⟨xn, rfl⟩ : ∃ k : Nat, x = k := ⟨x.toNat, by omega⟩
                    have hxn : xn < nin + n := by omega
                    obtain ⟨g, hwa, hg1, hg2, hgc, hgf, _⟩ := (HWE.out.below hh.out.1).at hxn
                    obtain ⟨bv, hbv⟩ : ∃ b, b = evW D inn st xn := ⟨_, rfl⟩
                    rw [← hbv] at hgc
                    obtain ⟨xs, hxs⟩ : ∃ l, l = (P.os.take j).map (fun x => evW D inn st x.toNat) := ⟨_, rfl⟩
                    have hxs2 : (P.os.take (j + 1)).map (fun x => evW D inn st x.toNat) = xs ++ [bv] := by rw [htk, List.map_append, ← hxs, hbv]; simp
                    have ho := hh.out.2
                    rw [← hxs] at ho
                    have HO := Lib.hid ho
                    have HXs2 := Lib.hid hxs2
                    have HB := Lib.hid hh.out.1
                    clear hoc2 hx htk hbv hxs hxs2 ho hB7 hh
                    have hsz6 := HB.out.size
                    subst hoa2 hwa
                    go_wp2_with (at_builtin; refine wpList_append_lies _ rfl _ _ _ rfl W6.heap.size 4 i4 (.bool false) 1 1 Try.underlying37 hi4 hz0 hz1 hz2x rfl (by decide) v j (xs.map Value.bool) rfl (HO.out.alloc _) ⟨wr.heap.size, 0, none⟩ 1 1 [.bool bv] rfl rfl (one_new (cell_newW _ _ _)) (by simp [Value.oneCell']) (by omega) (by unfold maxLen; omega) (by omega) (by simp; omega) (wr.heap.size + 1) (by simp) ?_)
                    intro gB cB w9 ho9 hg9 hat9 hlt9
                    have HN2 : Hid (Below W6.heap.size W6 w9 ∧ w9.ownsRow W6.heap.size 4 1 (.slice (some ⟨gB, 0, none⟩) (j + 1) cB) (j + 1) (((P.os.take (j + 1)).map (fun x => evW D inn st x.toNat)).map Value.bool)) := Lib.hid ⟨(HB.out.alloc hsz6 (Obj.cells #[Value.bool bv] 4)).grown hg9 (by simp; omega) (fun k e => (HO.out.lt k e).1), by rw [HXs2.out, List.map_append]; exact ho9⟩
                    clear ho9 hg9 hat9 hlt9
                    go_wp2_with fail
                    go_roundw
                    case rel => exact ⟨j + 1, _, by omega, by go_num, rfl, HN2⟩
                    case measure => simp [intOf]; omega
                  · obtain rfl : on = j := by omega
                    obtain ⟨W7, hW7⟩ : ∃ W, W = wr := ⟨_, rfl⟩
                    have hOv : W7.ownsRow W6.heap.size 4 1 v on ((P.os.map (fun x => evW D inn st x.toNat)).map Value.bool) := by
                      have h2 := hh.out.2
                      rw [hW7, show P.os.take on = P.os from List.take_of_length_le (by rw [← HOn.out]; exact Nat.le_refl _)] at *
                      exact h2
                    have HOv := Lib.hid hOv
                    have HB7 : Hid (Below W6.heap.size W6 W7) := Lib.hid (by rw [hW7]; exact hh.out.1)
                    have hW7e : Wir W7 W2.heap.size wa (nin + n) (evW D inn st) := HWE.out.below HB7.out
                    have HWE7 := Lib.hid hW7e
                    have HB77 : Hid (Below w.heap.size w W7) := Lib.hid (HB67.out.trans (HB7.out.mono HB67.out.size))
                    have HB37 : Hid (Below W2.heap.size W2 W7) := Lib.hid (HB6.out.trans (HB7.out.mono HB6.out.size))
                    have hz17 : W7.cell? ⟨h, 1, none⟩ = some (.slice ba n bc) := (HB37.out.cell (p := ⟨_, _, none⟩) (World.block_lt_of_cell? W2 _ y1)).trans y1
                    have HZ17 := Lib.hid hz17
                    rw [← hW7]
                    clear hh hW7 hOv hW7e hlj hj
                    go_wp2_with fail
                    clear hz17
                    go_loopw [18, 117] (fun ov jv wr => ∃ (i : Nat) (u : Value), i ≤ n ∧ jv = .int .i64 i ∧ u = ov ∧ Hid (Below W7.heap.size W7 wr ∧ wr.ownsRow W7.heap.size 4 1 u (flopsTo D i).length ((nextOf D (evW D inn st) (flopsTo D i)).map Value.bool))) (fun _ jv _ => n - (intOf jv).toNat)
                    case atStart => exact ⟨0, _, by omega, rfl, rfl, Lib.hid ⟨Below.refl _ _, World.ownsRow_nil _ _ _ _⟩⟩
                    case round =>
                      obtain ⟨i, u, hi, rfl, rfl, hh⟩ := hrel
                      have hfl := flopsTo_len D i
                      by_cases hlt : i < n
                      · have hB3 : Below W2.heap.size W2 wr := HB37.out.trans (hh.out.1.mono HB37.out.size)
                        have hB7 : Below w.heap.size w wr := HX2.out.below.trans (hB3.mono (by have := HX2.out.size; omega))
                        obtain ⟨kb2, ko2, hba2, hkbl2, d0, d1, d2, d3⟩ := (H.out.below hB7 (Nat.le_refl _)).blk i (by rw [← HN.out]; exact hlt)
                        rw [← HBa.out] at hba2
                        have hEach := ((H.out.below hB7 (Nat.le_refl _)).each _ (getD_mem P.bs default (by rw [← HN.out]; exact hlt : i < P.bs.length)))
                        have hmb := HMb.out i (by rw [← HN.out]; exact hlt)
                        rw [← HIns.out, ← HN.out] at hmb
                        have hbk := HDk.out i
                        have hst := flopsTo_succ D i
                        rw [hbk] at hst
                        obtain ⟨L, hLe⟩ : ∃ L, L = P.bs.getD i default := ⟨_, rfl⟩
                        rw [← hLe] at d0 d1 d2 d3 hEach hmb hbk hst
                        obtain ⟨La, Lc, Li, Lt, Lf, Ln⟩ := L
                        dsimp only at d0 d1 d2 d3 hEach hmb hbk hst
                        obtain ⟨hin0, hl4, ht0, ht1⟩ := hmb
                        have HIn : Hid (∀ x ∈ Li, 0 ≤ x ∧ x < ((nin + n : Nat) : Int)) := Lib.hid (fun x hx => by have := hin0 x hx; omega)
                        have q1 : wr.cell? ⟨h, 1, none⟩ = some (.slice ba n bc) := (hh.out.1.cell (p := ⟨_, _, none⟩) (World.block_lt_of_cell? W7 _ HZ17.out)).trans HZ17.out
                        obtain ⟨bv, hbv⟩ : ∃ b, b = valueB Li Lt (evW D inn st) := ⟨_, rfl⟩
                        obtain ⟨fl, hfle⟩ : ∃ k, k = (flopsTo D i).length := ⟨_, rfl⟩
                        rw [← hfle] at hfl hh
                        have hfs : (flopsTo D (i + 1)).length = fl + (if Lf then 1 else 0) := by rw [hst, List.length_append, ← hfle]; cases Lf <;> rfl
                        have HFs := Lib.hid hfs
                        obtain ⟨xs, hxs⟩ : ∃ l, l = nextOf D (evW D inn st) (flopsTo D i) := ⟨_, rfl⟩
                        rw [← hxs] at hh
                        have hxs2 : nextOf D (evW D inn st) (flopsTo D (i + 1)) = xs ++ (if Lf then [bv] else []) := by
                          rw [hst, hxs, hbv]
                          cases Lf
                          · simp [BlkV.data]
                          · unfold nextOf
                            simp [hbk, BlkV.data]
                        have HXs2 := Lib.hid hxs2
                        have HO := Lib.hid hh.out.2
                        have HB := Lib.hid hh.out.1
                        have hsz7 := HB.out.size
                        obtain ⟨W5, hW5⟩ : ∃ W, W = wr.alloc (Obj.cells #[Value.slice La Li.length Lc, Value.int .i64 Lt, Value.bool Lf, Value.bool Ln] 43) := ⟨_, rfl⟩
                        have hB5 : Below wr.heap.size wr W5 := by rw [hW5]; exact (Below.refl _ _).alloc (Nat.le_refl _) _
                        have hs5 := hB5.size
                        have HB5 : Hid (Below W7.heap.size W7 W5) := Lib.hid (HB.out.trans (hB5.mono hsz7))
                        have HO5 : Hid (W5.ownsRow W7.heap.size 4 1 u fl (xs.map Value.bool)) := Lib.hid (own_below HO.out hB5)
                        have hEach5 := hEach.1.below hB5 (Nat.le_refl _)
                        have hWr5 := (HWE7.out.below HB5.out)
                        have C52 := value62 W5 La Lc Li Lt Lf Ln wa (nin + n) (nin + n) _ hEach5 hWr5.seq hl4 HIn.out ht0 ht1 (by omega)
                        rw [← hbv] at C52
                        have HC52 := Lib.hid C52
                        have HW5 := Lib.hid hW5
                        clear hst hLe hEach hbk hin0 hB3 hB7 hh hbv C52 hxs hxs2 hfs hfle hEach5 hWr5 hB5 hW5
                        subst hba2
                        cases Lf
                        · go_wp2_with fail
                          go_roundw
                          case rel => exact ⟨i + 1, _, by omega, by go_num, rfl, Lib.hid ⟨by rw [← HW5.out]; exact HB5.out, by rw [HFs.out, HXs2.out, ← HW5.out]; simpa using HO5.out⟩⟩
                          case measure => simp [intOf]; omega
                        · go_wp2_with fail
                          rw [← HW5.out]
                          refine Calls.mono HC52.out ?_
                          rintro e w8 ⟨rfl, hb8⟩
                          have HO8 := Lib.hid (own_below HO5.out hb8)
                          have hs8 := hb8.size
                          have HB8 := Lib.hid (HB5.out.trans (hb8.mono (by omega)))
                          clear hb8
                          go_wp2_with (at_builtin; refine wpList_append_lies _ rfl _ _ _ rfl W7.heap.size 4 i4 (.bool false) 1 1 Try.underlying37 hi4 hz0 hz1 hz2x rfl (by decide) u fl (xs.map Value.bool) rfl (HO8.out.alloc _) ⟨w8.heap.size, 0, none⟩ 1 1 [.bool bv] rfl rfl (one_new (cell_newW _ _ _)) (by simp [Value.oneCell']) (by omega) (by unfold maxLen; omega) (by omega) (by simp; omega) (w8.heap.size + 1) (by simp) ?_)
                          intro gB cB w9 ho9 hg9 hat9 hlt9
                          have HN2 : Hid (Below W7.heap.size W7 w9 ∧ w9.ownsRow W7.heap.size 4 1 (.slice (some ⟨gB, 0, none⟩) (fl + 1) cB) (flopsTo D (i + 1)).length ((nextOf D (evW D inn st) (flopsTo D (i + 1))).map Value.bool)) := Lib.hid ⟨(HB8.out.alloc (by omega) (Obj.cells #[Value.bool bv] 4)).grown hg9 (by simp; omega) (fun k e => (HO8.out.lt k e).1), by rw [HFs.out, HXs2.out]; simp only [if_true, List.map_append]; exact ho9⟩
                          clear ho9 hg9 hat9 hlt9
                          go_wp2_with fail
                          go_roundw
                          case rel => exact ⟨i + 1, _, by omega, by go_num, rfl, HN2⟩
                          case measure => simp [intOf]; omega
                      · obtain rfl : n = i := by omega
                        have hfk : flopsTo D n = flopsL D := by unfold flopsL; rw [HDn.out, ← HN.out]
                        rw [hfk] at hh
                        have he : evalE D inn st = 0 := by
                          rw [HEv.out, if_pos (by first | rfl | trivial), if_pos ⟨by rw [HDi.out, ← HIns.out], by first | rfl | trivial⟩]
                        have hfin := someEval (w := w) (w' := wr) (D := D) (inn := inn) (st := st) he (v1 := v) (v2 := u) (l1 := P.os.map (fun x => evW D inn st x.toNat)) (l2 := nextOf D (evW D inn st) (flopsL D)) (n1 := on) (n2 := (flopsL D).length) (by rw [HDo.out]) rfl
                          (by rw [List.length_map, ← HOn.out]) (by unfold nextOf; rw [List.length_map]) (own_below HOv.out hh.out.1)
                          hh.out.2 (HB77.out.trans (hh.out.1.mono HB77.out.size)) HB67.out.size HB77.out.size
                        have HFin := Lib.hid hfin
                        clear hfin he hh hfk
                        go_wp2_with fail
                        go_ret3
                        exact HFin.out

          · have hb1 : ((nin : Int) != (insn : Int)) = false := by simp; omega
            have hb2 : ((nst : Int) != (nk : Int)) = true := by simp; omega
            have he : evalE D inn st = 1 := by rw [HEv.out, if_pos (by first | rfl | trivial), if_neg (fun e => hns e.2)]
            have hres := noEval (w := w) (w' := wr) (D := D) (inn := inn) (st := st) (by rw [he]; decide) HFw.out
            rw [he] at hres
            have HRes := Lib.hid hres
            clear hres he hni hns
            go_wp2_with fail
            go_ret3
            exact HRes.out
        · have hb1 : ((nin : Int) != (insn : Int)) = true := by simp; omega
          have he : evalE D inn st = 1 := by rw [HEv.out, if_pos (by first | rfl | trivial), if_neg (fun e => hni (by have := e.1; rw [HDi.out, ← HIns.out] at this; omega))]
          have hres := noEval (w := w) (w' := wr) (D := D) (inn := inn) (st := st) (by rw [he]; decide) HFw.out
          rw [he] at hres
          have HRes := Lib.hid hres
          clear hres he hni
          go_wp2_with fail
          go_ret3
          exact HRes.out
  · have hEb : (E != 0) = true := by simpa using hEz
    have he : evalE D inn st = E := by rw [HEv.out, if_neg hEz]
    have hres := noEval (w := w) (w' := W2) (D := D) (inn := inn) (st := st) (by rw [he]; exact hEz) HX2.out.below
    rw [he] at hres
    have HRes := Lib.hid hres
    clear hres he hEz ho2
    go_wp2_with fail
    go_ret3
    exact HRes.out
end Go.Proofs.Ytibimdhmfchcoaa
