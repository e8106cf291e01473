import Derived.Test.YtibimdhmfchcoaaE1
/- G0 -/
namespace Go.Proofs.Ytibimdhmfchcoaa
open Go.RowKit Go.Shelf Go.Maps
set_option linter.unusedVariables false
set_option linter.unusedSimpArgs false

/-- A row of bits as it lies. -/
structure RowV where
  a : Option Addr
  c : Nat
  l : List Bool
instance : Inhabited RowV := ⟨⟨none, 0, []⟩⟩
def rowCell (rs : List RowV) : Nat → Value := fun i => .slice (rs.getD i default).a (rs.getD i default).l.length (rs.getD i default).c
def rowsL (rs : List RowV) : List (List Bool) := rs.map RowV.l
/-- How rows of bits read in a world. -/
structure RowsAt (w : World) (a : Option Addr) (rs : List RowV) : Prop where
  rows : Seq w a rs.length (rowCell rs)
  each : ∀ i, i < rs.length → Seq w (rs.getD i default).a (rs.getD i default).l.length (bools (rs.getD i default).l)
  rowL : ∀ i, i < rs.length → (rs.getD i default).l.length ≤ 9223372036854775807
  len : rs.length ≤ 9223372036854775807
theorem RowsAt.below {w w' : World} {B : Nat} {a : Option Addr} {rs : List RowV} (h : RowsAt w a rs) (hb : Below B w w') (hB : w.heap.size ≤ B) : RowsAt w' a rs :=
  ⟨h.rows.below hb hB, fun i hi => (h.each i hi).below hb hB, h.rowL, h.len⟩
theorem rows_get (rs : List RowV) (k : Nat) : (rowsL rs).getD k [] = (rs.getD k default).l := by
  unfold rowsL
  simp only [List.getD_eq_getElem?_getD, List.getElem?_map]
  cases rs[k]? <;> rfl
theorem rowsL_len (rs : List RowV) : (rowsL rs).length = rs.length := by unfold rowsL; exact List.length_map _
def fewRowsB (l : List (List Bool)) : Bool := l.all (fun r => decide (r.length ≤ 200)) && decide (l.length ≤ 30)
theorem rows_all {l : List (List Bool)} {m : Nat} (h : ∀ j, j < l.length → (l.getD j []).length ≤ m) : ∀ r ∈ l, r.length ≤ m := by
  intro r hr
  obtain ⟨j, hj, rfl⟩ := List.getElem_of_mem hr
  have := h j hj
  rwa [List.getD_eq_getElem?_getD, List.getElem?_eq_getElem hj] at this
theorem few_rows {l : List (List Bool)} (h : fewRowsB l = true) : l.length ≤ 30 ∧ ∀ j, (l.getD j []).length ≤ 200 := by
  unfold fewRowsB at h
  simp only [Bool.and_eq_true, decide_eq_true_eq, List.all_eq_true] at h
  refine ⟨h.2, fun j => ?_⟩
  rcases Nat.lt_or_ge j l.length with hj | hj
  · rw [List.getD_eq_getElem?_getD, List.getElem?_eq_getElem hj]; exact h.1 _ (List.getElem_mem _)
  · rw [List.getD_eq_getElem?_getD, List.getElem?_eq_none hj]; simp
set_option maxRecDepth 100000 in
theorem fewRows24 (w : World) (a : Option Addr) (n c : Nat) (rs : List RowV) (hn : n = rs.length) (h : RowsAt w a rs) :
    Calls Try.prog 24 #[.slice a n c, .int .i64 30] w fun e w' => e = .returned (.bool (fewRowsB (rowsL rs))) ∧ Below w.heap.size w w' := by
  have hl := h.len
  rw [← hn] at hl
  have H := Lib.hid h
  have HN := Lib.hid hn
  clear h hn
  go_enter Try.func24, Try.ntmps24
  go_wp2
  go_loopw [9] (fun i wr => ∃ k : Nat, k ≤ n ∧ i = .int .i64 k ∧ Hid (Below w.heap.size w wr ∧ ∀ j, j < k → ((rowsL rs).getD j []).length ≤ 200)) (fun i _ => n - (intOf i).toNat)
  case atStart => exact ⟨0, by omega, rfl, Lib.hid ⟨Below.refl _ _, fun j hj => by omega⟩⟩
  case round =>
    obtain ⟨k, hk, rfl, hh⟩ := hrel
    by_cases hlt : k < n
    · have hR := H.out.below hh.out.1 (Nat.le_refl _)
      obtain ⟨ab, ao, rfl, _, hac⟩ := hR.rows.at k (by rw [← HN.out]; exact hlt)
      have d0 := hac k (by rw [← HN.out]; exact hlt)
      unfold rowCell at d0
      have hrl := hR.rowL k (by rw [← HN.out]; exact hlt)
      have hg := rows_get rs k
      obtain ⟨x, hx⟩ : ∃ x, x = rs.getD k default := ⟨_, rfl⟩
      rw [← hx] at d0 hg hrl
      obtain ⟨xa, xc, xl⟩ := x
      dsimp only at d0 hg hrl
      obtain ⟨m, hm⟩ : ∃ m, m = xl.length := ⟨_, rfl⟩
      rw [← hm] at d0 hrl
      have HGm := Lib.hid hg
      have HMm := Lib.hid hm
      clear hac hx hR hg hm
      by_cases h2 : m ≤ 200
      · have hd : decide ((m : Int) > 200) = false := by simp; omega
        go_wp2
        go_roundw
        case rel => exact ⟨k + 1, by omega, by go_num, Lib.hid ⟨hh.out.1, fun j hj => by
          rcases Nat.lt_succ_iff_lt_or_eq.1 hj with h | rfl
          · exact hh.out.2 j h
          · rw [HGm.out, ← HMm.out]; exact h2⟩⟩
        case measure => simp [intOf]; omega
      · have hd : decide ((m : Int) > 200) = true := by simp; omega
        go_wp2
        go_ret
        refine ⟨ret_bool ?_, hh.out.1⟩
        cases hf : fewRowsB (rowsL rs)
        · rfl
        · have := (few_rows hf).2 k
          rw [HGm.out, ← HMm.out] at this
          omega
    · obtain rfl : n = k := by omega
      go_wp2
      go_ret
      refine ⟨ret_bool ?_, hh.out.1⟩
      unfold fewRowsB
      rw [rowsL_len, ← HN.out]
      have ha : (rowsL rs).all (fun r => decide (r.length ≤ 200)) = true := by
        rw [List.all_eq_true]
        intro r hr
        have := rows_all (m := 200) (fun j hj => hh.out.2 j (by rw [rowsL_len, ← HN.out] at hj; exact hj)) r hr
        simpa using this
      rw [ha]
      simp
      try omega
set_option maxRecDepth 100000 in
set_option maxHeartbeats 4000000 in
/-- SameRows, whatever the rows. -/
theorem sameRows (w : World) (a b : Option Addr) (n m c d : Nat) (rs qs : List RowV) (hn : n = rs.length) (hm : m = qs.length) (hr : RowsAt w a rs) (hq : RowsAt w b qs) :
    Calls Try.prog 27 #[.slice a n c, .slice b m d] w fun e w' => e = .returned (.bool (decide (rowsL rs = rowsL qs))) ∧ Below w.heap.size w w' := by
  have hl := hr.len
  have hl2 := hq.len
  rw [← hn] at hl
  rw [← hm] at hl2
  have HR := Lib.hid hr
  have HQ := Lib.hid hq
  have HN := Lib.hid hn
  have HM := Lib.hid hm
  clear hr hq hn hm
  by_cases hnm : n = m
  · subst hnm
    go_enter Try.func27, Try.ntmps27
    go_wp2
    go_loopw [13] (fun i wr => ∃ k : Nat, k ≤ n ∧ i = .int .i64 k ∧ Hid (Below w.heap.size w wr ∧ ∀ j, j < k → (rowsL rs).getD j [] = (rowsL qs).getD j [])) (fun i _ => n - (intOf i).toNat)
    case atStart => exact ⟨0, by omega, rfl, Lib.hid ⟨Below.refl _ _, fun j hj => by omega⟩⟩
    case round =>
      obtain ⟨k, hk, rfl, hh⟩ := hrel
      by_cases hlt : k < n
      · have hR := HR.out.below hh.out.1 (Nat.le_refl _)
        have hQ := HQ.out.below hh.out.1 (Nat.le_refl _)
        obtain ⟨ab, ao, rfl, _, hac⟩ := hR.rows.at k (by rw [← HN.out]; exact hlt)
        obtain ⟨bb, bo, rfl, _, hbc⟩ := hQ.rows.at k (by rw [← HM.out]; exact hlt)
        have d0 := hac k (by rw [← HN.out]; exact hlt)
        have d1 := hbc k (by rw [← HM.out]; exact hlt)
        have s0 := hR.each k (by rw [← HN.out]; exact hlt)
        have s1 := hQ.each k (by rw [← HM.out]; exact hlt)
        have l0 := hR.rowL k (by rw [← HN.out]; exact hlt)
        have l1 := hQ.rowL k (by rw [← HM.out]; exact hlt)
        unfold rowCell at d0 d1
        have g0 := rows_get rs k
        have g1 := rows_get qs k
        obtain ⟨x, hx⟩ : ∃ x, x = rs.getD k default := ⟨_, rfl⟩
        obtain ⟨y, hy⟩ : ∃ y, y = qs.getD k default := ⟨_, rfl⟩
        rw [← hx] at d0 s0 g0 l0
        rw [← hy] at d1 s1 g1 l1
        obtain ⟨xa, xc, xl⟩ := x
        obtain ⟨ya, yc, yl⟩ := y
        dsimp only at d0 d1 s0 s1 g0 g1 l0 l1
        obtain ⟨xn, hxn⟩ : ∃ n, n = xl.length := ⟨_, rfl⟩
        obtain ⟨yn, hyn⟩ : ∃ n, n = yl.length := ⟨_, rfl⟩
        rw [← hxn] at d0 s0 l0
        rw [← hyn] at d1 s1 l1
        have HG0 := Lib.hid g0
        have HG1 := Lib.hid g1
        have HXn := Lib.hid hxn
        have HYn := Lib.hid hyn
        have HSX := Lib.hid (s0.below (w' := wr.drew) (Below.refl _ _).drew (Nat.le_refl _))
        have HSY := Lib.hid (s1.below (w' := wr.drew) (Below.refl _ _).drew (Nat.le_refl _))
        have HB := Lib.hid hh.out.1
        have HT := Lib.hid hh.out.2
        obtain ⟨vv, hvv⟩ : ∃ b, b = decide (xl = yl) := ⟨_, rfl⟩
        have HV := Lib.hid hvv
        clear hac hbc s0 s1 hx hy hR hQ g0 g1 hxn hyn hh hvv
        go_wp2
        refine wp_region_held_drew (S := fun w' => w'.cell? ⟨ab, ao + k, none⟩ = some (.slice xa xn xc) ∧ w'.cell? ⟨bb, bo + k, none⟩ = some (.slice ya yn yc)) (by kernel_rfl) (⟨d0, d1⟩) (fun hHeld => ?_)
        refine wpAnyH_take (i := 0) (v := ?_) (by simp only [List.getElem?_toArray, List.getElem?_cons_succ, List.getElem?_cons_zero]; rfl) (by kernel_rfl) (by kernel_rfl) (by kernel_rfl) (by intro _ _ _ h; exact h) (Or.inl ⟨by rfl, ?_⟩) (by assumption) ?_
        rotate_left
        · intro w hSw; (try dsimp only at hSw); go_simp; try with_reducible rfl
        try simp only [Act.put, List.setIfInBounds_toArray, List.set_cons_zero, List.set_cons_succ]
        refine wpAnyH_take (i := 1) (v := ?_) (by simp only [List.getElem?_toArray, List.getElem?_cons_succ, List.getElem?_cons_zero]; rfl) (by kernel_rfl) (by kernel_rfl) (by kernel_rfl) (by intro _ _ _ h; exact h) (Or.inl ⟨by rfl, ?_⟩) (by assumption) ?_
        rotate_left
        · intro w hSw; (try dsimp only at hSw); go_simp; try with_reducible rfl
        try simp only [Act.put, List.setIfInBounds_toArray, List.set_cons_zero, List.set_cons_succ]
        refine wpAnyH_take (i := 2) (v := ?_) (by simp only [List.getElem?_toArray, List.getElem?_cons_succ, List.getElem?_cons_zero]; rfl) (by kernel_rfl) (by kernel_rfl) (by kernel_rfl) (by intro _ _ _ h; exact h) (Or.inl ⟨by rfl, ?_⟩) (by assumption) ?_
        rotate_left
        · intro w hSw; (try dsimp only at hSw); go_simp; first | with_reducible rfl | rw [if_pos (by omega)]
        try simp only [Act.put, List.setIfInBounds_toArray, List.set_cons_zero, List.set_cons_succ]
        refine wpAnyH_take (i := 3) (v := ?_) (by simp only [List.getElem?_toArray, List.getElem?_cons_succ, List.getElem?_cons_zero]; rfl) (by kernel_rfl) (by kernel_rfl) (by kernel_rfl) (by intro _ _ _ h; exact h) (Or.inl ⟨by rfl, ?_⟩) (by assumption) ?_
        rotate_left
        · intro w hSw; (try dsimp only at hSw); go_simp; try with_reducible rfl
        try simp only [Act.put, List.setIfInBounds_toArray, List.set_cons_zero, List.set_cons_succ]
        refine wpAnyH_take (i := 4) (v := ?_) (by simp only [List.getElem?_toArray, List.getElem?_cons_succ, List.getElem?_cons_zero]; rfl) (by kernel_rfl) (by kernel_rfl) (by kernel_rfl) (by intro _ _ _ h; exact h) (Or.inl ⟨by rfl, ?_⟩) (by assumption) ?_
        rotate_left
        · intro w hSw; (try dsimp only at hSw); go_simp; try with_reducible rfl
        try simp only [Act.put, List.setIfInBounds_toArray, List.set_cons_zero, List.set_cons_succ]
        refine wpAnyH_take (i := 5) (v := ?_) (by simp only [List.getElem?_toArray, List.getElem?_cons_succ, List.getElem?_cons_zero]; rfl) (by kernel_rfl) (by kernel_rfl) (by kernel_rfl) (by intro _ _ _ h; exact h) (Or.inl ⟨by rfl, ?_⟩) (by assumption) ?_
        rotate_left
        · intro w hSw; (try dsimp only at hSw); go_simp; try with_reducible rfl
        try simp only [Act.put, List.setIfInBounds_toArray, List.set_cons_zero, List.set_cons_succ]
        refine wpAnyH_take (i := 6) (v := ?_) (by simp only [List.getElem?_toArray, List.getElem?_cons_succ, List.getElem?_cons_zero]; rfl) (by kernel_rfl) (by kernel_rfl) (by kernel_rfl) (by intro _ _ _ h; exact h) (Or.inl ⟨by rfl, ?_⟩) (by assumption) ?_
        rotate_left
        · intro w hSw; (try dsimp only at hSw); go_simp; first | with_reducible rfl | rw [if_pos (by omega)]
        try simp only [Act.put, List.setIfInBounds_toArray, List.set_cons_zero, List.set_cons_succ]
        refine wpAnyH_take (i := 7) (v := ?_) (by simp only [List.getElem?_toArray, List.getElem?_cons_succ, List.getElem?_cons_zero]; rfl) (by kernel_rfl) (by kernel_rfl) (by kernel_rfl) (by intro _ _ _ h; exact h) (Or.inl ⟨by rfl, ?_⟩) (by assumption) ?_
        rotate_left
        · intro w hSw; (try dsimp only at hSw); go_simp; try with_reducible rfl
        try simp only [Act.put, List.setIfInBounds_toArray, List.set_cons_zero, List.set_cons_succ]
        refine wpAnyH_ready (rs := [8]) (by kernel_rfl) (by simp) ?_
        refine AllReadyH.cons (o := _) (by simp only [List.getElem?_toArray, List.getElem?_cons_succ, List.getElem?_cons_zero]; rfl) (fun K hK => ?_) AllReadyH.nil
        go_simp
        go_at_call 22
        refine Calls.mono (sameBools wr.drew xa ya xn xc yn yc xl yl HXn.out.symm HYn.out.symm (by omega) (by omega) HSX.out HSY.out) ?_
        rintro e w6 ⟨rfl, hb6⟩
        rw [← HV.out]
        have HB6 := Lib.hid (HB.out.trans ((((Below.refl _ _).drew).trans hb6).mono HB.out.size))
        have HKeep := Lib.hid (And.intro ((hb6.cell (p := ⟨ab, ao + k, none⟩) (World.block_lt_of_cell? wr _ d0)).trans d0) ((hb6.cell (p := ⟨bb, bo + k, none⟩) (World.block_lt_of_cell? wr _ d1)).trans d1))
        clear hb6
        go_simp
        refine hK.out _ _ (by exact HKeep.out) (fun hHeld => ?_)
        clear hK K
        try simp only [Act.put, List.setIfInBounds_toArray, List.set_cons_zero, List.set_cons_succ]
        refine wpAnyH_take (i := 9) (v := ?_) (by simp only [List.getElem?_toArray, List.getElem?_cons_succ, List.getElem?_cons_zero]; rfl) (by kernel_rfl) (by kernel_rfl) (by kernel_rfl) (by intro _ _ _ h; exact h) (Or.inl ⟨by rfl, ?_⟩) (by assumption) ?_
        rotate_left
        · intro w hSw; (try dsimp only at hSw); go_simp; try with_reducible rfl
        try simp only [Act.put, List.setIfInBounds_toArray, List.set_cons_zero, List.set_cons_succ]
        refine wpAnyH_done (by kernel_rfl) ?_ _
        cases vv
        · go_wp2
          go_ret
          refine ⟨ret_bool ?_, HB6.out⟩
          refine (decide_eq_false (fun h => ?_)).symm
          have h1 := congrArg (fun l => l.getD k []) h

          have := HV.out
          rw [← HG0.out, ← HG1.out, h1] at this
          simp at this
        · go_wp2
          go_roundw
          case rel => exact ⟨k + 1, by omega, by go_num, Lib.hid ⟨HB6.out, fun j hj => by
            rcases Nat.lt_succ_iff_lt_or_eq.1 hj with h | rfl
            · exact HT.out j h
            · have := HV.out
              rw [HG0.out, HG1.out]
              simpa using this.symm⟩⟩
          case measure => simp [intOf]; omega

      · obtain rfl : n = k := by omega
        go_wp2
        go_ret
        refine ⟨ret_bool ?_, hh.out.1⟩
        refine (decide_eq_true ?_).symm
        apply List.ext_getElem (by rw [rowsL_len, rowsL_len, ← HN.out, ← HM.out])
        intro i h1 h2
        have := hh.out.2 i (by rw [rowsL_len, ← HN.out] at h1; exact h1)
        simpa [List.getD, List.getElem?_eq_getElem h1, List.getElem?_eq_getElem h2] using this
  · have hn' : ((n : Int) != m) = true := by rw [bne_iff_ne]; omega
    have HNM := Lib.hid hnm
    clear hnm
    go_enter Try.func27, Try.ntmps27
    go_wp2
    go_ret
    refine ⟨ret_bool ?_, (Below.refl _ _)⟩
    refine (decide_eq_false (fun h => HNM.out ?_)).symm
    rw [HN.out, HM.out, ← rowsL_len rs, ← rowsL_len qs, h]
end Go.Proofs.Ytibimdhmfchcoaa

/- G1 -/
namespace Go.Proofs.Ytibimdhmfchcoaa
open Go.RowKit Go.Shelf Go.Maps
set_option linter.unusedVariables false
set_option linter.unusedSimpArgs false

/-- What is kept in the beginning. -/
def st0 (D : PackD) : List Bool := (flopsL D).map (fun i => (D.blk i).init)
def stAt (D : PackD) (inns : List (List Bool)) : Nat → List Bool
  | 0 => st0 D
  | k + 1 => evalN D (inns.getD k []) (stAt D inns k)
def eAt (D : PackD) (inns : List (List Bool)) (k : Nat) : Int := evalE D (inns.getD k []) (stAt D inns k)
def oAt (D : PackD) (inns : List (List Bool)) (k : Nat) : List Bool := evalO D (inns.getD k []) (stAt D inns k)
def runFrom (D : PackD) (inns : List (List Bool)) : Nat → Nat → Int
  | 0, _ => 0
  | f + 1, k => if eAt D inns k = 0 then runFrom D inns f (k + 1) else eAt D inns k
def runE (D : PackD) (inns : List (List Bool)) : Int := if orderE D = 0 then runFrom D inns inns.length 0 else orderE D
def runO (D : PackD) (inns : List (List Bool)) : List (List Bool) := if runE D inns = 0 then (List.range inns.length).map (oAt D inns) else []
theorem runFrom_step (D : PackD) (inns : List (List Bool)) {n k : Nat} (h : k < n) : runFrom D inns (n - k) k = if eAt D inns k = 0 then runFrom D inns (n - (k + 1)) (k + 1) else eAt D inns k := by
  obtain ⟨f, hf⟩ : ∃ f, n - k = f + 1 := ⟨n - k - 1, by omega⟩
  rw [hf, show n - (k + 1) = f by omega]
  rfl
theorem st_len (D : PackD) (inns : List (List Bool)) : ∀ k, (stAt D inns k).length ≤ D.n
  | 0 => by
    show (st0 D).length ≤ _
    unfold st0
    rw [List.length_map]; exact flopsTo_len D D.n
  | k + 1 => evalN_len D _ _
def NewRun (w : World) (D : PackD) (inns : List (List Bool)) (e : Ending) (w' : World) : Prop :=
  ∃ (a : Option Addr) (c : Nat) (rs : List RowV), e = .returned (.tuple #[.slice a rs.length c, .int .i64 (runE D inns)]) ∧ rowsL rs = runO D inns ∧ RowsAt w' a rs ∧ Below w.heap.size w w'
theorem noRun {w w' : World} {D : PackD} {inns : List (List Bool)} (h : runE D inns ≠ 0) (hb : Below w.heap.size w w') : NewRun w D inns (.returned (.tuple #[.slice none 0 0, .int .i64 (runE D inns)])) w' :=
  ⟨none, 0, [], rfl, by unfold runO; rw [if_neg h]; rfl, ⟨.inl rfl, fun i hi => by simp at hi, fun i hi => by simp at hi, by simp⟩, hb⟩
theorem Wir.set {w : World} {B g i m : Nat} {a : Option Addr} {f : Nat → Bool} {v : Value} (h : Wir w B a m f) (hg : g < B) : Wir (w.setCell ⟨g, i, none⟩ v) B a m f := by
  rcases h with h | ⟨b, ha, h1, h2, hc, hf⟩
  · exact .inl h
  · exact .inr ⟨b, ha, h1, by rw [set_size]; exact h2, fun j hj => (cell?_set_far (by omega)).trans (hc j hj), fun j => by rw [set_frozen]; exact hf j⟩
theorem info37 : (Try.prog.info? 37).map (fun i => (i.zero, i.size, i.bytes)) = some (some (.slice none 0 0), 1, 24) := by kernel_rfl
theorem rowCell_append (rs : List RowV) (r : RowV) (i : Nat) : rowCell (rs ++ [r]) i = if i = rs.length then .slice r.a r.l.length r.c else rowCell rs i := by
  unfold rowCell
  by_cases h : i = rs.length
  · subst h; simp [List.getD_eq_getElem?_getD]
  · rw [if_neg h]
    rcases Nat.lt_or_ge i rs.length with h1 | h1
    · simp [List.getD_eq_getElem?_getD, List.getElem?_append_left h1]
    · simp [List.getD_eq_getElem?_getD, List.getElem?_eq_none h1, List.getElem?_eq_none (show (rs ++ [r]).length ≤ i by simp; omega)]
theorem rows_snoc (rs : List RowV) (r : RowV) (i : Nat) (hi : i < rs.length + 1) : (rs ++ [r]).getD i default = if i = rs.length then r else rs.getD i default := by
  by_cases h : i = rs.length
  · subst h; simp [List.getD_eq_getElem?_getD]
  · rw [if_neg h]
    simp [List.getD_eq_getElem?_getD, List.getElem?_append_left (show i < rs.length by omega)]
end Go.Proofs.Ytibimdhmfchcoaa
