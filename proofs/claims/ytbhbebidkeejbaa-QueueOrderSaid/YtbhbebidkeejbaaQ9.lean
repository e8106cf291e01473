/- An event more among a queue's (Insert): the walk. -/
import Derived.Test.YtbhbebidkeejbaaQ8
namespace Go.Proofs.Ytbhbebidkeejbaa
open Go.RowKit Go.Shelf
set_option linter.unusedVariables false
set_option linter.unusedSimpArgs false

abbrev zero5 : Value := .agg #[.int .i64 0, .int .i64 0, .int .i64 0, .int .i64 0, .int .u64 0]
def NewIns (base n : Nat) (l : List EvV) (w : World) (e : Ending) (w' : World) : Prop :=
  ∃ g cap, e = .returned (.slice (some ⟨g, 0, none⟩) (n + 1) cap) ∧ n + 1 ≤ cap ∧ base ≤ g ∧ g < w'.heap.size ∧ (∀ j u, (l.flatMap EvV.cells)[j]? = some u → w'.cell? ⟨g, j, none⟩ = some u) ∧ Below base w w'

set_option maxRecDepth 100000 in
set_option maxHeartbeats 4000000 in
theorem insert31 (w : World) (base : Nat) (hbase : base ≤ w.heap.size) (v : Value) (n i : Nat) (hi : i ≤ n) (hn : n ≤ 1000) (l : List EvV) (hl : l.length = n) (hown : w.ownsRow base 35 5 v n (l.flatMap EvV.cells)) (x : EvV) (vb : Nat)
    (hvb : v.ownBlock ≠ some vb) (hx : w.heap[vb]? = some (.cells x.cells.toArray 35 (0, 0))) :
    Calls Try.prog 31 #[v, .int .i64 i, .slice (some ⟨vb, 0, none⟩) 1 1] w (NewIns base n (insL l i x) w) := by
  obtain ⟨i5, hi5, hz0, hz1, hz2⟩ := info_parts info35
  have hxc : ∀ j u, x.cells[j]? = some u → w.cell? (Addr.add ⟨vb, 0, none⟩ j) = some u := by
    intro j u hj
    rw [Addr.add_lit, Nat.zero_add, cell_of_row w vb j _ 35 (0, 0) hx]
    simpa using hj
  have hx1 : ∀ u ∈ x.cells, u.oneCell' = true := by
    intro u hu
    simp at hu
    rcases hu with rfl | rfl | rfl | rfl | rfl <;> rfl
  have hfl := flat5_length l
  have hins := flat_ins l i x (by omega)
  by_cases hin : i = n
  · subst hin
    have hins2 : (insL l i x).flatMap EvV.cells = l.flatMap EvV.cells ++ x.cells := by
      rw [hins, List.take_of_length_le (by omega), List.drop_of_length_le (by omega), List.append_nil]
    have HIns := Lib.hid hins2
    have HOwn := Lib.hid hown
    have HXc := Lib.hid hxc
    have HX1 := Lib.hid hx1
    have hFin : ∀ v' w', w'.ownsRow base 35 5 v' (i + 1) (l.flatMap EvV.cells ++ x.cells) → w.grownBy w' v.ownBlock → NewIns base i (insL l i x) w (.returned v') w' := by
      intro v' w' ho hg
      rcases ho.2 with ⟨_, h0⟩ | ⟨g, cap, cur, rfl, hb, hgr, hnc, _⟩
      · omega
      · refine ⟨g, cap, rfl, hnc, hb, (Array.getElem?_eq_some_iff.1 hgr).1, fun j u hj => ?_, (Below.refl _ _).grown hg hbase (fun k e => (HOwn.out.lt k e).1)⟩
        rw [HIns.out] at hj
        exact (ho.cellAt j (by have := (List.getElem?_eq_some_iff.1 hj).1; have := ho.1; omega)).trans hj
    have HFin := Lib.hid hFin
    rcases hown.2 with ⟨rfl, h0⟩ | ⟨g, cap, cur, rfl, hb, hgr, hnc, hcm, _⟩
    · subst h0
      clear hins hins2 hxc hx1 hfl hown hx hl hFin
      go_enter Try.func31, Try.ntmps31
      go_wp2_with (at_builtin; refine wpList_append_own _ rfl _ _ 22 rfl base 35 i5 zero5 5 40 Try.underlying22 hi5 hz0 hz1 hz2 rfl (by decide) _ _ _ rfl HOwn.out ⟨vb, 0, none⟩ 1 1 x.cells rfl rfl HXc.out HX1.out (by unfold maxLen; omega) (by omega) hbase ?_)
      intro v' w1 ho1 hg1 _
      have HO1 := Lib.hid ho1
      have HG1 := Lib.hid hg1
      clear ho1 hg1
      go_wp2_with fail
      go_ret
      exact HFin.out _ _ HO1.out HG1.out
    · clear hins hins2 hxc hx1 hfl hown hx hl hFin hgr
      by_cases hic : cap = i
      · subst hic
        go_enter Try.func31, Try.ntmps31
        go_wp2_with (at_builtin; refine wpList_append_own _ rfl _ _ 22 rfl base 35 i5 zero5 5 40 Try.underlying22 hi5 hz0 hz1 hz2 rfl (by decide) _ _ _ rfl HOwn.out ⟨vb, 0, none⟩ 1 1 x.cells rfl rfl HXc.out HX1.out (by unfold maxLen; omega) (by omega) hbase ?_)
        intro v' w1 ho1 hg1 _
        have HO1 := Lib.hid ho1
        have HG1 := Lib.hid hg1
        clear ho1 hg1
        go_wp2_with fail
        go_ret
        exact HFin.out _ _ HO1.out HG1.out
      · have hic2 : ¬ i = cap := fun e => hic e.symm
        go_enter Try.func31, Try.ntmps31
        go_wp2_with (at_builtin; refine wpList_append_own _ rfl _ _ 22 rfl base 35 i5 zero5 5 40 Try.underlying22 hi5 hz0 hz1 hz2 rfl (by decide) _ _ _ rfl HOwn.out ⟨vb, 0, none⟩ 1 1 x.cells rfl rfl HXc.out HX1.out (by unfold maxLen; omega) (by omega) hbase ?_)
        intro v' w1 ho1 hg1 _
        have HO1 := Lib.hid ho1
        have HG1 := Lib.hid hg1
        clear ho1 hg1
        go_wp2_with fail
        go_ret
        exact HFin.out _ _ HO1.out HG1.out
  · have hin : i < n := by omega
    rcases hown.2 with ⟨rfl, h0⟩ | ⟨g, cap, cur, rfl, hb, hgr, hnc, hcm, hcs, hct⟩
    · omega
    · have hvg : vb ≠ g := fun e => hvb (by rw [e]; rfl)
      have hsz5 : (Try.prog.info? 35).map (·.size) = some 5 := by rw [hi5]; simp [hz1]
      have hNf : (l.flatMap EvV.cells).length = 5 * n := by rw [hfl, hl]
      have hct2 : cur.toList.take (5 * n) = l.flatMap EvV.cells := by rw [Nat.mul_comm]; exact hct
      have hgl : g < w.heap.size := (Array.getElem?_eq_some_iff.1 hgr).1
      have hvl : vb < w.heap.size := (Array.getElem?_eq_some_iff.1 hx).1
      have hsrc : ∀ j u, ((l.flatMap EvV.cells).drop (5 * i))[j]? = some u → w.cell? ⟨g, i * 5 + j, none⟩ = some u := by
        intro j u hj
        rw [List.getElem?_drop] at hj
        have := hown.cellAt (5 * i + j) (by have := (List.getElem?_eq_some_iff.1 hj).1; omega)
        rw [show i * 5 + j = 5 * i + j by omega]
        exact this.trans hj
      have hd1 : ∀ u ∈ (l.flatMap EvV.cells).drop (5 * i), u.oneCell' = true := fun u hu => flat5_one l u (List.mem_of_mem_drop hu)
      have hdl : ((l.flatMap EvV.cells).drop (5 * i)).length = (n - i) * 5 := by rw [List.length_drop, hNf]; omega
      obtain ⟨XS, hXS⟩ : ∃ xs, xs = l.flatMap EvV.cells := ⟨_, rfl⟩
      rw [← hXS] at hNf hct2 hsrc hd1 hdl hins
      obtain ⟨XC, hXC⟩ : ∃ xs, xs = x.cells := ⟨_, rfl⟩
      have hXl : XC.length = 5 := by rw [hXC]; rfl
      rw [← hXC] at hins hxc hx1 hx
      have HIns := Lib.hid hins
      have HXc := Lib.hid hxc
      have HX1 := Lib.hid hx1
      have HHx := Lib.hid hx
      have HHg := Lib.hid hgr
      have HNf := Lib.hid hNf
      have HCt := Lib.hid hct2
      have HSrc := Lib.hid hsrc
      have HD1 := Lib.hid hd1
      have HDl := Lib.hid hdl
      have HXl := Lib.hid hXl
      have HCs := Lib.hid hcs
      have hne : ((i : Int) == (n : Int)) = false := by simp; omega
      clear hins hxc hx1 hx hgr hNf hct hct2 hsrc hd1 hdl hXl hXC hXS hfl hown hl hvb hcs
      by_cases hroom : n + 1 ≤ cap
      · have hgt : decide ((cap : Int) < (n : Int) + 1) = false := by simp; omega
        have hov : ∀ (W : World) o lb cb, W.heap[vb]? = w.heap[vb]? → W.heap[g]? = w.heap[g]? → (callFunc 41 #[.slice (some ⟨vb, 0, none⟩) 1 1, .slice (some ⟨g, o, none⟩) lb cb]).run Try.prog W = .ok (.value (.bool false)) W := by
          intro W o lb cb e1 e2
          have hv := e1.trans HHx.out
          have hgg := e2.trans HHg.out
          rw [run_callFunc_extern Try.func41 (by kernel_rfl) (by kernel_rfl) (by kernel_rfl) (e := Extern.SlicesOverlaps.overlaps #[22, 22] #[4]) (by kernel_rfl),
            Lib.run_overlaps_apart W 22 4 35 Try.underlying22 5 (fun w => by simp [sizeOf, typeInfo, hi5, hz1]) ⟨vb, 0, none⟩ ⟨g, o, none⟩ 1 1 lb cb hvg 35 35 5 (cap * 5) (by unfold World.shape?; rw [hv]; simp [HXl.out]) (by unfold World.shape?; rw [hgg]; simp [HCs.out]) (by omega) (by unfold World.frozen?; rw [hv]; simp) (by unfold World.frozen?; rw [hv]; simp)]
          rfl
        have h41 := hov w ((i + 1) * 5) (n - i) (cap - (i + 1)) rfl rfl
        clear hov
        have hci : ¬ cap = i := by omega
        have hci2 : ¬ cap = i + 1 := by omega
        have hm1 : Nat.min 1 (n + 1 - i) = 1 := Nat.min_eq_left (by omega)
        have hci3 : (i : Int) + 1 ≤ (n : Int) + 1 := by omega
        have hci4 : (i : Int) ≤ (n : Int) + 1 := by omega
        have HSum : Hid (IntKind.i64.wrap ((i : Int) + 1) = ((i + 1 : Nat) : Int)) := Lib.hid (by rw [show (i : Int) + 1 = ((i + 1 : Nat) : Int) by omega]; exact Lib.wrap_i64_small _ (by omega))
        go_enter Try.func31, Try.ntmps31
        go_wp2_with fail
        refine wp_region_held_drew (S := fun w' => True) (by kernel_rfl) (trivial) (fun hHeld => ?_)
        refine wpAnyH_take (i := 0) (v := ?_) (by simp only [List.getElem?_toArray, List.getElem?_cons_succ, List.getElem?_cons_zero]; rfl) (by kernel_rfl) (by kernel_rfl) (by kernel_rfl) (by intro _ _ _ h; exact h) (Or.inl ⟨by rfl, ?_⟩) (by assumption) ?_
        rotate_left
        · intro w hSw; (try dsimp only at hSw); go_simp; try with_reducible rfl
        try simp only [Act.put, List.setIfInBounds_toArray, List.set_cons_zero, List.set_cons_succ]
        refine wpAnyH_take (i := 1) (v := ?_) (by simp only [List.getElem?_toArray, List.getElem?_cons_succ, List.getElem?_cons_zero]; rfl) (by kernel_rfl) (by kernel_rfl) (by kernel_rfl) (by intro _ _ _ h; exact h) (Or.inl ⟨by rfl, ?_⟩) (by assumption) ?_
        rotate_left
        · intro w hSw; (try dsimp only at hSw); go_simp; try with_reducible rfl
        try simp only [Act.put, List.setIfInBounds_toArray, List.set_cons_zero, List.set_cons_succ]
        refine wpAnyH_take (i := 2) (v := ?_) (by simp only [List.getElem?_toArray, List.getElem?_cons_succ, List.getElem?_cons_zero]; rfl) (by kernel_rfl) (by kernel_rfl) (by kernel_rfl) (by intro _ _ _ h; exact h) (Or.inl ⟨by rfl, ?_⟩) (by assumption) ?_
        rotate_left
        · intro w hSw; (try dsimp only at hSw); go_simp; try with_reducible rfl
        try simp only [Act.put, List.setIfInBounds_toArray, List.set_cons_zero, List.set_cons_succ]
        refine wpAnyH_take (i := 3) (v := ?_) (by simp only [List.getElem?_toArray, List.getElem?_cons_succ, List.getElem?_cons_zero]; rfl) (by kernel_rfl) (by kernel_rfl) (by kernel_rfl) (by intro _ _ _ h; exact h) (Or.inl ⟨by rfl, ?_⟩) (by assumption) ?_
        rotate_left
        · intro w hSw; (try dsimp only at hSw); go_simp; rw [HSum.out]
        try simp only [Act.put, List.setIfInBounds_toArray, List.set_cons_zero, List.set_cons_succ]
        refine wpAnyH_take (i := 4) (v := ?_) (by simp only [List.getElem?_toArray, List.getElem?_cons_succ, List.getElem?_cons_zero]; rfl) (by kernel_rfl) (by kernel_rfl) (by kernel_rfl) (by intro _ _ _ h; exact h) (Or.inl ⟨by rfl, ?_⟩) (by assumption) ?_
        rotate_left
        · intro w hSw; (try dsimp only at hSw); go_simp; first | with_reducible rfl | rw [if_pos (by omega)]
        try simp only [Act.put, List.setIfInBounds_toArray, List.set_cons_zero, List.set_cons_succ]
        refine wpAnyH_take (i := 5) (v := ?_) (by simp only [List.getElem?_toArray, List.getElem?_cons_succ, List.getElem?_cons_zero]; rfl) (by kernel_rfl) (by kernel_rfl) (by kernel_rfl) (by intro _ _ _ h; exact h) (Or.inl ⟨by rfl, ?_⟩) (by assumption) ?_
        rotate_left
        · intro w hSw; (try dsimp only at hSw); go_simp; try with_reducible rfl
        try simp only [Act.put, List.setIfInBounds_toArray, List.set_cons_zero, List.set_cons_succ]
        refine wpAnyH_take (i := 6) (v := ?_) (by simp only [List.getElem?_toArray, List.getElem?_cons_succ, List.getElem?_cons_zero]; rfl) (by kernel_rfl) (by kernel_rfl) (by kernel_rfl) (by intro _ _ _ h; exact h) (Or.inl ⟨by rfl, ?_⟩) (by assumption) ?_
        rotate_left
        · intro w hSw; (try dsimp only at hSw); go_simp; try with_reducible rfl
        try simp only [Act.put, List.setIfInBounds_toArray, List.set_cons_zero, List.set_cons_succ]
        refine wpAnyH_take (i := 7) (v := ?_) (by simp only [List.getElem?_toArray, List.getElem?_cons_succ, List.getElem?_cons_zero]; rfl) (by kernel_rfl) (by kernel_rfl) (by kernel_rfl) (by intro _ _ _ h; exact h) (Or.inl ⟨by rfl, ?_⟩) (by assumption) ?_
        rotate_left
        · intro w hSw; (try dsimp only at hSw); go_simp; first | with_reducible rfl | rw [if_pos (by omega)]
        try simp only [Act.put, List.setIfInBounds_toArray, List.set_cons_zero, List.set_cons_succ]
        refine wpAnyH_ready (rs := [8]) (by kernel_rfl) (by simp) ?_
        refine AllReadyH.cons (o := _) (by simp only [List.getElem?_toArray, List.getElem?_cons_succ, List.getElem?_cons_zero]; rfl) (fun K hK => ?_) AllReadyH.nil
        rw [if_pos (by rfl)]
        refine wp_copyN (.tmp 73) (.tmp 76) 22 22 rfl 35 5 Try.underlying22 hsz5 g ((i + 1) * 5) (n - i) (cap - (i + 1)) ⟨g, i * 5, none⟩ (n + 1 - i) (cap - i) rfl rfl cur.toList 35 (by show w.heap[g]? = _; simpa using HHg.out) (XS.drop (5 * i)) (by rw [HDl.out]; congr 1; exact (Nat.min_eq_right (by omega)).symm) (fun j u hj => by rw [Addr.add_lit]; exact HSrc.out j u hj) (by rw [HDl.out, Array.length_toList, HCs.out]; omega) HD1.out ?_
        intro w4 hc4
        have HC4 := Lib.hid hc4
        clear hc4
        refine hK.out _ _ (by trivial) (fun hHeld => ?_)
        clear hK K
        try simp only [Act.put, List.setIfInBounds_toArray, List.set_cons_zero, List.set_cons_succ]
        refine wpAnyH_done (by kernel_rfl) ?_ _
        obtain ⟨C1, hC1⟩ : ∃ c, c = cur.toList.take ((i + 1) * 5) ++ XS.drop (5 * i) ++ cur.toList.drop ((i + 1) * 5 + (XS.drop (5 * i)).length) := ⟨_, rfl⟩
        have hc4 := HC4.out
        rw [← hC1] at hc4
        have HR4 := Lib.hid hc4.row
        have H41 : Hid (XC.length = Nat.min 1 (n + 1 - i) * 5) := Lib.hid (by rw [HXl.out, hm1])
        have H42 : Hid (∀ j u, XC[j]? = some u → w4.cell? (Addr.add ⟨vb, 0, none⟩ j) = some u) := Lib.hid (fun j u hj => by
          have := HXc.out j u hj
          rw [Addr.add_lit, Nat.zero_add] at this ⊢
          exact hc4.cell this hvg)
        have H43 : Hid (i * 5 + XC.length ≤ C1.length) := Lib.hid (by rw [HXl.out, hC1]; simp only [List.length_append, List.length_take, List.length_drop, Array.length_toList, HCs.out, HDl.out]; omega)
        have HC1 := Lib.hid hC1
        clear hc4 hC1
        go_wp2_with (with_reducible refine wpList_copyN rfl (.tmp 80) (.tmp 81) 22 22 rfl 35 5 Try.underlying22 hsz5 g (i * 5) (n + 1 - i) (cap - i) ⟨vb, 0, none⟩ 1 1 rfl rfl C1 35 HR4.out XC H41.out H42.out H43.out HX1.out ?_)
        intro w5 hc5
        obtain ⟨C2, hC2, hc5⟩ : ∃ C2, C2 = (C1.take (i * 5) ++ XC ++ C1.drop (i * 5 + XC.length)) ∧ Copied w4 w5 g C2 35 := ⟨_, rfl, by simpa only [List.append_assoc] using hc5⟩
        have hj := joined (cur := cur.toList) (xs := XS) (xc := XC) (a := i * 5) (N := 5 * n) HCt.out HNf.out (by omega) HXl.out (by rw [Array.length_toList, HCs.out]; omega)
        rw [HC1.out, show (i + 1) * 5 = i * 5 + 5 by omega, show 5 * i = i * 5 by omega, hj] at hC2
        have HC5 := Lib.hid hc5
        have HC2 := Lib.hid hC2
        clear hc5 hC2 hj
        go_wp2_with fail
        go_ret
        have hc5 := HC5.out
        refine ⟨g, cap, rfl, hroom, hb, by rw [hc5.size, HC4.out.size]; exact hgl, fun j u hju => ?_, hc5.below (HC4.out.below (Below.refl _ _).drew hb) hb⟩
        rw [HIns.out, show 5 * i = i * 5 by omega] at hju
        rw [hc5.own j, HC2.out, List.getElem?_append_left (List.getElem?_eq_some_iff.1 hju).1]
        exact hju
      · have hce : cap = n := by omega
        subst hce
        have hik : i + (cap + 1 - i) = cap + 1 := by omega
        have hold : (Builtin.firstCells i5.size i (.slice (some ⟨g, 0, none⟩) i cap)).run Try.prog w.drew = .ok (XS.take (5 * i)).toArray w.drew := by
          rw [hz1]
          exact run_firstCells_some w.drew 5 i ⟨g, 0, none⟩ i cap (XS.take (5 * i)) (by rw [List.length_take, HNf.out]; omega) (fun j u hj => by
            rw [Addr.add_lit, Nat.zero_add]
            show w.cell? _ = _
            rw [cell_of_row w g j cur 35 (0, 0) HHg.out]
            rw [List.getElem?_take] at hj
            split at hj
            · rw [← HCt.out, List.getElem?_take, if_pos (by omega)] at hj
              simpa using hj
            · cases hj)
        have hrz := fun ty => Lib.run_append_grow_zeros w 22 3 ty 35 i5 zero5 .i64 .i64 Try.underlying22 Try.underlying3 hi5 hz0 (some ⟨g, 0, none⟩) i cap (XS.take (5 * i)) hold (cap + 1 - i) (by omega) (by rw [hz1]; omega) (by omega) (by omega) (by rw [hz2]; omega) (by rw [hz2, hik]; exact growslice_fits (by omega) (by omega))
        rw [hik, show ((cap + 1 - i : Nat) : Int) = (cap : Int) + 1 - (i : Int) by omega] at hrz
        obtain ⟨G, hGe⟩ : ∃ G, G = grownCap w (cap + 1) cap 35 := ⟨_, rfl⟩
        have hG : cap + 1 ≤ G := by rw [hGe]; exact grownCap_ge _ _ _ _
        rw [← hGe] at hrz
        obtain ⟨ROWA, hROWA⟩ : ∃ R, R = (XS.take (5 * i)).toArray ++ Builtin.zeroCells zero5.cells (cap + 1 - i) ++ Builtin.zeroCells zero5.cells (G - (cap + 1)) := ⟨_, rfl⟩
        rw [← hROWA] at hrz
        obtain ⟨ROW, hROW⟩ : ∃ R, R = ROWA.toList := ⟨_, rfl⟩
        have hRl : ROW.length = G * 5 := by
          rw [hROW, hROWA]
          simp [Builtin.zeroCells, Value.cells, HNf.out]
          omega
        have hRt : ROW.take (i * 5) = XS.take (i * 5) := by
          have hl : (XS.take (5 * i)).length = i * 5 := by rw [List.length_take, HNf.out]; omega
          have e : ROW = XS.take (5 * i) ++ ((Builtin.zeroCells zero5.cells (cap + 1 - i)).toList ++ (Builtin.zeroCells zero5.cells (G - (cap + 1))).toList) := by rw [hROW, hROWA]; simp
          rw [e, List.take_left' hl, show 5 * i = i * 5 by omega]
        obtain ⟨H, hHe⟩ : ∃ H, H = w.heap.size := ⟨_, rfl⟩
        obtain ⟨W1, hW1⟩ : ∃ W, W = w.drew.alloc (Obj.cells ROWA 35) := ⟨_, rfl⟩
        have hr1 : W1.heap[H]? = some (.cells ROW.toArray 35 (0, 0)) := by
          rw [hW1, hHe, hROW]
          have := alloc_top w.drew (Obj.cells ROWA 35)
          simpa using this
        have hb1 : Below base w W1 := by rw [hW1]; exact (Below.refl _ _).drew.alloc hbase _
        have ho1 : ∀ {b j : Nat} {u : Value}, w.cell? ⟨b, j, none⟩ = some u → W1.cell? ⟨b, j, none⟩ = some u := fun h => by rw [hW1]; exact cell_alloc _ h
        have hs1 : W1.heap.size = H + 1 := by rw [hW1, hHe]; simp
        rw [← hW1, ← hHe] at hrz
        have HRl := Lib.hid hRl
        have HRt := Lib.hid hRt
        have HR1 := Lib.hid hr1
        have HB1 := Lib.hid hb1
        have HHe := Lib.hid hHe
        have HO1 : Hid (∀ j u, XC[j]? = some u → W1.cell? ⟨vb, 0 + j, none⟩ = some u) := Lib.hid (fun j u hj => by rw [Nat.zero_add]; have := HXc.out j u hj; rw [Addr.add_lit, Nat.zero_add] at this; exact ho1 this)
        have HSrc1 : Hid (∀ j u, (XS.drop (5 * i))[j]? = some u → W1.cell? ⟨g, i * 5 + j, none⟩ = some u) := Lib.hid (fun j u hj => ho1 (HSrc.out j u hj))
        have HS1 := Lib.hid hs1
        have hgH : g ≠ H := by omega
        have HRz := Lib.hid hrz
        have HSum : Hid (IntKind.i64.wrap ((i : Int) + 1) = ((i + 1 : Nat) : Int)) := Lib.hid (by rw [show (i : Int) + 1 = ((i + 1 : Nat) : Int) by omega]; exact Lib.wrap_i64_small _ (by omega))
        have hci : ¬ cap = i := by omega
        have hci2 : ¬ G = i := by omega
        have hci3 : ¬ G = i + 1 := by omega
        have hm1 : Nat.min 1 (cap + 1 - i) = 1 := Nat.min_eq_left (by omega)
        clear hold hROWA hROW hRl hRt hW1 hr1 hb1 ho1 hs1 hGe hHe hrz
        have H41 : Hid (XC.length = Nat.min 1 (cap + 1 - i) * 5) := Lib.hid (by rw [HXl.out, hm1])
        have H42 : Hid (∀ j u, XC[j]? = some u → W1.cell? (Addr.add ⟨vb, 0, none⟩ j) = some u) := Lib.hid (fun j u hj => by rw [Addr.add_lit]; exact HO1.out j u hj)
        have H43 : Hid (i * 5 + XC.length ≤ ROW.length) := Lib.hid (by rw [HXl.out, HRl.out]; omega)
        go_enter Try.func31, Try.ntmps31
        go_wp2_with (first | (at_builtin; refine Lib.wpList_append_run _ rfl _ _ _ _ rfl _ _ rfl rfl _ _ (HRz.out _) ?_) | with_reducible refine wpList_copyN rfl (.tmp 43) (.tmp 44) 22 22 rfl 35 5 Try.underlying22 hsz5 H (i * 5) (cap + 1 - i) (G - i) ⟨vb, 0, none⟩ 1 1 rfl rfl ROW 35 HR1.out XC H41.out H42.out H43.out HX1.out ?_)
        intro w3 hc3
        have HC3 := Lib.hid hc3
        have HB3 : Hid (Below base w w3) := Lib.hid (hc3.below HB1.out (by have := HHe.out; omega))
        have HSrc3 : Hid (∀ j u, (XS.drop (5 * i))[j]? = some u → w3.cell? ⟨g, i * 5 + j, none⟩ = some u) := Lib.hid (fun j u hj => hc3.cell (HSrc1.out j u hj) hgH)
        have HHs : Hid (H < w3.heap.size) := Lib.hid (by rw [hc3.size, HS1.out]; omega)
        have hbH : base ≤ H := by have := HHe.out; omega
        clear hc3
        go_wp2_with fail
        refine wp_region_held_drew (S := fun w' => True) (by kernel_rfl) (trivial) (fun hHeld => ?_)
        refine wpAnyH_take (i := 0) (v := ?_) (by simp only [List.getElem?_toArray, List.getElem?_cons_succ, List.getElem?_cons_zero]; rfl) (by kernel_rfl) (by kernel_rfl) (by kernel_rfl) (by intro _ _ _ h; exact h) (Or.inl ⟨by rfl, ?_⟩) (by assumption) ?_
        rotate_left
        · intro w hSw; (try dsimp only at hSw); go_simp; try with_reducible rfl
        try simp only [Act.put, List.setIfInBounds_toArray, List.set_cons_zero, List.set_cons_succ]
        refine wpAnyH_take (i := 1) (v := ?_) (by simp only [List.getElem?_toArray, List.getElem?_cons_succ, List.getElem?_cons_zero]; rfl) (by kernel_rfl) (by kernel_rfl) (by kernel_rfl) (by intro _ _ _ h; exact h) (Or.inl ⟨by rfl, ?_⟩) (by assumption) ?_
        rotate_left
        · intro w hSw; (try dsimp only at hSw); go_simp; try with_reducible rfl
        try simp only [Act.put, List.setIfInBounds_toArray, List.set_cons_zero, List.set_cons_succ]
        refine wpAnyH_take (i := 2) (v := ?_) (by simp only [List.getElem?_toArray, List.getElem?_cons_succ, List.getElem?_cons_zero]; rfl) (by kernel_rfl) (by kernel_rfl) (by kernel_rfl) (by intro _ _ _ h; exact h) (Or.inl ⟨by rfl, ?_⟩) (by assumption) ?_
        rotate_left
        · intro w hSw; (try dsimp only at hSw); go_simp; try with_reducible rfl
        try simp only [Act.put, List.setIfInBounds_toArray, List.set_cons_zero, List.set_cons_succ]
        refine wpAnyH_take (i := 3) (v := ?_) (by simp only [List.getElem?_toArray, List.getElem?_cons_succ, List.getElem?_cons_zero]; rfl) (by kernel_rfl) (by kernel_rfl) (by kernel_rfl) (by intro _ _ _ h; exact h) (Or.inl ⟨by rfl, ?_⟩) (by assumption) ?_
        rotate_left
        · intro w hSw; (try dsimp only at hSw); go_simp; rw [HSum.out]
        try simp only [Act.put, List.setIfInBounds_toArray, List.set_cons_zero, List.set_cons_succ]
        refine wpAnyH_take (i := 4) (v := ?_) (by simp only [List.getElem?_toArray, List.getElem?_cons_succ, List.getElem?_cons_zero]; rfl) (by kernel_rfl) (by kernel_rfl) (by kernel_rfl) (by intro _ _ _ h; exact h) (Or.inl ⟨by rfl, ?_⟩) (by assumption) ?_
        rotate_left
        · intro w hSw; (try dsimp only at hSw); go_simp; first | with_reducible rfl | rw [if_pos (by omega)]
        try simp only [Act.put, List.setIfInBounds_toArray, List.set_cons_zero, List.set_cons_succ]
        refine wpAnyH_take (i := 5) (v := ?_) (by simp only [List.getElem?_toArray, List.getElem?_cons_succ, List.getElem?_cons_zero]; rfl) (by kernel_rfl) (by kernel_rfl) (by kernel_rfl) (by intro _ _ _ h; exact h) (Or.inl ⟨by rfl, ?_⟩) (by assumption) ?_
        rotate_left
        · intro w hSw; (try dsimp only at hSw); go_simp; try with_reducible rfl
        try simp only [Act.put, List.setIfInBounds_toArray, List.set_cons_zero, List.set_cons_succ]
        refine wpAnyH_take (i := 6) (v := ?_) (by simp only [List.getElem?_toArray, List.getElem?_cons_succ, List.getElem?_cons_zero]; rfl) (by kernel_rfl) (by kernel_rfl) (by kernel_rfl) (by intro _ _ _ h; exact h) (Or.inl ⟨by rfl, ?_⟩) (by assumption) ?_
        rotate_left
        · intro w hSw; (try dsimp only at hSw); go_simp; try with_reducible rfl
        try simp only [Act.put, List.setIfInBounds_toArray, List.set_cons_zero, List.set_cons_succ]
        refine wpAnyH_take (i := 7) (v := ?_) (by simp only [List.getElem?_toArray, List.getElem?_cons_succ, List.getElem?_cons_zero]; rfl) (by kernel_rfl) (by kernel_rfl) (by kernel_rfl) (by intro _ _ _ h; exact h) (Or.inl ⟨by rfl, ?_⟩) (by assumption) ?_
        rotate_left
        · intro w hSw; (try dsimp only at hSw); go_simp; first | with_reducible rfl | rw [if_pos (by omega)]
        try simp only [Act.put, List.setIfInBounds_toArray, List.set_cons_zero, List.set_cons_succ]
        refine wpAnyH_ready (rs := [8]) (by kernel_rfl) (by simp) ?_
        refine AllReadyH.cons (o := _) (by simp only [List.getElem?_toArray, List.getElem?_cons_succ, List.getElem?_cons_zero]; rfl) (fun K hK => ?_) AllReadyH.nil
        rw [if_pos (by rfl)]
        refine wp_copyN (.tmp 50) (.tmp 53) 22 22 rfl 35 5 Try.underlying22 hsz5 H ((i + 1) * 5) (cap - i) (G - (i + 1)) ⟨g, i * 5, none⟩ (cap - i) (cap - i) rfl rfl _ 35 (by exact HC3.out.row) (XS.drop (5 * i)) (by rw [HDl.out]; congr 1; exact (Nat.min_self _).symm) (fun j u hj => by rw [Addr.add_lit]; exact HSrc3.out j u hj) (by rw [HDl.out]; simp only [List.length_append, List.length_take, List.length_drop, HRl.out, HXl.out]; omega) HD1.out ?_
        intro w4 hc4
        have HC4 := Lib.hid hc4
        clear hc4
        refine hK.out _ _ (by trivial) (fun hHeld => ?_)
        clear hK K
        try simp only [Act.put, List.setIfInBounds_toArray, List.set_cons_zero, List.set_cons_succ]
        refine wpAnyH_done (by kernel_rfl) ?_ _
        obtain ⟨R3, hR3, hc5⟩ : ∃ R3, R3 = (ROW.take (i * 5) ++ XC ++ ROW.drop (i * 5 + XC.length)).take ((i + 1) * 5) ++ XS.drop (5 * i) ++ (ROW.take (i * 5) ++ XC ++ ROW.drop (i * 5 + XC.length)).drop ((i + 1) * 5 + (XS.drop (5 * i)).length) ∧ Copied w3.drew w4 H R3 35 := ⟨_, rfl, by simpa only [List.append_assoc] using HC4.out⟩
        have h1 : (ROW.take (i * 5) ++ XC).length = (i + 1) * 5 := by rw [List.length_append, List.length_take, HXl.out, HRl.out]; omega
        rw [List.take_left' h1, HRt.out, show 5 * i = i * 5 by omega] at hR3
        have HC5 := Lib.hid hc5
        have HR3 := Lib.hid hR3
        clear hc5 hR3 h1
        go_wp2_with fail
        go_ret
        have hc5 := HC5.out
        refine ⟨H, G, rfl, hG, by omega, by rw [hc5.size]; exact HHs.out, fun j u hju => ?_, hc5.below (HB3.out.drew) (by omega)⟩
        rw [HIns.out, show 5 * i = i * 5 by omega] at hju
        rw [hc5.own j, HR3.out, List.getElem?_append_left (List.getElem?_eq_some_iff.1 hju).1]
        exact hju
end Go.Proofs.Ytbhbebidkeejbaa
