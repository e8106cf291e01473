import Derived.Test.YtibimdhmfchcoaaU64
namespace Go.Proofs.Ytibimdhmfchcoaa
open Go.RowKit Go.Shelf Go.Maps
set_option linter.unusedVariables false
set_option linter.unusedSimpArgs false
theorem without_lt (m : Nat) : ∀ (ins : List Int) (T : Nat), ins.length ≤ 4 → T < 65536 → (without m ins T).2 < 65536 ∧ (without m ins T).1.length ≤ 4 := by
  induction m with
  | zero => intro ins T h4 hT; exact ⟨hT, h4⟩
  | succ m ih =>
    intro ins T h4 hT
    unfold without
    split
    · rename_i hz
      have h := dropTo_lt T (zeroAt ins) (2 ^ ins.length)
      have h16 : (2 : Nat) ^ ins.length ≤ 2 ^ 4 := Nat.pow_le_pow_right (by omega) h4
      have h2 : (2 : Nat) ^ (dropTo T (zeroAt ins) (2 ^ ins.length)).2 ≤ 2 ^ 16 := Nat.pow_le_pow_right (by omega) (by omega)
      exact ih _ _ (by rw [List.length_eraseIdx, if_pos hz]; omega) (by omega)
    · exact ⟨hT, h4⟩
theorem without_mem (m : Nat) : ∀ (ins : List Int) (T : Nat), ∀ x ∈ (without m ins T).1, x ∈ ins := by
  induction m with
  | zero => intro ins T x hx; exact hx
  | succ m ih =>
    intro ins T x hx
    unfold without at hx
    split at hx
    · exact List.mem_of_mem_eraseIdx (ih _ _ x hx)
    · exact hx
/-- What the reference makes of a table. -/
def toldR (f : Int → Int) (ins : List Int) (T : Nat) (ff init : Bool) : BlkD :=
  ⟨(without 4 ins T).1.map f, ((without 4 ins T).2 : Nat), ff, init⟩
structure T42 (B : Nat) (w : World) (ff init : Bool) (wr : World) (vI : Value) (tv : Int) (l : List Int) : Prop where
  below : Below w.heap.size w wr
  size : w.heap.size + 3 ≤ wr.heap.size
  cI : wr.cell? ⟨w.heap.size + 1, 0, none⟩ = some vI
  cT : wr.cell? ⟨w.heap.size + 1, 1, none⟩ = some (.int .i64 tv)
  cF : wr.cell? ⟨w.heap.size + 1, 2, none⟩ = some (.bool ff)
  cN : wr.cell? ⟨w.heap.size + 1, 3, none⟩ = some (.bool init)
  fz : ∀ i, wr.frozen? ⟨w.heap.size + 1, i, none⟩ = false
  res : wr.heap[w.heap.size + 2]? = some (.cells #[.slice none 0 0, .int .i64 0, .bool false, .bool false] 43)
  own : wr.ownsRow B 3 1 vI l.length (l.map (Value.int .i64))
  base : w.heap.size + 3 ≤ B
theorem T42.next {B : Nat} {w wr w9 : World} {ff init : Bool} {vI vI' : Value} {tv : Int} {l l' : List Int} (hv : T42 B w ff init wr vI tv l) (hb : Below B wr w9)
    (hI : w9.ownsRow B 3 1 vI' l'.length (l'.map (Value.int .i64))) : T42 B w ff init (w9.setCell ⟨w.heap.size + 1, 0, none⟩ vI') vI' tv l' := by
  have hsz := hv.size
  have hbb := hv.base
  have hs := hb.size
  have hg := grownBy_set w9 (w.heap.size + 1) 0 vI'
  have cl : ∀ {j : Nat} {v : Value}, wr.cell? ⟨w.heap.size + 1, j, none⟩ = some v → w9.cell? ⟨w.heap.size + 1, j, none⟩ = some v := fun h => (hb.cell (p := ⟨_, _, none⟩) (by simp only; omega)).trans h
  refine ⟨(hv.below.trans (hb.mono (by omega))).grown hg (by omega) (fun k e => by injection e with e; omega), by rw [set_size]; omega, cell?_set_own (cl hv.cI), set_keep (cl hv.cT) (by decide), set_keep (cl hv.cF) (by decide), set_keep (cl hv.cN) (by decide), ?_, ?_, ?_, hv.base⟩
  · intro i
    rw [set_frozen]
    exact (hb.frozen (p := ⟨_, _, none⟩) (by simp only; omega)).trans (hv.fz i)
  · exact (hg.block _ (by omega) (by intro e; injection e with e; omega)).trans ((hb.block _ (by omega)).trans hv.res)
  · exact hI.kept hg (.inr (fun e => by have := (hI.lt _ e).1; omega))
theorem T42.tab {B : Nat} {w wr : World} {ff init : Bool} {vI : Value} {tv : Int} {l : List Int} (hv : T42 B w ff init wr vI tv l) (tv' : Int) : T42 B w ff init (wr.setCell ⟨w.heap.size + 1, 1, none⟩ (.int .i64 tv')) vI tv' l := by
  have hsz := hv.size
  have hbb := hv.base
  have hg := grownBy_set wr (w.heap.size + 1) 1 (.int .i64 tv')
  refine ⟨hv.below.grown hg (by omega) (fun k e => by injection e with e; omega), by rw [set_size]; omega, set_keep hv.cI (by decide), cell?_set_own hv.cT, set_keep hv.cF (by decide), set_keep hv.cN (by decide), ?_, ?_, ?_, hv.base⟩
  · intro i; rw [set_frozen]; exact hv.fz i
  · exact (hg.block _ (by omega) (by intro e; injection e with e; omega)).trans hv.res
  · exact hv.own.kept hg (.inr (fun e => by have := (hv.own.lt _ e).1; omega))
theorem results_blk42 {tmps : Array Value} {w : World} {b : Nat} {a : Option Addr} {n c : Nat} {t : Int} {f i : Bool} (h : tmps[6]?.getD undef = .pointer (some ⟨b, 0, none⟩))
    (h0 : w.cell? ⟨b, 0, none⟩ = some (.slice a n c)) (h1 : w.cell? ⟨b, 1, none⟩ = some (.int .i64 t)) (h2 : w.cell? ⟨b, 2, none⟩ = some (.bool f)) (h3 : w.cell? ⟨b, 3, none⟩ = some (.bool i)) :
    (results Try.f42 tmps).run Try.prog w = .ok (.agg #[.slice a n c, .int .i64 t, .bool f, .bool i]) w := by
  simp [results, go_sem, h, h0, h1, h2, h3]


set_option maxRecDepth 100000 in
set_option maxHeartbeats 8000000 in
theorem told42 (w : World) (La : Option Addr) (Lc : Nat) (Li : List Int) (Lt : Int) (hU : U64 Lt) (hLt : Lt.toNat < 65536) (hLi : ∀ x ∈ Li, I64 x) (S : Seq w La Li.length (ints Li)) (h4 : Li.length ≤ 4) (hcap : Li.length ≤ Lc)
    (wb L cL : Nat) (f : Int → Int) (hL : L ≤ 500) (hw : ∀ i, i < L → w.cell? ⟨wb, i, none⟩ = some (.int .i64 (f i))) (hin : ∀ x ∈ Li, 0 ≤ x ∧ x < L) (ff init : Bool) :
    Calls Try.prog 42 #[.agg #[.slice La Li.length Lc, .int .u64 Lt], .slice (some ⟨wb, 0, none⟩) L cL, .agg #[.slice none 0 0, .int .i64 0, .bool ff, .bool init]] w (NewBlk w (toldR f Li Lt.toNat ff init)) := by
  obtain ⟨i3, hi, hz0, hz1, hz2⟩ := info_parts info3
  have hwl := without_lt 4 Li Lt.toNat h4 hLt
  have hwm := without_mem 4 Li Lt.toNat
  obtain ⟨W0, hW0⟩ : ∃ W, W = ((w.alloc (Obj.cells #[Value.slice La Li.length Lc, Value.int IntKind.u64 Lt] 41)).alloc (Obj.cells #[Value.slice none 0 0, Value.int IntKind.i64 0, Value.bool ff, Value.bool init] 43)).alloc (Obj.cells #[Value.slice none 0 0, Value.int IntKind.i64 0, Value.bool false, Value.bool false] 43) := ⟨_, rfl⟩
  have hI0 : T42 (w.heap.size + 3) w ff init W0 (.slice none 0 0) 0 [] := by
    rw [hW0]
    refine ⟨(((Below.refl _ _).alloc (Nat.le_refl _) _).alloc (by simp) _).alloc (by simp; omega) _, by simp, ?_, ?_, ?_, ?_, ?_, heap_third _ _ _ _, World.ownsRow_nil _ _ _ _, Nat.le_refl _⟩
    all_goals (try intro i)
    all_goals (first | (simp [go_sem]; done) | (simp [go_sem] <;> omega) | skip)
  have C64 := Lib.hid (without64 4 W0 La Lc Li Lt h4 h4 hcap hLi hU (S.below hI0.below (Nat.le_refl _)))
  have HI0 := Lib.hid hI0
  have S0 := Lib.hid S
  have HWi := Lib.hid hw
  obtain ⟨RR, hRR⟩ : ∃ r, r = without 4 Li Lt.toNat := ⟨_, rfl⟩
  have HRR := Lib.hid hRR
  rw [← hRR] at hwl hwm C64
  obtain ⟨X, T'⟩ := RR
  dsimp only at hwl hwm C64
  have HMm := Lib.hid hwm
  have HIn : Hid (∀ x ∈ X, 0 ≤ x ∧ x < L) := Lib.hid (fun x hx => hin x (hwm x hx))
  obtain ⟨hT', hX4⟩ := hwl
  clear hI0 S hLi hU hin hw hwm hRR
  go_enter Try.func42, Try.ntmps42
  go_wp2_with fail
  rw [← hW0]
  clear hW0
  refine C64.out.mono ?_
  rintro e W1 ⟨a5, c5, rfl, hS5, hA5, hb5⟩
  have hI1 : T42 W1.heap.size w ff init W1 (.slice none 0 0) 0 [] := by
    have h0 := HI0.out
    have hs := h0.size
    have hb6 := hb5.mono hs
    have cl : ∀ {j : Nat} {v : Value}, W0.cell? ⟨w.heap.size + 1, j, none⟩ = some v → W1.cell? ⟨w.heap.size + 1, j, none⟩ = some v := fun h => (hb6.cell (p := ⟨_, _, none⟩) (by simp only; omega)).trans h
    exact ⟨h0.below.trans (hb5.mono (by omega)), by have := hb5.size; omega, cl h0.cI, cl h0.cT, cl h0.cF, cl h0.cN, fun i => (hb6.frozen (p := ⟨_, _, none⟩) (by simp only; omega)).trans (h0.fz i), (hb6.block _ (by omega)).trans h0.res, World.ownsRow_nil _ _ _ _, by have := hb5.size; omega⟩
  have HI1 := Lib.hid hI1
  have hs1 := hI1.size
  have HX : Hid (∀ W : World, (∀ b, b < W1.heap.size → b ≠ w.heap.size + 1 → W.heap[b]? = W1.heap[b]?) → Seq W a5 X.length (ints X)) := Lib.hid (fun W hW => by
    rcases hS5 with h | ⟨b, off, ha, hc⟩
    · exact .inl h
    · rcases Nat.eq_zero_or_pos X.length with h0 | h0
      · exact .inl h0
      · refine .inr ⟨b, off, ha, fun i hi => (World.cell?_of_block (a := ⟨_, _, none⟩) (hW b (World.block_lt_of_cell? W1 _ (hc i hi)) ?_)).trans (hc i hi)⟩
        intro e
        have hs0 := HI0.out.size
        rcases hA5 with h | h | ⟨g, off2, h1, h2⟩
        · omega
        · rw [h] at ha
          rcases S0.out with h3 | ⟨b2, off2, ha2, hc2⟩
          · rcases Nat.eq_zero_or_pos Li.length with h4 | h4
            · have := List.length_pos_iff_exists_mem.1 h0
              obtain ⟨y, hy⟩ := this
              have := List.length_pos_of_mem (HMm.out y hy)
              omega
            · omega
          · rw [ha2] at ha
            injection ha with ha; injection ha with ha1 ha3
            rcases Nat.eq_zero_or_pos Li.length with h4 | h4
            · obtain ⟨y, hy⟩ := List.length_pos_iff_exists_mem.1 h0
              have := List.length_pos_of_mem (HMm.out y hy)
              omega
            · have := World.block_lt_of_cell? w _ (hc2 0 h4)
              simp only at this
              omega
        · rw [h1] at ha; injection ha with ha; injection ha with ha1 ha3; omega)
  clear hI1 hS5 hA5 hb5
  obtain ⟨m, hm⟩ : ∃ m, m = X.length := ⟨_, rfl⟩
  rw [← hm] at HX hX4 ⊢
  have HM := Lib.hid hm
  clear hm
  go_wp2
  go_loopw [21] (fun iv wr => ∃ k : Nat, k ≤ m ∧ iv = .int .i64 k ∧ Hid (∃ vI, T42 W1.heap.size w ff init wr vI 0 ((X.take k).map f) ∧ (∀ b, b < W1.heap.size → b ≠ w.heap.size + 1 → wr.heap[b]? = W1.heap[b]?) ∧ W1.heap.size ≤ wr.heap.size)) (fun iv _ => m - (intOf iv).toNat)
  case atStart => exact ⟨0, by omega, rfl, Lib.hid ⟨_, HI1.out, fun b _ _ => rfl, Nat.le_refl _⟩⟩
  case round =>
    obtain ⟨k, hk, rfl, hh⟩ := hrel
    obtain ⟨vI, hv, hbw, hws⟩ := hh.out
    have hsz := hv.size
    by_cases hlt : k < m
    · obtain ⟨b3, off3, hLa, hb3, hc3⟩ := (HX.out wr hbw).at k hlt
      have x0 := hc3 k hlt
      unfold ints at x0
      have hxm := HIn.out _ (getD_mem X 0 (show k < X.length by rw [← HM.out]; exact hlt))
      have htk := take_one X 0 k (show k < X.length by rw [← HM.out]; exact hlt)
      obtain ⟨x, hx⟩ : ∃ x, x = X.getD k 0 := ⟨_, rfl⟩
      rw [← hx] at x0 hxm htk
      obtain ⟨xn, rfl⟩ : ∃ n : Nat, x = n := ⟨x.toNat, by omega⟩
      have hwx : wr.cell? ⟨wb, xn, none⟩ = some (.int .i64 (f xn)) := by
        have h := HWi.out xn (by omega)
        exact (hv.below.cell (p := ⟨_, _, none⟩) (World.block_lt_of_cell? w _ h)).trans h
      obtain ⟨fx, hfx⟩ : ∃ z, z = f xn := ⟨_, rfl⟩
      rw [← hfx] at hwx
      have z4 := hv.cI
      have hf4 := hv.fz 0
      have hwbl : wb < w.heap.size := World.block_lt_of_cell? w _ (HWi.out xn (by omega))
      have hl9 : ((X.take k).map f).length = k := by rw [List.length_map, List.length_take, ← HM.out]; omega
      have HTk : Hid ((X.take (k + 1)).map f = (X.take k).map f ++ [fx]) := Lib.hid (by rw [htk, List.map_append, hfx]; rfl)
      have HoI : Hid (wr.ownsRow W1.heap.size 3 1 vI k (((X.take k).map f).map (Value.int .i64))) := Lib.hid (by have h := hv.own; rw [hl9] at h; exact h)
      have HXl : Hid (xn < L) := Lib.hid (by omega)
      have HV := Lib.hid hv
      have HBw := Lib.hid hbw
      clear hv hc3 htk hx hfx hl9 hbw hh hxm
      subst hLa
      obtain ⟨XI, hXI⟩ : ∃ l, l = ((X.take k).map f).map (Value.int .i64) := ⟨_, rfl⟩
      rw [← hXI] at HoI
      have HXI := Lib.hid hXI
      clear hXI
      go_wp2_with fail
      refine wp_region_K (S := fun w' => w'.cell? ⟨w.heap.size + 1, 0, none⟩ = some vI ∧ w'.cell? ⟨wb, xn, none⟩ = some (.int .i64 fx)) 9 (by kernel_rfl) (⟨z4, hwx⟩) (fun hHeld => ?_)
      refine wpAnyK_take (i := 0) (v := ?_) (by simp only [List.getElem?_toArray, List.getElem?_cons_succ, List.getElem?_cons_zero]; rfl) (by kernel_rfl) (by kernel_rfl) (by kernel_rfl) (by kernel_rfl) (by intro _ _ _ h; exact h) (Or.inl ⟨by rfl, ?_⟩) (by assumption) ?_
      rotate_left
      · intro w hSw; (try dsimp only at hSw); go_simp; try with_reducible rfl
      try simp only [Act.put, List.setIfInBounds_toArray, List.set_cons_zero, List.set_cons_succ]
      refine wpAnyK_take (i := 1) (v := ?_) (by simp only [List.getElem?_toArray, List.getElem?_cons_succ, List.getElem?_cons_zero]; rfl) (by kernel_rfl) (by kernel_rfl) (by kernel_rfl) (by kernel_rfl) (by intro _ _ _ h; exact h) (Or.inl ⟨by rfl, ?_⟩) (by assumption) ?_
      rotate_left
      · intro w hSw; (try dsimp only at hSw); go_simp; try with_reducible rfl
      try simp only [Act.put, List.setIfInBounds_toArray, List.set_cons_zero, List.set_cons_succ]
      refine wpAnyK_take (i := 2) (v := ?_) (by simp only [List.getElem?_toArray, List.getElem?_cons_succ, List.getElem?_cons_zero]; rfl) (by kernel_rfl) (by kernel_rfl) (by kernel_rfl) (by kernel_rfl) (by intro _ _ _ h; exact h) (Or.inl ⟨by rfl, ?_⟩) (by assumption) ?_
      rotate_left
      · intro w hSw; (try dsimp only at hSw); go_simp; try with_reducible rfl
      try simp only [Act.put, List.setIfInBounds_toArray, List.set_cons_zero, List.set_cons_succ]
      refine wpAnyK_take (i := 3) (v := ?_) (by simp only [List.getElem?_toArray, List.getElem?_cons_succ, List.getElem?_cons_zero]; rfl) (by kernel_rfl) (by kernel_rfl) (by kernel_rfl) (by kernel_rfl) (by intro _ _ _ h; exact h) (Or.inl ⟨by rfl, ?_⟩) (by assumption) ?_
      rotate_left
      · intro w hSw; (try dsimp only at hSw); go_simp; try with_reducible rfl
      try simp only [Act.put, List.setIfInBounds_toArray, List.set_cons_zero, List.set_cons_succ]
      refine wpAnyK_take (i := 4) (v := ?_) (by simp only [List.getElem?_toArray, List.getElem?_cons_succ, List.getElem?_cons_zero]; rfl) (by kernel_rfl) (by kernel_rfl) (by kernel_rfl) (by kernel_rfl) (by intro _ _ _ h; exact h) (Or.inl ⟨by rfl, ?_⟩) (by assumption) ?_
      rotate_left
      · intro w hSw; (try dsimp only at hSw); go_simp; rw [if_pos (by have := HXl.out; omega)]
      try simp only [Act.put, List.setIfInBounds_toArray, List.set_cons_zero, List.set_cons_succ]
      refine wpAnyK_take (i := 5) (v := ?_) (by simp only [List.getElem?_toArray, List.getElem?_cons_succ, List.getElem?_cons_zero]; rfl) (by kernel_rfl) (by kernel_rfl) (by kernel_rfl) (by kernel_rfl) (by intro _ _ _ h; exact h) (Or.inl ⟨by rfl, ?_⟩) (by assumption) ?_
      rotate_left
      · intro w hSw; (try dsimp only at hSw); go_simp; try with_reducible rfl
      try simp only [Act.put, List.setIfInBounds_toArray, List.set_cons_zero, List.set_cons_succ]
      refine wpAnyK_ready (rs := [6]) (by kernel_rfl) (by simp) ?_
      refine AllReadyK.cons (o := _) (by simp only [List.getElem?_toArray, List.getElem?_cons_succ, List.getElem?_cons_zero]; rfl) (fun K hK => ?_) AllReadyK.nil
      go_simp

      refine hK.out _ _ (fun _ => by exact ⟨cell_alloc _ z4, cell_alloc _ hwx⟩) (fun hH => ?_)
      have hHeld := hH (by decide)
      clear hK K hH
      try simp only [Act.put, List.setIfInBounds_toArray, List.set_cons_zero, List.set_cons_succ]
      refine wpAnyK_ready (rs := [7]) (by kernel_rfl) (by simp) ?_
      refine AllReadyK.cons (o := _) (by simp only [List.getElem?_toArray, List.getElem?_cons_succ, List.getElem?_cons_zero]; rfl) (fun K hK => ?_) AllReadyK.nil
      rw [if_pos (by rfl)]
      have hoI8 : (wr.drew.alloc (Obj.cells #[Value.int IntKind.i64 fx] 3)).ownsRow W1.heap.size 3 1 vI k XI := (own_drewN (k := 1) HoI.out).alloc _
      refine wp_append_lies _ (.tmp 26) (.tmp 31) 24 rfl W1.heap.size 3 i3 (.int .i64 0) 1 8 Try.underlying24 hi hz0 hz1 hz2 rfl (by decide) vI k XI rfl hoI8 ⟨wr.heap.size, 0, none⟩ 1 1 [.int .i64 fx] rfl rfl (one_new (cell_newW wr.drew _ _)) (by simp [Value.oneCell']) (by omega) (by unfold maxLen; omega) (by omega) (by simp; omega) (wr.heap.size + 1) (by simp) ?_
      intro gI cI w9 hoI9 hg9 hat9 hlt9
      have hgr9 : wr.grownBy w9 vI.ownBlock := ggrown (grownBy_drew _ _) (ggrown (World.grownBy_alloc _ _ _) hg9)
      have hb9' : Below W1.heap.size wr w9 := (Below.refl _ _).grown hgr9 (by omega) (fun k e => (HoI.out.lt k e).1)
      have y4 := (hb9'.cell (p := ⟨w.heap.size + 1, 0, none⟩) (by simp only; omega)).trans z4
      have y5 := (hb9'.frozen (p := ⟨w.heap.size + 1, 0, none⟩) (by simp only; omega)).trans hf4
      have yw := (hb9'.cell (p := ⟨wb, xn, none⟩) (by simp only; omega)).trans hwx
      refine hK.out _ _ (fun _ => by exact ⟨y4, yw⟩) (fun hH => ?_)
      have hHeld := hH (by decide)
      clear hK K hH
      try simp only [Act.put, List.setIfInBounds_toArray, List.set_cons_zero, List.set_cons_succ]
      refine wpAnyK_ready (rs := [8]) (by kernel_rfl) (by simp) ?_
      refine AllReadyK.cons (o := _) (by simp only [List.getElem?_toArray, List.getElem?_cons_succ, List.getElem?_cons_zero]; rfl) (fun K hK => ?_) AllReadyK.nil
      go_simp

      refine hK.out _ _ (fun _ => by exact ⟨y4, yw⟩) (fun hH => ?_)
      have hHeld := hH (by decide)
      clear hK K hH
      try simp only [Act.put, List.setIfInBounds_toArray, List.set_cons_zero, List.set_cons_succ]
      refine wpAnyK_ready (rs := [9]) (by kernel_rfl) (by simp) ?_
      refine AllReadyK.cons (o := _) (by simp only [List.getElem?_toArray, List.getElem?_cons_succ, List.getElem?_cons_zero]; rfl) (fun K hK => ?_) AllReadyK.nil
      go_simp

      refine hK.out _ _ (fun h => absurd rfl h) (fun _ => ?_)
      clear hK K
      try simp only [Act.put, List.setIfInBounds_toArray, List.set_cons_zero, List.set_cons_succ]
      refine wpAnyK_done (by kernel_rfl) ?_ _
      go_wp2
      go_roundw
      case rel =>
        refine ⟨k + 1, by omega, by go_num, Lib.hid ⟨.slice (some ⟨gI, 0, none⟩) (k + 1) cI, ?_, ?_, by rw [set_size]; exact Nat.le_trans hws hb9'.size⟩⟩
        · refine HV.out.next hb9' ?_
          rw [HTk.out, List.map_append, ← HXI.out]
          rw [List.length_append, List.length_map, List.length_take, ← HM.out, show min k m = k by omega]
          exact hoI9
        · intro b hb hne
          refine ((grownBy_set w9 (w.heap.size + 1) 0 _).block b (by have := hb9'.size; omega) (by intro e; injection e with e; exact hne e)).trans ?_
          exact ((hb9'.block b hb)).trans (HBw.out b hb hne)
      case measure => simp [intOf]; omega
    · obtain rfl : k = m := by omega
      have hoI := hv.own
      have hl9 : ((X.take k).map f).length = k := by rw [List.length_map, List.length_take, ← HM.out]; omega
      rw [hl9] at hoI
      obtain ⟨aI, cI, rfl, _, _, _⟩ := owns_seq hoI
      have zI := hv.cI
      have zT := hv.cT
      have zF := hv.cF
      have zN := hv.cN
      have zr := hv.res
      have zf0 := hv.fz 1
      have hbase := hv.base
      obtain ⟨zr0, zf⟩ := cells_at zr 0
      have zr1 := (cells_at zr 1).1
      have zr2 := (cells_at zr 2).1
      have zr3 := (cells_at zr 3).1
      have zf1 := (cells_at zr 1).2
      have zf2 := (cells_at zr 2).2
      have zf3 := (cells_at zr 3).2
      simp only [List.getElem?_toArray, List.getElem?_cons_zero, List.getElem?_cons_succ] at zr0 zr1 zr2 zr3
      have Hv := Lib.hid hv
      have HoI := Lib.hid hoI
      have hwi : IntKind.i64.wrap (T' : Int) = T' := Lib.wrap_i64_small T' (by omega)
      clear hv hoI zr hl9 hh hbw
      go_wp2_with fail
      have q0 := far (b := w.heap.size + 1) (i := 1) (u := Value.int IntKind.i64 T') zr0 (by omega)
      have q1 := far (b := w.heap.size + 1) (i := 1) (u := Value.int IntKind.i64 T') zr1 (by omega)
      have q2 := far (b := w.heap.size + 1) (i := 1) (u := Value.int IntKind.i64 T') zr2 (by omega)
      have q3 := far (b := w.heap.size + 1) (i := 1) (u := Value.int IntKind.i64 T') zr3 (by omega)
      refine bodyPost_ret (results_blk42 (b := w.heap.size + 1 + 1) rfl (set_keep (set_keep (set_keep (cell?_set_own q0) (by decide)) (by decide)) (by decide))
        (set_keep (set_keep (cell?_set_own (set_keep q1 (by decide))) (by decide)) (by decide))
        (set_keep (cell?_set_own (set_keep (set_keep q2 (by decide)) (by decide))) (by decide))
        (cell?_set_own (set_keep (set_keep (set_keep q3 (by decide)) (by decide)) (by decide)))) rfl ?_
      have hg := ggrown (ggrown (ggrown (grownBy_set (wr.setCell ⟨w.heap.size + 1, 1, none⟩ (.int .i64 T')) (w.heap.size + 1 + 1) 0 (.slice aI k cI)) (grownBy_set _ (w.heap.size + 1 + 1) 1 (.int .i64 T'))) (grownBy_set _ (w.heap.size + 1 + 1) 2 (.bool ff))) (grownBy_set _ (w.heap.size + 1 + 1) 3 (.bool init))
      have hg1 := grownBy_set wr (w.heap.size + 1) 1 (.int .i64 T')
      have hXt : X.take k = X := List.take_of_length_le (by rw [← HM.out]; exact Nat.le_refl _)
      have hXl : (X.map f).length = k := by rw [List.length_map, ← HM.out]
      refine ⟨⟨aI, cI, X.map f, T', ff, init⟩, ?_, ?_, ?_, ?_⟩
      · unfold toldR; rw [← HRR.out]
      · simp only [BlkV.val]; rw [hXl]
      · show World.ownsRow _ _ _ _ (.slice aI (X.map f).length cI) (X.map f).length _
        rw [hXl]
        have ho := HoI.out
        rw [hXt] at ho
        exact ((ho.kept hg1 (.inr (fun e => by have := (ho.lt _ e).1; omega))).kept hg (.inr (fun e => by have := (ho.lt _ e).1; omega))).base_le (by omega)
      · exact (Hv.out.below.grown hg1 (by omega) (fun k e => by injection e with e; omega)).grown hg (by rw [set_size]; omega) (fun k e => by injection e with e; omega)
end Go.Proofs.Ytibimdhmfchcoaa

