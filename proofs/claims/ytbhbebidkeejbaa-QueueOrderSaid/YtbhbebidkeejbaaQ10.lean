/- An event more (Push). -/
import Derived.Test.YtbhbebidkeejbaaQ9
namespace Go.Proofs.Ytbhbebidkeejbaa
open Go.RowKit Go.Shelf
set_option linter.unusedVariables false
set_option linter.unusedSimpArgs false

def pushE (now delta next : Int) (l : List EvV) (t d sig : Int) : Int :=
  if checkE now delta next l = 0 then (if lowB [d, sig] || decide (4611686018427387904 ≤ next) then 1 else if goneB now delta t d then 140 else 0) else checkE now delta next l
def pushL (l : List EvV) (x : EvV) : List EvV := insL l (posL l x.when) x
/-- What is handed back: a queue and an error; none where there is an error. -/
def NewQ (w : World) (E now delta next : Int) (l : List EvV) (e : Ending) (w' : World) : Prop :=
  ∃ a c, e = .returned (.tuple #[.agg #[.slice a l.length c, .int .i64 now, .int .i64 delta, .int .i64 next], .int .i64 E]) ∧ l.length ≤ c ∧ (∀ p, a = some p → w.heap.size ≤ p.block) ∧ LAt w' a l ∧ Below w.heap.size w w'
/-- What Push hands back. -/
def Pushed (w : World) (now delta next : Int) (l : List EvV) (t d sig v : Int) (e : Ending) (w' : World) : Prop :=
  if pushE now delta next l t d sig = 0 then NewQ w 0 now delta (next + 1) (pushL l ⟨t, d, next, sig, v⟩) e w' else NewQ w (pushE now delta next l t d sig) 0 0 0 [] e w'
theorem noQ {w w' : World} {E : Int} (hb : Below w.heap.size w w') : NewQ w E 0 0 0 [] (.returned (.tuple #[.agg #[.slice none 0 0, .int .i64 0, .int .i64 0, .int .i64 0], .int .i64 E])) w' :=
  ⟨none, 0, rfl, Nat.le_refl _, (fun p h => by cases h), ⟨.inl rfl, fun e he => by cases he⟩, hb⟩
theorem pushed_err {w w' : World} {now delta next : Int} {l : List EvV} {t d sig v E : Int} (hE : pushE now delta next l t d sig = E) (h0 : E ≠ 0) (hb : Below w.heap.size w w') : Pushed w now delta next l t d sig v (.returned (.tuple #[.agg #[.slice none 0 0, .int .i64 0, .int .i64 0, .int .i64 0], .int .i64 E])) w' := by
  unfold Pushed
  rw [hE, if_neg h0]
  exact noQ hb
theorem results_push {tmps : Array Value} {w : World} {b : Nat} {s : Value} {x y z E : Int} (h2 : tmps[10]?.getD undef = .pointer (some ⟨b, 0, none⟩)) (h3 : tmps[11]?.getD undef = .int .i64 E)
    (h0 : w.cell? ⟨b, 0, none⟩ = some s) (h1 : w.cell? ⟨b, 1, none⟩ = some (.int .i64 x)) (h4 : w.cell? ⟨b, 2, none⟩ = some (.int .i64 y)) (h5 : w.cell? ⟨b, 3, none⟩ = some (.int .i64 z)) :
    (results Try.f11 tmps).run Try.prog w = .ok (.tuple #[.agg #[s, .int .i64 x, .int .i64 y, .int .i64 z], .int .i64 E]) w := by
  simp [results, go_sem, h2, h3, h0, h1, h4, h5]
theorem check_cases (now delta next : Int) (l : List EvV) : checkE now delta next l = 0 ∨ checkE now delta next l = 1 := by
  unfold checkE
  split
  · exact .inr rfl
  · split
    · exact .inr rfl
    · exact .inl rfl
theorem check_sorted {now delta next : Int} {l : List EvV} (h : checkE now delta next l = 0) : lowB [now, delta, next] = false ∧ (∀ i, i < l.length → badEv now delta next l i = false) ∧ SortedL l := by
  unfold checkE at h
  split at h
  · cases h
  · rename_i h1
    split at h
    · cases h
    · rename_i h2
      have h3 : ∀ i, i < l.length → badEv now delta next l i = false := fun i hi => by
        cases hb : badEv now delta next l i with
        | false => rfl
        | true => exact absurd (List.any_eq_true.2 ⟨i, List.mem_range.2 hi, hb⟩) h2
      refine ⟨by simpa using h1, h3, sorted_of l (fun i hi => ?_)⟩
      have hb := h3 (i + 1) hi
      unfold badEv at hb
      simp only [Bool.or_eq_false_iff, Bool.and_eq_false_iff] at hb
      rcases hb.2 with h4 | h4
      · simp at h4
      · rw [Nat.add_sub_cancel] at h4
        exact (aheadB_iff _ _).1 (by simpa using h4)

theorem posL_le (l : List EvV) (y : WhenV) : posL l y ≤ l.length := by unfold posL; exact (List.takeWhile_sublist _).length_le
theorem seq2 {w : World} {b : Nat} {x y : Int} (c0 : w.cell? ⟨b, 0, none⟩ = some (.int .i64 x)) (c1 : w.cell? ⟨b, 1, none⟩ = some (.int .i64 y)) : Seq w (some ⟨b, 0, none⟩) 2 (ints [x, y]) := by
  refine .inr ⟨b, 0, rfl, fun i hi => ?_⟩
  match i, hi with
  | 0, _ => exact c0
  | 1, _ => exact c1
theorem cmp_gone (now delta t d : Int) : decide (cmpW ⟨t, d, 0⟩ ⟨now, delta, 0⟩ < 0) = goneB now delta t d := by
  rw [Bool.eq_iff_iff, decide_eq_true_eq, goneB_iff]
  rcases cmpW_cases ⟨t, d, 0⟩ ⟨now, delta, 0⟩ with ⟨h1, h2⟩ | ⟨h1, h2⟩ | ⟨h1, h2⟩ <;> rw [h2] <;> (try unfold ltW at h1) <;> dsimp only at h1 <;> omega
set_option maxRecDepth 100000 in
set_option maxHeartbeats 8000000 in
theorem push11 (w : World) (a : Option Addr) (n c : Nat) (now delta next : Int) (l : List EvV) (hn : l.length = n) (h : LAt w a l) (h9 : n ≤ 1000) (hN : I64 next) (t d sig v : Int) (ht : I64 t) (hd : I64 d) (hsi : I64 sig) (hv : U64 v) :
    Calls Try.prog 11 #[.agg #[.slice a n c, .int .i64 now, .int .i64 delta, .int .i64 next], .int .i64 t, .int .i64 d, .int .i64 sig, .int .u64 v] w (Pushed w now delta next l t d sig v) := by
  have HLA := Lib.hid h
  have HN := Lib.hid hn
  obtain ⟨H, hH⟩ : ∃ h, h = w.heap.size := ⟨_, rfl⟩
  obtain ⟨w1, hw1⟩ : ∃ W, W = (w.alloc (.cells #[.slice a n c, .int .i64 now, .int .i64 delta, .int .i64 next] 24)).alloc (.cells #[.slice none 0 0, .int .i64 0, .int .i64 0, .int .i64 0] 24) := ⟨_, rfl⟩
  have HX1 : Hid (Below w.heap.size w w1) := Lib.hid (by rw [hw1]; exact ((Below.refl _ _).alloc (Nat.le_refl _) _).alloc (by simp) _)
  have hs1 : w1.heap.size = H + 2 := by rw [hw1, hH]; simp
  have k0 : w1.cell? ⟨H, 0, none⟩ = some (.slice a n c) := by rw [hw1, hH]; exact cell_alloc _ (by simp)
  have k1 : w1.cell? ⟨H, 1, none⟩ = some (.int .i64 now) := by rw [hw1, hH]; exact cell_alloc _ (by simp)
  have k2 : w1.cell? ⟨H, 2, none⟩ = some (.int .i64 delta) := by rw [hw1, hH]; exact cell_alloc _ (by simp)
  have k3 : w1.cell? ⟨H, 3, none⟩ = some (.int .i64 next) := by rw [hw1, hH]; exact cell_alloc _ (by simp)
  have z0 : w1.cell? ⟨H + 1, 0, none⟩ = some (.slice none 0 0) := by rw [hw1, hH]; simp
  have z1 : w1.cell? ⟨H + 1, 1, none⟩ = some (.int .i64 0) := by rw [hw1, hH]; simp
  have z2 : w1.cell? ⟨H + 1, 2, none⟩ = some (.int .i64 0) := by rw [hw1, hH]; simp
  have z3 : w1.cell? ⟨H + 1, 3, none⟩ = some (.int .i64 0) := by rw [hw1, hH]; simp
  have zf : ∀ i, w1.frozen? ⟨H + 1, i, none⟩ = false := by intro i; rw [hw1, hH]; simp
  have HK := Lib.hid (And.intro k0 (And.intro k1 (And.intro k2 k3)))
  have HZ := Lib.hid (And.intro z0 (And.intro z1 (And.intro z2 (And.intro z3 zf))))
  have HS1 := Lib.hid hs1
  have HW1 := Lib.hid hw1
  have HHH := Lib.hid hH
  have C13 := check13 w1 a n c now delta next l hn (h.below HX1.out (Nat.le_refl _)) h9
  have hcc := check_cases now delta next l
  obtain ⟨E, hE⟩ : ∃ E, E = checkE now delta next l := ⟨_, rfl⟩
  rw [← hE] at C13 hcc
  have HE := Lib.hid hE
  have HC13 := Lib.hid C13
  clear h hn hH hw1 hs1 k0 k1 k2 k3 z0 z1 z2 z3 zf C13 hE
  go_enter Try.func11, Try.ntmps11
  go_wp2_with fail
  rw [← HW1.out, ← HHH.out]
  refine Calls.mono HC13.out ?_
  rintro e w2 ⟨rfl, hb2⟩
  have hlt : H + 1 < w1.heap.size := by have := HS1.out; omega
  have cl : ∀ {j : Nat} {u : Value}, w1.cell? ⟨H, j, none⟩ = some u → w2.cell? ⟨H, j, none⟩ = some u := fun h => (hb2.cell (p := ⟨_, _, none⟩) (by simp only; omega)).trans h
  have cz : ∀ {j : Nat} {u : Value}, w1.cell? ⟨H + 1, j, none⟩ = some u → w2.cell? ⟨H + 1, j, none⟩ = some u := fun h => (hb2.cell (p := ⟨_, _, none⟩) hlt).trans h
  have k0 := cl HK.out.1
  have k1 := cl HK.out.2.1
  have k2 := cl HK.out.2.2.1
  have k3 := cl HK.out.2.2.2
  have z0 := cz HZ.out.1
  have z1 := cz HZ.out.2.1
  have z2 := cz HZ.out.2.2.1
  have z3 := cz HZ.out.2.2.2.1
  have zf : ∀ i, w2.frozen? ⟨H + 1, i, none⟩ = false := fun i => (hb2.frozen (p := ⟨_, _, none⟩) hlt).trans (HZ.out.2.2.2.2 i)
  have HZf := Lib.hid zf
  have f0 := zf 0
  have f1 := zf 1
  have f2 := zf 2
  have f3 := zf 3
  have HX2 := Lib.hid (HX1.out.trans (hb2.mono HX1.out.size))
  have HHw : Hid (w.heap.size = H) := Lib.hid HHH.out.symm
  clear hb2 cl cz zf hlt
  rcases hcc with hc | hc
  · subst hc
    have HEr : Hid (∀ x, x = (if lowB [d, sig] || decide (4611686018427387904 ≤ next) then 1 else if goneB now delta t d then 140 else 0) → pushE now delta next l t d sig = x) := Lib.hid (fun x hx => by unfold pushE; rw [← HE.out, if_pos rfl, hx])
    have hso := check_sorted (now := now) (delta := delta) (next := next) (l := l) HE.out.symm
    have HSo := Lib.hid hso.2.2
    have HNx0 : Hid (0 ≤ next) := Lib.hid (by have := hso.1; unfold lowB at this; simp at this; omega)
    obtain ⟨lw, hlw⟩ : ∃ b, b = lowB [d, sig] := ⟨_, rfl⟩
    obtain ⟨w4, hw4⟩ : ∃ W, W = w2.alloc (Obj.cells #[Value.int .i64 d, Value.int .i64 sig] 3) := ⟨_, rfl⟩
    have HSq : Hid (Seq w4 (some ⟨w2.heap.size, 0, none⟩) 2 (ints [d, sig])) := Lib.hid (by rw [hw4]; exact seq2 (by simp) (by simp))
    have hB4 : Below w2.heap.size w2 w4 := by rw [hw4]; exact (Below.refl _ _).alloc (Nat.le_refl _) _
    have HB4 := Lib.hid hB4
    have HW4 := Lib.hid hw4
    have HLw := Lib.hid hlw
    clear hw4 hlw hB4 hso
    go_wp2_with fail
    rw [← HW4.out]
    refine Calls.mono (low25 w4 (some ⟨w2.heap.size, 0, none⟩) 2 2 [d, sig] rfl HSq.out (by omega) (by omega)) ?_
    rintro e w5 ⟨rfl, rfl⟩
    rw [← HLw.out]
    have hb4 := HB4.out
    have hlt' : H + 1 < w2.heap.size := World.block_lt_of_cell? w2 _ z0
    have k0 := (hb4.cell (p := ⟨H, 0, none⟩) (by simp only; omega)).trans k0
    have k1 := (hb4.cell (p := ⟨H, 1, none⟩) (by simp only; omega)).trans k1
    have k2 := (hb4.cell (p := ⟨H, 2, none⟩) (by simp only; omega)).trans k2
    have k3 := (hb4.cell (p := ⟨H, 3, none⟩) (by simp only; omega)).trans k3
    have z0 := (hb4.cell (p := ⟨H + 1, 0, none⟩) hlt').trans z0
    have z1 := (hb4.cell (p := ⟨H + 1, 1, none⟩) hlt').trans z1
    have z2 := (hb4.cell (p := ⟨H + 1, 2, none⟩) hlt').trans z2
    have z3 := (hb4.cell (p := ⟨H + 1, 3, none⟩) hlt').trans z3
    have f0 := (hb4.frozen (p := ⟨H + 1, 0, none⟩) hlt').trans f0
    have f1 := (hb4.frozen (p := ⟨H + 1, 1, none⟩) hlt').trans f1
    have f2 := (hb4.frozen (p := ⟨H + 1, 2, none⟩) hlt').trans f2
    have f3 := (hb4.frozen (p := ⟨H + 1, 3, none⟩) hlt').trans f3
    have HX4 := Lib.hid (HX2.out.trans (hb4.mono HX2.out.size))
    clear hb4 hlt'
    cases lw
    · by_cases hnx : 4611686018427387904 ≤ next
      · have hnb : decide (4611686018427387904 ≤ next) = true := by simpa using hnx
        have HPE := Lib.hid (HEr.out 1 (by rw [hnb, Bool.or_true]; rfl))
        clear hnx
        go_wp2_with fail
        refine bodyPost_ret (results_push (b := H + 1) rfl rfl (set_keep (set_keep (set_keep (cell?_set_own z0) (by decide)) (by decide)) (by decide)) (set_keep (set_keep (cell?_set_own (set_keep z1 (by decide))) (by decide)) (by decide)) (set_keep (cell?_set_own (set_keep (set_keep z2 (by decide)) (by decide))) (by decide)) (cell?_set_own (set_keep (set_keep (set_keep z3 (by decide)) (by decide)) (by decide)))) rfl (pushed_err (HPE.out) (by omega) ?_)
        refine (((HX4.out.setCell (by have := HHw.out; simp only; omega) _).setCell (by have := HHw.out; simp only; omega) _).setCell (by have := HHw.out; simp only; omega) _).setCell (by have := HHw.out; simp only; omega) _
      · have hnb : decide (4611686018427387904 ≤ next) = false := by simpa using hnx
        have HNx := Lib.hid hnb
        have HWr : Hid (wrap64 (next + 1) = next + 1) := Lib.hid (by
          have h0 := HNx0.out
          rw [show next + 1 = ((next.toNat + 1 : Nat) : Int) by omega]
          rw [← IntWalk.i64_left]; exact Lib.wrap_i64_small _ (by omega))
        obtain ⟨cc, hcc⟩ : ∃ c, c = cmpW ⟨t, d, 0⟩ ⟨now, delta, 0⟩ := ⟨_, rfl⟩
        obtain ⟨gb, hgb⟩ : ∃ g, g = goneB now delta t d := ⟨_, rfl⟩
        have hcg : decide (cc < 0) = gb := by rw [hcc, hgb]; exact cmp_gone now delta t d
        have HCc := Lib.hid hcc
        have HGb := Lib.hid hgb
        clear hcc hgb
        go_wp2_with fail
        refine wp_region_held_drew (S := fun w' => w'.cell? ⟨H, 1, none⟩ = some (.int .i64 now) ∧ w'.cell? ⟨H, 2, none⟩ = some (.int .i64 delta)) (by kernel_rfl) (⟨k1, k2⟩) (fun hHeld => ?_)
        refine wpAnyH_take (i := 0) (v := ?_) (by simp only [List.getElem?_toArray, List.getElem?_cons_succ, List.getElem?_cons_zero]; rfl) (by kernel_rfl) (by kernel_rfl) (by kernel_rfl) (by intro _ _ _ h; exact h) (Or.inl ⟨by rfl, ?_⟩) (by assumption) ?_
        rotate_left
        · intro w hSw; (try dsimp only at hSw); go_simp; try with_reducible rfl
        try simp only [Act.put, List.setIfInBounds_toArray, List.set_cons_zero, List.set_cons_succ]
        refine wpAnyH_take (i := 1) (v := ?_) (by simp only [List.getElem?_toArray, List.getElem?_cons_succ, List.getElem?_cons_zero]; rfl) (by kernel_rfl) (by kernel_rfl) (by kernel_rfl) (by intro _ _ _ h; exact h) (Or.inl ⟨by rfl, ?_⟩) (by assumption) ?_
        rotate_left
        · intro w hSw; (try dsimp only at hSw); go_simp; try with_reducible rfl
        try simp only [Act.put, List.setIfInBounds_toArray, List.set_cons_zero, List.set_cons_succ]
        refine wpAnyH_take (i := 3) (v := ?_) (by simp only [List.getElem?_toArray, List.getElem?_cons_succ, List.getElem?_cons_zero]; rfl) (by kernel_rfl) (by kernel_rfl) (by kernel_rfl) (by intro _ _ _ h; exact h) (Or.inl ⟨by rfl, ?_⟩) (by assumption) ?_
        rotate_left
        · intro w hSw; (try dsimp only at hSw); go_simp; try with_reducible rfl
        try simp only [Act.put, List.setIfInBounds_toArray, List.set_cons_zero, List.set_cons_succ]
        refine wpAnyH_take (i := 4) (v := ?_) (by simp only [List.getElem?_toArray, List.getElem?_cons_succ, List.getElem?_cons_zero]; rfl) (by kernel_rfl) (by kernel_rfl) (by kernel_rfl) (by intro _ _ _ h; exact h) (Or.inl ⟨by rfl, ?_⟩) (by assumption) ?_
        rotate_left
        · intro w hSw; (try dsimp only at hSw); go_simp; try with_reducible rfl
        try simp only [Act.put, List.setIfInBounds_toArray, List.set_cons_zero, List.set_cons_succ]
        refine wpAnyH_take (i := 5) (v := ?_) (by simp only [List.getElem?_toArray, List.getElem?_cons_succ, List.getElem?_cons_zero]; rfl) (by kernel_rfl) (by kernel_rfl) (by kernel_rfl) (by intro _ _ _ h; exact h) (Or.inl ⟨by rfl, ?_⟩) (by assumption) ?_
        rotate_left
        · intro w hSw; (try dsimp only at hSw); go_simp; try with_reducible rfl
        try simp only [Act.put, List.setIfInBounds_toArray, List.set_cons_zero, List.set_cons_succ]
        refine wpAnyH_take (i := 6) (v := ?_) (by simp only [List.getElem?_toArray, List.getElem?_cons_succ, List.getElem?_cons_zero]; rfl) (by kernel_rfl) (by kernel_rfl) (by kernel_rfl) (by intro _ _ _ h; exact h) (Or.inl ⟨by rfl, ?_⟩) (by assumption) ?_
        rotate_left
        · intro w hSw; (try dsimp only at hSw); go_simp; try with_reducible rfl
        try simp only [Act.put, List.setIfInBounds_toArray, List.set_cons_zero, List.set_cons_succ]
        refine wpAnyH_ready (rs := [2]) (by kernel_rfl) (by simp) ?_
        refine AllReadyH.cons (o := _) (by simp only [List.getElem?_toArray, List.getElem?_cons_succ, List.getElem?_cons_zero]; rfl) (fun K hK => ?_) AllReadyH.nil
        go_simp
        go_at_call 27
        refine Calls.mono (round27 _ t d) ?_
        rintro e w5 ⟨rfl, hb5⟩
        have hB5 : Below w4.heap.size w4 w5 := (Below.refl _ _).drew.trans hb5
        have HB5 := Lib.hid hB5
        have hk5 : ∀ {b o : Nat} {u : Value}, w4.cell? ⟨b, o, none⟩ = some u → w5.cell? ⟨b, o, none⟩ = some u := fun h => (hB5.cell (p := ⟨_, _, none⟩) (World.block_lt_of_cell? w4 _ h)).trans h
        clear hb5 hB5
        go_simp
        refine hK.out _ _ (by exact ⟨hk5 k1, hk5 k2⟩) (fun hHeld => ?_)
        clear hK K
        try simp only [Act.put, List.setIfInBounds_toArray, List.set_cons_zero, List.set_cons_succ]
        refine wpAnyH_ready (rs := [7]) (by kernel_rfl) (by simp) ?_
        refine AllReadyH.cons (o := _) (by simp only [List.getElem?_toArray, List.getElem?_cons_succ, List.getElem?_cons_zero]; rfl) (fun K hK => ?_) AllReadyH.nil
        go_simp
        go_at_call 27
        refine Calls.mono (round27 _ now delta) ?_
        rintro e w6 ⟨rfl, hb6⟩
        have hB6 : Below w4.heap.size w4 w6 := HB5.out.trans (hb6.mono HB5.out.size)
        have HB6 := Lib.hid hB6
        have hk6 : ∀ {b o : Nat} {u : Value}, w4.cell? ⟨b, o, none⟩ = some u → w6.cell? ⟨b, o, none⟩ = some u := fun h => (hB6.cell (p := ⟨_, _, none⟩) (World.block_lt_of_cell? w4 _ h)).trans h
        clear hb6 hB6
        go_simp
        refine hK.out _ _ (by exact ⟨hk6 k1, hk6 k2⟩) (fun hHeld => ?_)
        clear hK K
        try simp only [Act.put, List.setIfInBounds_toArray, List.set_cons_zero, List.set_cons_succ]
        refine wpAnyH_ready (rs := [8]) (by kernel_rfl) (by simp) ?_
        refine AllReadyH.cons (o := _) (by simp only [List.getElem?_toArray, List.getElem?_cons_succ, List.getElem?_cons_zero]; rfl) (fun K hK => ?_) AllReadyH.nil
        go_simp
        go_at_call 26
        refine Calls.mono (compare26 _ ⟨t, d, 0⟩ ⟨now, delta, 0⟩) ?_
        rintro e w7 ⟨rfl, hb7⟩
        rw [← HCc.out]
        have hB7 : Below w4.heap.size w4 w7 := HB6.out.trans (hb7.mono HB6.out.size)
        have HB7 := Lib.hid hB7
        have hk7 : ∀ {b o : Nat} {u : Value}, w4.cell? ⟨b, o, none⟩ = some u → w7.cell? ⟨b, o, none⟩ = some u := fun h => (hB7.cell (p := ⟨_, _, none⟩) (World.block_lt_of_cell? w4 _ h)).trans h
        clear hb7 hB7
        go_simp
        refine hK.out _ _ (by exact ⟨hk7 k1, hk7 k2⟩) (fun hHeld => ?_)
        clear hK K
        try simp only [Act.put, List.setIfInBounds_toArray, List.set_cons_zero, List.set_cons_succ]
        refine wpAnyH_take (i := 9) (v := ?_) (by simp only [List.getElem?_toArray, List.getElem?_cons_succ, List.getElem?_cons_zero]; rfl) (by kernel_rfl) (by kernel_rfl) (by kernel_rfl) (by intro _ _ _ h; exact h) (Or.inl ⟨by rfl, ?_⟩) (by assumption) ?_
        rotate_left
        · intro w hSw; (try dsimp only at hSw); go_simp; try with_reducible rfl
        try simp only [Act.put, List.setIfInBounds_toArray, List.set_cons_zero, List.set_cons_succ]
        refine wpAnyH_take (i := 10) (v := ?_) (by simp only [List.getElem?_toArray, List.getElem?_cons_succ, List.getElem?_cons_zero]; rfl) (by kernel_rfl) (by kernel_rfl) (by kernel_rfl) (by intro _ _ _ h; exact h) (Or.inl ⟨by rfl, ?_⟩) (by assumption) ?_
        rotate_left
        · intro w hSw; (try dsimp only at hSw); go_simp; try with_reducible rfl
        try simp only [Act.put, List.setIfInBounds_toArray, List.set_cons_zero, List.set_cons_succ]
        refine wpAnyH_done (by kernel_rfl) ?_ _
        cases gb
        · have HPE : Hid (pushE now delta next l t d sig = 0) := Lib.hid (HEr.out 0 (by rw [← HLw.out, HNx.out, ← HGb.out]; rfl))
          have hb7 := HB7.out
          have hlt' : H + 1 < w4.heap.size := World.block_lt_of_cell? w4 _ z0
          have k0 := (hb7.cell (p := ⟨H, 0, none⟩) (by simp only; omega)).trans k0
          have k1 := (hb7.cell (p := ⟨H, 1, none⟩) (by simp only; omega)).trans k1
          have k2 := (hb7.cell (p := ⟨H, 2, none⟩) (by simp only; omega)).trans k2
          have k3 := (hb7.cell (p := ⟨H, 3, none⟩) (by simp only; omega)).trans k3
          have z0 := (hb7.cell (p := ⟨H + 1, 0, none⟩) hlt').trans z0
          have z1 := (hb7.cell (p := ⟨H + 1, 1, none⟩) hlt').trans z1
          have z2 := (hb7.cell (p := ⟨H + 1, 2, none⟩) hlt').trans z2
          have z3 := (hb7.cell (p := ⟨H + 1, 3, none⟩) hlt').trans z3
          have f0 := (hb7.frozen (p := ⟨H + 1, 0, none⟩) hlt').trans f0
          have f1 := (hb7.frozen (p := ⟨H + 1, 1, none⟩) hlt').trans f1
          have f2 := (hb7.frozen (p := ⟨H + 1, 2, none⟩) hlt').trans f2
          have f3 := (hb7.frozen (p := ⟨H + 1, 3, none⟩) hlt').trans f3
          have HX7 := Lib.hid (HX4.out.trans (hb7.mono HX4.out.size))
          have hlen : ((n : Int) == 65536) = false := by simp; omega
          obtain ⟨w8, hw8⟩ : ∃ W, W = w7.alloc (Obj.cells #[Value.int .i64 t, Value.int .i64 d, Value.int .i64 next, Value.int .i64 sig, Value.int .u64 v] 35) := ⟨_, rfl⟩
          obtain ⟨b8, hb8⟩ : ∃ b, b = w7.heap.size := ⟨_, rfl⟩
          have x0 : w8.cell? ⟨b8, 0, none⟩ = some (.int .i64 t) := by rw [hw8, hb8]; simp
          have x1 : w8.cell? ⟨b8, 1, none⟩ = some (.int .i64 d) := by rw [hw8, hb8]; simp
          have x2 : w8.cell? ⟨b8, 2, none⟩ = some (.int .i64 next) := by rw [hw8, hb8]; simp
          have x3 : w8.cell? ⟨b8, 3, none⟩ = some (.int .i64 sig) := by rw [hw8, hb8]; simp
          have x4 : w8.cell? ⟨b8, 4, none⟩ = some (.int .u64 v) := by rw [hw8, hb8]; simp
          have hB8 : Below w7.heap.size w7 w8 := by rw [hw8]; exact (Below.refl _ _).alloc (Nat.le_refl _) _
          have HW8 := Lib.hid hw8
          have HB8e := Lib.hid hb8
          have HB8g : Hid (H + 1 < b8) := Lib.hid (by rw [hb8]; exact World.block_lt_of_cell? w7 _ z0)
          have HX := Lib.hid (And.intro x0 (And.intro x1 (And.intro x2 (And.intro x3 x4))))
          have HB8 := Lib.hid hB8
          clear hk5 hk6 hk7 hb7 hlt' hw8 hb8 x0 x1 x2 x3 x4 hB8
          go_wp2_with fail
          rw [← HW8.out, ← HB8e.out]
          obtain ⟨x0, x1, x2, x3, x4⟩ := HX.out
          have hb8 := HB8.out
          have hlt' : H + 1 < w7.heap.size := World.block_lt_of_cell? w7 _ z0
          have k0 := (hb8.cell (p := ⟨H, 0, none⟩) (by simp only; omega)).trans k0
          have k1 := (hb8.cell (p := ⟨H, 1, none⟩) (by simp only; omega)).trans k1
          have k2 := (hb8.cell (p := ⟨H, 2, none⟩) (by simp only; omega)).trans k2
          have k3 := (hb8.cell (p := ⟨H, 3, none⟩) (by simp only; omega)).trans k3
          have z0 := (hb8.cell (p := ⟨H + 1, 0, none⟩) hlt').trans z0
          have z1 := (hb8.cell (p := ⟨H + 1, 1, none⟩) hlt').trans z1
          have z2 := (hb8.cell (p := ⟨H + 1, 2, none⟩) hlt').trans z2
          have z3 := (hb8.cell (p := ⟨H + 1, 3, none⟩) hlt').trans z3
          have f0 := (hb8.frozen (p := ⟨H + 1, 0, none⟩) hlt').trans f0
          have f1 := (hb8.frozen (p := ⟨H + 1, 1, none⟩) hlt').trans f1
          have f2 := (hb8.frozen (p := ⟨H + 1, 2, none⟩) hlt').trans f2
          have f3 := (hb8.frozen (p := ⟨H + 1, 3, none⟩) hlt').trans f3
          have HX8 := Lib.hid (HX7.out.trans (hb8.mono HX7.out.size))
          clear hb8 hlt'
          obtain ⟨po, hpo⟩ : ∃ p, p = posL l ⟨t, d, next⟩ := ⟨_, rfl⟩
          have HPo := Lib.hid hpo
          clear hpo
          refine wp_region_held_drew (S := fun w' => w'.cell? ⟨H, 0, none⟩ = some (.slice a n c) ∧ w'.cell? ⟨b8, 0, none⟩ = some (.int .i64 t) ∧ w'.cell? ⟨b8, 1, none⟩ = some (.int .i64 d) ∧ w'.cell? ⟨b8, 2, none⟩ = some (.int .i64 next) ∧ w'.cell? ⟨b8, 3, none⟩ = some (.int .i64 sig) ∧ w'.cell? ⟨b8, 4, none⟩ = some (.int .u64 v)) (by kernel_rfl) (⟨k0, x0, x1, x2, x3, x4⟩) (fun hHeld => ?_)
          refine wpAnyH_take (i := 0) (v := ?_) (by simp only [List.getElem?_toArray, List.getElem?_cons_succ, List.getElem?_cons_zero]; rfl) (by kernel_rfl) (by kernel_rfl) (by kernel_rfl) (by intro _ _ _ h; exact h) (Or.inl ⟨by rfl, ?_⟩) (by assumption) ?_
          rotate_left
          · intro w hSw; (try dsimp only at hSw); go_simp; try with_reducible rfl
          try simp only [Act.put, List.setIfInBounds_toArray, List.set_cons_zero, List.set_cons_succ]
          refine wpAnyH_take (i := 1) (v := ?_) (by simp only [List.getElem?_toArray, List.getElem?_cons_succ, List.getElem?_cons_zero]; rfl) (by kernel_rfl) (by kernel_rfl) (by kernel_rfl) (by intro _ _ _ h; exact h) (Or.inl ⟨by rfl, ?_⟩) (by assumption) ?_
          rotate_left
          · intro w hSw; (try dsimp only at hSw); go_simp; try with_reducible rfl
          try simp only [Act.put, List.setIfInBounds_toArray, List.set_cons_zero, List.set_cons_succ]
          refine wpAnyH_take (i := 2) (v := ?_) (by simp only [List.getElem?_toArray, List.getElem?_cons_succ, List.getElem?_cons_zero]; rfl) (by kernel_rfl) (by kernel_rfl) (by kernel_rfl) (by intro _ _ _ h; exact h) (Or.inl ⟨by rfl, ?_⟩) (by assumption) ?_
          rotate_left
          · intro w hSw; (try dsimp only at hSw); go_simp; try with_reducible rfl
          try simp only [Act.put, List.setIfInBounds_toArray, List.set_cons_zero, List.set_cons_succ]
          refine wpAnyH_ready (rs := [3]) (by kernel_rfl) (by simp) ?_
          refine AllReadyH.cons (o := _) (by simp only [List.getElem?_toArray, List.getElem?_cons_succ, List.getElem?_cons_zero]; rfl) (fun K hK => ?_) AllReadyH.nil
          go_simp
          go_at_call 29
          refine Calls.mono (of29 _ ⟨t, d, next, sig, v⟩) ?_
          rintro e w9 ⟨rfl, hb9⟩
          have hB9 : Below w8.heap.size w8 w9 := (Below.refl _ _).drew.trans hb9
          have HB9 := Lib.hid hB9
          have hk9 : ∀ {b o : Nat} {u : Value}, w8.cell? ⟨b, o, none⟩ = some u → w9.cell? ⟨b, o, none⟩ = some u := fun h => (hB9.cell (p := ⟨_, _, none⟩) (World.block_lt_of_cell? w8 _ h)).trans h
          clear hb9 hB9
          go_simp
          refine hK.out _ _ (by exact ⟨hk9 k0, hk9 x0, hk9 x1, hk9 x2, hk9 x3, hk9 x4⟩) (fun hHeld => ?_)
          clear hK K
          try simp only [Act.put, List.setIfInBounds_toArray, List.set_cons_zero, List.set_cons_succ]
          refine wpAnyH_ready (rs := [4]) (by kernel_rfl) (by simp) ?_
          refine AllReadyH.cons (o := _) (by simp only [List.getElem?_toArray, List.getElem?_cons_succ, List.getElem?_cons_zero]; rfl) (fun K hK => ?_) AllReadyH.nil
          go_simp
          go_at_call 28
          refine Calls.mono (search28 w9 a n c l ⟨t, d, next⟩ HN.out (HLA.out.below (HX8.out.trans (HB9.out.mono HX8.out.size)) (Nat.le_refl _)) h9 HSo.out) ?_
          rintro e w10 ⟨fo, rfl, hb10⟩
          rw [← HPo.out]
          have hB10 : Below w8.heap.size w8 w10 := HB9.out.trans (hb10.mono HB9.out.size)
          have HB10 := Lib.hid hB10
          have hk10 : ∀ {b o : Nat} {u : Value}, w8.cell? ⟨b, o, none⟩ = some u → w10.cell? ⟨b, o, none⟩ = some u := fun h => (hB10.cell (p := ⟨_, _, none⟩) (World.block_lt_of_cell? w8 _ h)).trans h
          clear hb10 hB10
          go_simp
          refine hK.out _ _ (by exact ⟨hk10 k0, hk10 x0, hk10 x1, hk10 x2, hk10 x3, hk10 x4⟩) (fun hHeld => ?_)
          clear hK K
          try simp only [Act.put, List.setIfInBounds_toArray, List.set_cons_zero, List.set_cons_succ]
          refine wpAnyH_take (i := 5) (v := ?_) (by simp only [List.getElem?_toArray, List.getElem?_cons_succ, List.getElem?_cons_zero]; rfl) (by kernel_rfl) (by kernel_rfl) (by kernel_rfl) (by intro _ _ _ h; exact h) (Or.inl ⟨by rfl, ?_⟩) (by assumption) ?_
          rotate_left
          · intro w hSw; (try dsimp only at hSw); go_simp; try with_reducible rfl
          try simp only [Act.put, List.setIfInBounds_toArray, List.set_cons_zero, List.set_cons_succ]
          refine wpAnyH_take (i := 6) (v := ?_) (by simp only [List.getElem?_toArray, List.getElem?_cons_succ, List.getElem?_cons_zero]; rfl) (by kernel_rfl) (by kernel_rfl) (by kernel_rfl) (by intro _ _ _ h; exact h) (Or.inl ⟨by rfl, ?_⟩) (by assumption) ?_
          rotate_left
          · intro w hSw; (try dsimp only at hSw); go_simp; try with_reducible rfl
          try simp only [Act.put, List.setIfInBounds_toArray, List.set_cons_zero, List.set_cons_succ]
          refine wpAnyH_take (i := 7) (v := ?_) (by simp only [List.getElem?_toArray, List.getElem?_cons_succ, List.getElem?_cons_zero]; rfl) (by kernel_rfl) (by kernel_rfl) (by kernel_rfl) (by intro _ _ _ h; exact h) (Or.inl ⟨by rfl, ?_⟩) (by assumption) ?_
          rotate_left
          · intro w hSw; (try dsimp only at hSw); go_simp; try with_reducible rfl
          try simp only [Act.put, List.setIfInBounds_toArray, List.set_cons_zero, List.set_cons_succ]
          refine wpAnyH_take (i := 8) (v := ?_) (by simp only [List.getElem?_toArray, List.getElem?_cons_succ, List.getElem?_cons_zero]; rfl) (by kernel_rfl) (by kernel_rfl) (by kernel_rfl) (by intro _ _ _ h; exact h) (Or.inl ⟨by rfl, ?_⟩) (by assumption) ?_
          rotate_left
          · intro w hSw; (try dsimp only at hSw); go_simp; try with_reducible rfl
          try simp only [Act.put, List.setIfInBounds_toArray, List.set_cons_zero, List.set_cons_succ]
          refine wpAnyH_take (i := 9) (v := ?_) (by simp only [List.getElem?_toArray, List.getElem?_cons_succ, List.getElem?_cons_zero]; rfl) (by kernel_rfl) (by kernel_rfl) (by kernel_rfl) (by intro _ _ _ h; exact h) (Or.inl ⟨by rfl, ?_⟩) (by assumption) ?_
          rotate_left
          · intro w hSw; (try dsimp only at hSw); go_simp; try with_reducible rfl
          try simp only [Act.put, List.setIfInBounds_toArray, List.set_cons_zero, List.set_cons_succ]
          refine wpAnyH_done (by kernel_rfl) ?_ _
          have hb10 := HB10.out
          have hlt' : H + 1 < w8.heap.size := World.block_lt_of_cell? w8 _ z0
          have k0 := (hb10.cell (p := ⟨H, 0, none⟩) (by simp only; omega)).trans k0
          have k1 := (hb10.cell (p := ⟨H, 1, none⟩) (by simp only; omega)).trans k1
          have k2 := (hb10.cell (p := ⟨H, 2, none⟩) (by simp only; omega)).trans k2
          have k3 := (hb10.cell (p := ⟨H, 3, none⟩) (by simp only; omega)).trans k3
          have z0 := (hb10.cell (p := ⟨H + 1, 0, none⟩) hlt').trans z0
          have z1 := (hb10.cell (p := ⟨H + 1, 1, none⟩) hlt').trans z1
          have z2 := (hb10.cell (p := ⟨H + 1, 2, none⟩) hlt').trans z2
          have z3 := (hb10.cell (p := ⟨H + 1, 3, none⟩) hlt').trans z3
          have f0 := (hb10.frozen (p := ⟨H + 1, 0, none⟩) hlt').trans f0
          have f1 := (hb10.frozen (p := ⟨H + 1, 1, none⟩) hlt').trans f1
          have f2 := (hb10.frozen (p := ⟨H + 1, 2, none⟩) hlt').trans f2
          have f3 := (hb10.frozen (p := ⟨H + 1, 3, none⟩) hlt').trans f3
          have HX10 := Lib.hid (HX8.out.trans (hb10.mono HX8.out.size))
          have x0 := hk10 x0
          have x1 := hk10 x1
          have x2 := hk10 x2
          have x3 := hk10 x3
          have x4 := hk10 x4
          clear hk9 hk10 hb10 hlt' HB9
          have hb8l : b8 < w10.heap.size := World.block_lt_of_cell? w10 _ x0
          have hb8H : H + 1 < b8 := by have := HB8g.out; omega
          obtain ⟨w11, hw11⟩ : ∃ W, W = ((((w10.setCell ⟨H + 1, 0, none⟩ (.slice a n c)).setCell ⟨H + 1, 1, none⟩ (.int .i64 now)).setCell ⟨H + 1, 2, none⟩ (.int .i64 delta)).setCell ⟨H + 1, 3, none⟩ (.int .i64 next)) := ⟨_, rfl⟩
          have HX11 : Hid (Below w.heap.size w w11) := Lib.hid (by
            rw [hw11]
            refine (((HX10.out.setCell ?_ _).setCell ?_ _).setCell ?_ _).setCell ?_ _
            all_goals (have := HHw.out; simp only; omega))
          have y0 : w11.cell? ⟨H + 1, 0, none⟩ = some (.slice a n c) := by rw [hw11]; exact set_keep (set_keep (set_keep (cell?_set_own z0) (by decide)) (by decide)) (by decide)
          have y1 : w11.cell? ⟨H + 1, 1, none⟩ = some (.int .i64 now) := by rw [hw11]; exact set_keep (set_keep (cell?_set_own (set_keep z1 (by decide))) (by decide)) (by decide)
          have y2 : w11.cell? ⟨H + 1, 2, none⟩ = some (.int .i64 delta) := by rw [hw11]; exact set_keep (cell?_set_own (set_keep (set_keep z2 (by decide)) (by decide))) (by decide)
          have y3 : w11.cell? ⟨H + 1, 3, none⟩ = some (.int .i64 next) := by rw [hw11]; exact cell?_set_own (set_keep (set_keep (set_keep z3 (by decide)) (by decide)) (by decide))
          have yfar : ∀ {b o : Nat} {u : Value}, b ≠ H + 1 → w10.cell? ⟨b, o, none⟩ = some u → w11.cell? ⟨b, o, none⟩ = some u := fun hne h => by rw [hw11]; exact far (far (far (far h hne) hne) hne) hne
          have yf : ∀ i f, w10.frozen? ⟨H + 1, i, none⟩ = f → w11.frozen? ⟨H + 1, i, none⟩ = f := fun i f h => by rw [hw11, set_frozen, set_frozen, set_frozen, set_frozen]; exact h
          have HY := Lib.hid (And.intro (yfar (by omega) k0) (And.intro (yfar (by omega) x0) (And.intro (yfar (by omega) x1) (And.intro (yfar (by omega) x2) (And.intro (yfar (by omega) x3) (yfar (by omega) x4))))))
          have HYY := Lib.hid (And.intro y0 (And.intro y1 (And.intro y2 y3)))
          have HYF := Lib.hid (And.intro (yf 0 _ f0) (And.intro (yf 1 _ f1) (And.intro (yf 2 _ f2) (yf 3 _ f3))))
          have HLW : Hid (∀ W, Below w11.heap.size w11 W → LAt W a l) := Lib.hid (fun W hW => HLA.out.below (HX11.out.trans (hW.mono HX11.out.size)) (Nat.le_refl _))
          have HPn : Hid (po ≤ n) := Lib.hid (by rw [HPo.out, ← HN.out]; exact posL_le l _)
          have HW11 := Lib.hid hw11
          clear y0 y1 y2 y3 yfar yf hw11
          go_wp2_with fail
          rw [← HW11.out]
          obtain ⟨k0', x0', x1', x2', x3', x4'⟩ := HY.out
          obtain ⟨z0', z1', z2', z3'⟩ := HYY.out
          obtain ⟨f0', f1', f2', f3'⟩ := HYF.out
          clear k0 k1 k2 k3 x0 x1 x2 x3 x4 z0 z1 z2 z3 f0 f1 f2 f3
          have k0 := k0'
          have x0 := x0'
          have x1 := x1'
          have x2 := x2'
          have x3 := x3'
          have x4 := x4'
          have z0 := z0'
          have z1 := z1'
          have z2 := z2'
          have z3 := z3'
          have f0 := f0'
          have f1 := f1'
          have f2 := f2'
          have f3 := f3'
          clear k0' x0' x1' x2' x3' x4' z0' z1' z2' z3' f0' f1' f2' f3'
          have k1 := trivial
          have k2 := trivial
          have k3 := trivial
          refine wp_region_K (S := fun w' => w'.cell? ⟨H, 0, none⟩ = some (.slice a n c) ∧ w'.cell? ⟨b8, 0, none⟩ = some (.int .i64 t) ∧ w'.cell? ⟨b8, 1, none⟩ = some (.int .i64 d) ∧ w'.cell? ⟨b8, 2, none⟩ = some (.int .i64 next) ∧ w'.cell? ⟨b8, 3, none⟩ = some (.int .i64 sig) ∧ w'.cell? ⟨b8, 4, none⟩ = some (.int .u64 v)) 8 (by kernel_rfl) (⟨k0, x0, x1, x2, x3, x4⟩) (fun hHeld => ?_)
          refine wpAnyK_take (i := 0) (v := ?_) (by simp only [List.getElem?_toArray, List.getElem?_cons_succ, List.getElem?_cons_zero]; rfl) (by kernel_rfl) (by kernel_rfl) (by kernel_rfl) (by kernel_rfl) (by intro _ _ _ h; exact h) (Or.inl ⟨by rfl, ?_⟩) (by assumption) ?_
          rotate_left
          · intro w hSw; (try dsimp only at hSw); go_simp; try with_reducible rfl
          try simp only [Act.put, List.setIfInBounds_toArray, List.set_cons_zero, List.set_cons_succ]
          refine wpAnyK_take (i := 1) (v := ?_) (by simp only [List.getElem?_toArray, List.getElem?_cons_succ, List.getElem?_cons_zero]; rfl) (by kernel_rfl) (by kernel_rfl) (by kernel_rfl) (by kernel_rfl) (by intro _ _ _ h; exact h) (Or.inl ⟨by rfl, ?_⟩) (by assumption) ?_
          rotate_left
          · intro w hSw; (try dsimp only at hSw); go_simp; try with_reducible rfl
          try simp only [Act.put, List.setIfInBounds_toArray, List.set_cons_zero, List.set_cons_succ]
          refine wpAnyK_take (i := 3) (v := ?_) (by simp only [List.getElem?_toArray, List.getElem?_cons_succ, List.getElem?_cons_zero]; rfl) (by kernel_rfl) (by kernel_rfl) (by kernel_rfl) (by kernel_rfl) (by intro _ _ _ h; exact h) (Or.inl ⟨by rfl, ?_⟩) (by assumption) ?_
          rotate_left
          · intro w hSw; (try dsimp only at hSw); go_simp; try with_reducible rfl
          try simp only [Act.put, List.setIfInBounds_toArray, List.set_cons_zero, List.set_cons_succ]
          refine wpAnyK_take (i := 4) (v := ?_) (by simp only [List.getElem?_toArray, List.getElem?_cons_succ, List.getElem?_cons_zero]; rfl) (by kernel_rfl) (by kernel_rfl) (by kernel_rfl) (by kernel_rfl) (by intro _ _ _ h; exact h) (Or.inl ⟨by rfl, ?_⟩) (by assumption) ?_
          rotate_left
          · intro w hSw; (try dsimp only at hSw); go_simp; try with_reducible rfl
          try simp only [Act.put, List.setIfInBounds_toArray, List.set_cons_zero, List.set_cons_succ]
          refine wpAnyK_ready (rs := [2, 5]) (by kernel_rfl) (by simp) ?_
          refine AllReadyK.cons (o := _) (by simp only [List.getElem?_toArray, List.getElem?_cons_succ, List.getElem?_cons_zero]; rfl) (fun K hK => ?_) (AllReadyK.cons (o := _) (by simp only [List.getElem?_toArray, List.getElem?_cons_succ, List.getElem?_cons_zero]; rfl) (fun K hK => ?_) AllReadyK.nil)
          · go_simp
            go_at_call 32
            refine Calls.mono (clone32 (w11.drew) a n c l HN.out (by omega) (HLW.out _ (Below.refl _ _).drew)) ?_
            rintro e wc ⟨vc, rfl, howc, hbc⟩
            have hBc : Below w11.heap.size w11 wc := (Below.refl _ _).drew.trans (hbc.mono (Nat.le_refl _))
            have hkc : ∀ {b o : Nat} {u : Value}, w11.cell? ⟨b, o, none⟩ = some u → wc.cell? ⟨b, o, none⟩ = some u := fun h => (hBc.cell (p := ⟨_, _, none⟩) (World.block_lt_of_cell? w11 _ h)).trans h
            go_simp
            refine hK.out _ _ (fun _ => by exact ⟨hkc k0, hkc x0, hkc x1, hkc x2, hkc x3, hkc x4⟩) (fun hH => ?_)
            have hHeld := hH (by decide)
            clear hK K hH
            try simp only [Act.put, List.setIfInBounds_toArray, List.set_cons_zero, List.set_cons_succ]
            refine wpAnyK_ready (rs := [5]) (by kernel_rfl) (by simp) ?_
            refine AllReadyK.cons (o := _) (by simp only [List.getElem?_toArray, List.getElem?_cons_succ, List.getElem?_cons_zero]; rfl) (fun K hK => ?_) AllReadyK.nil
            go_simp

            refine hK.out _ _ (fun _ => by exact ⟨cell_alloc _ (hkc k0), cell_alloc _ (hkc x0), cell_alloc _ (hkc x1), cell_alloc _ (hkc x2), cell_alloc _ (hkc x3), cell_alloc _ (hkc x4)⟩) (fun hH => ?_)
            have hHeld := hH (by decide)
            clear hK K hH
            try simp only [Act.put, List.setIfInBounds_toArray, List.set_cons_zero, List.set_cons_succ]
            refine wpAnyK_ready (rs := [6]) (by kernel_rfl) (by simp) ?_
            refine AllReadyK.cons (o := _) (by simp only [List.getElem?_toArray, List.getElem?_cons_succ, List.getElem?_cons_zero]; rfl) (fun K hK => ?_) AllReadyK.nil
            go_simp
            go_at_call 31
            have hbw : w11.heap.size ≤ wc.heap.size := hBc.size
            have hown2 : (wc.alloc (Obj.cells #[Value.int .i64 t, Value.int .i64 d, Value.int .i64 next, Value.int .i64 sig, Value.int .u64 v] 35)).ownsRow w11.heap.size 35 5 vc n (l.flatMap EvV.cells) := howc.alloc _
            have hvb2 : vc.ownBlock ≠ some wc.heap.size := fun e => by have := (howc.lt _ e).2; omega
            refine Calls.mono (insert31 (wc.alloc (Obj.cells #[Value.int .i64 t, Value.int .i64 d, Value.int .i64 next, Value.int .i64 sig, Value.int .u64 v] 35)) w11.heap.size (by simp; omega) vc n po HPn.out (by omega) l HN.out hown2 ⟨t, d, next, sig, v⟩ wc.heap.size hvb2 (alloc_top wc _)) ?_
            rintro e wi ⟨g, cap, rfl, hcap, hgb, hgl, hcells, hbi⟩
            have hBi : Below w11.heap.size w11 wi := (hBc.alloc hbw _).trans hbi
            have HBi := Lib.hid hBi
            have hki : ∀ {b o : Nat} {u : Value}, w11.cell? ⟨b, o, none⟩ = some u → wi.cell? ⟨b, o, none⟩ = some u := fun h => (hBi.cell (p := ⟨_, _, none⟩) (World.block_lt_of_cell? w11 _ h)).trans h
            have HCells := Lib.hid hcells
            have hH1 : H + 1 < w11.heap.size := World.block_lt_of_cell? w11 _ z0
            have z0 := hki z0
            have z1 := hki z1
            have z2 := hki z2
            have z3 := hki z3
            have f0 : wi.frozen? ⟨H + 1, 0, none⟩ = false := (hBi.frozen (p := ⟨H + 1, 0, none⟩) hH1).trans f0
            have f1 : wi.frozen? ⟨H + 1, 1, none⟩ = false := (hBi.frozen (p := ⟨H + 1, 1, none⟩) hH1).trans f1
            have f2 : wi.frozen? ⟨H + 1, 2, none⟩ = false := (hBi.frozen (p := ⟨H + 1, 2, none⟩) hH1).trans f2
            have f3 : wi.frozen? ⟨H + 1, 3, none⟩ = false := (hBi.frozen (p := ⟨H + 1, 3, none⟩) hH1).trans f3
            clear hcells hbi hBi hbc hBc howc hkc hown2 hvb2 
            go_simp
            refine hK.out _ _ (fun _ => by exact ⟨hki k0, hki x0, hki x1, hki x2, hki x3, hki x4⟩) (fun hH => ?_)
            have hHeld := hH (by decide)
            clear hK K hH
            try simp only [Act.put, List.setIfInBounds_toArray, List.set_cons_zero, List.set_cons_succ]
            refine wpAnyK_take (i := 7) (v := ?_) (by simp only [List.getElem?_toArray, List.getElem?_cons_succ, List.getElem?_cons_zero]; rfl) (by kernel_rfl) (by kernel_rfl) (by kernel_rfl) (by kernel_rfl) (by intro _ _ _ h; exact h) (Or.inl ⟨by rfl, ?_⟩) (by assumption) ?_
            rotate_left
            · intro w hSw; (try dsimp only at hSw); go_simp; try with_reducible rfl
            try simp only [Act.put, List.setIfInBounds_toArray, List.set_cons_zero, List.set_cons_succ]
            refine wpAnyK_ready (rs := [8]) (by kernel_rfl) (by simp) ?_
            refine AllReadyK.cons (o := _) (by simp only [List.getElem?_toArray, List.getElem?_cons_succ, List.getElem?_cons_zero]; rfl) (fun K hK => ?_) AllReadyK.nil
            go_simp

            refine hK.out _ _ (fun h => absurd rfl h) (fun _ => ?_)
            clear hK K
            try simp only [Act.put, List.setIfInBounds_toArray, List.set_cons_zero, List.set_cons_succ]
            refine wpAnyK_done (by kernel_rfl) ?_ _
            clear hki k0 k1 k2 k3 x0 x1 x2 x3 x4
            go_wp2_with fail
            rw [HWr.out]
            have s0 : ((wi.setCell ⟨H + 1, 0, none⟩ (.slice (some ⟨g, 0, none⟩) (n + 1) cap)).setCell ⟨H + 1, 3, none⟩ (.int .i64 (next + 1))).cell? ⟨H + 1, 0, none⟩ = some (.slice (some ⟨g, 0, none⟩) (n + 1) cap) := set_keep (cell?_set_own z0) (by decide)
            have s1 : ((wi.setCell ⟨H + 1, 0, none⟩ (.slice (some ⟨g, 0, none⟩) (n + 1) cap)).setCell ⟨H + 1, 3, none⟩ (.int .i64 (next + 1))).cell? ⟨H + 1, 1, none⟩ = some (.int .i64 now) := set_keep (set_keep z1 (by decide)) (by decide)
            have s2 : ((wi.setCell ⟨H + 1, 0, none⟩ (.slice (some ⟨g, 0, none⟩) (n + 1) cap)).setCell ⟨H + 1, 3, none⟩ (.int .i64 (next + 1))).cell? ⟨H + 1, 2, none⟩ = some (.int .i64 delta) := set_keep (set_keep z2 (by decide)) (by decide)
            have s3 : ((wi.setCell ⟨H + 1, 0, none⟩ (.slice (some ⟨g, 0, none⟩) (n + 1) cap)).setCell ⟨H + 1, 3, none⟩ (.int .i64 (next + 1))).cell? ⟨H + 1, 3, none⟩ = some (.int .i64 (next + 1)) := cell?_set_own (set_keep z3 (by decide))
            refine bodyPost_ret (results_push (b := H + 1) rfl rfl (set_keep (set_keep (set_keep (cell?_set_own s0) (by decide)) (by decide)) (by decide)) (set_keep (set_keep (cell?_set_own (set_keep s1 (by decide))) (by decide)) (by decide)) (set_keep (cell?_set_own (set_keep (set_keep s2 (by decide)) (by decide))) (by decide)) (cell?_set_own (set_keep (set_keep (set_keep s3 (by decide)) (by decide)) (by decide)))) rfl ?_
            unfold Pushed
            rw [HPE.out, if_pos rfl]
            have hll : (pushL l ⟨t, d, next, sig, v⟩).length = n + 1 := by unfold pushL; rw [insL_length _ _ _ (by rw [HN.out, ← HPo.out]; exact HPn.out), HN.out]
            have hpo : pushL l ⟨t, d, next, sig, v⟩ = insL l po ⟨t, d, next, sig, v⟩ := by unfold pushL; rw [HPo.out]
            have hgH : g ≠ H + 1 := by omega
            refine ⟨some ⟨g, 0, none⟩, cap, by rw [hll], by rw [hll]; exact hcap, (fun p hp => by injection hp with hp; rw [← hp]; have := HX11.out.size; simp only; omega), ⟨?_, fun e he => ?_⟩, ?_⟩
            · refine seq5_of fun j u hj => ?_
              rw [hpo] at hj
              exact far (far (far (far (far (far (HCells.out j u hj) hgH) hgH) hgH) hgH) hgH) hgH
            · rw [hpo] at he
              unfold insL at he
              rcases List.mem_append.1 he with he | he
              · exact HLA.out.each e (List.mem_of_mem_take he)
              · rcases List.mem_cons.1 he with rfl | he
                · exact ⟨ht, hd, hN, hsi, hv⟩
                · exact HLA.out.each e (List.mem_of_mem_drop he)
            · refine ((((((HX11.out.trans (HBi.out.mono HX11.out.size)).setCell ?_ _).setCell ?_ _).setCell ?_ _).setCell ?_ _).setCell ?_ _).setCell ?_ _
              all_goals (have := HHw.out; simp only; omega)
          · go_simp

            refine hK.out _ _ (fun _ => by exact ⟨cell_alloc _ k0, cell_alloc _ x0, cell_alloc _ x1, cell_alloc _ x2, cell_alloc _ x3, cell_alloc _ x4⟩) (fun hH => ?_)
            have hHeld := hH (by decide)
            clear hK K hH
            try simp only [Act.put, List.setIfInBounds_toArray, List.set_cons_zero, List.set_cons_succ]
            refine wpAnyK_ready (rs := [2]) (by kernel_rfl) (by simp) ?_
            refine AllReadyK.cons (o := _) (by simp only [List.getElem?_toArray, List.getElem?_cons_succ, List.getElem?_cons_zero]; rfl) (fun K hK => ?_) AllReadyK.nil
            go_simp
            go_at_call 32
            refine Calls.mono (clone32 (w11.drew.alloc (Obj.cells #[Value.int .i64 t, Value.int .i64 d, Value.int .i64 next, Value.int .i64 sig, Value.int .u64 v] 35)) a n c l HN.out (by omega) (HLW.out _ ((Below.refl _ _).drew.alloc (Nat.le_refl _) _))) ?_
            rintro e wc ⟨vc, rfl, howc, hbc⟩
            have hBc : Below w11.heap.size w11 wc := ((Below.refl _ _).drew.alloc (Nat.le_refl _) _).trans (hbc.mono (by simp))
            have hkc : ∀ {b o : Nat} {u : Value}, w11.cell? ⟨b, o, none⟩ = some u → wc.cell? ⟨b, o, none⟩ = some u := fun h => (hBc.cell (p := ⟨_, _, none⟩) (World.block_lt_of_cell? w11 _ h)).trans h
            go_simp
            refine hK.out _ _ (fun _ => by exact ⟨hkc k0, hkc x0, hkc x1, hkc x2, hkc x3, hkc x4⟩) (fun hH => ?_)
            have hHeld := hH (by decide)
            clear hK K hH
            try simp only [Act.put, List.setIfInBounds_toArray, List.set_cons_zero, List.set_cons_succ]
            refine wpAnyK_ready (rs := [6]) (by kernel_rfl) (by simp) ?_
            refine AllReadyK.cons (o := _) (by simp only [List.getElem?_toArray, List.getElem?_cons_succ, List.getElem?_cons_zero]; rfl) (fun K hK => ?_) AllReadyK.nil
            go_simp
            go_at_call 31
            have hbw : w11.heap.size ≤ wc.heap.size := hBc.size
            have hown2 : wc.ownsRow w11.heap.size 35 5 vc n (l.flatMap EvV.cells) := howc.base_le (by simp)
            have hvb2 : vc.ownBlock ≠ some w11.heap.size := fun e => by have := (howc.lt _ e).1; simp at this; omega
            have hob2 : wc.heap[w11.heap.size]? = some (.cells #[Value.int .i64 t, Value.int .i64 d, Value.int .i64 next, Value.int .i64 sig, Value.int .u64 v] 35) := (hbc.block _ (by simp)).trans (alloc_top w11.drew _)
            refine Calls.mono (insert31 wc w11.heap.size hbw vc n po HPn.out (by omega) l HN.out hown2 ⟨t, d, next, sig, v⟩ w11.heap.size hvb2 hob2) ?_
            rintro e wi ⟨g, cap, rfl, hcap, hgb, hgl, hcells, hbi⟩
            have hBi : Below w11.heap.size w11 wi := hBc.trans hbi
            have HBi := Lib.hid hBi
            have hki : ∀ {b o : Nat} {u : Value}, w11.cell? ⟨b, o, none⟩ = some u → wi.cell? ⟨b, o, none⟩ = some u := fun h => (hBi.cell (p := ⟨_, _, none⟩) (World.block_lt_of_cell? w11 _ h)).trans h
            have HCells := Lib.hid hcells
            have hH1 : H + 1 < w11.heap.size := World.block_lt_of_cell? w11 _ z0
            have z0 := hki z0
            have z1 := hki z1
            have z2 := hki z2
            have z3 := hki z3
            have f0 : wi.frozen? ⟨H + 1, 0, none⟩ = false := (hBi.frozen (p := ⟨H + 1, 0, none⟩) hH1).trans f0
            have f1 : wi.frozen? ⟨H + 1, 1, none⟩ = false := (hBi.frozen (p := ⟨H + 1, 1, none⟩) hH1).trans f1
            have f2 : wi.frozen? ⟨H + 1, 2, none⟩ = false := (hBi.frozen (p := ⟨H + 1, 2, none⟩) hH1).trans f2
            have f3 : wi.frozen? ⟨H + 1, 3, none⟩ = false := (hBi.frozen (p := ⟨H + 1, 3, none⟩) hH1).trans f3
            clear hcells hbi hBi hbc hBc howc hkc hown2 hvb2 hob2
            go_simp
            refine hK.out _ _ (fun _ => by exact ⟨hki k0, hki x0, hki x1, hki x2, hki x3, hki x4⟩) (fun hH => ?_)
            have hHeld := hH (by decide)
            clear hK K hH
            try simp only [Act.put, List.setIfInBounds_toArray, List.set_cons_zero, List.set_cons_succ]
            refine wpAnyK_take (i := 7) (v := ?_) (by simp only [List.getElem?_toArray, List.getElem?_cons_succ, List.getElem?_cons_zero]; rfl) (by kernel_rfl) (by kernel_rfl) (by kernel_rfl) (by kernel_rfl) (by intro _ _ _ h; exact h) (Or.inl ⟨by rfl, ?_⟩) (by assumption) ?_
            rotate_left
            · intro w hSw; (try dsimp only at hSw); go_simp; try with_reducible rfl
            try simp only [Act.put, List.setIfInBounds_toArray, List.set_cons_zero, List.set_cons_succ]
            refine wpAnyK_ready (rs := [8]) (by kernel_rfl) (by simp) ?_
            refine AllReadyK.cons (o := _) (by simp only [List.getElem?_toArray, List.getElem?_cons_succ, List.getElem?_cons_zero]; rfl) (fun K hK => ?_) AllReadyK.nil
            go_simp

            refine hK.out _ _ (fun h => absurd rfl h) (fun _ => ?_)
            clear hK K
            try simp only [Act.put, List.setIfInBounds_toArray, List.set_cons_zero, List.set_cons_succ]
            refine wpAnyK_done (by kernel_rfl) ?_ _
            clear hki k0 k1 k2 k3 x0 x1 x2 x3 x4
            go_wp2_with fail
            rw [HWr.out]
            have s0 : ((wi.setCell ⟨H + 1, 0, none⟩ (.slice (some ⟨g, 0, none⟩) (n + 1) cap)).setCell ⟨H + 1, 3, none⟩ (.int .i64 (next + 1))).cell? ⟨H + 1, 0, none⟩ = some (.slice (some ⟨g, 0, none⟩) (n + 1) cap) := set_keep (cell?_set_own z0) (by decide)
            have s1 : ((wi.setCell ⟨H + 1, 0, none⟩ (.slice (some ⟨g, 0, none⟩) (n + 1) cap)).setCell ⟨H + 1, 3, none⟩ (.int .i64 (next + 1))).cell? ⟨H + 1, 1, none⟩ = some (.int .i64 now) := set_keep (set_keep z1 (by decide)) (by decide)
            have s2 : ((wi.setCell ⟨H + 1, 0, none⟩ (.slice (some ⟨g, 0, none⟩) (n + 1) cap)).setCell ⟨H + 1, 3, none⟩ (.int .i64 (next + 1))).cell? ⟨H + 1, 2, none⟩ = some (.int .i64 delta) := set_keep (set_keep z2 (by decide)) (by decide)
            have s3 : ((wi.setCell ⟨H + 1, 0, none⟩ (.slice (some ⟨g, 0, none⟩) (n + 1) cap)).setCell ⟨H + 1, 3, none⟩ (.int .i64 (next + 1))).cell? ⟨H + 1, 3, none⟩ = some (.int .i64 (next + 1)) := cell?_set_own (set_keep z3 (by decide))
            refine bodyPost_ret (results_push (b := H + 1) rfl rfl (set_keep (set_keep (set_keep (cell?_set_own s0) (by decide)) (by decide)) (by decide)) (set_keep (set_keep (cell?_set_own (set_keep s1 (by decide))) (by decide)) (by decide)) (set_keep (cell?_set_own (set_keep (set_keep s2 (by decide)) (by decide))) (by decide)) (cell?_set_own (set_keep (set_keep (set_keep s3 (by decide)) (by decide)) (by decide)))) rfl ?_
            unfold Pushed
            rw [HPE.out, if_pos rfl]
            have hll : (pushL l ⟨t, d, next, sig, v⟩).length = n + 1 := by unfold pushL; rw [insL_length _ _ _ (by rw [HN.out, ← HPo.out]; exact HPn.out), HN.out]
            have hpo : pushL l ⟨t, d, next, sig, v⟩ = insL l po ⟨t, d, next, sig, v⟩ := by unfold pushL; rw [HPo.out]
            have hgH : g ≠ H + 1 := by omega
            refine ⟨some ⟨g, 0, none⟩, cap, by rw [hll], by rw [hll]; exact hcap, (fun p hp => by injection hp with hp; rw [← hp]; have := HX11.out.size; simp only; omega), ⟨?_, fun e he => ?_⟩, ?_⟩
            · refine seq5_of fun j u hj => ?_
              rw [hpo] at hj
              exact far (far (far (far (far (far (HCells.out j u hj) hgH) hgH) hgH) hgH) hgH) hgH
            · rw [hpo] at he
              unfold insL at he
              rcases List.mem_append.1 he with he | he
              · exact HLA.out.each e (List.mem_of_mem_take he)
              · rcases List.mem_cons.1 he with rfl | he
                · exact ⟨ht, hd, hN, hsi, hv⟩
                · exact HLA.out.each e (List.mem_of_mem_drop he)
            · refine ((((((HX11.out.trans (HBi.out.mono HX11.out.size)).setCell ?_ _).setCell ?_ _).setCell ?_ _).setCell ?_ _).setCell ?_ _).setCell ?_ _
              all_goals (have := HHw.out; simp only; omega)
        · have hE140 : pushE now delta next l t d sig = 140 := HEr.out 140 (by rw [← HLw.out, HNx.out, ← HGb.out]; rfl)
          have HPE := Lib.hid hE140
          have hb7 := HB7.out
          have hlt' : H + 1 < w4.heap.size := World.block_lt_of_cell? w4 _ z0
          have k0 := (hb7.cell (p := ⟨H, 0, none⟩) (by simp only; omega)).trans k0
          have k1 := (hb7.cell (p := ⟨H, 1, none⟩) (by simp only; omega)).trans k1
          have k2 := (hb7.cell (p := ⟨H, 2, none⟩) (by simp only; omega)).trans k2
          have k3 := (hb7.cell (p := ⟨H, 3, none⟩) (by simp only; omega)).trans k3
          have z0 := (hb7.cell (p := ⟨H + 1, 0, none⟩) hlt').trans z0
          have z1 := (hb7.cell (p := ⟨H + 1, 1, none⟩) hlt').trans z1
          have z2 := (hb7.cell (p := ⟨H + 1, 2, none⟩) hlt').trans z2
          have z3 := (hb7.cell (p := ⟨H + 1, 3, none⟩) hlt').trans z3
          have f0 := (hb7.frozen (p := ⟨H + 1, 0, none⟩) hlt').trans f0
          have f1 := (hb7.frozen (p := ⟨H + 1, 1, none⟩) hlt').trans f1
          have f2 := (hb7.frozen (p := ⟨H + 1, 2, none⟩) hlt').trans f2
          have f3 := (hb7.frozen (p := ⟨H + 1, 3, none⟩) hlt').trans f3
          have HX7 := Lib.hid (HX4.out.trans (hb7.mono HX4.out.size))
          clear hk5 hk6 hk7 hb7 hlt' hE140
          go_wp2_with fail
          refine bodyPost_ret (results_push (b := H + 1) rfl rfl (set_keep (set_keep (set_keep (cell?_set_own z0) (by decide)) (by decide)) (by decide)) (set_keep (set_keep (cell?_set_own (set_keep z1 (by decide))) (by decide)) (by decide)) (set_keep (cell?_set_own (set_keep (set_keep z2 (by decide)) (by decide))) (by decide)) (cell?_set_own (set_keep (set_keep (set_keep z3 (by decide)) (by decide)) (by decide)))) rfl (pushed_err (HPE.out) (by omega) ?_)
          refine (((HX7.out.setCell (by have := HHw.out; simp only; omega) _).setCell (by have := HHw.out; simp only; omega) _).setCell (by have := HHw.out; simp only; omega) _).setCell (by have := HHw.out; simp only; omega) _
    · have HPE := Lib.hid (HEr.out 1 (by rw [← HLw.out, Bool.true_or]; rfl))
      go_wp2_with fail
      refine bodyPost_ret (results_push (b := H + 1) rfl rfl (set_keep (set_keep (set_keep (cell?_set_own z0) (by decide)) (by decide)) (by decide)) (set_keep (set_keep (cell?_set_own (set_keep z1 (by decide))) (by decide)) (by decide)) (set_keep (cell?_set_own (set_keep (set_keep z2 (by decide)) (by decide))) (by decide)) (cell?_set_own (set_keep (set_keep (set_keep z3 (by decide)) (by decide)) (by decide)))) rfl (pushed_err (HPE.out) (by omega) ?_)
      refine (((HX4.out.setCell (by have := HHw.out; simp only; omega) _).setCell (by have := HHw.out; simp only; omega) _).setCell (by have := HHw.out; simp only; omega) _).setCell (by have := HHw.out; simp only; omega) _
  · subst hc
    have HEr : Hid (pushE now delta next l t d sig = 1) := Lib.hid (by unfold pushE; rw [← HE.out, if_neg (by omega)])
    go_wp2_with fail
    refine bodyPost_ret (results_push (b := H + 1) rfl rfl (set_keep (set_keep (set_keep (cell?_set_own z0) (by decide)) (by decide)) (by decide)) (set_keep (set_keep (cell?_set_own (set_keep z1 (by decide))) (by decide)) (by decide)) (set_keep (cell?_set_own (set_keep (set_keep z2 (by decide)) (by decide))) (by decide)) (cell?_set_own (set_keep (set_keep (set_keep z3 (by decide)) (by decide)) (by decide)))) rfl (pushed_err (HEr.out) (by omega) ?_)
    refine (((HX2.out.setCell (by have := HHw.out; simp only; omega) _).setCell (by have := HHw.out; simp only; omega) _).setCell (by have := HHw.out; simp only; omega) _).setCell (by have := HHw.out; simp only; omega) _
end Go.Proofs.Ytbhbebidkeejbaa
