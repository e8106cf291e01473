/- Whether any queue may be (Check of the program). -/
import Derived.Test.YtbhbebidkeejbaaQ3
namespace Go.Proofs.Ytbhbebidkeejbaa
open Go.RowKit Go.Shelf
set_option linter.unusedVariables false
set_option linter.unusedSimpArgs false

def lastW (now delta : Int) (l : List EvV) : Nat → WhenV
  | 0 => ⟨now, delta, 0⟩
  | k + 1 => (l.getD k default).when
def bad13 (now delta next : Int) (l : List EvV) (i : Nat) : Bool :=
  lowB [(l.getD i default).t, (l.getD i default).d, (l.getD i default).sig, (l.getD i default).no] || decide (next ≤ (l.getD i default).no) || decide (0 < cmpW (lastW now delta l i) (l.getD i default).when) || (decide (0 < i) && (cmpW (lastW now delta l i) (l.getD i default).when == 0))
theorem lowB4 (a b c d : Int) : lowB [a, b, c, d] = false ↔ 0 ≤ a ∧ 0 ≤ b ∧ 0 ≤ c ∧ 0 ≤ d := by
  unfold lowB; simp
theorem goneB_iff (now delta t d : Int) : goneB now delta t d = true ↔ t < now ∨ (t = now ∧ d < delta) := by unfold goneB; simp
theorem badEv_gone {now delta next : Int} {l : List EvV} {i : Nat} (h : badEv now delta next l i = false) : goneB now delta (l.getD i default).t (l.getD i default).d = false := by
  unfold badEv at h
  simp only [Bool.or_eq_false_iff] at h
  exact h.1.2
theorem bad_same (now delta next : Int) (l : List EvV) (i : Nat) (hi : i < l.length) (h : ∀ j, j < i → badEv now delta next l j = false) : bad13 now delta next l i = badEv now delta next l i := by
  unfold bad13 badEv
  cases hl : lowB [(l.getD i default).t, (l.getD i default).d, (l.getD i default).sig, (l.getD i default).no] with
  | true => simp
  | false =>
    obtain ⟨_, _, _, hno⟩ := (lowB4 _ _ _ _).1 hl
    cases i with
    | zero =>
      have e : decide (0 < cmpW (lastW now delta l 0) (l.getD 0 default).when) = goneB now delta (l.getD 0 default).t (l.getD 0 default).d := by
        rw [Bool.eq_iff_iff, decide_eq_true_eq, goneB_iff]
        rcases cmpW_cases (lastW now delta l 0) (l.getD 0 default).when with ⟨h1, h2⟩ | ⟨h1, h2⟩ | ⟨h1, h2⟩ <;> rw [h2] <;> simp only [lastW, ltW] at h1 <;> omega
      rw [e]; simp
    | succ i =>
      have hg := badEv_gone (h i (by omega))
      have hg2 : ¬ goneB now delta (l.getD i default).t (l.getD i default).d = true := by rw [hg]; simp
      rw [goneB_iff] at hg2
      have ha := aheadB_iff (l.getD i default) (l.getD (i + 1) default)
      rw [Nat.add_sub_cancel, decide_eq_true (show 0 < i + 1 by omega)]
      have hls : lastW now delta l (i + 1) = (l.getD i default).when := rfl
      rw [hls]
      rcases cmpW_cases (l.getD i default).when (l.getD (i + 1) default).when with ⟨h1, h2⟩ | ⟨h1, h2⟩ | ⟨h1, h2⟩ <;> rw [h2]
      · have h3 := ha.2 h1
        have hg3 : goneB now delta (l.getD (i + 1) default).t (l.getD (i + 1) default).d = false := by
          cases hq : goneB now delta (l.getD (i + 1) default).t (l.getD (i + 1) default).d with
          | false => rfl
          | true =>
            rw [goneB_iff] at hq
            unfold ltW at h1
            dsimp only at h1
            omega
        rw [h3, hg3]; simp
      · have h3 : aheadB (l.getD i default) (l.getD (i + 1) default) = false := by
          cases hq : aheadB (l.getD i default) (l.getD (i + 1) default) with
          | false => rfl
          | true =>
            have := ha.1 hq
            unfold ltW at this
            omega
        rw [h3]; simp
      · have h3 : aheadB (l.getD i default) (l.getD (i + 1) default) = false := by
          cases hq : aheadB (l.getD i default) (l.getD (i + 1) default) with
          | false => rfl
          | true => exact absurd (ltW_trans (ha.1 hq) h1) (ltW_irrefl _)
        rw [h3]; simp
/-- The last event's when, in a block of its own. -/
structure Ck (b3 : Nat) (w4 wr : World) (u : WhenV) : Prop where
  below : Below b3 w4 wr
  lt : b3 < wr.heap.size
  c0 : wr.cell? ⟨b3, 0, none⟩ = some (.int .i64 u.t)
  c1 : wr.cell? ⟨b3, 1, none⟩ = some (.int .i64 u.d)
  c2 : wr.cell? ⟨b3, 2, none⟩ = some (.int .i64 u.no)
  fz : ∀ i, wr.frozen? ⟨b3, i, none⟩ = false

set_option maxRecDepth 100000 in
set_option maxHeartbeats 8000000 in
theorem check13 (w : World) (a : Option Addr) (n c : Nat) (now delta next : Int) (l : List EvV) (hn : l.length = n) (h : LAt w a l) (h9 : n ≤ 1000) :
    Calls Try.prog 13 #[.agg #[.slice a n c, .int .i64 now, .int .i64 delta, .int .i64 next]] w fun e w' => e = .returned (.int .i64 (checkE now delta next l)) ∧ Below w.heap.size w w' := by
  have H := Lib.hid h
  have HN := Lib.hid hn
  obtain ⟨E, hE⟩ : ∃ E, E = checkE now delta next l := ⟨_, rfl⟩
  have HE := Lib.hid hE
  rw [← hE]
  obtain ⟨w1, hw1⟩ : ∃ W, W = (w.alloc (.cells #[.slice a n c, .int .i64 now, .int .i64 delta, .int .i64 next] 24)).alloc (.cells #[.int .i64 now, .int .i64 delta, .int .i64 next] 3) := ⟨_, rfl⟩
  have hb1 : Below w.heap.size w w1 := by rw [hw1]; exact ((Below.refl _ _).alloc (Nat.le_refl _) _).alloc (by simp) _
  have hs1 : w1.heap.size = w.heap.size + 2 := by rw [hw1]; simp
  have k0 : w1.cell? ⟨w.heap.size, 0, none⟩ = some (.slice a n c) := by rw [hw1]; exact cell_alloc _ (by simp)
  have k1 : w1.cell? ⟨w.heap.size, 1, none⟩ = some (.int .i64 now) := by rw [hw1]; exact cell_alloc _ (by simp)
  have k2 : w1.cell? ⟨w.heap.size, 2, none⟩ = some (.int .i64 delta) := by rw [hw1]; exact cell_alloc _ (by simp)
  have k3 : w1.cell? ⟨w.heap.size, 3, none⟩ = some (.int .i64 next) := by rw [hw1]; exact cell_alloc _ (by simp)
  have hsq : Seq w1 (some ⟨w.heap.size + 1, 0, none⟩) 3 (ints [now, delta, next]) := by rw [hw1]; exact seq3 (by simp) (by simp) (by simp)
  have HSq := Lib.hid hsq
  have HB1 := Lib.hid hb1
  have HW1 := Lib.hid hw1
  have HS1 := Lib.hid hs1
  have HKK := Lib.hid (And.intro k0 (And.intro k1 (And.intro k2 k3)))
  clear h hn hE hb1 hw1 hs1 hsq k0 k1 k2 k3
  have hd9 : decide ((65536 : Int) < (n : Int)) = false := by simp; omega
  go_enter Try.func13, Try.ntmps13
  go_wp2_with fail
  rw [← HW1.out]
  refine Calls.mono (low25 w1 (some ⟨w.heap.size + 1, 0, none⟩) 3 3 [now, delta, next] rfl HSq.out (by omega) (by omega)) ?_
  rintro e w2 ⟨rfl, rfl⟩
  obtain ⟨lw0, hlw0⟩ : ∃ b, b = lowB [now, delta, next] := ⟨_, rfl⟩
  rw [← hlw0]
  have HLow0 := Lib.hid hlw0
  obtain ⟨k0, k1, k2, k3⟩ := HKK.out
  clear hlw0
  cases lw0
  · have HLow : Hid (lowB [now, delta, next] = false) := Lib.hid HLow0.out.symm
    go_wp2_with fail
    refine Calls.mono (round27 w1 now delta) ?_
    rintro e w3 ⟨rfl, hb3⟩
    obtain ⟨w4, hw4⟩ : ∃ W, W = w3.alloc (.cells #[.int .i64 now, .int .i64 delta, .int .i64 0] 54) := ⟨_, rfl⟩
    have hb4 : Below w1.heap.size w1 w4 := by rw [hw4]; exact hb3.alloc hb3.size _
    have hl1 : w.heap.size < w1.heap.size := World.block_lt_of_cell? w1 _ k0
    have k0 := (hb4.cell (p := ⟨w.heap.size, 0, none⟩) hl1).trans k0
    have k3 := (hb4.cell (p := ⟨w.heap.size, 3, none⟩) hl1).trans k3
    have l0 := (hb3.cell (p := ⟨w.heap.size, 0, none⟩) hl1).trans HKK.out.1
    have hl3 : w.heap.size < w3.heap.size := World.block_lt_of_cell? w3 _ l0
    have HCk0 : Hid (Ck w3.heap.size w4 w4 (lastW now delta l 0)) := Lib.hid ⟨Below.refl _ _, by rw [hw4]; simp, by rw [hw4]; simp [lastW], by rw [hw4]; simp [lastW], by rw [hw4]; simp [lastW], fun i => by rw [hw4]; simp⟩
    have HX4 := Lib.hid (HB1.out.trans (hb4.mono HB1.out.size))
    obtain ⟨B, hB⟩ : ∃ b, b = w.heap.size := ⟨_, rfl⟩
    obtain ⟨b3, hb3e⟩ : ∃ b, b = w3.heap.size := ⟨_, rfl⟩
    have HB3 : Hid (B < b3 ∧ w.heap.size = B) := Lib.hid ⟨by rw [hB, hb3e]; exact hl3, hB.symm⟩
    rw [← hB] at k0 k3
    rw [← hb3e] at HCk0
    have HW4 := Lib.hid hw4
    have HBe := Lib.hid hB
    have HB3e := Lib.hid hb3e
    clear hb3 hw4 hb4 hl1 hB hb3e k1 k2
    go_wp2_with fail
    rw [← HW4.out, ← HBe.out, ← HB3e.out]
    clear l0 hl3
    go_loopw [23] (fun iv wr => ∃ k : Nat, k ≤ n ∧ iv = .int .i64 k ∧ Hid (Ck b3 w4 wr (lastW now delta l k) ∧ ∀ j, j < k → badEv now delta next l j = false)) (fun iv _ => n - (intOf iv).toNat)
    case atStart => exact ⟨0, by omega, rfl, Lib.hid ⟨HCk0.out, fun j hj => by omega⟩⟩
    case round =>
      obtain ⟨k, hk, rfl, hh⟩ := hrel
      have HAll := Lib.hid hh.out.2
      have hck := hh.out.1
      have hbw : Below w.heap.size w wr := HX4.out.trans (hck.below.mono (by have := HB3.out; omega))
      have q0 := (hck.below.cell (p := ⟨B, 0, none⟩) (by have := HB3.out; simp only; omega)).trans k0
      have q3 := (hck.below.cell (p := ⟨B, 3, none⟩) (by have := HB3.out; simp only; omega)).trans k3
      have HBw := Lib.hid hbw
      by_cases hlt : k < n
      · obtain ⟨b, off, ha, hbb, e0, e1, e2, e3, e4⟩ := (H.out.below hbw (Nat.le_refl _)).ev k (by rw [HN.out]; exact hlt)
        have hbs := bad_same now delta next l k (by rw [HN.out]; exact hlt) (fun j hj => HAll.out j hj)
        have hcs := cmpW_cases (lastW now delta l k) (l.getD k default).when
        obtain ⟨x, hx⟩ : ∃ x, x = l.getD k default := ⟨_, rfl⟩
        obtain ⟨u, hu⟩ : ∃ u, u = lastW now delta l k := ⟨_, rfl⟩
        unfold bad13 at hbs
        rw [← hx, ← hu] at hbs hcs
        rw [← hx] at e0 e1 e2 e3 e4
        rw [← hu] at hck
        obtain ⟨xt, xd, xn, xs, xv⟩ := x
        obtain ⟨ut, ud, un⟩ := u
        dsimp only at e0 e1 e2 e3 e4 hbs hcs
        obtain ⟨cc, hcc⟩ : ∃ c, c = cmpW ⟨ut, ud, un⟩ ⟨xt, xd, xn⟩ := ⟨_, rfl⟩
        obtain ⟨lw, hlw⟩ : ∃ b, b = lowB [xt, xd, xs, xn] := ⟨_, rfl⟩
        rw [← hcc] at hbs hcs
        rw [← hlw] at hbs
        have HCs : Hid (cc = -1 ∨ cc = 0 ∨ cc = 1) := Lib.hid (by
          rcases hcs with h | h | h
          · exact .inl h.2
          · exact .inr (.inl h.2)
          · exact .inr (.inr h.2))
        have HBd := Lib.hid hbs
        have HBad : Hid (badEv now delta next l k = true → E = 1) := Lib.hid (fun hb => HE.out.trans (checkE_bad (by rw [HN.out]; exact hlt) hb))
        have HCc := Lib.hid hcc
        have HLw := Lib.hid hlw
        have HHx := Lib.hid hx
        have HFz0 := Lib.hid hck.fz
        have hb3w := hck.lt
        have HCk := Lib.hid hck.below
        have hBB : B < wr.heap.size := World.block_lt_of_cell? wr _ q0
        have v0 := hck.c0
        have v1 := hck.c1
        have v2 := hck.c2
        clear hbw hh hbs hcs hx hu hcc hlw hck
        subst ha
        obtain ⟨W6, hW6⟩ : ∃ W, W = wr.alloc (Obj.cells #[Value.int .i64 xt, Value.int .i64 xd, Value.int .i64 xn, Value.int .i64 xs, Value.int .u64 xv] 35) := ⟨_, rfl⟩
        have hb6 : Below wr.heap.size wr W6 := by rw [hW6]; exact (Below.refl _ _).alloc (Nat.le_refl _) _
        have u0 : W6.cell? ⟨b3, 0, none⟩ = some (.int .i64 ut) := by rw [hW6]; exact cell_alloc _ v0
        have u1 : W6.cell? ⟨b3, 1, none⟩ = some (.int .i64 ud) := by rw [hW6]; exact cell_alloc _ v1
        have u2 : W6.cell? ⟨b3, 2, none⟩ = some (.int .i64 un) := by rw [hW6]; exact cell_alloc _ v2
        have s0 := (hb6.cell (p := ⟨B, 0, none⟩) hBB).trans q0
        have s3 := (hb6.cell (p := ⟨B, 3, none⟩) hBB).trans q3
        have r0 : W6.cell? ⟨wr.heap.size, 0, none⟩ = some (.int .i64 xt) := by rw [hW6]; simp
        have r1 : W6.cell? ⟨wr.heap.size, 1, none⟩ = some (.int .i64 xd) := by rw [hW6]; simp
        have r2 : W6.cell? ⟨wr.heap.size, 2, none⟩ = some (.int .i64 xn) := by rw [hW6]; simp
        have r3 : W6.cell? ⟨wr.heap.size, 3, none⟩ = some (.int .i64 xs) := by rw [hW6]; simp
        have r4 : W6.cell? ⟨wr.heap.size, 4, none⟩ = some (.int .u64 xv) := by rw [hW6]; simp
        have HFz : Hid (∀ i, W6.frozen? ⟨b3, i, none⟩ = false) := Lib.hid (fun i => by rw [hW6]; exact frozen_alloc _ hb3w (HFz0.out i))
        have hb36 : b3 < W6.heap.size := World.block_lt_of_cell? W6 _ u0
        have HX6 := Lib.hid (HBw.out.trans (hb6.mono HBw.out.size))
        have HCk6 : Hid (Below b3 w4 W6) := Lib.hid (HCk.out.trans (hb6.mono (by omega)))
        obtain ⟨h5, hh5⟩ : ∃ h, h = wr.heap.size := ⟨_, rfl⟩
        rw [← hh5] at r0 r1 r2 r3 r4
        have HH5 := Lib.hid hh5
        have HW6 := Lib.hid hW6
        have HV := Lib.hid (And.intro u0 (And.intro u1 u2))
        clear hb6 hh5 hW6 u0 u1 u2
        go_wp2_with fail
        rw [← HH5.out, ← HW6.out]
        obtain ⟨u0, u1, u2⟩ := HV.out
        clear v0 v1 v2 e0 e1 e2 e3 e4 q0 q3
        refine wp_region_held_drew (S := fun w' => w'.cell? ⟨b3, 0, none⟩ = some (.int .i64 ut) ∧ w'.cell? ⟨b3, 1, none⟩ = some (.int .i64 ud) ∧ w'.cell? ⟨b3, 2, none⟩ = some (.int .i64 un) ∧ w'.cell? ⟨h5, 0, none⟩ = some (.int .i64 xt) ∧ w'.cell? ⟨h5, 1, none⟩ = some (.int .i64 xd) ∧ w'.cell? ⟨h5, 2, none⟩ = some (.int .i64 xn) ∧ w'.cell? ⟨h5, 3, none⟩ = some (.int .i64 xs) ∧ w'.cell? ⟨h5, 4, none⟩ = some (.int .u64 xv)) (by kernel_rfl) (⟨u0, u1, u2, r0, r1, r2, r3, r4⟩) (fun hHeld => ?_)
        refine wpAnyH_take (i := 0) (v := ?_) (by simp only [List.getElem?_toArray, List.getElem?_cons_succ, List.getElem?_cons_zero]; rfl) (by kernel_rfl) (by kernel_rfl) (by kernel_rfl) (by intro _ _ _ h; exact h) (Or.inl ⟨by rfl, ?_⟩) (by assumption) ?_
        rotate_left
        · intro w hSw; (try dsimp only at hSw); go_simp; try with_reducible rfl
        try simp only [Act.put, List.setIfInBounds_toArray, List.set_cons_zero, List.set_cons_succ]
        refine wpAnyH_take (i := 1) (v := ?_) (by simp only [List.getElem?_toArray, List.getElem?_cons_succ, List.getElem?_cons_zero]; rfl) (by kernel_rfl) (by kernel_rfl) (by kernel_rfl) (by intro _ _ _ h; exact h) (Or.inl ⟨by rfl, ?_⟩) (by assumption) ?_
        rotate_left
        · intro w hSw; (try dsimp only at hSw); go_simp; try with_reducible rfl
        try simp only [Act.put, List.setIfInBounds_toArray, List.set_cons_zero, List.set_cons_succ]
        refine wpAnyH_ready (rs := [2]) (by kernel_rfl) (by simp) ?_
        refine AllReadyH.cons (o := _) (by simp only [List.getElem?_toArray, List.getElem?_cons_succ, List.getElem?_cons_zero]; rfl) (fun K hK => ?_) AllReadyH.nil
        go_simp
        go_at_call 29
        refine Calls.mono (of29 W6.drew ⟨xt, xd, xn, xs, xv⟩) ?_
        rintro e w7 ⟨rfl, hb7⟩
        have hk7 : ∀ {b o : Nat} {v : Value}, W6.cell? ⟨b, o, none⟩ = some v → w7.cell? ⟨b, o, none⟩ = some v := fun h => (hb7.cell (p := ⟨_, _, none⟩) (World.block_lt_of_cell? W6 _ h)).trans h
        have hB7 : Below W6.heap.size W6 w7 := (Below.refl _ _).drew.trans hb7
        have HB7 := Lib.hid hB7
        clear hb7 hB7
        go_simp
        refine hK.out _ _ (by exact ⟨hk7 u0, hk7 u1, hk7 u2, hk7 r0, hk7 r1, hk7 r2, hk7 r3, hk7 r4⟩) (fun hHeld => ?_)
        clear hK K
        try simp only [Act.put, List.setIfInBounds_toArray, List.set_cons_zero, List.set_cons_succ]
        refine wpAnyH_ready (rs := [3]) (by kernel_rfl) (by simp) ?_
        refine AllReadyH.cons (o := _) (by simp only [List.getElem?_toArray, List.getElem?_cons_succ, List.getElem?_cons_zero]; rfl) (fun K hK => ?_) AllReadyH.nil
        go_simp
        go_at_call 26
        refine Calls.mono (compare26 w7 ⟨ut, ud, un⟩ ⟨xt, xd, xn⟩) ?_
        rintro e w8 ⟨rfl, hb8⟩
        have hk8 : ∀ {b o : Nat} {v : Value}, W6.cell? ⟨b, o, none⟩ = some v → w8.cell? ⟨b, o, none⟩ = some v := fun h => (hb8.cell (p := ⟨_, _, none⟩) (World.block_lt_of_cell? w7 _ (hk7 h))).trans (hk7 h)
        have HB8 : Hid (Below W6.heap.size W6 w8) := Lib.hid (HB7.out.trans (hb8.mono HB7.out.size))
        rw [← HCc.out]
        clear hb8
        go_simp
        refine hK.out _ _ (by exact ⟨hk8 u0, hk8 u1, hk8 u2, hk8 r0, hk8 r1, hk8 r2, hk8 r3, hk8 r4⟩) (fun hHeld => ?_)
        clear hK K
        try simp only [Act.put, List.setIfInBounds_toArray, List.set_cons_zero, List.set_cons_succ]
        refine wpAnyH_take (i := 4) (v := ?_) (by simp only [List.getElem?_toArray, List.getElem?_cons_succ, List.getElem?_cons_zero]; rfl) (by kernel_rfl) (by kernel_rfl) (by kernel_rfl) (by intro _ _ _ h; exact h) (Or.inl ⟨by rfl, ?_⟩) (by assumption) ?_
        rotate_left
        · intro w hSw; (try dsimp only at hSw); go_simp; try with_reducible rfl
        try simp only [Act.put, List.setIfInBounds_toArray, List.set_cons_zero, List.set_cons_succ]
        refine wpAnyH_done (by kernel_rfl) ?_ _
        have hk8f : ∀ {b o : Nat} {f : Bool}, b < W6.heap.size → W6.frozen? ⟨b, o, none⟩ = f → w8.frozen? ⟨b, o, none⟩ = f := fun hl h => (HB8.out.frozen (p := ⟨_, _, none⟩) hl).trans h
        have u0 := hk8 u0
        have u1 := hk8 u1
        have u2 := hk8 u2
        have r0 := hk8 r0
        have r1 := hk8 r1
        have r2 := hk8 r2
        have r3 := hk8 r3
        have r4 := hk8 r4
        have s3 := hk8 s3
        have s0 := hk8 s0
        have t0 := hk8f hb36 (HFz.out 0)
        have t1 := hk8f hb36 (HFz.out 1)
        have t2 := hk8f hb36 (HFz.out 2)
        have HK8 := Lib.hid (And.intro @hk8 (And.intro t0 (And.intro t1 t2)))
        clear hk7 hk8 hk8f HB7
        have HSq : Hid (Seq (w8.alloc (Obj.cells #[Value.int .i64 xt, Value.int .i64 xd, Value.int .i64 xs, Value.int .i64 xn] 3)) (some ⟨w8.heap.size, 0, none⟩) 4 (ints [xt, xd, xs, xn])) := Lib.hid (seq4 (by simp) (by simp) (by simp) (by simp))
        have hh8 : h5 < w8.heap.size := World.block_lt_of_cell? w8 _ r0
        have hh9 : B < w8.heap.size := World.block_lt_of_cell? w8 _ s0
        go_wp2_with fail
        refine Calls.mono (low25 _ (some ⟨w8.heap.size, 0, none⟩) 4 4 [xt, xd, xs, xn] rfl HSq.out (by omega) (by omega)) ?_
        rintro e w9 ⟨rfl, rfl⟩
        rw [← HLw.out]
        have HX9 : Hid (Below w.heap.size w (w8.alloc (Obj.cells #[Value.int .i64 xt, Value.int .i64 xd, Value.int .i64 xs, Value.int .i64 xn] 3))) := Lib.hid ((HX6.out.trans (HB8.out.mono HX6.out.size)).alloc (by have := HX6.out.size; have := HB8.out.size; omega) _)
        cases lw
        · by_cases g4 : next ≤ xn
          · have hf4 : decide (next ≤ xn) = true := by simpa using g4
            have HL := Lib.hid (HBad.out (by rw [← HBd.out, hf4]; simp))
            clear g4
            go_wp2_with fail
            go_ret
            exact ⟨by rw [HL.out]; rfl, HX9.out⟩
          · have hf4 : decide (next ≤ xn) = false := by simpa using g4
            have HF4 := Lib.hid hf4
            clear g4
            rcases HCs.out with hc | hc | hc
            · subst hc
              by_cases hk0 : 0 < k
              · have hdk : decide ((0 : Int) < (k : Int)) = true := by simpa using hk0
                have HG : Hid (badEv now delta next l k = false) := Lib.hid (HBd.out.symm.trans (by rw [HF4.out]; simp))
                have hdn : decide (0 < k) = true := by simpa using hk0
                go_wp2_with fail
                refine Calls.mono (of29 _ ⟨xt, xd, xn, xs, xv⟩) ?_
                rintro e w9 ⟨rfl, hb9⟩
                have hb3w8 : b3 < w8.heap.size := World.block_lt_of_cell? w8 _ u0
                have z0 : w9.cell? ⟨b3, 0, none⟩ = some (.int .i64 ut) := (hb9.cell (p := ⟨_, _, none⟩) (by simp; omega)).trans (cell_alloc _ u0)
                have z1 : w9.cell? ⟨b3, 1, none⟩ = some (.int .i64 ud) := (hb9.cell (p := ⟨_, _, none⟩) (by simp; omega)).trans (cell_alloc _ u1)
                have z2 : w9.cell? ⟨b3, 2, none⟩ = some (.int .i64 un) := (hb9.cell (p := ⟨_, _, none⟩) (by simp; omega)).trans (cell_alloc _ u2)
                have zf : ∀ i, w9.frozen? ⟨b3, i, none⟩ = false := fun i => (hb9.frozen (p := ⟨_, _, none⟩) (by simp; omega)).trans (frozen_alloc _ (by omega) ((HB8.out.frozen (p := ⟨_, _, none⟩) hb36).trans (HFz.out i)))
                have zf0 := zf 0
                have zf1 := zf 1
                have zf2 := zf 2
                have HN9 : Hid (Ck b3 w4 ((((w9.setCell ⟨b3, 0, none⟩ (.int .i64 xt)).setCell ⟨b3, 1, none⟩ (.int .i64 xd)).setCell ⟨b3, 2, none⟩ (.int .i64 xn))) ⟨xt, xd, xn⟩) := Lib.hid (by
                  have hbb : Below W6.heap.size W6 w9 := HB8.out.trans (((Below.refl _ _).alloc (Nat.le_refl _) _).trans (hb9.mono (by simp)) |>.mono HB8.out.size)
                  have hk9 : Below b3 w4 w9 := HCk6.out.trans (hbb.mono (by omega))
                  exact ⟨((hk9.setCell (Nat.le_refl _) _).setCell (Nat.le_refl _) _).setCell (Nat.le_refl _) _, by rw [set_size, set_size, set_size]; exact World.block_lt_of_cell? w9 _ z0, set_keep (set_keep (cell?_set_own z0) (by decide)) (by decide), set_keep (cell?_set_own (set_keep z1 (by decide))) (by decide), cell?_set_own (set_keep (set_keep z2 (by decide)) (by decide)), fun i => by rw [set_frozen, set_frozen, set_frozen]; exact zf i⟩)
                have HLs : Hid ((⟨xt, xd, xn⟩ : WhenV) = lastW now delta l (k + 1)) := Lib.hid (by show _ = (l.getD (k + 1 - 1) default).when; rw [Nat.add_sub_cancel, ← HHx.out])
                clear zf hb9
                go_wp2_with fail
                go_roundw
                case rel => exact ⟨k + 1, by omega, by go_num, Lib.hid ⟨by rw [← HLs.out]; exact HN9.out, fun j hj => by
                  by_cases e : j = k
                  · rw [e, HG.out]
                  · exact HAll.out j (by omega)⟩⟩
                case measure => simp [intOf]; omega
              · have hk00 : k = 0 := by omega
                subst hk00
                have HG : Hid (badEv now delta next l 0 = false) := Lib.hid (HBd.out.symm.trans (by rw [HF4.out]; simp))
                clear hk0
                go_wp2_with fail
                refine Calls.mono (of29 _ ⟨xt, xd, xn, xs, xv⟩) ?_
                rintro e w9 ⟨rfl, hb9⟩
                have hb3w8 : b3 < w8.heap.size := World.block_lt_of_cell? w8 _ u0
                have z0 : w9.cell? ⟨b3, 0, none⟩ = some (.int .i64 ut) := (hb9.cell (p := ⟨_, _, none⟩) (by simp; omega)).trans (cell_alloc _ u0)
                have z1 : w9.cell? ⟨b3, 1, none⟩ = some (.int .i64 ud) := (hb9.cell (p := ⟨_, _, none⟩) (by simp; omega)).trans (cell_alloc _ u1)
                have z2 : w9.cell? ⟨b3, 2, none⟩ = some (.int .i64 un) := (hb9.cell (p := ⟨_, _, none⟩) (by simp; omega)).trans (cell_alloc _ u2)
                have zf : ∀ i, w9.frozen? ⟨b3, i, none⟩ = false := fun i => (hb9.frozen (p := ⟨_, _, none⟩) (by simp; omega)).trans (frozen_alloc _ (by omega) ((HB8.out.frozen (p := ⟨_, _, none⟩) hb36).trans (HFz.out i)))
                have zf0 := zf 0
                have zf1 := zf 1
                have zf2 := zf 2
                have HN9 : Hid (Ck b3 w4 ((((w9.setCell ⟨b3, 0, none⟩ (.int .i64 xt)).setCell ⟨b3, 1, none⟩ (.int .i64 xd)).setCell ⟨b3, 2, none⟩ (.int .i64 xn))) ⟨xt, xd, xn⟩) := Lib.hid (by
                  have hbb : Below W6.heap.size W6 w9 := HB8.out.trans (((Below.refl _ _).alloc (Nat.le_refl _) _).trans (hb9.mono (by simp)) |>.mono HB8.out.size)
                  have hk9 : Below b3 w4 w9 := HCk6.out.trans (hbb.mono (by omega))
                  exact ⟨((hk9.setCell (Nat.le_refl _) _).setCell (Nat.le_refl _) _).setCell (Nat.le_refl _) _, by rw [set_size, set_size, set_size]; exact World.block_lt_of_cell? w9 _ z0, set_keep (set_keep (cell?_set_own z0) (by decide)) (by decide), set_keep (cell?_set_own (set_keep z1 (by decide))) (by decide), cell?_set_own (set_keep (set_keep z2 (by decide)) (by decide)), fun i => by rw [set_frozen, set_frozen, set_frozen]; exact zf i⟩)
                have HLs : Hid ((⟨xt, xd, xn⟩ : WhenV) = lastW now delta l (0 + 1)) := Lib.hid (by show _ = (l.getD (0 + 1 - 1) default).when; rw [Nat.add_sub_cancel, ← HHx.out])
                clear zf hb9
                go_wp2_with fail
                go_roundw
                case rel => exact ⟨0 + 1, by omega, by go_num, Lib.hid ⟨by rw [← HLs.out]; exact HN9.out, fun j hj => by
                  by_cases e : j = 0
                  · rw [e, HG.out]
                  · exact HAll.out j (by omega)⟩⟩
                case measure => simp [intOf]; omega
            · subst hc
              by_cases hk0 : 0 < k
              · have hdk : decide ((0 : Int) < (k : Int)) = true := by simpa using hk0
                have HL := Lib.hid (HBad.out (HBd.out.symm.trans (by rw [HF4.out, decide_eq_true hk0]; simp)))
                have hdn : decide (0 < k) = true := by simpa using hk0
                go_wp2_with fail
                go_ret
                exact ⟨by rw [HL.out]; rfl, HX9.out⟩
              · have hk00 : k = 0 := by omega
                subst hk00
                have HG : Hid (badEv now delta next l 0 = false) := Lib.hid (HBd.out.symm.trans (by rw [HF4.out]; simp))
                clear hk0
                go_wp2_with fail
                refine Calls.mono (of29 _ ⟨xt, xd, xn, xs, xv⟩) ?_
                rintro e w9 ⟨rfl, hb9⟩
                have hb3w8 : b3 < w8.heap.size := World.block_lt_of_cell? w8 _ u0
                have z0 : w9.cell? ⟨b3, 0, none⟩ = some (.int .i64 ut) := (hb9.cell (p := ⟨_, _, none⟩) (by simp; omega)).trans (cell_alloc _ u0)
                have z1 : w9.cell? ⟨b3, 1, none⟩ = some (.int .i64 ud) := (hb9.cell (p := ⟨_, _, none⟩) (by simp; omega)).trans (cell_alloc _ u1)
                have z2 : w9.cell? ⟨b3, 2, none⟩ = some (.int .i64 un) := (hb9.cell (p := ⟨_, _, none⟩) (by simp; omega)).trans (cell_alloc _ u2)
                have zf : ∀ i, w9.frozen? ⟨b3, i, none⟩ = false := fun i => (hb9.frozen (p := ⟨_, _, none⟩) (by simp; omega)).trans (frozen_alloc _ (by omega) ((HB8.out.frozen (p := ⟨_, _, none⟩) hb36).trans (HFz.out i)))
                have zf0 := zf 0
                have zf1 := zf 1
                have zf2 := zf 2
                have HN9 : Hid (Ck b3 w4 ((((w9.setCell ⟨b3, 0, none⟩ (.int .i64 xt)).setCell ⟨b3, 1, none⟩ (.int .i64 xd)).setCell ⟨b3, 2, none⟩ (.int .i64 xn))) ⟨xt, xd, xn⟩) := Lib.hid (by
                  have hbb : Below W6.heap.size W6 w9 := HB8.out.trans (((Below.refl _ _).alloc (Nat.le_refl _) _).trans (hb9.mono (by simp)) |>.mono HB8.out.size)
                  have hk9 : Below b3 w4 w9 := HCk6.out.trans (hbb.mono (by omega))
                  exact ⟨((hk9.setCell (Nat.le_refl _) _).setCell (Nat.le_refl _) _).setCell (Nat.le_refl _) _, by rw [set_size, set_size, set_size]; exact World.block_lt_of_cell? w9 _ z0, set_keep (set_keep (cell?_set_own z0) (by decide)) (by decide), set_keep (cell?_set_own (set_keep z1 (by decide))) (by decide), cell?_set_own (set_keep (set_keep z2 (by decide)) (by decide)), fun i => by rw [set_frozen, set_frozen, set_frozen]; exact zf i⟩)
                have HLs : Hid ((⟨xt, xd, xn⟩ : WhenV) = lastW now delta l (0 + 1)) := Lib.hid (by show _ = (l.getD (0 + 1 - 1) default).when; rw [Nat.add_sub_cancel, ← HHx.out])
                clear zf hb9
                go_wp2_with fail
                go_roundw
                case rel => exact ⟨0 + 1, by omega, by go_num, Lib.hid ⟨by rw [← HLs.out]; exact HN9.out, fun j hj => by
                  by_cases e : j = 0
                  · rw [e, HG.out]
                  · exact HAll.out j (by omega)⟩⟩
                case measure => simp [intOf]; omega
            · subst hc
              have HL := Lib.hid (HBad.out (HBd.out.symm.trans (by rw [HF4.out]; simp)))
              go_wp2_with fail
              go_ret
              exact ⟨by rw [HL.out]; rfl, HX9.out⟩
        · have HL := Lib.hid (HBad.out (by rw [← HBd.out]; simp))
          go_wp2_with fail
          go_ret
          exact ⟨by rw [HL.out]; rfl, HX9.out⟩
      · obtain rfl : k = n := by omega
        have HL : Hid (E = 0) := Lib.hid (HE.out.trans (checkE_ok HLow.out (fun i hi => HAll.out i (by rw [HN.out] at hi; exact hi))))
        clear hh hck hbw
        go_wp2_with fail
        go_ret
        exact ⟨by rw [HL.out]; rfl, HBw.out⟩
  · have HL := Lib.hid (HE.out.trans (checkE_low HLow0.out.symm))
    go_wp2_with fail
    go_ret
    exact ⟨by rw [HL.out]; rfl, HB1.out⟩
end Go.Proofs.Ytbhbebidkeejbaa
