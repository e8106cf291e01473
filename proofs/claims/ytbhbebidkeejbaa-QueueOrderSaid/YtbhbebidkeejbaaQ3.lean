/- Whether any queue may be (Check), as the document tells. -/
import Derived.Test.YtbhbebidkeejbaaQ2
import Derived.Lib.QuoteBits
namespace Go.Proofs.Ytbhbebidkeejbaa
open Go.RowKit Go.Shelf
set_option linter.unusedVariables false
set_option linter.unusedSimpArgs false

def badEv (now delta next : Int) (l : List EvV) (i : Nat) : Bool :=
  lowB [(l.getD i default).t, (l.getD i default).d, (l.getD i default).sig, (l.getD i default).no] || decide (next ≤ (l.getD i default).no) || goneB now delta (l.getD i default).t (l.getD i default).d || (decide (0 < i) && !aheadB (l.getD (i - 1) default) (l.getD i default))
def checkE (now delta next : Int) (l : List EvV) : Int := if lowB [now, delta, next] then 1 else if (List.range l.length).any (badEv now delta next l) then 1 else 0
theorem checkE_bad {now delta next : Int} {l : List EvV} {i : Nat} (hi : i < l.length) (h : badEv now delta next l i = true) : checkE now delta next l = 1 := by
  unfold checkE
  split
  · rfl
  · rw [if_pos (List.any_eq_true.2 ⟨i, List.mem_range.2 hi, h⟩)]
theorem checkE_ok {now delta next : Int} {l : List EvV} (h0 : lowB [now, delta, next] = false) (h : ∀ i, i < l.length → badEv now delta next l i = false) : checkE now delta next l = 0 := by
  unfold checkE
  rw [if_neg (by rw [h0]; simp), if_neg (fun hh => by
    obtain ⟨i, hi, hb⟩ := List.any_eq_true.1 hh
    rw [h i (List.mem_range.1 hi)] at hb; cases hb)]
theorem checkE_low {now delta next : Int} {l : List EvV} (h0 : lowB [now, delta, next] = true) : checkE now delta next l = 1 := by
  unfold checkE; rw [if_pos h0]

set_option maxRecDepth 100000 in
set_option maxHeartbeats 4000000 in
theorem check14 (w : World) (a : Option Addr) (n c : Nat) (now delta next : Int) (l : List EvV) (hn : l.length = n) (h : LAt w a l) (h9 : n ≤ 1000) :
    Calls Try.prog 14 #[.agg #[.slice a n c, .int .i64 now, .int .i64 delta, .int .i64 next]] w fun e w' => e = .returned (.int .i64 (checkE now delta next l)) ∧ Below w.heap.size w w' := by
  have H := Lib.hid h
  have HN := Lib.hid hn
  obtain ⟨E, hE⟩ : ∃ E, E = checkE now delta next l := ⟨_, rfl⟩
  have HE := Lib.hid hE
  rw [← hE]
  obtain ⟨B, hB⟩ : ∃ b, b = w.heap.size := ⟨_, rfl⟩
  obtain ⟨w1, hw1⟩ : ∃ W, W = w.alloc (.cells #[.slice a n c, .int .i64 now, .int .i64 delta, .int .i64 next] 24) := ⟨_, rfl⟩
  have hb1 : Below w.heap.size w w1 := by rw [hw1]; exact (Below.refl _ _).alloc (Nat.le_refl _) _
  have hs1 : w1.heap.size = B + 1 := by rw [hw1, hB]; simp
  have k0 : w1.cell? ⟨B, 0, none⟩ = some (.slice a n c) := by rw [hw1, hB]; simp
  have k1 : w1.cell? ⟨B, 1, none⟩ = some (.int .i64 now) := by rw [hw1, hB]; simp
  have k2 : w1.cell? ⟨B, 2, none⟩ = some (.int .i64 delta) := by rw [hw1, hB]; simp
  have k3 : w1.cell? ⟨B, 3, none⟩ = some (.int .i64 next) := by rw [hw1, hB]; simp
  have HB1 := Lib.hid hb1
  have HS1 := Lib.hid hs1
  have HW1 := Lib.hid hw1
  have HBe := Lib.hid hB
  clear h hn hE hb1 hs1 hw1 hB
  have hd9 : decide ((65536 : Int) < (n : Int)) = false := by simp; omega
  go_enter Try.func14, Try.ntmps14
  by_cases c0 : now < 0
  · have d0 : decide (now < 0) = true := by simpa using c0
    have hl : lowB [now, delta, next] = true := by unfold lowB; simp [d0]
    have HL := Lib.hid (HE.out.trans (checkE_low hl))
    clear hl c0
    go_wp2_with fail
    go_ret
    exact ⟨by rw [HL.out]; rfl, (Below.refl _ _).alloc (Nat.le_refl _) _⟩
  have d0 : decide (now < 0) = false := by simpa using c0
  by_cases c1 : delta < 0
  · have d1 : decide (delta < 0) = true := by simpa using c1
    have hl : lowB [now, delta, next] = true := by unfold lowB; simp [d1]
    have HL := Lib.hid (HE.out.trans (checkE_low hl))
    clear hl c1
    go_wp2_with fail
    go_ret
    exact ⟨by rw [HL.out]; rfl, (Below.refl _ _).alloc (Nat.le_refl _) _⟩
  have d1 : decide (delta < 0) = false := by simpa using c1
  by_cases c2 : next < 0
  · have d2 : decide (next < 0) = true := by simpa using c2
    have hl : lowB [now, delta, next] = true := by unfold lowB; simp [d2]
    have HL := Lib.hid (HE.out.trans (checkE_low hl))
    clear hl c2
    go_wp2_with fail
    go_ret
    exact ⟨by rw [HL.out]; rfl, (Below.refl _ _).alloc (Nat.le_refl _) _⟩
  have d2 : decide (next < 0) = false := by simpa using c2
  have hlow : lowB [now, delta, next] = false := by unfold lowB; simp [d0, d1, d2]
  have HLow := Lib.hid hlow
  clear hlow c0 c1 c2
  go_wp2_with fail
  rw [← HW1.out, ← HBe.out]
  go_loopw [3] (fun iv wr => ∃ k : Nat, k ≤ n ∧ iv = .int .i64 k ∧ Hid (Below w1.heap.size w1 wr ∧ ∀ j, j < k → badEv now delta next l j = false)) (fun iv _ => n - (intOf iv).toNat)
  case atStart => exact ⟨0, by omega, rfl, Lib.hid ⟨Below.refl _ _, fun j hj => by omega⟩⟩
  case round =>
    obtain ⟨k, hk, rfl, hh⟩ := hrel
    have HRr := Lib.hid hh.out.1
    have HAll := Lib.hid hh.out.2
    have hbw : Below w.heap.size w wr := HB1.out.trans (hh.out.1.mono (by have := HS1.out; have := HBe.out; omega))
    have HBw := Lib.hid hbw
    have q0 := (hh.out.1.cell (p := ⟨B, 0, none⟩) (by have := HS1.out; simp only; omega)).trans k0
    have q1 := (hh.out.1.cell (p := ⟨B, 1, none⟩) (by have := HS1.out; simp only; omega)).trans k1
    have q2 := (hh.out.1.cell (p := ⟨B, 2, none⟩) (by have := HS1.out; simp only; omega)).trans k2
    have q3 := (hh.out.1.cell (p := ⟨B, 3, none⟩) (by have := HS1.out; simp only; omega)).trans k3
    by_cases hlt : k < n
    · obtain ⟨b, off, ha, hbb, e0, e1, e2, e3, e4⟩ := (H.out.below hbw (Nat.le_refl _)).ev k (by rw [HN.out]; exact hlt)
      have hbd : badEv now delta next l k = (lowB [(l.getD k default).t, (l.getD k default).d, (l.getD k default).sig, (l.getD k default).no] || decide (next ≤ (l.getD k default).no) || goneB now delta (l.getD k default).t (l.getD k default).d || (decide (0 < k) && !aheadB (l.getD (k - 1) default) (l.getD k default))) := rfl
      obtain ⟨x, hx⟩ : ∃ x, x = l.getD k default := ⟨_, rfl⟩
      rw [← hx] at e0 e1 e2 e3 e4 hbd
      obtain ⟨xt, xd, xn, xs, xv⟩ := x
      dsimp only at e0 e1 e2 e3 e4 hbd
      have hBB : B < wr.heap.size := World.block_lt_of_cell? wr _ q0
      have HBd := Lib.hid hbd
      have HHx := Lib.hid hx
      have HBad : Hid (badEv now delta next l k = true → E = 1) := Lib.hid (fun hb => HE.out.trans (checkE_bad (by rw [HN.out]; exact hlt) hb))
      clear hbw hh hbd hx
      subst ha
      by_cases c0 : xt < 0
      · have f0 : decide (xt < 0) = true := by simpa using c0
        have HL := Lib.hid (HBad.out (by rw [HBd.out]; unfold lowB; simp [f0]))
        clear c0
        go_wp2_with fail
        go_ret
        exact ⟨by rw [HL.out]; rfl, HBw.out.alloc HBw.out.size _⟩
      have f0 : decide (xt < 0) = false := by simpa using c0
      by_cases c1 : xd < 0
      · have f1 : decide (xd < 0) = true := by simpa using c1
        have HL := Lib.hid (HBad.out (by rw [HBd.out]; unfold lowB; simp [f1]))
        clear c1
        go_wp2_with fail
        go_ret
        exact ⟨by rw [HL.out]; rfl, HBw.out.alloc HBw.out.size _⟩
      have f1 : decide (xd < 0) = false := by simpa using c1
      by_cases c2 : xs < 0
      · have f2 : decide (xs < 0) = true := by simpa using c2
        have HL := Lib.hid (HBad.out (by rw [HBd.out]; unfold lowB; simp [f2]))
        clear c2
        go_wp2_with fail
        go_ret
        exact ⟨by rw [HL.out]; rfl, HBw.out.alloc HBw.out.size _⟩
      have f2 : decide (xs < 0) = false := by simpa using c2
      by_cases c3 : xn < 0
      · have f3 : decide (xn < 0) = true := by simpa using c3
        have HL := Lib.hid (HBad.out (by rw [HBd.out]; unfold lowB; simp [f3]))
        clear c3
        go_wp2_with fail
        go_ret
        exact ⟨by rw [HL.out]; rfl, HBw.out.alloc HBw.out.size _⟩
      have f3 : decide (xn < 0) = false := by simpa using c3
      have hl4 : lowB [xt, xd, xs, xn] = false := by unfold lowB; simp [f0, f1, f2, f3]
      by_cases g4 : next ≤ xn
      · have f4 : decide (next ≤ xn) = true := by simpa using g4
        have HL := Lib.hid (HBad.out (by rw [HBd.out, f4]; simp))
        clear g4
        go_wp2_with fail
        go_ret
        exact ⟨by rw [HL.out]; rfl, HBw.out.alloc HBw.out.size _⟩
      have f4 : decide (next ≤ xn) = false := by simpa using g4
      clear c0 c1 c2 c3 g4
      obtain ⟨gb, hgb⟩ : ∃ g, g = goneB now delta xt xd := ⟨_, rfl⟩
      have HGb := Lib.hid hgb
      have HL4 := Lib.hid hl4
      have HF4 := Lib.hid f4
      clear hgb hl4
      go_wp2_with fail
      refine Calls.mono (gone33 _ (some ⟨b, off, none⟩) n c now delta next xt xd) ?_
      rintro e w7 ⟨rfl, hb7⟩
      rw [← HGb.out]
      have hb8 : Below wr.heap.size wr w7 := ((Below.refl _ _).alloc (Nat.le_refl _) _).trans (hb7.mono (by simp))
      have r0 : w7.cell? ⟨wr.heap.size, 0, none⟩ = some (.int .i64 xt) := (hb7.cell (p := ⟨_, _, none⟩) (by simp)).trans (by simp)
      have r1 : w7.cell? ⟨wr.heap.size, 1, none⟩ = some (.int .i64 xd) := (hb7.cell (p := ⟨_, _, none⟩) (by simp)).trans (by simp)
      have r2 : w7.cell? ⟨wr.heap.size, 2, none⟩ = some (.int .i64 xn) := (hb7.cell (p := ⟨_, _, none⟩) (by simp)).trans (by simp)
      have r3 : w7.cell? ⟨wr.heap.size, 3, none⟩ = some (.int .i64 xs) := (hb7.cell (p := ⟨_, _, none⟩) (by simp)).trans (by simp)
      have r4 : w7.cell? ⟨wr.heap.size, 4, none⟩ = some (.int .u64 xv) := (hb7.cell (p := ⟨_, _, none⟩) (by simp)).trans (by simp)
      have s0 := (hb8.cell (p := ⟨B, 0, none⟩) hBB).trans q0
      have s1 := (hb8.cell (p := ⟨B, 1, none⟩) hBB).trans q1
      have s2 := (hb8.cell (p := ⟨B, 2, none⟩) hBB).trans q2
      have s3 := (hb8.cell (p := ⟨B, 3, none⟩) hBB).trans q3
      have HB8 := Lib.hid hb8
      have HB9 := Lib.hid (HBw.out.trans (hb8.mono HBw.out.size))
      have HR9 : Hid (Below w1.heap.size w1 w7) := Lib.hid (HRr.out.trans (hb8.mono HRr.out.size))
      have hq7 : wr.heap.size < w7.heap.size := World.block_lt_of_cell? w7 _ r0
      obtain ⟨h5, hh5⟩ : ∃ h, h = wr.heap.size := ⟨_, rfl⟩
      rw [← hh5] at r0 r1 r2 r3 r4 hq7 ⊢
      have HH5 := Lib.hid hh5
      clear hb7 hb8 hh5 e0 e1 e2 e3 e4 q0 q1 q2 q3 hbb hBB
      cases gb
      · by_cases hk0 : 0 < k
        · obtain ⟨p, hp⟩ : ∃ p, k = p + 1 := ⟨k - 1, by omega⟩
          obtain ⟨b', off', ha', hbb', e0, e1, e2, e3, e4⟩ := (H.out.below HB9.out (Nat.le_refl _)).ev p (by rw [HN.out]; omega)
          injection ha' with ha'
          injection ha' with ha1 ha2
          subst ha1 ha2
          have hkp : k - 1 = p := by omega
          obtain ⟨y, hy⟩ : ∃ y, y = l.getD p default := ⟨_, rfl⟩
          rw [← hy] at e0 e1 e2 e3 e4
          obtain ⟨yt, yd, yn, ys, yv⟩ := y
          dsimp only at e0 e1 e2 e3 e4
          obtain ⟨ab, hab⟩ : ∃ a, a = aheadB ⟨yt, yd, yn, ys, yv⟩ ⟨xt, xd, xn, xs, xv⟩ := ⟨_, rfl⟩
          have HBd2 : Hid (badEv now delta next l k = !ab) := Lib.hid (by rw [HBd.out, HL4.out, HF4.out, ← HGb.out, hkp, ← hy, ← hab, decide_eq_true hk0]; simp)
          have HAb := Lib.hid hab
          have hdk : decide ((0 : Int) < (k : Int)) = true := by simpa using hk0
          have HSub : Hid (IntKind.i64.wrap ((k : Int) - 1) = (p : Int)) := Lib.hid (by rw [show (k : Int) - 1 = ((p : Nat) : Int) by omega]; exact Lib.wrap_i64_small p (by omega))
          have hpn : p < n := by omega
          have HHp := Lib.hid hp
          clear hab hy hkp hp
          go_wp2_with fail
          refine wp_region_held_drew (S := fun w' => w'.cell? ⟨B, 0, none⟩ = some (.slice (some ⟨b, off, none⟩) n c) ∧ w'.cell? ⟨b, off + p * 5, none⟩ = some (.int .i64 yt) ∧ w'.cell? ⟨b, off + p * 5 + 1, none⟩ = some (.int .i64 yd) ∧ w'.cell? ⟨b, off + p * 5 + 2, none⟩ = some (.int .i64 yn) ∧ w'.cell? ⟨b, off + p * 5 + 3, none⟩ = some (.int .i64 ys) ∧ w'.cell? ⟨b, off + p * 5 + 4, none⟩ = some (.int .u64 yv) ∧ w'.cell? ⟨h5, 0, none⟩ = some (.int .i64 xt) ∧ w'.cell? ⟨h5, 1, none⟩ = some (.int .i64 xd) ∧ w'.cell? ⟨h5, 2, none⟩ = some (.int .i64 xn) ∧ w'.cell? ⟨h5, 3, none⟩ = some (.int .i64 xs) ∧ w'.cell? ⟨h5, 4, none⟩ = some (.int .u64 xv)) (by kernel_rfl) (⟨s0, e0, e1, e2, e3, e4, r0, r1, r2, r3, r4⟩) (fun hHeld => ?_)
          refine wpAnyH_take (i := 0) (v := ?_) (by simp only [List.getElem?_toArray, List.getElem?_cons_succ, List.getElem?_cons_zero]; rfl) (by kernel_rfl) (by kernel_rfl) (by kernel_rfl) (by intro _ _ _ h; exact h) (Or.inl ⟨by rfl, ?_⟩) (by assumption) ?_
          rotate_left
          · intro w hSw; (try dsimp only at hSw); go_simp; try with_reducible rfl
          try simp only [Act.put, List.setIfInBounds_toArray, List.set_cons_zero, List.set_cons_succ]
          refine wpAnyH_take (i := 1) (v := ?_) (by simp only [List.getElem?_toArray, List.getElem?_cons_succ, List.getElem?_cons_zero]; rfl) (by kernel_rfl) (by kernel_rfl) (by kernel_rfl) (by intro _ _ _ h; exact h) (Or.inl ⟨by rfl, ?_⟩) (by assumption) ?_
          rotate_left
          · intro w hSw; (try dsimp only at hSw); go_simp; try with_reducible rfl
          try simp only [Act.put, List.setIfInBounds_toArray, List.set_cons_zero, List.set_cons_succ]
          refine wpAnyH_take (i := 2) (v := ?_) (by simp only [List.getElem?_toArray, List.getElem?_cons_succ, List.getElem?_cons_zero]; rfl) (by kernel_rfl) (by kernel_rfl) (by kernel_rfl) (by intro _ _ _ h; exact h) (Or.inl ⟨by rfl, ?_⟩) (by assumption) ?_
          rotate_left
          · intro w hSw; (try dsimp only at hSw); go_simp; try with_reducible rfl
          try simp only [Act.put, List.setIfInBounds_toArray, List.set_cons_zero, List.set_cons_succ]
          refine wpAnyH_take (i := 3) (v := ?_) (by simp only [List.getElem?_toArray, List.getElem?_cons_succ, List.getElem?_cons_zero]; rfl) (by kernel_rfl) (by kernel_rfl) (by kernel_rfl) (by intro _ _ _ h; exact h) (Or.inl ⟨by rfl, ?_⟩) (by assumption) ?_
          rotate_left
          · intro w hSw; (try dsimp only at hSw); go_simp; try with_reducible rfl
          try simp only [Act.put, List.setIfInBounds_toArray, List.set_cons_zero, List.set_cons_succ]
          refine wpAnyH_take (i := 4) (v := ?_) (by simp only [List.getElem?_toArray, List.getElem?_cons_succ, List.getElem?_cons_zero]; rfl) (by kernel_rfl) (by kernel_rfl) (by kernel_rfl) (by intro _ _ _ h; exact h) (Or.inl ⟨by rfl, ?_⟩) (by assumption) ?_
          rotate_left
          · intro w hSw; (try dsimp only at hSw); go_simp; try with_reducible rfl
          try simp only [Act.put, List.setIfInBounds_toArray, List.set_cons_zero, List.set_cons_succ]
          refine wpAnyH_take (i := 5) (v := ?_) (by simp only [List.getElem?_toArray, List.getElem?_cons_succ, List.getElem?_cons_zero]; rfl) (by kernel_rfl) (by kernel_rfl) (by kernel_rfl) (by intro _ _ _ h; exact h) (Or.inl ⟨by rfl, ?_⟩) (by assumption) ?_
          rotate_left
          · intro w hSw; (try dsimp only at hSw); go_simp; try with_reducible rfl
          try simp only [Act.put, List.setIfInBounds_toArray, List.set_cons_zero, List.set_cons_succ]
          refine wpAnyH_take (i := 6) (v := ?_) (by simp only [List.getElem?_toArray, List.getElem?_cons_succ, List.getElem?_cons_zero]; rfl) (by kernel_rfl) (by kernel_rfl) (by kernel_rfl) (by intro _ _ _ h; exact h) (Or.inl ⟨by rfl, ?_⟩) (by assumption) ?_
          rotate_left
          · intro w hSw; (try dsimp only at hSw); go_simp; rw [HSub.out]
          try simp only [Act.put, List.setIfInBounds_toArray, List.set_cons_zero, List.set_cons_succ]
          refine wpAnyH_take (i := 7) (v := ?_) (by simp only [List.getElem?_toArray, List.getElem?_cons_succ, List.getElem?_cons_zero]; rfl) (by kernel_rfl) (by kernel_rfl) (by kernel_rfl) (by intro _ _ _ h; exact h) (Or.inl ⟨by rfl, ?_⟩) (by assumption) ?_
          rotate_left
          · intro w hSw; (try dsimp only at hSw); go_simp; first | with_reducible rfl | rw [if_pos (by omega)]
          try simp only [Act.put, List.setIfInBounds_toArray, List.set_cons_zero, List.set_cons_succ]
          refine wpAnyH_take (i := 8) (v := ?_) (by simp only [List.getElem?_toArray, List.getElem?_cons_succ, List.getElem?_cons_zero]; rfl) (by kernel_rfl) (by kernel_rfl) (by kernel_rfl) (by intro _ _ _ h; exact h) (Or.inl ⟨by rfl, ?_⟩) (by assumption) ?_
          rotate_left
          · intro w hSw; (try dsimp only at hSw); go_simp; try with_reducible rfl
          try simp only [Act.put, List.setIfInBounds_toArray, List.set_cons_zero, List.set_cons_succ]
          refine wpAnyH_take (i := 9) (v := ?_) (by simp only [List.getElem?_toArray, List.getElem?_cons_succ, List.getElem?_cons_zero]; rfl) (by kernel_rfl) (by kernel_rfl) (by kernel_rfl) (by intro _ _ _ h; exact h) (Or.inl ⟨by rfl, ?_⟩) (by assumption) ?_
          rotate_left
          · intro w hSw; (try dsimp only at hSw); go_simp; try with_reducible rfl
          try simp only [Act.put, List.setIfInBounds_toArray, List.set_cons_zero, List.set_cons_succ]
          refine wpAnyH_ready (rs := [10]) (by kernel_rfl) (by simp) ?_
          refine AllReadyH.cons (o := _) (by simp only [List.getElem?_toArray, List.getElem?_cons_succ, List.getElem?_cons_zero]; rfl) (fun K hK => ?_) AllReadyH.nil
          go_simp
          go_at_call 24
          refine Calls.mono (ahead24 w7.drew ⟨yt, yd, yn, ys, yv⟩ ⟨xt, xd, xn, xs, xv⟩) ?_
          rintro e w8 ⟨rfl, hb10⟩
          rw [← HAb.out]
          have hk8 : ∀ {b o : Nat} {v : Value}, w7.cell? ⟨b, o, none⟩ = some v → w8.cell? ⟨b, o, none⟩ = some v := fun h => (hb10.cell (p := ⟨_, _, none⟩) (World.block_lt_of_cell? w7 _ h)).trans h
          have HB10 : Hid (Below w7.heap.size w7 w8) := Lib.hid ((Below.refl _ _).drew.trans hb10)
          clear hb10
          go_simp
          refine hK.out _ _ (by exact ⟨hk8 s0, hk8 e0, hk8 e1, hk8 e2, hk8 e3, hk8 e4, hk8 r0, hk8 r1, hk8 r2, hk8 r3, hk8 r4⟩) (fun hHeld => ?_)
          clear hK K
          try simp only [Act.put, List.setIfInBounds_toArray, List.set_cons_zero, List.set_cons_succ]
          refine wpAnyH_take (i := 11) (v := ?_) (by simp only [List.getElem?_toArray, List.getElem?_cons_succ, List.getElem?_cons_zero]; rfl) (by kernel_rfl) (by kernel_rfl) (by kernel_rfl) (by intro _ _ _ h; exact h) (Or.inl ⟨by rfl, ?_⟩) (by assumption) ?_
          rotate_left
          · intro w hSw; (try dsimp only at hSw); go_simp; try with_reducible rfl
          try simp only [Act.put, List.setIfInBounds_toArray, List.set_cons_zero, List.set_cons_succ]
          refine wpAnyH_take (i := 12) (v := ?_) (by simp only [List.getElem?_toArray, List.getElem?_cons_succ, List.getElem?_cons_zero]; rfl) (by kernel_rfl) (by kernel_rfl) (by kernel_rfl) (by intro _ _ _ h; exact h) (Or.inl ⟨by rfl, ?_⟩) (by assumption) ?_
          rotate_left
          · intro w hSw; (try dsimp only at hSw); go_simp; try with_reducible rfl
          try simp only [Act.put, List.setIfInBounds_toArray, List.set_cons_zero, List.set_cons_succ]
          refine wpAnyH_done (by kernel_rfl) ?_ _
          cases ab
          · have HL := Lib.hid (HBad.out (by rw [HBd2.out]; rfl))
            go_wp2_with fail
            go_ret
            exact ⟨by rw [HL.out]; rfl, HB9.out.trans (HB10.out.mono HB9.out.size)⟩
          · go_wp2_with fail
            go_roundw
            case rel => exact ⟨k + 1, by omega, by go_num, Lib.hid ⟨HR9.out.trans (HB10.out.mono HR9.out.size), fun j hj => by
              by_cases e : j = k
              · rw [e, HBd2.out]; rfl
              · exact HAll.out j (by omega)⟩⟩
            case measure => simp [intOf]; omega
        · have hk00 : k = 0 := by omega
          subst hk00
          have HBd2 : Hid (badEv now delta next l 0 = false) := Lib.hid (by rw [HBd.out, HL4.out, HF4.out, ← HGb.out]; simp)
          clear hk0
          go_wp2_with fail
          refine wp_region_held_drew (S := fun w' => True) (by kernel_rfl) (trivial) (fun hHeld => ?_)
          refine wpAnyH_take (i := 0) (v := ?_) (by simp only [List.getElem?_toArray, List.getElem?_cons_succ, List.getElem?_cons_zero]; rfl) (by kernel_rfl) (by kernel_rfl) (by kernel_rfl) (by intro _ _ _ h; exact h) (Or.inl ⟨by rfl, ?_⟩) (by assumption) ?_
          rotate_left
          · intro w hSw; (try dsimp only at hSw); go_simp; try with_reducible rfl
          try simp only [Act.put, List.setIfInBounds_toArray, List.set_cons_zero, List.set_cons_succ]
          refine wpAnyH_take (i := 1) (v := ?_) (by simp only [List.getElem?_toArray, List.getElem?_cons_succ, List.getElem?_cons_zero]; rfl) (by kernel_rfl) (by kernel_rfl) (by kernel_rfl) (by intro _ _ _ h; exact h) (Or.inl ⟨by rfl, ?_⟩) (by assumption) ?_
          rotate_left
          · intro w hSw; (try dsimp only at hSw); go_simp; try with_reducible rfl
          try simp only [Act.put, List.setIfInBounds_toArray, List.set_cons_zero, List.set_cons_succ]
          refine wpAnyH_take (i := 2) (v := ?_) (by simp only [List.getElem?_toArray, List.getElem?_cons_succ, List.getElem?_cons_zero]; rfl) (by kernel_rfl) (by kernel_rfl) (by kernel_rfl) (by intro _ _ _ h; exact h) (Or.inl ⟨by rfl, ?_⟩) (by assumption) ?_
          rotate_left
          · intro w hSw; (try dsimp only at hSw); go_simp; try with_reducible rfl
          try simp only [Act.put, List.setIfInBounds_toArray, List.set_cons_zero, List.set_cons_succ]
          refine wpAnyH_take (i := 3) (v := undef) (by simp only [List.getElem?_toArray, List.getElem?_cons_succ, List.getElem?_cons_zero]; rfl) (by kernel_rfl) (by kernel_rfl) (by kernel_rfl) (by intro _ _ _ h; exact h) (Or.inr ⟨by rfl, rfl⟩) (by assumption) ?_
          try simp only [Act.put, List.setIfInBounds_toArray, List.set_cons_zero, List.set_cons_succ]
          refine wpAnyH_take (i := 4) (v := undef) (by simp only [List.getElem?_toArray, List.getElem?_cons_succ, List.getElem?_cons_zero]; rfl) (by kernel_rfl) (by kernel_rfl) (by kernel_rfl) (by intro _ _ _ h; exact h) (Or.inr ⟨by rfl, rfl⟩) (by assumption) ?_
          try simp only [Act.put, List.setIfInBounds_toArray, List.set_cons_zero, List.set_cons_succ]
          refine wpAnyH_take (i := 5) (v := undef) (by simp only [List.getElem?_toArray, List.getElem?_cons_succ, List.getElem?_cons_zero]; rfl) (by kernel_rfl) (by kernel_rfl) (by kernel_rfl) (by intro _ _ _ h; exact h) (Or.inr ⟨by rfl, rfl⟩) (by assumption) ?_
          try simp only [Act.put, List.setIfInBounds_toArray, List.set_cons_zero, List.set_cons_succ]
          refine wpAnyH_take (i := 6) (v := undef) (by simp only [List.getElem?_toArray, List.getElem?_cons_succ, List.getElem?_cons_zero]; rfl) (by kernel_rfl) (by kernel_rfl) (by kernel_rfl) (by intro _ _ _ h; exact h) (Or.inr ⟨by rfl, rfl⟩) (by assumption) ?_
          try simp only [Act.put, List.setIfInBounds_toArray, List.set_cons_zero, List.set_cons_succ]
          refine wpAnyH_take (i := 7) (v := undef) (by simp only [List.getElem?_toArray, List.getElem?_cons_succ, List.getElem?_cons_zero]; rfl) (by kernel_rfl) (by kernel_rfl) (by kernel_rfl) (by intro _ _ _ h; exact h) (Or.inr ⟨by rfl, rfl⟩) (by assumption) ?_
          try simp only [Act.put, List.setIfInBounds_toArray, List.set_cons_zero, List.set_cons_succ]
          refine wpAnyH_take (i := 8) (v := undef) (by simp only [List.getElem?_toArray, List.getElem?_cons_succ, List.getElem?_cons_zero]; rfl) (by kernel_rfl) (by kernel_rfl) (by kernel_rfl) (by intro _ _ _ h; exact h) (Or.inr ⟨by rfl, rfl⟩) (by assumption) ?_
          try simp only [Act.put, List.setIfInBounds_toArray, List.set_cons_zero, List.set_cons_succ]
          refine wpAnyH_take (i := 9) (v := undef) (by simp only [List.getElem?_toArray, List.getElem?_cons_succ, List.getElem?_cons_zero]; rfl) (by kernel_rfl) (by kernel_rfl) (by kernel_rfl) (by intro _ _ _ h; exact h) (Or.inr ⟨by rfl, rfl⟩) (by assumption) ?_
          try simp only [Act.put, List.setIfInBounds_toArray, List.set_cons_zero, List.set_cons_succ]
          refine wpAnyH_take (i := 10) (v := undef) (by simp only [List.getElem?_toArray, List.getElem?_cons_succ, List.getElem?_cons_zero]; rfl) (by kernel_rfl) (by kernel_rfl) (by kernel_rfl) (by intro _ _ _ h; exact h) (Or.inr ⟨by rfl, rfl⟩) (by assumption) ?_
          try simp only [Act.put, List.setIfInBounds_toArray, List.set_cons_zero, List.set_cons_succ]
          refine wpAnyH_take (i := 11) (v := undef) (by simp only [List.getElem?_toArray, List.getElem?_cons_succ, List.getElem?_cons_zero]; rfl) (by kernel_rfl) (by kernel_rfl) (by kernel_rfl) (by intro _ _ _ h; exact h) (Or.inr ⟨by rfl, rfl⟩) (by assumption) ?_
          try simp only [Act.put, List.setIfInBounds_toArray, List.set_cons_zero, List.set_cons_succ]
          refine wpAnyH_take (i := 12) (v := ?_) (by simp only [List.getElem?_toArray, List.getElem?_cons_succ, List.getElem?_cons_zero]; rfl) (by kernel_rfl) (by kernel_rfl) (by kernel_rfl) (by intro _ _ _ h; exact h) (Or.inl ⟨by rfl, ?_⟩) (by assumption) ?_
          rotate_left
          · intro w hSw; (try dsimp only at hSw); go_simp; try with_reducible rfl
          try simp only [Act.put, List.setIfInBounds_toArray, List.set_cons_zero, List.set_cons_succ]
          refine wpAnyH_done (by kernel_rfl) ?_ _
          go_wp2_with fail
          go_roundw
          case rel => exact ⟨1, by omega, by go_num, Lib.hid ⟨HR9.out.trans ((Below.refl _ _).drew.mono HR9.out.size), fun j hj => by
            obtain rfl : j = 0 := by omega
            exact HBd2.out⟩⟩
          case measure => simp [intOf]; omega
      · have HL := Lib.hid (HBad.out (by rw [HBd.out, ← HGb.out]; simp))
        go_wp2_with fail
        go_ret
        exact ⟨by rw [HL.out]; rfl, HB9.out⟩
    · obtain rfl : k = n := by omega
      have HL : Hid (E = 0) := Lib.hid (HE.out.trans (checkE_ok HLow.out (fun i hi => HAll.out i (by rw [HN.out] at hi; exact hi))))
      clear hh
      go_wp2_with fail
      go_ret
      exact ⟨by rw [HL.out]; rfl, HBw.out⟩
end Go.Proofs.Ytbhbebidkeejbaa
