import Derived.Test.YtibimdhmfchcoaaBA
namespace Go.Proofs.Ytibimdhmfchcoaa
open Go.RowKit Go.Shelf Go.Maps
set_option linter.unusedVariables false
set_option linter.unusedSimpArgs false


theorem few_of (N : NetV) (h : fewB N = true) : Few N := by
  unfold fewB at h
  simp only [Bool.and_eq_true, decide_eq_true_eq, List.all_eq_true] at h
  exact ⟨h.1.1.1.1, h.1.1.1.2, h.1.1.2, h.1.2, h.2⟩
theorem countP_more {α : Type} (p q : α → Bool) (l : List α) (h : ∀ x ∈ l, p x = true → q x = true) : l.countP p ≤ l.countP q := List.countP_mono_left h
theorem countP_gain {α : Type} (p q : α → Bool) (l : List α) (h : ∀ x ∈ l, p x = true → q x = true) (y : α) (hy : y ∈ l) (h1 : q y = true) (h0 : p y = false) : l.countP p + 1 ≤ l.countP q := by
  induction l with
  | nil => cases hy
  | cons x l ih =>
    rw [List.countP_cons, List.countP_cons]
    rcases List.mem_cons.1 hy with rfl | hy
    · have := countP_more p q l (fun x hx => h x (List.mem_cons_of_mem _ hx))
      rw [h1, h0]; simp; omega
    · have := ih (fun x hx => h x (List.mem_cons_of_mem _ hx)) hy
      have hx := h x (List.mem_cons_self ..)
      cases hp : p x
      · simp; omega
      · rw [hx hp]; simp; omega
theorem lut_count (N : NetV) (f : Int → Int) (k : Nat) : k ≤ N.holds.countP (fun h => decide (fstN N ≤ h.d) && decide (h.d < fstN N + k)) + (lutBlks N (whoF N) f k).length := by
  induction k with
  | zero => omega
  | succ k ih =>
    unfold lutBlks
    have hm : ∀ h ∈ N.holds, (decide (fstN N ≤ h.d) && decide (h.d < fstN N + k)) = true → (decide (fstN N ≤ h.d) && decide (h.d < fstN N + ((k + 1 : Nat) : Int))) = true := by
      intro h _ hh
      simp only [Bool.and_eq_true, decide_eq_true_eq] at hh ⊢
      omega
    split
    · rename_i hg
      unfold whoF whoTo at hg
      simp only [Bool.and_eq_true, decide_eq_true_eq, List.any_eq_true, List.take_of_length_le (Nat.le_refl _)] at hg
      obtain ⟨⟨h, hh, he⟩, _⟩ := hg
      have he : h.d = fstN N + k := by simpa using he
      have := countP_gain _ (fun h => decide (fstN N ≤ h.d) && decide (h.d < fstN N + ((k + 1 : Nat) : Int))) N.holds hm h hh (by simp; omega) (by simp; omega)
      omega
    · have := countP_more _ (fun h => decide (fstN N ≤ h.d) && decide (h.d < fstN N + ((k + 1 : Nat) : Int))) N.holds hm
      rw [List.length_append, List.length_singleton]
      omega
theorem packBlks_luts (N : NetV) : N.luts.length ≤ (packBlks N).length := by
  have h := lut_count N (wiresF N) N.luts.length
  have h2 := List.countP_le_length (p := fun h : HoldV => decide (fstN N ≤ h.d) && decide (h.d < fstN N + N.luts.length)) (l := N.holds)
  unfold packBlks holdBlks
  rw [List.length_append, List.length_append, List.length_map, List.length_take]
  omega

set_option maxRecDepth 100000 in
set_option maxHeartbeats 8000000 in
theorem packFew (w : World) (N : NetV) (hN : NetAt w N) : Calls Try.prog 4 #[N.val] w fun e w' => e = .returned (.bool true) ∧ Below w.heap.size w w' := by
  go_enter Try.func4, Try.ntmps4
  go_wp2_with fail
  refine (live14 _).mono ?_
  rintro e w1 ⟨rfl, hb⟩
  have hx := (Box.start w N).step hb (by simp)
  have b0 := hx.c0
  have b1 := hx.c1
  have b2 := hx.c2
  have b3 := hx.c3
  have HX := Lib.hid hx
  clear hx hb
  go_wp2_with fail
  refine (fewNet _ N (hN.below HX.out.below (Nat.le_refl _))).mono ?_
  rintro e w2 ⟨rfl, hb⟩
  have hx := HX.out.step hb HX.out.size
  have b0 := hx.c0
  have b1 := hx.c1
  have b2 := hx.c2
  have b3 := hx.c3
  have HX2 := Lib.hid hx
  clear hx hb
  obtain ⟨fb, hfb⟩ : ∃ b, b = fewB N := ⟨_, rfl⟩
  rw [← hfb]
  have HFb := Lib.hid hfb
  clear hfb
  cases fb
  · go_wp2
    go_ret
    exact ⟨rfl, HX2.out.below⟩
  have HF := Lib.hid (few_of N HFb.out.symm)
  go_wp2_with fail
  refine (packs _ N (hN.below HX2.out.below (Nat.le_refl _)) HF.out).mono ?_
  rintro e w3 (⟨hok, P, hi, hbd, ho, rfl, hr, hb⟩ | ⟨hno, rfl, hb⟩)
  · have hx := HX2.out.step hb HX2.out.size
    have b0 := hx.c0
    have b1 := hx.c1
    have b2 := hx.c2
    have b3 := hx.c3
    have HX3 := Lib.hid hx
    have hlt : w.heap.size < w3.heap.size := World.block_lt_of_cell? w3 _ b0
    have h1 := packBlks_length N
    have h2 := packBlks_luts N
    have hlen := congrArg List.length hbd
    rw [List.length_map] at hlen
    rw [← hlen] at h1 h2
    obtain ⟨pi, ba, bc, bs, oa, oc, os⟩ := P
    dsimp only at h1 h2
    obtain ⟨n, hn⟩ : ∃ n, n = bs.length := ⟨_, rfl⟩
    have k1 := HF.out.holds
    have k2 := HF.out.luts
    simp only [PackV.val]
    rw [← hn] at h1 h2 ⊢
    obtain ⟨g1, g2⟩ := h1
    obtain ⟨HH, hH⟩ : ∃ m, m = N.holds.length := ⟨_, rfl⟩
    obtain ⟨LL, hL⟩ : ∃ m, m = N.luts.length := ⟨_, rfl⟩
    rw [← hH] at b1 g1 g2 k1
    rw [← hL] at b2 g1 h2 k2
    have d1 : decide ((n : Int) ≤ wrap64 (wrap64 ((HH : Int) + (LL : Int)) + 1)) = true := by
      rw [show (HH : Int) + (LL : Int) = ((HH + LL : Nat) : Int) by omega, wrap64_small _ (by omega), show ((HH + LL : Nat) : Int) + 1 = ((HH + LL + 1 : Nat) : Int) by omega, wrap64_small _ (by omega)]
      simpa using (by omega : (n : Int) ≤ ((HH + LL + 1 : Nat) : Int))
    have d2 : decide (LL ≤ n) = true := by simpa using h2
    have d3 : decide (HH ≤ n) = true := by simpa using g2
    have HB3 := Lib.hid hb
    clear hr hbd hlen g1 g2 h2 k1 k2 hn hH hL hx hb
    go_wp2_with fail
    go_ret
    exact ⟨by simp, HX3.out.below.trans ((Below.refl _ _).alloc (by omega) _)⟩
  · have hx := HX2.out.step hb HX2.out.size
    have b0 := hx.c0
    have b1 := hx.c1
    have b2 := hx.c2
    have b3 := hx.c3
    have HX3 := Lib.hid hx
    have hlt : w.heap.size < w3.heap.size := World.block_lt_of_cell? w3 _ b0
    have HNo := Lib.hid hno
    clear hx hb hno
    go_wp2_with fail
    refine (check _ N (hN.below (HX3.out.below.trans ((Below.refl _ _).alloc (by omega) _)) (Nat.le_refl _)) HF.out 4 (by omega)).mono ?_
    rintro e w4 ⟨rfl, hb4⟩
    obtain ⟨c, hc⟩ : ∃ c, c = chk N 4 := ⟨_, rfl⟩
    have hc1 : c = 1 := by rw [hc]; unfold chk; rw [if_neg HNo.out]
    rw [← hc, hc1]
    have HB4 := Lib.hid (HX3.out.below.trans (((Below.refl _ _).alloc (B := w.heap.size) (by omega) _).trans (hb4.mono (by simp; omega))))
    clear hc hc1 hb4
    go_wp2
    go_ret
    exact ⟨rfl, HB4.out⟩
end Go.Proofs.Ytibimdhmfchcoaa

