/- A queue without its first events (first), as the document tells. -/
import Derived.Test.YtbhbebidkeejbaaQ15
namespace Go.Proofs.Ytbhbebidkeejbaa
open Go.RowKit Go.Shelf
set_option linter.unusedVariables false
set_option linter.unusedSimpArgs false

def NewQ1 (w : World) (now delta next : Int) (l : List EvV) (e : Ending) (w' : World) : Prop :=
  ∃ a c, e = .returned (.agg #[.slice a l.length c, .int .i64 now, .int .i64 delta, .int .i64 next]) ∧ l.length ≤ c ∧ (∀ p, a = some p → w.heap.size ≤ p.block) ∧ LAt w' a l ∧ Below w.heap.size w w'
theorem results_first {tmps : Array Value} {w : World} {b : Nat} {s : Value} {x y z : Int} (h2 : tmps[4]?.getD undef = .pointer (some ⟨b, 0, none⟩))
    (h0 : w.cell? ⟨b, 0, none⟩ = some s) (h1 : w.cell? ⟨b, 1, none⟩ = some (.int .i64 x)) (h4 : w.cell? ⟨b, 2, none⟩ = some (.int .i64 y)) (h5 : w.cell? ⟨b, 3, none⟩ = some (.int .i64 z)) :
    (results Try.f36 tmps).run Try.prog w = .ok (.agg #[s, .int .i64 x, .int .i64 y, .int .i64 z]) w := by
  simp [results, go_sem, h2, h0, h1, h4, h5]

set_option maxRecDepth 100000 in
set_option maxHeartbeats 4000000 in
theorem first36 (w : World) (a : Option Addr) (n c : Nat) (now delta next : Int) (l : List EvV) (hn : l.length = n) (h : LAt w a l) (h9 : n ≤ 1000) (hc : n ≤ c) (k : Nat) (hm : k + 1 ≤ n) :
    Calls Try.prog 36 #[.agg #[.slice a n c, .int .i64 now, .int .i64 delta, .int .i64 next], .int .i64 (k + 1 : Nat)] w (NewQ1 w (l.getD k default).t (l.getD k default).d next (l.drop (k + 1))) := by
  have HN := Lib.hid hn
  have HC := Lib.hid hc
  obtain ⟨H, hH⟩ : ∃ h, h = w.heap.size := ⟨_, rfl⟩
  obtain ⟨w1, hw1⟩ : ∃ W, W = (w.alloc (.cells #[.slice a n c, .int .i64 now, .int .i64 delta, .int .i64 next] 24)).alloc (.cells #[.slice none 0 0, .int .i64 0, .int .i64 0, .int .i64 0] 24) := ⟨_, rfl⟩
  have HX1 : Hid (Below w.heap.size w w1) := Lib.hid (by rw [hw1]; exact ((Below.refl _ _).alloc (Nat.le_refl _) _).alloc (by simp) _)
  have hs1 : w1.heap.size = H + 2 := by rw [hw1, hH]; simp
  have k0 : w1.cell? ⟨H, 0, none⟩ = some (.slice a n c) := by rw [hw1, hH]; exact cell_alloc _ (by simp)
  have k3 : w1.cell? ⟨H, 3, none⟩ = some (.int .i64 next) := by rw [hw1, hH]; exact cell_alloc _ (by simp)
  have z0 : w1.cell? ⟨H + 1, 0, none⟩ = some (.slice none 0 0) := by rw [hw1, hH]; simp
  have z1 : w1.cell? ⟨H + 1, 1, none⟩ = some (.int .i64 0) := by rw [hw1, hH]; simp
  have z2 : w1.cell? ⟨H + 1, 2, none⟩ = some (.int .i64 0) := by rw [hw1, hH]; simp
  have z3 : w1.cell? ⟨H + 1, 3, none⟩ = some (.int .i64 0) := by rw [hw1, hH]; simp
  have zf : ∀ i, w1.frozen? ⟨H + 1, i, none⟩ = false := by intro i; rw [hw1, hH]; simp
  obtain ⟨b, off, ha, hbb, e0, e1, e2, e3, e4⟩ := (h.below HX1.out (Nat.le_refl _)).ev k (by omega)
  obtain ⟨x, hx⟩ : ∃ x, x = l.getD k default := ⟨_, rfl⟩
  rw [← hx] at e0 e1 e2 e3 e4 ⊢
  obtain ⟨xt, xd, xn, xs, xv⟩ := x
  dsimp only at e0 e1 e2 e3 e4 ⊢
  subst ha
  have HLA := Lib.hid (h.below HX1.out (Nat.le_refl _))
  have hkn : k < n := by omega
  have HKM := Lib.hid hm
  have HZ := Lib.hid (And.intro z0 (And.intro z1 (And.intro z2 (And.intro z3 zf))))
  have HK := Lib.hid (And.intro k0 k3)
  have HS1 := Lib.hid hs1
  have HW1 := Lib.hid hw1
  have HHH := Lib.hid hH
  obtain ⟨ob, hob⟩ : ∃ o : Addr, (if c = k + 1 then some (⟨b, off, none⟩ : Addr) else some ⟨b, off + (k + 1) * 5, none⟩) = some o := by
    by_cases e : c = k + 1
    · exact ⟨_, if_pos e⟩
    · exact ⟨_, if_neg e⟩
  have HLo : Hid (∀ W, Below w1.heap.size w1 W → LAt W (some ob) (l.drop (k + 1))) := Lib.hid (fun W hW => by
    have hl : LAt W (some ⟨b, off, none⟩) l := HLA.out.below hW (Nat.le_refl _)
    by_cases e : c = k + 1
    · have := HC.out
      rw [List.drop_of_length_le (by rw [HN.out]; omega)]
      exact ⟨.inl rfl, fun e he => by cases he⟩
    · rw [if_neg e] at hob
      injection hob with hob
      rw [← hob]
      exact hl.behind (k + 1) (by rw [HN.out]; exact hm))
  have HOb := Lib.hid hob
  obtain ⟨w3, hw3⟩ : ∃ W, W = w1.alloc (Obj.cells #[Value.int .i64 xt, Value.int .i64 xd, Value.int .i64 xn, Value.int .i64 xs, Value.int .u64 xv] 35) := ⟨_, rfl⟩
  obtain ⟨px, hpx⟩ : ∃ p, p = w1.heap.size := ⟨_, rfl⟩
  have hB3 : Below w1.heap.size w1 w3 := by rw [hw3]; exact (Below.refl _ _).alloc (Nat.le_refl _) _
  have HP : Hid (w3.cell? ⟨px, 0, none⟩ = some (.int .i64 xt) ∧ w3.cell? ⟨px, 1, none⟩ = some (.int .i64 xd)) := Lib.hid ⟨by rw [hw3, hpx]; simp, by rw [hw3, hpx]; simp⟩
  have HB3 := Lib.hid hB3
  have HW3 := Lib.hid hw3
  have HPx := Lib.hid hpx
  have hmc : k + 1 ≤ c := by omega
  have hpx2 : px = w.heap.size + 1 + 1 := by rw [hpx, hs1, hH]
  have HPx2 := Lib.hid hpx2
  have hmi : decide ((0 : Int) < (k : Int) + 1) = true := by simp <;> omega
  have HPp : Hid (H < px ∧ H + 1 < px) := Lib.hid (by omega)
  rw [hw1] at e0 e1 e2 e3 e4 k0
  rw [hH] at k0
  clear hpx2 h hn hH hw1 hs1 k3 z0 z1 z2 z3 zf hbb hx hc hw3 hpx hB3
  go_enter Try.func36, Try.ntmps36
  go_wp2_with fail
  rw [← HW1.out, ← HPx2.out, ← HW3.out]
  rw [← HHH.out]
  have HSS : Hid (∀ W, Below w3.heap.size w3 W → W.cell? ⟨H, 0, none⟩ = some (.slice (some ⟨b, off, none⟩) n c) ∧ W.cell? ⟨H, 3, none⟩ = some (.int .i64 next) ∧ W.cell? ⟨px, 0, none⟩ = some (.int .i64 xt) ∧ W.cell? ⟨px, 1, none⟩ = some (.int .i64 xd)) := Lib.hid (fun W hW => by
    have hb : Below w1.heap.size w1 W := HB3.out.trans (hW.mono HB3.out.size)
    have cl : ∀ {b j : Nat} {u : Value}, w1.cell? ⟨b, j, none⟩ = some u → W.cell? ⟨b, j, none⟩ = some u := fun h => (hb.cell (p := ⟨_, _, none⟩) (World.block_lt_of_cell? w1 _ h)).trans h
    have cm : ∀ {b j : Nat} {u : Value}, w3.cell? ⟨b, j, none⟩ = some u → W.cell? ⟨b, j, none⟩ = some u := fun h => (hW.cell (p := ⟨_, _, none⟩) (World.block_lt_of_cell? w3 _ h)).trans h
    exact ⟨cl HK.out.1, cl HK.out.2, cm HP.out.1, cm HP.out.2⟩)
  have HZ3 : Hid (∀ W, Below w3.heap.size w3 W → W.cell? ⟨H + 1, 0, none⟩ = some (.slice none 0 0) ∧ W.cell? ⟨H + 1, 1, none⟩ = some (.int .i64 0) ∧ W.cell? ⟨H + 1, 2, none⟩ = some (.int .i64 0) ∧ W.cell? ⟨H + 1, 3, none⟩ = some (.int .i64 0) ∧ W.frozen? ⟨H + 1, 0, none⟩ = false ∧ W.frozen? ⟨H + 1, 1, none⟩ = false ∧ W.frozen? ⟨H + 1, 2, none⟩ = false ∧ W.frozen? ⟨H + 1, 3, none⟩ = false) := Lib.hid (fun W hW => by
    have hb : Below w1.heap.size w1 W := HB3.out.trans (hW.mono HB3.out.size)
    have hl : H + 1 < w1.heap.size := by have := HS1.out; omega
    have cl : ∀ {j : Nat} {u : Value}, w1.cell? ⟨H + 1, j, none⟩ = some u → W.cell? ⟨H + 1, j, none⟩ = some u := fun h => (hb.cell (p := ⟨_, _, none⟩) hl).trans h
    have fl : ∀ j, W.frozen? ⟨H + 1, j, none⟩ = false := fun j => (hb.frozen (p := ⟨_, _, none⟩) hl).trans (HZ.out.2.2.2.2 j)
    exact ⟨cl HZ.out.1, cl HZ.out.2.1, cl HZ.out.2.2.1, cl HZ.out.2.2.2.1, fl 0, fl 1, fl 2, fl 3⟩)
  clear e0 e1 e2 e3 e4 k0
  refine wp_region_K (S := fun w' => w'.cell? ⟨H, 0, none⟩ = some (.slice (some ⟨b, off, none⟩) n c) ∧ w'.cell? ⟨H, 3, none⟩ = some (.int .i64 next) ∧ w'.cell? ⟨px, 0, none⟩ = some (.int .i64 xt) ∧ w'.cell? ⟨px, 1, none⟩ = some (.int .i64 xd)) 13 (by kernel_rfl) (HSS.out _ (Below.refl _ _).drew) (fun hHeld => ?_)
  refine wpAnyK_take (i := 1) (v := ?_) (by simp only [List.getElem?_toArray, List.getElem?_cons_succ, List.getElem?_cons_zero]; rfl) (by kernel_rfl) (by kernel_rfl) (by kernel_rfl) (by kernel_rfl) (by intro _ _ _ h; exact h) (Or.inl ⟨by rfl, ?_⟩) (by assumption) ?_
  rotate_left
  · intro w hSw; (try dsimp only at hSw); go_simp; try with_reducible rfl
  try simp only [Act.put, List.setIfInBounds_toArray, List.set_cons_zero, List.set_cons_succ]
  refine wpAnyK_take (i := 2) (v := ?_) (by simp only [List.getElem?_toArray, List.getElem?_cons_succ, List.getElem?_cons_zero]; rfl) (by kernel_rfl) (by kernel_rfl) (by kernel_rfl) (by kernel_rfl) (by intro _ _ _ h; exact h) (Or.inl ⟨by rfl, ?_⟩) (by assumption) ?_
  rotate_left
  · intro w hSw; (try dsimp only at hSw); go_simp; try with_reducible rfl
  try simp only [Act.put, List.setIfInBounds_toArray, List.set_cons_zero, List.set_cons_succ]
  refine wpAnyK_take (i := 3) (v := ?_) (by simp only [List.getElem?_toArray, List.getElem?_cons_succ, List.getElem?_cons_zero]; rfl) (by kernel_rfl) (by kernel_rfl) (by kernel_rfl) (by kernel_rfl) (by intro _ _ _ h; exact h) (Or.inl ⟨by rfl, ?_⟩) (by assumption) ?_
  rotate_left
  · intro w hSw; (try dsimp only at hSw); go_simp; try with_reducible rfl
  try simp only [Act.put, List.setIfInBounds_toArray, List.set_cons_zero, List.set_cons_succ]
  refine wpAnyK_take (i := 4) (v := ?_) (by simp only [List.getElem?_toArray, List.getElem?_cons_succ, List.getElem?_cons_zero]; rfl) (by kernel_rfl) (by kernel_rfl) (by kernel_rfl) (by kernel_rfl) (by intro _ _ _ h; exact h) (Or.inl ⟨by rfl, ?_⟩) (by assumption) ?_
  rotate_left
  · intro w hSw; (try dsimp only at hSw); go_simp; first | with_reducible rfl | rw [if_pos (by omega)]
  try simp only [Act.put, List.setIfInBounds_toArray, List.set_cons_zero, List.set_cons_succ]
  refine wpAnyK_take (i := 6) (v := ?_) (by simp only [List.getElem?_toArray, List.getElem?_cons_succ, List.getElem?_cons_zero]; rfl) (by kernel_rfl) (by kernel_rfl) (by kernel_rfl) (by kernel_rfl) (by intro _ _ _ h; exact h) (Or.inl ⟨by rfl, ?_⟩) (by assumption) ?_
  rotate_left
  · intro w hSw; (try dsimp only at hSw); go_simp; try with_reducible rfl
  try simp only [Act.put, List.setIfInBounds_toArray, List.set_cons_zero, List.set_cons_succ]
  refine wpAnyK_take (i := 7) (v := ?_) (by simp only [List.getElem?_toArray, List.getElem?_cons_succ, List.getElem?_cons_zero]; rfl) (by kernel_rfl) (by kernel_rfl) (by kernel_rfl) (by kernel_rfl) (by intro _ _ _ h; exact h) (Or.inl ⟨by rfl, ?_⟩) (by assumption) ?_
  rotate_left
  · intro w hSw; (try dsimp only at hSw); go_simp; try with_reducible rfl
  try simp only [Act.put, List.setIfInBounds_toArray, List.set_cons_zero, List.set_cons_succ]
  refine wpAnyK_take (i := 8) (v := ?_) (by simp only [List.getElem?_toArray, List.getElem?_cons_succ, List.getElem?_cons_zero]; rfl) (by kernel_rfl) (by kernel_rfl) (by kernel_rfl) (by kernel_rfl) (by intro _ _ _ h; exact h) (Or.inl ⟨by rfl, ?_⟩) (by assumption) ?_
  rotate_left
  · intro w hSw; (try dsimp only at hSw); go_simp; try with_reducible rfl
  try simp only [Act.put, List.setIfInBounds_toArray, List.set_cons_zero, List.set_cons_succ]
  refine wpAnyK_take (i := 9) (v := ?_) (by simp only [List.getElem?_toArray, List.getElem?_cons_succ, List.getElem?_cons_zero]; rfl) (by kernel_rfl) (by kernel_rfl) (by kernel_rfl) (by kernel_rfl) (by intro _ _ _ h; exact h) (Or.inl ⟨by rfl, ?_⟩) (by assumption) ?_
  rotate_left
  · intro w hSw; (try dsimp only at hSw); go_simp; try with_reducible rfl
  try simp only [Act.put, List.setIfInBounds_toArray, List.set_cons_zero, List.set_cons_succ]
  refine wpAnyK_take (i := 10) (v := ?_) (by simp only [List.getElem?_toArray, List.getElem?_cons_succ, List.getElem?_cons_zero]; rfl) (by kernel_rfl) (by kernel_rfl) (by kernel_rfl) (by kernel_rfl) (by intro _ _ _ h; exact h) (Or.inl ⟨by rfl, ?_⟩) (by assumption) ?_
  rotate_left
  · intro w hSw; (try dsimp only at hSw); go_simp; try with_reducible rfl
  try simp only [Act.put, List.setIfInBounds_toArray, List.set_cons_zero, List.set_cons_succ]
  refine wpAnyK_take (i := 11) (v := ?_) (by simp only [List.getElem?_toArray, List.getElem?_cons_succ, List.getElem?_cons_zero]; rfl) (by kernel_rfl) (by kernel_rfl) (by kernel_rfl) (by kernel_rfl) (by intro _ _ _ h; exact h) (Or.inl ⟨by rfl, ?_⟩) (by assumption) ?_
  rotate_left
  · intro w hSw; (try dsimp only at hSw); go_simp; try with_reducible rfl
  try simp only [Act.put, List.setIfInBounds_toArray, List.set_cons_zero, List.set_cons_succ]
  refine wpAnyK_ready (rs := [0]) (by kernel_rfl) (by simp) ?_
  refine AllReadyK.cons (o := _) (by simp only [List.getElem?_toArray, List.getElem?_cons_succ, List.getElem?_cons_zero]; rfl) (fun K hK => ?_) AllReadyK.nil
  go_simp

  refine hK.out _ _ (fun _ => by exact HSS.out _ ((Below.refl _ _).drew.alloc (Nat.le_refl _) _)) (fun hH => ?_)
  have hHeld := hH (by decide)
  clear hK K hH
  try simp only [Act.put, List.setIfInBounds_toArray, List.set_cons_zero, List.set_cons_succ]
  refine wpAnyK_ready (rs := [5]) (by kernel_rfl) (by simp) ?_
  refine AllReadyK.cons (o := _) (by simp only [List.getElem?_toArray, List.getElem?_cons_succ, List.getElem?_cons_zero]; rfl) (fun K hK => ?_) AllReadyK.nil
  rw [if_pos (by rfl)]
  have hrow : (w3.drew.alloc (Obj.cells #[] 35)).ownsRow w3.heap.size 35 5 (.slice (some ⟨w3.heap.size, 0, none⟩) 0 0) 0 [] := World.ownsRow_lit (base := w3.heap.size) (size := 5) w3.drew #[] 0 (Nat.le_refl _) (Nat.zero_le _) rfl
  refine wp_append5 (w := (w3.drew.alloc (Obj.cells #[] 35))) (.tmp 12) (.tmp 16) rfl w3.heap.size (.slice (some ⟨w3.heap.size, 0, none⟩) 0 0) 0 [] rfl hrow (some ob) (n - (k + 1)) (c - (k + 1)) ((l.drop (k + 1)).flatMap EvV.cells) rfl (by rw [flat5_length, List.length_drop, HN.out, Nat.mul_comm]) (by intro h; cases h) (fun ad had j u hj => ((HLo.out (w3.drew.alloc (Obj.cells #[] 35)) (HB3.out.trans (((Below.refl _ _).drew.alloc (Nat.le_refl _) _).mono HB3.out.size))).front (n - (k + 1)) (by rw [List.length_drop, HN.out]; exact Nat.le_refl _) ad had j u (by rw [List.take_of_length_le (by rw [List.length_drop, HN.out]; exact Nat.le_refl _)]; exact hj))) (flat5_one _) (by omega) (by simp <;> omega) ?_
  intro va wa ho hg
  have HBa : Hid (Below w3.heap.size w3 wa) := Lib.hid (((Below.refl _ _).drew.alloc (Nat.le_refl _) _).grown hg (by simp <;> omega) (fun k e => (hrow.lt k e).1))
  have hoa : wa.ownsRow w3.heap.size 35 5 va (n - (k + 1)) ((l.drop (k + 1)).flatMap EvV.cells) := by simpa using ho
  obtain ⟨oa, ca, rfl, hca⟩ := own_slice hoa
  have HOa := Lib.hid hoa
  have HCa := Lib.hid hca
  obtain ⟨z0, z1, z2, z3, f0, f1, f2, f3⟩ := HZ3.out wa HBa.out
  clear ho hg hrow hoa hca
  refine hK.out _ _ (fun _ => by exact HSS.out _ HBa.out) (fun hH => ?_)
  have hHeld := hH (by decide)
  clear hK K hH
  try simp only [Act.put, List.setIfInBounds_toArray, List.set_cons_zero, List.set_cons_succ]
  refine wpAnyK_take (i := 12) (v := ?_) (by simp only [List.getElem?_toArray, List.getElem?_cons_succ, List.getElem?_cons_zero]; rfl) (by kernel_rfl) (by kernel_rfl) (by kernel_rfl) (by kernel_rfl) (by intro _ _ _ h; exact h) (Or.inl ⟨by rfl, ?_⟩) (by assumption) ?_
  rotate_left
  · intro w hSw; (try dsimp only at hSw); go_simp; try with_reducible rfl
  try simp only [Act.put, List.setIfInBounds_toArray, List.set_cons_zero, List.set_cons_succ]
  refine wpAnyK_ready (rs := [13]) (by kernel_rfl) (by simp) ?_
  refine AllReadyK.cons (o := _) (by simp only [List.getElem?_toArray, List.getElem?_cons_succ, List.getElem?_cons_zero]; rfl) (fun K hK => ?_) AllReadyK.nil
  go_simp

  refine hK.out _ _ (fun h => absurd rfl h) (fun _ => ?_)
  clear hK K
  try simp only [Act.put, List.setIfInBounds_toArray, List.set_cons_zero, List.set_cons_succ]
  refine wpAnyK_done (by kernel_rfl) ?_ _
  go_wp2_with fail
  refine bodyPost_ret (results_first (b := H + 1) rfl (set_keep (set_keep (set_keep (cell?_set_own z0) (by decide)) (by decide)) (by decide)) (set_keep (set_keep (cell?_set_own (set_keep z1 (by decide))) (by decide)) (by decide)) (set_keep (cell?_set_own (set_keep (set_keep z2 (by decide)) (by decide))) (by decide)) (cell?_set_own (set_keep (set_keep (set_keep z3 (by decide)) (by decide)) (by decide)))) rfl ?_
  have hld : (l.drop (k + 1)).length = n - (k + 1) := by rw [List.length_drop, HN.out]
  have hsz : H + 1 < w3.heap.size := by have := HB3.out.size; have := HS1.out; omega
  have hw : w.heap.size ≤ w3.heap.size := Nat.le_trans HX1.out.size HB3.out.size
  refine ⟨oa, ca, by rw [hld], by rw [hld]; exact HCa.out, fun p hp => Nat.le_trans hw (own_fresh HOa.out p hp), ?_, ?_⟩
  · exact (own_lat (base := w3.heap.size) (c := ca) HOa.out hld (fun e he => HLA.out.each e (List.mem_of_mem_drop he))).put4 (own_fresh HOa.out) hsz
  · exact put4_below (HX1.out.trans ((HB3.out.trans (HBa.out.mono HB3.out.size)).mono HX1.out.size)) (by have := HHH.out; omega)
end Go.Proofs.Ytbhbebidkeejbaa
