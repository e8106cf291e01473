import Derived.Test.YtkcilpkcjhnkaaaB5
/- T32 -/
namespace Go.Proofs.Ytkcilpkcjhnkaaa
open Go.RowKit
set_option linter.unusedVariables false
set_option linter.unusedSimpArgs false

theorem isNaN (w : World) (x : Int) : Calls Try.prog 67 #[.int .i64 x] w fun e w' => e = .returned (.bool false) ∧ w = w' := by
  go_enter Try.func67, Try.ntmps67
  go_wp2
  go_ret
  exact ⟨ret_bool (by simp), rfl⟩

def cmpI (x y : Int) : Int := if x < y then -1 else if y < x then 1 else 0

theorem compare (w : World) (x y : Int) : Calls Try.prog 50 #[.int .i64 x, .int .i64 y] w fun e w' => e = .returned (.int .i64 (cmpI x y)) ∧ w = w' := by
  by_cases h1 : x < y
  · have hc : cmpI x y = -1 := if_pos h1
    rw [hc]
    clear hc
    go_enter Try.func50, Try.ntmps50
    go_wp2_with fail
    refine (isNaN _ _).mono ?_
    rintro e w1 ⟨rfl, rfl⟩
    go_wp2_with fail
    refine (isNaN _ _).mono ?_
    rintro e w1 ⟨rfl, rfl⟩
    go_wp2
    go_ret
    exact ⟨rfl, rfl⟩
  · by_cases h2 : y < x
    · have hc : cmpI x y = 1 := by rw [cmpI, if_neg h1, if_pos h2]
      rw [hc]
      clear hc
      go_enter Try.func50, Try.ntmps50
      go_wp2_with fail
      refine (isNaN _ _).mono ?_
      rintro e w1 ⟨rfl, rfl⟩
      go_wp2_with fail
      refine (isNaN _ _).mono ?_
      rintro e w1 ⟨rfl, rfl⟩
      go_wp2
      go_ret
      exact ⟨rfl, rfl⟩
    · have hc : cmpI x y = 0 := by rw [cmpI, if_neg h1, if_neg h2]
      rw [hc]
      clear hc
      go_enter Try.func50, Try.ntmps50
      go_wp2_with fail
      refine (isNaN _ _).mono ?_
      rintro e w1 ⟨rfl, rfl⟩
      go_wp2_with fail
      refine (isNaN _ _).mono ?_
      rintro e w1 ⟨rfl, rfl⟩
      go_wp2
      go_ret
      exact ⟨rfl, rfl⟩

def or2I (x y : Int) : Int := if x ≠ 0 then x else y

theorem or2 (w : World) (g : Nat) (x y : Int) (c : Nat) (h0 : w.cell? ⟨g, 0, none⟩ = some (.int .i64 x)) (h1 : w.cell? ⟨g, 1, none⟩ = some (.int .i64 y)) :
    Calls Try.prog 49 #[.slice (some ⟨g, 0, none⟩) 2 c] w fun e w' => e = .returned (.int .i64 (or2I x y)) ∧ w = w' := by
  obtain ⟨z, hz⟩ : ∃ z, z = or2I x y := ⟨_, rfl⟩
  rw [← hz]
  have HZ := Lib.hid hz
  clear hz
  go_enter Try.func49, Try.ntmps49
  go_wp2
  go_loop [8] (fun i => ∃ k : Nat, k ≤ 2 ∧ i = .int .i64 k ∧ (1 ≤ k → x = 0) ∧ (2 ≤ k → y = 0)) (fun i => 2 - (intOf i).toNat)
  case atStart => exact ⟨0, by omega, rfl, fun h => by omega, fun h => by omega⟩
  case round =>
    obtain ⟨k, hk, rfl, hx, hy⟩ := hrel
    rcases (show k = 0 ∨ k = 1 ∨ k = 2 by omega) with rfl | rfl | rfl
    · clear hx hy
      by_cases hx0 : x = 0
      · subst hx0
        go_wp2
        go_round
        case rel => exact ⟨1, by omega, by go_num, fun _ => by trivial, fun h => by omega⟩
        case measure => simp [intOf]
      · have hb : (x != 0) = true := by rw [bne_iff_ne]; exact hx0
        go_wp2
        go_ret
        exact ⟨ret_int (by rw [HZ.out, or2I, if_pos hx0]), rfl⟩
    · have hx0 := hx (by omega)
      subst hx0
      clear hx hy
      by_cases hy0 : y = 0
      · subst hy0
        go_wp2
        go_round
        case rel => exact ⟨2, by omega, by go_num, fun _ => by trivial, fun _ => by trivial⟩
        case measure => simp [intOf]
      · have hb : (y != 0) = true := by rw [bne_iff_ne]; exact hy0
        go_wp2
        go_ret
        exact ⟨ret_int (by rw [HZ.out, or2I, if_neg (by simp)]), rfl⟩
    · have hx0 := hx (by omega)
      have hy0 := hy (by omega)
      subst hx0 hy0
      go_wp2
      go_ret
      exact ⟨ret_int (by rw [HZ.out, or2I, if_neg (by simp)]), rfl⟩

theorem or_cmp (a : List Int) (x y : Int) : decide (0 < or2I (cmpI (a.getD x.toNat 0) (a.getD y.toNat 0)) (cmpI y x)) = later a x y := by
  unfold later
  obtain ⟨p, hp⟩ : ∃ p, p = a.getD x.toNat 0 := ⟨_, rfl⟩
  obtain ⟨q, hq⟩ : ∃ p, p = a.getD y.toNat 0 := ⟨_, rfl⟩
  rw [← hp, ← hq]
  rcases Int.lt_trichotomy p q with h | h | h
  · have h1 : ¬ q < p := by omega
    have h2 : p ≠ q := by omega
    simp [or2I, cmpI, h, h1, h2]
  · subst h
    rcases Int.lt_trichotomy x y with g | g | g
    · have g1 : ¬ y < x := by omega
      simp [or2I, cmpI, g, g1]
    · subst g; simp [or2I, cmpI]
    · have g1 : ¬ x < y := by omega
      simp [or2I, cmpI, g, g1]
  · have h1 : ¬ p < q := by omega
    simp [or2I, cmpI, h, h1]

set_option maxHeartbeats 2000000 in
theorem lastCmp (w : World) (pb pi : Nat) (va : Option Addr) (n c : Nat) (T : List Int) (hc : w.cell? ⟨pb, pi, none⟩ = some (.slice va n c)) (S : Seq w va n (ints T)) (x y : Int) (hx : 0 ≤ x ∧ x < n) (hy : 0 ≤ y ∧ y < n) (hn : n ≤ 100000) :
    Calls Try.prog 48 #[.int .i64 x, .int .i64 y, .pointer (some ⟨pb, pi, none⟩)] w fun e w' => (∃ z, e = .returned (.int .i64 z) ∧ decide (0 < z) = later T x y) ∧ Below w.heap.size w w' := by
  obtain ⟨b, off, rfl, hb, hcc⟩ := S.at x.toNat (by omega)
  have z1 := hcc x.toNat (by omega)
  have z2 := hcc y.toNat (by omega)
  have z0 := hc
  have hpb := World.block_lt_of_cell? w _ hc
  dsimp only at hpb
  unfold ints at z1 z2
  have hor := or_cmp T x y
  obtain ⟨tx, htx⟩ : ∃ t, t = T.getD x.toNat 0 := ⟨_, rfl⟩
  obtain ⟨ty, hty⟩ : ∃ t, t = T.getD y.toNat 0 := ⟨_, rfl⟩
  rw [← htx] at z1 hor
  rw [← hty] at z2 hor
  have HOr := Lib.hid hor
  obtain ⟨hx0, hx1⟩ := hx
  obtain ⟨hy0, hy1⟩ := hy
  clear S hcc hc htx hty hor
  have hB : Below w.heap.size w (w.drew.alloc (Obj.cells #[Value.int .i64 (cmpI tx ty), Value.int .i64 (cmpI y x)] 3)) := (Below.refl _ _).drew.alloc (Nat.le_refl _) _
  go_enter Try.func48, Try.ntmps48
  go_wp2_with fail
  refine wp_region_held_drew (S := fun w' => w'.cell? ⟨pb, pi, none⟩ = some (.slice (some ⟨b, off, none⟩) n c) ∧ w'.cell? ⟨b, off + x.toNat, none⟩ = some (.int .i64 tx) ∧ w'.cell? ⟨b, off + y.toNat, none⟩ = some (.int .i64 ty)) (by kernel_rfl) (⟨z0, z1, z2⟩) (fun hHeld => ?_)
  refine wpAnyH_take (i := 0) (v := ?_) (by simp only [List.getElem?_toArray, List.getElem?_cons_succ, List.getElem?_cons_zero]; rfl) (by kernel_rfl) (by kernel_rfl) (by kernel_rfl) (by intro _ _ _ h; exact h) (Or.inl ⟨by rfl, ?_⟩) (by assumption) ?_
  rotate_left
  · intro w hSw; (try dsimp only at hSw); go_simp; try with_reducible rfl
  try simp only [Act.put, List.setIfInBounds_toArray, List.set_cons_zero, List.set_cons_succ]
  refine wpAnyH_take (i := 1) (v := ?_) (by simp only [List.getElem?_toArray, List.getElem?_cons_succ, List.getElem?_cons_zero]; rfl) (by kernel_rfl) (by kernel_rfl) (by kernel_rfl) (by intro _ _ _ h; exact h) (Or.inl ⟨by rfl, ?_⟩) (by assumption) ?_
  rotate_left
  · intro w hSw; (try dsimp only at hSw); go_simp; try with_reducible rfl
  try simp only [Act.put, List.setIfInBounds_toArray, List.set_cons_zero, List.set_cons_succ]
  refine wpAnyH_take (i := 2) (v := ?_) (by simp only [List.getElem?_toArray, List.getElem?_cons_succ, List.getElem?_cons_zero]; rfl) (by kernel_rfl) (by kernel_rfl) (by kernel_rfl) (by intro _ _ _ h; exact h) (Or.inl ⟨by rfl, ?_⟩) (by assumption) ?_
  rotate_left
  · intro w hSw; (try dsimp only at hSw); go_simp; first | with_reducible rfl | rw [if_pos (by omega)]
  try simp only [Act.put, List.setIfInBounds_toArray, List.set_cons_zero, List.set_cons_succ]
  refine wpAnyH_take (i := 3) (v := ?_) (by simp only [List.getElem?_toArray, List.getElem?_cons_succ, List.getElem?_cons_zero]; rfl) (by kernel_rfl) (by kernel_rfl) (by kernel_rfl) (by intro _ _ _ h; exact h) (Or.inl ⟨by rfl, ?_⟩) (by assumption) ?_
  rotate_left
  · intro w hSw; (try dsimp only at hSw); go_simp; try with_reducible rfl
  try simp only [Act.put, List.setIfInBounds_toArray, List.set_cons_zero, List.set_cons_succ]
  refine wpAnyH_take (i := 4) (v := ?_) (by simp only [List.getElem?_toArray, List.getElem?_cons_succ, List.getElem?_cons_zero]; rfl) (by kernel_rfl) (by kernel_rfl) (by kernel_rfl) (by intro _ _ _ h; exact h) (Or.inl ⟨by rfl, ?_⟩) (by assumption) ?_
  rotate_left
  · intro w hSw; (try dsimp only at hSw); go_simp; try with_reducible rfl
  try simp only [Act.put, List.setIfInBounds_toArray, List.set_cons_zero, List.set_cons_succ]
  refine wpAnyH_take (i := 5) (v := ?_) (by simp only [List.getElem?_toArray, List.getElem?_cons_succ, List.getElem?_cons_zero]; rfl) (by kernel_rfl) (by kernel_rfl) (by kernel_rfl) (by intro _ _ _ h; exact h) (Or.inl ⟨by rfl, ?_⟩) (by assumption) ?_
  rotate_left
  · intro w hSw; (try dsimp only at hSw); go_simp; try with_reducible rfl
  try simp only [Act.put, List.setIfInBounds_toArray, List.set_cons_zero, List.set_cons_succ]
  refine wpAnyH_take (i := 6) (v := ?_) (by simp only [List.getElem?_toArray, List.getElem?_cons_succ, List.getElem?_cons_zero]; rfl) (by kernel_rfl) (by kernel_rfl) (by kernel_rfl) (by intro _ _ _ h; exact h) (Or.inl ⟨by rfl, ?_⟩) (by assumption) ?_
  rotate_left
  · intro w hSw; (try dsimp only at hSw); go_simp; first | with_reducible rfl | rw [if_pos (by omega)]
  try simp only [Act.put, List.setIfInBounds_toArray, List.set_cons_zero, List.set_cons_succ]
  refine wpAnyH_take (i := 7) (v := ?_) (by simp only [List.getElem?_toArray, List.getElem?_cons_succ, List.getElem?_cons_zero]; rfl) (by kernel_rfl) (by kernel_rfl) (by kernel_rfl) (by intro _ _ _ h; exact h) (Or.inl ⟨by rfl, ?_⟩) (by assumption) ?_
  rotate_left
  · intro w hSw; (try dsimp only at hSw); go_simp; try with_reducible rfl
  try simp only [Act.put, List.setIfInBounds_toArray, List.set_cons_zero, List.set_cons_succ]
  refine wpAnyH_take (i := 9) (v := ?_) (by simp only [List.getElem?_toArray, List.getElem?_cons_succ, List.getElem?_cons_zero]; rfl) (by kernel_rfl) (by kernel_rfl) (by kernel_rfl) (by intro _ _ _ h; exact h) (Or.inl ⟨by rfl, ?_⟩) (by assumption) ?_
  rotate_left
  · intro w hSw; (try dsimp only at hSw); go_simp; try with_reducible rfl
  try simp only [Act.put, List.setIfInBounds_toArray, List.set_cons_zero, List.set_cons_succ]
  refine wpAnyH_take (i := 10) (v := ?_) (by simp only [List.getElem?_toArray, List.getElem?_cons_succ, List.getElem?_cons_zero]; rfl) (by kernel_rfl) (by kernel_rfl) (by kernel_rfl) (by intro _ _ _ h; exact h) (Or.inl ⟨by rfl, ?_⟩) (by assumption) ?_
  rotate_left
  · intro w hSw; (try dsimp only at hSw); go_simp; try with_reducible rfl
  try simp only [Act.put, List.setIfInBounds_toArray, List.set_cons_zero, List.set_cons_succ]
  refine wpAnyH_ready (rs := [8]) (by kernel_rfl) (by simp) ?_
  refine AllReadyH.cons (o := _) (by simp only [List.getElem?_toArray, List.getElem?_cons_succ, List.getElem?_cons_zero]; rfl) (fun K hK => ?_) AllReadyH.nil
  go_simp
  go_at_call 50
  refine (compare _ tx ty).mono ?_
  rintro e w1 ⟨rfl, rfl⟩
  go_simp
  refine hK.out _ _ (by exact ⟨z0, z1, z2⟩) (fun hHeld => ?_)
  clear hK K
  try simp only [Act.put, List.setIfInBounds_toArray, List.set_cons_zero, List.set_cons_succ]
  refine wpAnyH_ready (rs := [11]) (by kernel_rfl) (by simp) ?_
  refine AllReadyH.cons (o := _) (by simp only [List.getElem?_toArray, List.getElem?_cons_succ, List.getElem?_cons_zero]; rfl) (fun K hK => ?_) AllReadyH.nil
  go_simp
  go_at_call 50
  refine (compare _ y x).mono ?_
  rintro e w2 ⟨rfl, rfl⟩
  go_simp
  refine hK.out _ _ (by exact ⟨z0, z1, z2⟩) (fun hHeld => ?_)
  clear hK K
  try simp only [Act.put, List.setIfInBounds_toArray, List.set_cons_zero, List.set_cons_succ]
  refine wpAnyH_ready (rs := [12]) (by kernel_rfl) (by simp) ?_
  refine AllReadyH.cons (o := _) (by simp only [List.getElem?_toArray, List.getElem?_cons_succ, List.getElem?_cons_zero]; rfl) (fun K hK => ?_) AllReadyH.nil
  go_simp

  refine hK.out _ _ (by exact ⟨(hB.cell (p := ⟨_, _, none⟩) (by simp only; omega)).trans z0, (hB.cell (p := ⟨_, _, none⟩) (by simp only; omega)).trans z1, (hB.cell (p := ⟨_, _, none⟩) (by simp only; omega)).trans z2⟩) (fun hHeld => ?_)
  clear hK K
  try simp only [Act.put, List.setIfInBounds_toArray, List.set_cons_zero, List.set_cons_succ]
  refine wpAnyH_ready (rs := [13]) (by kernel_rfl) (by simp) ?_
  refine AllReadyH.cons (o := _) (by simp only [List.getElem?_toArray, List.getElem?_cons_succ, List.getElem?_cons_zero]; rfl) (fun K hK => ?_) AllReadyH.nil
  go_simp
  go_at_call 49
  refine (or2 _ w.heap.size (cmpI tx ty) (cmpI y x) 2 (by simp) (by simp)).mono ?_
  rintro e w3 ⟨rfl, rfl⟩
  go_simp
  refine hK.out _ _ (by exact ⟨(hB.cell (p := ⟨_, _, none⟩) (by simp only; omega)).trans z0, (hB.cell (p := ⟨_, _, none⟩) (by simp only; omega)).trans z1, (hB.cell (p := ⟨_, _, none⟩) (by simp only; omega)).trans z2⟩) (fun hHeld => ?_)
  clear hK K
  try simp only [Act.put, List.setIfInBounds_toArray, List.set_cons_zero, List.set_cons_succ]
  refine wpAnyH_take (i := 14) (v := ?_) (by simp only [List.getElem?_toArray, List.getElem?_cons_succ, List.getElem?_cons_zero]; rfl) (by kernel_rfl) (by kernel_rfl) (by kernel_rfl) (by intro _ _ _ h; exact h) (Or.inl ⟨by rfl, ?_⟩) (by assumption) ?_
  rotate_left
  · intro w hSw; (try dsimp only at hSw); go_simp; try with_reducible rfl
  try simp only [Act.put, List.setIfInBounds_toArray, List.set_cons_zero, List.set_cons_succ]
  refine wpAnyH_done (by kernel_rfl) ?_ _
  go_wp2
  go_ret
  exact ⟨⟨_, rfl, HOr.out⟩, hB⟩

/-- The greatest of the first k. -/
def maxTo (a l : List Int) (k : Nat) : Int := maxL a (l.getD 0 0) ((l.take k).drop 1)

theorem maxTo_one (a l : List Int) : maxTo a l 1 = l.getD 0 0 := by
  unfold maxTo
  cases l with
  | nil => rfl
  | cons x l => simp [maxL]

theorem maxTo_succ (a l : List Int) (k : Nat) (h1 : 1 ≤ k) (hk : k < l.length) : maxTo a l (k + 1) = if later a (l.getD k 0) (maxTo a l k) then l.getD k 0 else maxTo a l k := by
  have e : (l.take (k + 1)).drop 1 = (l.take k).drop 1 ++ [l.getD k 0] := by
    rw [List.take_succ_eq_append_getElem hk, List.drop_append_of_le_length (by rw [List.length_take]; omega)]
    simp [List.getD, List.getElem?_eq_getElem hk]
  unfold maxTo
  rw [e, maxL, List.foldl_append]
  rfl

theorem maxTo_all (a l : List Int) (h : l ≠ []) : maxTo a l l.length = latestV a l := by
  cases l with
  | nil => exact absurd rfl h
  | cons x l => simp [maxTo, latestV]

theorem maxTo_mem (a l : List Int) (k : Nat) (h : 0 < l.length) : maxTo a l k ∈ l := by
  unfold maxTo
  rcases maxL_mem a ((l.take k).drop 1) (l.getD 0 0) with h' | h'
  · rw [h']; exact getD_mem l 0 h
  · exact List.mem_of_mem_take (List.mem_of_mem_drop h')

set_option maxHeartbeats 2000000 in
/-- slices.MaxFunc, by when the nodes are there. -/
theorem maxFunc (w : World) (a : Option Addr) (n c : Nat) (l : List Int) (hlen : l.length = n) (h1 : 1 ≤ n) (hn : n ≤ 100000) (S : Seq w a n (ints l)) (pb pi : Nat) (va : Option Addr) (tn tc : Nat) (T : List Int)
    (hc : w.cell? ⟨pb, pi, none⟩ = some (.slice va tn tc)) (hT : Seq w va tn (ints T)) (htn : tn ≤ 100000) (hl : ∀ x ∈ l, 0 ≤ x ∧ x < tn) :
    Calls Try.prog 51 #[.slice a n c, .func (.func 48) #[] #[.pointer (some ⟨pb, pi, none⟩)]] w fun e w' => e = .returned (.int .i64 (latestV T l)) ∧ Below w.heap.size w w' := by
  have eg : Enters Try.prog 48 := enters_of Try.func48 (by kernel_rfl) rfl
  unfold Enters at eg
  have hne : l ≠ [] := by intro e; subst e; simp at hlen; omega
  have hres := maxTo_all T l hne
  obtain ⟨R, hR⟩ : ∃ r, r = latestV T l := ⟨_, rfl⟩
  rw [← hR] at hres ⊢
  obtain ⟨b0, off0, rfl, hb0, hcc⟩ := S.at 0 (by omega)
  have z0 := hcc 0 (by omega)
  rw [Nat.add_zero] at z0
  unfold ints at z0
  have hone := maxTo_one T l
  obtain ⟨m0, hm0⟩ : ∃ m, m = l.getD 0 0 := ⟨_, rfl⟩
  rw [← hm0] at z0 hone
  have hpb := World.block_lt_of_cell? w _ hc
  have HRes := Lib.hid hres
  have HOne := Lib.hid hone
  have HS := Lib.hid S
  have HL := Lib.hid hlen
  have HC := Lib.hid hc
  have HT := Lib.hid hT
  have HLl := Lib.hid hl
  have hn1 : ¬ (n : Int) < 1 := by omega
  clear S hlen hc hT hl hcc hm0 hres hR hone hne
  go_enter Try.func51, Try.ntmps51
  go_wp2
  go_loopw [5, 6] (fun m i wr => ∃ k : Nat, 1 ≤ k ∧ k ≤ n ∧ i = .int .i64 k ∧ m = .int .i64 (maxTo T l k) ∧ Hid (Below w.heap.size w wr)) (fun _ i _ => n - (intOf i).toNat)
  case atStart => exact ⟨1, by omega, by omega, rfl, by rw [HOne.out], Below.refl _ _⟩
  case round =>
    obtain ⟨k, hk1, hk, rfl, rfl, hh⟩ := hrel
    by_cases hlt : k < n
    · obtain ⟨b, off, hbo, _, hcl⟩ := (HS.out.below hh.out (Nat.le_refl _)).at k hlt
      cases hbo
      have y0 := hcl k hlt
      unfold ints at y0
      have hsuc := maxTo_succ T l k hk1 (by rw [HL.out]; exact hlt)
      have hm1 := HLl.out _ (maxTo_mem T l k (by rw [HL.out]; omega))
      have hx1 := HLl.out _ (getD_mem l 0 (show k < l.length by rw [HL.out]; exact hlt))
      obtain ⟨x, hx⟩ : ∃ x, x = l.getD k 0 := ⟨_, rfl⟩
      rw [← hx] at y0 hsuc hx1
      obtain ⟨m, hm⟩ : ∃ m, m = maxTo T l k := ⟨_, rfl⟩
      rw [← hm] at hsuc hm1 ⊢
      have HSuc := Lib.hid hsuc
      have hC := lastCmp wr pb pi va tn tc T ((hh.out.cell (p := ⟨_, _, none⟩) hpb).trans HC.out) (HT.out.below hh.out (Nat.le_refl _)) x m hx1 hm1 htn
      have HCC := Lib.hid hC
      clear hcl hsuc hm1 hx1 hx hm hC
      go_wp2_with fail
      refine HCC.out.mono ?_
      rintro e w2 ⟨⟨z, rfl, hz⟩, hb2⟩
      have HB2 := Lib.hid (hh.out.trans (hb2.mono hh.out.size))
      have y1 : w2.cell? ⟨b0, off0 + k, none⟩ = some (.int .i64 x) := (hb2.cell (p := ⟨_, _, none⟩) (by have := hh.out.size; simp only; omega)).trans y0
      have HZ := Lib.hid hz
      clear hb2 hz
      by_cases hz0 : 0 < z
      · have hlat : later T x m = true := by rw [← HZ.out]; exact decide_eq_true hz0
        have HLat := Lib.hid hlat
        clear hlat
        go_wp2
        go_roundw
        case rel => exact ⟨k + 1, by omega, by omega, by go_num, by rw [HSuc.out, HLat.out]; simp, HB2.out⟩
        case measure => simp [intOf]; omega
      · have hlat : later T x m = false := by rw [← HZ.out]; exact decide_eq_false hz0
        have HLat := Lib.hid hlat
        clear hlat
        go_wp2
        go_roundw
        case rel => exact ⟨k + 1, by omega, by omega, by go_num, by rw [HSuc.out, HLat.out]; simp, HB2.out⟩
        case measure => simp [intOf]; omega
    · obtain rfl : k = n := by omega
      go_wp2
      go_ret
      exact ⟨ret_int (by rw [← HRes.out, HL.out]), hh.out⟩
end Go.Proofs.Ytkcilpkcjhnkaaa

/- T33 -/
namespace Go.Proofs.Ytkcilpkcjhnkaaa
open Go.RowKit
set_option linter.unusedVariables false
set_option linter.unusedSimpArgs false

theorem latestV_snoc (a l : List Int) (x : Int) : latestV a (l ++ [x]) = if l = [] then x else if later a x (latestV a l) then x else latestV a l := by
  cases l with
  | nil => rfl
  | cons y l =>
    rw [if_neg (by simp)]
    simp only [List.cons_append, latestV, maxL, List.foldl_append]; rfl

theorem latestV_take (a l : List Int) (k : Nat) (h1 : 1 ≤ k) (hk : k < l.length) : latestV a (l.take (k + 1)) = if later a (l.getD k 0) (latestV a (l.take k)) then l.getD k 0 else latestV a (l.take k) := by
  have hne : l.take k ≠ [] := by intro e; have := congrArg List.length e; rw [List.length_take, List.length_nil] at this; omega
  rw [List.take_succ_eq_append_getElem hk, latestV_snoc, if_neg hne]
  simp [List.getD, List.getElem?_eq_getElem hk]

set_option maxHeartbeats 2000000 in
theorem latest (w : World) (b : Option Addr) (tn tc : Nat) (T : List Int) (hT : Seq w b tn (ints T)) (htn : tn ≤ 100000) (a : Option Addr) (n c : Nat) (l : List Int) (hlen : l.length = n) (hn : n ≤ 100000) (S : Seq w a n (ints l)) (hl : ∀ x ∈ l, 0 ≤ x ∧ x < tn) :
    Calls Try.prog 53 #[.slice b tn tc, .slice a n c] w fun e w' => e = .returned (.int .i64 (latestV T l)) ∧ Below w.heap.size w w' := by
  obtain ⟨R, hR⟩ : ∃ r, r = latestV T l := ⟨_, rfl⟩
  rw [← hR]
  have HR := Lib.hid hR
  have HS := Lib.hid S
  have HT := Lib.hid hT
  have HL := Lib.hid hlen
  have HLl := Lib.hid hl
  clear hR S hT hlen hl
  go_enter Try.func53, Try.ntmps53
  go_wp2
  go_loopw [5, 10] (fun m i wr => ∃ k : Nat, k ≤ n ∧ i = .int .i64 k ∧ m = .int .i64 (latestV T (l.take k)) ∧ Hid (Below w.heap.size w wr)) (fun _ i _ => n - (intOf i).toNat)
  case atStart => exact ⟨0, by omega, rfl, rfl, Below.refl _ _⟩
  case round =>
    obtain ⟨k, hk, rfl, rfl, hh⟩ := hrel
    by_cases hlt : k < n
    · obtain ⟨b1, off1, rfl, _, hcl⟩ := (HS.out.below hh.out (Nat.le_refl _)).at k hlt
      have y0 := hcl k hlt
      unfold ints at y0
      have hkl : k < l.length := by rw [HL.out]; exact hlt
      have hx1 := HLl.out _ (getD_mem l 0 hkl)
      by_cases hk0 : k = 0
      · subst hk0
        have hsuc : latestV T (l.take 1) = l.getD 0 0 := by
          cases l with
          | nil => simp at hkl
          | cons x l => simp [latestV, maxL]
        obtain ⟨x, hx⟩ : ∃ x, x = l.getD 0 0 := ⟨_, rfl⟩
        rw [← hx] at y0 hsuc
        rw [Nat.add_zero] at y0
        have HSuc := Lib.hid hsuc
        have h0 : latestV T (l.take 0) = -1 := rfl
        rw [h0]
        clear hcl hsuc hx h0 hx1
        go_wp2_with fail
        go_quiet (fail)
        go_wp2
        go_roundw
        case rel => exact ⟨1, by omega, by go_num, by rw [HSuc.out], by first | exact hh.out | exact hh.out.drew | exact belowN hh.out⟩
        case measure => simp [intOf]; omega
      · have hsuc := latestV_take T l k (by omega) hkl
        have hmm := latestV_mem T (l.take k) (by intro e; have := congrArg List.length e; rw [List.length_take, List.length_nil] at this; omega)
        have hm1 := HLl.out _ (List.mem_of_mem_take hmm)
        obtain ⟨x, hx⟩ : ∃ x, x = l.getD k 0 := ⟨_, rfl⟩
        rw [← hx] at y0 hsuc hx1
        obtain ⟨m, hm⟩ : ∃ m, m = latestV T (l.take k) := ⟨_, rfl⟩
        rw [← hm] at hsuc hm1 ⊢
        obtain ⟨b2, off2, rfl, _, hct⟩ := (HT.out.below hh.out (Nat.le_refl _)).at x.toNat (by omega)
        have t0 := hct x.toNat (by omega)
        have t1 := hct m.toNat (by omega)
        unfold ints at t0 t1
        unfold later at hsuc
        obtain ⟨tx, htx⟩ : ∃ t, t = T.getD x.toNat 0 := ⟨_, rfl⟩
        obtain ⟨tm, htm⟩ : ∃ t, t = T.getD m.toNat 0 := ⟨_, rfl⟩
        rw [← htx] at t0 hsuc
        rw [← htm] at t1 hsuc
        obtain ⟨hx0, hx2⟩ := hx1
        obtain ⟨hm0, hm2⟩ := hm1
        have hmn : ¬ m < 0 := by omega
        clear hcl hct hx hm htx htm hmm hk0
        by_cases g1 : tm < tx
        · have hs2 : latestV T (l.take (k + 1)) = x := by rw [hsuc, decide_eq_true g1]; simp
          have HSuc := Lib.hid hs2
          have g1b : decide (tm < tx) = true := decide_eq_true g1
          clear hsuc hs2 g1
          have hmb : decide (m < 0) = false := decide_eq_false hmn
          go_wp2_with fail
          refine wp_region_held_drew (S := fun w' => w'.cell? ⟨b2, off2 + x.toNat, none⟩ = some (.int .i64 tx) ∧ w'.cell? ⟨b2, off2 + m.toNat, none⟩ = some (.int .i64 tm)) (by kernel_rfl) (⟨t0, t1⟩) (fun hHeld => ?_)
          refine wpAnyH_take (i := 0) (v := ?_) (by simp only [List.getElem?_toArray, List.getElem?_cons_succ, List.getElem?_cons_zero]; rfl) (by kernel_rfl) (by kernel_rfl) (by kernel_rfl) (by intro _ _ _ h; exact h) (Or.inl ⟨by rfl, ?_⟩) (by assumption) ?_
          rotate_left
          · intro w hSw; (try dsimp only at hSw); go_simp; try with_reducible rfl
          try simp only [Act.put, List.setIfInBounds_toArray, List.set_cons_zero, List.set_cons_succ]
          refine wpAnyH_take (i := 1) (v := ?_) (by simp only [List.getElem?_toArray, List.getElem?_cons_succ, List.getElem?_cons_zero]; rfl) (by kernel_rfl) (by kernel_rfl) (by kernel_rfl) (by intro _ _ _ h; exact h) (Or.inl ⟨by rfl, ?_⟩) (by assumption) ?_
          rotate_left
          · intro w hSw; (try dsimp only at hSw); go_simp; try with_reducible rfl
          try simp only [Act.put, List.setIfInBounds_toArray, List.set_cons_zero, List.set_cons_succ]
          refine wpAnyH_take (i := 2) (v := ?_) (by simp only [List.getElem?_toArray, List.getElem?_cons_succ, List.getElem?_cons_zero]; rfl) (by kernel_rfl) (by kernel_rfl) (by kernel_rfl) (by intro _ _ _ h; exact h) (Or.inl ⟨by rfl, ?_⟩) (by assumption) ?_
          rotate_left
          · intro w hSw; (try dsimp only at hSw); go_simp; try with_reducible rfl
          try simp only [Act.put, List.setIfInBounds_toArray, List.set_cons_zero, List.set_cons_succ]
          refine wpAnyH_take (i := 3) (v := ?_) (by simp only [List.getElem?_toArray, List.getElem?_cons_succ, List.getElem?_cons_zero]; rfl) (by kernel_rfl) (by kernel_rfl) (by kernel_rfl) (by intro _ _ _ h; exact h) (Or.inl ⟨by rfl, ?_⟩) (by assumption) ?_
          rotate_left
          · intro w hSw; (try dsimp only at hSw); go_simp; try with_reducible rfl
          try simp only [Act.put, List.setIfInBounds_toArray, List.set_cons_zero, List.set_cons_succ]
          refine wpAnyH_take (i := 4) (v := ?_) (by simp only [List.getElem?_toArray, List.getElem?_cons_succ, List.getElem?_cons_zero]; rfl) (by kernel_rfl) (by kernel_rfl) (by kernel_rfl) (by intro _ _ _ h; exact h) (Or.inl ⟨by rfl, ?_⟩) (by assumption) ?_
          rotate_left
          · intro w hSw; (try dsimp only at hSw); go_simp; try with_reducible rfl
          try simp only [Act.put, List.setIfInBounds_toArray, List.set_cons_zero, List.set_cons_succ]
          refine wpAnyH_take (i := 5) (v := ?_) (by simp only [List.getElem?_toArray, List.getElem?_cons_succ, List.getElem?_cons_zero]; rfl) (by kernel_rfl) (by kernel_rfl) (by kernel_rfl) (by intro _ _ _ h; exact h) (Or.inl ⟨by rfl, ?_⟩) (by assumption) ?_
          rotate_left
          · intro w hSw; (try dsimp only at hSw); go_simp; first | with_reducible rfl | rw [if_pos (by omega)]
          try simp only [Act.put, List.setIfInBounds_toArray, List.set_cons_zero, List.set_cons_succ]
          refine wpAnyH_take (i := 6) (v := ?_) (by simp only [List.getElem?_toArray, List.getElem?_cons_succ, List.getElem?_cons_zero]; rfl) (by kernel_rfl) (by kernel_rfl) (by kernel_rfl) (by intro _ _ _ h; exact h) (Or.inl ⟨by rfl, ?_⟩) (by assumption) ?_
          rotate_left
          · intro w hSw; (try dsimp only at hSw); go_simp; try with_reducible rfl
          try simp only [Act.put, List.setIfInBounds_toArray, List.set_cons_zero, List.set_cons_succ]
          refine wpAnyH_take (i := 7) (v := ?_) (by simp only [List.getElem?_toArray, List.getElem?_cons_succ, List.getElem?_cons_zero]; rfl) (by kernel_rfl) (by kernel_rfl) (by kernel_rfl) (by intro _ _ _ h; exact h) (Or.inl ⟨by rfl, ?_⟩) (by assumption) ?_
          rotate_left
          · intro w hSw; (try dsimp only at hSw); go_simp; try with_reducible rfl
          try simp only [Act.put, List.setIfInBounds_toArray, List.set_cons_zero, List.set_cons_succ]
          refine wpAnyH_take (i := 8) (v := ?_) (by simp only [List.getElem?_toArray, List.getElem?_cons_succ, List.getElem?_cons_zero]; rfl) (by kernel_rfl) (by kernel_rfl) (by kernel_rfl) (by intro _ _ _ h; exact h) (Or.inl ⟨by rfl, ?_⟩) (by assumption) ?_
          rotate_left
          · intro w hSw; (try dsimp only at hSw); go_simp; try with_reducible rfl
          try simp only [Act.put, List.setIfInBounds_toArray, List.set_cons_zero, List.set_cons_succ]
          refine wpAnyH_take (i := 9) (v := ?_) (by simp only [List.getElem?_toArray, List.getElem?_cons_succ, List.getElem?_cons_zero]; rfl) (by kernel_rfl) (by kernel_rfl) (by kernel_rfl) (by intro _ _ _ h; exact h) (Or.inl ⟨by rfl, ?_⟩) (by assumption) ?_
          rotate_left
          · intro w hSw; (try dsimp only at hSw); go_simp; first | with_reducible rfl | rw [if_pos (by omega)]
          try simp only [Act.put, List.setIfInBounds_toArray, List.set_cons_zero, List.set_cons_succ]
          refine wpAnyH_take (i := 10) (v := ?_) (by simp only [List.getElem?_toArray, List.getElem?_cons_succ, List.getElem?_cons_zero]; rfl) (by kernel_rfl) (by kernel_rfl) (by kernel_rfl) (by intro _ _ _ h; exact h) (Or.inl ⟨by rfl, ?_⟩) (by assumption) ?_
          rotate_left
          · intro w hSw; (try dsimp only at hSw); go_simp; try with_reducible rfl
          try simp only [Act.put, List.setIfInBounds_toArray, List.set_cons_zero, List.set_cons_succ]
          refine wpAnyH_take (i := 11) (v := ?_) (by simp only [List.getElem?_toArray, List.getElem?_cons_succ, List.getElem?_cons_zero]; rfl) (by kernel_rfl) (by kernel_rfl) (by kernel_rfl) (by intro _ _ _ h; exact h) (Or.inl ⟨by rfl, ?_⟩) (by assumption) ?_
          rotate_left
          · intro w hSw; (try dsimp only at hSw); go_simp; try with_reducible rfl
          try simp only [Act.put, List.setIfInBounds_toArray, List.set_cons_zero, List.set_cons_succ]
          refine wpAnyH_take (i := 12) (v := ?_) (by simp only [List.getElem?_toArray, List.getElem?_cons_succ, List.getElem?_cons_zero]; rfl) (by kernel_rfl) (by kernel_rfl) (by kernel_rfl) (by intro _ _ _ h; exact h) (Or.inl ⟨by rfl, ?_⟩) (by assumption) ?_
          rotate_left
          · intro w hSw; (try dsimp only at hSw); go_simp; try with_reducible rfl
          try simp only [Act.put, List.setIfInBounds_toArray, List.set_cons_zero, List.set_cons_succ]
          refine wpAnyH_take (i := 13) (v := ?_) (by simp only [List.getElem?_toArray, List.getElem?_cons_succ, List.getElem?_cons_zero]; rfl) (by kernel_rfl) (by kernel_rfl) (by kernel_rfl) (by intro _ _ _ h; exact h) (Or.inl ⟨by rfl, ?_⟩) (by assumption) ?_
          rotate_left
          · intro w hSw; (try dsimp only at hSw); go_simp; try with_reducible rfl
          try simp only [Act.put, List.setIfInBounds_toArray, List.set_cons_zero, List.set_cons_succ]
          refine wpAnyH_take (i := 14) (v := undef) (by simp only [List.getElem?_toArray, List.getElem?_cons_succ, List.getElem?_cons_zero]; rfl) (by kernel_rfl) (by kernel_rfl) (by kernel_rfl) (by intro _ _ _ h; exact h) (Or.inr ⟨by rfl, rfl⟩) (by assumption) ?_
          try simp only [Act.put, List.setIfInBounds_toArray, List.set_cons_zero, List.set_cons_succ]
          refine wpAnyH_take (i := 15) (v := undef) (by simp only [List.getElem?_toArray, List.getElem?_cons_succ, List.getElem?_cons_zero]; rfl) (by kernel_rfl) (by kernel_rfl) (by kernel_rfl) (by intro _ _ _ h; exact h) (Or.inr ⟨by rfl, rfl⟩) (by assumption) ?_
          try simp only [Act.put, List.setIfInBounds_toArray, List.set_cons_zero, List.set_cons_succ]
          refine wpAnyH_take (i := 16) (v := undef) (by simp only [List.getElem?_toArray, List.getElem?_cons_succ, List.getElem?_cons_zero]; rfl) (by kernel_rfl) (by kernel_rfl) (by kernel_rfl) (by intro _ _ _ h; exact h) (Or.inr ⟨by rfl, rfl⟩) (by assumption) ?_
          try simp only [Act.put, List.setIfInBounds_toArray, List.set_cons_zero, List.set_cons_succ]
          refine wpAnyH_take (i := 17) (v := undef) (by simp only [List.getElem?_toArray, List.getElem?_cons_succ, List.getElem?_cons_zero]; rfl) (by kernel_rfl) (by kernel_rfl) (by kernel_rfl) (by intro _ _ _ h; exact h) (Or.inr ⟨by rfl, rfl⟩) (by assumption) ?_
          try simp only [Act.put, List.setIfInBounds_toArray, List.set_cons_zero, List.set_cons_succ]
          refine wpAnyH_take (i := 18) (v := undef) (by simp only [List.getElem?_toArray, List.getElem?_cons_succ, List.getElem?_cons_zero]; rfl) (by kernel_rfl) (by kernel_rfl) (by kernel_rfl) (by intro _ _ _ h; exact h) (Or.inr ⟨by rfl, rfl⟩) (by assumption) ?_
          try simp only [Act.put, List.setIfInBounds_toArray, List.set_cons_zero, List.set_cons_succ]
          refine wpAnyH_take (i := 19) (v := undef) (by simp only [List.getElem?_toArray, List.getElem?_cons_succ, List.getElem?_cons_zero]; rfl) (by kernel_rfl) (by kernel_rfl) (by kernel_rfl) (by intro _ _ _ h; exact h) (Or.inr ⟨by rfl, rfl⟩) (by assumption) ?_
          try simp only [Act.put, List.setIfInBounds_toArray, List.set_cons_zero, List.set_cons_succ]
          refine wpAnyH_take (i := 20) (v := undef) (by simp only [List.getElem?_toArray, List.getElem?_cons_succ, List.getElem?_cons_zero]; rfl) (by kernel_rfl) (by kernel_rfl) (by kernel_rfl) (by intro _ _ _ h; exact h) (Or.inr ⟨by rfl, rfl⟩) (by assumption) ?_
          try simp only [Act.put, List.setIfInBounds_toArray, List.set_cons_zero, List.set_cons_succ]
          refine wpAnyH_take (i := 21) (v := undef) (by simp only [List.getElem?_toArray, List.getElem?_cons_succ, List.getElem?_cons_zero]; rfl) (by kernel_rfl) (by kernel_rfl) (by kernel_rfl) (by intro _ _ _ h; exact h) (Or.inr ⟨by rfl, rfl⟩) (by assumption) ?_
          try simp only [Act.put, List.setIfInBounds_toArray, List.set_cons_zero, List.set_cons_succ]
          refine wpAnyH_take (i := 22) (v := undef) (by simp only [List.getElem?_toArray, List.getElem?_cons_succ, List.getElem?_cons_zero]; rfl) (by kernel_rfl) (by kernel_rfl) (by kernel_rfl) (by intro _ _ _ h; exact h) (Or.inr ⟨by rfl, rfl⟩) (by assumption) ?_
          try simp only [Act.put, List.setIfInBounds_toArray, List.set_cons_zero, List.set_cons_succ]
          refine wpAnyH_take (i := 23) (v := undef) (by simp only [List.getElem?_toArray, List.getElem?_cons_succ, List.getElem?_cons_zero]; rfl) (by kernel_rfl) (by kernel_rfl) (by kernel_rfl) (by intro _ _ _ h; exact h) (Or.inr ⟨by rfl, rfl⟩) (by assumption) ?_
          try simp only [Act.put, List.setIfInBounds_toArray, List.set_cons_zero, List.set_cons_succ]
          refine wpAnyH_take (i := 24) (v := undef) (by simp only [List.getElem?_toArray, List.getElem?_cons_succ, List.getElem?_cons_zero]; rfl) (by kernel_rfl) (by kernel_rfl) (by kernel_rfl) (by intro _ _ _ h; exact h) (Or.inr ⟨by rfl, rfl⟩) (by assumption) ?_
          try simp only [Act.put, List.setIfInBounds_toArray, List.set_cons_zero, List.set_cons_succ]
          refine wpAnyH_take (i := 25) (v := undef) (by simp only [List.getElem?_toArray, List.getElem?_cons_succ, List.getElem?_cons_zero]; rfl) (by kernel_rfl) (by kernel_rfl) (by kernel_rfl) (by intro _ _ _ h; exact h) (Or.inr ⟨by rfl, rfl⟩) (by assumption) ?_
          try simp only [Act.put, List.setIfInBounds_toArray, List.set_cons_zero, List.set_cons_succ]
          refine wpAnyH_take (i := 26) (v := undef) (by simp only [List.getElem?_toArray, List.getElem?_cons_succ, List.getElem?_cons_zero]; rfl) (by kernel_rfl) (by kernel_rfl) (by kernel_rfl) (by intro _ _ _ h; exact h) (Or.inr ⟨by rfl, rfl⟩) (by assumption) ?_
          try simp only [Act.put, List.setIfInBounds_toArray, List.set_cons_zero, List.set_cons_succ]
          refine wpAnyH_take (i := 27) (v := undef) (by simp only [List.getElem?_toArray, List.getElem?_cons_succ, List.getElem?_cons_zero]; rfl) (by kernel_rfl) (by kernel_rfl) (by kernel_rfl) (by intro _ _ _ h; exact h) (Or.inr ⟨by rfl, rfl⟩) (by assumption) ?_
          try simp only [Act.put, List.setIfInBounds_toArray, List.set_cons_zero, List.set_cons_succ]
          refine wpAnyH_take (i := 28) (v := ?_) (by simp only [List.getElem?_toArray, List.getElem?_cons_succ, List.getElem?_cons_zero]; rfl) (by kernel_rfl) (by kernel_rfl) (by kernel_rfl) (by intro _ _ _ h; exact h) (Or.inl ⟨by rfl, ?_⟩) (by assumption) ?_
          rotate_left
          · intro w hSw; (try dsimp only at hSw); go_simp; try with_reducible rfl
          try simp only [Act.put, List.setIfInBounds_toArray, List.set_cons_zero, List.set_cons_succ]
          refine wpAnyH_done (by kernel_rfl) ?_ _
          go_wp2
          go_roundw
          case rel => exact ⟨k + 1, by omega, by go_num, by rw [HSuc.out], by first | exact hh.out | exact hh.out.drew | exact belowN hh.out⟩
          case measure => simp [intOf]; omega
        · by_cases g2 : tx = tm
          · by_cases g3 : x < m
            · have hs2 : latestV T (l.take (k + 1)) = x := by rw [hsuc, decide_eq_true g2, decide_eq_true g3]; simp
              have HSuc := Lib.hid hs2
              subst g2
              clear hsuc hs2
              go_wp2_with fail
              go_quiet (fail)
              go_wp2
              go_roundw
              case rel => exact ⟨k + 1, by omega, by go_num, by rw [HSuc.out], by first | exact hh.out | exact hh.out.drew | exact belowN hh.out⟩
              case measure => simp [intOf]; omega
            · have hs2 : latestV T (l.take (k + 1)) = m := by rw [hsuc, decide_eq_false g1, decide_eq_false g3]; simp
              have HSuc := Lib.hid hs2
              subst g2
              clear hsuc hs2
              go_wp2_with fail
              go_quiet (fail)
              go_wp2
              go_roundw
              case rel => exact ⟨k + 1, by omega, by go_num, by rw [HSuc.out], by first | exact hh.out | exact hh.out.drew | exact belowN hh.out⟩
              case measure => simp [intOf]; omega
          · have hs2 : latestV T (l.take (k + 1)) = m := by rw [hsuc, decide_eq_false g1, decide_eq_false g2]; simp
            have HSuc := Lib.hid hs2
            have g2b : (tx == tm) = false := by rw [beq_eq_false_iff_ne]; exact g2
            clear hsuc hs2 g2
            go_wp2_with fail
            go_quiet (fail)
            go_wp2
            go_roundw
            case rel => exact ⟨k + 1, by omega, by go_num, by rw [HSuc.out], by first | exact hh.out | exact hh.out.drew | exact belowN hh.out⟩
            case measure => simp [intOf]; omega
    · obtain rfl : k = n := by omega
      go_wp2
      go_ret
      exact ⟨ret_int (by rw [HR.out, List.take_of_length_le (by rw [HL.out]; exact Nat.le_refl _)]), hh.out⟩
end Go.Proofs.Ytkcilpkcjhnkaaa
