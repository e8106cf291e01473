import Derived.Test.YtbhbebidkeejbaaQ0
namespace Go.Proofs.Ytbhbebidkeejbaa
open Go.RowKit Go.Shelf
set_option linter.unusedVariables false
set_option linter.unusedSimpArgs false

/-- An event. -/
structure EvV where
  t : Int
  d : Int
  no : Int
  sig : Int
  v : Int
instance : Inhabited EvV := ⟨⟨0, 0, 0, 0, 0⟩⟩
instance : DecidableEq EvV := fun a b => decidable_of_iff (a.t = b.t ∧ a.d = b.d ∧ a.no = b.no ∧ a.sig = b.sig ∧ a.v = b.v) (by cases a; cases b; simp)
structure WhenV where
  t : Int
  d : Int
  no : Int
abbrev EvV.cells (e : EvV) : List Value := [.int .i64 e.t, .int .i64 e.d, .int .i64 e.no, .int .i64 e.sig, .int .u64 e.v]
abbrev EvV.val (e : EvV) : Value := .agg #[.int .i64 e.t, .int .i64 e.d, .int .i64 e.no, .int .i64 e.sig, .int .u64 e.v]
abbrev WhenV.val (e : WhenV) : Value := .agg #[.int .i64 e.t, .int .i64 e.d, .int .i64 e.no]
abbrev EvV.when (e : EvV) : WhenV := ⟨e.t, e.d, e.no⟩
def cmpI (x y : Int) : Int := if x < y then -1 else if y < x then 1 else 0
def orI (x y z : Int) : Int := if x ≠ 0 then x else if y ≠ 0 then y else z
def cmpW (a b : WhenV) : Int := orI (cmpI a.t b.t) (cmpI a.d b.d) (cmpI a.no b.no)
theorem cmpI_bd (x y : Int) : -1 ≤ cmpI x y ∧ cmpI x y ≤ 1 := by unfold cmpI; split <;> (try split) <;> omega

theorem nan45 (w : World) (x : Int) : Calls Try.prog 45 #[.int .i64 x] w fun e w' => e = .returned (.bool false) ∧ w = w' := by
  go_enter Try.func45, Try.ntmps45
  go_wp2
  go_ret
  exact ⟨ret_bool (by simp), rfl⟩
theorem cmp40 (w : World) (x y : Int) : Calls Try.prog 40 #[.int .i64 x, .int .i64 y] w fun e w' => e = .returned (.int .i64 (cmpI x y)) ∧ w = w' := by
  rcases Int.lt_trichotomy x y with h | h | h
  · have hd : decide (x < y) = true := by simpa using h
    have hr : cmpI x y = -1 := by unfold cmpI; rw [if_pos h]
    rw [hr]
    go_enter Try.func40, Try.ntmps40
    go_wp2_with (first | (go_at_call 45; refine (nan45 _ _).mono ?_; rintro e w1 ⟨rfl, rfl⟩))
    go_ret
    exact ⟨rfl, rfl⟩
  · subst h
    have hr : cmpI x x = 0 := by unfold cmpI; rw [if_neg (by omega), if_neg (by omega)]
    rw [hr]
    go_enter Try.func40, Try.ntmps40
    go_wp2_with (first | (go_at_call 45; refine (nan45 _ _).mono ?_; rintro e w1 ⟨rfl, rfl⟩))
    go_ret
    exact ⟨rfl, rfl⟩
  · have hd : decide (x < y) = false := by simpa using (by omega : y ≤ x)
    have hd2 : decide (y < x) = true := by simpa using h
    have hr : cmpI x y = 1 := by unfold cmpI; rw [if_neg (by omega), if_pos h]
    rw [hr]
    go_enter Try.func40, Try.ntmps40
    go_wp2_with (first | (go_at_call 45; refine (nan45 _ _).mono ?_; rintro e w1 ⟨rfl, rfl⟩))
    go_ret
    exact ⟨rfl, rfl⟩
/-- The first number that is something. -/
def orL (l : List Int) : Int := (l.find? (fun x => x != 0)).getD 0
theorem orL_first (l : List Int) (k : Nat) (hk : k < l.length) (h : l.getD k 0 ≠ 0) (hno : ∀ j, j < k → l.getD j 0 = 0) : orL l = l.getD k 0 := by
  unfold orL
  have : l.find? (fun x => x != 0) = some (l.getD k 0) := by
    rw [List.find?_eq_some_iff_getElem]
    refine ⟨by simpa using h, k, hk, by rw [List.getD_eq_getElem?_getD, List.getElem?_eq_getElem hk]; rfl, fun j hj => ?_⟩
    have := hno j hj
    rw [List.getD_eq_getElem?_getD, List.getElem?_eq_getElem (by omega)] at this
    simpa using this
  rw [this]; rfl
theorem orL_none (l : List Int) (hno : ∀ j, j < l.length → l.getD j 0 = 0) : orL l = 0 := by
  unfold orL
  have : l.find? (fun x => x != 0) = none := by
    rw [List.find?_eq_none]
    intro x hx
    obtain ⟨j, hj, rfl⟩ := List.getElem_of_mem hx
    have := hno j hj
    rw [List.getD_eq_getElem?_getD, List.getElem?_eq_getElem (by omega)] at this
    simpa using this
  rw [this]; rfl
theorem orI_eq (x y z : Int) : orL [x, y, z] = orI x y z := by
  unfold orL orI
  by_cases hx : x = 0 <;> by_cases hy : y = 0 <;> by_cases hz : z = 0 <;> simp [hx, hy, hz]
theorem or39 (w : World) (a : Option Addr) (n c : Nat) (l : List Int) (hl : l.length = n) (S : Seq w a n (ints l)) (hn : n ≤ 65536) :
    Calls Try.prog 39 #[.slice a n c] w fun e w' => e = .returned (.int .i64 (orL l)) ∧ w = w' := by
  have HS := Lib.hid S
  have HL := Lib.hid hl
  clear S hl
  go_enter Try.func39, Try.ntmps39
  go_wp2
  go_loop [8] (fun qv => ∃ q : Nat, q ≤ n ∧ qv = .int .i64 q ∧ Hid (∀ j, j < q → l.getD j 0 = 0)) (fun qv => n - (intOf qv).toNat)
  case atStart => exact ⟨0, by omega, rfl, Lib.hid (fun j hj => by omega)⟩
  case round =>
    obtain ⟨q, hq, rfl, hh⟩ := hrel
    by_cases hlq : q < n
    · obtain ⟨b3, off3, hLa, hb3, hc3⟩ := HS.out.at q hlq
      have x0 := hc3 q hlq
      unfold ints at x0
      obtain ⟨x, hx⟩ : ∃ x, x = l.getD q 0 := ⟨_, rfl⟩
      rw [← hx] at x0
      have HX := Lib.hid hx
      clear hx hc3
      subst hLa
      by_cases hxe : x = 0
      · have HN : Hid (∀ j, j < q + 1 → l.getD j 0 = 0) := Lib.hid (fun j hj => by
          rcases Nat.lt_succ_iff_lt_or_eq.1 hj with h | rfl
          · exact hh.out j h
          · rw [← HX.out]; exact hxe)
        subst hxe
        go_wp2_with fail
        go_round
        case rel => exact ⟨q + 1, by omega, by go_num, HN⟩
        case measure => simp [intOf]; omega
      · have hxb : (x != 0) = true := by simpa using hxe
        have hres := orL_first l q (by rw [HL.out]; exact hlq) (by rw [← HX.out]; exact hxe) hh.out
        have HR := Lib.hid hres
        clear hres hxe
        go_wp2_with fail
        go_ret
        exact ⟨ret_int (by rw [HR.out]; exact HX.out), rfl⟩
    · obtain rfl : q = n := by omega
      have hres := orL_none l (by rw [HL.out]; exact hh.out)
      have HR := Lib.hid hres
      clear hres
      go_wp2_with fail
      go_ret
      exact ⟨ret_int (by rw [HR.out]), rfl⟩
/-- The least of a list, which is not empty. -/
def minL (l : List Int) (k : Nat) : Int := (l.take k).foldl min (l.getD 0 0)
theorem minL_succ (l : List Int) (k : Nat) (hk : k < l.length) : minL l (k + 1) = min (minL l k) (l.getD k 0) := by
  unfold minL
  rw [take_one l 0 k hk, List.foldl_append]; rfl
theorem minL_neg (l : List Int) (k : Nat) (h0 : 0 < l.length) (hk : k ≤ l.length) : minL l k < 0 ↔ (l.getD 0 0 < 0 ∨ ∃ j, j < k ∧ l.getD j 0 < 0) := by
  induction k with
  | zero => unfold minL; simp
  | succ k ih =>
    rw [minL_succ l k (by omega)]
    have := ih (by omega)
    constructor
    · intro h
      by_cases h1 : minL l k < 0
      · rcases this.1 h1 with h2 | ⟨j, hj, h2⟩
        · exact .inl h2
        · exact .inr ⟨j, by omega, h2⟩
      · exact .inr ⟨k, by omega, by omega⟩
    · rintro (h | ⟨j, hj, h⟩)
      · have := this.2 (.inl h); omega
      · by_cases e : j = k
        · subst e; omega
        · have := this.2 (.inr ⟨j, by omega, h⟩); omega
theorem run_min2 {P : Program} (ts : Array TypeId) (t : TypeId) (k k' : IntKind) (x y : Int) (w : World) : (Builtin.min_ ts t #[.int k x, .int k' y]).run P w = .ok (.int k (min x y)) w := by
  simp [Builtin.min_, Builtin.min2]
  omega
theorem min38 (w : World) (a : Option Addr) (n c : Nat) (l : List Int) (hl : l.length = n) (S : Seq w a n (ints l)) (hn : n ≤ 65536) (h0 : 1 ≤ n) :
    Calls Try.prog 38 #[.slice a n c] w fun e w' => e = .returned (.int .i64 (minL l n)) ∧ w = w' := by
  have HL := Lib.hid hl
  have M2 := @run_min2 Try.prog
  obtain ⟨b3, off3, hLa, hb3, hc3⟩ := S.at 0 (by omega)
  have x0 := hc3 0 (by omega)
  unfold ints at x0
  rw [Nat.add_zero] at x0
  have HC := Lib.hid hc3
  have hm1 : minL l 1 = l.getD 0 0 := by rw [minL_succ l 0 (by omega)]; unfold minL; simp
  obtain ⟨x, hx⟩ : ∃ x, x = l.getD 0 0 := ⟨_, rfl⟩
  rw [← hx] at x0 hm1
  have HM1 := Lib.hid hm1
  have hnb : decide (n < 1) = false := by simp; omega
  have hnb2 : decide ((n : Int) < 1) = false := by simp; omega
  clear S hl hc3 hx hm1
  subst hLa
  go_enter Try.func38, Try.ntmps38
  go_wp2
  go_loop [3, 4] (fun mv qv => ∃ q : Nat, 1 ≤ q ∧ q ≤ n ∧ qv = .int .i64 q ∧ mv = .int .i64 (minL l q)) (fun _ qv => n - (intOf qv).toNat)
  case atStart => exact ⟨1, by omega, by omega, rfl, by rw [HM1.out]⟩
  case round =>
    obtain ⟨q, hq1, hq, rfl, rfl⟩ := hrel
    by_cases hlq : q < n
    · have y0 := HC.out q hlq
      unfold ints at y0
      have hs := minL_succ l q (by rw [HL.out]; exact hlq)
      obtain ⟨y, hy⟩ : ∃ x, x = l.getD q 0 := ⟨_, rfl⟩
      obtain ⟨m, hm⟩ : ∃ x, x = minL l q := ⟨_, rfl⟩
      rw [← hy] at y0 hs
      rw [← hm] at hs ⊢
      have HSs := Lib.hid hs
      clear hy hm hs
      go_wp2
      go_round
      case rel => exact ⟨q + 1, by omega, by omega, by go_num, by rw [HSs.out]⟩
      case measure => simp [intOf]; omega
    · obtain rfl : q = n := by omega
      go_wp2
      go_ret
      exact ⟨rfl, rfl⟩
/-- Is one of them below 0? -/
def lowB (l : List Int) : Bool := l.any fun x => decide (x < 0)
theorem lowB_iff (l : List Int) (h : 0 < l.length) : decide (minL l l.length < 0) = lowB l := by
  rw [Bool.eq_iff_iff, decide_eq_true_eq, minL_neg l l.length h (Nat.le_refl _)]
  unfold lowB
  rw [List.any_eq_true]
  constructor
  · rintro (h1 | ⟨j, hj, h1⟩)
    · exact ⟨_, getD_mem l 0 h, by simpa using h1⟩
    · exact ⟨_, getD_mem l 0 hj, by simpa using h1⟩
  · rintro ⟨x, hx, hlt⟩
    obtain ⟨j, hj, rfl⟩ := List.getElem_of_mem hx
    exact .inr ⟨j, hj, by rw [List.getD_eq_getElem?_getD, List.getElem?_eq_getElem hj]; simpa using hlt⟩
theorem low25 (w : World) (a : Option Addr) (n c : Nat) (l : List Int) (hl : l.length = n) (S : Seq w a n (ints l)) (hn : n ≤ 65536) (h0 : 1 ≤ n) :
    Calls Try.prog 25 #[.slice a n c] w fun e w' => e = .returned (.bool (lowB l)) ∧ w = w' := by
  have hr := lowB_iff l (by omega)
  rw [hl] at hr
  have HM := Lib.hid (min38 w a n c l hl S hn h0)
  obtain ⟨m, hm⟩ : ∃ m, m = minL l n := ⟨_, rfl⟩
  rw [← hm] at hr HM
  have HR := Lib.hid hr
  clear S hl hr hm
  go_enter Try.func25, Try.ntmps25
  go_wp2_with fail
  refine Calls.mono HM.out ?_
  rintro e w1 ⟨rfl, rfl⟩
  go_wp2_with fail
  go_ret
  exact ⟨ret_bool HR.out, rfl⟩
theorem seq3 {w : World} {b : Nat} {x y z : Int} (c0 : w.cell? ⟨b, 0, none⟩ = some (.int .i64 x)) (c1 : w.cell? ⟨b, 1, none⟩ = some (.int .i64 y)) (c2 : w.cell? ⟨b, 2, none⟩ = some (.int .i64 z)) : Seq w (some ⟨b, 0, none⟩) 3 (ints [x, y, z]) := by
  refine .inr ⟨b, 0, rfl, fun i hi => ?_⟩
  match i, hi with
  | 0, _ => exact c0
  | 1, _ => exact c1
  | 2, _ => exact c2
theorem seq4 {w : World} {b : Nat} {x y z u : Int} (c0 : w.cell? ⟨b, 0, none⟩ = some (.int .i64 x)) (c1 : w.cell? ⟨b, 1, none⟩ = some (.int .i64 y)) (c2 : w.cell? ⟨b, 2, none⟩ = some (.int .i64 z)) (c3 : w.cell? ⟨b, 3, none⟩ = some (.int .i64 u)) : Seq w (some ⟨b, 0, none⟩) 4 (ints [x, y, z, u]) := by
  refine .inr ⟨b, 0, rfl, fun i hi => ?_⟩
  match i, hi with
  | 0, _ => exact c0
  | 1, _ => exact c1
  | 2, _ => exact c2
  | 3, _ => exact c3

set_option maxHeartbeats 2000000 in
theorem compare26 (w : World) (a b : WhenV) : Calls Try.prog 26 #[a.val, b.val] w fun e w' => e = .returned (.int .i64 (cmpW a b)) ∧ Below w.heap.size w w' := by
  go_enter Try.func26, Try.ntmps26
  go_wp2_with fail
  refine wp_region_held_drew (S := fun w' => w'.cell? ⟨w.heap.size, 0, none⟩ = some (.int .i64 a.t) ∧ w'.cell? ⟨w.heap.size, 1, none⟩ = some (.int .i64 a.d) ∧ w'.cell? ⟨w.heap.size, 2, none⟩ = some (.int .i64 a.no) ∧ w'.cell? ⟨w.heap.size + 1, 0, none⟩ = some (.int .i64 b.t) ∧ w'.cell? ⟨w.heap.size + 1, 1, none⟩ = some (.int .i64 b.d) ∧ w'.cell? ⟨w.heap.size + 1, 2, none⟩ = some (.int .i64 b.no)) (by kernel_rfl) (⟨by simp, by simp, by simp, by simp, by simp, by simp⟩) (fun hHeld => ?_)
  refine wpAnyH_take (i := 0) (v := ?_) (by simp only [List.getElem?_toArray, List.getElem?_cons_succ, List.getElem?_cons_zero]; rfl) (by kernel_rfl) (by kernel_rfl) (by kernel_rfl) (by intro _ _ _ h; exact h) (Or.inl ⟨by rfl, ?_⟩) (by assumption) ?_
  rotate_left
  · intro w hSw; (try dsimp only at hSw); go_simp; try with_reducible rfl
  try simp only [Act.put, List.setIfInBounds_toArray, List.set_cons_zero, List.set_cons_succ]
  refine wpAnyH_take (i := 1) (v := ?_) (by simp only [List.getElem?_toArray, List.getElem?_cons_succ, List.getElem?_cons_zero]; rfl) (by kernel_rfl) (by kernel_rfl) (by kernel_rfl) (by intro _ _ _ h; exact h) (Or.inl ⟨by rfl, ?_⟩) (by assumption) ?_
  rotate_left
  · intro w hSw; (try dsimp only at hSw); go_simp; try with_reducible rfl
  try simp only [Act.put, List.setIfInBounds_toArray, List.set_cons_zero, List.set_cons_succ]
  refine wpAnyH_take (i := 2) (v := ?_) (by simp only [List.getElem?_toArray, List.getElem?_cons_succ, List.getElem?_cons_zero]; rfl) (by kernel_rfl) (by kernel_rfl) (by kernel_rfl) (by intro _ _ _ h; exact h) (Or.inl ⟨by rfl, ?_⟩) (by assumption) ?_
  rotate_left
  · intro w hSw; (try dsimp only at hSw); go_simp; try with_reducible rfl
  try simp only [Act.put, List.setIfInBounds_toArray, List.set_cons_zero, List.set_cons_succ]
  refine wpAnyH_take (i := 3) (v := ?_) (by simp only [List.getElem?_toArray, List.getElem?_cons_succ, List.getElem?_cons_zero]; rfl) (by kernel_rfl) (by kernel_rfl) (by kernel_rfl) (by intro _ _ _ h; exact h) (Or.inl ⟨by rfl, ?_⟩) (by assumption) ?_
  rotate_left
  · intro w hSw; (try dsimp only at hSw); go_simp; try with_reducible rfl
  try simp only [Act.put, List.setIfInBounds_toArray, List.set_cons_zero, List.set_cons_succ]
  refine wpAnyH_take (i := 5) (v := ?_) (by simp only [List.getElem?_toArray, List.getElem?_cons_succ, List.getElem?_cons_zero]; rfl) (by kernel_rfl) (by kernel_rfl) (by kernel_rfl) (by intro _ _ _ h; exact h) (Or.inl ⟨by rfl, ?_⟩) (by assumption) ?_
  rotate_left
  · intro w hSw; (try dsimp only at hSw); go_simp; try with_reducible rfl
  try simp only [Act.put, List.setIfInBounds_toArray, List.set_cons_zero, List.set_cons_succ]
  refine wpAnyH_take (i := 6) (v := ?_) (by simp only [List.getElem?_toArray, List.getElem?_cons_succ, List.getElem?_cons_zero]; rfl) (by kernel_rfl) (by kernel_rfl) (by kernel_rfl) (by intro _ _ _ h; exact h) (Or.inl ⟨by rfl, ?_⟩) (by assumption) ?_
  rotate_left
  · intro w hSw; (try dsimp only at hSw); go_simp; try with_reducible rfl
  try simp only [Act.put, List.setIfInBounds_toArray, List.set_cons_zero, List.set_cons_succ]
  refine wpAnyH_take (i := 7) (v := ?_) (by simp only [List.getElem?_toArray, List.getElem?_cons_succ, List.getElem?_cons_zero]; rfl) (by kernel_rfl) (by kernel_rfl) (by kernel_rfl) (by intro _ _ _ h; exact h) (Or.inl ⟨by rfl, ?_⟩) (by assumption) ?_
  rotate_left
  · intro w hSw; (try dsimp only at hSw); go_simp; try with_reducible rfl
  try simp only [Act.put, List.setIfInBounds_toArray, List.set_cons_zero, List.set_cons_succ]
  refine wpAnyH_take (i := 8) (v := ?_) (by simp only [List.getElem?_toArray, List.getElem?_cons_succ, List.getElem?_cons_zero]; rfl) (by kernel_rfl) (by kernel_rfl) (by kernel_rfl) (by intro _ _ _ h; exact h) (Or.inl ⟨by rfl, ?_⟩) (by assumption) ?_
  rotate_left
  · intro w hSw; (try dsimp only at hSw); go_simp; try with_reducible rfl
  try simp only [Act.put, List.setIfInBounds_toArray, List.set_cons_zero, List.set_cons_succ]
  refine wpAnyH_take (i := 10) (v := ?_) (by simp only [List.getElem?_toArray, List.getElem?_cons_succ, List.getElem?_cons_zero]; rfl) (by kernel_rfl) (by kernel_rfl) (by kernel_rfl) (by intro _ _ _ h; exact h) (Or.inl ⟨by rfl, ?_⟩) (by assumption) ?_
  rotate_left
  · intro w hSw; (try dsimp only at hSw); go_simp; try with_reducible rfl
  try simp only [Act.put, List.setIfInBounds_toArray, List.set_cons_zero, List.set_cons_succ]
  refine wpAnyH_take (i := 11) (v := ?_) (by simp only [List.getElem?_toArray, List.getElem?_cons_succ, List.getElem?_cons_zero]; rfl) (by kernel_rfl) (by kernel_rfl) (by kernel_rfl) (by intro _ _ _ h; exact h) (Or.inl ⟨by rfl, ?_⟩) (by assumption) ?_
  rotate_left
  · intro w hSw; (try dsimp only at hSw); go_simp; try with_reducible rfl
  try simp only [Act.put, List.setIfInBounds_toArray, List.set_cons_zero, List.set_cons_succ]
  refine wpAnyH_take (i := 12) (v := ?_) (by simp only [List.getElem?_toArray, List.getElem?_cons_succ, List.getElem?_cons_zero]; rfl) (by kernel_rfl) (by kernel_rfl) (by kernel_rfl) (by intro _ _ _ h; exact h) (Or.inl ⟨by rfl, ?_⟩) (by assumption) ?_
  rotate_left
  · intro w hSw; (try dsimp only at hSw); go_simp; try with_reducible rfl
  try simp only [Act.put, List.setIfInBounds_toArray, List.set_cons_zero, List.set_cons_succ]
  refine wpAnyH_take (i := 13) (v := ?_) (by simp only [List.getElem?_toArray, List.getElem?_cons_succ, List.getElem?_cons_zero]; rfl) (by kernel_rfl) (by kernel_rfl) (by kernel_rfl) (by intro _ _ _ h; exact h) (Or.inl ⟨by rfl, ?_⟩) (by assumption) ?_
  rotate_left
  · intro w hSw; (try dsimp only at hSw); go_simp; try with_reducible rfl
  try simp only [Act.put, List.setIfInBounds_toArray, List.set_cons_zero, List.set_cons_succ]
  refine wpAnyH_ready (rs := [4]) (by kernel_rfl) (by simp) ?_
  refine AllReadyH.cons (o := _) (by simp only [List.getElem?_toArray, List.getElem?_cons_succ, List.getElem?_cons_zero]; rfl) (fun K hK => ?_) AllReadyH.nil
  go_simp
  go_at_call 40
  refine Calls.mono (cmp40 _ a.t b.t) ?_
  rintro e w9 ⟨rfl, rfl⟩
  go_simp
  refine hK.out _ _ (by exact hHeld) (fun hHeld => ?_)
  clear hK K
  try simp only [Act.put, List.setIfInBounds_toArray, List.set_cons_zero, List.set_cons_succ]
  refine wpAnyH_ready (rs := [9]) (by kernel_rfl) (by simp) ?_
  refine AllReadyH.cons (o := _) (by simp only [List.getElem?_toArray, List.getElem?_cons_succ, List.getElem?_cons_zero]; rfl) (fun K hK => ?_) AllReadyH.nil
  go_simp
  go_at_call 40
  refine Calls.mono (cmp40 _ a.d b.d) ?_
  rintro e w9 ⟨rfl, rfl⟩
  go_simp
  refine hK.out _ _ (by exact hHeld) (fun hHeld => ?_)
  clear hK K
  try simp only [Act.put, List.setIfInBounds_toArray, List.set_cons_zero, List.set_cons_succ]
  refine wpAnyH_ready (rs := [14]) (by kernel_rfl) (by simp) ?_
  refine AllReadyH.cons (o := _) (by simp only [List.getElem?_toArray, List.getElem?_cons_succ, List.getElem?_cons_zero]; rfl) (fun K hK => ?_) AllReadyH.nil
  go_simp
  go_at_call 40
  refine Calls.mono (cmp40 _ a.no b.no) ?_
  rintro e w9 ⟨rfl, rfl⟩
  go_simp
  refine hK.out _ _ (by exact hHeld) (fun hHeld => ?_)
  clear hK K
  try simp only [Act.put, List.setIfInBounds_toArray, List.set_cons_zero, List.set_cons_succ]
  refine wpAnyH_ready (rs := [15]) (by kernel_rfl) (by simp) ?_
  refine AllReadyH.cons (o := _) (by simp only [List.getElem?_toArray, List.getElem?_cons_succ, List.getElem?_cons_zero]; rfl) (fun K hK => ?_) AllReadyH.nil
  go_simp

  refine hK.out _ _ (by exact ⟨cell_alloc _ hHeld.1, cell_alloc _ hHeld.2.1, cell_alloc _ hHeld.2.2.1, cell_alloc _ hHeld.2.2.2.1, cell_alloc _ hHeld.2.2.2.2.1, cell_alloc _ hHeld.2.2.2.2.2⟩) (fun hHeld => ?_)
  clear hK K
  try simp only [Act.put, List.setIfInBounds_toArray, List.set_cons_zero, List.set_cons_succ]
  refine wpAnyH_ready (rs := [16]) (by kernel_rfl) (by simp) ?_
  refine AllReadyH.cons (o := _) (by simp only [List.getElem?_toArray, List.getElem?_cons_succ, List.getElem?_cons_zero]; rfl) (fun K hK => ?_) AllReadyH.nil
  go_simp
  go_at_call 39
  refine Calls.mono (or39 _ _ 3 3 [cmpI a.t b.t, cmpI a.d b.d, cmpI a.no b.no] rfl (seq3 (by exact cell_top ((w.alloc _).alloc _) _ _ _ _ _ (by simp) rfl) (by exact cell_top ((w.alloc _).alloc _) _ _ _ _ _ (by simp) rfl) (by exact cell_top ((w.alloc _).alloc _) _ _ _ _ _ (by simp) rfl)) (by omega)) ?_
  rintro e w9 ⟨rfl, rfl⟩
  rw [orI_eq]
  go_simp
  refine hK.out _ _ (by exact hHeld) (fun hHeld => ?_)
  clear hK K
  try simp only [Act.put, List.setIfInBounds_toArray, List.set_cons_zero, List.set_cons_succ]
  refine wpAnyH_take (i := 17) (v := ?_) (by simp only [List.getElem?_toArray, List.getElem?_cons_succ, List.getElem?_cons_zero]; rfl) (by kernel_rfl) (by kernel_rfl) (by kernel_rfl) (by intro _ _ _ h; exact h) (Or.inl ⟨by rfl, ?_⟩) (by assumption) ?_
  rotate_left
  · intro w hSw; (try dsimp only at hSw); go_simp; try with_reducible rfl
  try simp only [Act.put, List.setIfInBounds_toArray, List.set_cons_zero, List.set_cons_succ]
  refine wpAnyH_done (by kernel_rfl) ?_ _
  go_wp2
  go_ret
  refine ⟨rfl, ?_⟩
  exact ((((Below.refl _ _).alloc (Nat.le_refl _) _).alloc (by simp) _).drew).alloc (by simp; omega) _

theorem round27 (w : World) (t d : Int) : Calls Try.prog 27 #[.int .i64 t, .int .i64 d] w fun e w' => e = .returned (WhenV.val ⟨t, d, 0⟩) ∧ Below w.heap.size w w' := by
  go_enter Try.func27, Try.ntmps27
  go_wp2
  exact bodyPost_ret (v := .agg #[.int .i64 t, .int .i64 d, .int .i64 0]) (by simp [results, Try.results27, go_sem]) rfl ⟨rfl, (Below.refl _ _).alloc (Nat.le_refl _) _⟩
theorem of29 (w : World) (x : EvV) : Calls Try.prog 29 #[x.val] w fun e w' => e = .returned x.when.val ∧ Below w.heap.size w w' := by
  go_enter Try.func29, Try.ntmps29
  go_wp2
  exact bodyPost_ret (v := .agg #[.int .i64 x.t, .int .i64 x.d, .int .i64 x.no]) (by simp [results, Try.results29, go_sem]) rfl ⟨rfl, ((Below.refl _ _).alloc (Nat.le_refl _) _).alloc (by simp) _⟩
end Go.Proofs.Ytbhbebidkeejbaa
