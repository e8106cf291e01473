/- The first event, and those of its round (Pop, Take). -/
import Derived.Test.YtbhbebidkeejbaaQ14
namespace Go.Proofs.Ytbhbebidkeejbaa
open Go.RowKit Go.Shelf
set_option linter.unusedVariables false
set_option linter.unusedSimpArgs false

theorem comeE_cases (now delta next : Int) (l : List EvV) : comeE now delta next l = 0 ∨ (comeE now delta next l == 0) = false := by
  by_cases h : comeE now delta next l = 0
  · exact .inl h
  · exact .inr (by simpa using h)
theorem comeE_len {now delta next : Int} {l : List EvV} (h : comeE now delta next l = 0) : 0 < l.length := by
  unfold comeE at h
  split at h
  · split at h
    · cases h
    · omega
  · contradiction
theorem comeR_pop (l : List EvV) : comeR popR l = 0 := by
  unfold comeR
  cases l.drop 1 with
  | nil => rfl
  | cons x t => rfl
/-- What is handed back: a queue, an event, an error. -/
def NewQE (w : World) (E now delta next : Int) (l : List EvV) (x : EvV) (e : Ending) (w' : World) : Prop :=
  ∃ a c, e = .returned (.tuple #[.agg #[.slice a l.length c, .int .i64 now, .int .i64 delta, .int .i64 next], x.val, .int .i64 E]) ∧ l.length ≤ c ∧ (∀ p, a = some p → w.heap.size ≤ p.block) ∧ LAt w' a l ∧ Below w.heap.size w w'
def Popped (w : World) (now delta next : Int) (l : List EvV) (e : Ending) (w' : World) : Prop :=
  if comeE now delta next l = 0 then NewQE w 0 (l.getD 0 default).t (l.getD 0 default).d next (l.drop 1) (l.getD 0 default) e w' else NewQE w (comeE now delta next l) 0 0 0 [] ⟨0, 0, 0, 0, 0⟩ e w'
theorem results_pop {tmps : Array Value} {w : World} {b : Nat} {s : Value} {x y z E : Int} {v : EvV} (h2 : tmps[2]?.getD undef = .pointer (some ⟨b, 0, none⟩)) (h6 : tmps[3]?.getD undef = .pointer (some ⟨b + 1, 0, none⟩)) (h3 : tmps[4]?.getD undef = .int .i64 E)
    (h0 : w.cell? ⟨b, 0, none⟩ = some s) (h1 : w.cell? ⟨b, 1, none⟩ = some (.int .i64 x)) (h4 : w.cell? ⟨b, 2, none⟩ = some (.int .i64 y)) (h5 : w.cell? ⟨b, 3, none⟩ = some (.int .i64 z))
    (v0 : w.cell? ⟨b + 1, 0, none⟩ = some (.int .i64 v.t)) (v1 : w.cell? ⟨b + 1, 1, none⟩ = some (.int .i64 v.d)) (v2 : w.cell? ⟨b + 1, 2, none⟩ = some (.int .i64 v.no)) (v3 : w.cell? ⟨b + 1, 3, none⟩ = some (.int .i64 v.sig)) (v4 : w.cell? ⟨b + 1, 4, none⟩ = some (.int .u64 v.v)) :
    (results Try.f18 tmps).run Try.prog w = .ok (.tuple #[.agg #[s, .int .i64 x, .int .i64 y, .int .i64 z], v.val, .int .i64 E]) w := by
  simp [results, go_sem, h2, h3, h6, h0, h1, h4, h5, v0, v1, v2, v3, v4]
theorem results_take {tmps : Array Value} {w : World} {b : Nat} {s g : Value} {x y z E : Int} (h2 : tmps[2]?.getD undef = .pointer (some ⟨b, 0, none⟩)) (h6 : tmps[3]?.getD undef = g) (h3 : tmps[4]?.getD undef = .int .i64 E)
    (h0 : w.cell? ⟨b, 0, none⟩ = some s) (h1 : w.cell? ⟨b, 1, none⟩ = some (.int .i64 x)) (h4 : w.cell? ⟨b, 2, none⟩ = some (.int .i64 y)) (h5 : w.cell? ⟨b, 3, none⟩ = some (.int .i64 z)) :
    (results Try.f20 tmps).run Try.prog w = .ok (.tuple #[.agg #[s, .int .i64 x, .int .i64 y, .int .i64 z], g, .int .i64 E]) w := by
  simp [results, go_sem, h2, h3, h6, h0, h1, h4, h5]
abbrev put4 (w : World) (b : Nat) (s : Value) (x y z : Int) : World := (((w.setCell ⟨b, 0, none⟩ s).setCell ⟨b, 1, none⟩ (.int .i64 x)).setCell ⟨b, 2, none⟩ (.int .i64 y)).setCell ⟨b, 3, none⟩ (.int .i64 z)
abbrev put5 (w : World) (b : Nat) (v : EvV) : World := ((((w.setCell ⟨b, 0, none⟩ (.int .i64 v.t)).setCell ⟨b, 1, none⟩ (.int .i64 v.d)).setCell ⟨b, 2, none⟩ (.int .i64 v.no)).setCell ⟨b, 3, none⟩ (.int .i64 v.sig)).setCell ⟨b, 4, none⟩ (.int .u64 v.v)
theorem put4_cells {w : World} {b : Nat} {s : Value} {x y z : Int} {u0 u1 u2 u3 : Value} (z0 : w.cell? ⟨b, 0, none⟩ = some u0) (z1 : w.cell? ⟨b, 1, none⟩ = some u1) (z2 : w.cell? ⟨b, 2, none⟩ = some u2) (z3 : w.cell? ⟨b, 3, none⟩ = some u3) :
    (put4 w b s x y z).cell? ⟨b, 0, none⟩ = some s ∧ (put4 w b s x y z).cell? ⟨b, 1, none⟩ = some (.int .i64 x) ∧ (put4 w b s x y z).cell? ⟨b, 2, none⟩ = some (.int .i64 y) ∧ (put4 w b s x y z).cell? ⟨b, 3, none⟩ = some (.int .i64 z) :=
  ⟨set_keep (set_keep (set_keep (cell?_set_own z0) (by decide)) (by decide)) (by decide), set_keep (set_keep (cell?_set_own (set_keep z1 (by decide))) (by decide)) (by decide), set_keep (cell?_set_own (set_keep (set_keep z2 (by decide)) (by decide))) (by decide), cell?_set_own (set_keep (set_keep (set_keep z3 (by decide)) (by decide)) (by decide))⟩
theorem put4_far {w : World} {b c j : Nat} {s u : Value} {x y z : Int} (h : w.cell? ⟨c, j, none⟩ = some u) (hne : c ≠ b) : (put4 w b s x y z).cell? ⟨c, j, none⟩ = some u := far (far (far (far h hne) hne) hne) hne
theorem put4_frozen {w : World} {b c j : Nat} {s : Value} {x y z : Int} : (put4 w b s x y z).frozen? ⟨c, j, none⟩ = w.frozen? ⟨c, j, none⟩ := by rw [set_frozen, set_frozen, set_frozen, set_frozen]
theorem put5_cells {w : World} {b : Nat} {v : EvV} {u0 u1 u2 u3 u4 : Value} (z0 : w.cell? ⟨b, 0, none⟩ = some u0) (z1 : w.cell? ⟨b, 1, none⟩ = some u1) (z2 : w.cell? ⟨b, 2, none⟩ = some u2) (z3 : w.cell? ⟨b, 3, none⟩ = some u3) (z4 : w.cell? ⟨b, 4, none⟩ = some u4) :
    (put5 w b v).cell? ⟨b, 0, none⟩ = some (.int .i64 v.t) ∧ (put5 w b v).cell? ⟨b, 1, none⟩ = some (.int .i64 v.d) ∧ (put5 w b v).cell? ⟨b, 2, none⟩ = some (.int .i64 v.no) ∧ (put5 w b v).cell? ⟨b, 3, none⟩ = some (.int .i64 v.sig) ∧ (put5 w b v).cell? ⟨b, 4, none⟩ = some (.int .u64 v.v) :=
  ⟨set_keep (set_keep (set_keep (set_keep (cell?_set_own z0) (by decide)) (by decide)) (by decide)) (by decide), set_keep (set_keep (set_keep (cell?_set_own (set_keep z1 (by decide))) (by decide)) (by decide)) (by decide), set_keep (set_keep (cell?_set_own (set_keep (set_keep z2 (by decide)) (by decide))) (by decide)) (by decide), set_keep (cell?_set_own (set_keep (set_keep (set_keep z3 (by decide)) (by decide)) (by decide))) (by decide), cell?_set_own (set_keep (set_keep (set_keep (set_keep z4 (by decide)) (by decide)) (by decide)) (by decide))⟩
theorem put5_far {w : World} {b c j : Nat} {u : Value} {v : EvV} (h : w.cell? ⟨c, j, none⟩ = some u) (hne : c ≠ b) : (put5 w b v).cell? ⟨c, j, none⟩ = some u := far (far (far (far (far h hne) hne) hne) hne) hne
theorem put5_frozen {w : World} {b c j : Nat} {v : EvV} : (put5 w b v).frozen? ⟨c, j, none⟩ = w.frozen? ⟨c, j, none⟩ := by rw [set_frozen, set_frozen, set_frozen, set_frozen, set_frozen]
theorem put4_below {B b : Nat} {w0 w : World} {s : Value} {x y z : Int} (h : Below B w0 w) (hb : B ≤ b) : Below B w0 (put4 w b s x y z) := (((h.setCell hb _).setCell hb _).setCell hb _).setCell hb _
theorem put5_below {B b : Nat} {w0 w : World} {v : EvV} (h : Below B w0 w) (hb : B ≤ b) : Below B w0 (put5 w b v) := ((((h.setCell hb _).setCell hb _).setCell hb _).setCell hb _).setCell hb _
theorem LAt.put4 {w : World} {a : Option Addr} {l : List EvV} {B b : Nat} {s : Value} {x y z : Int} (h : LAt w a l) (hf : ∀ p, a = some p → B ≤ p.block) (hb : b < B) : LAt (put4 w b s x y z) a l := (((h.set hf hb).set hf hb).set hf hb).set hf hb
theorem LAt.put5 {w : World} {a : Option Addr} {l : List EvV} {B b : Nat} {v : EvV} (h : LAt w a l) (hf : ∀ p, a = some p → B ≤ p.block) (hb : b < B) : LAt (put5 w b v) a l := ((((h.set hf hb).set hf hb).set hf hb).set hf hb).set hf hb
theorem put4_same {w : World} {b : Nat} {s : Value} {x y z : Int} (z0 : w.cell? ⟨b, 0, none⟩ = some s) (z1 : w.cell? ⟨b, 1, none⟩ = some (.int .i64 x)) (z2 : w.cell? ⟨b, 2, none⟩ = some (.int .i64 y)) (z3 : w.cell? ⟨b, 3, none⟩ = some (.int .i64 z)) : put4 w b s x y z = w := by
  unfold Ytbhbebidkeejbaa.put4
  rw [set_same z0, set_same z1, set_same z2, set_same z3]
theorem put5_same {w : World} {b : Nat} {v : EvV} (z0 : w.cell? ⟨b, 0, none⟩ = some (.int .i64 v.t)) (z1 : w.cell? ⟨b, 1, none⟩ = some (.int .i64 v.d)) (z2 : w.cell? ⟨b, 2, none⟩ = some (.int .i64 v.no)) (z3 : w.cell? ⟨b, 3, none⟩ = some (.int .i64 v.sig)) (z4 : w.cell? ⟨b, 4, none⟩ = some (.int .u64 v.v)) : put5 w b v = w := by
  unfold Ytbhbebidkeejbaa.put5
  rw [set_same z0, set_same z1, set_same z2, set_same z3, set_same z4]
theorem Came.form {R : EvV → EvV → Bool} {w : World} {now delta next : Int} {l : List EvV} {e : Ending} {w' : World} (h : Came R w now delta next l e w') :
    ∃ (E x y z : Int) (l' g' : List EvV), NewQL w E x y z l' g' e w' ∧ ∀ W e2 w2, NewQL W E x y z l' g' e2 w2 → Came R W now delta next l e2 w2 := by
  unfold Came at h ⊢
  by_cases h0 : comeE now delta next l = 0
  · rw [if_pos h0] at h
    exact ⟨_, _, _, _, _, _, h, fun W e2 w2 hq => by rw [if_pos h0]; exact hq⟩
  · rw [if_neg h0] at h
    exact ⟨_, _, _, _, _, _, h, fun W e2 w2 hq => by rw [if_neg h0]; exact hq⟩

set_option maxRecDepth 100000 in
set_option maxHeartbeats 2000000 in
theorem take20 (w : World) (a : Option Addr) (n c : Nat) (now delta next : Int) (l : List EvV) (hn : l.length = n) (h : LAt w a l) (h9 : n ≤ 1000) (hc : n ≤ c) :
    Calls Try.prog 20 #[.agg #[.slice a n c, .int .i64 now, .int .i64 delta, .int .i64 next]] w (Came takeR w now delta next l) := by
  obtain ⟨H, hH⟩ : ∃ h, h = w.heap.size := ⟨_, rfl⟩
  obtain ⟨w1, hw1⟩ : ∃ W, W = (w.alloc (.cells #[.slice a n c, .int .i64 now, .int .i64 delta, .int .i64 next] 24)).alloc (.cells #[.slice none 0 0, .int .i64 0, .int .i64 0, .int .i64 0] 24) := ⟨_, rfl⟩
  have HX1 : Hid (Below w.heap.size w w1) := Lib.hid (by rw [hw1]; exact ((Below.refl _ _).alloc (Nat.le_refl _) _).alloc (by simp) _)
  have hs1 : w1.heap.size = H + 2 := by rw [hw1, hH]; simp
  have z0 : w1.cell? ⟨H + 1, 0, none⟩ = some (.slice none 0 0) := by rw [hw1, hH]; simp
  have z1 : w1.cell? ⟨H + 1, 1, none⟩ = some (.int .i64 0) := by rw [hw1, hH]; simp
  have z2 : w1.cell? ⟨H + 1, 2, none⟩ = some (.int .i64 0) := by rw [hw1, hH]; simp
  have z3 : w1.cell? ⟨H + 1, 3, none⟩ = some (.int .i64 0) := by rw [hw1, hH]; simp
  have zf : ∀ i, w1.frozen? ⟨H + 1, i, none⟩ = false := by intro i; rw [hw1, hH]; simp
  have HCall := Lib.hid (come34 w1 a n c now delta next l hn (h.below HX1.out (Nat.le_refl _)) h9 hc takeR 37 (enters_of Try.func37 (by kernel_rfl) rfl) (fun W x y => takeR37 W x y))
  have HZ := Lib.hid (And.intro z0 (And.intro z1 (And.intro z2 (And.intro z3 zf))))
  have HS1 := Lib.hid hs1
  have HW1 := Lib.hid hw1
  have HHH := Lib.hid hH
  clear h hH hw1 hs1 z0 z1 z2 z3 zf
  go_enter Try.func20, Try.ntmps20
  go_wp2_with fail
  rw [← HW1.out]
  (try rw [← HHH.out])
  refine Calls.mono HCall.out ?_
  rintro e w2 hcame
  obtain ⟨E, x, y, z, l', g', ⟨a', c', b', d', rfl, hc', hd', hfa, hfb, hla, hlb, hb2⟩, hback⟩ := hcame.form
  have HBack := Lib.hid hback
  have HB2 := Lib.hid hb2
  have hlt : H + 1 < w1.heap.size := by have := HS1.out; omega
  have z0 := (hb2.cell (p := ⟨H + 1, 0, none⟩) hlt).trans HZ.out.1
  have z1 := (hb2.cell (p := ⟨H + 1, 1, none⟩) hlt).trans HZ.out.2.1
  have z2 := (hb2.cell (p := ⟨H + 1, 2, none⟩) hlt).trans HZ.out.2.2.1
  have z3 := (hb2.cell (p := ⟨H + 1, 3, none⟩) hlt).trans HZ.out.2.2.2.1
  have f0 := (hb2.frozen (p := ⟨H + 1, 0, none⟩) hlt).trans (HZ.out.2.2.2.2 0)
  have f1 := (hb2.frozen (p := ⟨H + 1, 1, none⟩) hlt).trans (HZ.out.2.2.2.2 1)
  have f2 := (hb2.frozen (p := ⟨H + 1, 2, none⟩) hlt).trans (HZ.out.2.2.2.2 2)
  have f3 := (hb2.frozen (p := ⟨H + 1, 3, none⟩) hlt).trans (HZ.out.2.2.2.2 3)
  have HR := Lib.hid (And.intro hc' (And.intro hd' (And.intro hfa (And.intro hfb (And.intro hla hlb)))))
  obtain ⟨n1, hn1⟩ : ∃ k, k = l'.length := ⟨_, rfl⟩
  obtain ⟨n2, hn2⟩ : ∃ k, k = g'.length := ⟨_, rfl⟩
  rw [← hn1, ← hn2]
  have HN1 := Lib.hid hn1
  have HN2 := Lib.hid hn2
  clear hback hcame hb2 hlt hc' hd' hfa hfb hla hlb hn1 hn2
  go_wp2_with fail
  refine bodyPost_ret (results_take (g := .slice b' n2 d') (b := H + 1) rfl rfl rfl (set_keep (set_keep (set_keep (cell?_set_own z0) (by decide)) (by decide)) (by decide)) (set_keep (set_keep (cell?_set_own (set_keep z1 (by decide))) (by decide)) (by decide)) (set_keep (cell?_set_own (set_keep (set_keep z2 (by decide)) (by decide))) (by decide)) (cell?_set_own (set_keep (set_keep (set_keep z3 (by decide)) (by decide)) (by decide)))) rfl (HBack.out _ _ _ ?_)
  rw [HN1.out, HN2.out]
  obtain ⟨hc', hd', hfa, hfb, hla, hlb⟩ := HR.out
  have hs := HX1.out.size
  have hlt : H + 1 < w1.heap.size := by have := HS1.out; omega
  refine ⟨a', c', b', d', rfl, hc', hd', fun p hp => Nat.le_trans hs (hfa p hp), fun p hp => Nat.le_trans hs (hfb p hp), (((hla.set hfa hlt).set hfa hlt).set hfa hlt).set hfa hlt, (((hlb.set hfb hlt).set hfb hlt).set hfb hlt).set hfb hlt, ?_⟩
  refine ((((HX1.out.trans (HB2.out.mono HX1.out.size)).setCell ?_ _).setCell ?_ _).setCell ?_ _).setCell ?_ _
  all_goals (have := HHH.out; simp only; omega)
theorem pop_tail {w w3 : World} {H : Nat} {tm : Array Value} : True := trivial
set_option maxRecDepth 100000 in
set_option maxHeartbeats 4000000 in
theorem pop18 (w : World) (a : Option Addr) (n c : Nat) (now delta next : Int) (l : List EvV) (hn : l.length = n) (h : LAt w a l) (h9 : n ≤ 1000) (hc : n ≤ c) :
    Calls Try.prog 18 #[.agg #[.slice a n c, .int .i64 now, .int .i64 delta, .int .i64 next]] w (Popped w now delta next l) := by
  obtain ⟨H, hH⟩ : ∃ h, h = w.heap.size := ⟨_, rfl⟩
  obtain ⟨w1, hw1⟩ : ∃ W, W = ((w.alloc (.cells #[.slice a n c, .int .i64 now, .int .i64 delta, .int .i64 next] 24)).alloc (.cells #[.slice none 0 0, .int .i64 0, .int .i64 0, .int .i64 0] 24)).alloc (.cells #[.int .i64 0, .int .i64 0, .int .i64 0, .int .i64 0, .int .u64 0] 35) := ⟨_, rfl⟩
  have HX1 : Hid (Below w.heap.size w w1) := Lib.hid (by rw [hw1]; exact (((Below.refl _ _).alloc (Nat.le_refl _) _).alloc (by simp) _).alloc (by simp <;> omega) _)
  have hs1 : w1.heap.size = H + 3 := by rw [hw1, hH]; simp
  have z0 : w1.cell? ⟨H + 1, 0, none⟩ = some (.slice none 0 0) := by rw [hw1, hH]; refine cell_alloc _ ?_; simp
  have z1 : w1.cell? ⟨H + 1, 1, none⟩ = some (.int .i64 0) := by rw [hw1, hH]; refine cell_alloc _ ?_; simp
  have z2 : w1.cell? ⟨H + 1, 2, none⟩ = some (.int .i64 0) := by rw [hw1, hH]; refine cell_alloc _ ?_; simp
  have z3 : w1.cell? ⟨H + 1, 3, none⟩ = some (.int .i64 0) := by rw [hw1, hH]; refine cell_alloc _ ?_; simp
  have hs2 : ((w.alloc (.cells #[.slice a n c, .int .i64 now, .int .i64 delta, .int .i64 next] 24)).alloc (.cells #[.slice none 0 0, .int .i64 0, .int .i64 0, .int .i64 0] 24)).heap.size = H + 1 + 1 := by rw [hH]; simp
  have eZ : ∀ W : World, W.heap.size = H + 1 + 1 → (W.alloc (.cells #[.int .i64 0, .int .i64 0, .int .i64 0, .int .i64 0, .int .u64 0] 35)).cell? ⟨H + 1 + 1, 0, none⟩ = some (.int .i64 0) ∧ (W.alloc (.cells #[.int .i64 0, .int .i64 0, .int .i64 0, .int .i64 0, .int .u64 0] 35)).cell? ⟨H + 1 + 1, 1, none⟩ = some (.int .i64 0) ∧ (W.alloc (.cells #[.int .i64 0, .int .i64 0, .int .i64 0, .int .i64 0, .int .u64 0] 35)).cell? ⟨H + 1 + 1, 2, none⟩ = some (.int .i64 0) ∧ (W.alloc (.cells #[.int .i64 0, .int .i64 0, .int .i64 0, .int .i64 0, .int .u64 0] 35)).cell? ⟨H + 1 + 1, 3, none⟩ = some (.int .i64 0) ∧
      (W.alloc (.cells #[.int .i64 0, .int .i64 0, .int .i64 0, .int .i64 0, .int .u64 0] 35)).cell? ⟨H + 1 + 1, 4, none⟩ = some (.int .u64 0) ∧ (∀ i, (W.alloc (.cells #[.int .i64 0, .int .i64 0, .int .i64 0, .int .i64 0, .int .u64 0] 35)).frozen? ⟨H + 1 + 1, i, none⟩ = false) := fun W h => by
    rw [← h]
    exact ⟨by simp, by simp, by simp, by simp, by simp, fun i => by simp⟩
  have hE := eZ _ hs2
  rw [← hw1] at hE
  have zf : ∀ i, w1.frozen? ⟨H + 1, i, none⟩ = false := by
    intro i
    rw [hw1, hH]
    refine (World.frozen?_of_block (Below.heap_alloc _ _ _ (by simp))).trans ?_
    simp
  have HCall := Lib.hid (come34 w1 a n c now delta next l hn (h.below HX1.out (Nat.le_refl _)) h9 hc popR 35 (enters_of Try.func35 (by kernel_rfl) rfl) (fun W x y => popR35 W x y))
  have HS1 := Lib.hid hs1
  have HSt : Hid (∀ W, Below w1.heap.size w1 W → (W.cell? ⟨H + 1, 0, none⟩ = some (.slice none 0 0) ∧ W.cell? ⟨H + 1, 1, none⟩ = some (.int .i64 0) ∧ W.cell? ⟨H + 1, 2, none⟩ = some (.int .i64 0) ∧ W.cell? ⟨H + 1, 3, none⟩ = some (.int .i64 0) ∧ ∀ i, W.frozen? ⟨H + 1, i, none⟩ = false) ∧
      W.cell? ⟨H + 1 + 1, 0, none⟩ = some (.int .i64 0) ∧ W.cell? ⟨H + 1 + 1, 1, none⟩ = some (.int .i64 0) ∧ W.cell? ⟨H + 1 + 1, 2, none⟩ = some (.int .i64 0) ∧ W.cell? ⟨H + 1 + 1, 3, none⟩ = some (.int .i64 0) ∧ W.cell? ⟨H + 1 + 1, 4, none⟩ = some (.int .u64 0) ∧ ∀ i, W.frozen? ⟨H + 1 + 1, i, none⟩ = false) := Lib.hid (fun W hW => by
    have cl : ∀ {b j : Nat} {u : Value}, w1.cell? ⟨b, j, none⟩ = some u → W.cell? ⟨b, j, none⟩ = some u := fun h => (hW.cell (p := ⟨_, _, none⟩) (World.block_lt_of_cell? w1 _ h)).trans h
    exact ⟨⟨cl z0, cl z1, cl z2, cl z3, fun i => (hW.frozen (p := ⟨_, _, none⟩) (by simp only; omega)).trans (zf i)⟩, cl hE.1, cl hE.2.1, cl hE.2.2.1, cl hE.2.2.2.1, cl hE.2.2.2.2.1, fun i => (hW.frozen (p := ⟨_, _, none⟩) (by simp only; omega)).trans (hE.2.2.2.2.2 i)⟩)
  have HW1 := Lib.hid hw1
  have HHH := Lib.hid hH
  have HN := Lib.hid hn
  clear h hH hw1 hs1 z0 z1 z2 z3 zf hs2 eZ hE hn
  go_enter Try.func18, Try.ntmps18
  go_wp2_with fail
  rw [← HW1.out]
  (try rw [← HHH.out])
  refine Calls.mono HCall.out ?_
  rintro e w2 hcame
  unfold Came at hcame
  have hcs := comeE_cases now delta next l
  obtain ⟨E, hE⟩ : ∃ E, E = comeE now delta next l := ⟨_, rfl⟩
  rw [← hE] at hcame hcs
  have HE := Lib.hid hE
  clear hE
  rcases hcs with hE0 | hE0
  · subst hE0
    rw [if_pos rfl, comeR_pop] at hcame
    obtain ⟨aq, cq, bq, dq, rfl, hc', hd', hfa, hfb, hla, hlb, hb2⟩ := hcame
    have hlen := comeE_len HE.out.symm
    have hl1 : (l.take (1 + 0)).length = 1 := by rw [List.length_take]; omega
    rw [hl1]
    obtain ⟨nq, hnq⟩ : ∃ k, k = (l.drop (1 + 0)).length := ⟨_, rfl⟩
    rw [← hnq]
    obtain ⟨b, off, rfl, hbb, e0, e1, e2, e3, e4⟩ := hlb.ev 0 (by rw [hl1]; omega)
    rw [Nat.zero_mul, Nat.add_zero, getD_take l (1 + 0) 0 default (by omega)] at e0 e1 e2 e3 e4
    obtain ⟨x, hx⟩ : ∃ x, x = l.getD 0 default := ⟨_, rfl⟩
    rw [← hx] at e0 e1 e2 e3 e4 ⊢
    have HHx := Lib.hid hx
    obtain ⟨xt, xd, xn, xs, xv⟩ := x
    dsimp only at e0 e1 e2 e3 e4 ⊢
    obtain ⟨⟨z0, z1, z2, z3, zf⟩, y0, y1, y2, y3, y4, yf⟩ := HSt.out w2 hb2
    have f0 := zf 0
    have f1 := zf 1
    have f2 := zf 2
    have f3 := zf 3
    have g0 := yf 0
    have g1 := yf 1
    have g2 := yf 2
    have g3 := yf 3
    have g4 := yf 4
    obtain ⟨qx, hqx⟩ : ∃ q, q = xt := ⟨_, rfl⟩
    have hbn1 : b ≠ H + 1 := by have h1 := hfb _ rfl; have h2 := HS1.out; simp only at h1; omega
    have hbn2 : b ≠ H + 1 + 1 := by have h1 := hfb _ rfl; have h2 := HS1.out; simp only at h1; omega
    have hn12 : H + 1 + 1 ≠ H + 1 := by omega
    have HR := Lib.hid (And.intro hc' (And.intro hfa hla))
    have HB2 := Lib.hid hb2
    obtain ⟨w3, hw3⟩ : ∃ W, W = ((((((((w2.setCell ⟨H + 1, 0, none⟩ (.slice aq nq cq)).setCell ⟨H + 1, 1, none⟩ (.int .i64 xt)).setCell ⟨H + 1, 2, none⟩ (.int .i64 xd)).setCell ⟨H + 1, 3, none⟩ (.int .i64 next)).setCell ⟨H + 1 + 1, 0, none⟩ (.int .i64 xt)).setCell ⟨H + 1 + 1, 1, none⟩ (.int .i64 xd)).setCell ⟨H + 1 + 1, 2, none⟩ (.int .i64 xn)).setCell ⟨H + 1 + 1, 3, none⟩ (.int .i64 xs)).setCell ⟨H + 1 + 1, 4, none⟩ (.int .u64 xv) := ⟨_, rfl⟩
    have hw3p : w3 = put5 (put4 w2 (H + 1) (.slice aq nq cq) xt xd next) (H + 1 + 1) ⟨xt, xd, xn, xs, xv⟩ := hw3
    have p4 := put4_cells (s := .slice aq nq cq) (x := xt) (y := xd) (z := next) z0 z1 z2 z3
    have hE0' : ((0 : Int) == 0) = true := rfl
    have k0 := put4_far (s := .slice aq nq cq) (x := xt) (y := xd) (z := next) e0 hbn1
    have k1 := put4_far (s := .slice aq nq cq) (x := xt) (y := xd) (z := next) e1 hbn1
    have k2 := put4_far (s := .slice aq nq cq) (x := xt) (y := xd) (z := next) e2 hbn1
    have k3 := put4_far (s := .slice aq nq cq) (x := xt) (y := xd) (z := next) e3 hbn1
    have k4 := put4_far (s := .slice aq nq cq) (x := xt) (y := xd) (z := next) e4 hbn1
    have m0 := put4_far (s := .slice aq nq cq) (x := xt) (y := xd) (z := next) y0 hn12
    have m1 := put4_far (s := .slice aq nq cq) (x := xt) (y := xd) (z := next) y1 hn12
    have m2 := put4_far (s := .slice aq nq cq) (x := xt) (y := xd) (z := next) y2 hn12
    have m3 := put4_far (s := .slice aq nq cq) (x := xt) (y := xd) (z := next) y3 hn12
    have m4 := put4_far (s := .slice aq nq cq) (x := xt) (y := xd) (z := next) y4 hn12
    have p5 := put5_cells (v := ⟨xt, xd, xn, xs, xv⟩) m0 m1 m2 m3 m4
    have p40 := put5_far (v := ⟨xt, xd, xn, xs, xv⟩) p4.1 (show H + 1 ≠ H + 1 + 1 by omega)
    have p41 := put5_far (v := ⟨xt, xd, xn, xs, xv⟩) p4.2.1 (show H + 1 ≠ H + 1 + 1 by omega)
    have p42 := put5_far (v := ⟨xt, xd, xn, xs, xv⟩) p4.2.2.1 (show H + 1 ≠ H + 1 + 1 by omega)
    have p43 := put5_far (v := ⟨xt, xd, xn, xs, xv⟩) p4.2.2.2 (show H + 1 ≠ H + 1 + 1 by omega)
    have p4f : ∀ i, w3.frozen? ⟨H + 1, i, none⟩ = false := fun i => by rw [hw3p, put5_frozen, put4_frozen]; exact zf i
    have p5f : ∀ i, w3.frozen? ⟨H + 1 + 1, i, none⟩ = false := fun i => by rw [hw3p, put5_frozen, put4_frozen]; exact yf i
    have HB3 : Hid (Below w.heap.size w w3) := Lib.hid (by rw [hw3p]; exact put5_below (put4_below (HX1.out.trans (hb2.mono HX1.out.size)) (by have := HHH.out; omega)) (by have := HHH.out; omega))
    have HL3 : Hid (LAt w3 aq (l.drop (1 + 0))) := Lib.hid (by rw [hw3p]; exact (hla.put4 hfa (by have := HS1.out; omega)).put5 hfa (by have := HS1.out; omega))
    rw [← hw3p] at p40 p41 p42 p43 p5
    have HP := Lib.hid (And.intro p40 (And.intro p41 (And.intro p42 (And.intro p43 (And.intro p4f (And.intro p5f p5))))))
    have HW3 := Lib.hid hw3
    have HNq := Lib.hid hnq
    clear hlen hl1 hnq hx hqx hw3p hc' hd' hfa hfb hla hlb hb2 hbb hw3 p4 p5 p40 p41 p42 p43 p4f p5f k0 k1 k2 k3 k4 m0 m1 m2 m3 m4 qx
    go_wp2_with fail
    rw [← HW3.out]
    obtain ⟨p40, p41, p42, p43, p4f, p5f, q0, q1, q2, q3, q4⟩ := HP.out
    clear z0 z1 z2 z3 zf y0 y1 y2 y3 y4 yf f0 f1 f2 f3 g0 g1 g2 g3 g4 e0 e1 e2 e3 e4
    have y0 := q0
    have y1 := q1
    have y2 := q2
    have y3 := q3
    have y4 := q4
    clear q0 q1 q2 q3 q4
    have q0 := p40
    have q1 := p41
    have q2 := p42
    have q3 := p43
    have f0 := p4f 0
    have f1 := p4f 1
    have f2 := p4f 2
    have f3 := p4f 3
    have g0 := p5f 0
    have g1 := p5f 1
    have g2 := p5f 2
    have g3 := p5f 3
    have g4 := p5f 4
    clear p40 p41 p42 p43
    refine wp_region_held_drew (S := fun w' => w'.cell? ⟨H + 1, 0, none⟩ = some (.slice aq nq cq) ∧ w'.cell? ⟨H + 1, 1, none⟩ = some (.int .i64 xt) ∧ w'.cell? ⟨H + 1, 2, none⟩ = some (.int .i64 xd) ∧ w'.cell? ⟨H + 1, 3, none⟩ = some (.int .i64 next) ∧ w'.cell? ⟨H + 1 + 1, 0, none⟩ = some (.int .i64 xt) ∧ w'.cell? ⟨H + 1 + 1, 1, none⟩ = some (.int .i64 xd) ∧ w'.cell? ⟨H + 1 + 1, 2, none⟩ = some (.int .i64 xn) ∧ w'.cell? ⟨H + 1 + 1, 3, none⟩ = some (.int .i64 xs) ∧ w'.cell? ⟨H + 1 + 1, 4, none⟩ = some (.int .u64 xv)) (by kernel_rfl) (⟨q0, q1, q2, q3, y0, y1, y2, y3, y4⟩) (fun hHeld => ?_)
    refine wpAnyH_take (i := 0) (v := ?_) (by simp only [List.getElem?_toArray, List.getElem?_cons_succ, List.getElem?_cons_zero]; rfl) (by kernel_rfl) (by kernel_rfl) (by kernel_rfl) (by intro _ _ _ h; exact h) (Or.inl ⟨by rfl, ?_⟩) (by assumption) ?_
    rotate_left
    · intro w hSw; (try dsimp only at hSw); go_simp; try with_reducible rfl
    try simp only [Act.put, List.setIfInBounds_toArray, List.set_cons_zero, List.set_cons_succ]
    refine wpAnyH_take (i := 1) (v := ?_) (by simp only [List.getElem?_toArray, List.getElem?_cons_succ, List.getElem?_cons_zero]; rfl) (by kernel_rfl) (by kernel_rfl) (by kernel_rfl) (by intro _ _ _ h; exact h) (Or.inl ⟨by rfl, ?_⟩) (by assumption) ?_
    rotate_left
    · intro w hSw; (try dsimp only at hSw); go_simp; try with_reducible rfl
    try simp only [Act.put, List.setIfInBounds_toArray, List.set_cons_zero, List.set_cons_succ]
    refine wpAnyH_take (i := 2) (v := ?_) (by simp only [List.getElem?_toArray, List.getElem?_cons_succ, List.getElem?_cons_zero]; rfl) (by kernel_rfl) (by kernel_rfl) (by kernel_rfl) (by intro _ _ _ h; exact h) (Or.inl ⟨by rfl, ?_⟩) (by assumption) ?_
    rotate_left
    · intro w hSw; (try dsimp only at hSw); go_simp; try with_reducible rfl
    try simp only [Act.put, List.setIfInBounds_toArray, List.set_cons_zero, List.set_cons_succ]
    refine wpAnyH_ready (rs := [3]) (by kernel_rfl) (by simp) ?_
    refine AllReadyH.cons (o := _) (by simp only [List.getElem?_toArray, List.getElem?_cons_succ, List.getElem?_cons_zero]; rfl) (fun K hK => ?_) AllReadyH.nil
    go_simp
    rw [set_same q0, set_same q1, set_same q2, set_same q3]
    refine hK.out _ _ (by exact ⟨q0, q1, q2, q3, y0, y1, y2, y3, y4⟩) (fun hHeld => ?_)
    clear hK K
    try simp only [Act.put, List.setIfInBounds_toArray, List.set_cons_zero, List.set_cons_succ]
    refine wpAnyH_ready (rs := [4]) (by kernel_rfl) (by simp) ?_
    refine AllReadyH.cons (o := _) (by simp only [List.getElem?_toArray, List.getElem?_cons_succ, List.getElem?_cons_zero]; rfl) (fun K hK => ?_) AllReadyH.nil
    go_simp
    rw [set_same y0, set_same y1, set_same y2, set_same y3, set_same y4]
    refine hK.out _ _ (by exact ⟨q0, q1, q2, q3, y0, y1, y2, y3, y4⟩) (fun hHeld => ?_)
    clear hK K
    try simp only [Act.put, List.setIfInBounds_toArray, List.set_cons_zero, List.set_cons_succ]
    refine wpAnyH_take (i := 5) (v := ?_) (by simp only [List.getElem?_toArray, List.getElem?_cons_succ, List.getElem?_cons_zero]; rfl) (by kernel_rfl) (by kernel_rfl) (by kernel_rfl) (by intro _ _ _ h; exact h) (Or.inl ⟨by rfl, ?_⟩) (by assumption) ?_
    rotate_left
    · intro w hSw; (try dsimp only at hSw); go_simp; try with_reducible rfl
    try simp only [Act.put, List.setIfInBounds_toArray, List.set_cons_zero, List.set_cons_succ]
    refine wpAnyH_done (by kernel_rfl) ?_ _
    go_wp2_with fail
    refine bodyPost_ret (results_pop (b := H + 1) (v := ⟨xt, xd, xn, xs, xv⟩) rfl rfl rfl q0 q1 q2 q3 y0 y1 y2 y3 y4) rfl ?_
    unfold Popped
    rw [← HE.out, if_pos rfl, ← HHx.out]
    obtain ⟨hc', hfa, hla⟩ := HR.out
    rw [HNq.out]
    exact ⟨aq, cq, rfl, hc', fun p hp => Nat.le_trans HX1.out.size (hfa p hp), HL3.out.below (Below.refl _ _).drew (Nat.le_refl _), HB3.out.drew⟩
  · rw [if_neg (by intro e; rw [e] at hE0; cases hE0)] at hcame
    obtain ⟨aq, cq, bq, dq, rfl, hc', hd', hfa, hfb, hla, hlb, hb2⟩ := hcame
    have HB2 := Lib.hid hb2
    obtain ⟨⟨z0, z1, z2, z3, zf⟩, y0, y1, y2, y3, y4, yf⟩ := HSt.out w2 hb2
    have f0 := zf 0
    have f1 := zf 1
    have f2 := zf 2
    have f3 := zf 3
    have g0 := yf 0
    have g1 := yf 1
    have g2 := yf 2
    have g3 := yf 3
    have g4 := yf 4
    obtain ⟨w3, hw3⟩ : ∃ W, W = (((w2.setCell ⟨H + 1, 0, none⟩ (.slice aq 0 cq)).setCell ⟨H + 1, 1, none⟩ (.int .i64 0)).setCell ⟨H + 1, 2, none⟩ (.int .i64 0)).setCell ⟨H + 1, 3, none⟩ (.int .i64 0) := ⟨_, rfl⟩
    have hw3p : w3 = put4 w2 (H + 1) (.slice aq 0 cq) 0 0 0 := hw3
    have p4 := put4_cells (s := .slice aq 0 cq) (x := 0) (y := 0) (z := 0) z0 z1 z2 z3
    have hn12 : H + 1 + 1 ≠ H + 1 := by omega
    have m0 := put4_far (s := .slice aq 0 cq) (x := 0) (y := 0) (z := 0) y0 hn12
    have m1 := put4_far (s := .slice aq 0 cq) (x := 0) (y := 0) (z := 0) y1 hn12
    have m2 := put4_far (s := .slice aq 0 cq) (x := 0) (y := 0) (z := 0) y2 hn12
    have m3 := put4_far (s := .slice aq 0 cq) (x := 0) (y := 0) (z := 0) y3 hn12
    have m4 := put4_far (s := .slice aq 0 cq) (x := 0) (y := 0) (z := 0) y4 hn12
    have p4f : ∀ i, w3.frozen? ⟨H + 1, i, none⟩ = false := fun i => by rw [hw3p, put4_frozen]; exact zf i
    have p5f : ∀ i, w3.frozen? ⟨H + 1 + 1, i, none⟩ = false := fun i => by rw [hw3p, put4_frozen]; exact yf i
    have HB3 : Hid (Below w.heap.size w w3) := Lib.hid (by rw [hw3p]; exact put4_below (HX1.out.trans (hb2.mono HX1.out.size)) (by have := HHH.out; omega))
    have HL3 : Hid (LAt w3 aq []) := Lib.hid (by rw [hw3p]; exact hla.put4 hfa (by have := HS1.out; omega))
    rw [← hw3p] at p4 m0 m1 m2 m3 m4
    have HP := Lib.hid (And.intro p4 (And.intro p4f (And.intro p5f (And.intro m0 (And.intro m1 (And.intro m2 (And.intro m3 m4)))))))
    have HW3 := Lib.hid hw3
    have HR := Lib.hid (And.intro hc' hfa)
    rw [List.length_nil]
    clear hc' hfa hfb hla hlb hb2 hw3 hw3p p4 p4f p5f m0 m1 m2 m3 m4
    go_wp2_with fail
    rw [← HW3.out]
    obtain ⟨⟨q0, q1, q2, q3⟩, p4f, p5f, m0, m1, m2, m3, m4⟩ := HP.out
    clear z0 z1 z2 z3 zf y0 y1 y2 y3 y4 yf f0 f1 f2 f3 g0 g1 g2 g3 g4
    have y0 := m0
    have y1 := m1
    have y2 := m2
    have y3 := m3
    have y4 := m4
    have f0 := p4f 0
    have f1 := p4f 1
    have f2 := p4f 2
    have f3 := p4f 3
    have g0 := p5f 0
    have g1 := p5f 1
    have g2 := p5f 2
    have g3 := p5f 3
    have g4 := p5f 4
    clear m0 m1 m2 m3 m4
    refine wp_region_held_drew (S := fun w' => w'.cell? ⟨H + 1, 0, none⟩ = some (.slice aq 0 cq) ∧ w'.cell? ⟨H + 1, 1, none⟩ = some (.int .i64 0) ∧ w'.cell? ⟨H + 1, 2, none⟩ = some (.int .i64 0) ∧ w'.cell? ⟨H + 1, 3, none⟩ = some (.int .i64 0) ∧ w'.cell? ⟨H + 1 + 1, 0, none⟩ = some (.int .i64 0) ∧ w'.cell? ⟨H + 1 + 1, 1, none⟩ = some (.int .i64 0) ∧ w'.cell? ⟨H + 1 + 1, 2, none⟩ = some (.int .i64 0) ∧ w'.cell? ⟨H + 1 + 1, 3, none⟩ = some (.int .i64 0) ∧ w'.cell? ⟨H + 1 + 1, 4, none⟩ = some (.int .u64 0)) (by kernel_rfl) (⟨q0, q1, q2, q3, y0, y1, y2, y3, y4⟩) (fun hHeld => ?_)
    refine wpAnyH_take (i := 0) (v := ?_) (by simp only [List.getElem?_toArray, List.getElem?_cons_succ, List.getElem?_cons_zero]; rfl) (by kernel_rfl) (by kernel_rfl) (by kernel_rfl) (by intro _ _ _ h; exact h) (Or.inl ⟨by rfl, ?_⟩) (by assumption) ?_
    rotate_left
    · intro w hSw; (try dsimp only at hSw); go_simp; try with_reducible rfl
    try simp only [Act.put, List.setIfInBounds_toArray, List.set_cons_zero, List.set_cons_succ]
    refine wpAnyH_take (i := 1) (v := ?_) (by simp only [List.getElem?_toArray, List.getElem?_cons_succ, List.getElem?_cons_zero]; rfl) (by kernel_rfl) (by kernel_rfl) (by kernel_rfl) (by intro _ _ _ h; exact h) (Or.inl ⟨by rfl, ?_⟩) (by assumption) ?_
    rotate_left
    · intro w hSw; (try dsimp only at hSw); go_simp; try with_reducible rfl
    try simp only [Act.put, List.setIfInBounds_toArray, List.set_cons_zero, List.set_cons_succ]
    refine wpAnyH_take (i := 2) (v := ?_) (by simp only [List.getElem?_toArray, List.getElem?_cons_succ, List.getElem?_cons_zero]; rfl) (by kernel_rfl) (by kernel_rfl) (by kernel_rfl) (by intro _ _ _ h; exact h) (Or.inl ⟨by rfl, ?_⟩) (by assumption) ?_
    rotate_left
    · intro w hSw; (try dsimp only at hSw); go_simp; try with_reducible rfl
    try simp only [Act.put, List.setIfInBounds_toArray, List.set_cons_zero, List.set_cons_succ]
    refine wpAnyH_ready (rs := [3]) (by kernel_rfl) (by simp) ?_
    refine AllReadyH.cons (o := _) (by simp only [List.getElem?_toArray, List.getElem?_cons_succ, List.getElem?_cons_zero]; rfl) (fun K hK => ?_) AllReadyH.nil
    go_simp
    rw [set_same q0, set_same q1, set_same q2, set_same q3]
    refine hK.out _ _ (by exact ⟨q0, q1, q2, q3, y0, y1, y2, y3, y4⟩) (fun hHeld => ?_)
    clear hK K
    try simp only [Act.put, List.setIfInBounds_toArray, List.set_cons_zero, List.set_cons_succ]
    refine wpAnyH_ready (rs := [4]) (by kernel_rfl) (by simp) ?_
    refine AllReadyH.cons (o := _) (by simp only [List.getElem?_toArray, List.getElem?_cons_succ, List.getElem?_cons_zero]; rfl) (fun K hK => ?_) AllReadyH.nil
    go_simp
    rw [set_same y0, set_same y1, set_same y2, set_same y3, set_same y4]
    refine hK.out _ _ (by exact ⟨q0, q1, q2, q3, y0, y1, y2, y3, y4⟩) (fun hHeld => ?_)
    clear hK K
    try simp only [Act.put, List.setIfInBounds_toArray, List.set_cons_zero, List.set_cons_succ]
    refine wpAnyH_take (i := 5) (v := ?_) (by simp only [List.getElem?_toArray, List.getElem?_cons_succ, List.getElem?_cons_zero]; rfl) (by kernel_rfl) (by kernel_rfl) (by kernel_rfl) (by intro _ _ _ h; exact h) (Or.inl ⟨by rfl, ?_⟩) (by assumption) ?_
    rotate_left
    · intro w hSw; (try dsimp only at hSw); go_simp; try with_reducible rfl
    try simp only [Act.put, List.setIfInBounds_toArray, List.set_cons_zero, List.set_cons_succ]
    refine wpAnyH_done (by kernel_rfl) ?_ _
    go_wp2_with fail
    refine bodyPost_ret (results_pop (b := H + 1) (v := ⟨0, 0, 0, 0, 0⟩) rfl rfl rfl q0 q1 q2 q3 y0 y1 y2 y3 y4) rfl ?_
    unfold Popped
    rw [← HE.out, if_neg (by intro e; rw [e] at hE0; cases hE0)]
    obtain ⟨hc', hfa⟩ := HR.out
    exact ⟨aq, cq, rfl, hc', fun p hp => Nat.le_trans HX1.out.size (hfa p hp), HL3.out.below (Below.refl _ _).drew (Nat.le_refl _), HB3.out.drew⟩
end Go.Proofs.Ytbhbebidkeejbaa
