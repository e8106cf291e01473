/- Queues that came in: readings; what is gone by; which event is ahead; whether there is none. -/
import Derived.Test.YtbhbebidkeejbaaQ1
namespace Go.Proofs.Ytbhbebidkeejbaa
open Go.RowKit Go.Shelf
set_option linter.unusedVariables false
set_option linter.unusedSimpArgs false

/-- A queue as it lies. -/
structure QV where
  a : Option Addr
  c : Nat
  l : List EvV
  now : Int
  delta : Int
  next : Int
abbrev QV.val (Q : QV) : Value := .agg #[.slice Q.a Q.l.length Q.c, .int .i64 Q.now, .int .i64 Q.delta, .int .i64 Q.next]
abbrev QV.obj (Q : QV) : Obj := .cells #[.slice Q.a Q.l.length Q.c, .int .i64 Q.now, .int .i64 Q.delta, .int .i64 Q.next] 24
def evCell (l : List EvV) : Nat → Value := fun i =>
  if i % 5 = 0 then .int .i64 (l.getD (i / 5) default).t else if i % 5 = 1 then .int .i64 (l.getD (i / 5) default).d else if i % 5 = 2 then .int .i64 (l.getD (i / 5) default).no
  else if i % 5 = 3 then .int .i64 (l.getD (i / 5) default).sig else .int .u64 (l.getD (i / 5) default).v
structure EvR (e : EvV) : Prop where
  t : I64 e.t
  d : I64 e.d
  no : I64 e.no
  sig : I64 e.sig
  v : U64 e.v
/-- How a list of events reads in a world. -/
structure LAt (w : World) (a : Option Addr) (l : List EvV) : Prop where
  list : Seq w a (5 * l.length) (evCell l)
  each : ∀ e ∈ l, EvR e
structure QAt (w : World) (Q : QV) : Prop where
  list : LAt w Q.a Q.l
  now : I64 Q.now
  delta : I64 Q.delta
  next : I64 Q.next
theorem LAt.below {w w' : World} {B : Nat} {a : Option Addr} {l : List EvV} (h : LAt w a l) (hb : Below B w w') (hB : w.heap.size ≤ B) : LAt w' a l := ⟨h.list.below hb hB, h.each⟩
theorem QAt.below {w w' : World} {B : Nat} {Q : QV} (h : QAt w Q) (hb : Below B w w') (hB : w.heap.size ≤ B) : QAt w' Q := ⟨h.list.below hb hB, h.now, h.delta, h.next⟩
/-- The event at a place. -/
theorem LAt.ev {w : World} {a : Option Addr} {l : List EvV} (h : LAt w a l) (k : Nat) (hk : k < l.length) :
    ∃ b off, a = some ⟨b, off, none⟩ ∧ b < w.heap.size ∧ w.cell? ⟨b, off + k * 5, none⟩ = some (.int .i64 (l.getD k default).t) ∧ w.cell? ⟨b, off + k * 5 + 1, none⟩ = some (.int .i64 (l.getD k default).d) ∧
      w.cell? ⟨b, off + k * 5 + 2, none⟩ = some (.int .i64 (l.getD k default).no) ∧ w.cell? ⟨b, off + k * 5 + 3, none⟩ = some (.int .i64 (l.getD k default).sig) ∧ w.cell? ⟨b, off + k * 5 + 4, none⟩ = some (.int .u64 (l.getD k default).v) := by
  obtain ⟨b, off, ha, hb, hc⟩ := h.list.at (5 * k) (by omega)
  refine ⟨b, off, ha, hb, ?_, ?_, ?_, ?_, ?_⟩
  · have := hc (k * 5) (by omega)
    rw [this]; simp only [evCell]
    rw [if_pos (by omega), show k * 5 / 5 = k by omega]
  · have := hc (k * 5 + 1) (by omega)
    rw [Nat.add_assoc, this]; simp only [evCell]
    rw [if_neg (by omega), if_pos (by omega), show (k * 5 + 1) / 5 = k by omega]
  · have := hc (k * 5 + 2) (by omega)
    rw [Nat.add_assoc, this]; simp only [evCell]
    rw [if_neg (by omega), if_neg (by omega), if_pos (by omega), show (k * 5 + 2) / 5 = k by omega]
  · have := hc (k * 5 + 3) (by omega)
    rw [Nat.add_assoc, this]; simp only [evCell]
    rw [if_neg (by omega), if_neg (by omega), if_neg (by omega), if_pos (by omega), show (k * 5 + 3) / 5 = k by omega]
  · have := hc (k * 5 + 4) (by omega)
    rw [Nat.add_assoc, this]; simp only [evCell]
    rw [if_neg (by omega), if_neg (by omega), if_neg (by omega), if_neg (by omega), show (k * 5 + 4) / 5 = k by omega]
structure QBox (B : Nat) (w : World) (Q : QV) (wr : World) : Prop where
  below : Below B w wr
  size : B + 1 ≤ wr.heap.size
  c0 : wr.cell? ⟨B, 0, none⟩ = some (.slice Q.a Q.l.length Q.c)
  c1 : wr.cell? ⟨B, 1, none⟩ = some (.int .i64 Q.now)
  c2 : wr.cell? ⟨B, 2, none⟩ = some (.int .i64 Q.delta)
  c3 : wr.cell? ⟨B, 3, none⟩ = some (.int .i64 Q.next)
theorem QBox.start (w : World) (Q : QV) : QBox w.heap.size w Q (w.alloc Q.obj) :=
  ⟨(Below.refl _ _).alloc (Nat.le_refl _) _, by simp, by simp, by simp, by simp, by simp⟩
theorem QBox.step {B C : Nat} {w wr w' : World} {Q : QV} (h : QBox B w Q wr) (hb : Below C wr w') (hC : B + 1 ≤ C) : QBox B w Q w' :=
  ⟨h.below.trans (hb.mono (by omega)), Nat.le_trans h.size hb.size, (hb.cell (p := ⟨B, 0, none⟩) (by simp; omega)).trans h.c0, (hb.cell (p := ⟨B, 1, none⟩) (by simp; omega)).trans h.c1,
    (hb.cell (p := ⟨B, 2, none⟩) (by simp; omega)).trans h.c2, (hb.cell (p := ⟨B, 3, none⟩) (by simp; omega)).trans h.c3⟩

/-! When. -/
def goneB (now delta t d : Int) : Bool := decide (t < now) || (t == now && decide (d < delta))
def aheadB (a b : EvV) : Bool := if (a.t != b.t) = true then decide (a.t < b.t) else if (a.d != b.d) = true then decide (a.d < b.d) else decide (a.no < b.no)
def ltW (a b : WhenV) : Prop := a.t < b.t ∨ (a.t = b.t ∧ (a.d < b.d ∨ (a.d = b.d ∧ a.no < b.no)))
instance (a b : WhenV) : Decidable (ltW a b) := by unfold ltW; infer_instance
theorem aheadB_iff (a b : EvV) : aheadB a b = true ↔ ltW a.when b.when := by
  unfold aheadB ltW
  by_cases h1 : a.t = b.t
  · rw [if_neg (by simp [h1])]
    by_cases h2 : a.d = b.d
    · rw [if_neg (by simp [h2])]; simp [h1, h2]
    · rw [if_pos (by simpa using h2)]; simp [h1, h2]
  · rw [if_pos (by simpa using h1)]; simp [h1]
theorem ltW_trans {a b c : WhenV} (h : ltW a b) (k : ltW b c) : ltW a c := by unfold ltW at *; omega
theorem ltW_irrefl (a : WhenV) : ¬ ltW a a := by unfold ltW; omega
theorem ltW_tri (a b : WhenV) : ltW a b ∨ (a.t = b.t ∧ a.d = b.d ∧ a.no = b.no) ∨ ltW b a := by unfold ltW; omega
theorem cmpI_cases (x y : Int) : (x < y ∧ cmpI x y = -1) ∨ (x = y ∧ cmpI x y = 0) ∨ (y < x ∧ cmpI x y = 1) := by
  unfold cmpI
  rcases Int.lt_trichotomy x y with h | h | h
  · exact .inl ⟨h, if_pos h⟩
  · exact .inr (.inl ⟨h, by rw [if_neg (by omega), if_neg (by omega)]⟩)
  · exact .inr (.inr ⟨h, by rw [if_neg (by omega), if_pos h]⟩)
theorem cmpW_cases (a b : WhenV) : (ltW a b ∧ cmpW a b = -1) ∨ ((a.t = b.t ∧ a.d = b.d ∧ a.no = b.no) ∧ cmpW a b = 0) ∨ (ltW b a ∧ cmpW a b = 1) := by
  unfold cmpW orI ltW
  rcases cmpI_cases a.t b.t with ⟨h1, e1⟩ | ⟨h1, e1⟩ | ⟨h1, e1⟩ <;> rw [e1]
  · exact .inl ⟨.inl h1, rfl⟩
  · rw [if_neg (by simp)]
    rcases cmpI_cases a.d b.d with ⟨h2, e2⟩ | ⟨h2, e2⟩ | ⟨h2, e2⟩ <;> rw [e2]
    · exact .inl ⟨.inr ⟨h1, .inl h2⟩, rfl⟩
    · rw [if_neg (by simp)]
      rcases cmpI_cases a.no b.no with ⟨h3, e3⟩ | ⟨h3, e3⟩ | ⟨h3, e3⟩ <;> rw [e3]
      · exact .inl ⟨.inr ⟨h1, .inr ⟨h2, h3⟩⟩, rfl⟩
      · exact .inr (.inl ⟨⟨h1, h2, h3⟩, rfl⟩)
      · exact .inr (.inr ⟨.inr ⟨h1.symm, .inr ⟨h2.symm, h3⟩⟩, rfl⟩)
    · exact .inr (.inr ⟨.inr ⟨h1.symm, .inl h2⟩, rfl⟩)
  · exact .inr (.inr ⟨.inl h1, rfl⟩)

set_option maxRecDepth 100000 in
set_option maxHeartbeats 1000000 in
theorem gone33 (w : World) (a : Option Addr) (n c : Nat) (now delta next t d : Int) : Calls Try.prog 33 #[.agg #[.slice a n c, .int .i64 now, .int .i64 delta, .int .i64 next], .int .i64 t, .int .i64 d] w fun e w' => e = .returned (.bool (goneB now delta t d)) ∧ Below w.heap.size w w' := by
  obtain ⟨r, hr⟩ : ∃ r, r = goneB now delta t d := ⟨_, rfl⟩
  rw [← hr]
  unfold goneB at hr
  by_cases h1 : t < now
  · have d1 : decide (t < now) = true := by simpa using h1
    rw [d1, Bool.true_or] at hr
    subst hr
    go_enter Try.func33, Try.ntmps33
    go_wp2_with fail
    go_ret
    exact ⟨rfl, (Below.refl _ _).alloc (Nat.le_refl _) _⟩
  · have d1 : decide (t < now) = false := by simpa using h1
    rw [d1, Bool.false_or] at hr
    by_cases h2 : t = now
    · subst h2
      rw [beq_self_eq_true, Bool.true_and] at hr
      subst hr
      go_enter Try.func33, Try.ntmps33
      go_wp2_with fail
      go_ret
      exact ⟨rfl, (Below.refl _ _).alloc (Nat.le_refl _) _⟩
    · have d2 : (t == now) = false := by simpa using h2
      rw [d2, Bool.false_and] at hr
      subst hr
      go_enter Try.func33, Try.ntmps33
      go_wp2_with fail
      go_ret
      exact ⟨rfl, (Below.refl _ _).alloc (Nat.le_refl _) _⟩
set_option maxRecDepth 100000 in
set_option maxHeartbeats 1000000 in
theorem ahead24 (w : World) (x y : EvV) : Calls Try.prog 24 #[x.val, y.val] w fun e w' => e = .returned (.bool (aheadB x y)) ∧ Below w.heap.size w w' := by
  obtain ⟨xt, xd, xn, xs, xv⟩ := x
  obtain ⟨yt, yd, yn, ys, yv⟩ := y
  obtain ⟨r, hr⟩ : ∃ r, r = aheadB ⟨xt, xd, xn, xs, xv⟩ ⟨yt, yd, yn, ys, yv⟩ := ⟨_, rfl⟩
  rw [← hr]
  unfold aheadB at hr
  dsimp only at hr
  by_cases h1 : xt = yt
  · subst h1
    rw [if_neg (by simp)] at hr
    by_cases h2 : xd = yd
    · subst h2
      rw [if_neg (by simp)] at hr
      subst hr
      go_enter Try.func24, Try.ntmps24
      go_wp2_with fail
      go_ret
      exact ⟨rfl, ((Below.refl _ _).alloc (Nat.le_refl _) _).alloc (by simp) _⟩
    · have d2 : (xd != yd) = true := by simpa using h2
      rw [if_pos d2] at hr
      subst hr
      go_enter Try.func24, Try.ntmps24
      go_wp2_with fail
      go_ret
      exact ⟨rfl, ((Below.refl _ _).alloc (Nat.le_refl _) _).alloc (by simp) _⟩
  · have d1 : (xt != yt) = true := by simpa using h1
    rw [if_pos d1] at hr
    subst hr
    go_enter Try.func24, Try.ntmps24
    go_wp2_with fail
    go_ret
    exact ⟨rfl, ((Below.refl _ _).alloc (Nat.le_refl _) _).alloc (by simp) _⟩
theorem empty15 (w : World) (a : Option Addr) (n c : Nat) (now delta next : Int) : Calls Try.prog 15 #[.agg #[.slice a n c, .int .i64 now, .int .i64 delta, .int .i64 next]] w fun e w' => e = .returned (.bool (decide (n = 0))) ∧ Below w.heap.size w w' := by
  by_cases h : n = 0
  · subst h
    go_enter Try.func15, Try.ntmps15
    go_wp2_with fail
    go_ret
    exact ⟨rfl, (Below.refl _ _).alloc (Nat.le_refl _) _⟩
  · have d0 : ((n : Int) == 0) = false := by simpa using h
    rw [decide_eq_false h]
    go_enter Try.func15, Try.ntmps15
    go_wp2_with fail
    go_ret
    exact ⟨rfl, (Below.refl _ _).alloc (Nat.le_refl _) _⟩
theorem empty16 (w : World) (a : Option Addr) (n c : Nat) (now delta next : Int) : Calls Try.prog 16 #[.agg #[.slice a n c, .int .i64 now, .int .i64 delta, .int .i64 next]] w fun e w' => e = .returned (.bool (decide (n = 0))) ∧ Below w.heap.size w w' := by
  by_cases h : n = 0
  · subst h
    go_enter Try.func16, Try.ntmps16
    go_wp2_with fail
    go_ret
    exact ⟨rfl, (Below.refl _ _).alloc (Nat.le_refl _) _⟩
  · have d0 : ((n : Int) == 0) = false := by simpa using h
    rw [decide_eq_false h]
    go_enter Try.func16, Try.ntmps16
    go_wp2_with fail
    go_ret
    exact ⟨rfl, (Below.refl _ _).alloc (Nat.le_refl _) _⟩
end Go.Proofs.Ytbhbebidkeejbaa
