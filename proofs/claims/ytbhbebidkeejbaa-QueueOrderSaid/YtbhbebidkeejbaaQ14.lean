/- What is come to: the first events of a queue, as long as they are of a round (come). -/
import Derived.Test.YtbhbebidkeejbaaQ13
import Derived.ArgAppend
namespace Go.Proofs.Ytbhbebidkeejbaa
open Go.RowKit Go.Shelf
set_option linter.unusedVariables false
set_option linter.unusedSimpArgs false

/-- How many events come at once. -/
def comeR (R : EvV → EvV → Bool) (l : List EvV) : Nat := ((l.drop 1).takeWhile (R (l.getD 0 default))).length
def comeE (now delta next : Int) (l : List EvV) : Int := if checkE now delta next l = 0 then (if l.length = 0 then 141 else 0) else checkE now delta next l
/-- What is handed back: a queue, events, an error. -/
def NewQL (w : World) (E now delta next : Int) (l g : List EvV) (e : Ending) (w' : World) : Prop :=
  ∃ a c b d, e = .returned (.tuple #[.agg #[.slice a l.length c, .int .i64 now, .int .i64 delta, .int .i64 next], .slice b g.length d, .int .i64 E]) ∧ l.length ≤ c ∧ g.length ≤ d ∧ (∀ p, a = some p → w.heap.size ≤ p.block) ∧ (∀ p, b = some p → w.heap.size ≤ p.block) ∧ LAt w' a l ∧ LAt w' b g ∧ Below w.heap.size w w'
def Came (R : EvV → EvV → Bool) (w : World) (now delta next : Int) (l : List EvV) (e : Ending) (w' : World) : Prop :=
  if comeE now delta next l = 0 then NewQL w 0 (l.getD 0 default).t (l.getD 0 default).d next (l.drop (1 + comeR R l)) (l.take (1 + comeR R l)) e w' else NewQL w (comeE now delta next l) 0 0 0 [] [] e w'
theorem noQL {w w' : World} {E : Int} (hb : Below w.heap.size w w') : NewQL w E 0 0 0 [] [] (.returned (.tuple #[.agg #[.slice none 0 0, .int .i64 0, .int .i64 0, .int .i64 0], .slice none 0 0, .int .i64 E])) w' :=
  ⟨none, 0, none, 0, rfl, Nat.le_refl _, Nat.le_refl _, (fun p h => by cases h), (fun p h => by cases h), ⟨.inl rfl, fun e he => by cases he⟩, ⟨.inl rfl, fun e he => by cases he⟩, hb⟩
theorem came_err {R : EvV → EvV → Bool} {w w' : World} {now delta next : Int} {l : List EvV} {E : Int} (hE : comeE now delta next l = E) (h0 : E ≠ 0) (hb : Below w.heap.size w w') : Came R w now delta next l (.returned (.tuple #[.agg #[.slice none 0 0, .int .i64 0, .int .i64 0, .int .i64 0], .slice none 0 0, .int .i64 E])) w' := by
  unfold Came
  rw [hE, if_neg h0]
  exact noQL hb
theorem results_come {tmps : Array Value} {w : World} {b : Nat} {s g : Value} {x y z E : Int} (h2 : tmps[4]?.getD undef = .pointer (some ⟨b, 0, none⟩)) (h6 : tmps[5]?.getD undef = g) (h3 : tmps[6]?.getD undef = .int .i64 E)
    (h0 : w.cell? ⟨b, 0, none⟩ = some s) (h1 : w.cell? ⟨b, 1, none⟩ = some (.int .i64 x)) (h4 : w.cell? ⟨b, 2, none⟩ = some (.int .i64 y)) (h5 : w.cell? ⟨b, 3, none⟩ = some (.int .i64 z)) :
    (results Try.f34 tmps).run Try.prog w = .ok (.tuple #[.agg #[s, .int .i64 x, .int .i64 y, .int .i64 z], g, .int .i64 E]) w := by
  simp [results, go_sem, h2, h3, h6, h0, h1, h4, h5]
theorem comeR_lt {R : EvV → EvV → Bool} {l : List EvV} (h : 0 < l.length) : comeR R l < l.length := by
  unfold comeR
  have := (List.takeWhile_sublist (R (l.getD 0 default)) (l := l.drop 1)).length_le
  rw [List.length_drop] at this
  omega
theorem tw_yes {α : Type} (p : α → Bool) (d : α) : ∀ (l : List α) (j : Nat), j < (l.takeWhile p).length → p (l.getD j d) = true := by
  intro l
  induction l with
  | nil => intro j hj; simp at hj
  | cons x l ih =>
    intro j hj
    rw [List.takeWhile_cons] at hj
    split at hj
    · rename_i hx
      cases j with
      | zero => simpa using hx
      | succ j => simpa using ih j (by simpa using hj)
    · simp at hj
theorem tw_no {α : Type} (p : α → Bool) (d : α) : ∀ (l : List α), (l.takeWhile p).length < l.length → p (l.getD (l.takeWhile p).length d) = false := by
  intro l
  induction l with
  | nil => intro hj; simp at hj
  | cons x l ih =>
    intro hj
    rw [List.takeWhile_cons] at hj ⊢
    split at hj
    · rename_i hx
      rw [if_pos hx]
      simpa using ih (by simpa using hj)
    · rename_i hx
      rw [if_neg hx]
      simpa using hx
theorem getD_take {α : Type} (l : List α) (m i : Nat) (d : α) (h : i < m) : (l.take m).getD i d = l.getD i d := by
  simp [List.getD, List.getElem?_take, h]
theorem getD_drop' {α : Type} (l : List α) (m i : Nat) (d : α) : (l.drop m).getD i d = l.getD (m + i) d := by
  simp [List.getD, List.getElem?_drop]
theorem LAt.take {w : World} {a : Option Addr} {l : List EvV} (h : LAt w a l) (m : Nat) (hm : m ≤ l.length) : LAt w a (l.take m) := by
  have hl : (l.take m).length = m := by rw [List.length_take, Nat.min_eq_left hm]
  refine ⟨?_, fun e he => h.each e (List.mem_of_mem_take he)⟩
  rw [hl]
  rcases h.list with h0 | ⟨b, off, rfl, hc⟩
  · exact .inl (by omega)
  · refine .inr ⟨b, off, rfl, fun i hi => ?_⟩
    rw [hc i (by omega)]
    simp only [evCell, getD_take l m (i / 5) default (by omega)]
theorem LAt.behind {w : World} {b off : Nat} {l : List EvV} (h : LAt w (some ⟨b, off, none⟩) l) (m : Nat) (hm : m ≤ l.length) : LAt w (some ⟨b, off + m * 5, none⟩) (l.drop m) := by
  have hl : (l.drop m).length = l.length - m := by rw [List.length_drop]
  refine ⟨?_, fun e he => h.each e (List.mem_of_mem_drop he)⟩
  rw [hl]
  rcases h.list with h0 | ⟨b', off', hb, hc⟩
  · exact .inl (by omega)
  · injection hb with hb
    injection hb with hb1 hb2
    subst hb1 hb2
    refine .inr ⟨b, off + m * 5, rfl, fun i hi => ?_⟩
    have := hc (m * 5 + i) (by omega)
    rw [← Nat.add_assoc] at this
    rw [this]
    simp only [evCell, getD_drop' l m (i / 5) default, show (m * 5 + i) % 5 = i % 5 by omega, show (m * 5 + i) / 5 = m + i / 5 by omega]
theorem set_same {w : World} {b i : Nat} {u : Value} (h : w.cell? ⟨b, i, none⟩ = some u) : w.setCell ⟨b, i, none⟩ u = w := by
  have hh : w.heap.modify b (fun | .cells c elem frozen => .cells (if (none : Option Nat).isSome then c else c.setIfInBounds i u) elem frozen | o => o) = w.heap := by
    apply Array.ext_getElem?
    intro k
    rw [Array.getElem?_modify]
    by_cases hk : b = k
    · subst hk
      rw [if_pos rfl]
      unfold World.cell? at h
      dsimp only at h
      cases hb : w.heap[b]? with
      | none => rfl
      | some o =>
        rw [hb] at h
        cases o <;> try rfl
        rename_i c e fr
        simp at h
        simp only [Option.map_some, Option.some.injEq, Obj.cells.injEq, and_true]
        rw [if_neg (by simp)]
        apply Array.ext_getElem?
        intro q
        rw [Array.getElem?_setIfInBounds]
        by_cases hq : i = q
        · subst hq
          have hlt : i < c.size := (Array.getElem?_eq_some_iff.1 h).1
          rw [if_pos rfl, if_pos hlt, h]
        · rw [if_neg hq]
    · rw [if_neg hk]
  unfold World.setCell
  simp only
  exact congrArg (fun H => { w with heap := H }) hh
theorem LAt.set {w : World} {a : Option Addr} {l : List EvV} {B : Nat} (h : LAt w a l) (hf : ∀ p, a = some p → B ≤ p.block) {b i : Nat} {u : Value} (hb : b < B) : LAt (w.setCell ⟨b, i, none⟩ u) a l := by
  refine ⟨?_, h.each⟩
  rcases h.list with h0 | ⟨g, off, rfl, hc⟩
  · exact .inl h0
  · exact .inr ⟨g, off, rfl, fun j hj => far (hc j hj) (by have := hf _ rfl; simp only at this; omega)⟩
theorem own_slice {w : World} {base size n : Nat} {e : TypeId} {v : Value} {xs : List Value} (h : w.ownsRow base e size v n xs) : ∃ o cp, v = .slice o n cp ∧ n ≤ cp := by
  rcases h.2 with ⟨rfl, rfl⟩ | ⟨g, cap, cur, rfl, _, _, hc, _⟩
  · exact ⟨none, 0, rfl, Nat.le_refl _⟩
  · exact ⟨some ⟨g, 0, none⟩, cap, rfl, hc⟩
theorem own_fresh {w : World} {base n c : Nat} {o : Option Addr} {xs : List Value} (h : w.ownsRow base 35 5 (.slice o n c) n xs) : ∀ p, o = some p → base ≤ p.block := by
  intro p hp
  rcases h.2 with ⟨h0, h1⟩ | ⟨g, cap, cur, h0, hb, _, _, _⟩
  · injection h0 with h0
    rw [h0] at hp; cases hp
  · injection h0 with h0
    rw [h0] at hp
    injection hp with hp
    rw [← hp]; exact hb
theorem own_lat {w : World} {base n c : Nat} {o : Option Addr} {l : List EvV} (h : w.ownsRow base 35 5 (.slice o n c) n (l.flatMap EvV.cells)) (hl : l.length = n) (he : ∀ e ∈ l, EvR e) : LAt w o l := by
  refine ⟨?_, he⟩
  rcases h.2 with ⟨h0, h1⟩ | ⟨g, cap, cur, h0, _, _, hc, _⟩
  · exact .inl (by omega)
  · injection h0 with h0
    subst h0
    exact seq5_of fun j u hj => (h.cellAt j (by have := (List.getElem?_eq_some_iff.1 hj).1; rw [flat5_length, hl] at this; omega)).trans hj
theorem badEv_low {now delta next : Int} {l : List EvV} {i : Nat} (h : badEv now delta next l i = false) : ¬ (l.getD i default).t < 0 := by
  unfold badEv lowB at h
  intro hl
  rw [List.any_cons, decide_eq_true hl] at h
  simp at h

set_option maxRecDepth 100000 in
set_option maxHeartbeats 8000000 in
theorem come34 (w : World) (a : Option Addr) (n c : Nat) (now delta next : Int) (l : List EvV) (hn : l.length = n) (h : LAt w a l) (h9 : n ≤ 1000) (hc : n ≤ c) (R : EvV → EvV → Bool) (g : FuncId) (eg : Enters Try.prog g)
    (hR : ∀ W x y, Calls Try.prog g #[x.val, y.val] W fun e W' => e = .returned (.bool (R x y)) ∧ Below W.heap.size W W') :
    Calls Try.prog 34 #[.agg #[.slice a n c, .int .i64 now, .int .i64 delta, .int .i64 next], .func (.func g) #[] #[]] w (Came R w now delta next l) := by
  have HLA := Lib.hid h
  have HN := Lib.hid hn
  have HC := Lib.hid hc
  have HR := Lib.hid hR
  have HEg := Lib.hid eg
  obtain ⟨H, hH⟩ : ∃ h, h = w.heap.size := ⟨_, rfl⟩
  obtain ⟨w1, hw1⟩ : ∃ W, W = ((w.alloc (.cells #[.slice a n c, .int .i64 now, .int .i64 delta, .int .i64 next] 24)).alloc (.cells #[.func (.func g) #[] #[]] 45)).alloc (.cells #[.slice none 0 0, .int .i64 0, .int .i64 0, .int .i64 0] 24) := ⟨_, rfl⟩
  have HX1 : Hid (Below w.heap.size w w1) := Lib.hid (by rw [hw1]; exact (((Below.refl _ _).alloc (Nat.le_refl _) _).alloc (by simp) _).alloc (by simp <;> omega) _)
  have hs1 : w1.heap.size = H + 3 := by rw [hw1, hH]; simp
  have k0 : w1.cell? ⟨H, 0, none⟩ = some (.slice a n c) := by rw [hw1, hH]; refine cell_alloc _ (cell_alloc _ ?_); simp
  have k1 : w1.cell? ⟨H, 1, none⟩ = some (.int .i64 now) := by rw [hw1, hH]; refine cell_alloc _ (cell_alloc _ ?_); simp
  have k2 : w1.cell? ⟨H, 2, none⟩ = some (.int .i64 delta) := by rw [hw1, hH]; refine cell_alloc _ (cell_alloc _ ?_); simp
  have k3 : w1.cell? ⟨H, 3, none⟩ = some (.int .i64 next) := by rw [hw1, hH]; refine cell_alloc _ (cell_alloc _ ?_); simp
  have kf : w1.cell? ⟨H + 1, 0, none⟩ = some (.func (.func g) #[] #[]) := by rw [hw1, hH]; refine cell_alloc _ ?_; simp
  have hs2 : ((w.alloc (.cells #[.slice a n c, .int .i64 now, .int .i64 delta, .int .i64 next] 24)).alloc (.cells #[.func (.func g) #[] #[]] 45)).heap.size = H + 1 + 1 := by rw [hH]; simp
  have eZ : ∀ W : World, W.heap.size = H + 1 + 1 → (W.alloc (.cells #[.slice none 0 0, .int .i64 0, .int .i64 0, .int .i64 0] 24)).cell? ⟨H + 1 + 1, 0, none⟩ = some (.slice none 0 0) ∧ (W.alloc (.cells #[.slice none 0 0, .int .i64 0, .int .i64 0, .int .i64 0] 24)).cell? ⟨H + 1 + 1, 1, none⟩ = some (.int .i64 0) ∧ (W.alloc (.cells #[.slice none 0 0, .int .i64 0, .int .i64 0, .int .i64 0] 24)).cell? ⟨H + 1 + 1, 2, none⟩ = some (.int .i64 0) ∧ (W.alloc (.cells #[.slice none 0 0, .int .i64 0, .int .i64 0, .int .i64 0] 24)).cell? ⟨H + 1 + 1, 3, none⟩ = some (.int .i64 0) ∧ ∀ i, (W.alloc (.cells #[.slice none 0 0, .int .i64 0, .int .i64 0, .int .i64 0] 24)).frozen? ⟨H + 1 + 1, i, none⟩ = false := fun W h => by
    rw [← h]
    exact ⟨by simp, by simp, by simp, by simp, fun i => by simp⟩
  have z0 : w1.cell? ⟨H + 1 + 1, 0, none⟩ = some (.slice none 0 0) := by rw [hw1]; exact (eZ _ hs2).1
  have z1 : w1.cell? ⟨H + 1 + 1, 1, none⟩ = some (.int .i64 0) := by rw [hw1]; exact (eZ _ hs2).2.1
  have z2 : w1.cell? ⟨H + 1 + 1, 2, none⟩ = some (.int .i64 0) := by rw [hw1]; exact (eZ _ hs2).2.2.1
  have z3 : w1.cell? ⟨H + 1 + 1, 3, none⟩ = some (.int .i64 0) := by rw [hw1]; exact (eZ _ hs2).2.2.2.1
  have zf : ∀ i, w1.frozen? ⟨H + 1 + 1, i, none⟩ = false := by intro i; rw [hw1]; exact (eZ _ hs2).2.2.2.2 i
  have kz : ∀ i, w1.frozen? ⟨H, i, none⟩ = false := by
    intro i; rw [hw1, hH]
    have e : ∀ (W : World) (o : Obj), w.heap.size < W.heap.size → (W.alloc o).frozen? ⟨w.heap.size, i, none⟩ = W.frozen? ⟨w.heap.size, i, none⟩ := fun W o hl => World.frozen?_of_block (Below.heap_alloc W o _ hl)
    rw [e _ _ (by simp <;> omega), e _ _ (by simp)]
    simp
  have HK := Lib.hid (And.intro k0 (And.intro k1 (And.intro k2 (And.intro k3 (And.intro kf kz)))))
  have HZ := Lib.hid (And.intro z0 (And.intro z1 (And.intro z2 (And.intro z3 zf))))
  have HS1 := Lib.hid hs1
  have HW1 := Lib.hid hw1
  have HHH := Lib.hid hH
  have C13 := check13 w1 a n c now delta next l hn (h.below HX1.out (Nat.le_refl _)) h9
  have hcc := check_cases now delta next l
  obtain ⟨E, hE⟩ : ∃ E, E = checkE now delta next l := ⟨_, rfl⟩
  rw [← hE] at C13 hcc
  have HE := Lib.hid hE
  have HC13 := Lib.hid C13
  -- what stays where the world has grown
  have HSt : Hid (∀ W, Below w1.heap.size w1 W → W.cell? ⟨H, 0, none⟩ = some (.slice a n c) ∧ W.cell? ⟨H, 1, none⟩ = some (.int .i64 now) ∧ W.cell? ⟨H, 2, none⟩ = some (.int .i64 delta) ∧ W.cell? ⟨H, 3, none⟩ = some (.int .i64 next) ∧ W.cell? ⟨H + 1, 0, none⟩ = some (.func (.func g) #[] #[]) ∧ (∀ i, W.frozen? ⟨H, i, none⟩ = false) ∧
      W.cell? ⟨H + 1 + 1, 0, none⟩ = some (.slice none 0 0) ∧ W.cell? ⟨H + 1 + 1, 1, none⟩ = some (.int .i64 0) ∧ W.cell? ⟨H + 1 + 1, 2, none⟩ = some (.int .i64 0) ∧ W.cell? ⟨H + 1 + 1, 3, none⟩ = some (.int .i64 0) ∧ ∀ i, W.frozen? ⟨H + 1 + 1, i, none⟩ = false) := Lib.hid (fun W hW => by
    have cl : ∀ {b j : Nat} {u : Value}, w1.cell? ⟨b, j, none⟩ = some u → W.cell? ⟨b, j, none⟩ = some u := fun h => (hW.cell (p := ⟨_, _, none⟩) (World.block_lt_of_cell? w1 _ h)).trans h
    have h2 := HS1.out
    exact ⟨cl k0, cl k1, cl k2, cl k3, cl kf, fun i => (hW.frozen (p := ⟨_, _, none⟩) (by simp only; omega)).trans (kz i), cl z0, cl z1, cl z2, cl z3, fun i => (hW.frozen (p := ⟨_, _, none⟩) (by simp only; omega)).trans (zf i)⟩)
  clear eZ hs2 hc h hn hH hw1 hs1 k0 k1 k2 k3 kf kz z0 z1 z2 z3 zf C13 hE hR eg
  have HkZ := h9
  go_enter Try.func34, Try.ntmps34
  go_wp2_with fail
  rw [← HW1.out, ← HHH.out]
  refine Calls.mono HC13.out ?_
  rintro e w2 ⟨rfl, hb2⟩
  have HB2 : Hid (Below w1.heap.size w1 w2) := Lib.hid hb2
  clear hb2
  rcases hcc with hc | hc
  · subst hc
    have hso := check_sorted (now := now) (delta := delta) (next := next) (l := l) HE.out.symm
    have HOk := Lib.hid hso.2.1
    clear hso
    obtain ⟨k0, k1, k2, k3, kf, kz, z0, z1, z2, z3, zf⟩ := HSt.out w2 (HB2.out)
    have f0 := zf 0
    have f1 := zf 1
    have f2 := zf 2
    have f3 := zf 3
    have e0 := kz 0
    have e1 := kz 1
    have e2 := kz 2
    go_wp2_with fail
    refine Calls.mono (empty15 _ a n c now delta next) ?_
    rintro e w3 ⟨rfl, hb3⟩
    have HB3 : Hid (Below w1.heap.size w1 w3) := Lib.hid (HB2.out.trans (hb3.mono HB2.out.size))
    clear hb3
    clear k0 k1 k2 k3 kf kz z0 z1 z2 z3 zf f0 f1 f2 f3 e0 e1 e2
    obtain ⟨k0, k1, k2, k3, kf, kz, z0, z1, z2, z3, zf⟩ := HSt.out w3 (HB3.out)
    have f0 := zf 0
    have f1 := zf 1
    have f2 := zf 2
    have f3 := zf 3
    have e0 := kz 0
    have e1 := kz 1
    have e2 := kz 2
    by_cases hn0 : n = 0
    · have dn : decide (n = 0) = true := by simpa using hn0
      have HEr : Hid (comeE now delta next l = 141) := Lib.hid (by unfold comeE; rw [← HE.out, if_pos rfl, if_pos (by rw [HN.out]; exact hn0)])
      rw [dn]
      clear hn0
      go_wp2_with fail
      refine bodyPost_ret (results_come (b := H + 1 + 1) rfl rfl rfl (set_keep (set_keep (set_keep (cell?_set_own z0) (by decide)) (by decide)) (by decide)) (set_keep (set_keep (cell?_set_own (set_keep z1 (by decide))) (by decide)) (by decide)) (set_keep (cell?_set_own (set_keep (set_keep z2 (by decide)) (by decide))) (by decide)) (cell?_set_own (set_keep (set_keep (set_keep z3 (by decide)) (by decide)) (by decide)))) rfl (came_err (HEr.out) (by omega) ?_)
      refine (((((HX1.out.trans (HB3.out.mono HX1.out.size)).setCell (by have := HHH.out; simp only; omega) _).setCell (by have := HHH.out; simp only; omega) _).setCell (by have := HHH.out; simp only; omega) _).setCell (by have := HHH.out; simp only; omega) _)
    have dn : decide (n = 0) = false := by simpa using hn0
    have HEr : Hid (comeE now delta next l = 0) := Lib.hid (by unfold comeE; rw [← HE.out, if_pos rfl, if_neg (by rw [HN.out]; exact hn0)])
    rw [dn]
    obtain ⟨b, off, ha, hbb, d0, d1, d2, d3, d4⟩ := (HLA.out.below (HX1.out.trans (HB3.out.mono HX1.out.size)) (Nat.le_refl _)).ev 0 (by rw [HN.out]; omega)
    have HLt : Hid (0 < n) := Lib.hid (by omega)
    rw [Nat.zero_mul, Nat.add_zero] at d0 d1 d2 d3 d4
    obtain ⟨x, hx⟩ : ∃ x, x = l.getD 0 default := ⟨_, rfl⟩
    rw [← hx] at d0 d1 d2 d3 d4
    have HHx := Lib.hid hx
    obtain ⟨xt, xd, xn, xs, xv⟩ := x
    dsimp only at d0 d1 d2 d3 d4
    have hn1 : 0 < n := by omega
    have h1n : 1 ≤ n := by omega
    clear hx hn0 dn hbb
    subst ha
    have ka0 : (w3.alloc (Obj.cells #[Value.int .i64 xt, Value.int .i64 xd, Value.int .i64 xn, Value.int .i64 xs, Value.int .u64 xv] 35)).cell? ⟨H, 0, none⟩ = some (.slice (some ⟨b, off, none⟩) n c) := cell_alloc _ k0
    obtain ⟨oa, hoa⟩ : ∃ o : Addr, (if n = 1 then some (⟨b, off, none⟩ : Addr) else some ⟨b, off + 5, none⟩) = some o := by
      by_cases e : n = 1
      · exact ⟨_, if_pos e⟩
      · exact ⟨_, if_neg e⟩
    obtain ⟨i5, hi5, hz0, hz1, hz2⟩ := info_parts info35
    obtain ⟨w4, hw4⟩ : ∃ W, W = (w3.alloc (Obj.cells #[Value.int .i64 xt, Value.int .i64 xd, Value.int .i64 xn, Value.int .i64 xs, Value.int .u64 xv] 35)).alloc (Obj.cells #[Value.int .i64 (-1), Value.int .i64 0, Value.int .i64 0, Value.int .i64 0, Value.int .u64 0] 35) := ⟨_, rfl⟩
    have hB4 : Below w1.heap.size w1 w4 := by rw [hw4]; exact (HB3.out.alloc HB3.out.size _).alloc (by have := HB3.out.size; simp; omega) _
    have HB4 := Lib.hid hB4
    have HL4 : Hid (LAt w4 (some ⟨b, off, none⟩) l) := Lib.hid (HLA.out.below (HX1.out.trans (hB4.mono HX1.out.size)) (Nat.le_refl _))
    have HOld : Hid (∀ q, some oa = some q → ∀ j u, ((l.drop 1).flatMap EvV.cells)[j]? = some u → w4.cell? (Addr.add q j) = some u) := Lib.hid (by
      intro q hq j u hj
      injection hq with hq
      subst hq
      by_cases e : n = 1
      · rw [List.drop_of_length_le (by rw [HN.out]; omega)] at hj; simp at hj
      · rw [if_neg e] at hoa
        injection hoa with hoa
        subst hoa
        have := HL4.out.part 1 (l.length - 1) (by have := HN.out; omega) j u (by rw [List.take_of_length_le (by rw [List.length_drop]; omega)]; exact hj)
        simpa using this)
    obtain ⟨sb, hsb⟩ : ∃ s, s = w3.heap.size + 1 := ⟨_, rfl⟩
    have hSO : w4.heap[sb]? = some (.cells (EvV.cells (⟨-1, 0, 0, 0, 0⟩ : EvV)).toArray 35 (0, 0)) := by
      have e1 : (w3.alloc (Obj.cells #[Value.int .i64 xt, Value.int .i64 xd, Value.int .i64 xn, Value.int .i64 xs, Value.int .u64 xv] 35)).heap.size = w3.heap.size + 1 := by simp
      rw [hw4, hsb, ← e1]; exact alloc_top _ _
    have HSO := Lib.hid hSO
    have x4 : w4.heap[w3.heap.size]? = some (.cells #[Value.int .i64 xt, Value.int .i64 xd, Value.int .i64 xn, Value.int .i64 xs, Value.int .u64 xv] 35 (0, 0)) := by
      rw [hw4]; exact (Below.heap_alloc _ _ _ (by simp)).trans (alloc_top w3 _)
    have HX4 := Lib.hid x4
    have HW4 := Lib.hid hw4
    have HSb := Lib.hid hsb
    clear hw4 hB4 hSO hsb x4
    go_wp2_with (at_builtin; (try rw [← HW4.out]); (refine wpList_append_grows _ rfl _ _ 22 rfl 35 i5 zero5 5 40 Try.underlying22 hi5 hz0 hz1 hz2 rfl (by decide) (some oa) (n - 1) (n - 1) ((l.drop 1).flatMap EvV.cells) rfl (by intro h; cases h) (by rw [flat5_length, List.length_drop, HN.out, Nat.mul_comm]) HOld.out ⟨w3.heap.size + 1, 0, none⟩ 1 1 (EvV.cells (⟨-1, 0, 0, 0, 0⟩ : EvV)) rfl rfl (ev_cells_at (by rw [← HSb.out]; exact HSO.out) _ rfl) (cells_one _) (by omega) (by unfold maxLen; omega) (by omega) ?_))
    intro v5 w5 ho5 hg5
    have hb5 : Below w1.heap.size w1 w5 := HB4.out.grown hg5 HB4.out.size (fun k e => by cases e)
    have HB5 := Lib.hid hb5
    have x5 : w5.heap[w3.heap.size]? = some (.cells #[Value.int .i64 xt, Value.int .i64 xd, Value.int .i64 xn, Value.int .i64 xs, Value.int .u64 xv] 35 (0, 0)) := (hg5.block _ ((Array.getElem?_eq_some_iff.1 HX4.out).1) (by simp)).trans HX4.out
    obtain ⟨gb, cap, rfl, hgcap, hgb⟩ := own_form ho5 (by omega)
    obtain ⟨lb, hlb⟩ : ∃ q, q = l.drop 1 ++ [(⟨-1, 0, 0, 0, 0⟩ : EvV)] := ⟨_, rfl⟩
    have hlbl : lb.length = n := by rw [hlb, List.length_append, List.length_drop, HN.out]; simp; omega
    have HLB : Hid (LAt w5 (some ⟨gb, 0, none⟩) lb) := Lib.hid ⟨seq5_of fun j u hj => by
        refine (ho5.cellAt j (by have := (List.getElem?_eq_some_iff.1 hj).1; rw [flat5_length, hlbl] at this; omega)).trans ?_
        rw [hlb, List.flatMap_append] at hj
        simpa using hj, fun e he => by
        rw [hlb] at he
        rcases List.mem_append.1 he with he | he
        · exact HL4.out.each e (List.mem_of_mem_drop he)
        · rw [List.mem_singleton] at he
          subst he
          exact ⟨by unfold I64; simp, by unfold I64; simp, by unfold I64; simp, by unfold I64; simp, by unfold U64; simp⟩⟩
    obtain ⟨r, hr⟩ : ∃ r, r = comeR R l := ⟨_, rfl⟩
    obtain ⟨m, hm⟩ : ∃ m, m = 1 + r := ⟨_, rfl⟩
    have hrn : r < n := by rw [hr, ← HN.out]; exact comeR_lt (by rw [HN.out]; exact hn1)
    have HAdd : Hid (IntKind.i64.wrap (1 + (r : Int)) = (m : Int)) := Lib.hid (by rw [show (1 : Int) + (r : Int) = ((1 + r : Nat) : Int) by omega, hm]; exact Lib.wrap_i64_small _ (by omega))
    have HAdd2 : Hid (wrap64 (1 + (r : Int)) = (m : Int)) := Lib.hid (by rw [← IntWalk.i64_left]; exact HAdd.out)
    have HRr := Lib.hid hr
    have HM := Lib.hid hm
    have hmn : m ≤ n := by omega
    have HMn := Lib.hid hmn
    have hRx : R ⟨xt, xd, xn, xs, xv⟩ = R (l.getD 0 default) := by rw [HHx.out]
    have hlb0 : ∀ j, j < n - 1 → lb.getD j default = (l.drop 1).getD j default := fun j hj => by
      rw [hlb]; simp only [List.getD]
      rw [List.getElem?_append_left (by rw [List.length_drop, HN.out]; exact hj)]
    have hyes : (fun e : EvV => decide (e.t < 0) || !R ⟨xt, xd, xn, xs, xv⟩ e) (lb.getD r default) = true := by
      by_cases e : r = n - 1
      · have : lb.getD r default = ⟨-1, 0, 0, 0, 0⟩ := by
          rw [hlb]; simp only [List.getD]
          rw [List.getElem?_append_right (by rw [List.length_drop, HN.out]; omega)]
          simp [HN.out, e]
        rw [this]; rfl
      · have h2 := tw_no (R (l.getD 0 default)) default (l.drop 1) (by rw [List.length_drop, HN.out]; have := HRr.out; unfold comeR at this; omega)
        have h3 : ((l.drop 1).takeWhile (R (l.getD 0 default))).length = r := HRr.out.symm
        rw [h3] at h2
        show (decide ((lb.getD r default).t < 0) || !R ⟨xt, xd, xn, xs, xv⟩ (lb.getD r default)) = true
        rw [hlb0 r (by omega), hRx, h2]; simp
    have hno : ∀ j, j < r → (fun e : EvV => decide (e.t < 0) || !R ⟨xt, xd, xn, xs, xv⟩ e) (lb.getD j default) = false := fun j hj => by
      have h2 := tw_yes (R (l.getD 0 default)) default (l.drop 1) j (by have := HRr.out; unfold comeR at this; omega)
      have h3 := badEv_low (HOk.out (1 + j) (by rw [HN.out]; omega))
      show (decide ((lb.getD j default).t < 0) || !R ⟨xt, xd, xn, xs, xv⟩ (lb.getD j default)) = false
      rw [hlb0 j (by omega), hRx, h2, getD_drop', decide_eq_false h3]; rfl
    have hcx : ∀ {j : Nat} {u : Value}, (#[Value.int .i64 xt, Value.int .i64 xd, Value.int .i64 xn, Value.int .i64 xs, Value.int .u64 xv] : Array Value)[j]? = some u → w5.cell? ⟨w3.heap.size, j, none⟩ = some u := fun {j u} h => by rw [cell_of_row w5 w3.heap.size j _ 35 (0, 0) x5]; exact h
    have HIdx : Hid (Calls Try.prog 43 #[.slice (some ⟨gb, 0, none⟩) n cap, .func (.func 44) #[] #[.pointer (some ⟨H + 1, 0, none⟩), .pointer (some ⟨w3.heap.size, 0, none⟩)]] w5 fun e w' => e = .returned (.int .i64 r) ∧ Below w5.heap.size w5 w') := Lib.hid (index43 w5 (some ⟨gb, 0, none⟩) n cap lb hlbl HLB.out (by omega) #[.pointer (some ⟨H + 1, 0, none⟩), .pointer (some ⟨w3.heap.size, 0, none⟩)] _ (fun W y hW hy => by
      have cl : ∀ {b j : Nat} {u : Value}, w5.cell? ⟨b, j, none⟩ = some u → W.cell? ⟨b, j, none⟩ = some u := fun h => (hW.cell (p := ⟨_, _, none⟩) (World.block_lt_of_cell? w5 _ h)).trans h
      exact other44 W ⟨xt, xd, xn, xs, xv⟩ y R g HEg.out (fun W' _ => HR.out W' _ y) (H + 1) w3.heap.size (cl (HSt.out w5 hb5).2.2.2.2.1) (cl (hcx rfl)) (cl (hcx rfl)) (cl (hcx rfl)) (cl (hcx rfl)) (cl (hcx rfl))) r hrn hyes hno)
    have HCx := Lib.hid (And.intro (hcx (j := 0) rfl) (hcx (j := 1) rfl))
    have HSz := Lib.hid (Array.getElem?_eq_some_iff.1 x5).1
    clear hb5 x5 hgcap hgb hlbl hr hm hmn hRx hlb0 hyes hno hcx ho5 hg5 hlb hn1 h1n hrn hoa ka0
    clear k0 k1 k2 k3 kf kz z0 z1 z2 z3 zf f0 f1 f2 f3 e0 e1 e2
    go_wp2_with fail
    refine Calls.mono HIdx.out ?_
    rintro e w6 ⟨rfl, hb6⟩
    have HB6 : Hid (Below w1.heap.size w1 w6) := Lib.hid (HB5.out.trans (hb6.mono HB5.out.size))
    obtain ⟨px, hpx⟩ : ∃ p, p = w3.heap.size := ⟨_, rfl⟩
    rw [← hpx] at HSz HCx ⊢
    have HC6 : Hid (w6.cell? ⟨px, 0, none⟩ = some (.int .i64 xt) ∧ w6.cell? ⟨px, 1, none⟩ = some (.int .i64 xd)) := Lib.hid ⟨(hb6.cell (p := ⟨_, _, none⟩) HSz.out).trans HCx.out.1, (hb6.cell (p := ⟨_, _, none⟩) HSz.out).trans HCx.out.2⟩
    have HPx : Hid (w1.heap.size ≤ px) := Lib.hid (by rw [hpx]; exact HB3.out.size)
    clear hb6 hpx
    have hbd : 0 ≤ wrap64 (1 + (r : Int)) ∧ wrap64 (1 + (r : Int)) ≤ (c : Int) := by have h1 := HMn.out; have h2 := HC.out; rw [HAdd2.out]; omega
    obtain ⟨k0, k1, k2, k3, kf, kz, z0, z1, z2, z3, zf⟩ := HSt.out w6 (HB6.out)
    have f0 := zf 0
    have f1 := zf 1
    have f2 := zf 2
    have f3 := zf 3
    have e0 := kz 0
    have e1 := kz 1
    have e2 := kz 2
    go_wp2_with fail
    rw [HAdd2.out, Int.toNat_natCast]
    clear hbd
    have hmn := HMn.out
    have HB6a := Lib.hid (HX1.out.trans (HB6.out.mono HX1.out.size))
    have HL6 : Hid (LAt w6 (some ⟨b, off, none⟩) l) := Lib.hid (HLA.out.below HB6a.out (Nat.le_refl _))
    refine Calls.mono (clone32 w6 (some ⟨b, off, none⟩) m c (l.take m) (by rw [List.length_take, HN.out, Nat.min_eq_left hmn]) (by omega) (HL6.out.take m (by rw [HN.out]; exact hmn))) ?_
    rintro e w7 ⟨v7, rfl, ho7, hb7⟩
    obtain ⟨o7, c7, rfl, hc7⟩ := own_slice ho7
    have HC7 := Lib.hid hc7
    have HO7 := Lib.hid ho7
    have HB76 := Lib.hid hb7
    have HB7 : Hid (Below w1.heap.size w1 w7) := Lib.hid (HB6.out.trans (hb7.mono HB6.out.size))
    have hp6 : px < w6.heap.size := World.block_lt_of_cell? w6 _ HC6.out.1
    have x0 : w7.cell? ⟨px, 0, none⟩ = some (.int .i64 xt) := (hb7.cell (p := ⟨_, _, none⟩) hp6).trans HC6.out.1
    have x1 : w7.cell? ⟨px, 1, none⟩ = some (.int .i64 xd) := (hb7.cell (p := ⟨_, _, none⟩) hp6).trans HC6.out.2
    clear ho7 hb7 hp6 hc7
    obtain ⟨ob, hob⟩ : ∃ o : Addr, (if c = m then some (⟨b, off, none⟩ : Addr) else some ⟨b, off + m * 5, none⟩) = some o := by
      by_cases e : c = m
      · exact ⟨_, if_pos e⟩
      · exact ⟨_, if_neg e⟩
    have HLo : Hid (∀ W, Below w7.heap.size w7 W → LAt W (some ob) (l.drop m)) := Lib.hid (fun W hW => by
      have hl : LAt W (some ⟨b, off, none⟩) l := HL6.out.below (HB76.out.trans (hW.mono HB76.out.size)) (Nat.le_refl _)
      by_cases e : c = m
      · have := HC.out
        rw [List.drop_of_length_le (by rw [HN.out]; omega)]
        exact ⟨.inl rfl, fun e he => by cases he⟩
      · rw [if_neg e] at hob
        injection hob with hob
        rw [← hob]
        exact hl.behind m (by rw [HN.out]; exact hmn))
    clear k0 k1 k2 k3 kf kz z0 z1 z2 z3 zf f0 f1 f2 f3 e0 e1 e2
    obtain ⟨k0, k1, k2, k3, kf, kz, z0, z1, z2, z3, zf⟩ := HSt.out w7 (HB7.out)
    have f0 := zf 0
    have f1 := zf 1
    have f2 := zf 2
    have f3 := zf 3
    have e0 := kz 0
    have e1 := kz 1
    have e2 := kz 2
    go_wp2_with fail
    refine wp_region_held_drew (S := fun w' => w'.cell? ⟨px, 0, none⟩ = some (.int .i64 xt) ∧ w'.cell? ⟨px, 1, none⟩ = some (.int .i64 xd)) (by kernel_rfl) (⟨x0, x1⟩) (fun hHeld => ?_)
    refine wpAnyH_take (i := 0) (v := ?_) (by simp only [List.getElem?_toArray, List.getElem?_cons_succ, List.getElem?_cons_zero]; rfl) (by kernel_rfl) (by kernel_rfl) (by kernel_rfl) (by intro _ _ _ h; exact h) (Or.inl ⟨by rfl, ?_⟩) (by assumption) ?_
    rotate_left
    · intro w hSw; (try dsimp only at hSw); go_simp; try with_reducible rfl
    try simp only [Act.put, List.setIfInBounds_toArray, List.set_cons_zero, List.set_cons_succ]
    refine wpAnyH_take (i := 2) (v := ?_) (by simp only [List.getElem?_toArray, List.getElem?_cons_succ, List.getElem?_cons_zero]; rfl) (by kernel_rfl) (by kernel_rfl) (by kernel_rfl) (by intro _ _ _ h; exact h) (Or.inl ⟨by rfl, ?_⟩) (by assumption) ?_
    rotate_left
    · intro w hSw; (try dsimp only at hSw); go_simp; try with_reducible rfl
    try simp only [Act.put, List.setIfInBounds_toArray, List.set_cons_zero, List.set_cons_succ]
    refine wpAnyH_take (i := 5) (v := ?_) (by simp only [List.getElem?_toArray, List.getElem?_cons_succ, List.getElem?_cons_zero]; rfl) (by kernel_rfl) (by kernel_rfl) (by kernel_rfl) (by intro _ _ _ h; exact h) (Or.inl ⟨by rfl, ?_⟩) (by assumption) ?_
    rotate_left
    · intro w hSw; (try dsimp only at hSw); go_simp; try with_reducible rfl
    try simp only [Act.put, List.setIfInBounds_toArray, List.set_cons_zero, List.set_cons_succ]
    refine wpAnyH_take (i := 6) (v := ?_) (by simp only [List.getElem?_toArray, List.getElem?_cons_succ, List.getElem?_cons_zero]; rfl) (by kernel_rfl) (by kernel_rfl) (by kernel_rfl) (by intro _ _ _ h; exact h) (Or.inl ⟨by rfl, ?_⟩) (by assumption) ?_
    rotate_left
    · intro w hSw; (try dsimp only at hSw); go_simp; try with_reducible rfl
    try simp only [Act.put, List.setIfInBounds_toArray, List.set_cons_zero, List.set_cons_succ]
    refine wpAnyH_take (i := 7) (v := ?_) (by simp only [List.getElem?_toArray, List.getElem?_cons_succ, List.getElem?_cons_zero]; rfl) (by kernel_rfl) (by kernel_rfl) (by kernel_rfl) (by intro _ _ _ h; exact h) (Or.inl ⟨by rfl, ?_⟩) (by assumption) ?_
    rotate_left
    · intro w hSw; (try dsimp only at hSw); go_simp; try with_reducible rfl
    try simp only [Act.put, List.setIfInBounds_toArray, List.set_cons_zero, List.set_cons_succ]
    refine wpAnyH_take (i := 8) (v := ?_) (by simp only [List.getElem?_toArray, List.getElem?_cons_succ, List.getElem?_cons_zero]; rfl) (by kernel_rfl) (by kernel_rfl) (by kernel_rfl) (by intro _ _ _ h; exact h) (Or.inl ⟨by rfl, ?_⟩) (by assumption) ?_
    rotate_left
    · intro w hSw; (try dsimp only at hSw); go_simp; try with_reducible rfl
    try simp only [Act.put, List.setIfInBounds_toArray, List.set_cons_zero, List.set_cons_succ]
    refine wpAnyH_ready (rs := [1]) (by kernel_rfl) (by simp) ?_
    refine AllReadyH.cons (o := _) (by simp only [List.getElem?_toArray, List.getElem?_cons_succ, List.getElem?_cons_zero]; rfl) (fun K hK => ?_) AllReadyH.nil
    go_simp

    refine hK.out _ _ (by exact ⟨x0, x1⟩) (fun hHeld => ?_)
    clear hK K
    try simp only [Act.put, List.setIfInBounds_toArray, List.set_cons_zero, List.set_cons_succ]
    refine wpAnyH_take (i := 3) (v := ?_) (by simp only [List.getElem?_toArray, List.getElem?_cons_succ, List.getElem?_cons_zero]; rfl) (by kernel_rfl) (by kernel_rfl) (by kernel_rfl) (by intro _ _ _ h; exact h) (Or.inl ⟨by rfl, ?_⟩) (by assumption) ?_
    rotate_left
    · intro w hSw; (try dsimp only at hSw); go_simp; first | with_reducible rfl | rw [if_pos (by omega)]
    try simp only [Act.put, List.setIfInBounds_toArray, List.set_cons_zero, List.set_cons_succ]
    refine wpAnyH_ready (rs := [4]) (by kernel_rfl) (by simp) ?_
    refine AllReadyH.cons (o := _) (by simp only [List.getElem?_toArray, List.getElem?_cons_succ, List.getElem?_cons_zero]; rfl) (fun K hK => ?_) AllReadyH.nil
    go_simp
    go_at_call 32
    refine Calls.mono (clone32 w7.drew (some ob) (n - m) (c - m) (l.drop m) (by rw [List.length_drop, HN.out]) (by omega) (HLo.out _ (Below.refl _ _).drew)) ?_
    rintro e w8 ⟨v8, rfl, ho8, hb8⟩
    obtain ⟨o8, c8, rfl, hc8⟩ := own_slice ho8
    have HC8 := Lib.hid hc8
    have hb78 : Below w7.heap.size w7 w8 := (Below.refl _ _).drew.trans hb8
    have HB78 := Lib.hid hb78
    have HO8 := Lib.hid ho8
    have HB8 : Hid (Below w1.heap.size w1 w8) := Lib.hid (HB7.out.trans (hb78.mono HB7.out.size))
    have y0 : w8.cell? ⟨px, 0, none⟩ = some (.int .i64 xt) := (hb78.cell (p := ⟨_, _, none⟩) (World.block_lt_of_cell? w7 _ x0)).trans x0
    have y1 : w8.cell? ⟨px, 1, none⟩ = some (.int .i64 xd) := (hb78.cell (p := ⟨_, _, none⟩) (World.block_lt_of_cell? w7 _ x1)).trans x1
    have hpn : px ≠ H := by have := HPx.out; have := HS1.out; omega
    clear ho8 hb8 hb78 hc8
    clear k0 k1 k2 k3 kf kz z0 z1 z2 z3 zf f0 f1 f2 f3 e0 e1 e2
    obtain ⟨k0, k1, k2, k3, kf, kz, z0, z1, z2, z3, zf⟩ := HSt.out w8 (HB8.out)
    have f0 := zf 0
    have f1 := zf 1
    have f2 := zf 2
    have f3 := zf 3
    have e0 := kz 0
    have e1 := kz 1
    have e2 := kz 2
    go_simp
    refine hK.out _ _ (by exact ⟨y0, y1⟩) (fun hHeld => ?_)
    clear hK K
    try simp only [Act.put, List.setIfInBounds_toArray, List.set_cons_zero, List.set_cons_succ]
    refine wpAnyH_take (i := 9) (v := ?_) (by simp only [List.getElem?_toArray, List.getElem?_cons_succ, List.getElem?_cons_zero]; rfl) (by kernel_rfl) (by kernel_rfl) (by kernel_rfl) (by intro _ _ _ h; exact h) (Or.inl ⟨by rfl, ?_⟩) (by assumption) ?_
    rotate_left
    · intro w hSw; (try dsimp only at hSw); go_simp; try with_reducible rfl
    try simp only [Act.put, List.setIfInBounds_toArray, List.set_cons_zero, List.set_cons_succ]
    refine wpAnyH_ready (rs := [10]) (by kernel_rfl) (by simp) ?_
    refine AllReadyH.cons (o := _) (by simp only [List.getElem?_toArray, List.getElem?_cons_succ, List.getElem?_cons_zero]; rfl) (fun K hK => ?_) AllReadyH.nil
    go_simp

    refine hK.out _ _ (by exact ⟨far y0 hpn, far y1 hpn⟩) (fun hHeld => ?_)
    clear hK K
    try simp only [Act.put, List.setIfInBounds_toArray, List.set_cons_zero, List.set_cons_succ]
    refine wpAnyH_take (i := 11) (v := ?_) (by simp only [List.getElem?_toArray, List.getElem?_cons_succ, List.getElem?_cons_zero]; rfl) (by kernel_rfl) (by kernel_rfl) (by kernel_rfl) (by intro _ _ _ h; exact h) (Or.inl ⟨by rfl, ?_⟩) (by assumption) ?_
    rotate_left
    · intro w hSw; (try dsimp only at hSw); go_simp; try with_reducible rfl
    try simp only [Act.put, List.setIfInBounds_toArray, List.set_cons_zero, List.set_cons_succ]
    refine wpAnyH_ready (rs := [12]) (by kernel_rfl) (by simp) ?_
    refine AllReadyH.cons (o := _) (by simp only [List.getElem?_toArray, List.getElem?_cons_succ, List.getElem?_cons_zero]; rfl) (fun K hK => ?_) AllReadyH.nil
    go_simp

    refine hK.out _ _ (by exact ⟨far (far y0 hpn) hpn, far (far y1 hpn) hpn⟩) (fun hHeld => ?_)
    clear hK K
    try simp only [Act.put, List.setIfInBounds_toArray, List.set_cons_zero, List.set_cons_succ]
    refine wpAnyH_take (i := 13) (v := ?_) (by simp only [List.getElem?_toArray, List.getElem?_cons_succ, List.getElem?_cons_zero]; rfl) (by kernel_rfl) (by kernel_rfl) (by kernel_rfl) (by intro _ _ _ h; exact h) (Or.inl ⟨by rfl, ?_⟩) (by assumption) ?_
    rotate_left
    · intro w hSw; (try dsimp only at hSw); go_simp; try with_reducible rfl
    try simp only [Act.put, List.setIfInBounds_toArray, List.set_cons_zero, List.set_cons_succ]
    refine wpAnyH_ready (rs := [14]) (by kernel_rfl) (by simp) ?_
    refine AllReadyH.cons (o := _) (by simp only [List.getElem?_toArray, List.getElem?_cons_succ, List.getElem?_cons_zero]; rfl) (fun K hK => ?_) AllReadyH.nil
    go_simp

    refine hK.out _ _ (by exact ⟨far (far (far y0 hpn) hpn) hpn, far (far (far y1 hpn) hpn) hpn⟩) (fun hHeld => ?_)
    clear hK K
    try simp only [Act.put, List.setIfInBounds_toArray, List.set_cons_zero, List.set_cons_succ]
    refine wpAnyH_done (by kernel_rfl) ?_ _
    clear hob
    go_wp2_with fail
    have hH2 : H + 1 + 1 ≠ H := by omega
    have z0' := far (b := H) (i := 2) (u := .int .i64 xd) (far (b := H) (i := 1) (u := .int .i64 xt) (far (b := H) (i := 0) (u := .slice o8 (n - m) c8) z0 hH2) hH2) hH2
    have z1' := far (b := H) (i := 2) (u := .int .i64 xd) (far (b := H) (i := 1) (u := .int .i64 xt) (far (b := H) (i := 0) (u := .slice o8 (n - m) c8) z1 hH2) hH2) hH2
    have z2' := far (b := H) (i := 2) (u := .int .i64 xd) (far (b := H) (i := 1) (u := .int .i64 xt) (far (b := H) (i := 0) (u := .slice o8 (n - m) c8) z2 hH2) hH2) hH2
    have z3' := far (b := H) (i := 2) (u := .int .i64 xd) (far (b := H) (i := 1) (u := .int .i64 xt) (far (b := H) (i := 0) (u := .slice o8 (n - m) c8) z3 hH2) hH2) hH2
    refine bodyPost_ret (results_come (g := .slice o7 m c7) (b := H + 1 + 1) rfl rfl rfl (set_keep (set_keep (set_keep (cell?_set_own z0') (by decide)) (by decide)) (by decide)) (set_keep (set_keep (cell?_set_own (set_keep z1' (by decide))) (by decide)) (by decide)) (set_keep (cell?_set_own (set_keep (set_keep z2' (by decide)) (by decide))) (by decide)) (cell?_set_own (set_keep (set_keep (set_keep z3' (by decide)) (by decide)) (by decide)))) rfl ?_
    unfold Came
    rw [HEr.out, if_pos rfl, ← HRr.out, ← HM.out, ← HHx.out]
    have hld : (l.drop m).length = n - m := by rw [List.length_drop, HN.out]
    have hlt : (l.take m).length = m := by rw [List.length_take, HN.out, Nat.min_eq_left HMn.out]
    have hs1 := HS1.out
    have hs6 := HB6.out.size
    have hs7 := HB7.out.size
    have own7 : w8.ownsRow w6.heap.size 35 5 (.slice o7 m c7) m ((l.take m).flatMap EvV.cells) := own_of_block HO7.out (fun g hg => HB78.out.block g (HO7.out.lt g hg).2)
    refine ⟨o8, c8, o7, c7, by rw [hld, hlt], by rw [hld]; exact HC8.out, by rw [hlt]; exact HC7.out, (fun p hp => by have h1 := own_fresh HO8.out p hp; have h2 := HX1.out.size; have h3 : w7.heap.size ≤ p.block := h1; omega), (fun p hp => by have h1 := own_fresh HO7.out p hp; have h2 := HX1.out.size; omega), own_lat (base := w7.heap.size) (c := c8) ?_ hld (fun e he => HLA.out.each e (List.mem_of_mem_drop he)), own_lat (base := w6.heap.size) (c := c7) ?_ hlt (fun e he => HLA.out.each e (List.mem_of_mem_take he)), ?_⟩
    · have h8 : w8.ownsRow w7.heap.size 35 5 (.slice o8 (n - m) c8) (n - m) ((l.drop m).flatMap EvV.cells) := HO8.out
      exact ownsRow_setCell_below (ownsRow_setCell_below (ownsRow_setCell_below (ownsRow_setCell_below (ownsRow_setCell_below (ownsRow_setCell_below (ownsRow_setCell_below h8 (by simp only; omega) _) (by simp only; omega) _) (by simp only; omega) _) (by simp only; omega) _) (by simp only; omega) _) (by simp only; omega) _) (by simp only; omega) _
    · exact ownsRow_setCell_below (ownsRow_setCell_below (ownsRow_setCell_below (ownsRow_setCell_below (ownsRow_setCell_below (ownsRow_setCell_below (ownsRow_setCell_below own7 (by simp only; omega) _) (by simp only; omega) _) (by simp only; omega) _) (by simp only; omega) _) (by simp only; omega) _) (by simp only; omega) _) (by simp only; omega) _
    · refine (((((((HX1.out.trans (HB8.out.mono HX1.out.size)).setCell ?_ _).setCell ?_ _).setCell ?_ _).setCell ?_ _).setCell ?_ _).setCell ?_ _).setCell ?_ _
      all_goals (have := HHH.out; simp only; omega)
  · subst hc
    have HEr : Hid (comeE now delta next l = 1) := Lib.hid (by unfold comeE; rw [← HE.out, if_neg (by omega)])
    obtain ⟨k0, k1, k2, k3, kf, kz, z0, z1, z2, z3, zf⟩ := HSt.out w2 (HB2.out)
    have f0 := zf 0
    have f1 := zf 1
    have f2 := zf 2
    have f3 := zf 3
    have e0 := kz 0
    have e1 := kz 1
    have e2 := kz 2
    go_wp2_with fail
    refine bodyPost_ret (results_come (b := H + 1 + 1) rfl rfl rfl (set_keep (set_keep (set_keep (cell?_set_own z0) (by decide)) (by decide)) (by decide)) (set_keep (set_keep (cell?_set_own (set_keep z1 (by decide))) (by decide)) (by decide)) (set_keep (cell?_set_own (set_keep (set_keep z2 (by decide)) (by decide))) (by decide)) (cell?_set_own (set_keep (set_keep (set_keep z3 (by decide)) (by decide)) (by decide)))) rfl (came_err (HEr.out) (by omega) ?_)
    refine (((((HX1.out.trans (HB2.out.mono HX1.out.size)).setCell (by have := HHH.out; simp only; omega) _).setCell (by have := HHH.out; simp only; omega) _).setCell (by have := HHH.out; simp only; omega) _).setCell (by have := HHH.out; simp only; omega) _)
end Go.Proofs.Ytbhbebidkeejbaa
