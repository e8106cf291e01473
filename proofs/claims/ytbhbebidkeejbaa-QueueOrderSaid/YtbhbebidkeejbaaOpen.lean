/- How queues and rows, as the row gives them, read. -/
import Derived.Test.YtbhbebidkeejbaaQ2
import Derived.ProofKit
import Derived.OpenShut
import Derived.ShutString
import Derived.ChangeOld
import Derived.Lib.SmallJoins
import Derived.Deep.SlicePairs
namespace Go.Proofs.Ytbhbebidkeejbaa
open Go.ChangeShapes Go.WideShapes Go.ChangeAt Go.RowKit Go.Joins Go.Deep
set_option maxRecDepth 100000

/-- A row that is to come. -/
structure RowV where
  t : Int
  d : Int
  sig : Int
  v : Int
deriving Inhabited
structure RowR (e : RowV) : Prop where
  t : I64 e.t
  d : I64 e.d
  sig : I64 e.sig
  v : U64 e.v
abbrev RowV.val (e : RowV) : Value := .agg #[.int .i64 e.t, .int .i64 e.d, .int .i64 e.sig, .int .u64 e.v]
def rowCell (l : List RowV) : Nat → Value := fun i =>
  if i % 4 = 0 then .int .i64 (l.getD (i / 4) default).t else if i % 4 = 1 then .int .i64 (l.getD (i / 4) default).d else if i % 4 = 2 then .int .i64 (l.getD (i / 4) default).sig else .int .u64 (l.getD (i / 4) default).v
structure RowsAt (w : World) (a : Option Addr) (l : List RowV) : Prop where
  list : Seq w a (4 * l.length) (rowCell l)
  each : ∀ e ∈ l, RowR e
theorem RowsAt.below {w w' : World} {B : Nat} {a : Option Addr} {l : List RowV} (h : RowsAt w a l) (hb : Below B w w') (hB : w.heap.size ≤ B) : RowsAt w' a l := ⟨h.list.below hb hB, h.each⟩
theorem RowsAt.row {w : World} {a : Option Addr} {l : List RowV} (h : RowsAt w a l) (k : Nat) (hk : k < l.length) :
    ∃ b off, a = some ⟨b, off, none⟩ ∧ b < w.heap.size ∧ w.cell? ⟨b, off + k * 4, none⟩ = some (.int .i64 (l.getD k default).t) ∧ w.cell? ⟨b, off + k * 4 + 1, none⟩ = some (.int .i64 (l.getD k default).d) ∧
      w.cell? ⟨b, off + k * 4 + 2, none⟩ = some (.int .i64 (l.getD k default).sig) ∧ w.cell? ⟨b, off + k * 4 + 3, none⟩ = some (.int .u64 (l.getD k default).v) := by
  obtain ⟨b, off, ha, hb, hc⟩ := h.list.at (4 * k) (by omega)
  refine ⟨b, off, ha, hb, ?_, ?_, ?_, ?_⟩
  · have := hc (k * 4) (by omega)
    rw [this]; simp only [rowCell]
    rw [if_pos (by omega), show k * 4 / 4 = k by omega]
  · have := hc (k * 4 + 1) (by omega)
    rw [Nat.add_assoc, this]; simp only [rowCell]
    rw [if_neg (by omega), if_pos (by omega), show (k * 4 + 1) / 4 = k by omega]
  · have := hc (k * 4 + 2) (by omega)
    rw [Nat.add_assoc, this]; simp only [rowCell]
    rw [if_neg (by omega), if_neg (by omega), if_pos (by omega), show (k * 4 + 2) / 4 = k by omega]
  · have := hc (k * 4 + 3) (by omega)
    rw [Nat.add_assoc, this]; simp only [rowCell]
    rw [if_neg (by omega), if_neg (by omega), if_neg (by omega), show (k * 4 + 3) / 4 = k by omega]
theorem RowsAt.ok {w : World} {a : Option Addr} {l : List RowV} (h : RowsAt w a l) (k : Nat) (hk : k < l.length) : RowR (l.getD k default) := by
  refine h.each _ ?_
  simp [List.getD, List.getElem?_eq_getElem hk]

section
variable {H : Type} {enc : TypeId × Value → H} {w : World} {base : Nat} {spare : Nat → Bool} {held : Bool} {fuel : Nat}
theorem wf64 {x : Int} (h : (Lit.int .i64 x).wf = true) : I64 x := by
  simp only [Lit.wf, Bool.and_eq_true, decide_eq_true_eq] at h
  exact h
theorem wfu64 {x : Int} (h : (Lit.int .u64 x).wf = true) : U64 x := by
  simp only [Lit.wf, Bool.and_eq_true, decide_eq_true_eq] at h
  exact h
theorem seq_of {a : Addr} {n : Nat} {f : Nat → Value} (h : ∀ i, i < n → w.cell? (a.add i) = some (f i)) : Seq w (some a) n f := by
  by_cases hn : n = 0
  · exact .inl hn
  · obtain ⟨b, off, spot⟩ := a
    have h0 := h 0 (by omega)
    have hs : spot = none := by simpa [Addr.add] using World.cell?_spot h0
    subst hs
    refine .inr ⟨b, off, rfl, fun i hi => ?_⟩
    have := h i hi
    rwa [Addr.add_lit] at this
/-- A slice of structs of k fields of one cell each: what each cell holds. -/
theorem open_flat {P : Program} {t e : TypeId} {fs : Array Field} {k : Nat} {cs : List Value} {x : DataW H × List MemPlace} (ht : P.underlying t = some (.slice e)) (he : P.underlying e = some (.struct fs)) (ce : P.cellsOf e = k)
    (ho : ∀ j f, fs[j]? = some f → j < k ∧ f.offset = j ∧ P.cellsOf f.type = 1) (h : DataW.trod enc P w base spare held fuel t cs = some x) :
    cs = [.slice none 0 0] ∨ ∃ (a : Addr) (len cap n : Nat), cs = [.slice (some a) len cap] ∧ len ≤ cap ∧ cap ≤ maxLen ∧
      ∀ i, i < len → ∀ j f, fs[j]? = some f → ∃ v y, w.cell? (a.add (i * k + j)) = some v ∧ DataW.trod enc P w base spare held n f.type [v] = some y := by
  rcases open_slice ht h with ⟨h0, _⟩ | ⟨a, len, cap, m, n, D, Pl, rfl, hb, hl, hm, hmm, rfl, hx⟩
  · exact Or.inl h0
  refine Or.inr ⟨a, len, cap, n - 1, rfl, hl, hm, fun i hi j f hf => ?_⟩
  have hlm : len ≤ m := by rw [hmm]; split <;> omega
  obtain ⟨cs', h1, h2⟩ := hx i (by omega)
  rw [ce] at h1
  obtain ⟨_, hlen, hcell⟩ := World.cells?_some h1
  obtain ⟨xs, q, hk, hxy, hcl, hxl, hfs⟩ := DataW.trod_struct he h2
  obtain rfl : q = n - 1 := by omega
  obtain ⟨hj, o1, c1⟩ := ho j f hf
  have g := hfs j f hf
  rw [o1, c1] at g
  have hjx : j < xs.length := by
    rw [hxl]; exact (Array.getElem?_eq_some_iff.1 hf).1
  have hd : (cs'.drop j).take 1 = [cs'[j]'(by omega)] := by
    rw [List.drop_eq_getElem_cons (by omega)]; rfl
  rw [hd, List.getElem?_eq_getElem hjx] at g
  have hc := hcell j hj
  rw [add_add, List.getElem?_eq_getElem (by omega)] at hc
  exact ⟨_, _, hc, g⟩

theorem read_evs {cs : List Value} {x : DataW H × List MemPlace} (h : DataW.trod enc Try.prog w base spare held fuel 22 cs = some x) :
    ∃ (a : Option Addr) (c : Nat) (ll : List EvV), cs = [.slice a ll.length c] ∧ LAt w a ll ∧ ll.length ≤ 9223372036854775807 ∧ ll.length ≤ c := by
  rcases open_flat (k := 5) Try.underlying22 Try.underlying34 (by kernel_rfl) (by
    intro j f hf
    match j, hf with
    | 0, hf => simp at hf; subst hf; exact ⟨by omega, rfl, by kernel_rfl⟩
    | 1, hf => simp at hf; subst hf; exact ⟨by omega, rfl, by kernel_rfl⟩
    | 2, hf => simp at hf; subst hf; exact ⟨by omega, rfl, by kernel_rfl⟩
    | 3, hf => simp at hf; subst hf; exact ⟨by omega, rfl, by kernel_rfl⟩
    | 4, hf => simp at hf; subst hf; exact ⟨by omega, rfl, by kernel_rfl⟩
    | j + 5, hf => simp at hf) h with rfl | ⟨a, len, cap, n, rfl, hl, hm, hx⟩
  · exact ⟨none, 0, [], rfl, ⟨.inl rfl, fun e he => by cases he⟩, by simp, by simp⟩
  · have each : ∀ i, i < len → ∃ v : EvV, w.cell? (a.add (i * 5)) = some (.int .i64 v.t) ∧ w.cell? (a.add (i * 5 + 1)) = some (.int .i64 v.d) ∧ w.cell? (a.add (i * 5 + 2)) = some (.int .i64 v.no) ∧ w.cell? (a.add (i * 5 + 3)) = some (.int .i64 v.sig) ∧ w.cell? (a.add (i * 5 + 4)) = some (.int .u64 v.v) ∧ EvR v := by
      intro i hi
      obtain ⟨v0, y0, h0, t0⟩ := hx i hi 0 _ rfl
      obtain ⟨v1, y1, h1, t1⟩ := hx i hi 1 _ rfl
      obtain ⟨v2, y2, h2, t2⟩ := hx i hi 2 _ rfl
      obtain ⟨v3, y3, h3, t3⟩ := hx i hi 3 _ rfl
      obtain ⟨v4, y4, h4, t4⟩ := hx i hi 4 _ rfl
      obtain ⟨u0, e0, _, r0⟩ := DataW.trod_int Try.underlying3 t0
      obtain ⟨u1, e1, _, r1⟩ := DataW.trod_int Try.underlying3 t1
      obtain ⟨u2, e2, _, r2⟩ := DataW.trod_int Try.underlying3 t2
      obtain ⟨u3, e3, _, r3⟩ := DataW.trod_int Try.underlying3 t3
      obtain ⟨u4, e4, _, r4⟩ := DataW.trod_int Try.underlying25 t4
      simp at e0 e1 e2 e3 e4
      exact ⟨⟨u0, u1, u2, u3, u4⟩, by rw [Nat.add_zero] at h0; rw [h0, e0], by rw [h1, e1], by rw [h2, e2], by rw [h3, e3], by rw [h4, e4], ⟨wf64 r0, wf64 r1, wf64 r2, wf64 r3, wfu64 r4⟩⟩
    obtain ⟨F, hF⟩ := choose_lt each
    have hlen : ((List.range len).map F).length = len := by simp
    have hget : ∀ k, k < len → ((List.range len).map F).getD k default = F k := fun k hk => by simp [List.getD, hk]
    refine ⟨some a, cap, (List.range len).map F, by rw [hlen], ⟨?_, fun x hx => ?_⟩, by rw [hlen]; unfold maxLen at hm; omega, by rw [hlen]; exact hl⟩
    · rw [hlen]
      refine seq_of fun i hi => ?_
      have hk : i / 5 < len := by omega
      obtain ⟨c0, c1, c2, c3, c4, _⟩ := hF (i / 5) hk
      simp only [evCell, hget _ hk]
      by_cases p0 : i % 5 = 0
      · rw [if_pos p0, ← c0]; congr 2; omega
      · rw [if_neg p0]
        by_cases p1 : i % 5 = 1
        · rw [if_pos p1, ← c1]; congr 2; omega
        · rw [if_neg p1]
          by_cases p2 : i % 5 = 2
          · rw [if_pos p2, ← c2]; congr 2; omega
          · rw [if_neg p2]
            by_cases p3 : i % 5 = 3
            · rw [if_pos p3, ← c3]; congr 2; omega
            · rw [if_neg p3, ← c4]; congr 2; omega
    · obtain ⟨k, hk, rfl⟩ := List.mem_map.1 hx
      exact (hF k (List.mem_range.1 hk)).2.2.2.2.2
theorem read_rowl {cs : List Value} {x : DataW H × List MemPlace} (h : DataW.trod enc Try.prog w base spare held fuel 41 cs = some x) :
    ∃ (a : Option Addr) (c : Nat) (ll : List RowV), cs = [.slice a ll.length c] ∧ RowsAt w a ll ∧ ll.length ≤ 9223372036854775807 ∧ ll.length ≤ c := by
  rcases open_flat (k := 4) Try.underlying41 Try.underlying43 (by kernel_rfl) (by
    intro j f hf
    match j, hf with
    | 0, hf => simp at hf; subst hf; exact ⟨by omega, rfl, by kernel_rfl⟩
    | 1, hf => simp at hf; subst hf; exact ⟨by omega, rfl, by kernel_rfl⟩
    | 2, hf => simp at hf; subst hf; exact ⟨by omega, rfl, by kernel_rfl⟩
    | 3, hf => simp at hf; subst hf; exact ⟨by omega, rfl, by kernel_rfl⟩
    | j + 4, hf => simp at hf) h with rfl | ⟨a, len, cap, n, rfl, hl, hm, hx⟩
  · exact ⟨none, 0, [], rfl, ⟨.inl rfl, fun e he => by cases he⟩, by simp, by simp⟩
  · have each : ∀ i, i < len → ∃ v : RowV, w.cell? (a.add (i * 4)) = some (.int .i64 v.t) ∧ w.cell? (a.add (i * 4 + 1)) = some (.int .i64 v.d) ∧ w.cell? (a.add (i * 4 + 2)) = some (.int .i64 v.sig) ∧ w.cell? (a.add (i * 4 + 3)) = some (.int .u64 v.v) ∧ RowR v := by
      intro i hi
      obtain ⟨v0, y0, h0, t0⟩ := hx i hi 0 _ rfl
      obtain ⟨v1, y1, h1, t1⟩ := hx i hi 1 _ rfl
      obtain ⟨v2, y2, h2, t2⟩ := hx i hi 2 _ rfl
      obtain ⟨v3, y3, h3, t3⟩ := hx i hi 3 _ rfl
      obtain ⟨u0, e0, _, r0⟩ := DataW.trod_int Try.underlying3 t0
      obtain ⟨u1, e1, _, r1⟩ := DataW.trod_int Try.underlying3 t1
      obtain ⟨u2, e2, _, r2⟩ := DataW.trod_int Try.underlying3 t2
      obtain ⟨u3, e3, _, r3⟩ := DataW.trod_int Try.underlying25 t3
      simp at e0 e1 e2 e3
      exact ⟨⟨u0, u1, u2, u3⟩, by rw [Nat.add_zero] at h0; rw [h0, e0], by rw [h1, e1], by rw [h2, e2], by rw [h3, e3], ⟨wf64 r0, wf64 r1, wf64 r2, wfu64 r3⟩⟩
    obtain ⟨F, hF⟩ := choose_lt each
    have hlen : ((List.range len).map F).length = len := by simp
    have hget : ∀ k, k < len → ((List.range len).map F).getD k default = F k := fun k hk => by simp [List.getD, hk]
    refine ⟨some a, cap, (List.range len).map F, by rw [hlen], ⟨?_, fun x hx => ?_⟩, by rw [hlen]; unfold maxLen at hm; omega, by rw [hlen]; exact hl⟩
    · rw [hlen]
      refine seq_of fun i hi => ?_
      have hk : i / 4 < len := by omega
      obtain ⟨c0, c1, c2, c3, _⟩ := hF (i / 4) hk
      simp only [rowCell, hget _ hk]
      by_cases p0 : i % 4 = 0
      · rw [if_pos p0, ← c0]; congr 2; omega
      · rw [if_neg p0]
        by_cases p1 : i % 4 = 1
        · rw [if_pos p1, ← c1]; congr 2; omega
        · rw [if_neg p1]
          by_cases p2 : i % 4 = 2
          · rw [if_pos p2, ← c2]; congr 2; omega
          · rw [if_neg p2, ← c3]; congr 2; omega
    · obtain ⟨k, hk, rfl⟩ := List.mem_map.1 hx
      exact (hF k (List.mem_range.1 hk)).2.2.2.2
theorem Try.cells24 : Try.prog.cellsOf 24 = 4 := by kernel_rfl
theorem Try.cells44 : Try.prog.cellsOf 44 = 4 := by kernel_rfl

/-- A QUEUE THAT CAME IN. -/
theorem read_queue {r : Reach} {b0 : Nat} {v : Value} {d : DataW H} {p : List MemPlace} (hv : Value.okWide Try.prog w r b0 24 v) (h : DataW.Trod enc Try.prog w base spare held 24 v d p) :
    ∃ Q : QV, v = Q.val ∧ QAt w Q ∧ Q.l.length ≤ Q.c := by
  obtain ⟨v0, v1, v2, v3, y0, y1, y2, y3, n, rfl, _, _, h0, h1, h2, h3⟩ := open_agg4 Try.underlying24 (by kernel_rfl) Try.cells24 hv h
  obtain ⟨a, c, l, e0, s0, b0, r0⟩ := read_evs h0
  obtain ⟨i1, e1, _, w1⟩ := DataW.trod_int Try.underlying3 h1
  obtain ⟨i2, e2, _, w2⟩ := DataW.trod_int Try.underlying3 h2
  obtain ⟨i3, e3, _, w3⟩ := DataW.trod_int Try.underlying3 h3
  simp at e0 e1 e2 e3
  subst e0 e1 e2 e3
  exact ⟨⟨a, c, l, i1, i2, i3⟩, rfl, ⟨s0, wf64 w1, wf64 w2, wf64 w3⟩, r0⟩
/-- A ROW. -/
theorem read_row {r : Reach} {b0 : Nat} {v : Value} {d : DataW H} {p : List MemPlace} (hv : Value.okWide Try.prog w r b0 44 v) (h : DataW.Trod enc Try.prog w base spare held 44 v d p) :
    ∃ R : RowV, v = R.val ∧ RowR R := by
  obtain ⟨v0, v1, v2, v3, y0, y1, y2, y3, n, rfl, _, _, h0, h1, h2, h3⟩ := open_agg4 Try.underlying44 (by kernel_rfl) Try.cells44 hv h
  obtain ⟨i0, e0, _, w0⟩ := DataW.trod_int Try.underlying3 h0
  obtain ⟨i1, e1, _, w1⟩ := DataW.trod_int Try.underlying3 h1
  obtain ⟨i2, e2, _, w2⟩ := DataW.trod_int Try.underlying3 h2
  obtain ⟨i3, e3, _, w3⟩ := DataW.trod_int Try.underlying25 h3
  simp at e0 e1 e2 e3
  subst e0 e1 e2 e3
  exact ⟨⟨i0, i1, i2, i3⟩, rfl, ⟨wf64 w0, wf64 w1, wf64 w2, wfu64 w3⟩⟩
/-- ROWS THAT CAME IN. -/
theorem read_rows {v : Value} {d : DataW H} {p : List MemPlace} {r : Reach} {b0 : Nat} (hv : Value.okWide Try.prog w r b0 41 v) (h : DataW.Trod enc Try.prog w base spare held 41 v d p) :
    ∃ a c rs, v = .slice a rs.length c ∧ RowsAt w a rs := by
  obtain ⟨a0, len0, cap0, rfl⟩ := okWide_slice Try.underlying41 hv
  obtain ⟨f, hf⟩ := h
  obtain ⟨a, c, l, e0, s0, _, _⟩ := read_rowl hf
  simp [Value.cells] at e0
  obtain ⟨rfl, rfl, rfl⟩ := e0
  exact ⟨_, _, l, rfl, s0⟩
end
end Go.Proofs.Ytbhbebidkeejbaa
