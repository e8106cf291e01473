/- How the arguments' readings, as the row gives them, are the readings that the walks take. -/
import Derived.Test.YtibimdhmfchcoaaA2
import Derived.ProofKit
import Derived.OpenShut
import Derived.ShutString
import Derived.ChangeOld
import Derived.Lib.SmallJoins
import Derived.Deep.SlicePairs
namespace Go.Proofs.Ytibimdhmfchcoaa
open Go.ChangeShapes Go.WideShapes Go.ChangeAt Go.RowKit Go.Joins Go.Deep
set_option maxRecDepth 100000

section
variable {H : Type} {enc : TypeId × Value → H} {w : World} {base : Nat} {spare : Nat → Bool} {held : Bool} {fuel : Nat}

theorem wf64 {x : Int} (h : (Lit.int .i64 x).wf = true) : I64 x := by
  simp only [Lit.wf, Bool.and_eq_true, decide_eq_true_eq] at h
  exact h
theorem wfu64 {x : Int} (h : (Lit.int .u64 x).wf = true) : U64 x := by
  simp only [Lit.wf, Bool.and_eq_true, decide_eq_true_eq] at h
  exact h

theorem wfu8 {x : Int} (h : (Lit.int .u8 x).wf = true) : 0 ≤ x ∧ x ≤ 255 := by
  simp only [Lit.wf, Bool.and_eq_true, decide_eq_true_eq] at h
  exact h

theorem seq_of {a : Addr} {n : Nat} {f : Nat → Value} (h : ∀ i, i < n → w.cell? (a.add i) = some (f i)) : Seq w (some a) n f := by
  by_cases hn : n = 0
  · exact .inl hn
  · obtain ⟨b, off, spot⟩ := a
    have h0 := h 0 (by omega)
    have hs : spot = none := by simpa [Addr.add] using World.cell?_spot h0
    subst hs
    refine .inr ⟨b, off, rfl, fun i hi => ?_⟩
    have := h i hi
    rwa [Addr.add_lit] at this

theorem read_ints {cs : List Value} {x : DataW H × List MemPlace} (h : DataW.trod enc Try.prog w base spare held fuel 24 cs = some x) :
    ∃ a c l, cs = [.slice a l.length c] ∧ Seq w a l.length (ints l) ∧ (∀ x ∈ l, I64 x) ∧ l.length ≤ 9223372036854775807 := by
  rcases open_ints Try.underlying24 Try.underlying3 (by kernel_rfl) h with ⟨rfl, _⟩ | ⟨a, len, cap, zs, rfl, _, hl, hm, hz, _, hc, hw⟩
  · exact ⟨none, 0, [], rfl, .inl rfl, by simp, by simp⟩
  · have hle : len ≤ zs.length := by rw [hz]; split <;> omega
    have hlen : (zs.take len).length = len := by rw [List.length_take]; omega
    refine ⟨some a, cap, zs.take len, by rw [hlen], ?_, fun x hx => wf64 (hw x (List.mem_of_mem_take hx)), by rw [hlen]; unfold maxLen at hm; omega⟩
    rw [hlen]
    refine seq_of fun i hi => ?_
    rw [hc i (by omega)]
    simp [ints, List.getD, hi]

theorem read_holds {cs : List Value} {x : DataW H × List MemPlace} (h : DataW.trod enc Try.prog w base spare held fuel 22 cs = some x) :
    ∃ a c l, cs = [.slice a l.length c] ∧ Seq w a (2 * l.length) (holdCell l) ∧ (∀ x ∈ l, I64 x.d) ∧ l.length ≤ 9223372036854775807 := by
  rcases open_slice_pairs Try.underlying22 Try.underlying63 (by kernel_rfl) rfl rfl (by kernel_rfl) (by kernel_rfl) h with ⟨rfl, _⟩ | ⟨a, len, cap, m, n, V0, V1, D0, D1, P0, P1, rfl, _, hl, hm, hmm, _, hx⟩
  · exact ⟨none, 0, [], rfl, .inl rfl, by simp, by simp⟩
  · have hle : len ≤ m := by rw [hmm]; split <;> omega
    have each : ∀ i, i < len → ∃ v : HoldV, w.cell? (a.add (i * 2)) = some (.int .i64 v.d) ∧ w.cell? (a.add (i * 2 + 1)) = some (.bool v.init) ∧ I64 v.d := by
      intro i hi
      obtain ⟨h0, h1, t0, t1⟩ := hx i (by omega)
      obtain ⟨d, e0, _, wd⟩ := DataW.trod_int Try.underlying3 t0
      obtain ⟨b, e1, _⟩ := DataW.trod_bool Try.underlying4 t1
      simp at e0 e1
      exact ⟨⟨d, b⟩, by rw [h0, e0], by rw [h1, e1], wf64 wd⟩
    obtain ⟨F, hF⟩ := choose_lt each
    have hlen : ((List.range len).map F).length = len := by simp
    have hget : ∀ k, k < len → ((List.range len).map F).getD k default = F k := fun k hk => by simp [List.getD, hk]
    refine ⟨some a, cap, (List.range len).map F, by rw [hlen], ?_, fun x hx => ?_, by rw [hlen]; unfold maxLen at hm; omega⟩
    · rw [hlen]
      refine seq_of fun i hi => ?_
      have hk : i / 2 < len := by omega
      simp only [holdCell, hget _ hk]
      by_cases hp : i % 2 = 0
      · rw [if_pos hp, show i = i / 2 * 2 by omega, (hF (i / 2) hk).1, show i / 2 * 2 / 2 = i / 2 by omega]
      · rw [if_neg hp, show i = i / 2 * 2 + 1 by omega, (hF (i / 2) hk).2.1, show (i / 2 * 2 + 1) / 2 = i / 2 by omega]
    · obtain ⟨k, hk, rfl⟩ := List.mem_map.1 hx
      exact (hF k (List.mem_range.1 hk)).2.2

theorem read_luts {cs : List Value} {x : DataW H × List MemPlace} (h : DataW.trod enc Try.prog w base spare held fuel 23 cs = some x) :
    ∃ (a : Option Addr) (c : Nat) (ll : List LutV), cs = [.slice a ll.length c] ∧ Seq w a (2 * ll.length) (lutCell ll) ∧ (∀ l ∈ ll, Seq w l.a l.ins.length (ints l.ins) ∧ U64 l.tab ∧ (∀ x ∈ l.ins, I64 x) ∧ l.ins.length ≤ 9223372036854775807) ∧ ll.length ≤ 9223372036854775807 := by
  rcases open_slice_pairs Try.underlying23 Try.underlying41 (by kernel_rfl) rfl rfl (by kernel_rfl) (by kernel_rfl) h with ⟨rfl, _⟩ | ⟨a, len, cap, m, n, V0, V1, D0, D1, P0, P1, rfl, _, hl, hm, hmm, _, hx⟩
  · exact ⟨none, 0, [], rfl, .inl rfl, by simp, by simp⟩
  · have hle : len ≤ m := by rw [hmm]; split <;> omega
    have each : ∀ i, i < len → ∃ v : LutV, w.cell? (a.add (i * 2)) = some (.slice v.a v.ins.length v.c) ∧ w.cell? (a.add (i * 2 + 1)) = some (.int .u64 v.tab) ∧ Seq w v.a v.ins.length (ints v.ins) ∧ U64 v.tab ∧ (∀ x ∈ v.ins, I64 x) ∧ v.ins.length ≤ 9223372036854775807 := by
      intro i hi
      obtain ⟨h0, h1, t0, t1⟩ := hx i (by omega)
      obtain ⟨la, lc, ll, e0, s0, r0, b0⟩ := read_ints t0
      obtain ⟨u, e1, _, wu⟩ := DataW.trod_int Try.underlying39 t1
      simp at e0 e1
      exact ⟨⟨la, lc, ll, u⟩, by rw [h0, e0], by rw [h1, e1], s0, wfu64 wu, r0, b0⟩
    obtain ⟨F, hF⟩ := choose_lt each
    have hlen : ((List.range len).map F).length = len := by simp
    have hget : ∀ k, k < len → ((List.range len).map F).getD k default = F k := fun k hk => by simp [List.getD, hk]
    refine ⟨some a, cap, (List.range len).map F, by rw [hlen], ?_, fun x hx => ?_, by rw [hlen]; unfold maxLen at hm; omega⟩
    · rw [hlen]
      refine seq_of fun i hi => ?_
      have hk : i / 2 < len := by omega
      simp only [lutCell, hget _ hk]
      by_cases hp : i % 2 = 0
      · rw [if_pos hp, show i = i / 2 * 2 by omega, (hF (i / 2) hk).1, show i / 2 * 2 / 2 = i / 2 by omega]
      · rw [if_neg hp, show i = i / 2 * 2 + 1 by omega, (hF (i / 2) hk).2.1, show (i / 2 * 2 + 1) / 2 = i / 2 by omega]
    · obtain ⟨k, hk, rfl⟩ := List.mem_map.1 hx
      exact (hF k (List.mem_range.1 hk)).2.2

theorem Try.cells25 : Try.prog.cellsOf 26 = 4 := by kernel_rfl

theorem read_boolc {cs : List Value} {x : DataW H × List MemPlace} (h : DataW.trod enc Try.prog w base spare held fuel 37 cs = some x) :
    ∃ (a : Option Addr) (c : Nat) (l : List Bool), cs = [.slice a l.length c] ∧ Seq w a l.length (bools l) ∧ l.length ≤ 9223372036854775807 := by
  rcases open_slice1 Try.underlying37 (by kernel_rfl) h with ⟨rfl, _⟩ | ⟨a, len, cap, m, n, V, D, Pl, rfl, _, hl, hm, hmm, _, hx⟩
  · exact ⟨none, 0, [], rfl, .inl rfl, by simp⟩
  · have hle : len ≤ m := by rw [hmm]; split <;> omega
    have each : ∀ i, i < len → ∃ b : Bool, w.cell? (a.add i) = some (.bool b) := by
      intro i hi
      obtain ⟨h0, t0⟩ := hx i (by omega)
      obtain ⟨b, e0, _⟩ := DataW.trod_bool Try.underlying4 t0
      simp at e0
      exact ⟨b, by rw [h0, e0]⟩
    obtain ⟨F, hF⟩ := choose_lt each
    have hlen : ((List.range len).map F).length = len := by simp
    refine ⟨some a, cap, (List.range len).map F, by rw [hlen], ?_, by rw [hlen]; unfold maxLen at hm; omega⟩
    rw [hlen]
    refine seq_of fun i hi => ?_
    rw [hF i hi]
    simp [bools, List.getD, hi]

/-- A LIST OF BITS THAT CAME IN. -/
theorem read_bools {v : Value} {d : DataW H} {p : List MemPlace} {r : Reach} {b0 : Nat} (hv : Value.okWide Try.prog w r b0 37 v) (h : DataW.Trod enc Try.prog w base spare held 37 v d p) :
    ∃ a c l, v = .slice a l.length c ∧ Seq w a l.length (bools l) ∧ l.length ≤ 9223372036854775807 := by
  obtain ⟨a0, len0, cap0, rfl⟩ := okWide_slice Try.underlying37 hv
  obtain ⟨f, hf⟩ := h
  obtain ⟨a, c, l, e, s, b⟩ := read_boolc hf
  simp [Value.cells] at e
  obtain ⟨rfl, rfl, rfl⟩ := e
  exact ⟨_, _, l, rfl, s, b⟩

/-- A NET THAT CAME IN. -/
theorem read_net {r : Reach} {b0 : Nat} {v : Value} {d : DataW H} {p : List MemPlace} (hv : Value.okWide Try.prog w r b0 26 v) (h : DataW.Trod enc Try.prog w base spare held 26 v d p) :
    ∃ N : NetV, v = N.val ∧ NetAt w N := by
  obtain ⟨v0, v1, v2, v3, y0, y1, y2, y3, n, rfl, _, _, h0, h1, h2, h3⟩ := open_agg4 Try.underlying26 (by kernel_rfl) Try.cells25 hv h
  obtain ⟨i, e0, _, wi⟩ := DataW.trod_int Try.underlying3 h0
  obtain ⟨ha, hc, hl, e1, s1, r1, b1⟩ := read_holds h1
  obtain ⟨la, lc, ll, e2, s2, r2, b2⟩ := read_luts h2
  obtain ⟨oa, oc, ol, e3, s3, r3, b3⟩ := read_ints h3
  simp at e0 e1 e2 e3
  subst e0 e1 e2 e3
  exact ⟨⟨i, ha, hc, hl, la, lc, ll, oa, oc, ol⟩, rfl, wf64 wi, s1, s2, s3, r2, r1, r3, b1, b2, b3⟩

/-- A LIST OF NUMBERS THAT CAME IN. -/
theorem read_list {v : Value} {d : DataW H} {p : List MemPlace} {r : Reach} {b0 : Nat} (hv : Value.okWide Try.prog w r b0 24 v) (h : DataW.Trod enc Try.prog w base spare held 24 v d p) :
    ∃ a c l, v = .slice a l.length c ∧ Seq w a l.length (ints l) ∧ (∀ x ∈ l, I64 x) ∧ l.length ≤ 9223372036854775807 := by
  obtain ⟨a0, len0, cap0, rfl⟩ := okWide_slice Try.underlying24 hv
  obtain ⟨f, hf⟩ := h
  obtain ⟨a, c, l, e, s, r, b⟩ := read_ints hf
  simp [Value.cells] at e
  obtain ⟨rfl, rfl, rfl⟩ := e
  exact ⟨_, _, l, rfl, s, r, b⟩
end
end Go.Proofs.Ytibimdhmfchcoaa
