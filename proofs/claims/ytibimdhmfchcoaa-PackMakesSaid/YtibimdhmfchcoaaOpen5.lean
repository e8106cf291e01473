/- A net that came in, with its tables' room. -/
import Derived.Test.YtibimdhmfchcoaaOpen
namespace Go.Proofs.Ytibimdhmfchcoaa
open Go.ChangeShapes Go.WideShapes Go.ChangeAt Go.RowKit Go.Joins Go.Deep
set_option maxRecDepth 100000
section
variable {H : Type} {enc : TypeId × Value → H} {w : World} {base : Nat} {spare : Nat → Bool} {held : Bool} {fuel : Nat}
theorem read_intc {cs : List Value} {x : DataW H × List MemPlace} (h : DataW.trod enc Try.prog w base spare held fuel 24 cs = some x) :
    ∃ a c l, cs = [.slice a l.length c] ∧ Seq w a l.length (ints l) ∧ (∀ x ∈ l, I64 x) ∧ l.length ≤ 9223372036854775807 ∧ l.length ≤ c := by
  rcases open_ints Try.underlying24 Try.underlying3 (by kernel_rfl) h with ⟨rfl, _⟩ | ⟨a, len, cap, zs, rfl, _, hl, hm, hz, _, hc, hw⟩
  · exact ⟨none, 0, [], rfl, .inl rfl, by simp, by simp, by simp⟩
  · have hle : len ≤ zs.length := by rw [hz]; split <;> omega
    have hlen : (zs.take len).length = len := by rw [List.length_take]; omega
    refine ⟨some a, cap, zs.take len, by rw [hlen], ?_, fun x hx => wf64 (hw x (List.mem_of_mem_take hx)), by rw [hlen]; unfold maxLen at hm; omega, by rw [hlen]; exact hl⟩
    rw [hlen]
    refine seq_of fun i hi => ?_
    rw [hc i (by omega)]
    simp [ints, List.getD, hi]

theorem read_lutc {cs : List Value} {x : DataW H × List MemPlace} (h : DataW.trod enc Try.prog w base spare held fuel 23 cs = some x) :
    ∃ (a : Option Addr) (c : Nat) (ll : List LutV), cs = [.slice a ll.length c] ∧ Seq w a (2 * ll.length) (lutCell ll) ∧ (∀ l ∈ ll, Seq w l.a l.ins.length (ints l.ins) ∧ U64 l.tab ∧ (∀ x ∈ l.ins, I64 x) ∧ l.ins.length ≤ 9223372036854775807 ∧ l.ins.length ≤ l.c) ∧ ll.length ≤ 9223372036854775807 := by
  rcases open_slice_pairs Try.underlying23 Try.underlying41 (by kernel_rfl) rfl rfl (by kernel_rfl) (by kernel_rfl) h with ⟨rfl, _⟩ | ⟨a, len, cap, m, n, V0, V1, D0, D1, P0, P1, rfl, _, hl, hm, hmm, _, hx⟩
  · exact ⟨none, 0, [], rfl, .inl rfl, by simp, by simp⟩
  · have hle : len ≤ m := by rw [hmm]; split <;> omega
    have each : ∀ i, i < len → ∃ v : LutV, w.cell? (a.add (i * 2)) = some (.slice v.a v.ins.length v.c) ∧ w.cell? (a.add (i * 2 + 1)) = some (.int .u64 v.tab) ∧ Seq w v.a v.ins.length (ints v.ins) ∧ U64 v.tab ∧ (∀ x ∈ v.ins, I64 x) ∧ v.ins.length ≤ 9223372036854775807 ∧ v.ins.length ≤ v.c := by
      intro i hi
      obtain ⟨h0, h1, t0, t1⟩ := hx i (by omega)
      obtain ⟨la, lc, ll, e0, s0, r0, b0, c0⟩ := read_intc t0
      obtain ⟨u, e1, _, wu⟩ := DataW.trod_int Try.underlying39 t1
      simp at e0 e1
      exact ⟨⟨la, lc, ll, u⟩, by rw [h0, e0], by rw [h1, e1], s0, wfu64 wu, r0, b0, c0⟩
    obtain ⟨F, hF⟩ := choose_lt each
    have hlen : ((List.range len).map F).length = len := by simp
    have hget : ∀ k, k < len → ((List.range len).map F).getD k default = F k := fun k hk => by simp [List.getD, hk]
    refine ⟨some a, cap, (List.range len).map F, by rw [hlen], ?_, fun x hx => ?_, by rw [hlen]; unfold maxLen at hm; omega⟩
    · rw [hlen]
      refine seq_of fun i hi => ?_
      have hk : i / 2 < len := by omega
      simp only [lutCell, hget _ hk]
      by_cases hp : i % 2 = 0
      · rw [if_pos hp, show i = i / 2 * 2 by omega, (hF (i / 2) hk).1, show i / 2 * 2 / 2 = i / 2 by omega]
      · rw [if_neg hp, show i = i / 2 * 2 + 1 by omega, (hF (i / 2) hk).2.1, show (i / 2 * 2 + 1) / 2 = i / 2 by omega]
    · obtain ⟨k, hk, rfl⟩ := List.mem_map.1 hx
      exact (hF k (List.mem_range.1 hk)).2.2

theorem read_netc {r : Reach} {b0 : Nat} {v : Value} {d : DataW H} {p : List MemPlace} (hv : Value.okWide Try.prog w r b0 26 v) (h : DataW.Trod enc Try.prog w base spare held 26 v d p) :
    ∃ N : NetV, v = N.val ∧ NetAt w N ∧ ∀ l ∈ N.luts, l.ins.length ≤ l.c := by
  obtain ⟨v0, v1, v2, v3, y0, y1, y2, y3, n, rfl, _, _, h0, h1, h2, h3⟩ := open_agg4 Try.underlying26 (by kernel_rfl) Try.cells25 hv h
  obtain ⟨i, e0, _, wi⟩ := DataW.trod_int Try.underlying3 h0
  obtain ⟨ha, hc, hl, e1, s1, r1, b1⟩ := read_holds h1
  obtain ⟨la, lc, ll, e2, s2, r2, b2⟩ := read_lutc h2
  obtain ⟨oa, oc, ol, e3, s3, r3, b3⟩ := read_ints h3
  simp at e0 e1 e2 e3
  subst e0 e1 e2 e3
  exact ⟨⟨i, ha, hc, hl, la, lc, ll, oa, oc, ol⟩, rfl, ⟨wf64 wi, s1, s2, s3, fun l hl => ⟨(r2 l hl).1, (r2 l hl).2.1, (r2 l hl).2.2.1, (r2 l hl).2.2.2.1⟩, r1, r3, b1, b2, b3⟩, fun l hl => (r2 l hl).2.2.2.2⟩

end
end Go.Proofs.Ytibimdhmfchcoaa
