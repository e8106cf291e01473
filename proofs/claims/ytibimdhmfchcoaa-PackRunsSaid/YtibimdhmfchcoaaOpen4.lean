/- Rows of bits that came in. -/
import Derived.Test.YtibimdhmfchcoaaOpen3
import Derived.Test.YtibimdhmfchcoaaBG
namespace Go.Proofs.Ytibimdhmfchcoaa
open Go.ChangeShapes Go.WideShapes Go.ChangeAt Go.RowKit Go.Joins Go.Deep
set_option maxRecDepth 100000

section
variable {H : Type} {enc : TypeId × Value → H} {w : World} {base : Nat} {spare : Nat → Bool} {held : Bool} {fuel : Nat}
theorem read_rows {v : Value} {d : DataW H} {p : List MemPlace} {r : Reach} {b0 : Nat} (hv : Value.okWide Try.prog w r b0 49 v) (h : DataW.Trod enc Try.prog w base spare held 49 v d p) :
    ∃ a c rs, v = .slice a rs.length c ∧ RowsAt w a rs := by
  obtain ⟨a0, len0, cap0, rfl⟩ := okWide_slice Try.underlying49 hv
  obtain ⟨f, hf⟩ := h
  rcases open_slice1 Try.underlying49 (by kernel_rfl) hf with ⟨e, _⟩ | ⟨a, len, cap, m, n, V, D, Pl, e, _, hl, hm, hmm, _, hx⟩
  · simp [Value.cells] at e
    obtain ⟨rfl, rfl, rfl⟩ := e
    exact ⟨none, 0, [], rfl, .inl rfl, fun i hi => by simp at hi, fun i hi => by simp at hi, by simp⟩
  · simp [Value.cells] at e
    obtain ⟨rfl, rfl, rfl⟩ := e
    have hle : len0 ≤ m := by rw [hmm]; split <;> omega
    have each : ∀ i, i < len0 → ∃ y : RowV, w.cell? (a.add i) = some (.slice y.a y.l.length y.c) ∧ Seq w y.a y.l.length (bools y.l) ∧ y.l.length ≤ 9223372036854775807 := by
      intro i hi
      obtain ⟨h0, t0⟩ := hx i (by omega)
      obtain ⟨ra, rc, rl, e0, s0, b0⟩ := read_boolc t0
      simp at e0
      exact ⟨⟨ra, rc, rl⟩, by rw [h0, e0], s0, b0⟩
    obtain ⟨F, hF⟩ := choose_lt each
    have hlen : ((List.range len0).map F).length = len0 := by simp
    have hget : ∀ k, k < len0 → ((List.range len0).map F).getD k default = F k := fun k hk => by simp [List.getD, hk]
    refine ⟨some a, cap0, (List.range len0).map F, by rw [hlen], ?_, fun i hi => ?_, fun i hi => ?_, by rw [hlen]; unfold maxLen at hm; omega⟩
    · rw [hlen]
      refine seq_of fun i hi => ?_
      unfold rowCell
      rw [hget i hi]
      exact (hF i hi).1
    · rw [hlen] at hi
      rw [hget i hi]
      exact (hF i hi).2.1
    · rw [hlen] at hi
      rw [hget i hi]
      exact (hF i hi).2.2
end
end Go.Proofs.Ytibimdhmfchcoaa
