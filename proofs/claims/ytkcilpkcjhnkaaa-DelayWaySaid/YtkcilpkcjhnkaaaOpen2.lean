import Derived.Test.YtkcilpkcjhnkaaaOpen
namespace Go.Proofs.Ytkcilpkcjhnkaaa
open Go.ChangeShapes Go.WideShapes Go.ChangeAt Go.RowKit Go.Joins Go.Deep
set_option linter.unusedVariables false
section
variable {H : Type} {enc : TypeId × Value → H} {w : World} {base : Nat} {spare : Nat → Bool} {held : Bool} {fuel : Nat}
theorem read_boolc2 {cs : List Value} {x : DataW H × List MemPlace} (h : DataW.trod enc Try.prog w base spare held fuel 39 cs = some x) :
    ∃ (a : Option Addr) (c : Nat) (l : List Bool), cs = [.slice a l.length c] ∧ Seq w a l.length (bools l) ∧ l.length ≤ c ∧ c ≤ 9223372036854775807 := by
  rcases open_slice1 Try.underlying39 (by kernel_rfl) h with ⟨rfl, _⟩ | ⟨a, len, cap, m, n, V, D, Pl, rfl, _, hl, hm, hmm, _, hx⟩
  · exact ⟨none, 0, [], rfl, .inl rfl, by simp, by simp⟩
  · have hle : len ≤ m := by rw [hmm]; split <;> omega
    have each : ∀ i, i < len → ∃ b : Bool, w.cell? (a.add i) = some (.bool b) := by
      intro i hi
      obtain ⟨h0, t0⟩ := hx i (by omega)
      obtain ⟨b, e0, _⟩ := DataW.trod_bool Try.underlying4 t0
      simp at e0
      exact ⟨b, by rw [h0, e0]⟩
    obtain ⟨F, hF⟩ := choose_lt each
    have hlen : ((List.range len).map F).length = len := by simp
    refine ⟨some a, cap, (List.range len).map F, by rw [hlen], ?_, by rw [hlen]; exact hl, by unfold maxLen at hm; omega⟩
    rw [hlen]
    refine seq_of fun i hi => ?_
    rw [hF i hi]
    simp [bools, List.getD, hi]

theorem read_bools2 {v : Value} {d : DataW H} {p : List MemPlace} {r : Reach} {b0 : Nat} (hv : Value.okWide Try.prog w r b0 39 v) (h : DataW.Trod enc Try.prog w base spare held 39 v d p) :
    ∃ a c l, v = .slice a l.length c ∧ Seq w a l.length (bools l) ∧ l.length ≤ c ∧ c ≤ 9223372036854775807 := by
  obtain ⟨a0, len0, cap0, rfl⟩ := okWide_slice Try.underlying39 hv
  obtain ⟨f, hf⟩ := h
  obtain ⟨a, c, l, e, s, b⟩ := read_boolc2 hf
  simp [Value.cells] at e
  obtain ⟨rfl, rfl, rfl⟩ := e
  exact ⟨_, _, l, rfl, s, b⟩
end
end Go.Proofs.Ytkcilpkcjhnkaaa
