/- Small fabrics, blocks and spots: what it says. -/
import Derived.Test.YtholafodachjnaaZ36
import Derived.Test.YtholafodachjnaaZ12
import Derived.Test.YtholafodachjnaaZ23
import Derived.Test.YtholafodachjnaaLX
namespace Go.Proofs.Ytholafodachjnaa
open Go.RowKit Go.Shelf
set_option linter.unusedVariables false
set_option linter.unusedSimpArgs false

theorem fewA_ok {w : World} {a : ArchV} {P : PackV} {S : SpotV} (hP : PackAt w P) (h : fewA a P S = true) : FewP P ∧ FewS S := by
  unfold fewA fewB at h
  simp only [Bool.and_eq_true, decide_eq_true_eq] at h
  obtain ⟨h1, h2, ⟨h3, h4, h5⟩, h6, h7, h8⟩ := h
  exact ⟨⟨by omega, by omega, by omega, fun b hb => (hP.each b hb).2.2.2⟩, by omega, by omega, by omega⟩
end Go.Proofs.Ytholafodachjnaa
