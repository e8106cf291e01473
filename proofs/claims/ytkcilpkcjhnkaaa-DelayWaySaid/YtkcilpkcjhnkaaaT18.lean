import Derived.Test.YtkcilpkcjhnkaaaT17
import Derived.Lib.AppendZerosOnto
import Derived.Lib.SliceRun
namespace Go.Proofs.Ytkcilpkcjhnkaaa
open Go.RowKit
set_option linter.unusedVariables false

/-- A new list of bools. -/
def NewBools (w : World) (l : List Bool) (e : Ending) (w' : World) : Prop :=
  ∃ v, e = .returned v ∧ w'.ownsRow w.heap.size 4 1 v l.length (l.map Value.bool) ∧ Below w.heap.size w w'

/-- slices.Grow of nothing. -/
theorem growNil (w : World) (n : Nat) (hn : n ≤ 100000) :
    Calls Try.prog 64 #[.slice none 0 0, .int .i64 n] w (NewBools w []) := by
  by_cases h0 : n = 0
  · subst h0
    go_enter Try.func64, Try.ntmps64
    go_wp2
    go_ret
    exact ⟨_, rfl, World.ownsRow_nil _ _ _ _, Below.refl _ _⟩
  · obtain ⟨i0, hi, hz0, hz1, hz2⟩ := info_parts info4
    have hold : (Builtin.firstCells i0.size 0 (.slice none 0 0)).run Try.prog w.drew = .ok ([] : List Value).toArray w.drew := run_firstCells_none w.drew i0.size 0 0 0
    have hrz : ∀ ty, (Builtin.append_ #[39, 3] ty #[.slice none 0 0, .int .i64 (n : Int)]).run Try.prog w =
        .ok (.slice (some ⟨w.heap.size, 0, none⟩) n (grownCap w n 0 4)) (w.drew.alloc (.cells (([] : List Value).toArray ++ Builtin.zeroCells (Value.bool false).cells n ++ Builtin.zeroCells (Value.bool false).cells (grownCap w n 0 4 - n)) 4)) := fun ty => by
      have h := Lib.run_append_grow_zeros w 39 3 ty 4 i0 (.bool false) .i64 .i64 Try.underlying39 Try.underlying3 hi hz0 none 0 0 [] hold n (by omega) (by omega) (by omega) (by omega) (by rw [hz2]; omega) (by rw [Nat.zero_add, hz2]; exact growslice_fits (by omega) (by omega))
      rw [Nat.zero_add] at h
      exact h
    have hGn : n ≤ grownCap w n 0 4 := grownCap_ge w _ _ _
    have hG63 : grownCap w n 0 4 ≤ maxLen := grownCap_le_maxLen w n 0 4 (by unfold maxLen; omega)
    have hG63' : grownCap w n 0 4 ≤ 9223372036854775807 := by unfold maxLen at hG63; omega
    obtain ⟨G, hG⟩ : ∃ G, G = grownCap w n 0 4 := ⟨_, rfl⟩
    rw [← hG] at hrz hGn hG63 hG63'
    clear hold hG
    obtain ⟨cs, hcs⟩ : ∃ cs, cs = ([] : List Value).toArray ++ Builtin.zeroCells (Value.bool false).cells n ++ Builtin.zeroCells (Value.bool false).cells (G - n) := ⟨_, rfl⟩
    rw [← hcs] at hrz
    have hsz : cs.size = G := by rw [hcs]; simp [Builtin.zeroCells, Value.cells]; omega
    clear hcs
    go_enter Try.func64, Try.ntmps64
    go_wp2_with (at_builtin; refine Lib.wpList_append_run _ rfl _ _ _ _ rfl _ _ rfl rfl _ _ (hrz _) ?_)
    go_ret
    refine ⟨_, rfl, ⟨by simp, .inr ⟨w.heap.size, G, cs, rfl, Nat.le_refl _, ?_, Nat.zero_le _, hG63, by rw [hsz, Nat.mul_one], by simp⟩⟩, ((Below.refl _ _).drew).alloc (Nat.le_refl _) _⟩
    exact heap_alloc_new w.drew _
end Go.Proofs.Ytkcilpkcjhnkaaa
