import Derived.Test.YtkcilpkcjhnkaaaT18
namespace Go.Proofs.Ytkcilpkcjhnkaaa
open Go.RowKit
set_option linter.unusedVariables false

/-- A list of bools as it lies. -/
structure PartV where
  a : Option Addr
  c : Nat
  l : List Bool

instance : Inhabited PartV := ⟨⟨none, 0, []⟩⟩

def Parts (w : World) (b : Nat) (ps : List PartV) : Prop :=
  ∀ i, i < ps.length → w.cell? ⟨b, i, none⟩ = some (.slice (ps.getD i default).a (ps.getD i default).l.length (ps.getD i default).c) ∧ Seq w (ps.getD i default).a (ps.getD i default).l.length (bools (ps.getD i default).l) ∧ (ps.getD i default).l.length ≤ 1000

theorem Parts.below {w w' : World} {b : Nat} {ps : List PartV} (h : Parts w b ps) (hb : Below w.heap.size w w') : Parts w' b ps :=
  fun i hi => ⟨(hb.cell (World.block_lt_of_cell? w _ (h i hi).1)).trans (h i hi).1, (h i hi).2.1.below hb (Nat.le_refl _), (h i hi).2.2⟩

def flatTo (ps : List PartV) : Nat → List Bool
  | 0 => []
  | i + 1 => flatTo ps i ++ (ps.getD i default).l

theorem flatTo_le (ps : List PartV) (h : ∀ i, i < ps.length → (ps.getD i default).l.length ≤ 1000) : ∀ i, i ≤ ps.length → (flatTo ps i).length ≤ 1000 * i
  | 0, _ => by simp [flatTo]
  | i + 1, hi => by
    have := flatTo_le ps h i (by omega)
    have := h i (by omega)
    simp only [flatTo, List.length_append]; omega

set_option maxHeartbeats 1000000 in
theorem concat (w : World) (b c n : Nat) (ps : List PartV) (hn : ps.length = n) (h10 : n ≤ 10) (P : Parts w b ps) :
    Calls Try.prog 43 #[.slice (some ⟨b, 0, none⟩) n c] w (NewBools w (flatTo ps n)) := by
  have hfl := flatTo_le ps (fun i hi => (P i hi).2.2)
  have HP := Lib.hid P
  have HN := Lib.hid hn
  have HFl := Lib.hid hfl
  clear hfl hn
  obtain ⟨i0, hi, hz0, hz1, hz2⟩ := info_parts info4
  clear P
  go_enter Try.func43, Try.ntmps43
  go_wp2
  go_loop [3, 11] (fun s i => ∃ j : Nat, j ≤ n ∧ i = .int .i64 j ∧ s = .int .i64 ((flatTo ps j).length : Nat)) (fun _ i => n - (intOf i).toNat)
  case atStart => exact ⟨0, by omega, rfl, rfl⟩
  case round =>
    obtain ⟨j, hj, rfl, rfl⟩ := hrel
    have hs := HFl.out j (by rw [HN.out]; exact hj)
    by_cases hlt : j < n
    · obtain ⟨d0, _, hl⟩ := HP.out j (by rw [HN.out]; exact hlt)
      have hs1 : (flatTo ps (j + 1)).length = (flatTo ps j).length + (ps.getD j default).l.length := by simp [flatTo]
      obtain ⟨s, hs0⟩ : ∃ s, s = (flatTo ps j).length := ⟨_, rfl⟩
      obtain ⟨p, hp⟩ : ∃ p, p = ps.getD j default := ⟨_, rfl⟩
      rw [← hp] at d0 hl hs1
      rw [← hs0] at hs hs1 ⊢
      have HS1 := Lib.hid hs1
      obtain ⟨pa, pc, pl⟩ := p
      dsimp only at d0 hl HS1
      clear hp hs0 hs1
      obtain ⟨m, hm⟩ : ∃ m, m = pl.length := ⟨_, rfl⟩
      rw [← hm] at d0 hl HS1
      clear hm
      go_wp2
      go_round
      case rel => exact ⟨j + 1, by omega, by go_num, by rw [HS1.out]; go_num⟩
      case measure => simp [intOf]; omega
    · obtain rfl : j = n := by omega
      obtain ⟨s, hs0⟩ : ∃ s, s = (flatTo ps j).length := ⟨_, rfl⟩
      rw [← hs0] at hs ⊢
      clear hs0
      go_wp2_with fail
      refine (growNil w s (by omega)).mono ?_
      rintro e w1 ⟨v, rfl, hown, hb1⟩
      have HOwn := Lib.hid hown
      have HP1 := Lib.hid (HP.out.below hb1)
      have HB1 := Lib.hid hb1
      clear hown hb1
      go_wp2
      go_loopw [6, 27] (fun v i wr => ∃ k : Nat, k ≤ j ∧ i = .int .i64 k ∧ Hid (Below w.heap.size w wr ∧ wr.ownsRow w.heap.size 4 1 v (flatTo ps k).length ((flatTo ps k).map Value.bool))) (fun _ i _ => j - (intOf i).toNat)
      case atStart => exact ⟨0, by omega, rfl, HB1.out, HOwn.out⟩
      case round =>
        obtain ⟨k, hk, rfl, hh⟩ := hrel
        by_cases hlk : k < j
        · have hs1 := HFl.out (k + 1) (by rw [HN.out]; omega)
          obtain ⟨d00, hS0, _⟩ := HP.out k (by rw [HN.out]; exact hlk)
          have d0 := (hh.out.1.cell (World.block_lt_of_cell? w _ d00)).trans d00
          have hS := hS0.below hh.out.1 (Nat.le_refl _)
          have hlen : (flatTo ps (k + 1)) = (flatTo ps k) ++ (ps.getD k default).l := rfl
          rw [hlen, List.length_append] at hs1
          obtain ⟨p, hp⟩ : ∃ p, p = ps.getD k default := ⟨_, rfl⟩
          rw [← hp] at d0 hS hs1 hlen
          have HLen := Lib.hid hlen
          obtain ⟨pa, pc, pl⟩ := p
          dsimp only at d0 hS HLen hs1
          have HS := Lib.hid hS
          have hsz := hh.out.1.size
          clear hp hlen hS hS0 d00
          go_wp2_with (at_builtin; refine wpList_append_seq rfl _ _ 39 rfl w.heap.size 4 i0 (.bool false) 1 Try.underlying39 hi hz0 hz1 hz2 rfl _ _ _ rfl hh.out.2 pa pl.length pc (pl.map Value.bool) (bools pl) rfl (List.length_map _) HS.out (bools_get pl) (bools_one pl) (by unfold maxLen; omega) (by omega) hsz ?_)
          intro v' w2 hown2 hgrow2
          have hb2 := hh.out.1.grown hgrow2 hsz (fun q e => (hh.out.2.lt q e).1)
          have HB2 := Lib.hid hb2
          have HOwn2 := Lib.hid hown2
          clear hb2 hown2 hgrow2
          go_wp2
          go_roundw
          case rel => exact ⟨k + 1, by omega, by go_num, HB2.out, by rw [HLen.out, List.length_append, List.map_append]; exact HOwn2.out⟩
          case measure => simp [intOf]; omega
        · obtain rfl : k = j := by omega
          go_wp2
          go_ret
          exact ⟨_, rfl, hh.out.2, hh.out.1⟩
end Go.Proofs.Ytkcilpkcjhnkaaa
