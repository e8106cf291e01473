/- So many numbers from one on. -/
import Derived.Test.YtholafodachjnaaZ7
namespace Go.Proofs.Ytholafodachjnaa
open Go.RowKit Go.Shelf
set_option linter.unusedVariables false
set_option linter.unusedSimpArgs false

def fromL (f : Nat) (n : Nat) : List Int := (List.range n).map (fun i => ((f + i : Nat) : Int))
theorem fromL_len (f n : Nat) : (fromL f n).length = n := by unfold fromL; simp
theorem fromL_snoc (f n : Nat) : fromL f (n + 1) = fromL f n ++ [((f + n : Nat) : Int)] := by unfold fromL; rw [List.range_succ, List.map_append]; rfl

set_option maxRecDepth 100000 in
set_option maxHeartbeats 2000000 in
theorem from39 (w : World) (f n : Nat) (hf : f ≤ 10000) (hn : n ≤ 10000) : Calls Try.prog 39 #[.int .i64 f, .int .i64 n] w fun e w' => ∃ a c, e = .returned (.slice a n c) ∧ Seq w' a n (ints (fromL f n)) ∧ Below w.heap.size w w' := by
  obtain ⟨i3, hi, hz0, hz1, hz2⟩ := info_parts info3
  go_enter Try.func39, Try.ntmps39
  go_wp2_with fail
  go_loopw [5, 8] (fun v i wr => ∃ k : Nat, k ≤ n ∧ i = .int .i64 k ∧ Hid (Below w.heap.size w wr ∧ wr.ownsRow w.heap.size 3 1 v k ((fromL f k).map (Value.int .i64)))) (fun _ i _ => n - (intOf i).toNat)
  case atStart => exact ⟨0, by omega, rfl, Lib.hid ⟨Below.refl _ _, World.ownsRow_nil _ _ _ _⟩⟩
  case round =>
    obtain ⟨k, hk, rfl, hh⟩ := hrel
    by_cases hlt : k < n
    · have hsz := hh.out.1.size
      have hb1 : Below w.heap.size w (wr.alloc (.cells #[.int .i64 ((f : Int) + (k : Int))] 3)) := hh.out.1.alloc hsz _
      have HOw := Lib.hid (own_below hh.out.2 ((Below.refl wr.heap.size wr).alloc (Nat.le_refl _) (.cells #[.int .i64 ((f : Int) + (k : Int))] 3)))
      have HB1 := Lib.hid hb1
      have hnew : ∀ (j : Nat) (u : Value), [Value.int .i64 ((f : Int) + (k : Int))][j]? = some u → (wr.alloc (.cells #[.int .i64 ((f : Int) + (k : Int))] 3)).cell? (Addr.add ⟨wr.heap.size, 0, none⟩ j) = some u := by
        intro j u hj
        match j, hj with
        | 0, hj => simp at hj; subst hj; simp [Addr.add]
        | j + 1, hj => simp at hj
      have HNew := Lib.hid hnew
      have hs2 : w.heap.size ≤ (wr.alloc (.cells #[.int .i64 ((f : Int) + (k : Int))] 3)).heap.size := hb1.size
      have HS2 := Lib.hid hs2
      clear hb1 hnew hs2
      go_wp2_with (at_builtin; go_loud (refine wpList_append_own _ rfl _ _ 25 rfl w.heap.size 3 i3 (.int .i64 0) 1 8 Try.underlying25 hi hz0 hz1 hz2 rfl (by decide) _ _ _ rfl HOw.out ⟨wr.heap.size, 0, none⟩ 1 1 [.int .i64 ((f : Int) + (k : Int))] rfl rfl HNew.out (by intro u hu; simp at hu; subst hu; rfl) (by unfold maxLen; omega) (by omega) HS2.out ?_; intro v2 w2 ho2 hg2 hnil2))
      have hb2 : Below w.heap.size w w2 := HB1.out.grown hg2 HS2.out (fun q e => (HOw.out.lt q e).1)
      have ho3 : w2.ownsRow w.heap.size 3 1 v2 (k + 1) ((fromL f (k + 1)).map (Value.int .i64)) := by
        rw [fromL_snoc, List.map_append]
        have : (((f + k : Nat) : Int)) = (f : Int) + (k : Int) := by omega
        rw [this]; exact ho2
      have HF := Lib.hid (And.intro hb2 ho3)
      clear hb2 ho3 ho2 hg2 hnil2
      go_wp2_with fail
      go_roundw
      case rel => exact ⟨k + 1, by omega, by go_num, Lib.hid HF.out⟩
      case measure => simp [intOf]; omega
    · obtain rfl : k = n := by omega
      obtain ⟨a, c, rfl, hsq⟩ := owni_lat hh.out.2
      go_wp2_with fail
      go_ret
      exact ⟨a, c, rfl, hsq, hh.out.1⟩

set_option maxRecDepth 100000 in
set_option maxHeartbeats 2000000 in
theorem from40 (w : World) (f n : Nat) (hf : f ≤ 10000) (hn : n ≤ 10000) : Calls Try.prog 40 #[.int .i64 f, .int .i64 n] w fun e w' => ∃ a c, e = .returned (.slice a n c) ∧ Seq w' a n (ints (fromL f n)) ∧ Below w.heap.size w w' := by
  obtain ⟨i3, hi, hz0, hz1, hz2⟩ := info_parts info3
  go_enter Try.func40, Try.ntmps40
  go_wp2_with fail
  go_loopw [5, 6] (fun v i wr => ∃ k : Nat, k ≤ n ∧ i = .int .i64 k ∧ Hid (Below w.heap.size w wr ∧ wr.ownsRow w.heap.size 3 1 v k ((fromL f k).map (Value.int .i64)))) (fun _ i _ => n - (intOf i).toNat)
  case atStart => exact ⟨0, by omega, rfl, Lib.hid ⟨Below.refl _ _, World.ownsRow_nil _ _ _ _⟩⟩
  case round =>
    obtain ⟨k, hk, rfl, hh⟩ := hrel
    by_cases hlt : k < n
    · have hsz := hh.out.1.size
      have hb1 : Below w.heap.size w (wr.alloc (.cells #[.int .i64 ((f : Int) + (k : Int))] 3)) := hh.out.1.alloc hsz _
      have HOw := Lib.hid (own_below hh.out.2 ((Below.refl wr.heap.size wr).alloc (Nat.le_refl _) (.cells #[.int .i64 ((f : Int) + (k : Int))] 3)))
      have HB1 := Lib.hid hb1
      have hnew : ∀ (j : Nat) (u : Value), [Value.int .i64 ((f : Int) + (k : Int))][j]? = some u → (wr.alloc (.cells #[.int .i64 ((f : Int) + (k : Int))] 3)).cell? (Addr.add ⟨wr.heap.size, 0, none⟩ j) = some u := by
        intro j u hj
        match j, hj with
        | 0, hj => simp at hj; subst hj; simp [Addr.add]
        | j + 1, hj => simp at hj
      have HNew := Lib.hid hnew
      have hs2 : w.heap.size ≤ (wr.alloc (.cells #[.int .i64 ((f : Int) + (k : Int))] 3)).heap.size := hb1.size
      have HS2 := Lib.hid hs2
      clear hb1 hnew hs2
      go_wp2_with (at_builtin; go_loud (refine wpList_append_own _ rfl _ _ 25 rfl w.heap.size 3 i3 (.int .i64 0) 1 8 Try.underlying25 hi hz0 hz1 hz2 rfl (by decide) _ _ _ rfl HOw.out ⟨wr.heap.size, 0, none⟩ 1 1 [.int .i64 ((f : Int) + (k : Int))] rfl rfl HNew.out (by intro u hu; simp at hu; subst hu; rfl) (by unfold maxLen; omega) (by omega) HS2.out ?_; intro v2 w2 ho2 hg2 hnil2))
      have hb2 : Below w.heap.size w w2 := HB1.out.grown hg2 HS2.out (fun q e => (HOw.out.lt q e).1)
      have ho3 : w2.ownsRow w.heap.size 3 1 v2 (k + 1) ((fromL f (k + 1)).map (Value.int .i64)) := by
        rw [fromL_snoc, List.map_append]
        have : (((f + k : Nat) : Int)) = (f : Int) + (k : Int) := by omega
        rw [this]; exact ho2
      have HF := Lib.hid (And.intro hb2 ho3)
      clear hb2 ho3 ho2 hg2 hnil2
      go_wp2_with fail
      go_roundw
      case rel => exact ⟨k + 1, by omega, by go_num, Lib.hid HF.out⟩
      case measure => simp [intOf]; omega
    · obtain rfl : k = n := by omega
      obtain ⟨a, c, rfl, hsq⟩ := owni_lat hh.out.2
      go_wp2_with fail
      go_ret
      exact ⟨a, c, rfl, hsq, hh.out.1⟩
end Go.Proofs.Ytholafodachjnaa
