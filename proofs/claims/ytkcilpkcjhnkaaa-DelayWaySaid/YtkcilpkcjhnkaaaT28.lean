import Derived.Test.YtkcilpkcjhnkaaaT27
import Derived.Test.YtkcilpkcjhnkaaaT20
namespace Go.Proofs.Ytkcilpkcjhnkaaa
open Go.RowKit
set_option linter.unusedVariables false
set_option linter.unusedSimpArgs false

theorem Seq.one {w : World} {v : Value} {t : TypeId} {f : Nat → Value} (hf : f 0 = v) : Seq (w.alloc (Obj.cells #[v] t)) (some ⟨w.heap.size, 0, none⟩) 1 f :=
  .inr ⟨w.heap.size, 0, rfl, fun j hj => by obtain rfl : j = 0 := by omega
                                            rw [hf]; simp⟩

def pickB (v : List Bool) (ins : List Int) : List Bool := ins.map fun x => v.getD x.toNat false

set_option maxRecDepth 100000 in
set_option maxHeartbeats 1000000 in
theorem pickBools (w : World) (a : Option Addr) (n c : Nat) (v : List Bool) (S : Seq w a n (bools v)) (hn : n ≤ 100000) (b : Option Addr) (m d : Nat) (ins : List Int) (hlen : ins.length = m) (hm : m ≤ 1000) (T : Seq w b m (ints ins))
    (hin : ∀ x ∈ ins, 0 ≤ x ∧ x < n) : Calls Try.prog 69 #[.slice a n c, .slice b m d] w (NewBools w (pickB v ins)) := by
  have HS := Lib.hid S
  have HT := Lib.hid T
  have HIn := Lib.hid hin
  have HLen := Lib.hid hlen
  obtain ⟨i0, hi, hz0, hz1, hz2⟩ := info_parts info4
  clear S T hin hlen
  go_enter Try.func69, Try.ntmps69
  go_wp2
  go_loopw [5, 10] (fun r i wr => ∃ k : Nat, k ≤ m ∧ i = .int .i64 k ∧ Hid (Below w.heap.size w wr ∧ wr.ownsRow w.heap.size 4 1 r k ((pickB v (ins.take k)).map Value.bool))) (fun _ i _ => m - (intOf i).toNat)
  case atStart => exact ⟨0, by omega, rfl, Below.refl _ _, by simpa [pickB] using World.ownsRow_nil _ _ _ _⟩
  case round =>
    obtain ⟨k, hk, rfl, hh⟩ := hrel
    by_cases hlt : k < m
    · obtain ⟨b', off', rfl, hbb', hcl⟩ := (HT.out.below hh.out.1 (Nat.le_refl _)).at k hlt
      have y0 := hcl k hlt
      unfold ints at y0
      have hx := HIn.out _ (getD_mem ins 0 (by rw [HLen.out]; exact hlt))
      obtain ⟨xn, hxn⟩ := Int.eq_ofNat_of_zero_le hx.1
      have hst : pickB v (ins.take (k + 1)) = pickB v (ins.take k) ++ [v.getD xn false] := by
        have hk' : k < ins.length := by rw [HLen.out]; exact hlt
        rw [List.take_succ_eq_append_getElem hk', pickB, List.map_append, pickB]
        have e : ins[k] = (xn : Int) := by rw [← hxn]; simp [List.getD, hk']
        simp [e]
      rw [hxn] at y0 hx
      have hxlt : xn < n := by omega
      have hxi : (xn : Int) < n := by omega
      obtain ⟨b2, off2, rfl, hbb2, hcc⟩ := (HS.out.below hh.out.1 (Nat.le_refl _)).at xn hxlt
      have y1 := hcc xn hxlt
      unfold bools at y1
      obtain ⟨y, hy⟩ : ∃ y, y = v.getD xn false := ⟨_, rfl⟩
      rw [← hy] at y1 hst
      have HSt := Lib.hid hst
      have hsz := hh.out.1.size
      clear hcl hcc hst hy hx hxn
      go_wp2_with (at_builtin; refine wpList_append_seq rfl _ _ 39 rfl w.heap.size 4 i0 (.bool false) 1 Try.underlying39 hi hz0 hz1 hz2 rfl _ _ _ rfl (hh.out.2.alloc _) (some ⟨wr.heap.size, 0, none⟩) 1 1 [.bool y] (fun _ => .bool y) rfl rfl ?_ ?_ ?_ ?_ ?_ ?_ ?_)
      · exact Seq.one rfl
      · intro j hj
        obtain rfl : j = 0 := by omega
        rfl
      · simp [Value.oneCell']
      · unfold maxLen; omega
      · omega
      · simp; omega
      intro v' w2 hown2 hgrow2
      have hb2 := (hh.out.1.alloc hsz (Obj.cells #[.bool y] 4)).grown hgrow2 (by simp; omega) (fun q e => (hh.out.2.lt q e).1)
      have HB2 := Lib.hid hb2
      have HOwn2 := Lib.hid hown2
      clear hb2 hown2 hgrow2
      go_wp2
      go_roundw
      case rel => exact ⟨k + 1, by omega, by go_num, HB2.out, by rw [HSt.out, List.map_append]; exact HOwn2.out⟩
      case measure => simp [intOf]; omega
    · obtain rfl : k = m := by omega
      go_wp2
      go_ret
      refine ⟨_, rfl, ?_, hh.out.1⟩
      have h2 := hh.out.2
      rw [List.take_of_length_le (by rw [HLen.out]; exact Nat.le_refl _)] at h2
      rw [show (pickB v ins).length = k by rw [pickB, List.length_map, HLen.out]]
      exact h2
end Go.Proofs.Ytkcilpkcjhnkaaa
