/- append of zeros to a row of the call's own; slices.Clone of bits; wires in memory. -/
import Derived.Test.YtibimdhmfchcoaaO7
import Derived.Lib.AppendZerosOnto
import Derived.Lib.SliceRun
namespace Go.Proofs.Ytibimdhmfchcoaa
open Go.RowKit Go.Shelf Go.Maps
set_option linter.unusedVariables false
set_option linter.unusedSimpArgs false

theorem zeroCells_toList (z : Value) (k : Nat) : (Builtin.zeroCells #[z] k).toList = List.replicate k z := by
  unfold Builtin.zeroCells
  apply List.ext_getElem
  · simp
  · intro j h1 h2
    simp [Nat.mod_one]
theorem run_zeros_room {P : Program} {w : World} (t tn ty e : TypeId) (i : TypeInfo) (z : Value) (kq kn : IntKind) (ht : P.underlying t = some (.slice e)) (htn : P.underlying tn = some (.int kn)) (hi : P.info? e = some i) (hz : i.zero = some z) (hs : i.size = 1) (hzc : z.cells = #[z]) (hz1 : z.oneCell' = true)
    (g sLen sCap k : Nat) (cur : Array Value) (hg : w.heap[g]? = some (.cells cur e (0, 0))) (h0 : 0 < k) (hroom : sLen + k ≤ sCap) (hfit : sLen + k ≤ cur.size) (h63 : (k : Int) ≤ 9223372036854775807) (h48 : k * i.bytes ≤ 281474976710656) :
    (Builtin.append_ #[t, tn] ty #[.slice (some ⟨g, 0, none⟩) sLen sCap, .int kq k]).run P w =
      .ok (.slice (some ⟨g, 0, none⟩) (sLen + k) sCap) (w.setRow g (cur.toList.take sLen ++ List.replicate k z ++ cur.toList.drop (sLen + k)).toArray) := by
  have hst := run_storeCells_at P g sLen e (List.replicate k z) 0 cur w hg (by simpa using hfit) (by intro u hu; rw [List.mem_replicate] at hu; rw [hu.2]; exact hz1)
  simp only [Nat.add_zero, List.length_replicate] at hst
  have hw : IntKind.i64.wrap (k : Int) = k := by rw [IntKind.wrap_i64]; omega
  have hneg : ¬ ((k : Int) < 0) := by omega
  have hk : k ≠ 0 := by omega
  have h48i : ¬ (281474976710656 < (k : Int) * (i.bytes : Int)) := by
    rw [← Int.natCast_mul]
    omega
  have hzl := zeroCells_toList z k
  simp [Builtin.append_, run_underlying ht, run_underlying htn, sizeOf, typeInfo, zeroValue, hi, hz, asInt, asIntOf, hw, hneg, hs, hk, h48i, hroom, Addr.add_lit, hzc, hzl, hst]
/-- append of k zeros onto a row of the call's own. -/
theorem run_zeros_own {P : Program} {w : World} (base : Nat) (t tn ty e : TypeId) (i : TypeInfo) (z : Value) (bytes : Nat) (kq kn : IntKind) (ht : P.underlying t = some (.slice e)) (htn : P.underlying tn = some (.int kn)) (hi : P.info? e = some i) (hz : i.zero = some z) (hs : i.size = 1) (hby : i.bytes = bytes) (hzc : z.cells = #[z]) (hz1 : z.oneCell' = true)
    (v : Value) (n k : Nat) (xs : List Value) (hown : w.ownsRow base e 1 v n xs) (hk : 0 < k) (hb : (n + k) * bytes ≤ 140737488355328) (hn : n + k ≤ 1000000) (hbase : base ≤ w.heap.size) :
    ∃ g cap w', (Builtin.append_ #[t, tn] ty #[v, .int kq k]).run P w = .ok (.slice (some ⟨g, 0, none⟩) (n + k) cap) w' ∧ w'.ownsRow base e 1 (.slice (some ⟨g, 0, none⟩) (n + k) cap) (n + k) (xs ++ List.replicate k z) ∧ w.grownBy w' v.ownBlock := by
  have hlx : xs.length = n := by have := hown.1; omega
  have h48 : k * i.bytes ≤ 281474976710656 := by
    rw [hby]
    have : k * bytes ≤ (n + k) * bytes := Nat.mul_le_mul_right _ (by omega)
    omega
  have grow : ∀ (A : Option Addr) (sLen sCap : Nat) (hold : (Builtin.firstCells i.size sLen (.slice A sLen sCap)).run P w.drew = .ok xs.toArray w.drew) (hl : sLen = n) (hc : sCap < n + k),
      ∃ g cap w', (Builtin.append_ #[t, tn] ty #[.slice A sLen sCap, .int kq k]).run P w = .ok (.slice (some ⟨g, 0, none⟩) (n + k) cap) w' ∧ w'.ownsRow base e 1 (.slice (some ⟨g, 0, none⟩) (n + k) cap) (n + k) (xs ++ List.replicate k z) ∧ ∀ row, w.grownBy w' row := by
    intro A sLen sCap hold hl hc
    subst hl
    have hr := Lib.run_append_grow_zeros w t tn ty e i z kq kn ht htn hi hz A sLen sCap xs hold k hk (by omega) hc (by omega) h48 (by rw [hby]; exact growslice_fits (by omega) hb)
    have hge := grownCap_ge w (sLen + k) sCap e
    have hcm := grownCap_le_maxLen w (sLen + k) sCap e (by unfold maxLen; omega)
    refine ⟨_, _, _, hr, ⟨by rw [List.length_append, List.length_replicate, hlx]; omega, .inr ⟨w.heap.size, _, _, rfl, hbase, heap_alloc_new w.drew _, hge, hcm, ?_, ?_⟩⟩, fun row => ⟨rfl, rfl, rfl, by simp, fun b hb _ => heap_alloc_old w.drew _ hb⟩⟩
    · rw [hzc]
      simp only [Array.size_append, List.size_toArray, size_zeroCells, hlx]
      simp
      omega
    · rw [hzc]
      simp only [Array.toList_append, zeroCells_toList]
      rw [List.take_append_of_le_length (by rw [List.length_append, List.length_replicate, hlx]; omega), List.take_of_length_le (by rw [List.length_append, List.length_replicate, hlx]; omega)]
  rcases hown.2 with ⟨rfl, rfl⟩ | ⟨g, cap, cur, rfl, hbg, hg, hnc, hcm, hcs, htake⟩
  · simp at hlx
    subst hlx
    obtain ⟨g, cap, w', hr, ho, hg⟩ := grow none 0 0 (run_firstCells_none w.drew i.size 0 0 0) rfl (by omega)
    exact ⟨g, cap, w', hr, ho, hg _⟩
  · by_cases hroom : n + k ≤ cap
    · have hr := run_zeros_room (P := P) t tn ty e i z kq kn ht htn hi hz hs hzc hz1 g n cap k cur hg hk hroom (by omega) (by omega) h48
      rw [show cur.toList.take n = xs by rw [← htake, Nat.mul_one]] at hr
      refine ⟨g, cap, _, hr, ⟨by rw [List.length_append, List.length_replicate, hlx]; omega, .inr ⟨g, cap, _, rfl, hbg, setRow_heap w g cur _ e _ hg, hroom, hcm, ?_, ?_⟩⟩, ⟨rfl, rfl, rfl, by simp, fun b _ hb => setRow_other w g b _ (fun e => hb (by simp [Value.ownBlock, e]))⟩⟩
      · simp only [List.size_toArray, List.length_append, List.length_replicate, List.length_drop, Array.length_toList, hlx]
        omega
      · rw [List.take_append_of_le_length (by rw [List.length_append, List.length_replicate, hlx]; omega), List.take_of_length_le (by rw [List.length_append, List.length_replicate, hlx]; omega)]
    · have holds : ∀ j u, xs[j]? = some u → w.drew.cell? ((⟨g, 0, none⟩ : Addr).add j) = some u := hown.cells (g := g) rfl
      have hold := run_firstCells_some (P := P) w.drew i.size n ⟨g, 0, none⟩ n cap xs (by rw [hs]; omega) holds
      obtain ⟨g2, cap2, w', hr, ho, hg2⟩ := grow (some ⟨g, 0, none⟩) n cap hold rfl (by omega)
      exact ⟨g2, cap2, w', hr, ho, hg2 _⟩
end Go.Proofs.Ytibimdhmfchcoaa
