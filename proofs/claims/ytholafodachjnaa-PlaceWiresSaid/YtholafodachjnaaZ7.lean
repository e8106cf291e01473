/- The pads of inputs and outs in one list (both); what is small. -/
import Derived.Test.YtholafodachjnaaZ6
import Derived.Deep.CutRange
namespace Go.Proofs.Ytholafodachjnaa
open Go.RowKit Go.Shelf
set_option linter.unusedVariables false
set_option linter.unusedSimpArgs false

theorem owni_lat {w : World} {base n : Nat} {v : Value} {l : List Int} (h : w.ownsRow base 3 1 v n (l.map (Value.int .i64))) : ∃ a c, v = .slice a n c ∧ Seq w a n (ints l) := by
  obtain ⟨a, c, h1, h2, -, -⟩ := owni_seq h
  exact ⟨a, c, h1, h2⟩
set_option maxRecDepth 100000 in
set_option maxHeartbeats 2000000 in
theorem both37 (w : World) (S : SpotV) (hS : SpotAt w S) (k1 : S.is.length ≤ 10000) (k2 : S.os.length ≤ 10000) :
    Calls Try.prog 37 #[S.val] w fun e w' => ∃ a c, e = .returned (.slice a (S.is.length + S.os.length) c) ∧ Seq w' a (S.is.length + S.os.length) (ints (S.is ++ S.os)) ∧ Below w.heap.size w w' := by
  obtain ⟨ba, bc, bs, ia, ic, is, oa, oc, os⟩ := S
  obtain ⟨-, s2, s3, -, -, -⟩ := hS
  unfold SpotV.val
  dsimp only at s2 s3 k1 k2 ⊢
  obtain ⟨n1, hn1⟩ : ∃ n, bs.length = n := ⟨_, rfl⟩
  obtain ⟨n2, hn2⟩ : ∃ n, is.length = n := ⟨_, rfl⟩
  obtain ⟨n3, hn3⟩ : ∃ n, os.length = n := ⟨_, rfl⟩
  rw [hn2] at s2 k1 ⊢
  rw [hn3] at s3 k2 ⊢
  rw [hn1]
  have HS2 := Lib.hid s2
  have HS3 := Lib.hid s3
  have HN := Lib.hid (And.intro hn2 hn3)
  obtain ⟨i3, hi, hz0, hz1, hz2⟩ := info_parts info3
  obtain ⟨H, hH⟩ : ∃ h, h = w.heap.size := ⟨_, rfl⟩
  obtain ⟨w0, hw0⟩ : ∃ W, W = w.alloc (.cells #[.slice ba n1 bc, .slice ia n2 ic, .slice oa n3 oc] 29) := ⟨_, rfl⟩
  have hb0 : Below w.heap.size w w0 := by rw [hw0]; exact (Below.refl _ _).alloc (Nat.le_refl _) _
  have hs0 : w0.heap.size = H + 1 := by rw [hw0, hH]; simp
  have q2 : w0.cell? ⟨H, 2, none⟩ = some (.slice oa n3 oc) := by rw [hw0, hH]; simp
  have HB0 := Lib.hid hb0
  have HB1 : Hid (Below w.heap.size w (w0.alloc (.cells #[] 3))) := Lib.hid (hb0.alloc hb0.size _)
  have HS0 := Lib.hid hs0
  have HQ2 := Lib.hid q2
  have HW0 := Lib.hid hw0
  have HHH := Lib.hid hH
  have HOwn : Hid ((w0.alloc (.cells #[] 3)).ownsRow w0.heap.size 3 1 (.slice (some ⟨w0.heap.size, 0, none⟩) 0 0) 0 (([] : List Int).map (Value.int .i64))) := Lib.hid (World.ownsRow_lit w0 #[] 0 (Nat.le_refl _) (Nat.zero_le _) rfl)
  have HOwn2 : Hid ((w0.alloc (.cells #[] 3)).ownsRow (H + 1) 3 1 (.slice (some ⟨H + 1, 0, none⟩) 0 0) 0 (([] : List Int).map (Value.int .i64))) := Lib.hid (by have := HOwn.out; rw [HS0.out] at this; exact this)
  have hbs : H + 1 ≤ (w0.alloc (.cells #[] 3)).heap.size := by rw [← hs0]; simp
  have HOwn3 : Hid (((w.alloc (.cells #[.slice ba n1 bc, .slice ia n2 ic, .slice oa n3 oc] 29)).alloc (.cells #[] 3)).ownsRow (H + 1) 3 1 (.slice (some ⟨w.heap.size + 1, 0, none⟩) 0 0) 0 (([] : List Int).map (Value.int .i64))) := Lib.hid (by have := HOwn2.out; rw [hw0] at this; rw [← hH]; exact this)
  have HB3 : Hid (Seq ((w.alloc (.cells #[.slice ba n1 bc, .slice ia n2 ic, .slice oa n3 oc] 29)).alloc (.cells #[] 3)) ia n2 (ints is)) := Lib.hid (by have := HS2.out.below HB1.out (Nat.le_refl _); rw [hw0] at this; exact this)
  have hbs3 : H + 1 ≤ ((w.alloc (.cells #[.slice ba n1 bc, .slice ia n2 ic, .slice oa n3 oc] 29)).alloc (.cells #[] 3)).heap.size := by rw [← hw0]; exact hbs
  clear hb0 hs0 q2 hw0 hH s2 s3 hn1 hn2 hn3 hbs
  go_enter Try.func37, Try.ntmps37
  go_upto_region 2 with (at_builtin; go_loud (refine wpList_append_seq rfl _ _ 25 rfl (H + 1) 3 i3 (.int .i64 0) 8 Try.underlying25 hi hz0 hz1 hz2 rfl _ 0 _ rfl HOwn3.out ia n2 ic (is.map (Value.int .i64)) (ints is) rfl (by rw [List.length_map, HN.out.1]) HB3.out (fun j hj => ints_get is j (by rw [HN.out.1]; exact hj)) (ints_one is) (by unfold maxLen; omega) (by omega) hbs3 ?_; intro v1 w1 ho1 hg1))
  rw [← HW0.out] at hg1
  have hown1 : w1.ownsRow (H + 1) 3 1 v1 n2 (is.map (Value.int .i64)) := by simpa using ho1
  have hB1 : Below (H + 1) (w0.alloc (.cells #[] 3)) w1 := (Below.refl _ _).grown hg1 (by rw [← HS0.out]; simp) (fun k e => (HOwn3.out.lt k e).1)
  have hbw : Below w.heap.size w w1 := HB1.out.trans (hB1.mono (by rw [HHH.out]; omega))
  have hq2 : w1.cell? ⟨H, 2, none⟩ = some (.slice oa n3 oc) := (hB1.cell (p := ⟨H, 2, none⟩) (Nat.lt_succ_self H)).trans (cell_alloc _ HQ2.out)
  have hbs1 : H + 1 ≤ w1.heap.size := by have := hB1.size; rw [← HS0.out] at *; simp at this; omega
  have HSq : Hid (Seq w1 oa n3 (ints os)) := Lib.hid (HS3.out.below hbw (Nat.le_refl _))
  have HOw := Lib.hid hown1
  have HBw := Lib.hid hbw
  rw [HHH.out] at hq2
  clear ho1 hg1 hown1 hB1 hbw hbs3
  go_wp2_with (at_builtin; go_loud (refine wpList_append_seq rfl _ _ 25 rfl (H + 1) 3 i3 (.int .i64 0) 8 Try.underlying25 hi hz0 hz1 hz2 rfl v1 n2 _ rfl HOw.out oa n3 oc (os.map (Value.int .i64)) (ints os) rfl (by rw [List.length_map, HN.out.2]) HSq.out (fun j hj => ints_get os j (by rw [HN.out.2]; exact hj)) (ints_one os) (by unfold maxLen; omega) (by omega) hbs1 ?_; intro v2 w2 ho2 hg2))
  rw [← List.map_append] at ho2
  have hB2 : Below w.heap.size w w2 := HBw.out.grown hg2 HBw.out.size (fun k e => Nat.le_trans (by rw [HHH.out]; omega) (HOw.out.lt k e).1)
  obtain ⟨a2, c2, rfl, hsq⟩ := owni_lat ho2
  go_ret
  exact ⟨a2, c2, rfl, hsq, hB2⟩
end Go.Proofs.Ytholafodachjnaa
