/- Is all small? -/
import Derived.Test.YtholafodachjnaaZ7
namespace Go.Proofs.Ytholafodachjnaa
open Go.RowKit Go.Shelf
set_option linter.unusedVariables false
set_option linter.unusedSimpArgs false

def fewA (a : ArchV) (P : PackV) (S : SpotV) : Bool := decide (a.w ≤ 16) && (decide (a.h ≤ 16) && (fewB P && (decide (S.bs.length ≤ 300) && (decide (S.is.length ≤ 100) && decide (S.os.length ≤ 100)))))
set_option maxRecDepth 100000 in
set_option maxHeartbeats 4000000 in
theorem few12 (w : World) (a : ArchV) (P : PackV) (S : SpotV) : Calls Try.prog 12 #[a.val, P.val, S.val] w fun e w' => e = .returned (.bool (fewA a P S)) ∧ Below w.heap.size w w' := by
  have HC := Lib.hid (fun W => few28 W P)
  obtain ⟨fB, hfB⟩ : ∃ b, b = fewB P := ⟨_, rfl⟩
  have hfa : fewA a P S = (decide (a.w ≤ 16) && (decide (a.h ≤ 16) && (fB && (decide (S.bs.length ≤ 300) && (decide (S.is.length ≤ 100) && decide (S.os.length ≤ 100)))))) := by rw [hfB]; rfl
  rw [← hfB] at HC
  rw [hfa]
  clear hfB hfa
  obtain ⟨x, y, z⟩ := a
  obtain ⟨pi, pa, pc, pb, qa, qc, qb⟩ := P
  obtain ⟨ba, bc, bs, ia, ic, is, oa, oc, os⟩ := S
  unfold PackV.val at HC
  unfold ArchV.val PackV.val SpotV.val
  dsimp only at HC ⊢
  obtain ⟨m1, hm1⟩ : ∃ n, n = pb.length := ⟨_, rfl⟩
  obtain ⟨m3, hm3⟩ : ∃ n, n = qb.length := ⟨_, rfl⟩
  obtain ⟨n1, hn1⟩ : ∃ n, n = bs.length := ⟨_, rfl⟩
  obtain ⟨n2, hn2⟩ : ∃ n, n = is.length := ⟨_, rfl⟩
  obtain ⟨n3, hn3⟩ : ∃ n, n = os.length := ⟨_, rfl⟩
  rw [← hm1, ← hm3] at HC ⊢
  rw [← hn1, ← hn2, ← hn3]
  obtain ⟨r1, g1⟩ : ∃ r, decide (x ≤ 16) = r := ⟨_, rfl⟩
  obtain ⟨r2, g2⟩ : ∃ r, decide (y ≤ 16) = r := ⟨_, rfl⟩
  obtain ⟨r3, g3⟩ : ∃ r, decide (n1 ≤ 300) = r := ⟨_, rfl⟩
  obtain ⟨r4, g4⟩ : ∃ r, decide (n2 ≤ 100) = r := ⟨_, rfl⟩
  obtain ⟨r5, g5⟩ : ∃ r, decide (n3 ≤ 100) = r := ⟨_, rfl⟩
  have i3 : decide ((n1 : Int) ≤ 300) = r3 := by rw [← g3]; exact decide_eq_decide.2 (by omega)
  have i4 : decide ((n2 : Int) ≤ 100) = r4 := by rw [← g4]; exact decide_eq_decide.2 (by omega)
  have i5 : decide ((n3 : Int) ≤ 100) = r5 := by rw [← g5]; exact decide_eq_decide.2 (by omega)
  rw [g1, g2, g3, g4, g5]
  clear hm1 hm3 hn1 hn2 hn3 g3 g4 g5
  obtain ⟨H, hH⟩ : ∃ h, h = w.heap.size := ⟨_, rfl⟩
  obtain ⟨w1, hw1⟩ : ∃ W, W = ((w.alloc (.cells #[.int .i64 x, .int .i64 y, .int .i64 z] 23)).alloc (.cells #[.int .i64 pi, .slice pa m1 pc, .slice qa m3 qc] 27)).alloc (.cells #[.slice ba n1 bc, .slice ia n2 ic, .slice oa n3 oc] 29) := ⟨_, rfl⟩
  have HX1 : Hid (Below w.heap.size w w1) := Lib.hid (by rw [hw1]; exact (((Below.refl _ _).alloc (Nat.le_refl _) _).alloc (by simp) _).alloc (by simp <;> omega) _)
  have e2 : ∀ W : World, W.heap.size = H + 1 + 1 → (W.alloc (.cells #[.slice ba n1 bc, .slice ia n2 ic, .slice oa n3 oc] 29)).cell? ⟨H + 1 + 1, 0, none⟩ = some (.slice ba n1 bc) ∧ (W.alloc (.cells #[.slice ba n1 bc, .slice ia n2 ic, .slice oa n3 oc] 29)).cell? ⟨H + 1 + 1, 1, none⟩ = some (.slice ia n2 ic) ∧ (W.alloc (.cells #[.slice ba n1 bc, .slice ia n2 ic, .slice oa n3 oc] 29)).cell? ⟨H + 1 + 1, 2, none⟩ = some (.slice oa n3 oc) := fun W h => by rw [← h]; exact ⟨by simp, by simp, by simp⟩
  have e3 := e2 ((w.alloc (.cells #[.int .i64 x, .int .i64 y, .int .i64 z] 23)).alloc (.cells #[.int .i64 pi, .slice pa m1 pc, .slice qa m3 qc] 27)) (by rw [hH]; simp)
  rw [← hw1] at e3
  have HQ := Lib.hid e3
  have HW1 := Lib.hid hw1
  have HHH := Lib.hid hH
  clear e2 e3 hw1 hH
  cases r1
  · go_enter Try.func12, Try.ntmps12
    go_wp2_with fail
    go_ret
    exact ⟨rfl, by rw [← HW1.out]; exact HX1.out⟩
  cases r2
  · go_enter Try.func12, Try.ntmps12
    go_wp2_with fail
    go_ret
    exact ⟨rfl, by rw [← HW1.out]; exact HX1.out⟩
  go_enter Try.func12, Try.ntmps12
  go_wp2_with fail
  rw [← HW1.out]
  (try rw [← HHH.out])
  refine Calls.mono (HC.out w1) ?_
  rintro e w2 ⟨rfl, hb2⟩
  have HB2 := Lib.hid hb2
  have cl : ∀ {b j : Nat} {u : Value}, w1.cell? ⟨b, j, none⟩ = some u → w2.cell? ⟨b, j, none⟩ = some u := fun h => (hb2.cell (p := ⟨_, _, none⟩) (World.block_lt_of_cell? w1 _ h)).trans h
  have q0 := cl HQ.out.1
  have q1 := cl HQ.out.2.1
  have q2 := cl HQ.out.2.2
  clear cl hb2
  cases fB
  · go_wp2_with fail
    go_ret
    exact ⟨rfl, HX1.out.trans (HB2.out.mono HX1.out.size)⟩
  cases r3
  · go_wp2_with fail
    go_ret
    exact ⟨rfl, HX1.out.trans (HB2.out.mono HX1.out.size)⟩
  cases r4
  · go_wp2_with fail
    go_ret
    exact ⟨rfl, HX1.out.trans (HB2.out.mono HX1.out.size)⟩
  cases r5 <;>
  · go_wp2_with fail
    go_ret
    exact ⟨rfl, HX1.out.trans (HB2.out.mono HX1.out.size)⟩
end Go.Proofs.Ytholafodachjnaa
