/- A thing's box reaches to a pad. -/
import Derived.Test.YtholafodachjnaaZ15
namespace Go.Proofs.Ytholafodachjnaa
open Go.RowKit Go.Shelf
set_option linter.unusedVariables false
set_option linter.unusedSimpArgs false

theorem wrap64s {x : Int} (h0 : 0 ≤ x) (h1 : x ≤ 1000000) : wrap64 x = x := by rw [← IntWalk.i64_left]; exact wrapSmall h0 h1
set_option maxRecDepth 100000 in
set_option maxHeartbeats 4000000 in
theorem pad50 (w : World) (a : ArchV) (P : PackV) (S : SpotV) (B N o : Nat) (t : TypeId) (f : Nat → Value) (sx sy : SpanV) (n : Int) (hr : w.rowIs B t N f) (ho : o + 6 ≤ N) (hf : SpansAt f o sx sy)
    (hw : 1 ≤ a.w ∧ a.w ≤ 16) (hh : 1 ≤ a.h ∧ a.h ≤ 16) (hn : 0 ≤ n ∧ n < 2 * a.w + 2 * a.h) :
    Calls Try.prog 50 #[planVal a P S, .pointer (some ⟨B, o, none⟩), .int .i64 n] w fun e w' => e = .returned (.tuple #[]) ∧ Met w B N o t f (sx.meet (padX a n)) (sy.meet (padY a n)) w' := by
  obtain ⟨aw, ah, at_⟩ := a
  obtain ⟨pi, pa, pc, pb, qa, qc, qb⟩ := P
  obtain ⟨ba, bc, bs, ia, ic, is, oa, oc, os⟩ := S
  unfold planVal padX padY
  dsimp only at hw hh hn ⊢
  have hB := hr.lt
  obtain ⟨H, hH⟩ : ∃ h, h = w.heap.size := ⟨_, rfl⟩
  obtain ⟨w1, hw1⟩ : ∃ W, W = w.alloc (.cells #[.int .i64 aw, .int .i64 ah, .int .i64 at_, .int .i64 pi, .slice pa pb.length pc, .slice qa qb.length qc, .slice ba bs.length bc, .slice ia is.length ic, .slice oa os.length oc] 53) := ⟨_, rfl⟩
  have a0 : w1.cell? ⟨H, 0, none⟩ = some (.int .i64 aw) := by rw [hw1, hH]; simp
  have a1 : w1.cell? ⟨H, 1, none⟩ = some (.int .i64 ah) := by rw [hw1, hH]; simp
  have hr1 := hr.alloc (.cells #[.int .i64 aw, .int .i64 ah, .int .i64 at_, .int .i64 pi, .slice pa pb.length pc, .slice qa qb.length qc, .slice ba bs.length bc, .slice ia is.length ic, .slice oa os.length oc] 53)
  rw [← hw1] at hr1
  have g1 : w.grownBy w1 (some B) := by rw [hw1]; exact grown_alloc (World.grownBy.refl _ _) _
  have C1 : Hid (∀ W x, Below w1.heap.size w1 W → Calls Try.prog 63 #[.pointer (some ⟨B, o, none⟩), .int .i64 x] W fun e w' => e = .returned (.tuple #[]) ∧ w'.rowIs B t N (upd3 f o (sx.meet x)) ∧ w.grownBy w' (some B)) := Lib.hid fun W x hW => Calls.mono (meet63 W B N o t f sx x (hr1.of_block (hW.block B hr1.lt)) (by omega) hf.x0 hf.x1 hf.x2) (by
    rintro e w' ⟨rfl, h2, h3⟩
    exact ⟨rfl, h2, grown_trans (grown_below g1 hW) h3⟩)
  have C2 : Hid (∀ W x s, W.rowIs B t N (upd3 f o s) → w.grownBy W (some B) → Calls Try.prog 63 #[.pointer (some ⟨B, o + 3, none⟩), .int .i64 x] W fun e w' => e = .returned (.tuple #[]) ∧ Met w B N o t f s (sy.meet x) w') := Lib.hid fun W x s hW gW => Calls.mono (meet63 W B N (o + 3) t _ sy x hW (by omega) (by rw [upd3_at _ _ _ _ (by omega)]; exact hf.y0) (by rw [upd3_at _ _ _ _ (by omega)]; exact hf.y1) (by rw [upd3_at _ _ _ _ (by omega)]; exact hf.y2)) (by
    rintro e w' ⟨rfl, h2, h3⟩
    exact ⟨rfl, ⟨h2, grown_trans gW h3⟩⟩)
  have hd0 : (aw == 0) = false := by simp; omega
  have hd1 : ¬ aw = 0 := by omega
  have he0 : (ah == 0) = false := by simp; omega
  have he1 : ¬ ah = 0 := by omega
  have E1 : wrap64 (2 * aw) = 2 * aw := wrap64s (by omega) (by omega)
  have E2 : wrap64 (2 * ah) = 2 * ah := wrap64s (by omega) (by omega)
  have HW1 := Lib.hid hw1
  have HHH := Lib.hid hH
  clear hr hr1 g1 hB hf hw1 hH
  have key : ∀ x y : Int, x.tmod y = x - y * x.tdiv y := fun x y => by have := Int.mul_tdiv_add_tmod x y; omega
  by_cases c1 : n < 2 * aw
  · have d1 : decide (n ≥ 2 * aw) = false := by simpa using c1
    have d1' : decide (2 * aw ≤ n) = false := by simpa using c1
    by_cases c0 : n < aw
    · have q0 : n.tdiv aw = 0 := Int.tdiv_eq_zero_of_lt hn.1 c0
      have r0 : n.tmod aw = n := by rw [key, q0]; omega
      have E3 : wrap64 (2 * n) = 2 * n := wrap64s (by omega) (by omega)
      have E4 : wrap64 (2 * n + 1) = 2 * n + 1 := wrap64s (by omega) (by omega)
      have HR : Hid ((if n < aw then 2 * n + 1 else if n < 2 * aw then 2 * (n - aw) + 1 else if n < 2 * aw + ah then 0 else 2 * aw) = 2 * n + 1 ∧ (if n < aw then 0 else if n < 2 * aw then 2 * ah else if n < 2 * aw + ah then 2 * (n - 2 * aw) + 1 else 2 * (n - 2 * aw - ah) + 1) = 0) := Lib.hid (by rw [if_pos c0, if_pos c0]; exact ⟨rfl, rfl⟩)
      rw [HR.out.1, HR.out.2]
      clear c0 c1 hw hh hn key
      go_enter Try.func50, Try.ntmps50
      go_wp2_with fail
      rw [← HW1.out]
      (try rw [← HHH.out])
      go_quiet (fail)
      go_wp2_with fail
      go_quiet (fail)
      go_wp2_with fail
      refine Calls.mono (C1.out _ _ (belowN (Below.refl _ _))) ?_
      rintro e w2 ⟨rfl, hr2, hg2⟩
      have HR2 := Lib.hid (And.intro hr2 hg2)
      clear hr2 hg2
      go_wp2_with fail
      refine Calls.mono (C2.out _ _ _ HR2.out.1 HR2.out.2) ?_
      rintro e w3 ⟨rfl, hm3⟩
      have HM := Lib.hid hm3
      clear hm3
      go_wp2_with fail
      go_end0
      exact ⟨rfl, HM.out⟩
    · have q0 : n.tdiv aw = 1 := by
        rw [Int.tdiv_eq_ediv_of_nonneg hn.1]
        exact (Int.ediv_eq_iff_of_pos (by omega)).2 (by omega)
      have r0 : n.tmod aw = n - aw := by rw [key, q0]; omega
      have E3 : wrap64 (2 * (n - aw)) = 2 * (n - aw) := wrap64s (by omega) (by omega)
      have E4 : wrap64 (2 * (n - aw) + 1) = 2 * (n - aw) + 1 := wrap64s (by omega) (by omega)
      have HR : Hid ((if n < aw then 2 * n + 1 else if n < 2 * aw then 2 * (n - aw) + 1 else if n < 2 * aw + ah then 0 else 2 * aw) = 2 * (n - aw) + 1 ∧ (if n < aw then 0 else if n < 2 * aw then 2 * ah else if n < 2 * aw + ah then 2 * (n - 2 * aw) + 1 else 2 * (n - 2 * aw - ah) + 1) = 2 * ah) := Lib.hid (by rw [if_neg c0, if_neg c0, if_pos c1, if_pos c1]; exact ⟨rfl, rfl⟩)
      rw [HR.out.1, HR.out.2]
      clear c0 c1 hw hh hn key
      go_enter Try.func50, Try.ntmps50
      go_wp2_with fail
      rw [← HW1.out]
      (try rw [← HHH.out])
      go_quiet (fail)
      go_wp2_with fail
      go_quiet (fail)
      go_wp2_with fail
      refine Calls.mono (C1.out _ _ (belowN (Below.refl _ _))) ?_
      rintro e w2 ⟨rfl, hr2, hg2⟩
      have HR2 := Lib.hid (And.intro hr2 hg2)
      clear hr2 hg2
      go_wp2_with fail
      refine Calls.mono (C2.out _ _ _ HR2.out.1 HR2.out.2) ?_
      rintro e w3 ⟨rfl, hm3⟩
      have HM := Lib.hid hm3
      clear hm3
      go_wp2_with fail
      go_end0
      exact ⟨rfl, HM.out⟩
  · have d1 : decide (n ≥ 2 * aw) = true := by simpa using c1
    have d1' : decide (2 * aw ≤ n) = true := by simpa using c1
    obtain ⟨q9, hq9⟩ : ∃ q, q = n.tdiv aw := ⟨_, rfl⟩
    obtain ⟨r9, hr9⟩ : ∃ q, q = n.tmod aw := ⟨_, rfl⟩
    have q0 : n.tdiv aw = q9 := hq9.symm
    have r0 : n.tmod aw = r9 := hr9.symm
    have b9 : 0 ≤ q9 ∧ q9 ≤ 64 := by
      rw [hq9, Int.tdiv_eq_ediv_of_nonneg hn.1]
      exact ⟨Int.ediv_nonneg hn.1 (by omega), Int.le_trans (Int.ediv_le_self _ hn.1) (by omega)⟩
    obtain ⟨m, hm⟩ : ∃ m, m = n - 2 * aw := ⟨_, rfl⟩
    have E5 : wrap64 (n - 2 * aw) = m := by rw [hm]; exact wrap64s (by omega) (by omega)
    have Q5 : wrap64 q9 = q9 := wrap64s b9.1 (by omega)
    obtain ⟨z9, hz9⟩ : ∃ z, z = wrap64 (2 * ah * q9) := ⟨_, rfl⟩
    obtain ⟨z8, hz8⟩ : ∃ z, z = wrap64 (2 * r9) := ⟨_, rfl⟩
    obtain ⟨z7, hz7⟩ : ∃ z, z = wrap64 (z8 + 1) := ⟨_, rfl⟩
    have Z9 : wrap64 (2 * ah * q9) = z9 := hz9.symm
    have Z8 : wrap64 (2 * r9) = z8 := hz8.symm
    have Z7 : wrap64 (z8 + 1) = z7 := hz7.symm
    clear hz9 hz8 hz7 hq9 hr9 b9
    by_cases c0 : m < ah
    · have q1 : m.tdiv ah = 0 := Int.tdiv_eq_zero_of_lt (by omega) c0
      have r1 : m.tmod ah = m := by rw [key, q1]; omega
      have E3 : wrap64 (2 * m) = 2 * m := wrap64s (by omega) (by omega)
      have E4 : wrap64 (2 * m + 1) = 2 * m + 1 := wrap64s (by omega) (by omega)
      have HR : Hid ((if n < aw then 2 * n + 1 else if n < 2 * aw then 2 * (n - aw) + 1 else if n < 2 * aw + ah then 0 else 2 * aw) = 0 ∧ (if n < aw then 0 else if n < 2 * aw then 2 * ah else if n < 2 * aw + ah then 2 * (n - 2 * aw) + 1 else 2 * (n - 2 * aw - ah) + 1) = 2 * m + 1) := Lib.hid (by simp only [if_neg (show ¬ n < aw by omega), if_neg c1, if_pos (show n < 2 * aw + ah by omega), hm]; (repeat constructor))
      rw [HR.out.1, HR.out.2]
      clear c0 c1 hw hh hn hm key
      go_enter Try.func50, Try.ntmps50
      go_wp2_with fail
      rw [← HW1.out]
      (try rw [← HHH.out])
      go_quiet (fail)
      go_wp2_with fail
      go_quiet (fail)
      go_wp2_with fail
      go_quiet (fail)
      go_wp2_with fail
      refine Calls.mono (C1.out _ _ (belowN (Below.refl _ _))) ?_
      rintro e w2 ⟨rfl, hr2, hg2⟩
      have HR2 := Lib.hid (And.intro hr2 hg2)
      clear hr2 hg2
      go_wp2_with fail
      refine Calls.mono (C2.out _ _ _ HR2.out.1 HR2.out.2) ?_
      rintro e w3 ⟨rfl, hm3⟩
      have HM := Lib.hid hm3
      clear hm3
      go_wp2_with fail
      go_end0
      exact ⟨rfl, HM.out⟩
    · have q1 : m.tdiv ah = 1 := by
        rw [Int.tdiv_eq_ediv_of_nonneg (by omega)]
        exact (Int.ediv_eq_iff_of_pos (by omega)).2 (by omega)
      have r1 : m.tmod ah = m - ah := by rw [key, q1]; omega
      have E3 : wrap64 (2 * (m - ah)) = 2 * (m - ah) := wrap64s (by omega) (by omega)
      have E4 : wrap64 (2 * (m - ah) + 1) = 2 * (m - ah) + 1 := wrap64s (by omega) (by omega)
      have HR : Hid ((if n < aw then 2 * n + 1 else if n < 2 * aw then 2 * (n - aw) + 1 else if n < 2 * aw + ah then 0 else 2 * aw) = 2 * aw ∧ (if n < aw then 0 else if n < 2 * aw then 2 * ah else if n < 2 * aw + ah then 2 * (n - 2 * aw) + 1 else 2 * (n - 2 * aw - ah) + 1) = 2 * (m - ah) + 1) := Lib.hid (by simp only [if_neg (show ¬ n < aw by omega), if_neg c1, if_neg (show ¬ n < 2 * aw + ah by omega), hm]; (repeat constructor))
      rw [HR.out.1, HR.out.2]
      clear c0 c1 hw hh hn hm key
      go_enter Try.func50, Try.ntmps50
      go_wp2_with fail
      rw [← HW1.out]
      (try rw [← HHH.out])
      go_quiet (fail)
      go_wp2_with fail
      go_quiet (fail)
      go_wp2_with fail
      go_quiet (fail)
      go_wp2_with fail
      refine Calls.mono (C1.out _ _ (belowN (Below.refl _ _))) ?_
      rintro e w2 ⟨rfl, hr2, hg2⟩
      have HR2 := Lib.hid (And.intro hr2 hg2)
      clear hr2 hg2
      go_wp2_with fail
      refine Calls.mono (C2.out _ _ _ HR2.out.1 HR2.out.2) ?_
      rintro e w3 ⟨rfl, hm3⟩
      have HM := Lib.hid hm3
      clear hm3
      go_wp2_with fail
      go_end0
      exact ⟨rfl, HM.out⟩
end Go.Proofs.Ytholafodachjnaa
