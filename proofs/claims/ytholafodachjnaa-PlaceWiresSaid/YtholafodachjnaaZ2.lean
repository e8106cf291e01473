/- Spots; what is small; what is the same. -/
import Derived.Test.YtholafodachjnaaZ1
namespace Go.Proofs.Ytholafodachjnaa
open Go.RowKit Go.Shelf
set_option linter.unusedVariables false
set_option linter.unusedSimpArgs false

/-- Spots as they lie. -/
structure SpotV where
  ba : Option Addr
  bc : Nat
  bs : List Int
  ia : Option Addr
  ic : Nat
  is : List Int
  oa : Option Addr
  oc : Nat
  os : List Int
abbrev SpotV.val (S : SpotV) : Value := .agg #[.slice S.ba S.bs.length S.bc, .slice S.ia S.is.length S.ic, .slice S.oa S.os.length S.oc]
structure SpotAt (w : World) (S : SpotV) : Prop where
  b : Seq w S.ba S.bs.length (ints S.bs)
  i : Seq w S.ia S.is.length (ints S.is)
  o : Seq w S.oa S.os.length (ints S.os)
  bR : ∀ x ∈ S.bs, I64 x
  iR : ∀ x ∈ S.is, I64 x
  oR : ∀ x ∈ S.os, I64 x
theorem SpotAt.below {w w' : World} {B : Nat} {S : SpotV} (h : SpotAt w S) (hb : Below B w w') (hB : w.heap.size ≤ B) : SpotAt w' S :=
  ⟨h.b.below hb hB, h.i.below hb hB, h.o.below hb hB, h.bR, h.iR, h.oR⟩
def fewB (P : PackV) : Bool := decide (P.ins ≤ 64) && (decide (P.bs.length ≤ 64) && decide (P.os.length ≤ 64))
set_option maxRecDepth 100000 in
set_option maxHeartbeats 2000000 in
theorem few28 (w : World) (P : PackV) : Calls Try.prog 28 #[P.val] w fun e w' => e = .returned (.bool (fewB P)) ∧ Below w.heap.size w w' := by
  obtain ⟨ins, ba, bc, bs, oa, oc, os⟩ := P
  unfold fewB PackV.val
  dsimp only
  obtain ⟨n, hn⟩ : ∃ n, n = bs.length := ⟨_, rfl⟩
  obtain ⟨m, hm⟩ : ∃ n, n = os.length := ⟨_, rfl⟩
  rw [← hn, ← hm]
  clear hn hm
  have e1 : decide ((n : Int) ≤ 64) = decide (n ≤ 64) := decide_eq_decide.2 (by omega)
  have e2 : decide ((m : Int) ≤ 64) = decide (m ≤ 64) := decide_eq_decide.2 (by omega)
  obtain ⟨r1, hr1⟩ : ∃ r, r = decide (ins ≤ 64) := ⟨_, rfl⟩
  obtain ⟨r2, hr2⟩ : ∃ r, r = decide (n ≤ 64) := ⟨_, rfl⟩
  obtain ⟨r3, hr3⟩ : ∃ r, r = decide (m ≤ 64) := ⟨_, rfl⟩
  have f1 : decide (ins ≤ 64) = r1 := hr1.symm
  have f2 : decide ((n : Int) ≤ 64) = r2 := e1.trans hr2.symm
  have f3 : decide ((m : Int) ≤ 64) = r3 := e2.trans hr3.symm
  rw [← hr1, ← hr2, ← hr3]
  clear hr1 hr2 hr3 e1 e2
  cases r1
  · go_enter Try.func28, Try.ntmps28
    go_wp2_with fail
    go_ret
    exact ⟨rfl, (Below.refl _ _).alloc (Nat.le_refl _) _⟩
  · cases r2
    · go_enter Try.func28, Try.ntmps28
      go_wp2_with fail
      go_ret
      exact ⟨rfl, (Below.refl _ _).alloc (Nat.le_refl _) _⟩
    · cases r3 <;>
      · go_enter Try.func28, Try.ntmps28
        go_wp2_with fail
        go_ret
        exact ⟨rfl, (Below.refl _ _).alloc (Nat.le_refl _) _⟩
set_option maxRecDepth 100000 in
set_option maxHeartbeats 2000000 in
theorem ints43 (w : World) (a b : Option Addr) (n c c2 : Nat) (l : List Int) (hn : l.length = n) (ha : Seq w a n (ints l)) (hb : Seq w b n (ints l)) (h9 : n ≤ 100000) :
    Calls Try.prog 43 #[.slice a n c, .slice b n c2] w fun e w' => e = .returned (.bool true) ∧ Below w.heap.size w w' := by
  have HA := Lib.hid ha
  have HB := Lib.hid hb
  clear ha hb
  go_enter Try.func43, Try.ntmps43
  go_wp2_with fail
  go_loopw [5] (fun iv wr => ∃ k : Nat, k ≤ n ∧ iv = .int .i64 k ∧ Hid (Below w.heap.size w wr)) (fun iv _ => n - (intOf iv).toNat)
  case atStart => exact ⟨0, by omega, rfl, Lib.hid (Below.refl _ _)⟩
  case round =>
    obtain ⟨k, hk, rfl, hh⟩ := hrel
    by_cases hlt : k < n
    · obtain ⟨b1, o1, rfl, hb1, hc1⟩ := (HA.out.below hh.out (Nat.le_refl _)).at k hlt
      obtain ⟨b2, o2, rfl, hb2, hc2⟩ := (HB.out.below hh.out (Nat.le_refl _)).at k hlt
      have d0 := hc1 k hlt
      have e0 := hc2 k hlt
      unfold ints at d0 e0
      obtain ⟨x, hx⟩ : ∃ x, x = l.getD k 0 := ⟨_, rfl⟩
      rw [← hx] at d0 e0
      clear hx hb1 hb2 hc1 hc2
      go_wp2_with fail
      refine wp_region_held_drew (S := fun w' => w'.cell? ⟨b1, o1 + k, none⟩ = some (.int .i64 x) ∧ w'.cell? ⟨b2, o2 + k, none⟩ = some (.int .i64 x)) (by kernel_rfl) (⟨d0, e0⟩) (fun hHeld => ?_)
      refine wpAnyH_take (i := 0) (v := ?_) (by simp only [List.getElem?_toArray, List.getElem?_cons_succ, List.getElem?_cons_zero]; rfl) (by kernel_rfl) (by kernel_rfl) (by kernel_rfl) (by intro _ _ _ h; exact h) (Or.inl ⟨by rfl, ?_⟩) (by assumption) ?_
      rotate_left
      · intro w hSw; (try dsimp only at hSw); go_simp; try with_reducible rfl
      try simp only [Act.put, List.setIfInBounds_toArray, List.set_cons_zero, List.set_cons_succ]
      refine wpAnyH_take (i := 1) (v := ?_) (by simp only [List.getElem?_toArray, List.getElem?_cons_succ, List.getElem?_cons_zero]; rfl) (by kernel_rfl) (by kernel_rfl) (by kernel_rfl) (by intro _ _ _ h; exact h) (Or.inl ⟨by rfl, ?_⟩) (by assumption) ?_
      rotate_left
      · intro w hSw; (try dsimp only at hSw); go_simp; try with_reducible rfl
      try simp only [Act.put, List.setIfInBounds_toArray, List.set_cons_zero, List.set_cons_succ]
      refine wpAnyH_take (i := 2) (v := ?_) (by simp only [List.getElem?_toArray, List.getElem?_cons_succ, List.getElem?_cons_zero]; rfl) (by kernel_rfl) (by kernel_rfl) (by kernel_rfl) (by intro _ _ _ h; exact h) (Or.inl ⟨by rfl, ?_⟩) (by assumption) ?_
      rotate_left
      · intro w hSw; (try dsimp only at hSw); go_simp; first | with_reducible rfl | rw [if_pos (by omega)]
      try simp only [Act.put, List.setIfInBounds_toArray, List.set_cons_zero, List.set_cons_succ]
      refine wpAnyH_take (i := 3) (v := ?_) (by simp only [List.getElem?_toArray, List.getElem?_cons_succ, List.getElem?_cons_zero]; rfl) (by kernel_rfl) (by kernel_rfl) (by kernel_rfl) (by intro _ _ _ h; exact h) (Or.inl ⟨by rfl, ?_⟩) (by assumption) ?_
      rotate_left
      · intro w hSw; (try dsimp only at hSw); go_simp; try with_reducible rfl
      try simp only [Act.put, List.setIfInBounds_toArray, List.set_cons_zero, List.set_cons_succ]
      refine wpAnyH_take (i := 4) (v := ?_) (by simp only [List.getElem?_toArray, List.getElem?_cons_succ, List.getElem?_cons_zero]; rfl) (by kernel_rfl) (by kernel_rfl) (by kernel_rfl) (by intro _ _ _ h; exact h) (Or.inl ⟨by rfl, ?_⟩) (by assumption) ?_
      rotate_left
      · intro w hSw; (try dsimp only at hSw); go_simp; try with_reducible rfl
      try simp only [Act.put, List.setIfInBounds_toArray, List.set_cons_zero, List.set_cons_succ]
      refine wpAnyH_take (i := 5) (v := ?_) (by simp only [List.getElem?_toArray, List.getElem?_cons_succ, List.getElem?_cons_zero]; rfl) (by kernel_rfl) (by kernel_rfl) (by kernel_rfl) (by intro _ _ _ h; exact h) (Or.inl ⟨by rfl, ?_⟩) (by assumption) ?_
      rotate_left
      · intro w hSw; (try dsimp only at hSw); go_simp; try with_reducible rfl
      try simp only [Act.put, List.setIfInBounds_toArray, List.set_cons_zero, List.set_cons_succ]
      refine wpAnyH_take (i := 6) (v := ?_) (by simp only [List.getElem?_toArray, List.getElem?_cons_succ, List.getElem?_cons_zero]; rfl) (by kernel_rfl) (by kernel_rfl) (by kernel_rfl) (by intro _ _ _ h; exact h) (Or.inl ⟨by rfl, ?_⟩) (by assumption) ?_
      rotate_left
      · intro w hSw; (try dsimp only at hSw); go_simp; first | with_reducible rfl | rw [if_pos (by omega)]
      try simp only [Act.put, List.setIfInBounds_toArray, List.set_cons_zero, List.set_cons_succ]
      refine wpAnyH_take (i := 7) (v := ?_) (by simp only [List.getElem?_toArray, List.getElem?_cons_succ, List.getElem?_cons_zero]; rfl) (by kernel_rfl) (by kernel_rfl) (by kernel_rfl) (by intro _ _ _ h; exact h) (Or.inl ⟨by rfl, ?_⟩) (by assumption) ?_
      rotate_left
      · intro w hSw; (try dsimp only at hSw); go_simp; try with_reducible rfl
      try simp only [Act.put, List.setIfInBounds_toArray, List.set_cons_zero, List.set_cons_succ]
      refine wpAnyH_take (i := 8) (v := ?_) (by simp only [List.getElem?_toArray, List.getElem?_cons_succ, List.getElem?_cons_zero]; rfl) (by kernel_rfl) (by kernel_rfl) (by kernel_rfl) (by intro _ _ _ h; exact h) (Or.inl ⟨by rfl, ?_⟩) (by assumption) ?_
      rotate_left
      · intro w hSw; (try dsimp only at hSw); go_simp; try with_reducible rfl
      try simp only [Act.put, List.setIfInBounds_toArray, List.set_cons_zero, List.set_cons_succ]
      refine wpAnyH_done (by kernel_rfl) ?_ _
      go_wp2_with fail
      go_roundw
      case rel => exact ⟨k + 1, by omega, by go_num, Lib.hid hh.out.drew⟩
      case measure => simp [intOf]; omega
    · obtain rfl : k = n := by omega
      go_wp2_with fail
      go_ret
      exact ⟨rfl, hh.out⟩
set_option maxRecDepth 100000 in
set_option maxHeartbeats 2000000 in
theorem same21 (w : World) (S T : SpotV) (hS : SpotAt w S) (hT : SpotAt w T) (h1 : S.bs = T.bs) (h2 : S.is = T.is) (h3 : S.os = T.os) (k1 : S.bs.length ≤ 1000) (k2 : S.is.length ≤ 1000) (k3 : S.os.length ≤ 1000) :
    Calls Try.prog 21 #[S.val, T.val] w fun e w' => e = .returned (.bool true) ∧ Below w.heap.size w w' := by
  obtain ⟨ba, bc, bs, ia, ic, is, oa, oc, os⟩ := S
  obtain ⟨ba', bc', bs', ia', ic', is', oa', oc', os'⟩ := T
  dsimp only at h1 h2 h3 k1 k2 k3
  subst h1 h2 h3
  obtain ⟨s1, s2, s3, -, -, -⟩ := hS
  obtain ⟨t1, t2, t3, -, -, -⟩ := hT
  dsimp only at s1 s2 s3 t1 t2 t3
  unfold SpotV.val
  dsimp only
  have C1 : Hid (∀ W, Below w.heap.size w W → Calls Try.prog 43 #[.slice ba bs.length bc, .slice ba' bs.length bc'] W fun e w' => e = .returned (.bool true) ∧ Below W.heap.size W w') := Lib.hid (fun W hW => ints43 W ba ba' _ bc bc' bs rfl (s1.below hW (Nat.le_refl _)) (t1.below hW (Nat.le_refl _)) (by omega))
  have C2 : Hid (∀ W, Below w.heap.size w W → Calls Try.prog 43 #[.slice ia is.length ic, .slice ia' is.length ic'] W fun e w' => e = .returned (.bool true) ∧ Below W.heap.size W w') := Lib.hid (fun W hW => ints43 W ia ia' _ ic ic' is rfl (s2.below hW (Nat.le_refl _)) (t2.below hW (Nat.le_refl _)) (by omega))
  have C3 : Hid (∀ W, Below w.heap.size w W → Calls Try.prog 43 #[.slice oa os.length oc, .slice oa' os.length oc'] W fun e w' => e = .returned (.bool true) ∧ Below W.heap.size W w') := Lib.hid (fun W hW => ints43 W oa oa' _ oc oc' os rfl (s3.below hW (Nat.le_refl _)) (t3.below hW (Nat.le_refl _)) (by omega))
  obtain ⟨n1, hn1⟩ : ∃ n, n = bs.length := ⟨_, rfl⟩
  obtain ⟨n2, hn2⟩ : ∃ n, n = is.length := ⟨_, rfl⟩
  obtain ⟨n3, hn3⟩ : ∃ n, n = os.length := ⟨_, rfl⟩
  rw [← hn1] at C1 ⊢
  rw [← hn2] at C2 ⊢
  rw [← hn3] at C3 ⊢
  obtain ⟨H, hH⟩ : ∃ h, h = w.heap.size := ⟨_, rfl⟩
  obtain ⟨w1, hw1⟩ : ∃ W, W = (w.alloc (.cells #[.slice ba n1 bc, .slice ia n2 ic, .slice oa n3 oc] 29)).alloc (.cells #[.slice ba' n1 bc', .slice ia' n2 ic', .slice oa' n3 oc'] 29) := ⟨_, rfl⟩
  have HX1 : Hid (Below w.heap.size w w1) := Lib.hid (by rw [hw1]; exact ((Below.refl _ _).alloc (Nat.le_refl _) _).alloc (by simp) _)
  have q0 : w1.cell? ⟨H, 0, none⟩ = some (.slice ba n1 bc) := by rw [hw1, hH]; exact cell_alloc _ (by simp)
  have q1 : w1.cell? ⟨H, 1, none⟩ = some (.slice ia n2 ic) := by rw [hw1, hH]; exact cell_alloc _ (by simp)
  have q2 : w1.cell? ⟨H, 2, none⟩ = some (.slice oa n3 oc) := by rw [hw1, hH]; exact cell_alloc _ (by simp)
  have r0 : w1.cell? ⟨H + 1, 0, none⟩ = some (.slice ba' n1 bc') := by rw [hw1, hH]; simp
  have r1 : w1.cell? ⟨H + 1, 1, none⟩ = some (.slice ia' n2 ic') := by rw [hw1, hH]; simp
  have r2 : w1.cell? ⟨H + 1, 2, none⟩ = some (.slice oa' n3 oc') := by rw [hw1, hH]; simp
  have HK : Hid (∀ W, Below w1.heap.size w1 W → W.cell? ⟨H, 0, none⟩ = some (.slice ba n1 bc) ∧ W.cell? ⟨H, 1, none⟩ = some (.slice ia n2 ic) ∧ W.cell? ⟨H, 2, none⟩ = some (.slice oa n3 oc) ∧ W.cell? ⟨H + 1, 0, none⟩ = some (.slice ba' n1 bc') ∧ W.cell? ⟨H + 1, 1, none⟩ = some (.slice ia' n2 ic') ∧ W.cell? ⟨H + 1, 2, none⟩ = some (.slice oa' n3 oc')) := Lib.hid (fun W hW => by
    have cl : ∀ {b j : Nat} {u : Value}, w1.cell? ⟨b, j, none⟩ = some u → W.cell? ⟨b, j, none⟩ = some u := fun h => (hW.cell (p := ⟨_, _, none⟩) (World.block_lt_of_cell? w1 _ h)).trans h
    exact ⟨cl q0, cl q1, cl q2, cl r0, cl r1, cl r2⟩)
  have HW1 := Lib.hid hw1
  have HHH := Lib.hid hH
  clear s1 s2 s3 t1 t2 t3 k1 k2 k3 hn1 hn2 hn3 q0 q1 q2 r0 r1 r2 hw1 hH
  go_enter Try.func21, Try.ntmps21
  go_wp2_with fail
  rw [← HW1.out]
  (try rw [← HHH.out])
  refine Calls.mono (C1.out w1 HX1.out) ?_
  rintro e w2 ⟨rfl, hb2⟩
  have HB2 := Lib.hid hb2
  clear hb2
  obtain ⟨q0, q1, q2, r0, r1, r2⟩ := HK.out w2 HB2.out
  go_wp2_with fail
  refine Calls.mono (C2.out w2 (HX1.out.trans (HB2.out.mono HX1.out.size))) ?_
  rintro e w3 ⟨rfl, hb3⟩
  have HB3 := Lib.hid (HB2.out.trans (hb3.mono HB2.out.size))
  clear hb3 q0 q1 q2 r0 r1 r2
  obtain ⟨q0, q1, q2, r0, r1, r2⟩ := HK.out w3 HB3.out
  go_wp2_with fail
  refine Calls.mono (C3.out w3 (HX1.out.trans (HB3.out.mono HX1.out.size))) ?_
  rintro e w4 ⟨rfl, hb4⟩
  have HB4 := Lib.hid (HB3.out.trans (hb4.mono HB3.out.size))
  clear hb4 q0 q1 q2 r0 r1 r2
  go_wp2_with fail
  go_ret
  exact ⟨rfl, HX1.out.trans (HB4.out.mono HX1.out.size)⟩
end Go.Proofs.Ytholafodachjnaa
