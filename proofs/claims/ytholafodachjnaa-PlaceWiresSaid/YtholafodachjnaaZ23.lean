/- What spots cost, if they are right (Cost). -/
import Derived.Test.YtholafodachjnaaZ22
import Derived.Test.YtholafodachjnaaZ9
import Derived.Test.YtholafodachjnaaLX
namespace Go.Proofs.Ytholafodachjnaa
open Go.RowKit Go.Shelf
set_option linter.unusedVariables false
set_option linter.unusedSimpArgs false

theorem right_few {a : ArchV} {P : PackV} {S : SpotV} (hf : FewP P) (h : RightAll a P.data S.data) : P.bs.length ≤ 500 ∧ P.os.length ≤ 500 ∧ S.is.length ≤ 500 := by
  refine ⟨hf.bs, hf.os, ?_⟩
  have h1 := h.s.i
  have h2 := hf.ins
  dsimp only at h1
  omega
set_option maxRecDepth 100000 in
set_option maxHeartbeats 4000000 in
theorem cost13 (w : World) (a : ArchV) (P : PackV) (S : SpotV) (hP : PackAt w P) (hf : FewP P) (hS : SpotAt w S) (hs : FewS S) :
    Calls Try.prog 13 #[a.val, P.val, S.val] w fun e w' => e = .returned (.tuple #[.int .i64 (costV a P S), .int .i64 (checkE a P S)]) ∧ Below w.heap.size w w' := by
  have HC : Hid (∀ W, Below w.heap.size w W → Calls Try.prog 15 #[a.val, P.val, S.val] W fun e w' => e = .returned (.int .i64 (checkE a P S)) ∧ Below W.heap.size W w') := Lib.hid fun W hW => check15 W a P S (hP.below hW (Nat.le_refl _)) hf (hS.below hW (Nat.le_refl _)) hs
  have HK0 : Hid (checkE a P S = 0 → ∀ W, Below w.heap.size w W → Calls Try.prog 29 #[planVal a P S] W fun e w' => e = .returned (.int .i64 (costV a P S)) ∧ Below W.heap.size W w') := Lib.hid fun h W hW => by
    obtain ⟨hb, hr⟩ := checkE_ok.1 h
    obtain ⟨k1, k2, k3⟩ := right_few hf hr
    unfold costV
    rw [if_pos h]
    exact cost29 W a P S (hP.below hW (Nat.le_refl _)) (hS.below hW (Nat.le_refl _)) hr.p hr.s k1 k2 k3
  have HN : Hid (¬ checkE a P S = 0 → costV a P S = 0) := Lib.hid fun h => by unfold costV; rw [if_neg h]
  obtain ⟨F, hF⟩ : ∃ F, F = checkE a P S := ⟨_, rfl⟩
  obtain ⟨C, hC⟩ : ∃ C, C = costV a P S := ⟨_, rfl⟩
  rw [← hF] at HC HK0 HN
  rw [← hC] at HK0 HN
  rw [← hF, ← hC]
  clear hF hC hP hf hS hs
  obtain ⟨aw, ah, at_⟩ := a
  obtain ⟨pi, pa, pc, pb, qa, qc, qb⟩ := P
  obtain ⟨ba, bc, bs, ia, ic, is, oa, oc, os⟩ := S
  (try unfold planVal at HK0)
  unfold ArchV.val PackV.val SpotV.val at HC
  (try unfold ArchV.val PackV.val SpotV.val at HK0)
  unfold ArchV.val PackV.val SpotV.val
  dsimp only at HC HK0 ⊢
  obtain ⟨m1, hm1⟩ : ∃ n, n = pb.length := ⟨_, rfl⟩
  obtain ⟨m3, hm3⟩ : ∃ n, n = qb.length := ⟨_, rfl⟩
  obtain ⟨n1, hn1⟩ : ∃ n, n = bs.length := ⟨_, rfl⟩
  obtain ⟨n2, hn2⟩ : ∃ n, n = is.length := ⟨_, rfl⟩
  obtain ⟨n3, hn3⟩ : ∃ n, n = os.length := ⟨_, rfl⟩
  rw [← hm1, ← hm3, ← hn1, ← hn2, ← hn3] at HC HK0 ⊢
  clear hm1 hm3 hn1 hn2 hn3
  obtain ⟨H, hH⟩ : ∃ h, h = w.heap.size := ⟨_, rfl⟩
  obtain ⟨w1, hw1⟩ : ∃ W, W = ((w.alloc (.cells #[.int .i64 aw, .int .i64 ah, .int .i64 at_] 23)).alloc (.cells #[.int .i64 pi, .slice pa m1 pc, .slice qa m3 qc] 27)).alloc (.cells #[.slice ba n1 bc, .slice ia n2 ic, .slice oa n3 oc] 29) := ⟨_, rfl⟩
  have HX1 : Hid (Below w.heap.size w w1) := Lib.hid (by rw [hw1]; exact (((Below.refl _ _).alloc (Nat.le_refl _) _).alloc (by simp) _).alloc (by simp <;> omega) _)
  have hcl : w1.cell? ⟨H, 0, none⟩ = some (.int .i64 aw) ∧ w1.cell? ⟨H, 1, none⟩ = some (.int .i64 ah) ∧ w1.cell? ⟨H, 2, none⟩ = some (.int .i64 at_) ∧ w1.cell? ⟨H + 1, 0, none⟩ = some (.int .i64 pi) ∧ w1.cell? ⟨H + 1, 1, none⟩ = some (.slice pa m1 pc) ∧ w1.cell? ⟨H + 1, 2, none⟩ = some (.slice qa m3 qc) ∧ w1.cell? ⟨H + 1 + 1, 0, none⟩ = some (.slice ba n1 bc) ∧ w1.cell? ⟨H + 1 + 1, 1, none⟩ = some (.slice ia n2 ic) ∧ w1.cell? ⟨H + 1 + 1, 2, none⟩ = some (.slice oa n3 oc) := by
    have e2 : ∀ W : World, W.heap.size = H + 1 + 1 → (W.alloc (.cells #[.slice ba n1 bc, .slice ia n2 ic, .slice oa n3 oc] 29)).cell? ⟨H + 1 + 1, 0, none⟩ = some (.slice ba n1 bc) ∧ (W.alloc (.cells #[.slice ba n1 bc, .slice ia n2 ic, .slice oa n3 oc] 29)).cell? ⟨H + 1 + 1, 1, none⟩ = some (.slice ia n2 ic) ∧ (W.alloc (.cells #[.slice ba n1 bc, .slice ia n2 ic, .slice oa n3 oc] 29)).cell? ⟨H + 1 + 1, 2, none⟩ = some (.slice oa n3 oc) := fun W h => by rw [← h]; exact ⟨by simp, by simp, by simp⟩
    have e3 := e2 ((w.alloc (.cells #[.int .i64 aw, .int .i64 ah, .int .i64 at_] 23)).alloc (.cells #[.int .i64 pi, .slice pa m1 pc, .slice qa m3 qc] 27)) (by rw [hH]; simp)
    rw [hw1]
    refine ⟨?_, ?_, ?_, ?_, ?_, ?_, e3⟩
    · rw [hH]; exact cell_alloc _ (cell_alloc _ (by simp))
    · rw [hH]; exact cell_alloc _ (cell_alloc _ (by simp))
    · rw [hH]; exact cell_alloc _ (cell_alloc _ (by simp))
    · rw [hH]; exact cell_alloc _ (by simp)
    · rw [hH]; exact cell_alloc _ (by simp)
    · rw [hH]; exact cell_alloc _ (by simp)
  have HK : Hid (∀ W, Below w1.heap.size w1 W → W.cell? ⟨H, 0, none⟩ = some (.int .i64 aw) ∧ W.cell? ⟨H, 1, none⟩ = some (.int .i64 ah) ∧ W.cell? ⟨H, 2, none⟩ = some (.int .i64 at_) ∧ W.cell? ⟨H + 1, 0, none⟩ = some (.int .i64 pi) ∧ W.cell? ⟨H + 1, 1, none⟩ = some (.slice pa m1 pc) ∧ W.cell? ⟨H + 1, 2, none⟩ = some (.slice qa m3 qc) ∧ W.cell? ⟨H + 1 + 1, 0, none⟩ = some (.slice ba n1 bc) ∧ W.cell? ⟨H + 1 + 1, 1, none⟩ = some (.slice ia n2 ic) ∧ W.cell? ⟨H + 1 + 1, 2, none⟩ = some (.slice oa n3 oc)) := Lib.hid (fun W hW => by
    have cl : ∀ {b j : Nat} {u : Value}, w1.cell? ⟨b, j, none⟩ = some u → W.cell? ⟨b, j, none⟩ = some u := fun h => (hW.cell (p := ⟨_, _, none⟩) (World.block_lt_of_cell? w1 _ h)).trans h
    obtain ⟨a0, a1, a2, p0, p1, p2, s0, s1, s2⟩ := hcl
    exact ⟨cl a0, cl a1, cl a2, cl p0, cl p1, cl p2, cl s0, cl s1, cl s2⟩)
  have HXW : Hid (∀ W, Below w1.heap.size w1 W → Below w.heap.size w W) := Lib.hid fun W hW => HX1.out.trans (hW.mono HX1.out.size)
  have HW1 := Lib.hid hw1
  have HHH := Lib.hid hH
  clear hw1 hH hcl
  go_enter Try.func13, Try.ntmps13
  go_wp2_with fail
  rw [← HW1.out]
  (try rw [← HHH.out])
  refine Calls.mono (HC.out w1 HX1.out) ?_
  rintro e w2 ⟨rfl, hb2⟩
  have HB2 := Lib.hid hb2
  clear hb2
  obtain ⟨a0, a1, a2, p0, p1, p2, s0, s1, s2⟩ := HK.out w2 HB2.out
  by_cases hF : F = 0
  · have HK1 := Lib.hid (HK0.out hF)
    subst hF
    go_wp2_with fail
    refine Calls.mono (HK1.out w2 (HXW.out w2 HB2.out)) ?_
    rintro e w3 ⟨rfl, hb3⟩
    have HB3 := Lib.hid (HB2.out.trans (hb3.mono HB2.out.size))
    clear hb3
    go_wp2_with fail
    go_ret2
    exact ⟨rfl, HXW.out w3 HB3.out⟩
  · have hFb : (F == 0) = false := by simpa using hF
    have hFb2 : (F != 0) = true := by simpa using hF
    obtain hc := HN.out hF
    subst hc
    clear hF
    go_wp2_with fail
    go_ret2
    exact ⟨rfl, HXW.out w2 HB2.out⟩
set_option maxRecDepth 100000 in
set_option maxHeartbeats 4000000 in
theorem cost14 (w : World) (a : ArchV) (P : PackV) (S : SpotV) (hP : PackAt w P) (hf : FewP P) (hS : SpotAt w S) (hs : FewS S) :
    Calls Try.prog 14 #[a.val, P.val, S.val] w fun e w' => e = .returned (.tuple #[.int .i64 (costV a P S), .int .i64 (checkE a P S)]) ∧ Below w.heap.size w w' := by
  have HC : Hid (∀ W, Below w.heap.size w W → Calls Try.prog 16 #[a.val, P.val, S.val] W fun e w' => e = .returned (.int .i64 (checkE a P S)) ∧ Below W.heap.size W w') := Lib.hid fun W hW => check16 W a P S (hP.below hW (Nat.le_refl _)) hf (hS.below hW (Nat.le_refl _)) hs
  have HK0 : Hid (checkE a P S = 0 → ∀ W, Below w.heap.size w W → Calls Try.prog 30 #[a.val, P.val, S.val] W fun e w' => e = .returned (.int .i64 (costV a P S)) ∧ Below W.heap.size W w') := Lib.hid fun h W hW => by
    obtain ⟨hb, hr⟩ := checkE_ok.1 h
    obtain ⟨k1, k2, k3⟩ := right_few hf hr
    unfold costV
    rw [if_pos h]
    exact cost30 W a P S (hP.below hW (Nat.le_refl _)) (hS.below hW (Nat.le_refl _)) hr.p hr.s k1 k2 k3
  have HN : Hid (¬ checkE a P S = 0 → costV a P S = 0) := Lib.hid fun h => by unfold costV; rw [if_neg h]
  obtain ⟨F, hF⟩ : ∃ F, F = checkE a P S := ⟨_, rfl⟩
  obtain ⟨C, hC⟩ : ∃ C, C = costV a P S := ⟨_, rfl⟩
  rw [← hF] at HC HK0 HN
  rw [← hC] at HK0 HN
  rw [← hF, ← hC]
  clear hF hC hP hf hS hs
  obtain ⟨aw, ah, at_⟩ := a
  obtain ⟨pi, pa, pc, pb, qa, qc, qb⟩ := P
  obtain ⟨ba, bc, bs, ia, ic, is, oa, oc, os⟩ := S
  (try unfold planVal at HK0)
  unfold ArchV.val PackV.val SpotV.val at HC
  (try unfold ArchV.val PackV.val SpotV.val at HK0)
  unfold ArchV.val PackV.val SpotV.val
  dsimp only at HC HK0 ⊢
  obtain ⟨m1, hm1⟩ : ∃ n, n = pb.length := ⟨_, rfl⟩
  obtain ⟨m3, hm3⟩ : ∃ n, n = qb.length := ⟨_, rfl⟩
  obtain ⟨n1, hn1⟩ : ∃ n, n = bs.length := ⟨_, rfl⟩
  obtain ⟨n2, hn2⟩ : ∃ n, n = is.length := ⟨_, rfl⟩
  obtain ⟨n3, hn3⟩ : ∃ n, n = os.length := ⟨_, rfl⟩
  rw [← hm1, ← hm3, ← hn1, ← hn2, ← hn3] at HC HK0 ⊢
  clear hm1 hm3 hn1 hn2 hn3
  obtain ⟨H, hH⟩ : ∃ h, h = w.heap.size := ⟨_, rfl⟩
  obtain ⟨w1, hw1⟩ : ∃ W, W = ((w.alloc (.cells #[.int .i64 aw, .int .i64 ah, .int .i64 at_] 23)).alloc (.cells #[.int .i64 pi, .slice pa m1 pc, .slice qa m3 qc] 27)).alloc (.cells #[.slice ba n1 bc, .slice ia n2 ic, .slice oa n3 oc] 29) := ⟨_, rfl⟩
  have HX1 : Hid (Below w.heap.size w w1) := Lib.hid (by rw [hw1]; exact (((Below.refl _ _).alloc (Nat.le_refl _) _).alloc (by simp) _).alloc (by simp <;> omega) _)
  have hcl : w1.cell? ⟨H, 0, none⟩ = some (.int .i64 aw) ∧ w1.cell? ⟨H, 1, none⟩ = some (.int .i64 ah) ∧ w1.cell? ⟨H, 2, none⟩ = some (.int .i64 at_) ∧ w1.cell? ⟨H + 1, 0, none⟩ = some (.int .i64 pi) ∧ w1.cell? ⟨H + 1, 1, none⟩ = some (.slice pa m1 pc) ∧ w1.cell? ⟨H + 1, 2, none⟩ = some (.slice qa m3 qc) ∧ w1.cell? ⟨H + 1 + 1, 0, none⟩ = some (.slice ba n1 bc) ∧ w1.cell? ⟨H + 1 + 1, 1, none⟩ = some (.slice ia n2 ic) ∧ w1.cell? ⟨H + 1 + 1, 2, none⟩ = some (.slice oa n3 oc) := by
    have e2 : ∀ W : World, W.heap.size = H + 1 + 1 → (W.alloc (.cells #[.slice ba n1 bc, .slice ia n2 ic, .slice oa n3 oc] 29)).cell? ⟨H + 1 + 1, 0, none⟩ = some (.slice ba n1 bc) ∧ (W.alloc (.cells #[.slice ba n1 bc, .slice ia n2 ic, .slice oa n3 oc] 29)).cell? ⟨H + 1 + 1, 1, none⟩ = some (.slice ia n2 ic) ∧ (W.alloc (.cells #[.slice ba n1 bc, .slice ia n2 ic, .slice oa n3 oc] 29)).cell? ⟨H + 1 + 1, 2, none⟩ = some (.slice oa n3 oc) := fun W h => by rw [← h]; exact ⟨by simp, by simp, by simp⟩
    have e3 := e2 ((w.alloc (.cells #[.int .i64 aw, .int .i64 ah, .int .i64 at_] 23)).alloc (.cells #[.int .i64 pi, .slice pa m1 pc, .slice qa m3 qc] 27)) (by rw [hH]; simp)
    rw [hw1]
    refine ⟨?_, ?_, ?_, ?_, ?_, ?_, e3⟩
    · rw [hH]; exact cell_alloc _ (cell_alloc _ (by simp))
    · rw [hH]; exact cell_alloc _ (cell_alloc _ (by simp))
    · rw [hH]; exact cell_alloc _ (cell_alloc _ (by simp))
    · rw [hH]; exact cell_alloc _ (by simp)
    · rw [hH]; exact cell_alloc _ (by simp)
    · rw [hH]; exact cell_alloc _ (by simp)
  have HK : Hid (∀ W, Below w1.heap.size w1 W → W.cell? ⟨H, 0, none⟩ = some (.int .i64 aw) ∧ W.cell? ⟨H, 1, none⟩ = some (.int .i64 ah) ∧ W.cell? ⟨H, 2, none⟩ = some (.int .i64 at_) ∧ W.cell? ⟨H + 1, 0, none⟩ = some (.int .i64 pi) ∧ W.cell? ⟨H + 1, 1, none⟩ = some (.slice pa m1 pc) ∧ W.cell? ⟨H + 1, 2, none⟩ = some (.slice qa m3 qc) ∧ W.cell? ⟨H + 1 + 1, 0, none⟩ = some (.slice ba n1 bc) ∧ W.cell? ⟨H + 1 + 1, 1, none⟩ = some (.slice ia n2 ic) ∧ W.cell? ⟨H + 1 + 1, 2, none⟩ = some (.slice oa n3 oc)) := Lib.hid (fun W hW => by
    have cl : ∀ {b j : Nat} {u : Value}, w1.cell? ⟨b, j, none⟩ = some u → W.cell? ⟨b, j, none⟩ = some u := fun h => (hW.cell (p := ⟨_, _, none⟩) (World.block_lt_of_cell? w1 _ h)).trans h
    obtain ⟨a0, a1, a2, p0, p1, p2, s0, s1, s2⟩ := hcl
    exact ⟨cl a0, cl a1, cl a2, cl p0, cl p1, cl p2, cl s0, cl s1, cl s2⟩)
  have HXW : Hid (∀ W, Below w1.heap.size w1 W → Below w.heap.size w W) := Lib.hid fun W hW => HX1.out.trans (hW.mono HX1.out.size)
  have HW1 := Lib.hid hw1
  have HHH := Lib.hid hH
  clear hw1 hH hcl
  go_enter Try.func14, Try.ntmps14
  go_wp2_with fail
  rw [← HW1.out]
  (try rw [← HHH.out])
  refine Calls.mono (HC.out w1 HX1.out) ?_
  rintro e w2 ⟨rfl, hb2⟩
  have HB2 := Lib.hid hb2
  clear hb2
  obtain ⟨a0, a1, a2, p0, p1, p2, s0, s1, s2⟩ := HK.out w2 HB2.out
  by_cases hF : F = 0
  · have HK1 := Lib.hid (HK0.out hF)
    subst hF
    go_wp2_with fail
    refine Calls.mono (HK1.out w2 (HXW.out w2 HB2.out)) ?_
    rintro e w3 ⟨rfl, hb3⟩
    have HB3 := Lib.hid (HB2.out.trans (hb3.mono HB2.out.size))
    clear hb3
    go_wp2_with fail
    go_ret2
    exact ⟨rfl, HXW.out w3 HB3.out⟩
  · have hFb : (F == 0) = false := by simpa using hF
    have hFb2 : (F != 0) = true := by simpa using hF
    obtain hc := HN.out hF
    subst hc
    clear hF
    go_wp2_with fail
    go_ret2
    exact ⟨rfl, HXW.out w2 HB2.out⟩
end Go.Proofs.Ytholafodachjnaa
