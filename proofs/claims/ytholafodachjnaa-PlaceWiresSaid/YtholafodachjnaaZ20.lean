/- What spots cost, as the document tells. -/
import Derived.Test.YtholafodachjnaaZ19
namespace Go.Proofs.Ytholafodachjnaa
open Go.RowKit Go.Shelf
set_option linter.unusedVariables false
set_option linter.unusedSimpArgs false

theorem atL_in {a : ArchV} {P : PackD} {S : SpotD} (hP : RightP a P) (hS : RightS a P S) {k : Nat} (hk : k < S.is.length + P.bs.length) : PtIn (atL a P S k) := fun z hz => evs_in hP hS _ ((mem_atL hS.i hS.b hk).1 hz)
theorem atL_pos (a : ArchV) (P : PackD) (S : SpotD) (k : Nat) : 0 < (atL a P S k).length := by unfold atL; simp
set_option maxRecDepth 100000 in
set_option maxHeartbeats 8000000 in
theorem cost30 (w : World) (a : ArchV) (P : PackV) (S : SpotV) (hP : PackAt w P) (hS : SpotAt w S) (rp : RightP a P.data) (rs : RightS a P.data S.data) (h1 : P.bs.length ≤ 500) (h2 : P.os.length ≤ 500) (h3 : S.is.length ≤ 500) :
    Calls Try.prog 30 #[a.val, P.val, S.val] w fun e w' => e = .returned (.int .i64 (costL a P.data S.data)) ∧ Below w.heap.size w w' := by
  have HA : Hid (∀ W k, Below w.heap.size w W → k < S.is.length + P.bs.length → Calls Try.prog 53 #[a.val, P.val, S.val, .int .i64 k] W fun e w' => ∃ v c, e = .returned (.slice v (atL a P.data S.data k).length c) ∧ Seq w' v (2 * (atL a P.data S.data k).length) (pairCell (atL a P.data S.data k)) ∧ Below W.heap.size W w') :=
    Lib.hid fun W k hW hk => at53 W a P S (hP.below hW (Nat.le_refl _)) (hS.below hW (Nat.le_refl _)) rp rs h1 h2 h3 k hk
  have hll : ∀ k, (atL a P.data S.data k).length ≤ 100000 := fun k => by
    unfold atL
    have e1 := atB_len (a := a) (D := P.data) S.data k (fun j hj => (rp.blk j hj).1) P.data.bs.length (Nat.le_refl _)
    have e2 := atO_len a P.data S.data k P.data.outs.length
    have e3 : P.data.bs.length = P.bs.length := by simp
    simp only [List.length_cons, List.length_append] at *
    omega
  have HR : Hid (∀ W k v c, k < S.is.length + P.bs.length → Seq W v (2 * (atL a P.data S.data k).length) (pairCell (atL a P.data S.data k)) → Calls Try.prog 52 #[.slice v (atL a P.data S.data k).length c] W fun e w' => e = .returned (.int .i64 (reachE (evs a P.data S.data) k)) ∧ W = w') :=
    Lib.hid fun W k v c hk hq => by
      have hk' : k < S.data.is.length + P.data.bs.length := by simpa using hk
      rw [← atL_reach rs.i rs.b hk']
      exact reach52 W v _ c _ rfl (atL_pos _ _ _ _) (hll k) hq (atL_in rp rs hk')
  obtain ⟨E, hE⟩ : ∃ E, E = evs a P.data S.data := ⟨_, rfl⟩
  obtain ⟨C, hC⟩ : ∃ C, C = costL a P.data S.data := ⟨_, rfl⟩
  have HEin : Hid (EvIn E) := Lib.hid (by rw [hE]; exact evs_in rp rs)
  have HC : Hid (C = costTo E (S.is.length + P.bs.length)) := Lib.hid (by rw [hC, hE]; unfold costL; simp)
  rw [← hE] at HR
  rw [← hC]
  obtain ⟨L, hL⟩ : ∃ L : Nat → List Pt, L = atL a P.data S.data := ⟨_, rfl⟩
  rw [← hL] at HA HR
  have hpi : P.ins = ((S.is.length : Nat) : Int) := rs.i
  have hbl : S.bs.length = P.bs.length := by have := rs.b; simpa using this
  have hol : S.os.length = P.os.length := rs.o
  clear hP hS rp rs hE hC hL hll
  obtain ⟨aw, ah, at_⟩ := a
  obtain ⟨pi, pa, pc, pb, qa, qc, qb⟩ := P
  obtain ⟨ba, bc, bs, ia, ic, is, oa, oc, os⟩ := S
  unfold ArchV.val PackV.val SpotV.val at HA
  unfold ArchV.val PackV.val SpotV.val
  dsimp only at HA HR HC h1 h2 h3 hpi hbl hol ⊢
  rw [hbl, hol] at HA ⊢
  obtain ⟨nb, hnb⟩ : ∃ n, n = pb.length := ⟨_, rfl⟩
  obtain ⟨ni, hni⟩ : ∃ n, n = is.length := ⟨_, rfl⟩
  obtain ⟨no, hno⟩ : ∃ n, n = qb.length := ⟨_, rfl⟩
  rw [← hnb] at HA HR HC h1 ⊢
  rw [← hni] at HA HR HC h3 hpi ⊢
  rw [← hno] at HA h2 ⊢
  subst hpi
  clear hbl hol hnb hni hno
  obtain ⟨pi, hpi⟩ : ∃ p, p = (ni : Int) := ⟨_, rfl⟩
  rw [← hpi] at HA
  rw [← hpi]
  obtain ⟨H, hH⟩ : ∃ h, h = w.heap.size := ⟨_, rfl⟩
  obtain ⟨w1, hw1⟩ : ∃ W, W = ((w.alloc (.cells #[.int .i64 aw, .int .i64 ah, .int .i64 at_] 23)).alloc (.cells #[.int .i64 pi, .slice pa nb pc, .slice qa no qc] 27)).alloc (.cells #[.slice ba nb bc, .slice ia ni ic, .slice oa no oc] 29) := ⟨_, rfl⟩
  have HX1 : Hid (Below w.heap.size w w1) := Lib.hid (by rw [hw1]; exact (((Below.refl _ _).alloc (Nat.le_refl _) _).alloc (by simp) _).alloc (by simp <;> omega) _)
  have hcl : w1.cell? ⟨H, 0, none⟩ = some (.int .i64 aw) ∧ w1.cell? ⟨H, 1, none⟩ = some (.int .i64 ah) ∧ w1.cell? ⟨H, 2, none⟩ = some (.int .i64 at_) ∧ w1.cell? ⟨H + 1, 0, none⟩ = some (.int .i64 pi) ∧ w1.cell? ⟨H + 1, 1, none⟩ = some (.slice pa nb pc) ∧ w1.cell? ⟨H + 1, 2, none⟩ = some (.slice qa no qc) ∧ w1.cell? ⟨H + 1 + 1, 0, none⟩ = some (.slice ba nb bc) ∧ w1.cell? ⟨H + 1 + 1, 1, none⟩ = some (.slice ia ni ic) ∧ w1.cell? ⟨H + 1 + 1, 2, none⟩ = some (.slice oa no oc) := by
    have e2 : ∀ W : World, W.heap.size = H + 1 + 1 → (W.alloc (.cells #[.slice ba nb bc, .slice ia ni ic, .slice oa no oc] 29)).cell? ⟨H + 1 + 1, 0, none⟩ = some (.slice ba nb bc) ∧ (W.alloc (.cells #[.slice ba nb bc, .slice ia ni ic, .slice oa no oc] 29)).cell? ⟨H + 1 + 1, 1, none⟩ = some (.slice ia ni ic) ∧ (W.alloc (.cells #[.slice ba nb bc, .slice ia ni ic, .slice oa no oc] 29)).cell? ⟨H + 1 + 1, 2, none⟩ = some (.slice oa no oc) := fun W h => by rw [← h]; exact ⟨by simp, by simp, by simp⟩
    have e3 := e2 ((w.alloc (.cells #[.int .i64 aw, .int .i64 ah, .int .i64 at_] 23)).alloc (.cells #[.int .i64 pi, .slice pa nb pc, .slice qa no qc] 27)) (by rw [hH]; simp)
    rw [hw1]
    refine ⟨?_, ?_, ?_, ?_, ?_, ?_, e3⟩
    · rw [hH]; exact cell_alloc _ (cell_alloc _ (by simp))
    · rw [hH]; exact cell_alloc _ (cell_alloc _ (by simp))
    · rw [hH]; exact cell_alloc _ (cell_alloc _ (by simp))
    · rw [hH]; exact cell_alloc _ (by simp)
    · rw [hH]; exact cell_alloc _ (by simp)
    · rw [hH]; exact cell_alloc _ (by simp)
  have HK : Hid (∀ W, Below w1.heap.size w1 W → W.cell? ⟨H, 0, none⟩ = some (.int .i64 aw) ∧ W.cell? ⟨H, 1, none⟩ = some (.int .i64 ah) ∧ W.cell? ⟨H, 2, none⟩ = some (.int .i64 at_) ∧ W.cell? ⟨H + 1, 0, none⟩ = some (.int .i64 pi) ∧ W.cell? ⟨H + 1, 1, none⟩ = some (.slice pa nb pc) ∧ W.cell? ⟨H + 1, 2, none⟩ = some (.slice qa no qc) ∧ W.cell? ⟨H + 1 + 1, 0, none⟩ = some (.slice ba nb bc) ∧ W.cell? ⟨H + 1 + 1, 1, none⟩ = some (.slice ia ni ic) ∧ W.cell? ⟨H + 1 + 1, 2, none⟩ = some (.slice oa no oc)) := Lib.hid (fun W hW => by
    have cl : ∀ {b j : Nat} {u : Value}, w1.cell? ⟨b, j, none⟩ = some u → W.cell? ⟨b, j, none⟩ = some u := fun h => (hW.cell (p := ⟨_, _, none⟩) (World.block_lt_of_cell? w1 _ h)).trans h
    obtain ⟨a0, a1, a2, p0, p1, p2, s0, s1, s2⟩ := hcl
    exact ⟨cl a0, cl a1, cl a2, cl p0, cl p1, cl p2, cl s0, cl s1, cl s2⟩)
  have HXW : Hid (∀ W, Below w1.heap.size w1 W → Below w.heap.size w W) := Lib.hid fun W hW => HX1.out.trans (hW.mono HX1.out.size)
  have HW1 := Lib.hid hw1
  have HHH := Lib.hid hH
  clear hw1 hH hcl
  have HSum : Hid (IntKind.i64.wrap (pi + (nb : Int)) = ((ni + nb : Nat) : Int)) := Lib.hid (by rw [hpi, show (ni : Int) + (nb : Int) = ((ni + nb : Nat) : Int) by omega]; exact wrapSmall (by omega) (by omega))
  have hsum : pi + (nb : Int) = ((ni + nb : Nat) : Int) := by omega
  clear hpi
  obtain ⟨N, hN⟩ : ∃ N, N = ni + nb := ⟨_, rfl⟩
  rw [← hN] at HA HR HC HSum hsum
  have hN9 : N ≤ 1000 := by omega
  have HNn := Lib.hid hN
  clear hN
  go_enter Try.func30, Try.ntmps30
  go_wp2_with fail
  rw [← HW1.out]
  (try rw [← HHH.out])
  go_loopw [7, 8] (fun cv kv wr => ∃ (k : Nat) (c : Int), k ≤ N ∧ kv = .int .i64 k ∧ cv = .int .i64 c ∧ Hid (c = costTo E k ∧ Below w1.heap.size w1 wr)) (fun _ kv _ => N - (intOf kv).toNat)
  case atStart => exact ⟨0, 0, by omega, rfl, rfl, Lib.hid ⟨rfl, Below.refl _ _⟩⟩
  case round =>
    obtain ⟨k, c, hk, rfl, rfl, HI⟩ := hrel
    obtain ⟨a0, a1, a2, p0, p1, p2, s0, s1, s2⟩ := HK.out wr HI.out.2
    by_cases hlt : k < N
    · go_wp2_with fail
      refine Calls.mono (HA.out wr k (HXW.out _ HI.out.2) hlt) ?_
      rintro e w2 ⟨v, cc, rfl, hsq, hb2⟩
      have HB2 : Hid (Below w1.heap.size w1 w2) := Lib.hid (HI.out.2.trans (hb2.mono HI.out.2.size))
      have HSq := Lib.hid hsq
      clear hsq hb2
      go_wp2_with fail
      refine Calls.mono (HR.out w2 k v cc hlt HSq.out) ?_
      rintro e w3 ⟨rfl, rfl⟩
      have e1 := costTo_snoc E k
      have e2 := costTo_in HEin.out (k + 1)
      rw [← HI.out.1] at e1
      obtain ⟨r, hr⟩ : ∃ r, r = reachE E (k : Int) := ⟨_, rfl⟩
      rw [← hr] at e1 ⊢
      have F1 : wrap64 (c + r) = c + r := wrap64s (by omega) (by omega)
      have HE1 := Lib.hid e1
      clear e1 e2 hr a0 a1 a2 p0 p1 p2 s0 s1 s2
      go_wp2_with fail
      go_roundw
      case rel => exact ⟨k + 1, c + r, by omega, by go_num, (by first | rfl | trivial | (go_simp; done)), Lib.hid ⟨HE1.out.symm, HB2.out⟩⟩
      case measure => simp [intOf]; omega
    · obtain rfl : k = N := by omega
      go_wp2_with fail
      go_ret
      exact ⟨by rw [HC.out, ← HI.out.1]; rfl, HXW.out _ HI.out.2⟩
end Go.Proofs.Ytholafodachjnaa
