/- What spots cost, by boxes. -/
import Derived.Deep.CutRange
import Derived.Test.YtholafodachjnaaZ21
namespace Go.Proofs.Ytholafodachjnaa
open Go.RowKit Go.Shelf
set_option linter.unusedVariables false
set_option linter.unusedSimpArgs false

theorem plan_cells (w : World) (v : Array Value) (k : Nat) (u : Value) (h : v[k]? = some u) : (w.alloc (.cells v 53)).cell? ⟨w.heap.size, k, none⟩ = some u := by
  simp [h]
set_option maxRecDepth 100000 in
set_option maxHeartbeats 16000000 in
theorem cost29 (w : World) (a : ArchV) (P : PackV) (S : SpotV) (hP : PackAt w P) (hS : SpotAt w S) (rp : RightP a P.data) (rs : RightS a P.data S.data) (h1 : P.bs.length ≤ 500) (h2 : P.os.length ≤ 500) (h3 : S.is.length ≤ 500) :
    Calls Try.prog 29 #[planVal a P S] w fun e w' => e = .returned (.int .i64 (costL a P.data S.data)) ∧ Below w.heap.size w w' := by
  have HTile : Hid (∀ W B N k Ev n, 0 ≤ n ∧ n < a.w * a.h → k < N → W.rowIs B 80 (N * 6) (boxCell Ev) → Calls Try.prog 51 #[planVal a P S, .pointer (some ⟨B, k * 6, none⟩), .int .i64 n] W fun e w' => e = .returned (.tuple #[]) ∧ Met W B (N * 6) (k * 6) 80 (boxCell Ev) ((spanL (xsOf Ev (k : Int))).meet (tileX a n)) ((spanL (ysOf Ev (k : Int))).meet (tileY a n)) w') :=
    Lib.hid fun W B N k Ev n hn hk hr => by
      have hw := rp.w
      have hh := rp.h
      have h256 : a.w * a.h ≤ 16 * 16 := Int.mul_le_mul hw.2 hh.2 (by omega) (by omega)
      exact tile51 W a P S B (N * 6) (k * 6) 80 _ _ _ n hr (by omega) (boxCell_spans Ev k) rp.w (by omega)
  have HPad : Hid (∀ W B N k Ev n, 0 ≤ n ∧ n < 2 * a.w + 2 * a.h → k < N → W.rowIs B 80 (N * 6) (boxCell Ev) → Calls Try.prog 50 #[planVal a P S, .pointer (some ⟨B, k * 6, none⟩), .int .i64 n] W fun e w' => e = .returned (.tuple #[]) ∧ Met W B (N * 6) (k * 6) 80 (boxCell Ev) ((spanL (xsOf Ev (k : Int))).meet (padX a n)) ((spanL (ysOf Ev (k : Int))).meet (padY a n)) w') :=
    Lib.hid fun W B N k Ev n hn hk hr => pad50 W a P S B (N * 6) (k * 6) 80 _ _ _ n hr (by omega) (boxCell_spans Ev k) rp.w rp.h hn
  obtain ⟨D, hD⟩ : ∃ D, D = P.data := ⟨_, rfl⟩
  obtain ⟨E, hE⟩ : ∃ E, E = S.data := ⟨_, rfl⟩
  have hDi : D.ins = P.ins := by rw [hD]
  have hDb : D.bs.length = P.bs.length := by rw [hD]; simp
  have hDk : ∀ i, (D.blk i).ins = (P.bs.getD i default).ins := fun i => by rw [hD, data_blk]
  have hDo : D.outs = P.os := by rw [hD]
  have hEb : E.bs = S.bs := by rw [hE]
  have hEi : E.is = S.is := by rw [hE]
  have hEo : E.os = S.os := by rw [hE]
  rw [← hD] at rp
  rw [← hD, ← hE] at rs
  rw [← hD, ← hE]
  have hpi : P.ins = ((S.is.length : Nat) : Int) := by rw [← hDi, rs.i, hEi]
  have hbl : S.bs.length = P.bs.length := by rw [← hEb, rs.b, hDb]
  have hol : S.os.length = P.os.length := by rw [← hEo, rs.o, hDo]
  unfold planVal at HTile HPad ⊢
  rw [hbl, hol] at HTile HPad ⊢
  obtain ⟨aw, ah, at_⟩ := a
  obtain ⟨pi, pa, pc, pb, qa, qc, qb⟩ := P
  obtain ⟨ba, bc, bs, ia, ic, is, oa, oc, os⟩ := S
  dsimp only at hDi hDb hDk hDo hEb hEi hEo h1 h2 h3 hpi hbl hol HTile HPad ⊢
  obtain ⟨A, hA⟩ : ∃ A : ArchV, A = ⟨aw, ah, at_⟩ := ⟨_, rfl⟩
  rw [← hA] at rp rs HTile HPad ⊢
  obtain ⟨nb, hnb⟩ : ∃ n, n = pb.length := ⟨_, rfl⟩
  obtain ⟨ni, hni⟩ : ∃ n, n = is.length := ⟨_, rfl⟩
  obtain ⟨no, hno⟩ : ∃ n, n = qb.length := ⟨_, rfl⟩
  rw [← hnb] at h1 HTile HPad ⊢
  rw [← hni] at h3 hpi HTile HPad ⊢
  rw [← hno] at h2 HTile HPad ⊢
  have HPb : Hid (∀ W i, Below w.heap.size w W → i < nb → ∃ b o La Lc, pa = some ⟨b, o, none⟩ ∧ W.cell? ⟨b, o + i * 4, none⟩ = some (.slice La (D.blk i).ins.length Lc) ∧ Seq W La (D.blk i).ins.length (ints (D.blk i).ins)) := Lib.hid fun W i hW hi => by
    have hPW := hP.below hW (Nat.le_refl _)
    obtain ⟨b, o, hb, _, c0, _⟩ := hPW.blk i (by rw [hnb] at hi; exact hi)
    refine ⟨b, o, _, _, hb, by rw [hDk]; exact c0, ?_⟩
    rw [hDk]
    exact (hPW.each _ (getD_mem pb default (by rw [hnb] at hi; exact hi))).1
  have HSb : Hid (∀ W i, Below w.heap.size w W → i < nb → ∃ b o, ba = some ⟨b, o, none⟩ ∧ W.cell? ⟨b, o + i, none⟩ = some (.int .i64 (E.bs.getD i 0))) := Lib.hid fun W i hW hi => by
    obtain ⟨b, o, hb, _, hc⟩ := (hS.b.below hW (Nat.le_refl _)).at i (by dsimp only; omega)
    exact ⟨b, o, hb, by rw [hEb]; exact hc i (by dsimp only; omega)⟩
  have HSi : Hid (∀ W i, Below w.heap.size w W → i < ni → ∃ b o, ia = some ⟨b, o, none⟩ ∧ W.cell? ⟨b, o + i, none⟩ = some (.int .i64 (E.is.getD i 0))) := Lib.hid fun W i hW hi => by
    obtain ⟨b, o, hb, _, hc⟩ := (hS.i.below hW (Nat.le_refl _)).at i (by dsimp only; omega)
    exact ⟨b, o, hb, by rw [hEi]; exact hc i (by dsimp only; omega)⟩
  have HSo : Hid (∀ W i, Below w.heap.size w W → i < no → ∃ b o, oa = some ⟨b, o, none⟩ ∧ W.cell? ⟨b, o + i, none⟩ = some (.int .i64 (E.os.getD i 0))) := Lib.hid fun W i hW hi => by
    obtain ⟨b, o, hb, _, hc⟩ := (hS.o.below hW (Nat.le_refl _)).at i (by dsimp only; omega)
    exact ⟨b, o, hb, by rw [hEo]; exact hc i (by dsimp only; omega)⟩
  have HPo : Hid (∀ W i, Below w.heap.size w W → i < no → ∃ b o, qa = some ⟨b, o, none⟩ ∧ W.cell? ⟨b, o + i, none⟩ = some (.int .i64 (D.outs.getD i 0))) := Lib.hid fun W i hW hi => by
    obtain ⟨b, o, hb, _, hc⟩ := (hP.outs.below hW (Nat.le_refl _)).at i (by dsimp only; omega)
    exact ⟨b, o, hb, by rw [hDo]; exact hc i (by dsimp only; omega)⟩
  obtain ⟨N, hN⟩ : ∃ N, N = ni + nb := ⟨_, rfl⟩
  have hN9 : N ≤ 1000 := by omega
  have HT : Hid (∀ w1 W B k Ev i, i < nb → k < N → BoxS w1 B N Ev W → Calls Try.prog 51 #[.agg #[.int .i64 aw, .int .i64 ah, .int .i64 at_, .int .i64 pi, .slice pa nb pc, .slice qa no qc, .slice ba nb bc, .slice ia ni ic, .slice oa no oc], .pointer (some ⟨B, k * 6, none⟩), .int .i64 (E.bs.getD i 0)] W fun e w' => e = .returned (.tuple #[]) ∧ BoxS w1 B N (Ev ++ [tileEv A (k : Int) (E.bs.getD i 0)]) w') := Lib.hid fun w1 W B k Ev i hi hk hB => by
    have hin := rs.br _ (getD_memI (l := E.bs) (k := i) (by rw [rs.b, hDb, ← hnb]; exact hi))
    refine Calls.mono (HTile.out W B N k Ev (E.bs.getD i 0) (by rw [hA] at hin; exact hin) hk hB.row) ?_
    rintro e w' ⟨rfl, hm⟩
    exact ⟨rfl, hB.met hm⟩
  have HU : Hid (∀ w1 W B k Ev n, 0 ≤ n ∧ n < 2 * A.w + 2 * A.h → k < N → BoxS w1 B N Ev W → Calls Try.prog 50 #[.agg #[.int .i64 aw, .int .i64 ah, .int .i64 at_, .int .i64 pi, .slice pa nb pc, .slice qa no qc, .slice ba nb bc, .slice ia ni ic, .slice oa no oc], .pointer (some ⟨B, k * 6, none⟩), .int .i64 n] W fun e w' => e = .returned (.tuple #[]) ∧ BoxS w1 B N (Ev ++ [padEv A (k : Int) n]) w') := Lib.hid fun w1 W B k Ev n hn hk hB => by
    refine Calls.mono (HPad.out W B N k Ev n (by rw [hA] at hn; exact hn) hk hB.row) ?_
    rintro e w' ⟨rfl, hm⟩
    exact ⟨rfl, hB.met hm⟩
  have HRi : Hid (∀ i, i < ni → 0 ≤ E.is.getD i 0 ∧ E.is.getD i 0 < 2 * A.w + 2 * A.h) := Lib.hid fun i hi => rs.ir _ (getD_memI (by rw [hEi, ← hni]; exact hi))
  have HRo : Hid (∀ i, i < no → 0 ≤ E.os.getD i 0 ∧ E.os.getD i 0 < 2 * A.w + 2 * A.h) := Lib.hid fun i hi => rs.or _ (getD_memI (by rw [rs.o, hDo, ← hno]; exact hi))
  have HB4 : Hid (∀ i, i < nb → (D.blk i).ins.length ≤ 4 ∧ ∀ x ∈ (D.blk i).ins, 0 ≤ x ∧ x < (N : Int)) := Lib.hid fun i hi => by
    obtain ⟨e1, e2⟩ := rp.blk i (by rw [hDb, ← hnb]; exact hi)
    refine ⟨e1, fun x hx => ?_⟩
    have := e2 x hx
    rw [hDi, hDb, ← hnb, hpi] at this
    omega
  have HDo : Hid (∀ j, j < no → 0 ≤ D.outs.getD j 0 ∧ D.outs.getD j 0 < (N : Int)) := Lib.hid fun j hj => by
    have := rp.outs _ (getD_memI (l := D.outs) (k := j) (by rw [hDo, ← hno]; exact hj))
    rw [hDi, hDb, ← hnb, hpi] at this
    omega
  have HEin : Hid (EvIn (evs A D E)) := Lib.hid (evs_in rp rs)
  have HCo : Hid (costL A D E = costTo (evs A D E) N) := Lib.hid (by unfold costL; rw [hEi, ← hni, hDb, ← hnb, hN])
  obtain ⟨C, hC⟩ : ∃ C, C = costL A D E := ⟨_, rfl⟩
  rw [← hC] at HCo
  rw [← hC]
  clear hC
  have HEv : Hid (evs A D E = evI A E ni ++ evB A D E nb ++ evO A D E no) := Lib.hid (by unfold evs; rw [hEi, ← hni, rs.b, hDb, ← hnb, hDo, ← hno])
  have HDi : Hid (D.ins = (ni : Int)) := Lib.hid (by rw [hDi, hpi])
  have HSum : Hid (IntKind.i64.wrap (pi + (nb : Int)) = (N : Int)) := Lib.hid (by rw [hpi, show (ni : Int) + (nb : Int) = (N : Int) by omega]; exact wrapSmall (by omega) (by omega))
  have HPi := Lib.hid hpi
  have HNn := Lib.hid hN
  obtain ⟨H, hH⟩ : ∃ h, h = w.heap.size := ⟨_, rfl⟩
  obtain ⟨w1, hw1⟩ : ∃ W, W = w.alloc (.cells #[.int .i64 aw, .int .i64 ah, .int .i64 at_, .int .i64 pi, .slice pa nb pc, .slice qa no qc, .slice ba nb bc, .slice ia ni ic, .slice oa no oc] 53) := ⟨_, rfl⟩
  have HX1 : Hid (Below w.heap.size w w1) := Lib.hid (by rw [hw1]; exact (Below.refl _ _).alloc (Nat.le_refl _) _)
  have hcl : w1.cell? ⟨H, 0, none⟩ = some (.int .i64 aw) ∧ w1.cell? ⟨H, 1, none⟩ = some (.int .i64 ah) ∧ w1.cell? ⟨H, 2, none⟩ = some (.int .i64 at_) ∧ w1.cell? ⟨H, 3, none⟩ = some (.int .i64 pi) ∧ w1.cell? ⟨H, 4, none⟩ = some (.slice pa nb pc) ∧ w1.cell? ⟨H, 5, none⟩ = some (.slice qa no qc) ∧ w1.cell? ⟨H, 6, none⟩ = some (.slice ba nb bc) ∧ w1.cell? ⟨H, 7, none⟩ = some (.slice ia ni ic) ∧ w1.cell? ⟨H, 8, none⟩ = some (.slice oa no oc) := by
    rw [hw1, hH]
    exact ⟨plan_cells _ _ _ _ rfl, plan_cells _ _ _ _ rfl, plan_cells _ _ _ _ rfl, plan_cells _ _ _ _ rfl, plan_cells _ _ _ _ rfl, plan_cells _ _ _ _ rfl, plan_cells _ _ _ _ rfl, plan_cells _ _ _ _ rfl, plan_cells _ _ _ _ rfl⟩
  have HK : Hid (∀ W, Below w1.heap.size w1 W → W.cell? ⟨H, 0, none⟩ = some (.int .i64 aw) ∧ W.cell? ⟨H, 1, none⟩ = some (.int .i64 ah) ∧ W.cell? ⟨H, 2, none⟩ = some (.int .i64 at_) ∧ W.cell? ⟨H, 3, none⟩ = some (.int .i64 pi) ∧ W.cell? ⟨H, 4, none⟩ = some (.slice pa nb pc) ∧ W.cell? ⟨H, 5, none⟩ = some (.slice qa no qc) ∧ W.cell? ⟨H, 6, none⟩ = some (.slice ba nb bc) ∧ W.cell? ⟨H, 7, none⟩ = some (.slice ia ni ic) ∧ W.cell? ⟨H, 8, none⟩ = some (.slice oa no oc)) := Lib.hid (fun W hW => by
    have cl : ∀ {b j : Nat} {u : Value}, w1.cell? ⟨b, j, none⟩ = some u → W.cell? ⟨b, j, none⟩ = some u := fun h => (hW.cell (p := ⟨_, _, none⟩) (World.block_lt_of_cell? w1 _ h)).trans h
    obtain ⟨a0, a1, a2, p0, p1, p2, s0, s1, s2⟩ := hcl
    exact ⟨cl a0, cl a1, cl a2, cl p0, cl p1, cl p2, cl s0, cl s1, cl s2⟩)
  have HXW : Hid (∀ W, Below w1.heap.size w1 W → Below w.heap.size w W) := Lib.hid fun W hW => HX1.out.trans (hW.mono HX1.out.size)
  obtain ⟨B, hB⟩ : ∃ B, B = w1.heap.size := ⟨_, rfl⟩
  obtain ⟨w2, hw2⟩ : ∃ W, W = w1.alloc (.cells (madeCells zeroBox (N * 6)) 80) := ⟨_, rfl⟩
  have HB0 : Hid (BoxS w1 B N (evI A E 0) w2) := Lib.hid (by rw [hB, hw2]; exact BoxS.start w1 N)
  have hmk := run_make_box N (by omega)
  have HW1 := Lib.hid hw1
  have HW2 := Lib.hid hw2
  have HHH := Lib.hid hH
  have HBB := Lib.hid hB
  have HB1 : Hid (B = H + 1) := Lib.hid (by rw [hB, hw1, hH]; simp)
  have hsum : wrap64 (pi + (nb : Int)) = (N : Int) := by rw [← IntWalk.i64_left]; exact HSum.out
  have hsum2 : IntKind.i64.wrap (pi + (nb : Int)) = (N : Int) := HSum.out
  obtain ⟨a0, a1, a2, p0, p1, p2, s0, s1, s2⟩ := hcl
  clear hw1 hw2 hH hB hD hE hDi hDb hDk hDo hEb hEi hEo hP hS rp rs hA hbl hol hnb hni hno hN hpi HTile HPad
  go_enter Try.func29, Try.ntmps29
  go_wp2_with fail
  rw [← HW1.out]
  rw [← HW2.out]
  rw [← HHH.out]
  rw [← HB1.out]
  clear hmk a0 a1 a2 p0 p1 p2 s0 s1 s2
  go_loopw [4, 5, 28] (fun _ _ iv wr => ∃ i : Nat, i ≤ ni ∧ iv = .int .i64 i ∧ Hid (BoxS w1 B N (evI A E i) wr)) (fun _ _ iv _ => ni - (intOf iv).toNat)
  case atStart => exact ⟨0, by omega, rfl, HB0⟩
  case round =>
    obtain ⟨i, hi, rfl, HS⟩ := hrel
    by_cases hlt : i < ni
    · obtain ⟨eb, eo, hadr, hcel⟩ := HSi.out w1 i HX1.out hlt
      obtain ⟨x, hx⟩ : ∃ x, x = E.is.getD i 0 := ⟨_, rfl⟩
      rw [← hx] at hcel
      have HEl : Hid (∀ W, Below w1.heap.size w1 W → W.cell? ⟨eb, eo + i, none⟩ = some (.int .i64 x)) := Lib.hid fun W hW => (hW.cell (p := ⟨_, _, none⟩) (World.block_lt_of_cell? w1 _ hcel)).trans hcel
      have HXx := Lib.hid hx
      subst hadr
      clear hcel hx
      have e0 := HEl.out wr HS.out.below
      have hiN : i < N := by have := HNn.out; omega
      go_wp2_with fail
      clear e0
      have HKE : Hid (∀ W, Below w1.heap.size w1 W → W.cell? ⟨H, 0, none⟩ = some (.int .i64 aw) ∧ W.cell? ⟨H, 1, none⟩ = some (.int .i64 ah) ∧ W.cell? ⟨H, 2, none⟩ = some (.int .i64 at_) ∧ W.cell? ⟨H, 3, none⟩ = some (.int .i64 pi) ∧ W.cell? ⟨H, 4, none⟩ = some (.slice pa nb pc) ∧ W.cell? ⟨H, 5, none⟩ = some (.slice qa no qc) ∧ W.cell? ⟨H, 6, none⟩ = some (.slice ba nb bc) ∧ W.cell? ⟨H, 7, none⟩ = some (.slice (some ⟨eb, eo, none⟩) ni ic) ∧ W.cell? ⟨H, 8, none⟩ = some (.slice oa no oc) ∧ W.cell? ⟨eb, eo + i, none⟩ = some (.int .i64 x)) := Lib.hid fun W hW => by
        obtain ⟨a0, a1, a2, p0, p1, p2, s0, s1, s2⟩ := HK.out W hW
        exact ⟨a0, a1, a2, p0, p1, p2, s0, s1, s2, HEl.out W hW⟩
      refine wp_region_held_drew (S := fun w' => w'.cell? ⟨H, 0, none⟩ = some (.int .i64 aw) ∧ w'.cell? ⟨H, 1, none⟩ = some (.int .i64 ah) ∧ w'.cell? ⟨H, 2, none⟩ = some (.int .i64 at_) ∧ w'.cell? ⟨H, 3, none⟩ = some (.int .i64 pi) ∧ w'.cell? ⟨H, 4, none⟩ = some (.slice pa nb pc) ∧ w'.cell? ⟨H, 5, none⟩ = some (.slice qa no qc) ∧ w'.cell? ⟨H, 6, none⟩ = some (.slice ba nb bc) ∧ w'.cell? ⟨H, 7, none⟩ = some (.slice (some ⟨eb, eo, none⟩) ni ic) ∧ w'.cell? ⟨H, 8, none⟩ = some (.slice oa no oc) ∧ w'.cell? ⟨eb, eo + i, none⟩ = some (.int .i64 x)) (by kernel_rfl) (HKE.out _ HS.out.drew.below) (fun hHeld => ?_)
      refine wpAnyH_take (i := 0) (v := ?_) (by simp only [List.getElem?_toArray, List.getElem?_cons_succ, List.getElem?_cons_zero]; rfl) (by kernel_rfl) (by kernel_rfl) (by kernel_rfl) (by intro _ _ _ h; exact h) (Or.inl ⟨by rfl, ?_⟩) (by assumption) ?_
      rotate_left
      · intro w hSw; (try dsimp only at hSw); go_simp; try with_reducible rfl
      try simp only [Act.put, List.setIfInBounds_toArray, List.set_cons_zero, List.set_cons_succ]
      refine wpAnyH_take (i := 1) (v := ?_) (by simp only [List.getElem?_toArray, List.getElem?_cons_succ, List.getElem?_cons_zero]; rfl) (by kernel_rfl) (by kernel_rfl) (by kernel_rfl) (by intro _ _ _ h; exact h) (Or.inl ⟨by rfl, ?_⟩) (by assumption) ?_
      rotate_left
      · intro w hSw; (try dsimp only at hSw); go_simp; try with_reducible rfl
      try simp only [Act.put, List.setIfInBounds_toArray, List.set_cons_zero, List.set_cons_succ]
      refine wpAnyH_take (i := 2) (v := ?_) (by simp only [List.getElem?_toArray, List.getElem?_cons_succ, List.getElem?_cons_zero]; rfl) (by kernel_rfl) (by kernel_rfl) (by kernel_rfl) (by intro _ _ _ h; exact h) (Or.inl ⟨by rfl, ?_⟩) (by assumption) ?_
      rotate_left
      · intro w hSw; (try dsimp only at hSw); go_simp; try with_reducible rfl
      try simp only [Act.put, List.setIfInBounds_toArray, List.set_cons_zero, List.set_cons_succ]
      refine wpAnyH_take (i := 3) (v := ?_) (by simp only [List.getElem?_toArray, List.getElem?_cons_succ, List.getElem?_cons_zero]; rfl) (by kernel_rfl) (by kernel_rfl) (by kernel_rfl) (by intro _ _ _ h; exact h) (Or.inl ⟨by rfl, ?_⟩) (by assumption) ?_
      rotate_left
      · intro w hSw; (try dsimp only at hSw); go_simp; first | with_reducible rfl | rw [if_pos (by omega)]
      try simp only [Act.put, List.setIfInBounds_toArray, List.set_cons_zero, List.set_cons_succ]
      refine wpAnyH_take (i := 4) (v := ?_) (by simp only [List.getElem?_toArray, List.getElem?_cons_succ, List.getElem?_cons_zero]; rfl) (by kernel_rfl) (by kernel_rfl) (by kernel_rfl) (by intro _ _ _ h; exact h) (Or.inl ⟨by rfl, ?_⟩) (by assumption) ?_
      rotate_left
      · intro w hSw; (try dsimp only at hSw); go_simp; try with_reducible rfl
      try simp only [Act.put, List.setIfInBounds_toArray, List.set_cons_zero, List.set_cons_succ]
      refine wpAnyH_ready (rs := [5]) (by kernel_rfl) (by simp) ?_
      refine AllReadyH.cons (o := _) (by simp only [List.getElem?_toArray, List.getElem?_cons_succ, List.getElem?_cons_zero]; rfl) (fun K hK => ?_) AllReadyH.nil
      go_simp
      go_at_call 50
      refine Calls.mono (HU.out w1 _ B i _ x (by rw [HXx.out]; exact HRi.out i hlt) (by have := HNn.out; omega) HS.out.drew) ?_
      rintro e w3 ⟨rfl, hb3⟩
      have HB3 := Lib.hid hb3
      clear hb3
      go_simp
      refine hK.out _ _ (by exact HKE.out _ HB3.out.below) (fun hHeld => ?_)
      clear hK K
      try simp only [Act.put, List.setIfInBounds_toArray, List.set_cons_zero, List.set_cons_succ]
      refine wpAnyH_done (by kernel_rfl) ?_ _
      go_wp2_with fail
      go_roundw
      case rel => exact ⟨i + 1, by omega, by go_num, Lib.hid (by rw [evI_snoc, ← HXx.out]; exact HB3.out)⟩
      case measure => simp [intOf]; omega
    · have hin : i = ni := by omega
      have HS1 : Hid (BoxS w1 B N (evI A E ni ++ evB A D E 0) wr) := Lib.hid (by
        rw [← hin]
        show BoxS w1 B N (evI A E i ++ []) wr
        rw [List.append_nil]; exact HS.out)
      obtain ⟨a0, a1, a2, p0, p1, p2, s0, s1, s2⟩ := HK.out wr HS.out.below
      clear HS HB0
      subst hin
      go_wp2_with fail
      clear a0 a1 a2 p0 p1 p2 s0 s1 s2
      go_loopw [6, 7, 9, 44] (fun _ _ _ jv wr => ∃ j : Nat, j ≤ nb ∧ jv = .int .i64 j ∧ Hid (BoxS w1 B N (evI A E i ++ evB A D E j) wr)) (fun _ _ _ jv _ => nb - (intOf jv).toNat)
      case atStart => exact ⟨0, by omega, rfl, HS1⟩
      case round =>
        obtain ⟨wx, hwx⟩ : ∃ W, W = wr := ⟨_, rfl⟩
        subst hwx
        obtain ⟨j, hj, rfl, HS⟩ := hrel
        by_cases hltj : j < nb
        · obtain ⟨eb, eo, hadr, hcel⟩ := HSb.out w1 j HX1.out hltj
          obtain ⟨x, hx⟩ : ∃ x, x = E.bs.getD j 0 := ⟨_, rfl⟩
          rw [← hx] at hcel
          have HEl : Hid (∀ W, Below w1.heap.size w1 W → W.cell? ⟨eb, eo + j, none⟩ = some (.int .i64 x)) := Lib.hid fun W hW => (hW.cell (p := ⟨_, _, none⟩) (World.block_lt_of_cell? w1 _ hcel)).trans hcel
          have HXx := Lib.hid hx
          subst hadr
          clear hcel hx
          have e0 := HEl.out wx HS.out.below
          obtain ⟨q0, hq0⟩ : ∃ q, q = i + j := ⟨_, rfl⟩
          have hq0N : q0 < N := by have := HNn.out; omega
          have HSI : Hid (IntKind.i64.wrap (pi + (j : Int)) = (q0 : Int)) := Lib.hid (by rw [HPi.out, show (i : Int) + (j : Int) = (q0 : Int) by omega]; exact wrapSmall (by omega) (by omega))
          have HQ0 := Lib.hid hq0
          clear hq0
          go_wp2_with fail
          clear e0
          have HKE : Hid (∀ W, Below w1.heap.size w1 W → W.cell? ⟨H, 0, none⟩ = some (.int .i64 aw) ∧ W.cell? ⟨H, 1, none⟩ = some (.int .i64 ah) ∧ W.cell? ⟨H, 2, none⟩ = some (.int .i64 at_) ∧ W.cell? ⟨H, 3, none⟩ = some (.int .i64 pi) ∧ W.cell? ⟨H, 4, none⟩ = some (.slice pa nb pc) ∧ W.cell? ⟨H, 5, none⟩ = some (.slice qa no qc) ∧ W.cell? ⟨H, 6, none⟩ = some (.slice (some ⟨eb, eo, none⟩) nb bc) ∧ W.cell? ⟨H, 7, none⟩ = some (.slice ia i ic) ∧ W.cell? ⟨H, 8, none⟩ = some (.slice oa no oc) ∧ W.cell? ⟨eb, eo + j, none⟩ = some (.int .i64 x)) := Lib.hid fun W hW => by
            obtain ⟨a0, a1, a2, p0, p1, p2, s0, s1, s2⟩ := HK.out W hW
            exact ⟨a0, a1, a2, p0, p1, p2, s0, s1, s2, HEl.out W hW⟩
          refine wp_region_held_drew (S := fun w' => w'.cell? ⟨H, 0, none⟩ = some (.int .i64 aw) ∧ w'.cell? ⟨H, 1, none⟩ = some (.int .i64 ah) ∧ w'.cell? ⟨H, 2, none⟩ = some (.int .i64 at_) ∧ w'.cell? ⟨H, 3, none⟩ = some (.int .i64 pi) ∧ w'.cell? ⟨H, 4, none⟩ = some (.slice pa nb pc) ∧ w'.cell? ⟨H, 5, none⟩ = some (.slice qa no qc) ∧ w'.cell? ⟨H, 6, none⟩ = some (.slice (some ⟨eb, eo, none⟩) nb bc) ∧ w'.cell? ⟨H, 7, none⟩ = some (.slice ia i ic) ∧ w'.cell? ⟨H, 8, none⟩ = some (.slice oa no oc) ∧ w'.cell? ⟨eb, eo + j, none⟩ = some (.int .i64 x)) (by kernel_rfl) (HKE.out _ HS.out.drew.below) (fun hHeld => ?_)
          refine wpAnyH_take (i := 0) (v := ?_) (by simp only [List.getElem?_toArray, List.getElem?_cons_succ, List.getElem?_cons_zero]; rfl) (by kernel_rfl) (by kernel_rfl) (by kernel_rfl) (by intro _ _ _ h; exact h) (Or.inl ⟨by rfl, ?_⟩) (by assumption) ?_
          rotate_left
          · intro w hSw; (try dsimp only at hSw); go_simp; try with_reducible rfl
          try simp only [Act.put, List.setIfInBounds_toArray, List.set_cons_zero, List.set_cons_succ]
          refine wpAnyH_take (i := 1) (v := ?_) (by simp only [List.getElem?_toArray, List.getElem?_cons_succ, List.getElem?_cons_zero]; rfl) (by kernel_rfl) (by kernel_rfl) (by kernel_rfl) (by intro _ _ _ h; exact h) (Or.inl ⟨by rfl, ?_⟩) (by assumption) ?_
          rotate_left
          · intro w hSw; (try dsimp only at hSw); go_simp; try with_reducible rfl
          try simp only [Act.put, List.setIfInBounds_toArray, List.set_cons_zero, List.set_cons_succ]
          refine wpAnyH_take (i := 2) (v := ?_) (by simp only [List.getElem?_toArray, List.getElem?_cons_succ, List.getElem?_cons_zero]; rfl) (by kernel_rfl) (by kernel_rfl) (by kernel_rfl) (by intro _ _ _ h; exact h) (Or.inl ⟨by rfl, ?_⟩) (by assumption) ?_
          rotate_left
          · intro w hSw; (try dsimp only at hSw); go_simp; try with_reducible rfl
          try simp only [Act.put, List.setIfInBounds_toArray, List.set_cons_zero, List.set_cons_succ]
          refine wpAnyH_take (i := 3) (v := ?_) (by simp only [List.getElem?_toArray, List.getElem?_cons_succ, List.getElem?_cons_zero]; rfl) (by kernel_rfl) (by kernel_rfl) (by kernel_rfl) (by intro _ _ _ h; exact h) (Or.inl ⟨by rfl, ?_⟩) (by assumption) ?_
          rotate_left
          · intro w hSw; (try dsimp only at hSw); go_simp; try with_reducible rfl
          try simp only [Act.put, List.setIfInBounds_toArray, List.set_cons_zero, List.set_cons_succ]
          refine wpAnyH_take (i := 4) (v := ?_) (by simp only [List.getElem?_toArray, List.getElem?_cons_succ, List.getElem?_cons_zero]; rfl) (by kernel_rfl) (by kernel_rfl) (by kernel_rfl) (by intro _ _ _ h; exact h) (Or.inl ⟨by rfl, ?_⟩) (by assumption) ?_
          rotate_left
          · intro w hSw; (try dsimp only at hSw); go_simp; try with_reducible rfl
          try simp only [Act.put, List.setIfInBounds_toArray, List.set_cons_zero, List.set_cons_succ]
          refine wpAnyH_take (i := 5) (v := ?_) (by simp only [List.getElem?_toArray, List.getElem?_cons_succ, List.getElem?_cons_zero]; rfl) (by kernel_rfl) (by kernel_rfl) (by kernel_rfl) (by intro _ _ _ h; exact h) (Or.inl ⟨by rfl, ?_⟩) (by assumption) ?_
          rotate_left
          · intro w hSw; (try dsimp only at hSw); go_simp; try with_reducible rfl
          try simp only [Act.put, List.setIfInBounds_toArray, List.set_cons_zero, List.set_cons_succ]
          refine wpAnyH_take (i := 6) (v := ?_) (by simp only [List.getElem?_toArray, List.getElem?_cons_succ, List.getElem?_cons_zero]; rfl) (by kernel_rfl) (by kernel_rfl) (by kernel_rfl) (by intro _ _ _ h; exact h) (Or.inl ⟨by rfl, ?_⟩) (by assumption) ?_
          rotate_left
          · intro w hSw; (try dsimp only at hSw); go_simp; rw [HSI.out]
          try simp only [Act.put, List.setIfInBounds_toArray, List.set_cons_zero, List.set_cons_succ]
          refine wpAnyH_take (i := 7) (v := ?_) (by simp only [List.getElem?_toArray, List.getElem?_cons_succ, List.getElem?_cons_zero]; rfl) (by kernel_rfl) (by kernel_rfl) (by kernel_rfl) (by intro _ _ _ h; exact h) (Or.inl ⟨by rfl, ?_⟩) (by assumption) ?_
          rotate_left
          · intro w hSw; (try dsimp only at hSw); go_simp; first | with_reducible rfl | rw [if_pos (by omega)]
          try simp only [Act.put, List.setIfInBounds_toArray, List.set_cons_zero, List.set_cons_succ]
          refine wpAnyH_take (i := 8) (v := ?_) (by simp only [List.getElem?_toArray, List.getElem?_cons_succ, List.getElem?_cons_zero]; rfl) (by kernel_rfl) (by kernel_rfl) (by kernel_rfl) (by intro _ _ _ h; exact h) (Or.inl ⟨by rfl, ?_⟩) (by assumption) ?_
          rotate_left
          · intro w hSw; (try dsimp only at hSw); go_simp; try with_reducible rfl
          try simp only [Act.put, List.setIfInBounds_toArray, List.set_cons_zero, List.set_cons_succ]
          refine wpAnyH_ready (rs := [9]) (by kernel_rfl) (by simp) ?_
          refine AllReadyH.cons (o := _) (by simp only [List.getElem?_toArray, List.getElem?_cons_succ, List.getElem?_cons_zero]; rfl) (fun K hK => ?_) AllReadyH.nil
          go_simp
          go_at_call 51
          refine Calls.mono ((by rw [HXx.out]; exact HT.out w1 _ B q0 _ j hltj hq0N HS.out.drew)) ?_
          rintro e w3 ⟨rfl, hb3⟩
          have HB3 := Lib.hid hb3
          clear hb3
          go_simp
          refine hK.out _ _ (by exact HKE.out _ HB3.out.below) (fun hHeld => ?_)
          clear hK K
          try simp only [Act.put, List.setIfInBounds_toArray, List.set_cons_zero, List.set_cons_succ]
          refine wpAnyH_done (by kernel_rfl) ?_ _
          obtain ⟨m, hm⟩ : ∃ m, m = (D.blk j).ins.length := ⟨_, rfl⟩
          have HM := Lib.hid hm
          have HSQ : Hid (BoxS w1 B N (evI A E i ++ evB A D E j ++ evQ A D E j 0) w3) := Lib.hid (by
            have : evQ A D E j 0 = [tileEv A (q0 : Int) (E.bs.getD j 0)] := by
              unfold evQ
              rw [HDi.out, HQ0.out]
              simp
            rw [this]
            exact HB3.out)
          obtain ⟨a0, a1, a2, p0, p1, p2, s0, s1, s2⟩ := HK.out w3 HB3.out.below
          obtain ⟨qb', qo, La, Lc, hpa, hc1, hsq⟩ := HPb.out w1 j HX1.out hltj
          rw [← hm] at hc1 hsq
          have HSeq : Hid (∀ W, Below w1.heap.size w1 W → Seq W La m (ints (D.blk j).ins)) := Lib.hid fun W hW => hsq.below hW (Nat.le_refl _)
          have hc0 : w3.cell? ⟨qb', qo + j * 4, none⟩ = some (.slice La m Lc) := (HB3.out.below.cell (p := ⟨_, _, none⟩) (World.block_lt_of_cell? w1 _ hc1)).trans hc1
          have hm4 : m ≤ 4 := by rw [hm]; exact (HB4.out j hltj).1
          subst hpa
          clear hm hsq hc1 HB3 HKE HS hHeld
          go_wp2_with fail
          clear a0 a1 a2 p0 p1 p2 s0 s1 s2
          clear hc0
          go_loopw [9, 67] (fun _ qv wr => ∃ q : Nat, q ≤ m ∧ qv = .int .i64 q ∧ Hid (BoxS w1 B N (evI A E i ++ evB A D E j ++ evQ A D E j q) wr)) (fun _ qv _ => m - (intOf qv).toNat)
          case atStart => exact ⟨0, by omega, rfl, HSQ⟩
          case round =>
            obtain ⟨wy, hwy⟩ : ∃ W, W = wr := ⟨_, rfl⟩
            subst hwy
            obtain ⟨q, hq, rfl, HS⟩ := hrel
            by_cases hlq : q < m
            · obtain ⟨lb, lo, hLa, hlb, hlc⟩ := (HSeq.out wy HS.out.below).at q hlq
              have hl := hlc q hlq
              unfold ints at hl
              obtain ⟨z, hz⟩ : ∃ z, z = (D.blk j).ins.getD q 0 := ⟨_, rfl⟩
              rw [← hz] at hl
              have hzin := (HB4.out j hltj).2 z (by rw [hz]; exact getD_memI (by rw [← HM.out]; exact hlq))
              obtain ⟨y, rfl⟩ : ∃ y : Nat, z = (y : Int) := ⟨z.toNat, by omega⟩
              have hyN : y < N := by omega
              have HZ := Lib.hid hz
              subst hLa
              clear hlc hlb hz hzin
              go_wp2_with fail
              clear hl
              have HKE : Hid (∀ W, Below w1.heap.size w1 W → W.cell? ⟨H, 0, none⟩ = some (.int .i64 aw) ∧ W.cell? ⟨H, 1, none⟩ = some (.int .i64 ah) ∧ W.cell? ⟨H, 2, none⟩ = some (.int .i64 at_) ∧ W.cell? ⟨H, 3, none⟩ = some (.int .i64 pi) ∧ W.cell? ⟨H, 4, none⟩ = some (.slice (some ⟨qb', qo, none⟩) nb pc) ∧ W.cell? ⟨H, 5, none⟩ = some (.slice qa no qc) ∧ W.cell? ⟨H, 6, none⟩ = some (.slice (some ⟨eb, eo, none⟩) nb bc) ∧ W.cell? ⟨H, 7, none⟩ = some (.slice ia i ic) ∧ W.cell? ⟨H, 8, none⟩ = some (.slice oa no oc) ∧ W.cell? ⟨eb, eo + j, none⟩ = some (.int .i64 x)) := Lib.hid fun W hW => by
                obtain ⟨a0, a1, a2, p0, p1, p2, s0, s1, s2⟩ := HK.out W hW
                exact ⟨a0, a1, a2, p0, p1, p2, s0, s1, s2, HEl.out W hW⟩
              refine wp_region_held_drew (S := fun w' => w'.cell? ⟨H, 0, none⟩ = some (.int .i64 aw) ∧ w'.cell? ⟨H, 1, none⟩ = some (.int .i64 ah) ∧ w'.cell? ⟨H, 2, none⟩ = some (.int .i64 at_) ∧ w'.cell? ⟨H, 3, none⟩ = some (.int .i64 pi) ∧ w'.cell? ⟨H, 4, none⟩ = some (.slice (some ⟨qb', qo, none⟩) nb pc) ∧ w'.cell? ⟨H, 5, none⟩ = some (.slice qa no qc) ∧ w'.cell? ⟨H, 6, none⟩ = some (.slice (some ⟨eb, eo, none⟩) nb bc) ∧ w'.cell? ⟨H, 7, none⟩ = some (.slice ia i ic) ∧ w'.cell? ⟨H, 8, none⟩ = some (.slice oa no oc) ∧ w'.cell? ⟨eb, eo + j, none⟩ = some (.int .i64 x)) (by kernel_rfl) (HKE.out _ HS.out.drew.below) (fun hHeld => ?_)
              refine wpAnyH_take (i := 0) (v := ?_) (by simp only [List.getElem?_toArray, List.getElem?_cons_succ, List.getElem?_cons_zero]; rfl) (by kernel_rfl) (by kernel_rfl) (by kernel_rfl) (by intro _ _ _ h; exact h) (Or.inl ⟨by rfl, ?_⟩) (by assumption) ?_
              rotate_left
              · intro w hSw; (try dsimp only at hSw); go_simp; try with_reducible rfl
              try simp only [Act.put, List.setIfInBounds_toArray, List.set_cons_zero, List.set_cons_succ]
              refine wpAnyH_take (i := 1) (v := ?_) (by simp only [List.getElem?_toArray, List.getElem?_cons_succ, List.getElem?_cons_zero]; rfl) (by kernel_rfl) (by kernel_rfl) (by kernel_rfl) (by intro _ _ _ h; exact h) (Or.inl ⟨by rfl, ?_⟩) (by assumption) ?_
              rotate_left
              · intro w hSw; (try dsimp only at hSw); go_simp; try with_reducible rfl
              try simp only [Act.put, List.setIfInBounds_toArray, List.set_cons_zero, List.set_cons_succ]
              refine wpAnyH_take (i := 2) (v := ?_) (by simp only [List.getElem?_toArray, List.getElem?_cons_succ, List.getElem?_cons_zero]; rfl) (by kernel_rfl) (by kernel_rfl) (by kernel_rfl) (by intro _ _ _ h; exact h) (Or.inl ⟨by rfl, ?_⟩) (by assumption) ?_
              rotate_left
              · intro w hSw; (try dsimp only at hSw); go_simp; try with_reducible rfl
              try simp only [Act.put, List.setIfInBounds_toArray, List.set_cons_zero, List.set_cons_succ]
              refine wpAnyH_take (i := 3) (v := ?_) (by simp only [List.getElem?_toArray, List.getElem?_cons_succ, List.getElem?_cons_zero]; rfl) (by kernel_rfl) (by kernel_rfl) (by kernel_rfl) (by intro _ _ _ h; exact h) (Or.inl ⟨by rfl, ?_⟩) (by assumption) ?_
              rotate_left
              · intro w hSw; (try dsimp only at hSw); go_simp; first | with_reducible rfl | rw [if_pos (by omega)]
              try simp only [Act.put, List.setIfInBounds_toArray, List.set_cons_zero, List.set_cons_succ]
              refine wpAnyH_take (i := 4) (v := ?_) (by simp only [List.getElem?_toArray, List.getElem?_cons_succ, List.getElem?_cons_zero]; rfl) (by kernel_rfl) (by kernel_rfl) (by kernel_rfl) (by intro _ _ _ h; exact h) (Or.inl ⟨by rfl, ?_⟩) (by assumption) ?_
              rotate_left
              · intro w hSw; (try dsimp only at hSw); go_simp; try with_reducible rfl
              try simp only [Act.put, List.setIfInBounds_toArray, List.set_cons_zero, List.set_cons_succ]
              refine wpAnyH_ready (rs := [5]) (by kernel_rfl) (by simp) ?_
              refine AllReadyH.cons (o := _) (by simp only [List.getElem?_toArray, List.getElem?_cons_succ, List.getElem?_cons_zero]; rfl) (fun K hK => ?_) AllReadyH.nil
              go_simp
              go_at_call 51
              refine Calls.mono ((by rw [HXx.out]; exact HT.out w1 _ B y _ j hltj hyN HS.out.drew)) ?_
              rintro e w3 ⟨rfl, hb3⟩
              have HB3 := Lib.hid hb3
              clear hb3
              go_simp
              refine hK.out _ _ (by exact HKE.out _ HB3.out.below) (fun hHeld => ?_)
              clear hK K
              try simp only [Act.put, List.setIfInBounds_toArray, List.set_cons_zero, List.set_cons_succ]
              refine wpAnyH_done (by kernel_rfl) ?_ _
              go_wp2_with fail
              go_roundw
              case rel => exact ⟨q + 1, by omega, by go_num, Lib.hid (by rw [evQ_snoc A D E j q (by rw [← HM.out]; exact hlq), ← HZ.out, ← List.append_assoc]; exact HB3.out)⟩
              case measure => simp [intOf]; omega
            · have hqm : q = m := by omega
              have HS3 : Hid (BoxS w1 B N (evI A E i ++ evB A D E (j + 1)) wy) := Lib.hid (by
                rw [evB_snoc, ← HM.out, ← hqm, ← List.append_assoc]
                exact HS.out)
              subst hqm
              go_wp2_with fail
              go_roundw
              case rel => exact ⟨j + 1, by omega, by go_num, HS3⟩
              case measure => simp [intOf]; omega
        · have hjn : j = nb := by omega
          have HS2 : Hid (BoxS w1 B N (evI A E i ++ evB A D E nb ++ evO A D E 0) wx) := Lib.hid (by
            rw [← hjn]
            show BoxS w1 B N (evI A E i ++ evB A D E j ++ []) wx
            rw [List.append_nil]; exact HS.out)
          obtain ⟨a0, a1, a2, p0, p1, p2, s0, s1, s2⟩ := HK.out wx HS.out.below
          clear HS HS1
          subst hjn
          go_wp2_with fail
          clear a0 a1 a2 p0 p1 p2 s0 s1 s2
          go_loopw [10, 11, 83] (fun _ _ lv wr => ∃ l : Nat, l ≤ no ∧ lv = .int .i64 l ∧ Hid (BoxS w1 B N (evI A E i ++ evB A D E j ++ evO A D E l) wr)) (fun _ _ lv _ => no - (intOf lv).toNat)
          case atStart => exact ⟨0, by omega, rfl, HS2⟩
          case round =>
            obtain ⟨wy, hwy⟩ : ∃ W, W = wr := ⟨_, rfl⟩
            subst hwy
            obtain ⟨l, hl, rfl, HS⟩ := hrel
            by_cases hltl : l < no
            · obtain ⟨ob, oo, hqa, hc0⟩ := HPo.out wy l (HXW.out wy HS.out.below) hltl
              obtain ⟨z, hz⟩ : ∃ z, z = D.outs.getD l 0 := ⟨_, rfl⟩
              have hzin := HDo.out l hltl
              rw [← hz] at hc0 hzin
              obtain ⟨y, rfl⟩ : ∃ y : Nat, z = (y : Int) := ⟨z.toNat, by omega⟩
              have hyN : y < N := by omega
              have HZ := Lib.hid hz
              subst hqa
              obtain ⟨eb, eo, hadr, hcel⟩ := HSo.out w1 l HX1.out hltl
              obtain ⟨x, hx⟩ : ∃ x, x = E.os.getD l 0 := ⟨_, rfl⟩
              rw [← hx] at hcel
              have HEl : Hid (∀ W, Below w1.heap.size w1 W → W.cell? ⟨eb, eo + l, none⟩ = some (.int .i64 x)) := Lib.hid fun W hW => (hW.cell (p := ⟨_, _, none⟩) (World.block_lt_of_cell? w1 _ hcel)).trans hcel
              have HXx := Lib.hid hx
              subst hadr
              clear hcel hx
              clear hz hzin
              go_wp2_with fail
              clear hc0
              have HKE : Hid (∀ W, Below w1.heap.size w1 W → W.cell? ⟨H, 0, none⟩ = some (.int .i64 aw) ∧ W.cell? ⟨H, 1, none⟩ = some (.int .i64 ah) ∧ W.cell? ⟨H, 2, none⟩ = some (.int .i64 at_) ∧ W.cell? ⟨H, 3, none⟩ = some (.int .i64 pi) ∧ W.cell? ⟨H, 4, none⟩ = some (.slice pa j pc) ∧ W.cell? ⟨H, 5, none⟩ = some (.slice (some ⟨ob, oo, none⟩) no qc) ∧ W.cell? ⟨H, 6, none⟩ = some (.slice ba j bc) ∧ W.cell? ⟨H, 7, none⟩ = some (.slice ia i ic) ∧ W.cell? ⟨H, 8, none⟩ = some (.slice (some ⟨eb, eo, none⟩) no oc) ∧ W.cell? ⟨eb, eo + l, none⟩ = some (.int .i64 x)) := Lib.hid fun W hW => by
                obtain ⟨a0, a1, a2, p0, p1, p2, s0, s1, s2⟩ := HK.out W hW
                exact ⟨a0, a1, a2, p0, p1, p2, s0, s1, s2, HEl.out W hW⟩
              refine wp_region_held_drew (S := fun w' => w'.cell? ⟨H, 0, none⟩ = some (.int .i64 aw) ∧ w'.cell? ⟨H, 1, none⟩ = some (.int .i64 ah) ∧ w'.cell? ⟨H, 2, none⟩ = some (.int .i64 at_) ∧ w'.cell? ⟨H, 3, none⟩ = some (.int .i64 pi) ∧ w'.cell? ⟨H, 4, none⟩ = some (.slice pa j pc) ∧ w'.cell? ⟨H, 5, none⟩ = some (.slice (some ⟨ob, oo, none⟩) no qc) ∧ w'.cell? ⟨H, 6, none⟩ = some (.slice ba j bc) ∧ w'.cell? ⟨H, 7, none⟩ = some (.slice ia i ic) ∧ w'.cell? ⟨H, 8, none⟩ = some (.slice (some ⟨eb, eo, none⟩) no oc) ∧ w'.cell? ⟨eb, eo + l, none⟩ = some (.int .i64 x)) (by kernel_rfl) (HKE.out _ HS.out.drew.below) (fun hHeld => ?_)
              refine wpAnyH_take (i := 0) (v := ?_) (by simp only [List.getElem?_toArray, List.getElem?_cons_succ, List.getElem?_cons_zero]; rfl) (by kernel_rfl) (by kernel_rfl) (by kernel_rfl) (by intro _ _ _ h; exact h) (Or.inl ⟨by rfl, ?_⟩) (by assumption) ?_
              rotate_left
              · intro w hSw; (try dsimp only at hSw); go_simp; try with_reducible rfl
              try simp only [Act.put, List.setIfInBounds_toArray, List.set_cons_zero, List.set_cons_succ]
              refine wpAnyH_take (i := 1) (v := ?_) (by simp only [List.getElem?_toArray, List.getElem?_cons_succ, List.getElem?_cons_zero]; rfl) (by kernel_rfl) (by kernel_rfl) (by kernel_rfl) (by intro _ _ _ h; exact h) (Or.inl ⟨by rfl, ?_⟩) (by assumption) ?_
              rotate_left
              · intro w hSw; (try dsimp only at hSw); go_simp; try with_reducible rfl
              try simp only [Act.put, List.setIfInBounds_toArray, List.set_cons_zero, List.set_cons_succ]
              refine wpAnyH_take (i := 2) (v := ?_) (by simp only [List.getElem?_toArray, List.getElem?_cons_succ, List.getElem?_cons_zero]; rfl) (by kernel_rfl) (by kernel_rfl) (by kernel_rfl) (by intro _ _ _ h; exact h) (Or.inl ⟨by rfl, ?_⟩) (by assumption) ?_
              rotate_left
              · intro w hSw; (try dsimp only at hSw); go_simp; try with_reducible rfl
              try simp only [Act.put, List.setIfInBounds_toArray, List.set_cons_zero, List.set_cons_succ]
              refine wpAnyH_take (i := 3) (v := ?_) (by simp only [List.getElem?_toArray, List.getElem?_cons_succ, List.getElem?_cons_zero]; rfl) (by kernel_rfl) (by kernel_rfl) (by kernel_rfl) (by intro _ _ _ h; exact h) (Or.inl ⟨by rfl, ?_⟩) (by assumption) ?_
              rotate_left
              · intro w hSw; (try dsimp only at hSw); go_simp; first | with_reducible rfl | rw [if_pos (by omega)]
              try simp only [Act.put, List.setIfInBounds_toArray, List.set_cons_zero, List.set_cons_succ]
              refine wpAnyH_take (i := 4) (v := ?_) (by simp only [List.getElem?_toArray, List.getElem?_cons_succ, List.getElem?_cons_zero]; rfl) (by kernel_rfl) (by kernel_rfl) (by kernel_rfl) (by intro _ _ _ h; exact h) (Or.inl ⟨by rfl, ?_⟩) (by assumption) ?_
              rotate_left
              · intro w hSw; (try dsimp only at hSw); go_simp; try with_reducible rfl
              try simp only [Act.put, List.setIfInBounds_toArray, List.set_cons_zero, List.set_cons_succ]
              refine wpAnyH_take (i := 5) (v := ?_) (by simp only [List.getElem?_toArray, List.getElem?_cons_succ, List.getElem?_cons_zero]; rfl) (by kernel_rfl) (by kernel_rfl) (by kernel_rfl) (by intro _ _ _ h; exact h) (Or.inl ⟨by rfl, ?_⟩) (by assumption) ?_
              rotate_left
              · intro w hSw; (try dsimp only at hSw); go_simp; try with_reducible rfl
              try simp only [Act.put, List.setIfInBounds_toArray, List.set_cons_zero, List.set_cons_succ]
              refine wpAnyH_take (i := 6) (v := ?_) (by simp only [List.getElem?_toArray, List.getElem?_cons_succ, List.getElem?_cons_zero]; rfl) (by kernel_rfl) (by kernel_rfl) (by kernel_rfl) (by intro _ _ _ h; exact h) (Or.inl ⟨by rfl, ?_⟩) (by assumption) ?_
              rotate_left
              · intro w hSw; (try dsimp only at hSw); go_simp; try with_reducible rfl
              try simp only [Act.put, List.setIfInBounds_toArray, List.set_cons_zero, List.set_cons_succ]
              refine wpAnyH_take (i := 7) (v := ?_) (by simp only [List.getElem?_toArray, List.getElem?_cons_succ, List.getElem?_cons_zero]; rfl) (by kernel_rfl) (by kernel_rfl) (by kernel_rfl) (by intro _ _ _ h; exact h) (Or.inl ⟨by rfl, ?_⟩) (by assumption) ?_
              rotate_left
              · intro w hSw; (try dsimp only at hSw); go_simp; try with_reducible rfl
              try simp only [Act.put, List.setIfInBounds_toArray, List.set_cons_zero, List.set_cons_succ]
              refine wpAnyH_take (i := 8) (v := ?_) (by simp only [List.getElem?_toArray, List.getElem?_cons_succ, List.getElem?_cons_zero]; rfl) (by kernel_rfl) (by kernel_rfl) (by kernel_rfl) (by intro _ _ _ h; exact h) (Or.inl ⟨by rfl, ?_⟩) (by assumption) ?_
              rotate_left
              · intro w hSw; (try dsimp only at hSw); go_simp; first | with_reducible rfl | rw [if_pos (by omega)]
              try simp only [Act.put, List.setIfInBounds_toArray, List.set_cons_zero, List.set_cons_succ]
              refine wpAnyH_take (i := 9) (v := ?_) (by simp only [List.getElem?_toArray, List.getElem?_cons_succ, List.getElem?_cons_zero]; rfl) (by kernel_rfl) (by kernel_rfl) (by kernel_rfl) (by intro _ _ _ h; exact h) (Or.inl ⟨by rfl, ?_⟩) (by assumption) ?_
              rotate_left
              · intro w hSw; (try dsimp only at hSw); go_simp; try with_reducible rfl
              try simp only [Act.put, List.setIfInBounds_toArray, List.set_cons_zero, List.set_cons_succ]
              refine wpAnyH_ready (rs := [10]) (by kernel_rfl) (by simp) ?_
              refine AllReadyH.cons (o := _) (by simp only [List.getElem?_toArray, List.getElem?_cons_succ, List.getElem?_cons_zero]; rfl) (fun K hK => ?_) AllReadyH.nil
              go_simp
              go_at_call 50
              refine Calls.mono ((by rw [HXx.out]; exact HU.out w1 _ B y _ _ (HRo.out l hltl) hyN HS.out.drew)) ?_
              rintro e w3 ⟨rfl, hb3⟩
              have HB3 := Lib.hid hb3
              clear hb3
              go_simp
              refine hK.out _ _ (by exact HKE.out _ HB3.out.below) (fun hHeld => ?_)
              clear hK K
              try simp only [Act.put, List.setIfInBounds_toArray, List.set_cons_zero, List.set_cons_succ]
              refine wpAnyH_done (by kernel_rfl) ?_ _
              go_wp2_with fail
              go_roundw
              case rel => exact ⟨l + 1, by omega, by go_num, Lib.hid (by rw [evO_snoc, ← HZ.out, ← List.append_assoc]; exact HB3.out)⟩
              case measure => simp [intOf]; omega
            · have hln : l = no := by omega
              obtain ⟨Ev, hEv⟩ : ∃ L, L = evs A D E := ⟨_, rfl⟩
              have HS3 : Hid (BoxS w1 B N Ev wy) := Lib.hid (by
                rw [hEv, HEv.out, ← hln]
                exact HS.out)
              have HEi : Hid (EvIn Ev) := Lib.hid (by rw [hEv]; exact HEin.out)
              have HCo2 : Hid (C = costTo Ev N) := Lib.hid (by rw [hEv]; exact HCo.out)
              clear HS HS2 hEv HEv HEin HCo
              subst hln
              go_wp2_with fail
              go_loopw [12, 14, 102] (fun cv _ kv wr => ∃ (k : Nat) (c : Int), k ≤ N ∧ kv = .int .i64 k ∧ cv = .int .i64 c ∧ Hid (c = costTo Ev k ∧ BoxS w1 B N Ev wr)) (fun _ _ kv _ => N - (intOf kv).toNat)
              case atStart => exact ⟨0, 0, by omega, rfl, rfl, Lib.hid ⟨rfl, HS3.out⟩⟩
              case round =>
                obtain ⟨wz, hwz⟩ : ∃ W, W = wr := ⟨_, rfl⟩
                subst hwz
                obtain ⟨k, c, hk, rfl, rfl, HI⟩ := hrel
                by_cases hltk : k < N
                · obtain ⟨b0, b1, b2, b3, b4, b5⟩ := HI.out.2.box k hltk
                  have in1 := spanL_in (HEi.out.xs (k : Int))
                  have in2 := spanL_in (HEi.out.ys (k : Int))
                  have e1 := costTo_snoc Ev k
                  have e2 := costTo_in HEi.out (k + 1)
                  have e3 := costTo_in HEi.out k
                  unfold reachE reachL at e1
                  rw [← HI.out.1] at e1 e3
                  generalize spanL (xsOf Ev (k : Int)) = sx at b0 b1 b2 in1 e1
                  generalize spanL (ysOf Ev (k : Int)) = sy at b3 b4 b5 in2 e1
                  obtain ⟨so, xl, xh⟩ := sx
                  obtain ⟨tb, yl, yh⟩ := sy
                  dsimp only at b0 b1 b2 b3 b4 b5 in1 in2 e1
                  have F1 : wrap64 (xh - xl) = xh - xl := wrap64s (by omega) (by omega)
                  have F2 : wrap64 (xh - xl + yh) = xh - xl + yh := wrap64s (by omega) (by omega)
                  have F3 : wrap64 (xh - xl + yh - yl) = xh - xl + yh - yl := wrap64s (by omega) (by omega)
                  have F4 : wrap64 (c + (xh - xl + yh - yl)) = c + (xh - xl + yh - yl) := wrap64s (by omega) (by omega)
                  have HE1 : Hid (c + (xh - xl + yh - yl) = costTo Ev (k + 1)) := Lib.hid (by omega)
                  clear in1 in2 e1 e2 e3
                  go_wp2_with fail
                  go_roundw
                  case rel => exact ⟨k + 1, c + (xh - xl + yh - yl), by omega, by go_num, (by first | rfl | trivial | (go_simp; done)), Lib.hid ⟨HE1.out, HI.out.2.later ((Below.refl _ _).alloc (Nat.le_refl _) _)⟩⟩
                  case measure => simp [intOf]; omega
                · have hkN : k = N := by omega
                  have HFin : Hid (c = C) := Lib.hid (by rw [HCo2.out, ← hkN]; exact HI.out.1)
                  subst hkN
                  go_wp2_with fail
                  go_ret
                  exact ⟨by rw [← HFin.out]; rfl, HXW.out _ HI.out.2.below⟩
end Go.Proofs.Ytholafodachjnaa
