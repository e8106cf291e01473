/- What is at a wire, as the document tells. -/
import Derived.Deep.CutRange
import Derived.Test.YtholafodachjnaaZ18
namespace Go.Proofs.Ytholafodachjnaa
open Go.RowKit Go.Shelf
set_option linter.unusedVariables false
set_option linter.unusedSimpArgs false

def ptCells (L : List Pt) : List Value := L.flatMap fun z => [.int .i64 z.1, .int .i64 z.2]
theorem ptCells_len (L : List Pt) : (ptCells L).length = L.length * 2 := by
  induction L with
  | nil => rfl
  | cons z L ih =>
    have : ptCells (z :: L) = [.int .i64 z.1, .int .i64 z.2] ++ ptCells L := rfl
    rw [this, List.length_append, ih]
    simp
    omega
theorem ptCells_snoc (L : List Pt) (z : Pt) : ptCells (L ++ [z]) = ptCells L ++ [.int .i64 z.1, .int .i64 z.2] := by unfold ptCells; rw [List.flatMap_append]; rfl
theorem ptCells_get (L : List Pt) : ∀ j, j < 2 * L.length → (ptCells L)[j]? = some (pairCell L j) := by
  induction L with
  | nil => intro j h; simp at h
  | cons z L ih =>
    intro j h
    have e : ptCells (z :: L) = .int .i64 z.1 :: .int .i64 z.2 :: ptCells L := rfl
    rw [e]
    match j with
    | 0 => rfl
    | 1 => rfl
    | j + 2 =>
      rw [List.getElem?_cons_succ, List.getElem?_cons_succ, ih j (by simp at h; omega)]
      unfold pairCell
      rw [show (j + 2) % 2 = j % 2 by omega, show (j + 2) / 2 = j / 2 + 1 by omega]
      rfl
theorem own_pts {w : World} {base n : Nat} {v : Value} {L : List Pt} (h : w.ownsRow base 94 2 v n (ptCells L)) : ∃ a c, v = .slice a n c ∧ Seq w a (2 * n) (pairCell L) := by
  have hl : L.length = n := by have := h.1; rw [ptCells_len] at this; omega
  rcases h.2 with ⟨hv, h0⟩ | ⟨g, cap, cur, hv, hb, hg, hnc, hm, hs, ht⟩
  · exact ⟨none, 0, by rw [hv, h0], .inl (by omega)⟩
  · refine ⟨_, cap, hv, .inr ⟨g, 0, rfl, fun i hi => ?_⟩⟩
    subst hv
    rw [Nat.zero_add, h.cellAt i (by omega), ptCells_get L i (by omega)]
theorem info94 : (Try.prog.info? 94).map (fun i => (i.zero, i.size, i.bytes)) = some (some (.agg #[.int .i64 0, .int .i64 0]), 2, 16) := by kernel_rfl
/-- The places told so far. -/
structure AtS (w1 : World) (L : List Pt) (v : Value) (wr : World) : Prop where
  below : Below w1.heap.size w1 wr
  own : wr.ownsRow w1.heap.size 94 2 v L.length (ptCells L)
theorem AtS.push {w1 wr W w3 : World} {L : List Pt} {v v3 : Value} {x y : Int} (h : AtS w1 L v wr) (hb : Below wr.heap.size wr W) (ho : w3.ownsRow w1.heap.size 94 2 v3 (L.length + 1) (ptCells L ++ [.int .i64 x, .int .i64 y])) (hg : W.grownBy w3 v.ownBlock) :
    AtS w1 (L ++ [(x, y)]) v3 w3 := by
  refine ⟨(h.below.trans (hb.mono h.below.size)).grown hg (Nat.le_trans h.below.size hb.size) (fun k e => (h.own.lt k e).1), ?_⟩
  rw [List.length_append, ptCells_snoc]
  exact ho
theorem atQ_len (a : ArchV) (D : PackD) (E : SpotD) (w : Int) (i q : Nat) : (atQ a D E w i q).length ≤ q := by
  unfold atQ
  rw [List.length_map]
  exact Nat.le_trans (List.length_filter_le _ _) (by rw [List.length_take]; omega)
theorem atB_len {a : ArchV} {D : PackD} (E : SpotD) (w : Int) (hD : ∀ i, i < D.bs.length → (D.blk i).ins.length ≤ 4) : ∀ i, i ≤ D.bs.length → (atB a D E w i).length ≤ 4 * i
  | 0, _ => by simp [atB]
  | i + 1, hi => by
    rw [atB_snoc, List.length_append]
    have h1 := atB_len (a := a) E w hD i (by omega)
    have h2 := atQ_len a D E w i (D.blk i).ins.length
    have h3 := hD i (by omega)
    omega
theorem atO_len (a : ArchV) (D : PackD) (E : SpotD) (w : Int) (i : Nat) : (atO a D E w i).length ≤ i := by
  unfold atO
  rw [List.length_map]
  exact Nat.le_trans (List.length_filter_le _ _) (by simp)
set_option maxRecDepth 100000 in
set_option maxHeartbeats 8000000 in
theorem at53 (w : World) (a : ArchV) (P : PackV) (S : SpotV) (hP : PackAt w P) (hS : SpotAt w S) (rp : RightP a P.data) (rs : RightS a P.data S.data) (h1 : P.bs.length ≤ 500) (h2 : P.os.length ≤ 500) (h3 : S.is.length ≤ 500)
    (k : Nat) (hk : k < S.is.length + P.bs.length) :
    Calls Try.prog 53 #[a.val, P.val, S.val, .int .i64 k] w fun e w' => ∃ v c, e = .returned (.slice v (atL a P.data S.data k).length c) ∧ Seq w' v (2 * (atL a P.data S.data k).length) (pairCell (atL a P.data S.data k)) ∧ Below w.heap.size w w' := by
  obtain ⟨D, hD⟩ : ∃ D, D = P.data := ⟨_, rfl⟩
  obtain ⟨E, hE⟩ : ∃ E, E = S.data := ⟨_, rfl⟩
  have hDi : D.ins = P.ins := by rw [hD]
  have hDb : D.bs.length = P.bs.length := by rw [hD]; simp
  have hDk : ∀ i, (D.blk i).ins = (P.bs.getD i default).ins := fun i => by rw [hD, data_blk]
  have hDo : D.outs = P.os := by rw [hD]
  have hEb : E.bs = S.bs := by rw [hE]
  have hEi : E.is = S.is := by rw [hE]
  have hEo : E.os = S.os := by rw [hE]
  rw [← hD] at rp
  rw [← hD, ← hE] at rs
  rw [← hD, ← hE]
  obtain ⟨aw, ah, at_⟩ := a
  obtain ⟨pi, pa, pc, pb, qa, qc, qb⟩ := P
  obtain ⟨ba, bc, bs, ia, ic, is, oa, oc, os⟩ := S
  dsimp only at hDi hDb hDk hDo hEb hEi hEo h1 h2 h3 hk
  obtain ⟨A, hA⟩ : ∃ A : ArchV, A = ⟨aw, ah, at_⟩ := ⟨_, rfl⟩
  rw [← hA] at rp rs
  rw [← hA]
  have hpi : pi = ((is.length : Nat) : Int) := by rw [← hDi, rs.i, hEi]
  have hbl : bs.length = pb.length := by rw [← hEb, rs.b, hDb]
  have hol : os.length = qb.length := by rw [← hEo, rs.o, hDo]
  obtain ⟨L, hL⟩ : ∃ L, L = atL A D E k := ⟨_, rfl⟩
  rw [← hL]
  unfold ArchV.val PackV.val SpotV.val
  rw [show A.w = aw by rw [hA], show A.h = ah by rw [hA], show A.t = at_ by rw [hA]]
  dsimp only
  rw [hbl, hol]
  obtain ⟨nb, hnb⟩ : ∃ n, n = pb.length := ⟨_, rfl⟩
  obtain ⟨ni, hni⟩ : ∃ n, n = is.length := ⟨_, rfl⟩
  obtain ⟨no, hno⟩ : ∃ n, n = qb.length := ⟨_, rfl⟩
  rw [← hnb] at h1 hk ⊢
  rw [← hni] at h3 hk ⊢
  rw [← hno] at h2 ⊢
  rw [← hni] at hpi
  have hL2 : L = (ownP A D E k :: atB A D E k nb) ++ atO A D E k no := by rw [hL]; unfold atL; rw [hDb, hDo, ← hnb, ← hno]
  have HL2 := Lib.hid hL2
  -- what the lists hold
  have HPb : Hid (∀ W i, Below w.heap.size w W → i < nb → ∃ b o La Lc, pa = some ⟨b, o, none⟩ ∧ W.cell? ⟨b, o + i * 4, none⟩ = some (.slice La (D.blk i).ins.length Lc) ∧ Seq W La (D.blk i).ins.length (ints (D.blk i).ins)) := Lib.hid fun W i hW hi => by
    have hPW := hP.below hW (Nat.le_refl _)
    obtain ⟨b, o, hb, _, c0, _⟩ := hPW.blk i (by rw [hnb] at hi; exact hi)
    refine ⟨b, o, _, _, hb, by rw [hDk]; exact c0, ?_⟩
    rw [hDk]
    exact (hPW.each _ (getD_mem pb default (by rw [hnb] at hi; exact hi))).1
  have HSb : Hid (∀ W i, Below w.heap.size w W → i < nb → ∃ b o, ba = some ⟨b, o, none⟩ ∧ W.cell? ⟨b, o + i, none⟩ = some (.int .i64 (E.bs.getD i 0))) := Lib.hid fun W i hW hi => by
    obtain ⟨b, o, hb, _, hc⟩ := (hS.b.below hW (Nat.le_refl _)).at i (by dsimp only; omega)
    exact ⟨b, o, hb, by rw [hEb]; exact hc i (by dsimp only; omega)⟩
  have HSi : Hid (∀ W i, Below w.heap.size w W → i < ni → ∃ b o, ia = some ⟨b, o, none⟩ ∧ W.cell? ⟨b, o + i, none⟩ = some (.int .i64 (E.is.getD i 0))) := Lib.hid fun W i hW hi => by
    obtain ⟨b, o, hb, _, hc⟩ := (hS.i.below hW (Nat.le_refl _)).at i (by dsimp only; omega)
    exact ⟨b, o, hb, by rw [hEi]; exact hc i (by dsimp only; omega)⟩
  have HSo : Hid (∀ W i, Below w.heap.size w W → i < no → ∃ b o, oa = some ⟨b, o, none⟩ ∧ W.cell? ⟨b, o + i, none⟩ = some (.int .i64 (E.os.getD i 0))) := Lib.hid fun W i hW hi => by
    obtain ⟨b, o, hb, _, hc⟩ := (hS.o.below hW (Nat.le_refl _)).at i (by dsimp only; omega)
    exact ⟨b, o, hb, by rw [hEo]; exact hc i (by dsimp only; omega)⟩
  have HPo : Hid (∀ W i, Below w.heap.size w W → i < no → ∃ b o, qa = some ⟨b, o, none⟩ ∧ W.cell? ⟨b, o + i, none⟩ = some (.int .i64 (D.outs.getD i 0))) := Lib.hid fun W i hW hi => by
    obtain ⟨b, o, hb, _, hc⟩ := (hP.outs.below hW (Nat.le_refl _)).at i (by dsimp only; omega)
    exact ⟨b, o, hb, by rw [hDo]; exact hc i (by dsimp only; omega)⟩
  -- the callees
  have HT : Hid (∀ W i, i < nb → Calls Try.prog 65 #[.agg #[.int .i64 aw, .int .i64 ah, .int .i64 at_], .int .i64 (E.bs.getD i 0)] W fun e w' => e = .returned (pairVal (tileX A (E.bs.getD i 0)) (tileY A (E.bs.getD i 0))) ∧ Below W.heap.size W w') := Lib.hid fun W i hi => by
    have hin := rs.br _ (getD_memI (l := E.bs) (k := i) (by rw [rs.b, hDb, ← hnb]; exact hi))
    have hw := rp.w
    have hh := rp.h
    have h256 : A.w * A.h ≤ 16 * 16 := Int.mul_le_mul hw.2 hh.2 (by omega) (by omega)
    have := tile65 W A (E.bs.getD i 0) rp.w (by omega)
    unfold ArchV.val at this
    rwa [show A.w = aw by rw [hA], show A.h = ah by rw [hA], show A.t = at_ by rw [hA]] at this
  have HU : Hid (∀ W n, 0 ≤ n ∧ n < 2 * A.w + 2 * A.h → Calls Try.prog 64 #[.agg #[.int .i64 aw, .int .i64 ah, .int .i64 at_], .int .i64 n] W fun e w' => e = .returned (pairVal (padX A n) (padY A n)) ∧ Below W.heap.size W w') := Lib.hid fun W n hn => by
    have := pad64 W A n rp.w rp.h hn
    unfold ArchV.val at this
    rwa [show A.w = aw by rw [hA], show A.h = ah by rw [hA], show A.t = at_ by rw [hA]] at this
  have HRi : Hid (∀ i, i < ni → 0 ≤ E.is.getD i 0 ∧ E.is.getD i 0 < 2 * A.w + 2 * A.h) := Lib.hid fun i hi => rs.ir _ (getD_memI (by rw [hEi, ← hni]; exact hi))
  have HRo : Hid (∀ i, i < no → 0 ≤ E.os.getD i 0 ∧ E.os.getD i 0 < 2 * A.w + 2 * A.h) := Lib.hid fun i hi => rs.or _ (getD_memI (by rw [rs.o, hDo, ← hno]; exact hi))
  have HB4 : Hid (∀ i, i < nb → (D.blk i).ins.length ≤ 4) := Lib.hid fun i hi => (rp.blk i (by rw [hDb, ← hnb]; exact hi)).1
  have HBl : Hid (∀ i, i ≤ nb → (atB A D E k i).length ≤ 4 * i) := Lib.hid fun i hi => atB_len E k (fun j hj => (rp.blk j hj).1) i (by rw [hDb, ← hnb]; exact hi)
  have HOy : Hid (k < ni → ownP A D E k = (padX A (E.is.getD k 0), padY A (E.is.getD k 0))) := Lib.hid fun h => by
    unfold ownP
    rw [if_pos (by rw [hDi, hpi]; omega)]
    rfl
  have HOn : Hid (¬ k < ni → ownP A D E k = (tileX A (E.bs.getD (k - ni) 0), tileY A (E.bs.getD (k - ni) 0))) := Lib.hid fun h => by
    unfold ownP
    rw [if_neg (by rw [hDi, hpi]; omega), show D.ins.toNat = ni by rw [hDi, hpi]; rfl]
    rfl
  subst hpi
  clear hD hE hDi hDb hDk hDo hEb hEi hEo hP hS rp rs hA hbl hol hnb hni hno hL hL2
  obtain ⟨H, hH⟩ : ∃ h, h = w.heap.size := ⟨_, rfl⟩
  obtain ⟨pi, hpi⟩ : ∃ p, p = (ni : Int) := ⟨_, rfl⟩
  rw [← hpi]
  obtain ⟨w1, hw1⟩ : ∃ W, W = ((w.alloc (.cells #[.int .i64 aw, .int .i64 ah, .int .i64 at_] 23)).alloc (.cells #[.int .i64 pi, .slice pa nb pc, .slice qa no qc] 27)).alloc (.cells #[.slice ba nb bc, .slice ia ni ic, .slice oa no oc] 29) := ⟨_, rfl⟩
  have HX1 : Hid (Below w.heap.size w w1) := Lib.hid (by rw [hw1]; exact (((Below.refl _ _).alloc (Nat.le_refl _) _).alloc (by simp) _).alloc (by simp <;> omega) _)
  have hcl : w1.cell? ⟨H, 0, none⟩ = some (.int .i64 aw) ∧ w1.cell? ⟨H, 1, none⟩ = some (.int .i64 ah) ∧ w1.cell? ⟨H, 2, none⟩ = some (.int .i64 at_) ∧ w1.cell? ⟨H + 1, 0, none⟩ = some (.int .i64 pi) ∧ w1.cell? ⟨H + 1, 1, none⟩ = some (.slice pa nb pc) ∧ w1.cell? ⟨H + 1, 2, none⟩ = some (.slice qa no qc) ∧ w1.cell? ⟨H + 1 + 1, 0, none⟩ = some (.slice ba nb bc) ∧ w1.cell? ⟨H + 1 + 1, 1, none⟩ = some (.slice ia ni ic) ∧ w1.cell? ⟨H + 1 + 1, 2, none⟩ = some (.slice oa no oc) := by
    have e2 : ∀ W : World, W.heap.size = H + 1 + 1 → (W.alloc (.cells #[.slice ba nb bc, .slice ia ni ic, .slice oa no oc] 29)).cell? ⟨H + 1 + 1, 0, none⟩ = some (.slice ba nb bc) ∧ (W.alloc (.cells #[.slice ba nb bc, .slice ia ni ic, .slice oa no oc] 29)).cell? ⟨H + 1 + 1, 1, none⟩ = some (.slice ia ni ic) ∧ (W.alloc (.cells #[.slice ba nb bc, .slice ia ni ic, .slice oa no oc] 29)).cell? ⟨H + 1 + 1, 2, none⟩ = some (.slice oa no oc) := fun W h => by rw [← h]; exact ⟨by simp, by simp, by simp⟩
    have e3 := e2 ((w.alloc (.cells #[.int .i64 aw, .int .i64 ah, .int .i64 at_] 23)).alloc (.cells #[.int .i64 pi, .slice pa nb pc, .slice qa no qc] 27)) (by rw [hH]; simp)
    rw [hw1]
    refine ⟨?_, ?_, ?_, ?_, ?_, ?_, e3⟩
    · rw [hH]; exact cell_alloc _ (cell_alloc _ (by simp))
    · rw [hH]; exact cell_alloc _ (cell_alloc _ (by simp))
    · rw [hH]; exact cell_alloc _ (cell_alloc _ (by simp))
    · rw [hH]; exact cell_alloc _ (by simp)
    · rw [hH]; exact cell_alloc _ (by simp)
    · rw [hH]; exact cell_alloc _ (by simp)
  have HK : Hid (∀ W, Below w1.heap.size w1 W → W.cell? ⟨H, 0, none⟩ = some (.int .i64 aw) ∧ W.cell? ⟨H, 1, none⟩ = some (.int .i64 ah) ∧ W.cell? ⟨H, 2, none⟩ = some (.int .i64 at_) ∧ W.cell? ⟨H + 1, 0, none⟩ = some (.int .i64 pi) ∧ W.cell? ⟨H + 1, 1, none⟩ = some (.slice pa nb pc) ∧ W.cell? ⟨H + 1, 2, none⟩ = some (.slice qa no qc) ∧ W.cell? ⟨H + 1 + 1, 0, none⟩ = some (.slice ba nb bc) ∧ W.cell? ⟨H + 1 + 1, 1, none⟩ = some (.slice ia ni ic) ∧ W.cell? ⟨H + 1 + 1, 2, none⟩ = some (.slice oa no oc)) := Lib.hid (fun W hW => by
    have cl : ∀ {b j : Nat} {u : Value}, w1.cell? ⟨b, j, none⟩ = some u → W.cell? ⟨b, j, none⟩ = some u := fun h => (hW.cell (p := ⟨_, _, none⟩) (World.block_lt_of_cell? w1 _ h)).trans h
    obtain ⟨a0, a1, a2, p0, p1, p2, s0, s1, s2⟩ := hcl
    exact ⟨cl a0, cl a1, cl a2, cl p0, cl p1, cl p2, cl s0, cl s1, cl s2⟩)
  have HXW : Hid (∀ W, Below w1.heap.size w1 W → Below w.heap.size w W) := Lib.hid fun W hW => HX1.out.trans (hW.mono HX1.out.size)
  have HW1 := Lib.hid hw1
  have HHH := Lib.hid hH
  have HPi := Lib.hid hpi
  clear hw1 hH hcl hpi
  obtain ⟨i2, hi, hz0, hz1, hz2⟩ := info_parts info94
  go_enter Try.func53, Try.ntmps53
  go_upto_if 16 with fail
  rw [← HW1.out]
  (try rw [← HHH.out])
  go_cut [9] from 13 to 103 (fun v wx => Hid (AtS w1 [ownP A D E k] v wx))
  case first =>
    have HS : Hid (AtS w1 [] (.slice none 0 0) w1) := Lib.hid ⟨Below.refl _ _, World.ownsRow_nil _ _ _ _⟩
    have HLn : Hid (([] : List Pt).length ≤ 100000) := Lib.hid (by simp)
    obtain ⟨a0, a1, a2, p0, p1, p2, s0, s1, s2⟩ := HK.out w1 (Below.refl _ _)
    by_cases hlt : k < ni
    · have hd : decide ((k : Int) < pi) = true := by rw [HPi.out]; simp; omega
      have HFin : Hid (∀ {v3 w3}, AtS w1 ([] ++ [(padX A (E.is.getD k 0), padY A (E.is.getD k 0))]) v3 w3 → AtS w1 [ownP A D E k] v3 w3) := Lib.hid fun h => by rw [HOy.out hlt]; exact h
      obtain ⟨eb, eo, hadr, hcel⟩ := HSi.out w1 k HX1.out hlt
      have HEl : Hid (∀ W, Below w1.heap.size w1 W → W.cell? ⟨eb, eo + k, none⟩ = some (.int .i64 (E.is.getD k 0))) := Lib.hid fun W hW => (hW.cell (p := ⟨_, _, none⟩) (World.block_lt_of_cell? w1 _ hcel)).trans hcel
      subst hadr
      clear hcel
      have HLt := Lib.hid hlt
      rw [hd]
      go_wp2_with fail
      have HKE : Hid (∀ W, Below w1.heap.size w1 W → W.cell? ⟨H, 0, none⟩ = some (.int .i64 aw) ∧ W.cell? ⟨H, 1, none⟩ = some (.int .i64 ah) ∧ W.cell? ⟨H, 2, none⟩ = some (.int .i64 at_) ∧ W.cell? ⟨H + 1, 0, none⟩ = some (.int .i64 pi) ∧ W.cell? ⟨H + 1, 1, none⟩ = some (.slice pa nb pc) ∧ W.cell? ⟨H + 1, 2, none⟩ = some (.slice qa no qc) ∧ W.cell? ⟨H + 1 + 1, 0, none⟩ = some (.slice ba nb bc) ∧ W.cell? ⟨H + 1 + 1, 1, none⟩ = some (.slice (some ⟨eb, eo, none⟩) ni ic) ∧ W.cell? ⟨H + 1 + 1, 2, none⟩ = some (.slice oa no oc) ∧ W.cell? ⟨eb, eo + k, none⟩ = some (.int .i64 (E.is.getD k 0))) := Lib.hid fun W hW => by
        obtain ⟨a0, a1, a2, p0, p1, p2, s0, s1, s2⟩ := HK.out W hW
        exact ⟨a0, a1, a2, p0, p1, p2, s0, s1, s2, HEl.out W hW⟩
      refine wp_region_held_drew (S := fun w' => w'.cell? ⟨H, 0, none⟩ = some (.int .i64 aw) ∧ w'.cell? ⟨H, 1, none⟩ = some (.int .i64 ah) ∧ w'.cell? ⟨H, 2, none⟩ = some (.int .i64 at_) ∧ w'.cell? ⟨H + 1, 0, none⟩ = some (.int .i64 pi) ∧ w'.cell? ⟨H + 1, 1, none⟩ = some (.slice pa nb pc) ∧ w'.cell? ⟨H + 1, 2, none⟩ = some (.slice qa no qc) ∧ w'.cell? ⟨H + 1 + 1, 0, none⟩ = some (.slice ba nb bc) ∧ w'.cell? ⟨H + 1 + 1, 1, none⟩ = some (.slice (some ⟨eb, eo, none⟩) ni ic) ∧ w'.cell? ⟨H + 1 + 1, 2, none⟩ = some (.slice oa no oc) ∧ w'.cell? ⟨eb, eo + k, none⟩ = some (.int .i64 (E.is.getD k 0))) (by kernel_rfl) (HKE.out _ HS.out.below.drew) (fun hHeld => ?_)
      refine wpAnyH_take (i := 0) (v := ?_) (by simp only [List.getElem?_toArray, List.getElem?_cons_succ, List.getElem?_cons_zero]; rfl) (by kernel_rfl) (by kernel_rfl) (by kernel_rfl) (by intro _ _ _ h; exact h) (Or.inl ⟨by rfl, ?_⟩) (by assumption) ?_
      rotate_left
      · intro w hSw; (try dsimp only at hSw); go_simp; try with_reducible rfl
      try simp only [Act.put, List.setIfInBounds_toArray, List.set_cons_zero, List.set_cons_succ]
      refine wpAnyH_take (i := 1) (v := ?_) (by simp only [List.getElem?_toArray, List.getElem?_cons_succ, List.getElem?_cons_zero]; rfl) (by kernel_rfl) (by kernel_rfl) (by kernel_rfl) (by intro _ _ _ h; exact h) (Or.inl ⟨by rfl, ?_⟩) (by assumption) ?_
      rotate_left
      · intro w hSw; (try dsimp only at hSw); go_simp; try with_reducible rfl
      try simp only [Act.put, List.setIfInBounds_toArray, List.set_cons_zero, List.set_cons_succ]
      refine wpAnyH_take (i := 2) (v := ?_) (by simp only [List.getElem?_toArray, List.getElem?_cons_succ, List.getElem?_cons_zero]; rfl) (by kernel_rfl) (by kernel_rfl) (by kernel_rfl) (by intro _ _ _ h; exact h) (Or.inl ⟨by rfl, ?_⟩) (by assumption) ?_
      rotate_left
      · intro w hSw; (try dsimp only at hSw); go_simp; try with_reducible rfl
      try simp only [Act.put, List.setIfInBounds_toArray, List.set_cons_zero, List.set_cons_succ]
      refine wpAnyH_take (i := 3) (v := ?_) (by simp only [List.getElem?_toArray, List.getElem?_cons_succ, List.getElem?_cons_zero]; rfl) (by kernel_rfl) (by kernel_rfl) (by kernel_rfl) (by intro _ _ _ h; exact h) (Or.inl ⟨by rfl, ?_⟩) (by assumption) ?_
      rotate_left
      · intro w hSw; (try dsimp only at hSw); go_simp; try with_reducible rfl
      try simp only [Act.put, List.setIfInBounds_toArray, List.set_cons_zero, List.set_cons_succ]
      refine wpAnyH_take (i := 4) (v := ?_) (by simp only [List.getElem?_toArray, List.getElem?_cons_succ, List.getElem?_cons_zero]; rfl) (by kernel_rfl) (by kernel_rfl) (by kernel_rfl) (by intro _ _ _ h; exact h) (Or.inl ⟨by rfl, ?_⟩) (by assumption) ?_
      rotate_left
      · intro w hSw; (try dsimp only at hSw); go_simp; try with_reducible rfl
      try simp only [Act.put, List.setIfInBounds_toArray, List.set_cons_zero, List.set_cons_succ]
      refine wpAnyH_take (i := 5) (v := ?_) (by simp only [List.getElem?_toArray, List.getElem?_cons_succ, List.getElem?_cons_zero]; rfl) (by kernel_rfl) (by kernel_rfl) (by kernel_rfl) (by intro _ _ _ h; exact h) (Or.inl ⟨by rfl, ?_⟩) (by assumption) ?_
      rotate_left
      · intro w hSw; (try dsimp only at hSw); go_simp; first | with_reducible rfl | rw [if_pos (by omega)]
      try simp only [Act.put, List.setIfInBounds_toArray, List.set_cons_zero, List.set_cons_succ]
      refine wpAnyH_take (i := 6) (v := ?_) (by simp only [List.getElem?_toArray, List.getElem?_cons_succ, List.getElem?_cons_zero]; rfl) (by kernel_rfl) (by kernel_rfl) (by kernel_rfl) (by intro _ _ _ h; exact h) (Or.inl ⟨by rfl, ?_⟩) (by assumption) ?_
      rotate_left
      · intro w hSw; (try dsimp only at hSw); go_simp; try with_reducible rfl
      try simp only [Act.put, List.setIfInBounds_toArray, List.set_cons_zero, List.set_cons_succ]
      refine wpAnyH_ready (rs := [7]) (by kernel_rfl) (by simp) ?_
      refine AllReadyH.cons (o := _) (by simp only [List.getElem?_toArray, List.getElem?_cons_succ, List.getElem?_cons_zero]; rfl) (fun K hK => ?_) AllReadyH.nil
      go_simp
      go_at_call 64
      refine Calls.mono (HU.out _ _ (HRi.out k hlt)) ?_
      rintro e w2 ⟨rfl, hb2⟩
      have HB2 : Hid (Below w1.heap.size w1 w2) := Lib.hid ((Below.refl _ _).drew.trans hb2)
      clear hb2
      go_simp
      refine hK.out _ _ (by exact HKE.out _ (HS.out.below.trans (HB2.out.mono HS.out.below.size))) (fun hHeld => ?_)
      clear hK K
      try simp only [Act.put, List.setIfInBounds_toArray, List.set_cons_zero, List.set_cons_succ]
      refine wpAnyH_ready (rs := [8]) (by kernel_rfl) (by simp) ?_
      refine AllReadyH.cons (o := _) (by simp only [List.getElem?_toArray, List.getElem?_cons_succ, List.getElem?_cons_zero]; rfl) (fun K hK => ?_) AllReadyH.nil
      go_simp

      refine hK.out _ _ (by exact HKE.out _ (HS.out.below.trans ((HB2.out.alloc HB2.out.size _).mono HS.out.below.size))) (fun hHeld => ?_)
      clear hK K
      try simp only [Act.put, List.setIfInBounds_toArray, List.set_cons_zero, List.set_cons_succ]
      refine wpAnyH_ready (rs := [9]) (by kernel_rfl) (by simp) ?_
      refine AllReadyH.cons (o := _) (by simp only [List.getElem?_toArray, List.getElem?_cons_succ, List.getElem?_cons_zero]; rfl) (fun K hK => ?_) AllReadyH.nil
      rw [if_pos (by rfl)]
      have hown2 := own_below HS.out.own (HB2.out.alloc HB2.out.size (Obj.cells #[Value.int IntKind.i64 (padX A (E.is.getD k 0)), Value.int IntKind.i64 (padY A (E.is.getD k 0))] 94))
      have hsz2 := Nat.le_trans HS.out.below.size (HB2.out.alloc HB2.out.size (Obj.cells #[Value.int IntKind.i64 (padX A (E.is.getD k 0)), Value.int IntKind.i64 (padY A (E.is.getD k 0))] 94)).size
      refine wp_append_own _ (.tmp 17) (.tmp 25) 82 rfl w1.heap.size 94 i2 (.agg #[.int .i64 0, .int .i64 0]) 2 16 Try.underlying82 hi hz0 hz1 hz2 rfl (by decide) _ ([] : List Pt).length (ptCells ([] : List Pt)) rfl hown2 ⟨w2.heap.size, 0, none⟩ 1 1 [.int .i64 (padX A (E.is.getD k 0)), .int .i64 (padY A (E.is.getD k 0))] rfl rfl ?_ (by intro u hu; simp at hu; rcases hu with rfl | rfl <;> rfl) (by have := HLn.out; unfold maxLen; omega) (by have := HLn.out; omega) hsz2 ?_
      · intro j u hj
        match j, hj with
        | 0, hj => simp at hj; subst hj; simp [Addr.add]
        | 1, hj => simp at hj; subst hj; simp [Addr.add]
        | j + 2, hj => simp at hj
      intro v3 w3 ho3 hg3 hnil3
      have HS3 : Hid (AtS w1 (([] : List Pt) ++ [(padX A (E.is.getD k 0), padY A (E.is.getD k 0))]) v3 w3) := Lib.hid (HS.out.push (HB2.out.alloc HB2.out.size _) ho3 hg3)
      clear ho3 hg3 hnil3 hown2 hsz2
      go_simp
      refine hK.out _ _ (by exact HKE.out _ HS3.out.below) (fun hHeld => ?_)
      clear hK K
      try simp only [Act.put, List.setIfInBounds_toArray, List.set_cons_zero, List.set_cons_succ]
      refine wpAnyH_take (i := 10) (v := ?_) (by simp only [List.getElem?_toArray, List.getElem?_cons_succ, List.getElem?_cons_zero]; rfl) (by kernel_rfl) (by kernel_rfl) (by kernel_rfl) (by intro _ _ _ h; exact h) (Or.inl ⟨by rfl, ?_⟩) (by assumption) ?_
      rotate_left
      · intro w hSw; (try dsimp only at hSw); go_simp; try with_reducible rfl
      try simp only [Act.put, List.setIfInBounds_toArray, List.set_cons_zero, List.set_cons_succ]
      refine wpAnyH_done (by kernel_rfl) ?_ _
      go_wp2_with fail
      go_meet
      exact Lib.hid (HFin.out HS3.out)
    · have hd : decide ((k : Int) < pi) = false := by rw [HPi.out]; simp; omega
      obtain ⟨kk, hkk0⟩ : ∃ n, n = k - ni := ⟨_, rfl⟩
      have hkk : kk < nb := by omega
      have HFin : Hid (∀ {v3 w3}, AtS w1 ([] ++ [(tileX A (E.bs.getD kk 0), tileY A (E.bs.getD kk 0))]) v3 w3 → AtS w1 [ownP A D E k] v3 w3) := Lib.hid fun h => by rw [HOn.out hlt, ← hkk0]; exact h
      have HSub : Hid (IntKind.i64.wrap ((k : Int) - pi) = (kk : Int)) := Lib.hid (by rw [HPi.out, show (k : Int) - (ni : Int) = (kk : Int) by omega]; exact wrapSmall (by omega) (by omega))
      obtain ⟨eb, eo, hadr, hcel⟩ := HSb.out w1 kk HX1.out hkk
      have HEl : Hid (∀ W, Below w1.heap.size w1 W → W.cell? ⟨eb, eo + kk, none⟩ = some (.int .i64 (E.bs.getD kk 0))) := Lib.hid fun W hW => (hW.cell (p := ⟨_, _, none⟩) (World.block_lt_of_cell? w1 _ hcel)).trans hcel
      subst hadr
      clear hcel
      clear hkk0
      rw [hd]
      go_wp2_with fail
      have HKE : Hid (∀ W, Below w1.heap.size w1 W → W.cell? ⟨H, 0, none⟩ = some (.int .i64 aw) ∧ W.cell? ⟨H, 1, none⟩ = some (.int .i64 ah) ∧ W.cell? ⟨H, 2, none⟩ = some (.int .i64 at_) ∧ W.cell? ⟨H + 1, 0, none⟩ = some (.int .i64 pi) ∧ W.cell? ⟨H + 1, 1, none⟩ = some (.slice pa nb pc) ∧ W.cell? ⟨H + 1, 2, none⟩ = some (.slice qa no qc) ∧ W.cell? ⟨H + 1 + 1, 0, none⟩ = some (.slice (some ⟨eb, eo, none⟩) nb bc) ∧ W.cell? ⟨H + 1 + 1, 1, none⟩ = some (.slice ia ni ic) ∧ W.cell? ⟨H + 1 + 1, 2, none⟩ = some (.slice oa no oc) ∧ W.cell? ⟨eb, eo + kk, none⟩ = some (.int .i64 (E.bs.getD kk 0))) := Lib.hid fun W hW => by
        obtain ⟨a0, a1, a2, p0, p1, p2, s0, s1, s2⟩ := HK.out W hW
        exact ⟨a0, a1, a2, p0, p1, p2, s0, s1, s2, HEl.out W hW⟩
      refine wp_region_held_drew (S := fun w' => w'.cell? ⟨H, 0, none⟩ = some (.int .i64 aw) ∧ w'.cell? ⟨H, 1, none⟩ = some (.int .i64 ah) ∧ w'.cell? ⟨H, 2, none⟩ = some (.int .i64 at_) ∧ w'.cell? ⟨H + 1, 0, none⟩ = some (.int .i64 pi) ∧ w'.cell? ⟨H + 1, 1, none⟩ = some (.slice pa nb pc) ∧ w'.cell? ⟨H + 1, 2, none⟩ = some (.slice qa no qc) ∧ w'.cell? ⟨H + 1 + 1, 0, none⟩ = some (.slice (some ⟨eb, eo, none⟩) nb bc) ∧ w'.cell? ⟨H + 1 + 1, 1, none⟩ = some (.slice ia ni ic) ∧ w'.cell? ⟨H + 1 + 1, 2, none⟩ = some (.slice oa no oc) ∧ w'.cell? ⟨eb, eo + kk, none⟩ = some (.int .i64 (E.bs.getD kk 0))) (by kernel_rfl) (HKE.out _ HS.out.below.drew) (fun hHeld => ?_)
      refine wpAnyH_take (i := 0) (v := ?_) (by simp only [List.getElem?_toArray, List.getElem?_cons_succ, List.getElem?_cons_zero]; rfl) (by kernel_rfl) (by kernel_rfl) (by kernel_rfl) (by intro _ _ _ h; exact h) (Or.inl ⟨by rfl, ?_⟩) (by assumption) ?_
      rotate_left
      · intro w hSw; (try dsimp only at hSw); go_simp; try with_reducible rfl
      try simp only [Act.put, List.setIfInBounds_toArray, List.set_cons_zero, List.set_cons_succ]
      refine wpAnyH_take (i := 1) (v := ?_) (by simp only [List.getElem?_toArray, List.getElem?_cons_succ, List.getElem?_cons_zero]; rfl) (by kernel_rfl) (by kernel_rfl) (by kernel_rfl) (by intro _ _ _ h; exact h) (Or.inl ⟨by rfl, ?_⟩) (by assumption) ?_
      rotate_left
      · intro w hSw; (try dsimp only at hSw); go_simp; try with_reducible rfl
      try simp only [Act.put, List.setIfInBounds_toArray, List.set_cons_zero, List.set_cons_succ]
      refine wpAnyH_take (i := 2) (v := ?_) (by simp only [List.getElem?_toArray, List.getElem?_cons_succ, List.getElem?_cons_zero]; rfl) (by kernel_rfl) (by kernel_rfl) (by kernel_rfl) (by intro _ _ _ h; exact h) (Or.inl ⟨by rfl, ?_⟩) (by assumption) ?_
      rotate_left
      · intro w hSw; (try dsimp only at hSw); go_simp; try with_reducible rfl
      try simp only [Act.put, List.setIfInBounds_toArray, List.set_cons_zero, List.set_cons_succ]
      refine wpAnyH_take (i := 3) (v := ?_) (by simp only [List.getElem?_toArray, List.getElem?_cons_succ, List.getElem?_cons_zero]; rfl) (by kernel_rfl) (by kernel_rfl) (by kernel_rfl) (by intro _ _ _ h; exact h) (Or.inl ⟨by rfl, ?_⟩) (by assumption) ?_
      rotate_left
      · intro w hSw; (try dsimp only at hSw); go_simp; try with_reducible rfl
      try simp only [Act.put, List.setIfInBounds_toArray, List.set_cons_zero, List.set_cons_succ]
      refine wpAnyH_take (i := 4) (v := ?_) (by simp only [List.getElem?_toArray, List.getElem?_cons_succ, List.getElem?_cons_zero]; rfl) (by kernel_rfl) (by kernel_rfl) (by kernel_rfl) (by intro _ _ _ h; exact h) (Or.inl ⟨by rfl, ?_⟩) (by assumption) ?_
      rotate_left
      · intro w hSw; (try dsimp only at hSw); go_simp; try with_reducible rfl
      try simp only [Act.put, List.setIfInBounds_toArray, List.set_cons_zero, List.set_cons_succ]
      refine wpAnyH_take (i := 5) (v := ?_) (by simp only [List.getElem?_toArray, List.getElem?_cons_succ, List.getElem?_cons_zero]; rfl) (by kernel_rfl) (by kernel_rfl) (by kernel_rfl) (by intro _ _ _ h; exact h) (Or.inl ⟨by rfl, ?_⟩) (by assumption) ?_
      rotate_left
      · intro w hSw; (try dsimp only at hSw); go_simp; try with_reducible rfl
      try simp only [Act.put, List.setIfInBounds_toArray, List.set_cons_zero, List.set_cons_succ]
      refine wpAnyH_take (i := 6) (v := ?_) (by simp only [List.getElem?_toArray, List.getElem?_cons_succ, List.getElem?_cons_zero]; rfl) (by kernel_rfl) (by kernel_rfl) (by kernel_rfl) (by intro _ _ _ h; exact h) (Or.inl ⟨by rfl, ?_⟩) (by assumption) ?_
      rotate_left
      · intro w hSw; (try dsimp only at hSw); go_simp; try with_reducible rfl
      try simp only [Act.put, List.setIfInBounds_toArray, List.set_cons_zero, List.set_cons_succ]
      refine wpAnyH_take (i := 7) (v := ?_) (by simp only [List.getElem?_toArray, List.getElem?_cons_succ, List.getElem?_cons_zero]; rfl) (by kernel_rfl) (by kernel_rfl) (by kernel_rfl) (by intro _ _ _ h; exact h) (Or.inl ⟨by rfl, ?_⟩) (by assumption) ?_
      rotate_left
      · intro w hSw; (try dsimp only at hSw); go_simp; rw [HSub.out]
      try simp only [Act.put, List.setIfInBounds_toArray, List.set_cons_zero, List.set_cons_succ]
      refine wpAnyH_take (i := 8) (v := ?_) (by simp only [List.getElem?_toArray, List.getElem?_cons_succ, List.getElem?_cons_zero]; rfl) (by kernel_rfl) (by kernel_rfl) (by kernel_rfl) (by intro _ _ _ h; exact h) (Or.inl ⟨by rfl, ?_⟩) (by assumption) ?_
      rotate_left
      · intro w hSw; (try dsimp only at hSw); go_simp; first | with_reducible rfl | rw [if_pos (by omega)]
      try simp only [Act.put, List.setIfInBounds_toArray, List.set_cons_zero, List.set_cons_succ]
      refine wpAnyH_take (i := 9) (v := ?_) (by simp only [List.getElem?_toArray, List.getElem?_cons_succ, List.getElem?_cons_zero]; rfl) (by kernel_rfl) (by kernel_rfl) (by kernel_rfl) (by intro _ _ _ h; exact h) (Or.inl ⟨by rfl, ?_⟩) (by assumption) ?_
      rotate_left
      · intro w hSw; (try dsimp only at hSw); go_simp; try with_reducible rfl
      try simp only [Act.put, List.setIfInBounds_toArray, List.set_cons_zero, List.set_cons_succ]
      refine wpAnyH_ready (rs := [10]) (by kernel_rfl) (by simp) ?_
      refine AllReadyH.cons (o := _) (by simp only [List.getElem?_toArray, List.getElem?_cons_succ, List.getElem?_cons_zero]; rfl) (fun K hK => ?_) AllReadyH.nil
      go_simp
      go_at_call 65
      refine Calls.mono (HT.out _ _ hkk) ?_
      rintro e w2 ⟨rfl, hb2⟩
      have HB2 : Hid (Below w1.heap.size w1 w2) := Lib.hid ((Below.refl _ _).drew.trans hb2)
      clear hb2
      go_simp
      refine hK.out _ _ (by exact HKE.out _ (HS.out.below.trans (HB2.out.mono HS.out.below.size))) (fun hHeld => ?_)
      clear hK K
      try simp only [Act.put, List.setIfInBounds_toArray, List.set_cons_zero, List.set_cons_succ]
      refine wpAnyH_ready (rs := [11]) (by kernel_rfl) (by simp) ?_
      refine AllReadyH.cons (o := _) (by simp only [List.getElem?_toArray, List.getElem?_cons_succ, List.getElem?_cons_zero]; rfl) (fun K hK => ?_) AllReadyH.nil
      go_simp

      refine hK.out _ _ (by exact HKE.out _ (HS.out.below.trans ((HB2.out.alloc HB2.out.size _).mono HS.out.below.size))) (fun hHeld => ?_)
      clear hK K
      try simp only [Act.put, List.setIfInBounds_toArray, List.set_cons_zero, List.set_cons_succ]
      refine wpAnyH_ready (rs := [12]) (by kernel_rfl) (by simp) ?_
      refine AllReadyH.cons (o := _) (by simp only [List.getElem?_toArray, List.getElem?_cons_succ, List.getElem?_cons_zero]; rfl) (fun K hK => ?_) AllReadyH.nil
      rw [if_pos (by rfl)]
      have hown2 := own_below HS.out.own (HB2.out.alloc HB2.out.size (Obj.cells #[Value.int IntKind.i64 (tileX A (E.bs.getD kk 0)), Value.int IntKind.i64 (tileY A (E.bs.getD kk 0))] 94))
      have hsz2 := Nat.le_trans HS.out.below.size (HB2.out.alloc HB2.out.size (Obj.cells #[Value.int IntKind.i64 (tileX A (E.bs.getD kk 0)), Value.int IntKind.i64 (tileY A (E.bs.getD kk 0))] 94)).size
      refine wp_append_own _ (.tmp 27) (.tmp 38) 82 rfl w1.heap.size 94 i2 (.agg #[.int .i64 0, .int .i64 0]) 2 16 Try.underlying82 hi hz0 hz1 hz2 rfl (by decide) _ ([] : List Pt).length (ptCells ([] : List Pt)) rfl hown2 ⟨w2.heap.size, 0, none⟩ 1 1 [.int .i64 (tileX A (E.bs.getD kk 0)), .int .i64 (tileY A (E.bs.getD kk 0))] rfl rfl ?_ (by intro u hu; simp at hu; rcases hu with rfl | rfl <;> rfl) (by have := HLn.out; unfold maxLen; omega) (by have := HLn.out; omega) hsz2 ?_
      · intro j u hj
        match j, hj with
        | 0, hj => simp at hj; subst hj; simp [Addr.add]
        | 1, hj => simp at hj; subst hj; simp [Addr.add]
        | j + 2, hj => simp at hj
      intro v3 w3 ho3 hg3 hnil3
      have HS3 : Hid (AtS w1 (([] : List Pt) ++ [(tileX A (E.bs.getD kk 0), tileY A (E.bs.getD kk 0))]) v3 w3) := Lib.hid (HS.out.push (HB2.out.alloc HB2.out.size _) ho3 hg3)
      clear ho3 hg3 hnil3 hown2 hsz2
      go_simp
      refine hK.out _ _ (by exact HKE.out _ HS3.out.below) (fun hHeld => ?_)
      clear hK K
      try simp only [Act.put, List.setIfInBounds_toArray, List.set_cons_zero, List.set_cons_succ]
      refine wpAnyH_take (i := 13) (v := ?_) (by simp only [List.getElem?_toArray, List.getElem?_cons_succ, List.getElem?_cons_zero]; rfl) (by kernel_rfl) (by kernel_rfl) (by kernel_rfl) (by intro _ _ _ h; exact h) (Or.inl ⟨by rfl, ?_⟩) (by assumption) ?_
      rotate_left
      · intro w hSw; (try dsimp only at hSw); go_simp; try with_reducible rfl
      try simp only [Act.put, List.setIfInBounds_toArray, List.set_cons_zero, List.set_cons_succ]
      refine wpAnyH_done (by kernel_rfl) ?_ _
      go_wp2_with fail
      go_meet
      exact Lib.hid (HFin.out HS3.out)
  case rest =>
    obtain ⟨wA, hwA⟩ : ∃ W, W = wc := ⟨_, rfl⟩
    subst hwA
    have HS0 := hcut
    clear hcut
    go_wp2_with fail
    go_loopw [9, 10, 11] (fun v iv _ wr => ∃ i : Nat, i ≤ nb ∧ iv = .int .i64 i ∧ Hid (AtS w1 (ownP A D E k :: atB A D E k i) v wr)) (fun _ iv _ _ => nb - (intOf iv).toNat)
    case atStart => exact ⟨0, by omega, rfl, HS0⟩
    case round =>
      obtain ⟨i, hi', rfl, HS⟩ := hrel
      obtain ⟨a0, a1, a2, p0, p1, p2, s0, s1, s2⟩ := HK.out wr HS.out.below
      by_cases hlt : i < nb
      · obtain ⟨m, hm⟩ : ∃ m, m = (D.blk i).ins.length := ⟨_, rfl⟩
        have HM := Lib.hid hm
        have hm4 : m ≤ 4 := by rw [hm]; exact HB4.out i hlt
        have HSi0 : Hid (AtS w1 (ownP A D E k :: (atB A D E k i ++ atQ A D E k i 0)) u9 wr) := Lib.hid (by rw [atQ_zero, List.append_nil]; exact HS.out)
        clear HS hm HS0
        go_wp2_with fail
        go_loopw [9, 11] (fun v qv wx => ∃ q : Nat, q ≤ m ∧ qv = .int .i64 q ∧ Hid (AtS w1 (ownP A D E k :: (atB A D E k i ++ atQ A D E k i q)) v wx)) (fun _ qv _ => m - (intOf qv).toNat)
        case atStart => exact ⟨0, by omega, rfl, HSi0⟩
        case round =>
          obtain ⟨wx, hwx⟩ : ∃ W, W = wr := ⟨_, rfl⟩
          subst hwx
          obtain ⟨q, hq, rfl, HS⟩ := hrel
          clear a0 a1 a2 p0 p1 p2 s0 s1 s2 HSi0
          obtain ⟨a0, a1, a2, p0, p1, p2, s0, s1, s2⟩ := HK.out wx HS.out.below
          obtain ⟨qb', qo, La, Lc, hpa, hc0, hsq⟩ := HPb.out wx i (HXW.out wx HS.out.below) hlt
          rw [← HM.out] at hc0
          subst hpa
          by_cases hlq : q < m
          · obtain ⟨lb, lo, hLa, hlb, hlc⟩ := hsq.at q (by rw [← HM.out]; exact hlq)
            have hl := hlc q (by rw [← HM.out]; exact hlq)
            unfold ints at hl
            obtain ⟨x, hx⟩ : ∃ x, x = (D.blk i).ins.getD q 0 := ⟨_, rfl⟩
            rw [← hx] at hl
            subst hLa
            clear hlc hsq hlb
            by_cases hxk : x = (k : Int)
            · have hxb : (x == (k : Int)) = true := by simpa using hxk
              have HLn : Hid ((ownP A D E k :: (atB A D E k i ++ atQ A D E k i q)).length ≤ 100000) := Lib.hid (by
                have := HBl.out i hi'
                have := atQ_len A D E k i q
                simp only [List.length_cons, List.length_append]
                omega)
              have HFin : Hid (∀ {v3 w3}, AtS w1 ((ownP A D E k :: (atB A D E k i ++ atQ A D E k i q)) ++ [(tileX A (E.bs.getD i 0), tileY A (E.bs.getD i 0))]) v3 w3 → AtS w1 (ownP A D E k :: (atB A D E k i ++ atQ A D E k i (q + 1))) v3 w3) := Lib.hid fun h => by
                rw [atQ_yes A D E k i q (by rw [← HM.out]; exact hlq) (by rw [← hx]; exact hxk), ← List.append_assoc]
                exact h
              obtain ⟨eb, eo, hadr, hcel⟩ := HSb.out w1 i HX1.out hlt
              have HEl : Hid (∀ W, Below w1.heap.size w1 W → W.cell? ⟨eb, eo + i, none⟩ = some (.int .i64 (E.bs.getD i 0))) := Lib.hid fun W hW => (hW.cell (p := ⟨_, _, none⟩) (World.block_lt_of_cell? w1 _ hcel)).trans hcel
              subst hadr
              clear hcel
              clear hx hxk
              go_wp2_with fail
              have HKE : Hid (∀ W, Below w1.heap.size w1 W → W.cell? ⟨H, 0, none⟩ = some (.int .i64 aw) ∧ W.cell? ⟨H, 1, none⟩ = some (.int .i64 ah) ∧ W.cell? ⟨H, 2, none⟩ = some (.int .i64 at_) ∧ W.cell? ⟨H + 1, 0, none⟩ = some (.int .i64 pi) ∧ W.cell? ⟨H + 1, 1, none⟩ = some (.slice (some ⟨qb', qo, none⟩) nb pc) ∧ W.cell? ⟨H + 1, 2, none⟩ = some (.slice qa no qc) ∧ W.cell? ⟨H + 1 + 1, 0, none⟩ = some (.slice (some ⟨eb, eo, none⟩) nb bc) ∧ W.cell? ⟨H + 1 + 1, 1, none⟩ = some (.slice ia ni ic) ∧ W.cell? ⟨H + 1 + 1, 2, none⟩ = some (.slice oa no oc) ∧ W.cell? ⟨eb, eo + i, none⟩ = some (.int .i64 (E.bs.getD i 0))) := Lib.hid fun W hW => by
                obtain ⟨a0, a1, a2, p0, p1, p2, s0, s1, s2⟩ := HK.out W hW
                exact ⟨a0, a1, a2, p0, p1, p2, s0, s1, s2, HEl.out W hW⟩
              refine wp_region_held_drew (S := fun w' => w'.cell? ⟨H, 0, none⟩ = some (.int .i64 aw) ∧ w'.cell? ⟨H, 1, none⟩ = some (.int .i64 ah) ∧ w'.cell? ⟨H, 2, none⟩ = some (.int .i64 at_) ∧ w'.cell? ⟨H + 1, 0, none⟩ = some (.int .i64 pi) ∧ w'.cell? ⟨H + 1, 1, none⟩ = some (.slice (some ⟨qb', qo, none⟩) nb pc) ∧ w'.cell? ⟨H + 1, 2, none⟩ = some (.slice qa no qc) ∧ w'.cell? ⟨H + 1 + 1, 0, none⟩ = some (.slice (some ⟨eb, eo, none⟩) nb bc) ∧ w'.cell? ⟨H + 1 + 1, 1, none⟩ = some (.slice ia ni ic) ∧ w'.cell? ⟨H + 1 + 1, 2, none⟩ = some (.slice oa no oc) ∧ w'.cell? ⟨eb, eo + i, none⟩ = some (.int .i64 (E.bs.getD i 0))) (by kernel_rfl) (HKE.out _ HS.out.below.drew) (fun hHeld => ?_)
              refine wpAnyH_take (i := 0) (v := ?_) (by simp only [List.getElem?_toArray, List.getElem?_cons_succ, List.getElem?_cons_zero]; rfl) (by kernel_rfl) (by kernel_rfl) (by kernel_rfl) (by intro _ _ _ h; exact h) (Or.inl ⟨by rfl, ?_⟩) (by assumption) ?_
              rotate_left
              · intro w hSw; (try dsimp only at hSw); go_simp; try with_reducible rfl
              try simp only [Act.put, List.setIfInBounds_toArray, List.set_cons_zero, List.set_cons_succ]
              refine wpAnyH_take (i := 1) (v := ?_) (by simp only [List.getElem?_toArray, List.getElem?_cons_succ, List.getElem?_cons_zero]; rfl) (by kernel_rfl) (by kernel_rfl) (by kernel_rfl) (by intro _ _ _ h; exact h) (Or.inl ⟨by rfl, ?_⟩) (by assumption) ?_
              rotate_left
              · intro w hSw; (try dsimp only at hSw); go_simp; try with_reducible rfl
              try simp only [Act.put, List.setIfInBounds_toArray, List.set_cons_zero, List.set_cons_succ]
              refine wpAnyH_take (i := 2) (v := ?_) (by simp only [List.getElem?_toArray, List.getElem?_cons_succ, List.getElem?_cons_zero]; rfl) (by kernel_rfl) (by kernel_rfl) (by kernel_rfl) (by intro _ _ _ h; exact h) (Or.inl ⟨by rfl, ?_⟩) (by assumption) ?_
              rotate_left
              · intro w hSw; (try dsimp only at hSw); go_simp; try with_reducible rfl
              try simp only [Act.put, List.setIfInBounds_toArray, List.set_cons_zero, List.set_cons_succ]
              refine wpAnyH_take (i := 3) (v := ?_) (by simp only [List.getElem?_toArray, List.getElem?_cons_succ, List.getElem?_cons_zero]; rfl) (by kernel_rfl) (by kernel_rfl) (by kernel_rfl) (by intro _ _ _ h; exact h) (Or.inl ⟨by rfl, ?_⟩) (by assumption) ?_
              rotate_left
              · intro w hSw; (try dsimp only at hSw); go_simp; try with_reducible rfl
              try simp only [Act.put, List.setIfInBounds_toArray, List.set_cons_zero, List.set_cons_succ]
              refine wpAnyH_take (i := 4) (v := ?_) (by simp only [List.getElem?_toArray, List.getElem?_cons_succ, List.getElem?_cons_zero]; rfl) (by kernel_rfl) (by kernel_rfl) (by kernel_rfl) (by intro _ _ _ h; exact h) (Or.inl ⟨by rfl, ?_⟩) (by assumption) ?_
              rotate_left
              · intro w hSw; (try dsimp only at hSw); go_simp; try with_reducible rfl
              try simp only [Act.put, List.setIfInBounds_toArray, List.set_cons_zero, List.set_cons_succ]
              refine wpAnyH_take (i := 5) (v := ?_) (by simp only [List.getElem?_toArray, List.getElem?_cons_succ, List.getElem?_cons_zero]; rfl) (by kernel_rfl) (by kernel_rfl) (by kernel_rfl) (by intro _ _ _ h; exact h) (Or.inl ⟨by rfl, ?_⟩) (by assumption) ?_
              rotate_left
              · intro w hSw; (try dsimp only at hSw); go_simp; first | with_reducible rfl | rw [if_pos (by omega)]
              try simp only [Act.put, List.setIfInBounds_toArray, List.set_cons_zero, List.set_cons_succ]
              refine wpAnyH_take (i := 6) (v := ?_) (by simp only [List.getElem?_toArray, List.getElem?_cons_succ, List.getElem?_cons_zero]; rfl) (by kernel_rfl) (by kernel_rfl) (by kernel_rfl) (by intro _ _ _ h; exact h) (Or.inl ⟨by rfl, ?_⟩) (by assumption) ?_
              rotate_left
              · intro w hSw; (try dsimp only at hSw); go_simp; try with_reducible rfl
              try simp only [Act.put, List.setIfInBounds_toArray, List.set_cons_zero, List.set_cons_succ]
              refine wpAnyH_ready (rs := [7]) (by kernel_rfl) (by simp) ?_
              refine AllReadyH.cons (o := _) (by simp only [List.getElem?_toArray, List.getElem?_cons_succ, List.getElem?_cons_zero]; rfl) (fun K hK => ?_) AllReadyH.nil
              go_simp
              go_at_call 65
              refine Calls.mono (HT.out _ _ hlt) ?_
              rintro e w2 ⟨rfl, hb2⟩
              have HB2 : Hid (Below wx.heap.size wx w2) := Lib.hid ((Below.refl _ _).drew.trans hb2)
              clear hb2
              go_simp
              refine hK.out _ _ (by exact HKE.out _ (HS.out.below.trans (HB2.out.mono HS.out.below.size))) (fun hHeld => ?_)
              clear hK K
              try simp only [Act.put, List.setIfInBounds_toArray, List.set_cons_zero, List.set_cons_succ]
              refine wpAnyH_ready (rs := [8]) (by kernel_rfl) (by simp) ?_
              refine AllReadyH.cons (o := _) (by simp only [List.getElem?_toArray, List.getElem?_cons_succ, List.getElem?_cons_zero]; rfl) (fun K hK => ?_) AllReadyH.nil
              go_simp

              refine hK.out _ _ (by exact HKE.out _ (HS.out.below.trans ((HB2.out.alloc HB2.out.size _).mono HS.out.below.size))) (fun hHeld => ?_)
              clear hK K
              try simp only [Act.put, List.setIfInBounds_toArray, List.set_cons_zero, List.set_cons_succ]
              refine wpAnyH_ready (rs := [9]) (by kernel_rfl) (by simp) ?_
              refine AllReadyH.cons (o := _) (by simp only [List.getElem?_toArray, List.getElem?_cons_succ, List.getElem?_cons_zero]; rfl) (fun K hK => ?_) AllReadyH.nil
              rw [if_pos (by rfl)]
              have hown2 := own_below HS.out.own (HB2.out.alloc HB2.out.size (Obj.cells #[Value.int IntKind.i64 (tileX A (E.bs.getD i 0)), Value.int IntKind.i64 (tileY A (E.bs.getD i 0))] 94))
              have hsz2 := Nat.le_trans HS.out.below.size (HB2.out.alloc HB2.out.size (Obj.cells #[Value.int IntKind.i64 (tileX A (E.bs.getD i 0)), Value.int IntKind.i64 (tileY A (E.bs.getD i 0))] 94)).size
              refine wp_append_own _ (.tmp 69) (.tmp 77) 82 rfl w1.heap.size 94 i2 (.agg #[.int .i64 0, .int .i64 0]) 2 16 Try.underlying82 hi hz0 hz1 hz2 rfl (by decide) _ (ownP A D E k :: (atB A D E k i ++ atQ A D E k i q)).length (ptCells (ownP A D E k :: (atB A D E k i ++ atQ A D E k i q))) rfl hown2 ⟨w2.heap.size, 0, none⟩ 1 1 [.int .i64 (tileX A (E.bs.getD i 0)), .int .i64 (tileY A (E.bs.getD i 0))] rfl rfl ?_ (by intro u hu; simp at hu; rcases hu with rfl | rfl <;> rfl) (by have := HLn.out; unfold maxLen; omega) (by have := HLn.out; omega) hsz2 ?_
              · intro j u hj
                match j, hj with
                | 0, hj => simp at hj; subst hj; simp [Addr.add]
                | 1, hj => simp at hj; subst hj; simp [Addr.add]
                | j + 2, hj => simp at hj
              intro v3 w3 ho3 hg3 hnil3
              have HS3 : Hid (AtS w1 ((ownP A D E k :: (atB A D E k i ++ atQ A D E k i q)) ++ [(tileX A (E.bs.getD i 0), tileY A (E.bs.getD i 0))]) v3 w3) := Lib.hid (HS.out.push (HB2.out.alloc HB2.out.size _) ho3 hg3)
              clear ho3 hg3 hnil3 hown2 hsz2
              go_simp
              refine hK.out _ _ (by exact HKE.out _ HS3.out.below) (fun hHeld => ?_)
              clear hK K
              try simp only [Act.put, List.setIfInBounds_toArray, List.set_cons_zero, List.set_cons_succ]
              refine wpAnyH_take (i := 10) (v := ?_) (by simp only [List.getElem?_toArray, List.getElem?_cons_succ, List.getElem?_cons_zero]; rfl) (by kernel_rfl) (by kernel_rfl) (by kernel_rfl) (by intro _ _ _ h; exact h) (Or.inl ⟨by rfl, ?_⟩) (by assumption) ?_
              rotate_left
              · intro w hSw; (try dsimp only at hSw); go_simp; try with_reducible rfl
              try simp only [Act.put, List.setIfInBounds_toArray, List.set_cons_zero, List.set_cons_succ]
              refine wpAnyH_done (by kernel_rfl) ?_ _
              go_wp2_with fail
              go_roundw
              case rel => exact ⟨q + 1, by omega, by go_num, Lib.hid (HFin.out HS3.out)⟩
              case measure => simp [intOf]; omega
            · have hxb : (x == (k : Int)) = false := by simpa using hxk
              have HS3 : Hid (AtS w1 (ownP A D E k :: (atB A D E k i ++ atQ A D E k i (q + 1))) u9 wx) := Lib.hid (by
                rw [atQ_no A D E k i q (by rw [← HM.out]; exact hlq) (by rw [← hx]; exact hxk)]
                exact HS.out)
              clear hx hxk
              go_wp2_with fail
              go_roundw
              case rel => exact ⟨q + 1, by omega, by go_num, HS3⟩
              case measure => simp [intOf]; omega
          · have hqm : q = m := by omega
            have HS3 : Hid (AtS w1 (ownP A D E k :: atB A D E k (i + 1)) u9 wx) := Lib.hid (by
              rw [atB_snoc, ← HM.out, ← hqm]
              exact HS.out)
            subst hqm
            clear hsq
            go_wp2_with fail
            go_roundw
            case rel => exact ⟨i + 1, by omega, by go_num, HS3⟩
            case measure => simp [intOf]; omega
      · have hib : i = nb := by omega
        have HSo0 : Hid (AtS w1 ((ownP A D E k :: atB A D E k nb) ++ atO A D E k 0) u9 wr) := Lib.hid (by
          rw [← hib]
          show AtS w1 ((ownP A D E k :: atB A D E k i) ++ []) u9 wr
          rw [List.append_nil]; exact HS.out)
        clear HS HS0
        subst hib
        go_wp2_with fail
        go_loopw [9, 12] (fun v jv wx => ∃ j : Nat, j ≤ no ∧ jv = .int .i64 j ∧ Hid (AtS w1 ((ownP A D E k :: atB A D E k i) ++ atO A D E k j) v wx)) (fun _ jv _ => no - (intOf jv).toNat)
        case atStart => exact ⟨0, by omega, rfl, HSo0⟩
        case round =>
          obtain ⟨wx, hwx⟩ : ∃ W, W = wr := ⟨_, rfl⟩
          subst hwx
          obtain ⟨j, hj, rfl, HS⟩ := hrel
          clear a0 a1 a2 p0 p1 p2 s0 s1 s2 HSo0
          obtain ⟨a0, a1, a2, p0, p1, p2, s0, s1, s2⟩ := HK.out wx HS.out.below
          by_cases hlj : j < no
          · obtain ⟨ob, oo, hqa, hc0⟩ := HPo.out wx j (HXW.out wx HS.out.below) hlj
            obtain ⟨x, hx⟩ : ∃ x, x = D.outs.getD j 0 := ⟨_, rfl⟩
            rw [← hx] at hc0
            subst hqa
            by_cases hxk : x = (k : Int)
            · have hxb : (x == (k : Int)) = true := by simpa using hxk
              have HLn : Hid (((ownP A D E k :: atB A D E k i) ++ atO A D E k j).length ≤ 100000) := Lib.hid (by
                have := HBl.out i hi'
                have := atO_len A D E k j
                simp only [List.length_cons, List.length_append]
                omega)
              have HFin : Hid (∀ {v3 w3}, AtS w1 (((ownP A D E k :: atB A D E k i) ++ atO A D E k j) ++ [(padX A (E.os.getD j 0), padY A (E.os.getD j 0))]) v3 w3 → AtS w1 ((ownP A D E k :: atB A D E k i) ++ atO A D E k (j + 1)) v3 w3) := Lib.hid fun h => by
                rw [atO_yes A D E k j (by rw [← hx]; exact hxk), ← List.append_assoc]
                exact h
              obtain ⟨eb, eo, hadr, hcel⟩ := HSo.out w1 j HX1.out hlj
              have HEl : Hid (∀ W, Below w1.heap.size w1 W → W.cell? ⟨eb, eo + j, none⟩ = some (.int .i64 (E.os.getD j 0))) := Lib.hid fun W hW => (hW.cell (p := ⟨_, _, none⟩) (World.block_lt_of_cell? w1 _ hcel)).trans hcel
              subst hadr
              clear hcel
              clear hx hxk
              go_wp2_with fail
              have HKE : Hid (∀ W, Below w1.heap.size w1 W → W.cell? ⟨H, 0, none⟩ = some (.int .i64 aw) ∧ W.cell? ⟨H, 1, none⟩ = some (.int .i64 ah) ∧ W.cell? ⟨H, 2, none⟩ = some (.int .i64 at_) ∧ W.cell? ⟨H + 1, 0, none⟩ = some (.int .i64 pi) ∧ W.cell? ⟨H + 1, 1, none⟩ = some (.slice pa i pc) ∧ W.cell? ⟨H + 1, 2, none⟩ = some (.slice (some ⟨ob, oo, none⟩) no qc) ∧ W.cell? ⟨H + 1 + 1, 0, none⟩ = some (.slice ba i bc) ∧ W.cell? ⟨H + 1 + 1, 1, none⟩ = some (.slice ia ni ic) ∧ W.cell? ⟨H + 1 + 1, 2, none⟩ = some (.slice (some ⟨eb, eo, none⟩) no oc) ∧ W.cell? ⟨eb, eo + j, none⟩ = some (.int .i64 (E.os.getD j 0))) := Lib.hid fun W hW => by
                obtain ⟨a0, a1, a2, p0, p1, p2, s0, s1, s2⟩ := HK.out W hW
                exact ⟨a0, a1, a2, p0, p1, p2, s0, s1, s2, HEl.out W hW⟩
              refine wp_region_held_drew (S := fun w' => w'.cell? ⟨H, 0, none⟩ = some (.int .i64 aw) ∧ w'.cell? ⟨H, 1, none⟩ = some (.int .i64 ah) ∧ w'.cell? ⟨H, 2, none⟩ = some (.int .i64 at_) ∧ w'.cell? ⟨H + 1, 0, none⟩ = some (.int .i64 pi) ∧ w'.cell? ⟨H + 1, 1, none⟩ = some (.slice pa i pc) ∧ w'.cell? ⟨H + 1, 2, none⟩ = some (.slice (some ⟨ob, oo, none⟩) no qc) ∧ w'.cell? ⟨H + 1 + 1, 0, none⟩ = some (.slice ba i bc) ∧ w'.cell? ⟨H + 1 + 1, 1, none⟩ = some (.slice ia ni ic) ∧ w'.cell? ⟨H + 1 + 1, 2, none⟩ = some (.slice (some ⟨eb, eo, none⟩) no oc) ∧ w'.cell? ⟨eb, eo + j, none⟩ = some (.int .i64 (E.os.getD j 0))) (by kernel_rfl) (HKE.out _ HS.out.below.drew) (fun hHeld => ?_)
              refine wpAnyH_take (i := 0) (v := ?_) (by simp only [List.getElem?_toArray, List.getElem?_cons_succ, List.getElem?_cons_zero]; rfl) (by kernel_rfl) (by kernel_rfl) (by kernel_rfl) (by intro _ _ _ h; exact h) (Or.inl ⟨by rfl, ?_⟩) (by assumption) ?_
              rotate_left
              · intro w hSw; (try dsimp only at hSw); go_simp; try with_reducible rfl
              try simp only [Act.put, List.setIfInBounds_toArray, List.set_cons_zero, List.set_cons_succ]
              refine wpAnyH_take (i := 1) (v := ?_) (by simp only [List.getElem?_toArray, List.getElem?_cons_succ, List.getElem?_cons_zero]; rfl) (by kernel_rfl) (by kernel_rfl) (by kernel_rfl) (by intro _ _ _ h; exact h) (Or.inl ⟨by rfl, ?_⟩) (by assumption) ?_
              rotate_left
              · intro w hSw; (try dsimp only at hSw); go_simp; try with_reducible rfl
              try simp only [Act.put, List.setIfInBounds_toArray, List.set_cons_zero, List.set_cons_succ]
              refine wpAnyH_take (i := 2) (v := ?_) (by simp only [List.getElem?_toArray, List.getElem?_cons_succ, List.getElem?_cons_zero]; rfl) (by kernel_rfl) (by kernel_rfl) (by kernel_rfl) (by intro _ _ _ h; exact h) (Or.inl ⟨by rfl, ?_⟩) (by assumption) ?_
              rotate_left
              · intro w hSw; (try dsimp only at hSw); go_simp; try with_reducible rfl
              try simp only [Act.put, List.setIfInBounds_toArray, List.set_cons_zero, List.set_cons_succ]
              refine wpAnyH_take (i := 3) (v := ?_) (by simp only [List.getElem?_toArray, List.getElem?_cons_succ, List.getElem?_cons_zero]; rfl) (by kernel_rfl) (by kernel_rfl) (by kernel_rfl) (by intro _ _ _ h; exact h) (Or.inl ⟨by rfl, ?_⟩) (by assumption) ?_
              rotate_left
              · intro w hSw; (try dsimp only at hSw); go_simp; try with_reducible rfl
              try simp only [Act.put, List.setIfInBounds_toArray, List.set_cons_zero, List.set_cons_succ]
              refine wpAnyH_take (i := 4) (v := ?_) (by simp only [List.getElem?_toArray, List.getElem?_cons_succ, List.getElem?_cons_zero]; rfl) (by kernel_rfl) (by kernel_rfl) (by kernel_rfl) (by intro _ _ _ h; exact h) (Or.inl ⟨by rfl, ?_⟩) (by assumption) ?_
              rotate_left
              · intro w hSw; (try dsimp only at hSw); go_simp; try with_reducible rfl
              try simp only [Act.put, List.setIfInBounds_toArray, List.set_cons_zero, List.set_cons_succ]
              refine wpAnyH_take (i := 5) (v := ?_) (by simp only [List.getElem?_toArray, List.getElem?_cons_succ, List.getElem?_cons_zero]; rfl) (by kernel_rfl) (by kernel_rfl) (by kernel_rfl) (by intro _ _ _ h; exact h) (Or.inl ⟨by rfl, ?_⟩) (by assumption) ?_
              rotate_left
              · intro w hSw; (try dsimp only at hSw); go_simp; first | with_reducible rfl | rw [if_pos (by omega)]
              try simp only [Act.put, List.setIfInBounds_toArray, List.set_cons_zero, List.set_cons_succ]
              refine wpAnyH_take (i := 6) (v := ?_) (by simp only [List.getElem?_toArray, List.getElem?_cons_succ, List.getElem?_cons_zero]; rfl) (by kernel_rfl) (by kernel_rfl) (by kernel_rfl) (by intro _ _ _ h; exact h) (Or.inl ⟨by rfl, ?_⟩) (by assumption) ?_
              rotate_left
              · intro w hSw; (try dsimp only at hSw); go_simp; try with_reducible rfl
              try simp only [Act.put, List.setIfInBounds_toArray, List.set_cons_zero, List.set_cons_succ]
              refine wpAnyH_ready (rs := [7]) (by kernel_rfl) (by simp) ?_
              refine AllReadyH.cons (o := _) (by simp only [List.getElem?_toArray, List.getElem?_cons_succ, List.getElem?_cons_zero]; rfl) (fun K hK => ?_) AllReadyH.nil
              go_simp
              go_at_call 64
              refine Calls.mono (HU.out _ _ (HRo.out j hlj)) ?_
              rintro e w2 ⟨rfl, hb2⟩
              have HB2 : Hid (Below wx.heap.size wx w2) := Lib.hid ((Below.refl _ _).drew.trans hb2)
              clear hb2
              go_simp
              refine hK.out _ _ (by exact HKE.out _ (HS.out.below.trans (HB2.out.mono HS.out.below.size))) (fun hHeld => ?_)
              clear hK K
              try simp only [Act.put, List.setIfInBounds_toArray, List.set_cons_zero, List.set_cons_succ]
              refine wpAnyH_ready (rs := [8]) (by kernel_rfl) (by simp) ?_
              refine AllReadyH.cons (o := _) (by simp only [List.getElem?_toArray, List.getElem?_cons_succ, List.getElem?_cons_zero]; rfl) (fun K hK => ?_) AllReadyH.nil
              go_simp

              refine hK.out _ _ (by exact HKE.out _ (HS.out.below.trans ((HB2.out.alloc HB2.out.size _).mono HS.out.below.size))) (fun hHeld => ?_)
              clear hK K
              try simp only [Act.put, List.setIfInBounds_toArray, List.set_cons_zero, List.set_cons_succ]
              refine wpAnyH_ready (rs := [9]) (by kernel_rfl) (by simp) ?_
              refine AllReadyH.cons (o := _) (by simp only [List.getElem?_toArray, List.getElem?_cons_succ, List.getElem?_cons_zero]; rfl) (fun K hK => ?_) AllReadyH.nil
              rw [if_pos (by rfl)]
              have hown2 := own_below HS.out.own (HB2.out.alloc HB2.out.size (Obj.cells #[Value.int IntKind.i64 (padX A (E.os.getD j 0)), Value.int IntKind.i64 (padY A (E.os.getD j 0))] 94))
              have hsz2 := Nat.le_trans HS.out.below.size (HB2.out.alloc HB2.out.size (Obj.cells #[Value.int IntKind.i64 (padX A (E.os.getD j 0)), Value.int IntKind.i64 (padY A (E.os.getD j 0))] 94)).size
              refine wp_append_own _ (.tmp 93) (.tmp 101) 82 rfl w1.heap.size 94 i2 (.agg #[.int .i64 0, .int .i64 0]) 2 16 Try.underlying82 hi hz0 hz1 hz2 rfl (by decide) _ ((ownP A D E k :: atB A D E k i) ++ atO A D E k j).length (ptCells ((ownP A D E k :: atB A D E k i) ++ atO A D E k j)) rfl hown2 ⟨w2.heap.size, 0, none⟩ 1 1 [.int .i64 (padX A (E.os.getD j 0)), .int .i64 (padY A (E.os.getD j 0))] rfl rfl ?_ (by intro u hu; simp at hu; rcases hu with rfl | rfl <;> rfl) (by have := HLn.out; unfold maxLen; omega) (by have := HLn.out; omega) hsz2 ?_
              · intro j u hj
                match j, hj with
                | 0, hj => simp at hj; subst hj; simp [Addr.add]
                | 1, hj => simp at hj; subst hj; simp [Addr.add]
                | j + 2, hj => simp at hj
              intro v3 w3 ho3 hg3 hnil3
              have HS3 : Hid (AtS w1 (((ownP A D E k :: atB A D E k i) ++ atO A D E k j) ++ [(padX A (E.os.getD j 0), padY A (E.os.getD j 0))]) v3 w3) := Lib.hid (HS.out.push (HB2.out.alloc HB2.out.size _) ho3 hg3)
              clear ho3 hg3 hnil3 hown2 hsz2
              go_simp
              refine hK.out _ _ (by exact HKE.out _ HS3.out.below) (fun hHeld => ?_)
              clear hK K
              try simp only [Act.put, List.setIfInBounds_toArray, List.set_cons_zero, List.set_cons_succ]
              refine wpAnyH_take (i := 10) (v := ?_) (by simp only [List.getElem?_toArray, List.getElem?_cons_succ, List.getElem?_cons_zero]; rfl) (by kernel_rfl) (by kernel_rfl) (by kernel_rfl) (by intro _ _ _ h; exact h) (Or.inl ⟨by rfl, ?_⟩) (by assumption) ?_
              rotate_left
              · intro w hSw; (try dsimp only at hSw); go_simp; try with_reducible rfl
              try simp only [Act.put, List.setIfInBounds_toArray, List.set_cons_zero, List.set_cons_succ]
              refine wpAnyH_done (by kernel_rfl) ?_ _
              go_wp2_with fail
              go_roundw
              case rel => exact ⟨j + 1, by omega, by go_num, Lib.hid (HFin.out HS3.out)⟩
              case measure => simp [intOf]; omega
            · have hxb : (x == (k : Int)) = false := by simpa using hxk
              have HS3 : Hid (AtS w1 ((ownP A D E k :: atB A D E k i) ++ atO A D E k (j + 1)) u9 wx) := Lib.hid (by
                rw [atO_no A D E k j (by rw [← hx]; exact hxk)]
                exact HS.out)
              clear hx hxk
              go_wp2_with fail
              go_roundw
              case rel => exact ⟨j + 1, by omega, by go_num, HS3⟩
              case measure => simp [intOf]; omega
          · have hjn : j = no := by omega
            subst hjn
            obtain ⟨va, vc, rfl, hsq⟩ := own_pts HS.out.own
            have HSq := Lib.hid hsq
            rw [← HL2.out] at HSq
            clear hsq
            go_wp2_with fail
            go_ret
            exact ⟨va, vc, by rw [HL2.out]; rfl, HSq.out, HXW.out _ HS.out.below⟩
end Go.Proofs.Ytholafodachjnaa
