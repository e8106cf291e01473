/- PlaceWires, walked. -/
import Derived.Deep.CutRange
import Derived.Test.YtholafodachjnaaZ46
namespace Go.Proofs.Ytholafodachjnaa
open Go.RowKit Go.Shelf
set_option linter.unusedVariables false
set_option linter.unusedSimpArgs false

set_option maxRecDepth 100000 in
set_option maxHeartbeats 8000000 in
theorem placeWires (w : World) (a : ArchV) (ha : ArchR a) (P : PackV) (hP : PackAt w P) (hPc : P.os.length ≤ P.oc) (S : SpotV) (hS : SpotAt w S) (hSc : S.os.length ≤ S.oc) :
    Calls Try.prog 9 #[a.val, P.val, S.val] w fun e w' => e = .returned (.bool true) ∧ Below w.heap.size w w' := by
  have CF : Hid (∀ W, Calls Try.prog 12 #[a.val, P.val, S.val] W fun e w' => e = .returned (.bool (fewA a P S)) ∧ Below W.heap.size W w') := Lib.hid fun W => few12 W a P S
  have C15 : Hid (fewA a P S = true → ∀ W, Below w.heap.size w W → Calls Try.prog 15 #[a.val, P.val, S.val] W fun e w' => e = .returned (.int .i64 (checkE a P S)) ∧ Below W.heap.size W w') := Lib.hid fun h W hW => check15 W a P S (hP.below hW (Nat.le_refl _)) (fewA_ok hP h).1 (hS.below hW (Nat.le_refl _)) (fewA_ok hP h).2
  have HL : Hid (∀ W, Calls Try.prog 11 #[] W fun e w' => e = .returned (.bool true) ∧ Below W.heap.size W w') := Lib.hid live11
  have CB : Hid (fewA a P S = true → checkE a P S = 0 → ∀ W va vc, Below w.heap.size w W → Seq W va (4 * P.bs.length) (blkCell (List.replicate P.bs.length default)) → Calls Try.prog 13 #[a.val, .agg #[.int .i64 P.ins, .slice va P.bs.length vc, .slice none 0 0], .agg #[.slice S.ba S.bs.length S.bc, .slice S.ia S.is.length S.ic, .slice none 0 0]] W fun e w' => e = .returned (.tuple #[.int .i64 0, .int .i64 0]) ∧ Below W.heap.size W w') :=
    Lib.hid fun h hc W va vc hW hv => cost_bare W a P S va vc _ (fewA_ok hP h).1 (fewA_ok hP h).2 (hS.below hW (Nat.le_refl _)) hP.insR rfl hv hc
  have CC : Hid (fewA a P S = true → checkE a P S = 0 → ∀ W, Below w.heap.size w W → Calls Try.prog 13 #[a.val, P.val, S.val] W fun e w' => e = .returned (.tuple #[.int .i64 (costV a P S), .int .i64 0]) ∧ Below W.heap.size W w') := Lib.hid fun h hc W hW => by
    have := cost13 W a P S (hP.below hW (Nat.le_refl _)) (fewA_ok hP h).1 (hS.below hW (Nat.le_refl _)) (fewA_ok hP h).2
    rw [hc] at this
    exact this
  have CL : Hid (fewA a P S = true → checkE a P S = 0 → ∀ m, m = P.os.length - 1 → ∀ W, Below w.heap.size w W → ∃ cL, cL ≤ costV a P S ∧ Calls Try.prog 13 #[a.val, .agg #[.int .i64 P.ins, .slice P.ba P.bs.length P.bc, .slice P.oa m P.oc], .agg #[.slice S.ba S.bs.length S.bc, .slice S.ia S.is.length S.ic, .slice S.oa m S.oc]] W fun e w' => e = .returned (.tuple #[.int .i64 cL, .int .i64 0]) ∧ Below W.heap.size W w') :=
    Lib.hid fun h hc m hm W hW => cost_less W a P S m (hP.below hW (Nat.le_refl _)) (fewA_ok hP h).1 (hS.below hW (Nat.le_refl _)) (fewA_ok hP h).2 hm hc
  have HLn : Hid (checkE a P S = 0 → P.os.length = S.os.length) := Lib.hid fun h => (checkE_ok.1 h).2.s.o.symm
  have HB9 : Hid (fewA a P S = true → P.bs.length ≤ 500 ∧ P.os.length ≤ 500) := Lib.hid fun h => ⟨(fewA_ok hP h).1.bs, (fewA_ok hP h).1.os⟩
  have HC9 : Hid (P.os.length ≤ P.oc ∧ S.os.length ≤ S.oc) := Lib.hid ⟨hPc, hSc⟩
  obtain ⟨fB, hfB⟩ : ∃ b, b = fewA a P S := ⟨_, rfl⟩
  obtain ⟨er, her⟩ : ∃ b, b = checkE a P S := ⟨_, rfl⟩
  obtain ⟨cS, hcS⟩ : ∃ b, b = costV a P S := ⟨_, rfl⟩
  rw [← hfB] at CF C15 CB CC CL HB9
  rw [← her] at C15 CB CC CL HLn
  rw [← hcS] at CC CL
  clear hfB her hcS hP hS ha hPc hSc
  obtain ⟨i4, hi, hz0, hz1, hz2⟩ := info_parts info46
  obtain ⟨aw, ah, at_⟩ := a
  obtain ⟨pi, pa, pc, pb, qa, qc, qb⟩ := P
  obtain ⟨ba, bc, bs, ia, ic, is, oa, oc, os⟩ := S
  (try unfold ArchV.val at CF)
  (try unfold PackV.val at CF)
  (try unfold SpotV.val at CF)
  (try unfold ArchV.val at C15)
  (try unfold PackV.val at C15)
  (try unfold SpotV.val at C15)
  (try unfold ArchV.val at CB)
  (try unfold PackV.val at CB)
  (try unfold SpotV.val at CB)
  (try unfold ArchV.val at CC)
  (try unfold PackV.val at CC)
  (try unfold SpotV.val at CC)
  (try unfold ArchV.val at CL)
  (try unfold PackV.val at CL)
  (try unfold SpotV.val at CL)
  (try unfold ArchV.val at HLn)
  (try unfold PackV.val at HLn)
  (try unfold SpotV.val at HLn)
  (try unfold ArchV.val at HB9)
  (try unfold PackV.val at HB9)
  (try unfold SpotV.val at HB9)
  (try unfold ArchV.val at HC9)
  (try unfold PackV.val at HC9)
  (try unfold SpotV.val at HC9)
  unfold ArchV.val PackV.val SpotV.val
  (try dsimp only at CF C15 CB CC CL HLn HB9 HC9)
  (try dsimp only)
  obtain ⟨nb, hnb⟩ : ∃ n, n = pb.length := ⟨_, rfl⟩
  (try rw [← hnb] at CF)
  (try rw [← hnb] at C15)
  (try rw [← hnb] at CB)
  (try rw [← hnb] at CC)
  (try rw [← hnb] at CL)
  (try rw [← hnb] at HLn)
  (try rw [← hnb] at HB9)
  (try rw [← hnb] at HC9)
  (try rw [← hnb])
  obtain ⟨no, hno⟩ : ∃ n, n = qb.length := ⟨_, rfl⟩
  (try rw [← hno] at CF)
  (try rw [← hno] at C15)
  (try rw [← hno] at CB)
  (try rw [← hno] at CC)
  (try rw [← hno] at CL)
  (try rw [← hno] at HLn)
  (try rw [← hno] at HB9)
  (try rw [← hno] at HC9)
  (try rw [← hno])
  obtain ⟨nbs, hnbs⟩ : ∃ n, n = bs.length := ⟨_, rfl⟩
  (try rw [← hnbs] at CF)
  (try rw [← hnbs] at C15)
  (try rw [← hnbs] at CB)
  (try rw [← hnbs] at CC)
  (try rw [← hnbs] at CL)
  (try rw [← hnbs] at HLn)
  (try rw [← hnbs] at HB9)
  (try rw [← hnbs] at HC9)
  (try rw [← hnbs])
  obtain ⟨nis, hnis⟩ : ∃ n, n = is.length := ⟨_, rfl⟩
  (try rw [← hnis] at CF)
  (try rw [← hnis] at C15)
  (try rw [← hnis] at CB)
  (try rw [← hnis] at CC)
  (try rw [← hnis] at CL)
  (try rw [← hnis] at HLn)
  (try rw [← hnis] at HB9)
  (try rw [← hnis] at HC9)
  (try rw [← hnis])
  obtain ⟨nos, hnos⟩ : ∃ n, n = os.length := ⟨_, rfl⟩
  (try rw [← hnos] at CF)
  (try rw [← hnos] at C15)
  (try rw [← hnos] at CB)
  (try rw [← hnos] at CC)
  (try rw [← hnos] at CL)
  (try rw [← hnos] at HLn)
  (try rw [← hnos] at HB9)
  (try rw [← hnos] at HC9)
  (try rw [← hnos])
  clear hnb hno hnbs hnis hnos
  obtain ⟨H, hH⟩ : ∃ h, h = w.heap.size := ⟨_, rfl⟩
  obtain ⟨w1, hw1⟩ : ∃ W, W = (((w.alloc (.cells #[.int .i64 aw, .int .i64 ah, .int .i64 at_] 23)).alloc (.cells #[.int .i64 pi, .slice pa nb pc, .slice qa no qc] 27)).alloc (.cells #[.slice ba nbs bc, .slice ia nis ic, .slice oa nos oc] 29)) := ⟨_, rfl⟩
  obtain ⟨H1, hH1⟩ : ∃ x, x = H + 1 := ⟨_, rfl⟩
  obtain ⟨H2, hH2⟩ : ∃ x, x = H1 + 1 := ⟨_, rfl⟩
  have hs1 : w1.heap.size = H + 3 := by rw [hw1, hH]; simp
  have hX1 : Below w.heap.size w w1 := by rw [hw1]; exact (((Below.refl _ _).alloc (Nat.le_refl _) _).alloc (by simp <;> omega) _).alloc (by simp <;> omega) _
  have hrw0 : w1.rowIs (H) 23 3 (fun i => ([.int .i64 aw, .int .i64 ah, .int .i64 at_] : List Value).getD i undef) := by rw [hw1, hH]; exact (((rowL_alloc w 23 [.int .i64 aw, .int .i64 ah, .int .i64 at_]).alloc (.cells #[.int .i64 pi, .slice pa nb pc, .slice qa no qc] 27)).alloc (.cells #[.slice ba nbs bc, .slice ia nis ic, .slice oa nos oc] 29))
  have hrw1 : w1.rowIs (H1) 27 3 (fun i => ([.int .i64 pi, .slice pa nb pc, .slice qa no qc] : List Value).getD i undef) := by
    have h := ((rowL_alloc (w.alloc (.cells #[.int .i64 aw, .int .i64 ah, .int .i64 at_] 23)) 27 [.int .i64 pi, .slice pa nb pc, .slice qa no qc]).alloc (.cells #[.slice ba nbs bc, .slice ia nis ic, .slice oa nos oc] 29))
    have hsz : (w.alloc (.cells #[.int .i64 aw, .int .i64 ah, .int .i64 at_] 23)).heap.size = H1 := by rw [hH1, hH]; simp
    rw [hsz] at h
    rw [hw1]
    exact h
  have hrw2 : w1.rowIs (H2) 29 3 (fun i => ([.slice ba nbs bc, .slice ia nis ic, .slice oa nos oc] : List Value).getD i undef) := by
    have h := (rowL_alloc ((w.alloc (.cells #[.int .i64 aw, .int .i64 ah, .int .i64 at_] 23)).alloc (.cells #[.int .i64 pi, .slice pa nb pc, .slice qa no qc] 27)) 29 [.slice ba nbs bc, .slice ia nis ic, .slice oa nos oc])
    have hsz : ((w.alloc (.cells #[.int .i64 aw, .int .i64 ah, .int .i64 at_] 23)).alloc (.cells #[.int .i64 pi, .slice pa nb pc, .slice qa no qc] 27)).heap.size = H2 := by rw [hH2, hH1, hH]; simp
    rw [hsz] at h
    rw [hw1]
    exact h
  have HK : Hid (∀ W, Below w1.heap.size w1 W → W.cell? ⟨H, 0, none⟩ = some (.int .i64 aw) ∧ W.cell? ⟨H, 1, none⟩ = some (.int .i64 ah) ∧ W.cell? ⟨H, 2, none⟩ = some (.int .i64 at_) ∧ W.cell? ⟨H1, 0, none⟩ = some (.int .i64 pi) ∧ W.cell? ⟨H1, 1, none⟩ = some (.slice pa nb pc) ∧ W.cell? ⟨H1, 2, none⟩ = some (.slice qa no qc) ∧ W.cell? ⟨H2, 0, none⟩ = some (.slice ba nbs bc) ∧ W.cell? ⟨H2, 1, none⟩ = some (.slice ia nis ic) ∧ W.cell? ⟨H2, 2, none⟩ = some (.slice oa nos oc)) := Lib.hid fun W hW => by
    have h0 := hrw0.of_block (hW.block H (by omega))
    have h1 := hrw1.of_block (hW.block H1 (by omega))
    have h2 := hrw2.of_block (hW.block H2 (by omega))
    exact ⟨h0.cell (by omega), h0.cell (by omega), h0.cell (by omega), h1.cell (by omega), h1.cell (by omega), h1.cell (by omega), h2.cell (by omega), h2.cell (by omega), h2.cell (by omega)⟩
  have HSz : Hid (w1.heap.size = H + 3 ∧ H = w.heap.size) := Lib.hid ⟨hs1, hH⟩
  have HXW : Hid (∀ W, Below w1.heap.size w1 W → Below w.heap.size w W) := Lib.hid fun W hW => hX1.trans (hW.mono (by omega))
  have HW1 := Lib.hid hw1
  have HHH := Lib.hid hH
  have HHH1 := Lib.hid hH1
  have HHH2 := Lib.hid hH2
  clear hw1 hX1 hs1 hH hrw0 hrw1 hrw2 hH1 hH2
  go_enter Try.func9, Try.ntmps9
  go_wp2_with fail
  rw [← HW1.out]
  (try rw [← HHH.out])
  (try rw [← HHH1.out])
  (try rw [← HHH2.out])
  refine Calls.mono (HL.out w1) ?_
  rintro e w2 ⟨rfl, hb⟩
  have HBw2 : Hid (Below w1.heap.size w1 w2) := Lib.hid (((Below.refl w1.heap.size w1)).trans (hb.mono ((Below.refl w1.heap.size w1)).size))
  have HVw2 : Hid (Below w1.heap.size w1 w2) := Lib.hid (((Below.refl w1.heap.size w1)).trans (hb.mono ((Below.refl w1.heap.size w1)).size))
  clear hb
  obtain ⟨a0, a1, a2, p0, p1, p2, s0, s1, s2⟩ := HK.out w2 HVw2.out
  go_wp2_with fail
  clear a0 a1 a2 p0 p1 p2 s0 s1 s2
  refine Calls.mono (CF.out w2) ?_
  rintro e w3 ⟨rfl, hb⟩
  have HBw3 : Hid (Below w1.heap.size w1 w3) := Lib.hid ((HBw2.out).trans (hb.mono (HBw2.out).size))
  have HVw3 : Hid (Below w1.heap.size w1 w3) := Lib.hid ((HVw2.out).trans (hb.mono (HVw2.out).size))
  clear hb
  cases hf : fB with
  | false =>
    subst hf
    go_wp2_with fail
    go_ret
    exact ⟨rfl, HXW.out _ HBw3.out⟩
  | true =>
    subst hf
    obtain ⟨a0, a1, a2, p0, p1, p2, s0, s1, s2⟩ := HK.out w3 HVw3.out
    go_wp2_with fail
    clear a0 a1 a2 p0 p1 p2 s0 s1 s2
    refine Calls.mono (C15.out (by trivial) w3 (HXW.out _ HBw3.out)) ?_
    rintro e w4 ⟨rfl, hb⟩
    have HBw4 : Hid (Below w1.heap.size w1 w4) := Lib.hid ((HBw3.out).trans (hb.mono (HBw3.out).size))
    have HVw4 : Hid (Below w1.heap.size w1 w4) := Lib.hid ((HVw3.out).trans (hb.mono (HVw3.out).size))
    clear hb
    by_cases hE : er = 0
    rotate_left
    · have d1 : (er != 0) = true := by simpa using hE
      have d2 : (er == 0) = false := by simpa using hE
      obtain ⟨a0, a1, a2, p0, p1, p2, s0, s1, s2⟩ := HK.out w4 HVw4.out
      go_wp2_with fail
      go_ret
      exact ⟨rfl, HXW.out _ HBw4.out⟩
    subst hE
    have hno := HLn.out (by trivial)
    clear HLn
    subst hno
    have h500 := HB9.out (by trivial)
    have HN5 := Lib.hid h500
    clear h500 HB9
    obtain ⟨X, hX⟩ : ∃ x, x = w4.heap.size := ⟨_, rfl⟩
    obtain ⟨w5, hw5⟩ : ∃ W, W = w4.alloc (.cells #[.int .i64 pi, .slice none 0 0, .slice none 0 0] 27) := ⟨_, rfl⟩
    have hr5 : w5.rowIs X 27 3 (fun i => ([.int .i64 pi, .slice none 0 0, .slice none 0 0] : List Value).getD i undef) := by rw [hw5, hX]; exact rowL_alloc w4 27 [.int .i64 pi, .slice none 0 0, .slice none 0 0]
    have hs5 : w5.heap.size = X + 1 := by rw [hw5, hX]; simp
    have HB5 : Hid (Below w1.heap.size w1 w5) := Lib.hid (by rw [hw5]; exact HBw4.out.alloc HBw4.out.size _)
    have HX5 : Hid (X < w5.heap.size ∧ w1.heap.size ≤ X ∧ w1.heap.size ≤ w5.heap.size) := Lib.hid ⟨by omega, by rw [hX]; exact HBw4.out.size, HB5.out.size⟩
    have HR5 := Lib.hid hr5
    clear hr5 hs5
    obtain ⟨a0, a1, a2, p0, p1, p2, s0, s1, s2⟩ := HK.out w4 HVw4.out
    go_wp2_with fail
    clear a0 a1 a2 p0 p1 p2 s0 s1 s2
    rw [← hw5]
    (try rw [← hX])
    clear hw5 hX
    go_loopg [9] nb (fun g iv wr => ∃ (i : Nat) (v : Value), g + i = nb ∧ iv = .int .i64 i ∧ Hid (KpX w5.heap.size X w5 wr ∧ wr.rowIs X 27 3 (fun i => ([.int .i64 pi, v, .slice none 0 0] : List Value).getD i undef) ∧ wr.ownsRow w5.heap.size 46 4 v i (xsZ i)))
    case atStart => exact ⟨0, .slice none 0 0, by omega, rfl, Lib.hid ⟨KpX.refl _ _ _, HR5.out, World.ownsRow_nil _ _ _ _⟩⟩
    case round =>
      obtain ⟨i, v, hgi, rfl, hh⟩ := hrel
      have HBr : Hid (Below w1.heap.size w1 wr) := Lib.hid (hh.out.1.belowY HB5.out HX5.out.2.1 HX5.out.2.2)
      by_cases hlt : i < nb
      · obtain ⟨a0, a1, a2, p0, p1, p2, s0, s1, s2⟩ := HK.out wr HBr.out
        have x0 : wr.cell? ⟨X, 0, none⟩ = some (.int .i64 pi) := hh.out.2.1.cell (i := 0) (by omega)
        have x1 : wr.cell? ⟨X, 1, none⟩ = some v := hh.out.2.1.cell (i := 1) (by omega)
        have x2 : wr.cell? ⟨X, 2, none⟩ = some (.slice none 0 0) := hh.out.2.1.cell (i := 2) (by omega)
        have hb1 : Below wr.heap.size wr (wr.alloc (.cells #[.slice none 0 0, .int .i64 0, .bool false, .bool false] 46)) := (Below.refl _ _).alloc (Nat.le_refl _) _
        have HOw := Lib.hid (own_below hh.out.2.2 hb1)
        have hnew : ∀ (j : Nat) (u : Value), ([.slice none 0 0, .int .i64 0, .bool false, .bool false] : List Value)[j]? = some u → (wr.alloc (.cells #[.slice none 0 0, .int .i64 0, .bool false, .bool false] 46)).cell? (Addr.add ⟨wr.heap.size, 0, none⟩ j) = some u := by
          intro j u hj
          have r := rowL_alloc wr 46 [.slice none 0 0, .int .i64 0, .bool false, .bool false]
          rw [Addr.add_lit, Nat.zero_add]
          have hj4 : j < 4 := (List.getElem?_eq_some_iff.1 hj).1
          rw [r.cell hj4]
          simp only [List.getD_eq_getElem?_getD]
          rw [hj]
          rfl
        have HNew := Lib.hid hnew
        have HKp : Hid (KpX w5.heap.size X w5 (wr.alloc (.cells #[.slice none 0 0, .int .i64 0, .bool false, .bool false] 46))) := Lib.hid (hh.out.1.trans (KpX.below (hb1.mono hh.out.1.size)))
        have HS2 : Hid (w5.heap.size ≤ (wr.alloc (.cells #[.slice none 0 0, .int .i64 0, .bool false, .bool false] 46)).heap.size) := Lib.hid HKp.out.size
        have HRx : Hid (∀ w2, (wr.alloc (.cells #[.slice none 0 0, .int .i64 0, .bool false, .bool false] 46)).grownBy w2 v.ownBlock → w2.rowIs X 27 3 (fun i => ([.int .i64 pi, v, .slice none 0 0] : List Value).getD i undef)) := Lib.hid fun w2 hg => by
          have r1 := hh.out.2.1.of_block (hb1.block X hh.out.2.1.lt)
          exact r1.of_block (hg.block X r1.lt (fun e => by have := (HOw.out.lt X e.symm).1; have := HX5.out.1; omega))
        have hn5 := HN5.out
        have hi9 : i ≤ 500 := by omega
        have HH := hh
        clear hb1 hnew hh
        go_wp2_with (at_builtin; go_loud (refine wpList_append_own _ rfl _ _ 24 rfl w5.heap.size 46 i4 (.agg #[.slice none 0 0, .int .i64 0, .bool false, .bool false]) 4 40 Try.underlying24 hi hz0 hz1 hz2 rfl (by decide) _ _ _ rfl HOw.out ⟨wr.heap.size, 0, none⟩ 1 1 [.slice none 0 0, .int .i64 0, .bool false, .bool false] rfl rfl HNew.out (by intro u hu; simp at hu; rcases hu with rfl | rfl | rfl <;> rfl) (by unfold maxLen; omega) (by omega) HS2.out ?_; intro v2 w7 ho2 hg2 hnil2; obtain ⟨ad2, ac2, rfl⟩ := own_slice ho2; clear a0 a1 a2 p0 p1 p2 s0 s1 s2 x0 x1 x2; have hrw2 := HRx.out w7 hg2; have HR2 := Lib.hid hrw2; have y1 : w7.cell? ⟨X, 1, none⟩ = some v := hrw2.cell (i := 1) (by omega); have yf := hrw2.frozen 1; have HO2 := Lib.hid ho2; have HG2 := Lib.hid hg2; clear hrw2 ho2 hg2 hnil2))
        have hg3 : w7.grownBy (w7.setCell ⟨X, 1, none⟩ (.slice ad2 (i + 1) ac2)) (some X) := grown_setB (World.grownBy.refl _ _) _ _
        have F2 : wrap64 ((i : Int) + 1) = ((i + 1 : Nat) : Int) := by rw [wrap64s (by omega) (by omega)]; omega
        have HKp2 : Hid (KpX w5.heap.size X w5 w7) := Lib.hid (HKp.out.trans (KpX.grownAny HG2.out (fun r e => (HOw.out.lt r e).1) HS2.out))
        go_wp2_with fail
        go_roundg (nb - (i + 1))
        case measure => omega
        case rel => exact ⟨i + 1, _, by omega, by go_num, Lib.hid ⟨HKp2.out.trans (KpX.grown hg3 HKp2.out.size), put27_row HR2.out, by rw [xsZ_snoc]; exact own_grownG (by decide) HO2.out hg3 HR2.out⟩⟩
      · have hin : nb = i := by omega
        subst hin
        obtain ⟨va, vc, rfl, hsq⟩ := own_bare hh.out.2.2
        obtain ⟨w6, hw6⟩ : ∃ W, W = wr := ⟨_, rfl⟩
        rw [← hw6] at HBr hh hsq ⊢
        clear hw6
        have HSq := Lib.hid hsq
        have HKw6 : Hid (∀ W, Below w6.heap.size w6 W → W.cell? ⟨H, 0, none⟩ = some (.int .i64 aw) ∧ W.cell? ⟨H, 1, none⟩ = some (.int .i64 ah) ∧ W.cell? ⟨H, 2, none⟩ = some (.int .i64 at_) ∧ W.cell? ⟨H1, 0, none⟩ = some (.int .i64 pi) ∧ W.cell? ⟨H1, 1, none⟩ = some (.slice pa nb pc) ∧ W.cell? ⟨H1, 2, none⟩ = some (.slice qa no qc) ∧ W.cell? ⟨H2, 0, none⟩ = some (.slice ba nbs bc) ∧ W.cell? ⟨H2, 1, none⟩ = some (.slice ia nis ic) ∧ W.cell? ⟨H2, 2, none⟩ = some (.slice oa no oc) ∧ W.cell? ⟨X, 0, none⟩ = some (.int .i64 pi) ∧ W.cell? ⟨X, 1, none⟩ = some (.slice va nb vc) ∧ W.cell? ⟨X, 2, none⟩ = some (.slice none 0 0)) := Lib.hid fun W hW => by
          obtain ⟨a0, a1, a2, p0, p1, p2, s0, s1, s2⟩ := HK.out W (HBr.out.trans (hW.mono HBr.out.size))
          have h := hh.out.2.1.of_block (hW.block X hh.out.2.1.lt)
          exact ⟨a0, a1, a2, p0, p1, p2, s0, s1, s2, h.cell (by omega), h.cell (by omega), h.cell (by omega)⟩
        have HBw6 : Hid (Below w1.heap.size w1 w6) := HBr
        clear hsq hh
        obtain ⟨a0, a1, a2, p0, p1, p2, s0, s1, s2, x0, x1, x2⟩ := HKw6.out w6 (Below.refl w6.heap.size w6)
        go_upto_region 11 with fail
        obtain ⟨B10, hB10⟩ : ∃ x, x = w6.heap.size := ⟨_, rfl⟩
        obtain ⟨w7a, hw7a⟩ : ∃ W, W = w6.alloc (.cells #[.slice ba nbs bc, .slice ia nis ic, .slice oa no oc] 29) := ⟨_, rfl⟩
        have hvw7a : Below w6.heap.size w6 w7a := by rw [hw7a]; exact (Below.refl _ _).alloc (Nat.le_refl _) _
        have HBw7a : Hid (Below w1.heap.size w1 w7a) := Lib.hid ((HBw6.out).trans (hvw7a.mono (HBw6.out).size))
        have HUw7a := Lib.hid hvw7a
        have hrw7a : w7a.rowIs (B10) 29 3 (fun i => ([.slice ba nbs bc, .slice ia nis ic, .slice oa no oc] : List Value).getD i undef) := by rw [hw7a, hB10]; exact rowL_alloc w6 29 [.slice ba nbs bc, .slice ia nis ic, .slice oa no oc]
        have HKw7a : Hid (∀ W, Below w7a.heap.size w7a W → W.cell? ⟨H, 0, none⟩ = some (.int .i64 aw) ∧ W.cell? ⟨H, 1, none⟩ = some (.int .i64 ah) ∧ W.cell? ⟨H, 2, none⟩ = some (.int .i64 at_) ∧ W.cell? ⟨H1, 0, none⟩ = some (.int .i64 pi) ∧ W.cell? ⟨H1, 1, none⟩ = some (.slice pa nb pc) ∧ W.cell? ⟨H1, 2, none⟩ = some (.slice qa no qc) ∧ W.cell? ⟨H2, 0, none⟩ = some (.slice ba nbs bc) ∧ W.cell? ⟨H2, 1, none⟩ = some (.slice ia nis ic) ∧ W.cell? ⟨H2, 2, none⟩ = some (.slice oa no oc) ∧ W.cell? ⟨X, 0, none⟩ = some (.int .i64 pi) ∧ W.cell? ⟨X, 1, none⟩ = some (.slice va nb vc) ∧ W.cell? ⟨X, 2, none⟩ = some (.slice none 0 0) ∧ W.cell? ⟨B10, 0, none⟩ = some (.slice ba nbs bc) ∧ W.cell? ⟨B10, 1, none⟩ = some (.slice ia nis ic) ∧ W.cell? ⟨B10, 2, none⟩ = some (.slice oa no oc)) := Lib.hid fun W hW => by
          obtain ⟨a0, a1, a2, p0, p1, p2, s0, s1, s2, x0, x1, x2⟩ := HKw6.out W (((Below.refl w6.heap.size w6)).trans ((hvw7a.trans (hW.mono hvw7a.size)).mono ((Below.refl w6.heap.size w6)).size))
          have h := hrw7a.of_block (hW.block B10 hrw7a.lt)
          exact ⟨a0, a1, a2, p0, p1, p2, s0, s1, s2, x0, x1, x2, h.cell (by omega), h.cell (by omega), h.cell (by omega)⟩
        have HRww7a := Lib.hid hrw7a
        have GEB10 : Hid (w1.heap.size ≤ B10 ∧ w6.heap.size ≤ B10) := Lib.hid ⟨by rw [hB10]; exact (HBw6.out).size, by rw [hB10]; exact ((Below.refl w6.heap.size w6)).size⟩
        clear hvw7a hrw7a
        go_upto_region 12 with fail
        clear a0 a1 a2 p0 p1 p2 s0 s1 s2 x0 x1 x2
        rw [← hw7a]
        (try rw [← hB10])
        clear hw7a hB10
        obtain ⟨w7, hw7⟩ : ∃ V, V = w7a.setCell ⟨B10, 2, none⟩ (.slice none 0 0) := ⟨_, rfl⟩
        have hrw7 : w7.rowIs (B10) 29 3 (fun i => ([.slice ba nbs bc, .slice ia nis ic, .slice none 0 0] : List Value).getD i undef) := by
          rw [hw7]
          refine (HRww7a.out.set 2 (.slice none 0 0)).congr fun i hi => ?_
          match i, hi with
          | 0, _ => rfl
          | 1, _ => rfl
          | 2, _ => rfl
        have HBw7 : Hid (Below w1.heap.size w1 w7) := Lib.hid (by rw [hw7]; exact ((HBw7a.out).setCell (p := ⟨B10, 2, none⟩) GEB10.out.1 _))
        have hpw7 : Below w6.heap.size w6 w7 := by rw [hw7]; exact ((((Below.refl w6.heap.size w6)).trans (HUw7a.out.mono ((Below.refl w6.heap.size w6)).size)).setCell (p := ⟨B10, 2, none⟩) GEB10.out.2 _)
        have HKw7 : Hid (∀ W, Below w7.heap.size w7 W → W.cell? ⟨H, 0, none⟩ = some (.int .i64 aw) ∧ W.cell? ⟨H, 1, none⟩ = some (.int .i64 ah) ∧ W.cell? ⟨H, 2, none⟩ = some (.int .i64 at_) ∧ W.cell? ⟨H1, 0, none⟩ = some (.int .i64 pi) ∧ W.cell? ⟨H1, 1, none⟩ = some (.slice pa nb pc) ∧ W.cell? ⟨H1, 2, none⟩ = some (.slice qa no qc) ∧ W.cell? ⟨H2, 0, none⟩ = some (.slice ba nbs bc) ∧ W.cell? ⟨H2, 1, none⟩ = some (.slice ia nis ic) ∧ W.cell? ⟨H2, 2, none⟩ = some (.slice oa no oc) ∧ W.cell? ⟨X, 0, none⟩ = some (.int .i64 pi) ∧ W.cell? ⟨X, 1, none⟩ = some (.slice va nb vc) ∧ W.cell? ⟨X, 2, none⟩ = some (.slice none 0 0) ∧ W.cell? ⟨B10, 0, none⟩ = some (.slice ba nbs bc) ∧ W.cell? ⟨B10, 1, none⟩ = some (.slice ia nis ic) ∧ W.cell? ⟨B10, 2, none⟩ = some (.slice none 0 0)) := Lib.hid fun W hW => by
          obtain ⟨a0, a1, a2, p0, p1, p2, s0, s1, s2, x0, x1, x2⟩ := HKw6.out W (hpw7.trans (hW.mono hpw7.size))
          have h := hrw7.of_block (hW.block B10 hrw7.lt)
          exact ⟨a0, a1, a2, p0, p1, p2, s0, s1, s2, x0, x1, x2, h.cell (by omega), h.cell (by omega), h.cell (by omega)⟩
        have HPw7 := Lib.hid hpw7
        clear hpw7 hrw7
        obtain ⟨a0, a1, a2, p0, p1, p2, s0, s1, s2, x0, x1, x2, y0, y1, y2⟩ := HKw7a.out w7a (Below.refl _ _)
        have zf := HRww7a.out.frozen 2
        go_upto_region 13 with fail
        clear zf a0 a1 a2 p0 p1 p2 s0 s1 s2 x0 x1 x2 y0 y1 y2
        rw [← hw7]
        clear hw7
        have HS7 := Lib.hid (HSq.out.below HPw7.out (Nat.le_refl _))
        obtain ⟨a0, a1, a2, p0, p1, p2, s0, s1, s2, x0, x1, x2, y0, y1, y2⟩ := HKw7.out w7 (Below.refl w7.heap.size w7)
        go_wp2_with fail
        clear a0 a1 a2 p0 p1 p2 s0 s1 s2 x0 x1 x2 y0 y1 y2
        refine Calls.mono (CB.out (by trivial) (by trivial) w7 va vc (HXW.out _ HBw7.out) HS7.out) ?_
        rintro e w8 ⟨rfl, hb⟩
        have HBw8 : Hid (Below w1.heap.size w1 w8) := Lib.hid ((HBw7.out).trans (hb.mono (HBw7.out).size))
        have HVw8 : Hid (Below w7.heap.size w7 w8) := Lib.hid (((Below.refl w7.heap.size w7)).trans (hb.mono ((Below.refl w7.heap.size w7)).size))
        clear hb
        by_cases hz : no = 0
        · subst hz
          obtain ⟨a0, a1, a2, p0, p1, p2, s0, s1, s2, x0, x1, x2, y0, y1, y2⟩ := HKw7.out w8 HVw8.out
          go_wp2_with fail
          go_ret
          exact ⟨rfl, HXW.out _ HBw8.out⟩
        have gz : ((no : Int) == 0) = false := by
          have : ¬ (no : Int) = 0 := by omega
          simpa using this
        obtain ⟨m, hm⟩ : ∃ m, m = no - 1 := ⟨_, rfl⟩
        have hc9 := HC9.out
        have hn5 := HN5.out
        have F3 : Hid (wrap64 ((no : Int) - 1) = (m : Int)) := Lib.hid (by rw [wrap64s (by omega) (by omega)]; omega)
        have hmq : m ≤ qc := by omega
        have hmo : m ≤ oc := by omega
        have HM := Lib.hid hm
        clear hz hc9 hn5 hm
        obtain ⟨a0, a1, a2, p0, p1, p2, s0, s1, s2, x0, x1, x2, y0, y1, y2⟩ := HKw7.out w8 HVw8.out
        go_upto_region 18 with fail
        clear gz
        obtain ⟨B13, hB13⟩ : ∃ x, x = w8.heap.size := ⟨_, rfl⟩
        obtain ⟨w9a, hw9a⟩ : ∃ W, W = w8.alloc (.cells #[.int .i64 pi, .slice pa nb pc, .slice qa no qc] 27) := ⟨_, rfl⟩
        have hvw9a : Below w8.heap.size w8 w9a := by rw [hw9a]; exact (Below.refl _ _).alloc (Nat.le_refl _) _
        have HBw9a : Hid (Below w1.heap.size w1 w9a) := Lib.hid ((HBw8.out).trans (hvw9a.mono (HBw8.out).size))
        have HUw9a := Lib.hid hvw9a
        have hrw9a : w9a.rowIs (B13) 27 3 (fun i => ([.int .i64 pi, .slice pa nb pc, .slice qa no qc] : List Value).getD i undef) := by rw [hw9a, hB13]; exact rowL_alloc w8 27 [.int .i64 pi, .slice pa nb pc, .slice qa no qc]
        have HKw9a : Hid (∀ W, Below w9a.heap.size w9a W → W.cell? ⟨H, 0, none⟩ = some (.int .i64 aw) ∧ W.cell? ⟨H, 1, none⟩ = some (.int .i64 ah) ∧ W.cell? ⟨H, 2, none⟩ = some (.int .i64 at_) ∧ W.cell? ⟨H1, 0, none⟩ = some (.int .i64 pi) ∧ W.cell? ⟨H1, 1, none⟩ = some (.slice pa nb pc) ∧ W.cell? ⟨H1, 2, none⟩ = some (.slice qa no qc) ∧ W.cell? ⟨H2, 0, none⟩ = some (.slice ba nbs bc) ∧ W.cell? ⟨H2, 1, none⟩ = some (.slice ia nis ic) ∧ W.cell? ⟨H2, 2, none⟩ = some (.slice oa no oc) ∧ W.cell? ⟨X, 0, none⟩ = some (.int .i64 pi) ∧ W.cell? ⟨X, 1, none⟩ = some (.slice va nb vc) ∧ W.cell? ⟨X, 2, none⟩ = some (.slice none 0 0) ∧ W.cell? ⟨B10, 0, none⟩ = some (.slice ba nbs bc) ∧ W.cell? ⟨B10, 1, none⟩ = some (.slice ia nis ic) ∧ W.cell? ⟨B10, 2, none⟩ = some (.slice none 0 0) ∧ W.cell? ⟨B13, 0, none⟩ = some (.int .i64 pi) ∧ W.cell? ⟨B13, 1, none⟩ = some (.slice pa nb pc) ∧ W.cell? ⟨B13, 2, none⟩ = some (.slice qa no qc)) := Lib.hid fun W hW => by
          obtain ⟨a0, a1, a2, p0, p1, p2, s0, s1, s2, x0, x1, x2, y0, y1, y2⟩ := HKw7.out W ((HVw8.out).trans ((hvw9a.trans (hW.mono hvw9a.size)).mono (HVw8.out).size))
          have h := hrw9a.of_block (hW.block B13 hrw9a.lt)
          exact ⟨a0, a1, a2, p0, p1, p2, s0, s1, s2, x0, x1, x2, y0, y1, y2, h.cell (by omega), h.cell (by omega), h.cell (by omega)⟩
        have HRww9a := Lib.hid hrw9a
        have GEB13 : Hid (w1.heap.size ≤ B13 ∧ w7.heap.size ≤ B13) := Lib.hid ⟨by rw [hB13]; exact (HBw8.out).size, by rw [hB13]; exact (HVw8.out).size⟩
        clear hvw9a hrw9a
        go_upto_region 19 with fail
        clear a0 a1 a2 p0 p1 p2 s0 s1 s2 x0 x1 x2 y0 y1 y2
        rw [← hw9a]
        (try rw [← hB13])
        clear hw9a hB13
        obtain ⟨w9, hw9⟩ : ∃ V, V = w9a.setCell ⟨B13, 2, none⟩ (.slice qa m qc) := ⟨_, rfl⟩
        have hrw9 : w9.rowIs (B13) 27 3 (fun i => ([.int .i64 pi, .slice pa nb pc, .slice qa m qc] : List Value).getD i undef) := by
          rw [hw9]
          refine (HRww9a.out.set 2 (.slice qa m qc)).congr fun i hi => ?_
          match i, hi with
          | 0, _ => rfl
          | 1, _ => rfl
          | 2, _ => rfl
        have HBw9 : Hid (Below w1.heap.size w1 w9) := Lib.hid (by rw [hw9]; exact ((HBw9a.out).setCell (p := ⟨B13, 2, none⟩) GEB13.out.1 _))
        have hpw9 : Below w7.heap.size w7 w9 := by rw [hw9]; exact (((HVw8.out).trans (HUw9a.out.mono (HVw8.out).size)).setCell (p := ⟨B13, 2, none⟩) GEB13.out.2 _)
        have HKw9 : Hid (∀ W, Below w9.heap.size w9 W → W.cell? ⟨H, 0, none⟩ = some (.int .i64 aw) ∧ W.cell? ⟨H, 1, none⟩ = some (.int .i64 ah) ∧ W.cell? ⟨H, 2, none⟩ = some (.int .i64 at_) ∧ W.cell? ⟨H1, 0, none⟩ = some (.int .i64 pi) ∧ W.cell? ⟨H1, 1, none⟩ = some (.slice pa nb pc) ∧ W.cell? ⟨H1, 2, none⟩ = some (.slice qa no qc) ∧ W.cell? ⟨H2, 0, none⟩ = some (.slice ba nbs bc) ∧ W.cell? ⟨H2, 1, none⟩ = some (.slice ia nis ic) ∧ W.cell? ⟨H2, 2, none⟩ = some (.slice oa no oc) ∧ W.cell? ⟨X, 0, none⟩ = some (.int .i64 pi) ∧ W.cell? ⟨X, 1, none⟩ = some (.slice va nb vc) ∧ W.cell? ⟨X, 2, none⟩ = some (.slice none 0 0) ∧ W.cell? ⟨B10, 0, none⟩ = some (.slice ba nbs bc) ∧ W.cell? ⟨B10, 1, none⟩ = some (.slice ia nis ic) ∧ W.cell? ⟨B10, 2, none⟩ = some (.slice none 0 0) ∧ W.cell? ⟨B13, 0, none⟩ = some (.int .i64 pi) ∧ W.cell? ⟨B13, 1, none⟩ = some (.slice pa nb pc) ∧ W.cell? ⟨B13, 2, none⟩ = some (.slice qa m qc)) := Lib.hid fun W hW => by
          obtain ⟨a0, a1, a2, p0, p1, p2, s0, s1, s2, x0, x1, x2, y0, y1, y2⟩ := HKw7.out W (hpw9.trans (hW.mono hpw9.size))
          have h := hrw9.of_block (hW.block B13 hrw9.lt)
          exact ⟨a0, a1, a2, p0, p1, p2, s0, s1, s2, x0, x1, x2, y0, y1, y2, h.cell (by omega), h.cell (by omega), h.cell (by omega)⟩
        have HPw9 := Lib.hid hpw9
        clear hpw9 hrw9
        obtain ⟨a0, a1, a2, p0, p1, p2, s0, s1, s2, x0, x1, x2, y0, y1, y2, t0, t1, t2⟩ := HKw9a.out w9a (Below.refl _ _)
        have zf := HRww9a.out.frozen 2
        have F4 := F3.out
        go_upto_region 20 with fail
        clear F4 zf a0 a1 a2 p0 p1 p2 s0 s1 s2 x0 x1 x2 y0 y1 y2 t0 t1 t2
        rw [← hw9]
        clear hw9
        obtain ⟨a0, a1, a2, p0, p1, p2, s0, s1, s2, x0, x1, x2, y0, y1, y2, t0, t1, t2⟩ := HKw9.out w9 (Below.refl w9.heap.size w9)
        obtain ⟨B14, hB14⟩ : ∃ x, x = w9.heap.size := ⟨_, rfl⟩
        obtain ⟨w10a, hw10a⟩ : ∃ W, W = w9.alloc (.cells #[.slice ba nbs bc, .slice ia nis ic, .slice oa no oc] 29) := ⟨_, rfl⟩
        have hvw10a : Below w9.heap.size w9 w10a := by rw [hw10a]; exact (Below.refl _ _).alloc (Nat.le_refl _) _
        have HBw10a : Hid (Below w1.heap.size w1 w10a) := Lib.hid ((HBw9.out).trans (hvw10a.mono (HBw9.out).size))
        have HUw10a := Lib.hid hvw10a
        have hrw10a : w10a.rowIs (B14) 29 3 (fun i => ([.slice ba nbs bc, .slice ia nis ic, .slice oa no oc] : List Value).getD i undef) := by rw [hw10a, hB14]; exact rowL_alloc w9 29 [.slice ba nbs bc, .slice ia nis ic, .slice oa no oc]
        have HKw10a : Hid (∀ W, Below w10a.heap.size w10a W → W.cell? ⟨H, 0, none⟩ = some (.int .i64 aw) ∧ W.cell? ⟨H, 1, none⟩ = some (.int .i64 ah) ∧ W.cell? ⟨H, 2, none⟩ = some (.int .i64 at_) ∧ W.cell? ⟨H1, 0, none⟩ = some (.int .i64 pi) ∧ W.cell? ⟨H1, 1, none⟩ = some (.slice pa nb pc) ∧ W.cell? ⟨H1, 2, none⟩ = some (.slice qa no qc) ∧ W.cell? ⟨H2, 0, none⟩ = some (.slice ba nbs bc) ∧ W.cell? ⟨H2, 1, none⟩ = some (.slice ia nis ic) ∧ W.cell? ⟨H2, 2, none⟩ = some (.slice oa no oc) ∧ W.cell? ⟨X, 0, none⟩ = some (.int .i64 pi) ∧ W.cell? ⟨X, 1, none⟩ = some (.slice va nb vc) ∧ W.cell? ⟨X, 2, none⟩ = some (.slice none 0 0) ∧ W.cell? ⟨B10, 0, none⟩ = some (.slice ba nbs bc) ∧ W.cell? ⟨B10, 1, none⟩ = some (.slice ia nis ic) ∧ W.cell? ⟨B10, 2, none⟩ = some (.slice none 0 0) ∧ W.cell? ⟨B13, 0, none⟩ = some (.int .i64 pi) ∧ W.cell? ⟨B13, 1, none⟩ = some (.slice pa nb pc) ∧ W.cell? ⟨B13, 2, none⟩ = some (.slice qa m qc) ∧ W.cell? ⟨B14, 0, none⟩ = some (.slice ba nbs bc) ∧ W.cell? ⟨B14, 1, none⟩ = some (.slice ia nis ic) ∧ W.cell? ⟨B14, 2, none⟩ = some (.slice oa no oc)) := Lib.hid fun W hW => by
          obtain ⟨a0, a1, a2, p0, p1, p2, s0, s1, s2, x0, x1, x2, y0, y1, y2, t0, t1, t2⟩ := HKw9.out W (((Below.refl w9.heap.size w9)).trans ((hvw10a.trans (hW.mono hvw10a.size)).mono ((Below.refl w9.heap.size w9)).size))
          have h := hrw10a.of_block (hW.block B14 hrw10a.lt)
          exact ⟨a0, a1, a2, p0, p1, p2, s0, s1, s2, x0, x1, x2, y0, y1, y2, t0, t1, t2, h.cell (by omega), h.cell (by omega), h.cell (by omega)⟩
        have HRww10a := Lib.hid hrw10a
        have GEB14 : Hid (w1.heap.size ≤ B14 ∧ w9.heap.size ≤ B14) := Lib.hid ⟨by rw [hB14]; exact (HBw9.out).size, by rw [hB14]; exact ((Below.refl w9.heap.size w9)).size⟩
        clear hvw10a hrw10a
        go_upto_region 21 with fail
        clear a0 a1 a2 p0 p1 p2 s0 s1 s2 x0 x1 x2 y0 y1 y2 t0 t1 t2
        rw [← hw10a]
        (try rw [← hB14])
        clear hw10a hB14
        obtain ⟨w10, hw10⟩ : ∃ V, V = w10a.setCell ⟨B14, 2, none⟩ (.slice oa m oc) := ⟨_, rfl⟩
        have hrw10 : w10.rowIs (B14) 29 3 (fun i => ([.slice ba nbs bc, .slice ia nis ic, .slice oa m oc] : List Value).getD i undef) := by
          rw [hw10]
          refine (HRww10a.out.set 2 (.slice oa m oc)).congr fun i hi => ?_
          match i, hi with
          | 0, _ => rfl
          | 1, _ => rfl
          | 2, _ => rfl
        have HBw10 : Hid (Below w1.heap.size w1 w10) := Lib.hid (by rw [hw10]; exact ((HBw10a.out).setCell (p := ⟨B14, 2, none⟩) GEB14.out.1 _))
        have hpw10 : Below w9.heap.size w9 w10 := by rw [hw10]; exact ((((Below.refl w9.heap.size w9)).trans (HUw10a.out.mono ((Below.refl w9.heap.size w9)).size)).setCell (p := ⟨B14, 2, none⟩) GEB14.out.2 _)
        have HKw10 : Hid (∀ W, Below w10.heap.size w10 W → W.cell? ⟨H, 0, none⟩ = some (.int .i64 aw) ∧ W.cell? ⟨H, 1, none⟩ = some (.int .i64 ah) ∧ W.cell? ⟨H, 2, none⟩ = some (.int .i64 at_) ∧ W.cell? ⟨H1, 0, none⟩ = some (.int .i64 pi) ∧ W.cell? ⟨H1, 1, none⟩ = some (.slice pa nb pc) ∧ W.cell? ⟨H1, 2, none⟩ = some (.slice qa no qc) ∧ W.cell? ⟨H2, 0, none⟩ = some (.slice ba nbs bc) ∧ W.cell? ⟨H2, 1, none⟩ = some (.slice ia nis ic) ∧ W.cell? ⟨H2, 2, none⟩ = some (.slice oa no oc) ∧ W.cell? ⟨X, 0, none⟩ = some (.int .i64 pi) ∧ W.cell? ⟨X, 1, none⟩ = some (.slice va nb vc) ∧ W.cell? ⟨X, 2, none⟩ = some (.slice none 0 0) ∧ W.cell? ⟨B10, 0, none⟩ = some (.slice ba nbs bc) ∧ W.cell? ⟨B10, 1, none⟩ = some (.slice ia nis ic) ∧ W.cell? ⟨B10, 2, none⟩ = some (.slice none 0 0) ∧ W.cell? ⟨B13, 0, none⟩ = some (.int .i64 pi) ∧ W.cell? ⟨B13, 1, none⟩ = some (.slice pa nb pc) ∧ W.cell? ⟨B13, 2, none⟩ = some (.slice qa m qc) ∧ W.cell? ⟨B14, 0, none⟩ = some (.slice ba nbs bc) ∧ W.cell? ⟨B14, 1, none⟩ = some (.slice ia nis ic) ∧ W.cell? ⟨B14, 2, none⟩ = some (.slice oa m oc)) := Lib.hid fun W hW => by
          obtain ⟨a0, a1, a2, p0, p1, p2, s0, s1, s2, x0, x1, x2, y0, y1, y2, t0, t1, t2⟩ := HKw9.out W (hpw10.trans (hW.mono hpw10.size))
          have h := hrw10.of_block (hW.block B14 hrw10.lt)
          exact ⟨a0, a1, a2, p0, p1, p2, s0, s1, s2, x0, x1, x2, y0, y1, y2, t0, t1, t2, h.cell (by omega), h.cell (by omega), h.cell (by omega)⟩
        have HPw10 := Lib.hid hpw10
        clear hpw10 hrw10
        obtain ⟨a0, a1, a2, p0, p1, p2, s0, s1, s2, x0, x1, x2, y0, y1, y2, t0, t1, t2, u0, u1, u2⟩ := HKw10a.out w10a (Below.refl _ _)
        have zf := HRww10a.out.frozen 2
        have F4 := F3.out
        go_upto_region 22 with fail
        clear F4 zf a0 a1 a2 p0 p1 p2 s0 s1 s2 x0 x1 x2 y0 y1 y2 t0 t1 t2 u0 u1 u2
        rw [← hw10]
        clear hw10
        obtain ⟨a0, a1, a2, p0, p1, p2, s0, s1, s2, x0, x1, x2, y0, y1, y2, t0, t1, t2, u0, u1, u2⟩ := HKw10.out w10 (Below.refl w10.heap.size w10)
        go_wp2_with fail
        clear a0 a1 a2 p0 p1 p2 s0 s1 s2 x0 x1 x2 y0 y1 y2 t0 t1 t2 u0 u1 u2
        refine Calls.mono (CC.out (by trivial) (by trivial) w10 (HXW.out _ HBw10.out)) ?_
        rintro e w11 ⟨rfl, hb⟩
        have HBw11 : Hid (Below w1.heap.size w1 w11) := Lib.hid ((HBw10.out).trans (hb.mono (HBw10.out).size))
        have HVw11 : Hid (Below w10.heap.size w10 w11) := Lib.hid (((Below.refl w10.heap.size w10)).trans (hb.mono ((Below.refl w10.heap.size w10)).size))
        clear hb
        obtain ⟨cL, hle, hcl⟩ := CL.out (by trivial) (by trivial) m HM.out w11 (HXW.out _ HBw11.out)
        have HCl := Lib.hid hcl
        have HLe := Lib.hid hle
        clear hcl hle
        obtain ⟨a0, a1, a2, p0, p1, p2, s0, s1, s2, x0, x1, x2, y0, y1, y2, t0, t1, t2, u0, u1, u2⟩ := HKw10.out w11 HVw11.out
        go_wp2_with fail
        clear a0 a1 a2 p0 p1 p2 s0 s1 s2 x0 x1 x2 y0 y1 y2 t0 t1 t2 u0 u1 u2
        refine Calls.mono (HCl.out) ?_
        rintro e w12 ⟨rfl, hb⟩
        have HBw12 : Hid (Below w1.heap.size w1 w12) := Lib.hid ((HBw11.out).trans (hb.mono (HBw11.out).size))
        have HVw12 : Hid (Below w10.heap.size w10 w12) := Lib.hid ((HVw11.out).trans (hb.mono (HVw11.out).size))
        clear hb
        have d1 : decide (cL ≤ cS) = true := by rw [decide_eq_true_eq]; exact HLe.out
        go_wp2_with fail
        go_ret
        exact ⟨rfl, HXW.out _ HBw12.out⟩
end Go.Proofs.Ytholafodachjnaa
