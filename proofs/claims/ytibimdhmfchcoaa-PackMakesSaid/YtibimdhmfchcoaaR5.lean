import Derived.Test.YtibimdhmfchcoaaN3
import Derived.Test.YtibimdhmfchcoaaN4
import Derived.Test.YtibimdhmfchcoaaA2
import Derived.Test.YtibimdhmfchcoaaR4
namespace Go.Proofs.Ytibimdhmfchcoaa
open Go.RowKit Go.Shelf Go.Maps
set_option linter.unusedVariables false
set_option linter.unusedSimpArgs false
theorem refW_wire (N : NetV) (x : Int) (h0 : x ≠ 0) (hw : whoF N x = false) : refW N N.luts.length x = wiresF N x := by
  unfold refW wiresF
  rw [hw]
  simp only [Bool.false_eq_true, if_false, if_neg h0]
theorem lut_tab (N : NetV) (hok : NetOk N 4) (i : Nat) (hi : i < N.luts.length) (hU : 0 ≤ (N.luts.getD i default).tab) : (N.luts.getD i default).tab.toNat < 2 ^ (2 ^ (N.luts.getD i default).ins.length) := by
  have h1 := (hok.lut i hi).tab
  have h2 := (hok.lut i hi).len
  unfold rowsN at h1
  rw [show min (N.luts.getD i default).ins.length 6 = (N.luts.getD i default).ins.length by omega] at h1
  have h3 := Nat.two_pow_pos (2 ^ (N.luts.getD i default).ins.length)
  omega
theorem refTold (N : NetV) (hok : NetOk N 4) (i : Nat) (hi : i < N.luts.length) (hU : 0 ≤ (N.luts.getD i default).tab) (ff init : Bool) :
    toldR (refW N N.luts.length) (N.luts.getD i default).ins (N.luts.getD i default).tab.toNat ff init = toldD (wiresF N) (N.luts.getD i default).ins (N.luts.getD i default).tab.toNat ff init :=
  told_same _ _ _ _ _ _ (by have := (hok.lut i hi).len; omega) (lut_tab N hok i hi hU) (fun x hx h0 => refW_wire N x h0 (who_lut N i hi x hx))
theorem refHolds_eq (N : NetV) (hok : NetOk N 4) (hU : ∀ i, i < N.luts.length → 0 ≤ (N.luts.getD i default).tab) : refHolds N (refW N N.luts.length) N.holds.length = holdBlks N (whoF N) (wiresF N) N.holds.length := by
  unfold refHolds holdBlks
  rw [List.take_of_length_le (Nat.le_refl _)]
  refine List.map_congr_left fun h hh => ?_
  have hd := hok.holds h hh
  unfold refHold holdBlk
  cases hg : whoF N h.d with
  | true =>
    simp only [if_true]
    have h3 := whoF_fst N _ hg
    have hi : (h.d - fstN N).toNat < N.luts.length := by unfold fstN at h3 ⊢; omega
    exact refTold N hok _ hi (hU _ hi) true h.init
  | false =>
    simp only [Bool.false_eq_true, if_false]
    by_cases h0 : h.d = 0
    · rw [if_pos h0, if_pos h0]
    · rw [if_neg h0, if_neg h0, refW_wire N _ h0 hg]
theorem refLuts_eq (N : NetV) (hok : NetOk N 4) (hU : ∀ i, i < N.luts.length → 0 ≤ (N.luts.getD i default).tab) (k : Nat) (hk : k ≤ N.luts.length) : refLuts N (refW N N.luts.length) k = lutBlks N (whoF N) (wiresF N) k := by
  induction k with
  | zero => rfl
  | succ k ih =>
    unfold refLuts lutBlks
    rw [ih (by omega), refTold N hok k (by omega) (hU k (by omega))]
theorem refBlks_eq (N : NetV) (hok : NetOk N 4) (hU : ∀ i, i < N.luts.length → 0 ≤ (N.luts.getD i default).tab) : refHolds N (refW N N.luts.length) N.holds.length ++ refLuts N (refW N N.luts.length) N.luts.length ++ nones (noneAt N) = packBlks N := by
  rw [refHolds_eq N hok hU, refLuts_eq N hok hU _ (Nat.le_refl _)]
  rfl
theorem refOuts_eq (N : NetV) : N.outs.map (outR (refW N N.luts.length) (N.ins + (packBlks N).length)) = packOuts N := by
  unfold packOuts
  refine List.map_congr_left fun x hx => ?_
  unfold outR wiresE
  by_cases h0 : x = 0
  · have hn : noneAt N = true := by
      unfold noneAt
      rw [List.any_eq_true]
      exact ⟨x, hx, by simp [h0]⟩
    have h1 := packBlks_next N
    rw [if_pos hn] at h1
    rw [if_pos h0, if_pos hn, if_pos h0]
    omega
  · rw [if_neg h0, refW_wire N x h0 (who_out N x hx)]
    split
    · dsimp only
      rw [if_neg h0]
    · rfl
theorem Rw.start (w w1 : World) (N : NetV) (L : Nat) (hL : 0 < L) (hb : Below (w.heap.size + 2) ((w.alloc N.obj).alloc (.cells #[.int .i64 0, .slice none 0 0, .slice none 0 0] 31)) w1) :
    Rw w N w1.heap.size (w1.heap.size + 1) L (fun x => if x = 0 then -1 else insTo 0 x) ((w1.alloc (Obj.cells (madeCells #[Value.int .i64 0] L) 3)).setCell ⟨w1.heap.size, 0, none⟩ (.int .i64 (-1))) := by
  have hs := hb.size
  have hs2 : w.heap.size + 2 ≤ w1.heap.size := by simpa using hs
  have hrow : (w1.alloc (Obj.cells (madeCells #[Value.int .i64 0] L) 3)).rowIs w1.heap.size 3 L (fun _ => .int .i64 0) := World.rowIs_made w1 _ _ _
  have hb3 := hb.trans ((Below.refl _ _).alloc hs2 (Obj.cells (madeCells #[Value.int .i64 0] L) 3))
  have cl : ∀ {j : Nat} {v : Value}, ((w.alloc N.obj).alloc (.cells #[.int .i64 0, .slice none 0 0, .slice none 0 0] 31)).cell? ⟨w.heap.size, j, none⟩ = some v → _ := fun h => (hb3.cell (p := ⟨_, _, none⟩) (by simp only; omega)).trans h
  have h0 : Rw w N w1.heap.size (w1.heap.size + 1) L (fun _ => 0) (w1.alloc (Obj.cells (madeCells #[Value.int .i64 0] L) 3)) := by
    refine ⟨(((Below.refl _ _).alloc (Nat.le_refl _) _).alloc (by simp) _).trans (hb3.mono (by omega)), hs2, by omega, by simp, cl (by simp), cl (by simp), cl (by simp), cl (by simp), ?_, fun i hi => hrow.cell hi, fun i => hrow.frozen i⟩
    refine (hb3.block _ (by omega)).trans ?_
    have h := alloc_top (w.alloc N.obj) (.cells #[.int .i64 0, .slice none 0 0, .slice none 0 0] 31)
    rwa [show (w.alloc N.obj).heap.size = w.heap.size + 1 by simp] at h
  refine (h0.set hL (-1)).ext ?_
  funext x
  by_cases h : x = 0
  · subst h; rfl
  · rw [if_neg (by omega), if_neg h]
    unfold insTo
    rw [if_neg (by omega)]
theorem results_ref {tmps : Array Value} {w : World} {b : Nat} {x : Int} {ba oa : Option Addr} {n bc m oc : Nat} (h2 : tmps[2]?.getD undef = .pointer (some ⟨b, 0, none⟩)) (h3 : tmps[3]?.getD undef = .int .i64 0)
    (h0 : w.cell? ⟨b, 0, none⟩ = some (.int .i64 x)) (h1 : w.cell? ⟨b, 1, none⟩ = some (.slice ba n bc)) (h4 : w.cell? ⟨b, 2, none⟩ = some (.slice oa m oc)) :
    (results Try.f17 tmps).run Try.prog w = .ok (.tuple #[.agg #[.int .i64 x, .slice ba n bc, .slice oa m oc], .int .i64 0]) w := by
  simp [results, go_sem, h2, h3, h0, h1, h4]
theorem results_ref1 {tmps : Array Value} {w : World} {b : Nat} {x : Int} {ba oa : Option Addr} {n bc m oc : Nat} (h2 : tmps[2]?.getD undef = .pointer (some ⟨b, 0, none⟩)) (h3 : tmps[3]?.getD undef = .int .i64 1)
    (h0 : w.cell? ⟨b, 0, none⟩ = some (.int .i64 x)) (h1 : w.cell? ⟨b, 1, none⟩ = some (.slice ba n bc)) (h4 : w.cell? ⟨b, 2, none⟩ = some (.slice oa m oc)) :
    (results Try.f17 tmps).run Try.prog w = .ok (.tuple #[.agg #[.int .i64 x, .slice ba n bc, .slice oa m oc], .int .i64 1]) w := by
  simp [results, go_sem, h2, h3, h0, h1, h4]

set_option maxRecDepth 100000 in
set_option maxHeartbeats 8000000 in
theorem refPack_ok (w : World) (N : NetV) (hN : NetAt w N) (hf : Few N) (hok : NetOk N 4) (hcap : ∀ l ∈ N.luts, l.ins.length ≤ l.c) (R : Ending → World → Prop) (hR : ∀ e w', NewPack w N e w' → R e w') : Calls Try.prog 17 #[N.val] w R := by
  have hi1 := hf.ins
  have hi0 := hok.ins0
  have hh1 := hf.holds
  have hl1 := hf.luts
  obtain ⟨L, hLs⟩ : ∃ L : Nat, 1 + N.ins + (N.holds.length : Int) + (N.luts.length : Int) = L := ⟨(1 + N.ins + (N.holds.length : Int) + (N.luts.length : Int)).toNat, by omega⟩
  have hL0 : 0 < L := by omega
  have hL5 : L ≤ 500 := by omega
  go_enter Try.func17, Try.ntmps17
  go_wp2_with fail
  refine (check25 _ N (hN.below (((Below.refl _ _).alloc (Nat.le_refl _) _).alloc (by simp) _) (Nat.le_refl _)) hf 4 (by omega)).mono ?_
  rintro e w1 ⟨rfl, hb1⟩
  obtain ⟨c, hc⟩ : ∃ c, c = chk N 4 := ⟨_, rfl⟩
  have hc0 : c = 0 := by rw [hc]; unfold chk; rw [if_pos hok]
  rw [← hc, hc0]
  clear hc hc0
  have hb1 : Below (w.heap.size + 2) ((w.alloc N.obj).alloc (.cells #[.int .i64 0, .slice none 0 0, .slice none 0 0] 31)) w1 := hb1.mono (by simp)
  have h0 := Rw.start w w1 N L hL0 hb1
  have n0 : w1.cell? ⟨w.heap.size, 0, none⟩ = some (.int .i64 N.ins) := (hb1.cell (p := ⟨_, _, none⟩) (by simp only; omega)).trans (by simp)
  have n1 : w1.cell? ⟨w.heap.size, 1, none⟩ = some (.slice N.ha N.holds.length N.hc) := (hb1.cell (p := ⟨_, _, none⟩) (by simp only; omega)).trans (by simp)
  have n2 : w1.cell? ⟨w.heap.size, 2, none⟩ = some (.slice N.la N.luts.length N.lc) := (hb1.cell (p := ⟨_, _, none⟩) (by simp only; omega)).trans (by simp)
  have hlt : w.heap.size < w1.heap.size := by have := h0.ltw; omega
  have hrow : (w1.alloc (Obj.cells (madeCells #[Value.int .i64 0] L) 3)).rowIs w1.heap.size 3 L (fun _ => .int .i64 0) := World.rowIs_made w1 _ _ _
  have y0 := hrow.cell hL0
  have yf := hrow.frozen 0
  have hmk := run_make_row' (P := Try.prog) 24 3 (.int .i64 0) 8 Try.underlying24 info3 rfl .i64 .i64 L (by omega) (by omega)
  have H0 := Lib.hid h0
  clear hb1 h0 hrow
  go_wp2_with fail
  have he : (w1.alloc (Obj.cells (madeCells #[Value.int .i64 0] L) 3)).setCell ⟨w1.heap.size, 0, none⟩ (.int .i64 (-1)) = w1.alloc (Obj.cells ((madeCells #[Value.int .i64 0] L).setIfInBounds 0 (.int .i64 (-1))) 3) := World.setCell_alloc_at _ _ _ _ _ rfl
  rw [he] at H0
  clear he
  obtain ⟨W0, hW0⟩ : ∃ W, W = w1.alloc (Obj.cells ((madeCells #[Value.int .i64 0] L).setIfInBounds 0 (.int .i64 (-1))) 3) := ⟨_, rfl⟩
  rw [← hW0] at H0 ⊢
  generalize hlo : w1.heap.size + 1 = lo at H0
  generalize hwb : w1.heap.size = wb at H0 ⊢
  have hlow : lo = wb + 1 := by omega
  have hltw : w.heap.size + 2 ≤ wb := H0.out.ltw
  clear hW0 hwb hlo n0 n1 n2 hlt y0 yf hmk
  obtain ⟨K, hK⟩ : ∃ K : Nat, N.ins + N.holds.length = K := ⟨(N.ins + N.holds.length).toNat, by omega⟩
  rw [hK]
  have HK := Lib.hid hK
  clear hK
  refine refL1 _ (by intro c d v a w h; cases d <;> exact h) w _ N wb lo L w.heap.size K (by have := HK.out; omega) (by have := HK.out; omega) hL5 H0 _ _ _ _ _ _ _ _ _ _ _ _ _ _ _ _ _ _ _ _ _ _ _ _ _ _ _ _ _ _ _ _ _ _ _ _ _ _ _ _ _ _ _ _ _ _ _ _ _ _ _ _ _ _ _ _ _ _ _ _ _ _ _ _ _ _ _ _ _ _ _ _ _ _ _ _ _ _ _ _ _ _ _ _ _ _ _ _ _ _ _ _ _ _ _ _ _ _ _ _ _ _ _ _ _ _ _ _ _ _ _ _ _ _ _ _ _ _ _ _ _ _ _ _ _ _ _ _ _ _ _ _ _ _ _ _ _ _ _ _ _ _ _ _ _ _ _ _ _ _ _ _ _ _ _ _ _ _ _ _ _ _ _ _ _ _ _ _ _ _ _ _ _ _ _ _ _ _ _ _ _ _ _ _ _ _ _ _ _ _ _ _ _ _ _ _ _ _ _ _ _ _ _ _ _ _ _ _ _ _ _ _ _ _ _ _ _ _ _ _ _ _ _ _ _ _ _ _ _ _ _ _ _ _ _ _ _ _ _ _ _ _ _ _ _ ?_
  intro r6 r46 r47 r48 r49 r50 r51 r52 r53 r54 W1 H1
  clear H0
  have n1 := H1.out.n1
  go_wp2_with fail
  have hdd : ∀ h ∈ N.holds, 0 ≤ h.d ∧ h.d < fstN N + N.luts.length := fun h hh => by unfold fstN; exact hok.holds h hh
  have HDd := Lib.hid hdd
  have hLe : fstN N + N.luts.length = (L : Int) := by unfold fstN; exact hLs
  have HLe := Lib.hid hLe
  have H1b : Hid (Rw w N wb lo L (refM N 0) W1) := Lib.hid (H1.out.ext (by
    funext x
    unfold refM
    rw [show (N.ins + (N.holds.length : Int)).toNat = K by rw [HK.out]; rfl]
    rfl))
  clear hdd hLe
  refine refL2 _ (by intro c d v a w h; cases d <;> exact h) w _ N (Lib.hid hN) (Lib.hid hf) hh1 HDd wb lo L w.heap.size HLe N.ha (Lib.hid rfl) (Lib.hid rfl) hL5 H1b _ _ _ _ _ _ _ _ _ _ _ _ _ _ _ _ _ _ _ _ _ _ _ _ _ _ _ _ _ _ _ _ _ _ _ _ _ _ _ _ _ _ _ _ _ _ _ _ _ _ _ _ _ _ _ _ _ _ _ _ _ _ _ _ _ _ _ _ _ _ _ _ _ _ _ _ _ _ _ _ _ _ _ _ _ _ _ _ _ _ _ _ _ _ _ _ _ _ _ _ _ _ _ _ _ _ _ _ _ _ _ _ _ _ _ _ _ _ _ _ _ _ _ _ _ _ _ _ _ _ _ _ _ _ _ _ _ _ _ _ _ _ _ _ _ _ _ _ _ _ _ _ _ _ _ _ _ _ _ _ _ _ _ _ _ _ _ _ _ _ _ _ _ _ _ _ _ _ _ _ _ _ _ _ _ _ _ _ _ _ _ _ _ _ _ _ _ _ _ _ _ _ _ _ _ _ _ _ _ _ _ _ _ _ _ _ _ _ _ _ _ _ _ _ _ _ _ _ _ _ _ _ _ _ _ _ _ _ _ _ _ _ _ ?_
  intro r8 r58 r59 r60 r61 r62 r63 r64 r65 r66 r67 r68 r69 r70 r71 r72 r73 r74 r75 r76 r77 W2 H2
  clear H1 H1b n1
  have n0 := H2.out.n0
  have n1 := H2.out.n1
  have n2 := H2.out.n2
  go_wp2_with fail
  refine refL3 _ (by intro c d v a w h; cases d <;> exact h) w _ N hi1 hi0 hh1 N.luts.length hl1 wb lo L w.heap.size hLs H2 _ _ _ _ _ _ _ _ _ _ _ _ _ _ _ _ _ _ _ _ _ _ _ _ _ _ _ _ _ _ _ _ _ _ _ _ _ _ _ _ _ _ _ _ _ _ _ _ _ _ _ _ _ _ _ _ _ _ _ _ _ _ _ _ _ _ _ _ _ _ _ _ _ _ _ _ _ _ _ _ _ _ _ _ _ _ _ _ _ _ _ _ _ _ _ _ _ _ _ _ _ _ _ _ _ _ _ _ _ _ _ _ _ _ _ _ _ _ _ _ _ _ _ _ _ _ _ _ _ _ _ _ _ _ _ _ _ _ _ _ _ _ _ _ _ _ _ _ _ _ _ _ _ _ _ _ _ _ _ _ _ _ _ _ _ _ _ _ _ _ _ _ _ _ _ _ _ _ _ _ _ _ _ _ _ _ _ _ _ _ _ _ _ _ _ _ _ _ _ _ _ _ _ _ _ _ _ _ _ _ _ _ _ _ _ _ _ _ _ _ _ _ _ _ _ _ _ _ _ _ _ _ _ _ _ _ _ _ _ _ _ _ _ ?_
  intro r10 r87 r88 r89 r90 r91 r92 r93 r94 r95 r96 r97 r98 r99 r100 r101 r102 r103 r104 r105 W3 H3
  clear H2 n0 n1 n2
  have n0 := H3.out.n0
  have n1 := H3.out.n1
  have hs3 := H3.out.lo'
  have hlt : w.heap.size < W3.heap.size := by omega
  go_wp2_with fail
  obtain ⟨W4, hW4⟩ : ∃ W, W = W3.alloc (Obj.cells #[Value.int IntKind.i64 N.ins, Value.slice none 0 0, Value.slice none 0 0] 31) := ⟨_, rfl⟩
  obtain ⟨pb, hpb⟩ : ∃ b, b = W3.heap.size := ⟨_, rfl⟩
  have hsz4 : W4.heap.size = pb + 1 := by rw [hW4, hpb]; simp
  have hp4 := (H3.out.low (by rw [hW4]; exact (Below.refl _ _).alloc hs3 _ : Below lo W3 W4)).relo (lo2 := pb + 1) (by omega) (by omega)
  have hx4 : Pb pb (pb + 1) N.ins (.slice none 0 0) (.slice none 0 0) W4 := by
    rw [hW4, hpb]
    exact ⟨by omega, by simp, by simp, by simp, fun i => by simp⟩
  rw [← hW4, ← hpb]
  have hne : pb ≠ wb := by omega
  have hpw : w.heap.size + 2 ≤ pb := by omega
  have H4 : Hid (∃ bv bs, Rw w N wb (pb + 1) L (refW N N.luts.length) W4 ∧ Pb pb (pb + 1) N.ins bv (.slice none 0 0) W4 ∧ Rows (pb + 1) bs bv [] (.slice none 0 0) W4 ∧ bs.map BlkV.data = refHolds N (refW N N.luts.length) 0) := Lib.hid ⟨_, [], hp4, hx4, Rows.nil _ _, rfl⟩
  have hlut : ∀ l ∈ N.luts, l.ins.length ≤ 4 ∧ l.ins.length ≤ l.c ∧ l.tab.toNat < 65536 ∧ ∀ x ∈ l.ins, 0 ≤ x ∧ x < L := fun l hl => by
    obtain ⟨i, hi, rfl⟩ := List.getElem_of_mem hl
    have h := hok.lut i hi
    have hg : N.luts.getD i default = N.luts[i] := by simp [List.getD, List.getElem?_eq_getElem hi]
    have hta := (hN.each _ hl).2.1.1
    have ht := lut_tab N hok i hi (by rw [hg]; exact hta)
    rw [hg] at h ht
    have h4 := h.len
    have hp : (2 : Nat) ^ (2 ^ N.luts[i].ins.length) ≤ 2 ^ (2 ^ 4) := Nat.pow_le_pow_right (by omega) (Nat.pow_le_pow_right (by omega) (by omega))
    exact ⟨by omega, hcap _ hl, by omega, fun x hx => by have := h.ins x hx; omega⟩
  have HLut := Lib.hid hlut
  have HWho : Hid (∀ x, refW N N.luts.length x = -2 ↔ whoF N x = true) := Lib.hid (fun x => refW_who N hi0 _ x)
  have HWf : Hid (∀ x, whoF N x = true → fstN N ≤ x) := Lib.hid (fun x hx => whoF_fst N x hx)
  clear hp4 hx4 H3 n0 n1 hs3 hlt hW4 hpb hlut hsz4
  refine refL4 _ (by intro c d v a w h; cases d <;> exact h) w _ N (Lib.hid hN) hi1 hi0 hh1 hl1 wb pb (pb + 1) L w.heap.size HLut _ HWho HWf HDd HLe hL5 _ N.ha N.la (Lib.hid rfl) (Lib.hid rfl) (Lib.hid rfl) hne hpw H4 _ _ _ _ _ _ _ _ _ _ _ _ _ _ _ _ _ _ _ _ _ _ _ _ _ _ _ _ _ _ _ _ _ _ _ _ _ _ _ _ _ _ _ _ _ _ _ _ _ _ _ _ _ _ _ _ _ _ _ _ _ _ _ _ _ _ _ _ _ _ _ _ _ _ _ _ _ _ _ _ _ _ _ _ _ _ _ _ _ _ _ _ _ _ _ _ _ _ _ _ _ _ _ _ _ _ _ _ _ _ _ _ _ _ _ _ _ _ _ _ _ _ _ _ _ _ _ _ _ _ _ _ _ _ _ _ _ _ _ _ _ _ _ _ _ _ _ _ _ _ _ _ _ _ _ _ _ _ _ _ _ _ _ _ _ _ _ _ _ _ _ _ _ _ _ _ _ _ _ _ _ _ _ _ _ _ _ _ _ _ _ _ _ _ _ _ _ _ _ _ _ _ _ _ _ _ _ _ _ _ _ _ _ _ _ _ _ _ _ _ _ _ _ _ _ _ _ _ _ _ _ _ _ _ _ _ _ _ _ _ _ _ ?_
  intro r13 r14 r112 r113 r114 r115 r116 r117 r118 r119 r120 r121 r122 r123 r124 r125 r126 r127 r128 r129 r130 r131 r132 r133 r134 r135 r136 r137 r138 r139 r140 r141 r142 r143 r144 r145 r146 r147 r148 r149 r150 r151 r152 r153 r154 r155 W5 H5
  clear H4
  obtain ⟨bv5, bs5, h5⟩ := H5.out
  have n2 := h5.1.n2
  clear h5
  go_wp2_with fail
  have hpre : (refHolds N (refW N N.luts.length) N.holds.length).length ≤ 100 := by rw [refHolds, List.length_map, List.length_take]; omega
  have H5b : Hid (∃ bv bs, Rw w N wb (pb + 1) L (refW N N.luts.length) W5 ∧ Pb pb (pb + 1) N.ins bv (.slice none 0 0) W5 ∧ Rows (pb + 1) bs bv [] (.slice none 0 0) W5 ∧ bs.map BlkV.data = refHolds N (refW N N.luts.length) N.holds.length ++ refLuts N (refW N N.luts.length) 0) := Lib.hid (by rw [show refLuts N (refW N N.luts.length) 0 = [] from rfl, List.append_nil]; exact H5.out)
  refine refL5 _ (by intro c d v a w h; cases d <;> exact h) w _ N (Lib.hid hN) hi1 hi0 hh1 hl1 wb pb (pb + 1) L w.heap.size HLut _ HWho HLe hL5 _ hpre _ N.la (Lib.hid rfl) (Lib.hid rfl) hne hpw H5b _ _ _ _ _ _ _ _ _ _ _ _ _ _ _ _ _ _ _ _ _ _ _ _ _ _ _ _ _ _ _ _ _ _ _ _ _ _ _ _ _ _ _ _ _ _ _ _ _ _ _ _ _ _ _ _ _ _ _ _ _ _ _ _ _ _ _ _ _ _ _ _ _ _ _ _ _ _ _ _ _ _ _ _ _ _ _ _ _ _ _ _ _ _ _ _ _ _ _ _ _ _ _ _ _ _ _ _ _ _ _ _ _ _ _ _ _ _ _ _ _ _ _ _ _ _ _ _ _ _ _ _ _ _ _ _ _ _ _ _ _ _ _ _ _ _ _ _ _ _ _ _ _ _ _ _ _ _ _ _ _ _ _ _ _ _ _ _ _ _ _ _ _ _ _ _ _ _ _ _ _ _ _ _ _ _ _ _ _ _ _ _ _ _ _ _ _ _ _ _ _ _ _ _ _ _ _ _ _ _ _ _ _ _ _ _ _ _ _ _ _ _ _ _ _ _ _ _ _ _ _ _ _ _ _ _ _ _ _ _ _ _ ?_
  intro r15 r16 r159 r160 r161 r162 r163 r164 r165 r166 r167 r168 r169 r170 r171 r172 r173 r174 r175 r176 r177 r178 r179 r180 W6 H6
  clear H5 H5b n2
  obtain ⟨bv6, bs6, h6⟩ := H6.out
  have n3 := h6.1.n3
  clear h6
  go_wp2_with fail
  obtain ⟨base, hbase⟩ : ∃ b, b = refHolds N (refW N N.luts.length) N.holds.length ++ refLuts N (refW N N.luts.length) N.luts.length := ⟨_, rfl⟩
  have hbl : base.length = N.holds.length + (lutBlks N (whoF N) (wiresF N) N.luts.length).length := by
    rw [hbase, List.length_append, refLuts_len N _ (wiresF N), refHolds, List.length_map, List.length_take]; omega
  have hnx := nextTo_len N (whoF N) (wiresF N) N.luts.length
  have hll := lutBlks_length N (whoF N) (wiresF N) N.luts.length
  have H6b : Hid (∃ bv bs, Rw w N wb (pb + 1) L (refW N N.luts.length) W6 ∧ Pb pb (pb + 1) N.ins bv (.slice none 0 0) W6 ∧ Rows (pb + 1) bs bv [] (.slice none 0 0) W6 ∧ bs.map BlkV.data = base ++ nones (noneTo N 0)) := Lib.hid (by rw [show nones (noneTo N 0) = [] from rfl, List.append_nil, hbase]; exact H6.out)
  have HBase := Lib.hid hbase
  clear hbase
  refine refL6 _ (by intro c d v a w h; cases d <;> exact h) w _ N (Lib.hid hN) hi1 hi0 hf.outs wb pb (pb + 1) L w.heap.size _ N.oa (Lib.hid rfl) (Lib.hid rfl) hne hpw (nextTo N (whoF N) N.luts.length) base (by omega) (by omega) _ H6b _ _ _ _ _ _ _ _ _ _ _ _ _ _ _ _ _ _ _ _ _ _ _ _ _ _ _ _ _ _ _ _ _ _ _ _ _ _ _ _ _ _ _ _ _ _ _ _ _ _ _ _ _ _ _ _ _ _ _ _ _ _ _ _ _ _ _ _ _ _ _ _ _ _ _ _ _ _ _ _ _ _ _ _ _ _ _ _ _ _ _ _ _ _ _ _ _ _ _ _ _ _ _ _ _ _ _ _ _ _ _ _ _ _ _ _ _ _ _ _ _ _ _ _ _ _ _ _ _ _ _ _ _ _ _ _ _ _ _ _ _ _ _ _ _ _ _ _ _ _ _ _ _ _ _ _ _ _ _ _ _ _ _ _ _ _ _ _ _ _ _ _ _ _ _ _ _ _ _ _ _ _ _ _ _ _ _ _ _ _ _ _ _ _ _ _ _ _ _ _ _ _ _ _ _ _ _ _ _ _ _ _ _ _ _ _ _ _ _ _ _ _ _ _ _ _ _ _ _ _ _ _ _ _ _ _ _ _ _ _ _ _ _ ?_
  intro r18 r184 r185 r186 r187 r188 r189 r190 r191 r192 r193 r194 r195 r196 r197 r198 r199 r200 r201 r202 r203 r204 r205 r206 W7 H7
  clear H6 H6b n3 hnx hll
  obtain ⟨bv7, BS, hp7, hx7, hr7, hd7⟩ := H7.out
  obtain ⟨ba, bc, rfl⟩ := owns_val hr7.own
  have hbl7 : BS.length ≤ 301 := by
    have h := congrArg List.length hd7
    rw [List.length_map, List.length_append] at h
    have h2 : (nones (noneTo N N.outs.length)).length ≤ 1 := by unfold nones; split <;> simp
    have := lutBlks_length N (whoF N) (wiresF N) N.luts.length
    omega
  obtain ⟨n, hn⟩ : ∃ n, n = BS.length := ⟨_, rfl⟩
  rw [← hn] at hx7 hr7 hbl7
  have H7b : Hid (∃ ov os, Rw w N wb (pb + 1) L (refW N N.luts.length) W7 ∧ Pb pb (pb + 1) N.ins (.slice ba n bc) ov W7 ∧ Rows (pb + 1) BS (.slice ba n bc) os ov W7 ∧ os = (N.outs.take 0).map (outR (refW N N.luts.length) (N.ins + n))) := Lib.hid ⟨_, [], hp7, hx7, hr7, rfl⟩
  have n3 := hp7.n3
  have HD7 := Lib.hid hd7
  have HN7 := Lib.hid hn
  clear hp7 hx7 hr7 hd7 H7 hn hbl
  go_wp2_with fail
  have hdo : ∀ x ∈ N.outs, 0 ≤ x ∧ x < L := fun x hx => by have := hok.outs x hx; omega
  refine refL7 _ (by intro c d v a w h; cases d <;> exact h) w _ N (Lib.hid hN) hi1 hi0 hf.outs wb pb (pb + 1) L w.heap.size _ N.oa (Lib.hid rfl) (Lib.hid rfl) hne hpw hL5 (Lib.hid hdo) ba n bc (by omega) BS H7b _ _ _ _ _ _ _ _ _ _ _ _ _ _ _ _ _ _ _ _ _ _ _ _ _ _ _ _ _ _ _ _ _ _ _ _ _ _ _ _ _ _ _ _ _ _ _ _ _ _ _ _ _ _ _ _ _ _ _ _ _ _ _ _ _ _ _ _ _ _ _ _ _ _ _ _ _ _ _ _ _ _ _ _ _ _ _ _ _ _ _ _ _ _ _ _ _ _ _ _ _ _ _ _ _ _ _ _ _ _ _ _ _ _ _ _ _ _ _ _ _ _ _ _ _ _ _ _ _ _ _ _ _ _ _ _ _ _ _ _ _ _ _ _ _ _ _ _ _ _ _ _ _ _ _ _ _ _ _ _ _ _ _ _ _ _ _ _ _ _ _ _ _ _ _ _ _ _ _ _ _ _ _ _ _ _ _ _ _ _ _ _ _ _ _ _ _ _ _ _ _ _ _ _ _ _ _ _ _ _ _ _ _ _ _ _ _ _ _ _ _ _ _ _ _ _ _ _ _ _ _ _ _ _ _ _ _ _ _ _ _ _ _ ?_
  intro r20 r210 r211 r212 r213 r214 r215 r216 r217 r218 r219 r220 r221 r222 r223 r224 r225 r226 r227 r228 r229 r230 r231 r232 r233 r234 r235 r236 r237 W10 H10
  clear H7b n3 hdo
  obtain ⟨ov, os, hp10, hx10, hr10, hos⟩ := H10.out
  obtain ⟨oa', oc', rfl⟩ := owns_val hr10.oown
  obtain ⟨m, hm⟩ : ∃ n, n = os.length := ⟨_, rfl⟩
  rw [← hm] at hx10 hr10
  have hp0 := hx10.p0
  have hp1 := hx10.p1
  have hp2 := hx10.p2
  have hn0 := hp10.n0
  have zr := hp10.res
  obtain ⟨zr0, zf⟩ := cells_at zr 0
  have zr1 := (cells_at zr 1).1
  have zr2 := (cells_at zr 2).1
  have zf1 := (cells_at zr 1).2
  have zf2 := (cells_at zr 2).2
  simp only [List.getElem?_toArray, List.getElem?_cons_zero, List.getElem?_cons_succ] at zr0 zr1 zr2
  have hd1 : decide ((1024 : Int) < N.ins) = false := by simpa using (by omega : N.ins ≤ 1024)
  have hd2 : decide ((1024 : Int) < (n : Int)) = false := by simpa using (by omega : (n : Int) ≤ 1024)
  have HPt := Lib.hid hp10
  have HRt := Lib.hid hr10
  have HOs := Lib.hid hos
  have HMm := Lib.hid hm
  clear hp10 hx10 hr10 hos H10 zr hm
  go_wp2_with fail
  refine bodyPost_ret (results_ref (b := w.heap.size + 1) rfl rfl (set_keep (set_keep (cell?_set_own zr0) (by decide)) (by decide)) (set_keep (cell?_set_own (set_keep zr1 (by decide))) (by decide)) (cell?_set_own (set_keep (set_keep zr2 (by decide)) (by decide)))) rfl (hR _ _ ?_)
  have hg := ggrown (ggrown (grownBy_set W10 (w.heap.size + 1) 0 (.int .i64 N.ins)) (grownBy_set _ (w.heap.size + 1) 1 (.slice ba n bc))) (grownBy_set _ (w.heap.size + 1) 2 (.slice oa' m oc'))
  have hU : ∀ i, i < N.luts.length → 0 ≤ (N.luts.getD i default).tab := fun i hi => (hN.each _ (getD_mem N.luts default hi)).2.1.1
  have hbs : BS.map BlkV.data = packBlks N := by
    rw [HD7.out, noneTo_all, HBase.out]; exact refBlks_eq N hok hU
  refine ⟨⟨N.ins, ba, bc, BS, oa', oc', os⟩, rfl, hbs, ?_, ?_, ?_, ?_⟩
  · show os = packOuts N
    have hl : (n : Int) = (packBlks N).length := by rw [HN7.out, ← hbs, List.length_map]
    rw [HOs.out, List.take_of_length_le (Nat.le_refl _), hl]
    exact refOuts_eq N
  · show Ending.returned (.tuple #[.agg #[.int .i64 N.ins, .slice ba n bc, .slice oa' m oc'], .int .i64 0]) = .returned (.tuple #[.agg #[.int .i64 N.ins, .slice ba BS.length bc, .slice oa' os.length oc'], .int .i64 0])
    rw [← HN7.out, ← HMm.out]
  · show Rows w.heap.size BS (.slice ba BS.length bc) os (.slice oa' os.length oc') _
    rw [← HN7.out, ← HMm.out]
    exact (HRt.out.grown hg (fun k e => by injection e with e; omega)).mono_lo (by omega)
  · exact HPt.out.below.grown hg (by have := HPt.out.lo'; omega) (fun k e => by injection e with e; omega)

set_option maxRecDepth 100000 in
set_option maxHeartbeats 8000000 in
theorem refPack_bad (w : World) (N : NetV) (hN : NetAt w N) (hf : Few N) (hok : ¬ NetOk N 4) : Calls Try.prog 17 #[N.val] w fun e w' => e = .returned (.tuple #[.agg #[.int .i64 0, .slice none 0 0, .slice none 0 0], .int .i64 1]) ∧ Below w.heap.size w w' := by
  go_enter Try.func17, Try.ntmps17
  go_wp2_with fail
  refine (check25 _ N (hN.below (((Below.refl _ _).alloc (Nat.le_refl _) _).alloc (by simp) _) (Nat.le_refl _)) hf 4 (by omega)).mono ?_
  rintro e w1 ⟨rfl, hb1⟩
  obtain ⟨c, hc⟩ : ∃ c, c = chk N 4 := ⟨_, rfl⟩
  have hc0 : c = 1 := by rw [hc]; unfold chk; rw [if_neg hok]
  rw [← hc, hc0]
  clear hc hc0
  have hb1 : Below (w.heap.size + 2) ((w.alloc N.obj).alloc (.cells #[.int .i64 0, .slice none 0 0, .slice none 0 0] 31)) w1 := hb1.mono (by simp)
  have zr : w1.heap[w.heap.size + 1]? = some (.cells #[.int .i64 0, .slice none 0 0, .slice none 0 0] 31) := by
    refine (hb1.block _ (by omega)).trans ?_
    have h := alloc_top (w.alloc N.obj) (.cells #[.int .i64 0, .slice none 0 0, .slice none 0 0] 31)
    rwa [show (w.alloc N.obj).heap.size = w.heap.size + 1 by simp] at h
  have hw : Below w.heap.size w w1 := (((Below.refl _ _).alloc (Nat.le_refl _) _).alloc (by simp) _).trans (hb1.mono (by omega))
  have hws : w.heap.size + 2 ≤ w1.heap.size := by have := hb1.size; simpa using this
  obtain ⟨zr0, zf⟩ := cells_at zr 0
  have zr1 := (cells_at zr 1).1
  have zr2 := (cells_at zr 2).1
  have zf1 := (cells_at zr 1).2
  have zf2 := (cells_at zr 2).2
  simp only [List.getElem?_toArray, List.getElem?_cons_zero, List.getElem?_cons_succ] at zr0 zr1 zr2
  have HW := Lib.hid hw
  clear hw hb1 zr
  go_wp2_with fail
  refine bodyPost_ret (results_ref1 (b := w.heap.size + 1) rfl rfl (set_keep (set_keep (cell?_set_own zr0) (by decide)) (by decide)) (set_keep (cell?_set_own (set_keep zr1 (by decide))) (by decide)) (cell?_set_own (set_keep (set_keep zr2 (by decide)) (by decide)))) rfl ⟨rfl, ?_⟩
  have hg := ggrown (ggrown (grownBy_set w1 (w.heap.size + 1) 0 (.int .i64 0)) (grownBy_set _ (w.heap.size + 1) 1 (.slice none 0 0))) (grownBy_set _ (w.heap.size + 1) 2 (.slice none 0 0))
  exact HW.out.grown hg (by omega) (fun k e => by injection e with e; omega)
end Go.Proofs.Ytibimdhmfchcoaa

