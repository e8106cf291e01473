import Derived.Test.YtibimdhmfchcoaaBC
import Derived.Test.YtibimdhmfchcoaaC5
import Derived.Test.YtibimdhmfchcoaaC6
/- A9 -/
namespace Go.Proofs.Ytibimdhmfchcoaa
open Go.RowKit Go.Shelf Go.Maps
set_option linter.unusedVariables false
set_option linter.unusedSimpArgs false
theorem owns_val {w : World} {base e size n : Nat} {v : Value} {xs : List Value} (h : w.ownsRow base e size v n xs) : ∃ a c, v = .slice a n c := by
  rcases h.2 with ⟨rfl, rfl⟩ | ⟨g, cap, cur, hv, _⟩
  · exact ⟨none, 0, rfl⟩
  · exact ⟨_, _, hv⟩
theorem whoF_fst (N : NetV) (x : Int) (h : whoF N x = true) : fstN N ≤ x := by
  unfold whoF whoTo at h
  simp only [Bool.and_eq_true, decide_eq_true_eq] at h
  exact h.2.1
theorem Pk.relo {w wr : World} {N : NetV} {mb pk lo lo2 cnt : Nat} {f : Int → Int} {bv ov : Value} (h : Pk w N mb pk lo cnt f bv ov wr) (h1 : lo ≤ lo2) (h2 : lo2 ≤ wr.heap.size) : Pk w N mb pk lo2 cnt f bv ov wr :=
  ⟨h.below, h.ltm, h.ltp, h.nmp, by have := h.lm; omega, by have := h.lp; omega, h2, h.n0, h.n1, h.n2, h.n3, h.res, h.p0, h.p1, h.p2, h.p3, h.p4, h.p5, h.p6, h.p7, h.fz, h.map⟩
theorem Pk.start (w w1 : World) (N : NetV) (hb : Below (w.heap.size + 2) ((w.alloc N.obj).alloc (.cells #[.int .i64 0, .slice none 0 0, .slice none 0 0] 31)) w1) :
    Pk w N w1.heap.size (w1.heap.size + 1) (w1.heap.size + 2) 0 (fun _ => 0) (.slice none 0 0) (.slice none 0 0)
      ((w1.alloc (.map #[] 0)).alloc (Obj.cells #[.int .i64 N.ins, .slice none 0 0, .slice none 0 0, .int .i64 N.ins, .slice N.ha N.holds.length N.hc, .slice N.la N.luts.length N.lc, .slice N.oa N.outs.length N.oc, .map (some w1.heap.size)] 70)) := by
  have hs := hb.size
  have hs2 : w.heap.size + 2 ≤ w1.heap.size := by simpa using hs
  have hb2 : Below (w.heap.size + 2) w1 ((w1.alloc (.map #[] 0)).alloc (Obj.cells #[.int .i64 N.ins, .slice none 0 0, .slice none 0 0, .int .i64 N.ins, .slice N.ha N.holds.length N.hc, .slice N.la N.luts.length N.lc, .slice N.oa N.outs.length N.oc, .map (some w1.heap.size)] 70)) :=
    ((Below.refl _ _).alloc hs2 _).alloc (by simp; omega) _
  have hb3 := hb.trans hb2
  have cl : ∀ {j : Nat} {v : Value}, ((w.alloc N.obj).alloc (.cells #[.int .i64 0, .slice none 0 0, .slice none 0 0] 31)).cell? ⟨w.heap.size, j, none⟩ = some v → _ := fun h => (hb3.cell (p := ⟨_, _, none⟩) (by simp only; omega)).trans h
  refine ⟨(((Below.refl _ _).alloc (Nat.le_refl _) _).alloc (by simp) _).trans (hb3.mono (by omega)), hs2, by omega, by omega, by omega, by omega, by simp, cl (by simp), cl (by simp), cl (by simp), cl (by simp), ?_, ?_, ?_, ?_, ?_, ?_, ?_, ?_, ?_, ?_, ?_⟩
  · refine (hb3.block _ (by omega)).trans ?_
    have h := alloc_top (w.alloc N.obj) (.cells #[.int .i64 0, .slice none 0 0, .slice none 0 0] 31)
    rwa [show (w.alloc N.obj).heap.size = w.heap.size + 1 by simp] at h
  all_goals (try (simp; done))
  exact (IMap.made w1).below ((Below.refl _ _).alloc (B := w1.heap.size + 1) (by simp) _) (by omega)
structure PackV where
  ins : Int
  ba : Option Addr
  bc : Nat
  bs : List BlkV
  oa : Option Addr
  oc : Nat
  os : List Int
abbrev PackV.val (P : PackV) : Value := .agg #[.int .i64 P.ins, .slice P.ba P.bs.length P.bc, .slice P.oa P.os.length P.oc]
/-- A pack newly made of a net. -/
def NewPack (w : World) (N : NetV) (e : Ending) (w' : World) : Prop :=
  ∃ P : PackV, P.ins = N.ins ∧ P.bs.map BlkV.data = packBlks N ∧ P.os = packOuts N ∧ e = .returned (.tuple #[P.val, .int .i64 0]) ∧ Rows w.heap.size P.bs (.slice P.ba P.bs.length P.bc) P.os (.slice P.oa P.os.length P.oc) w' ∧ Below w.heap.size w w'
theorem Rows.mono_lo {lo lo2 : Nat} {bs : List BlkV} {bv ov : Value} {os : List Int} {wr : World} (h : Rows lo bs bv os ov wr) (h2 : lo2 ≤ lo) : Rows lo2 bs bv os ov wr := by
  refine ⟨h.own.base_le h2, fun b hb => ?_, h.oown.base_le h2, h.apart⟩
  rcases h.ins b hb with h | ⟨g, off, ha, h1, r⟩
  · exact .inl h
  · exact .inr ⟨g, off, ha, by omega, r⟩
theorem results_pack {tmps : Array Value} {w : World} {b : Nat} {x : Int} {ba oa : Option Addr} {n bc m oc : Nat} (h2 : tmps[2]?.getD undef = .pointer (some ⟨b, 0, none⟩)) (h3 : tmps[3]?.getD undef = .int .i64 0)
    (h0 : w.cell? ⟨b, 0, none⟩ = some (.int .i64 x)) (h1 : w.cell? ⟨b, 1, none⟩ = some (.slice ba n bc)) (h4 : w.cell? ⟨b, 2, none⟩ = some (.slice oa m oc)) :
    (results Try.f16 tmps).run Try.prog w = .ok (.tuple #[.agg #[.int .i64 x, .slice ba n bc, .slice oa m oc], .int .i64 0]) w := by
  simp [results, go_sem, h2, h3, h0, h1, h4]
set_option maxRecDepth 100000 in
set_option maxHeartbeats 8000000 in
theorem pack_ok (w : World) (N : NetV) (hN : NetAt w N) (hf : Few N) (hok : NetOk N 4) (R : Ending → World → Prop) (hR : ∀ e w', NewPack w N e w' → R e w') : Calls Try.prog 16 #[N.val] w R := by
  have hmm := @run_makeMap Try.prog
  have hi1 := hf.ins
  have hi0 := hok.ins0
  have hh1 := hf.holds
  go_enter Try.func16, Try.ntmps16
  go_wp2_with fail
  refine (check _ N (hN.below (((Below.refl _ _).alloc (Nat.le_refl _) _).alloc (by simp) _) (Nat.le_refl _)) hf 4 (by omega)).mono ?_
  rintro e w1 ⟨rfl, hb1⟩
  obtain ⟨c, hc⟩ : ∃ c, c = chk N 4 := ⟨_, rfl⟩
  have hc0 : c = 0 := by rw [hc]; unfold chk; rw [if_pos hok]
  rw [← hc, hc0]
  clear hc hc0
  have hb1 : Below (w.heap.size + 2) ((w.alloc N.obj).alloc (.cells #[.int .i64 0, .slice none 0 0, .slice none 0 0] 31)) w1 := hb1.mono (by simp)
  have h0 := Pk.start w w1 N hb1
  have n0 : w1.cell? ⟨w.heap.size, 0, none⟩ = some (.int .i64 N.ins) := (hb1.cell (p := ⟨_, _, none⟩) (by simp only; omega)).trans (by simp)
  have n1 : w1.cell? ⟨w.heap.size, 1, none⟩ = some (.slice N.ha N.holds.length N.hc) := (hb1.cell (p := ⟨_, _, none⟩) (by simp only; omega)).trans (by simp)
  have n2 : w1.cell? ⟨w.heap.size, 2, none⟩ = some (.slice N.la N.luts.length N.lc) := (hb1.cell (p := ⟨_, _, none⟩) (by simp only; omega)).trans (by simp)
  have n3 : w1.cell? ⟨w.heap.size, 3, none⟩ = some (.slice N.oa N.outs.length N.oc) := (hb1.cell (p := ⟨_, _, none⟩) (by simp only; omega)).trans (by simp)
  clear hb1
  obtain ⟨mb, hmb⟩ : ∃ m, m = w1.heap.size := ⟨_, rfl⟩
  have hlt : w.heap.size < w1.heap.size := by have := h0.ltm; omega
  have H0 := Lib.hid h0
  clear h0
  go_wp2_with fail
  obtain ⟨W0, hW0⟩ : ∃ W, W = (w1.alloc (Obj.map #[] 0)).alloc (Obj.cells #[Value.int IntKind.i64 N.ins, Value.slice none 0 0, Value.slice none 0 0, Value.int IntKind.i64 N.ins, Value.slice N.ha N.holds.length N.hc, Value.slice N.la N.luts.length N.lc, Value.slice N.oa N.outs.length N.oc, Value.map (some w1.heap.size)] 70) := ⟨_, rfl⟩
  rw [← hW0] at H0 ⊢
  generalize hlo : w1.heap.size + 2 = lo at H0
  generalize hpk : w1.heap.size + 1 = pk at H0 ⊢
  generalize hmb : w1.heap.size = mb at H0
  clear hW0 hmb hpk hlo n0 n1 n2 n3 hlt
  obtain ⟨K, hK⟩ : ∃ K : Nat, N.ins + N.holds.length = K := ⟨(N.ins + N.holds.length).toNat, by omega⟩
  rw [hK]
  have HK := Lib.hid hK
  clear hK
  refine packL1 _ (by intro c d v a w h; cases d <;> exact h) w _ N mb pk lo _ K _ _ (by have := HK.out; omega) H0 _ _ _ _ _ _ _ _ _ _ _ _ _ _ _ _ _ _ _ _ _ _ _ _ _ _ _ _ _ _ _ _ _ _ _ _ _ _ _ _ _ _ _ _ _ _ _ _ _ _ _ _ _ _ _ _ _ _ _ _ _ _ _ _ _ _ _ _ _ _ _ _ _ _ _ _ _ _ _ _ _ _ _ _ _ _ _ _ _ _ _ _ _ _ _ _ _ _ _ _ _ _ _ _ _ _ _ _ _ _ _ _ _ _ _ _ _ _ _ _ _ _ _ _ _ _ _ _ _ _ _ _ _ _ _ _ _ _ _ _ _ _ _ _ _ _ _ _ _ _ _ _ _ _ _ _ _ _ _ _ _ _ _ _ _ _ _ _ _ _ _ _ _ _ _ _ _ _ _ _ _ _ _ _ _ _ _ _ _ _ _ _ _ _ _ _ _ _ _ _ _ _ _ _ _ _ _ _ _ _ _ _ _ _ _ _ _ _ _ _ _ _ _ _ _ _ _ _ _ _ _ _ _ _ _ _ _ _ _ _ _ _ _ _ _ _ ?_
  intro r5 r37 r38 r39 r40 r41 r42 r43 r44 r45 r46 r47 W1 H1
  clear H0
  have n1 := H1.out.n1
  have p4 := H1.out.p4
  have p5 := H1.out.p5
  have p6 := H1.out.p6
  go_wp2_with fail
  refine (counts _ pk N (hN.below H1.out.below (Nat.le_refl _)) hf p4 p5 p6).mono ?_
  rintro e W2 ⟨ub, rfl, hub, hiu, hb2⟩
  have hsz2 := hb2.size
  have hlo1 := H1.out.lo'
  have hP2 := H1.out.low (hb2.mono hlo1)
  have hP2' := hP2.low ((Below.refl _ _).alloc hP2.lo' (Obj.map #[] 0))
  have HUB : ub < W2.heap.size := by obtain ⟨D, ho, _⟩ := hiu; exact ho.lt
  have hiu' := hiu.below ((Below.refl _ _).alloc (Nat.le_refl _) (Obj.map #[] 0)) HUB
  have hbm := BMap.made W2
  have hP3 := hP2'.relo (lo2 := W2.heap.size + 1) (by have := hP2.lo'; omega) (by simp)
  have hlm := hP2.lm
  have hlp := hP2.lp
  have hltp := hP2.ltp
  have hlo2 := hP2.lo'
  have hn1 := hP3.n1
  clear H1 hP2 hP2' hiu
  generalize hxb : W2.heap.size = xb at hP3 hiu' hbm ⊢
  have H2 := Lib.hid (And.intro hP3 (And.intro hiu' hbm))
  go_wp2_with fail
  refine packL2 _ (by intro c d v a w h; cases d <;> exact h) w _ N (Lib.hid hN) hi1 hi0 hh1 mb pk _ w.heap.size _ ub xb _ _ _ N.ha (Lib.hid rfl) (by omega) (by omega) (by omega) (by omega) (by omega) (by omega) H2 _ _ _ _ _ _ _ _ _ _ _ _ _ _ _ _ _ _ _ _ _ _ _ _ _ _ _ _ _ _ _ _ _ _ _ _ _ _ _ _ _ _ _ _ _ _ _ _ _ _ _ _ _ _ _ _ _ _ _ _ _ _ _ _ _ _ _ _ _ _ _ _ _ _ _ _ _ _ _ _ _ _ _ _ _ _ _ _ _ _ _ _ _ _ _ _ _ _ _ _ _ _ _ _ _ _ _ _ _ _ _ _ _ _ _ _ _ _ _ _ _ _ _ _ _ _ _ _ _ _ _ _ _ _ _ _ _ _ _ _ _ _ _ _ _ _ _ _ _ _ _ _ _ _ _ _ _ _ _ _ _ _ _ _ _ _ _ _ _ _ _ _ _ _ _ _ _ _ _ _ _ _ _ _ _ _ _ _ _ _ _ _ _ _ _ _ _ _ _ _ _ _ _ _ _ _ _ _ _ _ _ _ _ _ _ _ _ _ _ _ _ _ _ _ _ _ _ _ _ _ _ _ _ _ _ _ _ _ _ _ _ _ _ ?_
  intro r9 r54 r55 r56 r57 r58 r59 r60 r61 r62 r63 r64 r65 r66 r67 r68 r69 r70 r71 r72 r73 W3 H3
  clear H2 hP3 hiu' hbm hb2
  have hn0 := H3.out.1.n0
  have hn1 := H3.out.1.n1
  have hn2 := H3.out.1.n2
  go_wp2_with fail
  have hwt : insTo K = wireTo N (whoF N) 0 := by show insTo K = insTo (N.ins + N.holds.length).toNat; rw [HK.out]; rfl
  rw [hwt] at H3
  clear hwt
  refine packL3 _ (by intro c d v a w h; cases d <;> exact h) w _ N hi1 hi0 hh1 N.luts.length hf.luts mb pk _ w.heap.size K _ xb (by have := HK.out; omega) (whoF N) _ _ (by omega) (by omega) H3 _ _ _ _ _ _ _ _ _ _ _ _ _ _ _ _ _ _ _ _ _ _ _ _ _ _ _ _ _ _ _ _ _ _ _ _ _ _ _ _ _ _ _ _ _ _ _ _ _ _ _ _ _ _ _ _ _ _ _ _ _ _ _ _ _ _ _ _ _ _ _ _ _ _ _ _ _ _ _ _ _ _ _ _ _ _ _ _ _ _ _ _ _ _ _ _ _ _ _ _ _ _ _ _ _ _ _ _ _ _ _ _ _ _ _ _ _ _ _ _ _ _ _ _ _ _ _ _ _ _ _ _ _ _ _ _ _ _ _ _ _ _ _ _ _ _ _ _ _ _ _ _ _ _ _ _ _ _ _ _ _ _ _ _ _ _ _ _ _ _ _ _ _ _ _ _ _ _ _ _ _ _ _ _ _ _ _ _ _ _ _ _ _ _ _ _ _ _ _ _ _ _ _ _ _ _ _ _ _ _ _ _ _ _ _ _ _ _ _ _ _ _ _ _ _ _ _ _ _ _ _ _ _ _ _ _ _ _ _ _ _ _ _ _ ?_
  intro r11 r12 r83 r84 r85 r86 r87 r88 r89 r90 r91 r92 r93 r94 r95 r96 r97 r98 r99 r100 r101 r102 W4 H4
  clear H3 hn0 hn1 hn2
  have hn1 := H4.out.1.n1
  go_wp2_with fail
  have H4b : Hid (∃ bv bs, Pk w N mb pk (xb + 1) (K + N.luts.length) (wireTo N (whoF N) N.luts.length) bv (.slice none 0 0) W4 ∧ BMap W4 xb N.holds.length (whoF N) ∧ Rows (xb + 1) bs bv [] (.slice none 0 0) W4 ∧ bs.map BlkV.data = holdBlks N (whoF N) (wireTo N (whoF N) N.luts.length) 0) := Lib.hid ⟨_, [], H4.out.1, H4.out.2, Rows.nil _ _, rfl⟩
  have hwb : ∀ k, I64 (wireTo N (whoF N) N.luts.length k) := fun k => by have := wireTo_bound N (whoF N) hi0 N.luts.length k; have := hf.luts; exact ⟨by omega, by omega⟩
  have hl4 : ∀ l ∈ N.luts, l.ins.length ≤ 4 := fun l hl => by
    obtain ⟨i, hi, rfl⟩ := List.getElem_of_mem hl
    have h := (hok.lut i hi).len
    rw [show N.luts.getD i default = N.luts[i] by simp [List.getD, List.getElem?_eq_getElem hi]] at h
    omega
  have hdd : ∀ h ∈ N.holds, 0 ≤ h.d ∧ h.d < fstN N + N.luts.length := fun h hh => by unfold fstN; exact hok.holds h hh
  refine packL4 _ (by intro c d v a w h; cases d <;> exact h) w _ N (Lib.hid hN) hi1 hi0 hh1 hf.luts (Lib.hid hl4) mb pk _ w.heap.size _ _ xb _ (Lib.hid hwb) (whoF N) (Lib.hid (fun x hx => whoF_fst N x hx)) (Lib.hid hdd) _ N.ha N.la (Lib.hid rfl) (Lib.hid rfl) (Lib.hid rfl) (by omega) (by omega) H4b _ _ _ _ _ _ _ _ _ _ _ _ _ _ _ _ _ _ _ _ _ _ _ _ _ _ _ _ _ _ _ _ _ _ _ _ _ _ _ _ _ _ _ _ _ _ _ _ _ _ _ _ _ _ _ _ _ _ _ _ _ _ _ _ _ _ _ _ _ _ _ _ _ _ _ _ _ _ _ _ _ _ _ _ _ _ _ _ _ _ _ _ _ _ _ _ _ _ _ _ _ _ _ _ _ _ _ _ _ _ _ _ _ _ _ _ _ _ _ _ _ _ _ _ _ _ _ _ _ _ _ _ _ _ _ _ _ _ _ _ _ _ _ _ _ _ _ _ _ _ _ _ _ _ _ _ _ _ _ _ _ _ _ _ _ _ _ _ _ _ _ _ _ _ _ _ _ _ _ _ _ _ _ _ _ _ _ _ _ _ _ _ _ _ _ _ _ _ _ _ _ _ _ _ _ _ _ _ _ _ _ _ _ _ _ _ _ _ _ _ _ _ _ _ _ _ _ _ _ _ _ _ _ _ _ _ _ _ _ _ _ _ _ _ ?_
  intro r14 r15 r106 r107 r108 r109 r110 r111 r112 r113 r114 r115 r116 r117 r118 r119 r120 r121 r122 r123 r124 r125 r126 r127 r128 r129 r130 r131 r132 r133 r134 r135 r136 r137 r138 r139 r140 r141 r142 r143 r144 r145 r146 r147 r148 r149 r150 r151 r152 r153 r154 r155 r156 W5 H5
  clear H4 H4b hn1
  obtain ⟨bv5, bs5, h5⟩ := H5.out
  have hn2 := h5.1.n2
  clear h5
  go_wp2_with fail
  have H5b : Hid (∃ bv bs, Pk w N mb pk (xb + 1) (K + N.luts.length) (wireTo N (whoF N) N.luts.length) bv (.slice none 0 0) W5 ∧ BMap W5 xb N.holds.length (whoF N) ∧ Rows (xb + 1) bs bv [] (.slice none 0 0) W5 ∧ bs.map BlkV.data = holdBlks N (whoF N) (wireTo N (whoF N) N.luts.length) N.holds.length ++ lutBlks N (whoF N) (wireTo N (whoF N) N.luts.length) 0) := Lib.hid (by rw [show lutBlks N (whoF N) (wireTo N (whoF N) N.luts.length) 0 = [] from rfl, List.append_nil]; exact H5.out)
  refine packL5 _ (by intro c d v a w h; cases d <;> exact h) w _ N (Lib.hid hN) hi1 hi0 hh1 hf.luts (Lib.hid hl4) mb pk _ w.heap.size _ _ xb _ (Lib.hid hwb) (whoF N) _ (by rw [holdBlks, List.length_map, List.length_take]; omega) _ N.la (Lib.hid rfl) (by omega) (by omega) H5b _ _ _ _ _ _ _ _ _ _ _ _ _ _ _ _ _ _ _ _ _ _ _ _ _ _ _ _ _ _ _ _ _ _ _ _ _ _ _ _ _ _ _ _ _ _ _ _ _ _ _ _ _ _ _ _ _ _ _ _ _ _ _ _ _ _ _ _ _ _ _ _ _ _ _ _ _ _ _ _ _ _ _ _ _ _ _ _ _ _ _ _ _ _ _ _ _ _ _ _ _ _ _ _ _ _ _ _ _ _ _ _ _ _ _ _ _ _ _ _ _ _ _ _ _ _ _ _ _ _ _ _ _ _ _ _ _ _ _ _ _ _ _ _ _ _ _ _ _ _ _ _ _ _ _ _ _ _ _ _ _ _ _ _ _ _ _ _ _ _ _ _ _ _ _ _ _ _ _ _ _ _ _ _ _ _ _ _ _ _ _ _ _ _ _ _ _ _ _ _ _ _ _ _ _ _ _ _ _ _ _ _ _ _ _ _ _ _ _ _ _ _ _ _ _ _ _ _ _ _ _ _ _ _ _ _ _ _ _ _ _ _ _ _ ?_
  intro r16 r17 r160 r161 r162 r163 r164 r165 r166 r167 r168 r169 r170 r171 r172 r173 r174 r175 r176 r177 r178 r179 r180 r181 r182 r183 r184 r185 r186 r187 W6 H6
  clear H5 H5b hn2
  obtain ⟨bv, bs, hp6, _, hr6, hd6⟩ := H6.out
  have hn3 := hp6.n3
  have HP6 := Lib.hid hp6
  have HR6 := Lib.hid hr6
  have HD6 := Lib.hid hd6
  clear hp6 hr6 hd6 H6
  go_wp2_with fail
  refine (contains40 _ N.oa N.outs.length N.oc N.outs rfl ((hN.below HP6.out.below (Nat.le_refl _)).outs) hN.outsL 0).mono ?_
  rintro e w7 ⟨rfl, rfl⟩
  obtain ⟨nb, hnb⟩ : ∃ b, b = (N.outs.any fun x => (0 : Int) == x) := ⟨_, rfl⟩
  rw [← hnb]
  have HNb := Lib.hid hnb
  clear hnb
  have hbl9 : bs.length ≤ 300 := by
    have h := congrArg List.length HD6.out
    rw [List.length_map, List.length_append, holdBlks, List.length_map, List.length_take] at h
    have := lutBlks_length N (whoF N) (wireTo N (whoF N) N.luts.length) N.luts.length
    have := hf.luts; omega
  cases nb
  · go_wp2_with fail
    have H7 : Hid (∃ ov os, Pk w N mb pk (xb + 1) (K + N.luts.length) (wireTo N (whoF N) N.luts.length) bv ov W6 ∧ Rows (xb + 1) bs bv os ov W6 ∧ os = (N.outs.take 0).map (wireTo N (whoF N) N.luts.length)) := Lib.hid ⟨_, [], HP6.out, HR6.out, rfl⟩
    have hbl10 : bs.length ≤ 400 := by omega
    refine packL6 _ (by intro c d v a w h; cases d <;> exact h) w _ N (Lib.hid hN) hf.outs mb pk _ w.heap.size _ _ _ bs N.oa (Lib.hid rfl) H7 _ _ _ _ _ _ _ _ _ _ _ _ _ _ _ _ _ _ _ _ _ _ _ _ _ _ _ _ _ _ _ _ _ _ _ _ _ _ _ _ _ _ _ _ _ _ _ _ _ _ _ _ _ _ _ _ _ _ _ _ _ _ _ _ _ _ _ _ _ _ _ _ _ _ _ _ _ _ _ _ _ _ _ _ _ _ _ _ _ _ _ _ _ _ _ _ _ _ _ _ _ _ _ _ _ _ _ _ _ _ _ _ _ _ _ _ _ _ _ _ _ _ _ _ _ _ _ _ _ _ _ _ _ _ _ _ _ _ _ _ _ _ _ _ _ _ _ _ _ _ _ _ _ _ _ _ _ _ _ _ _ _ _ _ _ _ _ _ _ _ _ _ _ _ _ _ _ _ _ _ _ _ _ _ _ _ _ _ _ _ _ _ _ _ _ _ _ _ _ _ _ _ _ _ _ _ _ _ _ _ _ _ _ _ _ _ _ _ _ _ _ _ _ _ _ _ _ _ _ _ _ _ _ _ _ _ _ _ _ _ _ _ _ _ _ ?_
    intro r19 r211 r212 r213 r214 r215 r216 r217 r218 r219 r220 r221 r222 r223 r224 r225 r226 r227 r228 r229 r230 r231 r232 W10 H10
    clear H7
    obtain ⟨ov, os, hp10, hr10, hos⟩ := H10.out
    obtain ⟨bv', hbv'⟩ : ∃ v, v = bv := ⟨_, rfl⟩
    obtain ⟨BS, hBS⟩ : ∃ v, v = bs := ⟨_, rfl⟩
    rw [← hbv'] at hp10 hr10
    rw [← hBS] at hr10 hbl10
    have HBV := Lib.hid hbv'
    have HBS := Lib.hid hBS
    clear hbv' hBS
    obtain ⟨ba, bc, rfl⟩ := owns_val hr10.own
    obtain ⟨oa', oc', rfl⟩ := owns_val hr10.oown
    obtain ⟨n, hn⟩ : ∃ n, n = BS.length := ⟨_, rfl⟩
    obtain ⟨m, hm⟩ : ∃ n, n = os.length := ⟨_, rfl⟩
    rw [← hn] at hp10 hr10 hbl10
    rw [← hm] at hp10 hr10
    have hp0 := hp10.p0
    have hp1 := hp10.p1
    have hp2 := hp10.p2
    have hn0 := hp10.n0
    have zr := hp10.res
    obtain ⟨zr0, zf⟩ := cells_at zr 0
    have zr1 := (cells_at zr 1).1
    have zr2 := (cells_at zr 2).1
    have zf1 := (cells_at zr 1).2
    have zf2 := (cells_at zr 2).2
    simp only [List.getElem?_toArray, List.getElem?_cons_zero, List.getElem?_cons_succ] at zr0 zr1 zr2
    have hd1 : decide ((1024 : Int) < N.ins) = false := by simpa using (by omega : N.ins ≤ 1024)
    have hd2 : decide ((1024 : Int) < (n : Int)) = false := by simpa using (by omega : (n : Int) ≤ 1024)
    have HPt := Lib.hid hp10
    have HRt := Lib.hid hr10
    have HOs := Lib.hid hos
    have HNn := Lib.hid hn
    have HMm := Lib.hid hm
    clear hp10 hr10 hos H10 zr hn hm
    go_wp2_with fail
    refine bodyPost_ret (results_pack (b := w.heap.size + 1) rfl rfl (set_keep (set_keep (cell?_set_own zr0) (by decide)) (by decide)) (set_keep (cell?_set_own (set_keep zr1 (by decide))) (by decide)) (cell?_set_own (set_keep (set_keep zr2 (by decide)) (by decide)))) rfl (hR _ _ ?_)
    have hg := ggrown (ggrown (grownBy_set W10 (w.heap.size + 1) 0 (.int .i64 N.ins)) (grownBy_set _ (w.heap.size + 1) 1 (.slice ba n bc))) (grownBy_set _ (w.heap.size + 1) 2 (.slice oa' m oc'))
    refine ⟨⟨N.ins, ba, bc, BS, oa', oc', os⟩, rfl, ?_, ?_, ?_, ?_, ?_⟩
    · show BS.map BlkV.data = packBlks N
      rw [HBS.out]
      unfold packBlks noneAt
      rw [← HNb.out]
      rw [HD6.out]; simp [wiresF]
    · show os = packOuts N
      rw [HOs.out, List.take_of_length_le (Nat.le_refl _)]
      unfold packOuts wiresE noneAt
      rw [← HNb.out]
      rfl
    · show Ending.returned (.tuple #[.agg #[.int .i64 N.ins, .slice ba n bc, .slice oa' m oc'], .int .i64 0]) = .returned (.tuple #[.agg #[.int .i64 N.ins, .slice ba BS.length bc, .slice oa' os.length oc'], .int .i64 0])
      rw [← HNn.out, ← HMm.out]
    · show Rows w.heap.size BS (.slice ba BS.length bc) os (.slice oa' os.length oc') _
      rw [← HNn.out, ← HMm.out]
      exact (HRt.out.grown hg (fun k e => by injection e with e; omega)).mono_lo (by omega)
    · exact HPt.out.below.grown hg (by have := HPt.out.lo'; omega) (fun k e => by injection e with e; omega)
  · obtain ⟨w8, hput, hm8, hg8⟩ := HP6.out.map.put 0 (nextTo N (whoF N) N.luts.length) ⟨by omega, by omega⟩ (by have := nextTo_bound N (whoF N) N.luts.length; have := hf.luts; exact ⟨by omega, by omega⟩) (by have := HK.out; have := hf.luts; omega)
    have hp7 := HP6.out.p7
    have hp8 := HP6.out.put hm8 hg8
    have hp81 := hp8.p1
    have HR8 := Lib.hid (HR6.out.grown hg8 (fun k e => by injection e with e; omega))
    have HP8 := Lib.hid hp8
    clear hm8 hp8
    have hlo8 := HP8.out.lo'
    obtain ⟨i4, hi, hz0, hz1, hz2⟩ := info_parts info43
    go_wp2_with (at_builtin; refine wpList_append_lies _ rfl _ _ _ rfl (xb + 1) 43 i4 (.agg #[.slice none 0 0, .int .i64 0, .bool false, .bool false]) 4 40 Try.underlying29 hi hz0 hz1 hz2 rfl (by decide) bv bs.length (bs.flatMap BlkV.cells) rfl (HR8.out.own.alloc _) ⟨w8.heap.size, 0, none⟩ 1 1 [Value.slice none 0 0, Value.int IntKind.i64 0, Value.bool false, Value.bool false] rfl rfl (four_new (cell_new4 w8 _ _ _ _ _).1 (cell_new4 w8 _ _ _ _ _).2.1 (cell_new4 w8 _ _ _ _ _).2.2.1 (cell_new4 w8 _ _ _ _ _).2.2.2) (by simp [Value.oneCell']) (by omega) (by unfold maxLen; omega) (by omega) (by simp; omega) (w8.heap.size + 1) (by simp) ?_)
    intro gB cB w9 hoB9 hg9 hat9 hlt9
    have hgr9 : w8.grownBy w9 bv.ownBlock := ggrown (World.grownBy_alloc _ _ _) hg9
    have hb9 : Below (xb + 1) w8 w9 := (Below.refl _ _).grown hgr9 (by omega) (fun k e => (HR8.out.own.lt k e).1)
    have hp9 := HP8.out.low hb9
    have y1 := hp9.p1
    have yf := hp9.fz 1
    have hn3' := (hp9.set1 (.slice (some ⟨gB, 0, none⟩) (bs.length + 1) cB)).n3
    have hInA : InAt (xb + 1) bv (.slice none 0 0) w8 ⟨none, 0, [], 0, false, false⟩ := .inl rfl
    have HR9 := Lib.hid ((HR8.out.addB (b := ⟨none, 0, [], 0, false, false⟩) hInA hgr9 rfl hat9 (by omega) hlt9 hoB9).grown (grownBy_set _ pk 1 (.slice (some ⟨gB, 0, none⟩) (bs.length + 1) cB)) (fun k e => by injection e with e; omega))
    have HP9 := Lib.hid (hp9.set1 (.slice (some ⟨gB, 0, none⟩) (bs.length + 1) cB))
    clear hp9 hoB9
    go_wp2_with fail
    have H7 : Hid (∃ ov os, Pk w N mb pk (xb + 1) (K + N.luts.length + 1) (fun x => if x = 0 then nextTo N (whoF N) N.luts.length else wireTo N (whoF N) N.luts.length x) (Value.slice (some ⟨gB, 0, none⟩) (bs.length + 1) cB) ov (w9.setCell ⟨pk, 1, none⟩ (.slice (some ⟨gB, 0, none⟩) (bs.length + 1) cB)) ∧ Rows (xb + 1) (bs ++ [(⟨none, 0, [], 0, false, false⟩ : BlkV)]) (Value.slice (some ⟨gB, 0, none⟩) (bs.length + 1) cB) os ov (w9.setCell ⟨pk, 1, none⟩ (.slice (some ⟨gB, 0, none⟩) (bs.length + 1) cB)) ∧ os = (N.outs.take 0).map (fun x => if x = 0 then nextTo N (whoF N) N.luts.length else wireTo N (whoF N) N.luts.length x)) := Lib.hid ⟨_, [], HP9.out, HR9.out, rfl⟩
    have hbl10 : (bs ++ [(⟨none, 0, [], 0, false, false⟩ : BlkV)]).length ≤ 400 := by simp; omega
    refine packL6 _ (by intro c d v a w h; cases d <;> exact h) w _ N (Lib.hid hN) hf.outs mb pk _ w.heap.size _ _ _ (bs ++ [(⟨none, 0, [], 0, false, false⟩ : BlkV)]) N.oa (Lib.hid rfl) H7 _ _ _ _ _ _ _ _ _ _ _ _ _ _ _ _ _ _ _ _ _ _ _ _ _ _ _ _ _ _ _ _ _ _ _ _ _ _ _ _ _ _ _ _ _ _ _ _ _ _ _ _ _ _ _ _ _ _ _ _ _ _ _ _ _ _ _ _ _ _ _ _ _ _ _ _ _ _ _ _ _ _ _ _ _ _ _ _ _ _ _ _ _ _ _ _ _ _ _ _ _ _ _ _ _ _ _ _ _ _ _ _ _ _ _ _ _ _ _ _ _ _ _ _ _ _ _ _ _ _ _ _ _ _ _ _ _ _ _ _ _ _ _ _ _ _ _ _ _ _ _ _ _ _ _ _ _ _ _ _ _ _ _ _ _ _ _ _ _ _ _ _ _ _ _ _ _ _ _ _ _ _ _ _ _ _ _ _ _ _ _ _ _ _ _ _ _ _ _ _ _ _ _ _ _ _ _ _ _ _ _ _ _ _ _ _ _ _ _ _ _ _ _ _ _ _ _ _ _ _ _ _ _ _ _ _ _ _ _ _ _ _ _ _ _ ?_
    intro r19 r211 r212 r213 r214 r215 r216 r217 r218 r219 r220 r221 r222 r223 r224 r225 r226 r227 r228 r229 r230 r231 r232 W10 H10
    clear H7
    obtain ⟨ov, os, hp10, hr10, hos⟩ := H10.out
    obtain ⟨bv', hbv'⟩ : ∃ v, v = (Value.slice (some ⟨gB, 0, none⟩) (bs.length + 1) cB) := ⟨_, rfl⟩
    obtain ⟨BS, hBS⟩ : ∃ v, v = (bs ++ [(⟨none, 0, [], 0, false, false⟩ : BlkV)]) := ⟨_, rfl⟩
    rw [← hbv'] at hp10 hr10
    rw [← hBS] at hr10 hbl10
    have HBV := Lib.hid hbv'
    have HBS := Lib.hid hBS
    clear hbv' hBS
    obtain ⟨ba, bc, rfl⟩ := owns_val hr10.own
    obtain ⟨oa', oc', rfl⟩ := owns_val hr10.oown
    obtain ⟨n, hn⟩ : ∃ n, n = BS.length := ⟨_, rfl⟩
    obtain ⟨m, hm⟩ : ∃ n, n = os.length := ⟨_, rfl⟩
    rw [← hn] at hp10 hr10 hbl10
    rw [← hm] at hp10 hr10
    have hp0 := hp10.p0
    have hp1 := hp10.p1
    have hp2 := hp10.p2
    have hn0 := hp10.n0
    have zr := hp10.res
    obtain ⟨zr0, zf⟩ := cells_at zr 0
    have zr1 := (cells_at zr 1).1
    have zr2 := (cells_at zr 2).1
    have zf1 := (cells_at zr 1).2
    have zf2 := (cells_at zr 2).2
    simp only [List.getElem?_toArray, List.getElem?_cons_zero, List.getElem?_cons_succ] at zr0 zr1 zr2
    have hd1 : decide ((1024 : Int) < N.ins) = false := by simpa using (by omega : N.ins ≤ 1024)
    have hd2 : decide ((1024 : Int) < (n : Int)) = false := by simpa using (by omega : (n : Int) ≤ 1024)
    have HPt := Lib.hid hp10
    have HRt := Lib.hid hr10
    have HOs := Lib.hid hos
    have HNn := Lib.hid hn
    have HMm := Lib.hid hm
    clear hp10 hr10 hos H10 zr hn hm
    go_wp2_with fail
    refine bodyPost_ret (results_pack (b := w.heap.size + 1) rfl rfl (set_keep (set_keep (cell?_set_own zr0) (by decide)) (by decide)) (set_keep (cell?_set_own (set_keep zr1 (by decide))) (by decide)) (cell?_set_own (set_keep (set_keep zr2 (by decide)) (by decide)))) rfl (hR _ _ ?_)
    have hg := ggrown (ggrown (grownBy_set W10 (w.heap.size + 1) 0 (.int .i64 N.ins)) (grownBy_set _ (w.heap.size + 1) 1 (.slice ba n bc))) (grownBy_set _ (w.heap.size + 1) 2 (.slice oa' m oc'))
    refine ⟨⟨N.ins, ba, bc, BS, oa', oc', os⟩, rfl, ?_, ?_, ?_, ?_, ?_⟩
    · show BS.map BlkV.data = packBlks N
      rw [HBS.out]
      unfold packBlks noneAt
      rw [← HNb.out]
      rw [List.map_append, HD6.out]; rfl
    · show os = packOuts N
      rw [HOs.out, List.take_of_length_le (Nat.le_refl _)]
      unfold packOuts wiresE noneAt
      rw [← HNb.out]
      rfl
    · show Ending.returned (.tuple #[.agg #[.int .i64 N.ins, .slice ba n bc, .slice oa' m oc'], .int .i64 0]) = .returned (.tuple #[.agg #[.int .i64 N.ins, .slice ba BS.length bc, .slice oa' os.length oc'], .int .i64 0])
      rw [← HNn.out, ← HMm.out]
    · show Rows w.heap.size BS (.slice ba BS.length bc) os (.slice oa' os.length oc') _
      rw [← HNn.out, ← HMm.out]
      exact (HRt.out.grown hg (fun k e => by injection e with e; omega)).mono_lo (by omega)
    · exact HPt.out.below.grown hg (by have := HPt.out.lo'; omega) (fun k e => by injection e with e; omega)
end Go.Proofs.Ytibimdhmfchcoaa

/- A10 -/
namespace Go.Proofs.Ytibimdhmfchcoaa
open Go.RowKit Go.Shelf Go.Maps
set_option linter.unusedVariables false
set_option linter.unusedSimpArgs false
theorem results_pack1 {tmps : Array Value} {w : World} {b : Nat} {x : Int} {ba oa : Option Addr} {n bc m oc : Nat} (h2 : tmps[2]?.getD undef = .pointer (some ⟨b, 0, none⟩)) (h3 : tmps[3]?.getD undef = .int .i64 1)
    (h0 : w.cell? ⟨b, 0, none⟩ = some (.int .i64 x)) (h1 : w.cell? ⟨b, 1, none⟩ = some (.slice ba n bc)) (h4 : w.cell? ⟨b, 2, none⟩ = some (.slice oa m oc)) :
    (results Try.f16 tmps).run Try.prog w = .ok (.tuple #[.agg #[.int .i64 x, .slice ba n bc, .slice oa m oc], .int .i64 1]) w := by
  simp [results, go_sem, h2, h3, h0, h1, h4]


/-- What rows that the call made hold. -/
theorem owns_cells {w : World} {base e size n : Nat} {v : Value} {xs : List Value} (h : w.ownsRow base e size v n xs) (hn : 0 < n) : ∃ g cap, v = .slice (some ⟨g, 0, none⟩) n cap ∧ base ≤ g ∧ g < w.heap.size ∧ ∀ j (hj : j < xs.length), w.cell? ⟨g, j, none⟩ = some xs[j] := by
  rcases h.2 with ⟨_, h0⟩ | ⟨g, cap, cur, hv, hb, hg, hnc, hm, hs, ht⟩
  · omega
  · subst hv
    exact ⟨g, cap, rfl, hb, (Array.getElem?_eq_some_iff.1 hg).1, fun j hj => (h.cellAt j (h.1 ▸ hj)).trans (List.getElem?_eq_getElem hj)⟩

def blkCell (bs : List BlkV) : Nat → Value := fun i =>
  if i % 4 = 0 then .slice (bs.getD (i / 4) default).a (bs.getD (i / 4) default).ins.length (bs.getD (i / 4) default).c
  else if i % 4 = 1 then .int .i64 (bs.getD (i / 4) default).tab
  else if i % 4 = 2 then .bool (bs.getD (i / 4) default).ff else .bool (bs.getD (i / 4) default).init

/-- How a pack reads in a world. -/
structure PackAt (w : World) (P : PackV) : Prop where
  insR : I64 P.ins
  blocks : Seq w P.ba (4 * P.bs.length) (blkCell P.bs)
  outs : Seq w P.oa P.os.length (ints P.os)
  each : ∀ b ∈ P.bs, Seq w b.a b.ins.length (ints b.ins) ∧ (∀ x ∈ b.ins, I64 x) ∧ I64 b.tab ∧ b.ins.length ≤ 9223372036854775807
  outsR : ∀ x ∈ P.os, I64 x
  blocksL : P.bs.length ≤ 9223372036854775807
  outsL : P.os.length ≤ 9223372036854775807

theorem PackAt.below {w w' : World} {B : Nat} {P : PackV} (h : PackAt w P) (hb : Below B w w') (hB : w.heap.size ≤ B) : PackAt w' P :=
  ⟨h.insR, h.blocks.below hb hB, h.outs.below hb hB, fun b hb' => ⟨(h.each b hb').1.below hb hB, (h.each b hb').2⟩, h.outsR, h.blocksL, h.outsL⟩

theorem blk_flat (bs : List BlkV) : ∀ j (hj : j < (bs.flatMap BlkV.cells).length), (bs.flatMap BlkV.cells)[j] = blkCell bs j := by
  induction bs with
  | nil => intro j hj; simp at hj
  | cons b bs ih =>
    intro j hj
    rw [List.getElem_of_eq List.flatMap_cons]
    rcases Nat.lt_or_ge j 4 with h | h
    · rw [List.getElem_append_left (by simpa using h)]
      match j, h with
      | 0, _ => rfl
      | 1, _ => rfl
      | 2, _ => rfl
      | 3, _ => rfl
    · rw [List.getElem_append_right (by simpa using h)]
      have hl : b.cells.length = 4 := rfl
      simp only [hl]
      rw [ih (j - 4) (by rw [List.flatMap_cons, List.length_append, hl] at hj; omega)]
      unfold blkCell
      rw [show j % 4 = (j - 4) % 4 by omega, show j / 4 = (j - 4) / 4 + 1 by omega, List.getD_cons_succ]
theorem flat_length (bs : List BlkV) : (bs.flatMap BlkV.cells).length = 4 * bs.length := by
  induction bs with
  | nil => rfl
  | cons b bs ih => rw [List.flatMap_cons, List.length_append, ih, List.length_cons]; simp; omega

theorem toldD_tab (g : Int → Int) (ins : List Int) (T : Nat) (ff init : Bool) (h : ins.length ≤ 4) : 0 ≤ (toldD g ins T ff init).tab ∧ (toldD g ins T ff init).tab < 65536 ∧ (toldD g ins T ff init).ins.length ≤ 4 := by
  have hk := keptTo_length ins ins.length
  have h1 := tabTo_lt T (keptTo ins ins.length) (2 ^ (keptTo ins ins.length).length)
  have h2 : (2 : Nat) ^ (keptTo ins ins.length).length ≤ 2 ^ 4 := Nat.pow_le_pow_right (by omega) (by omega)
  have h3 : (2 : Nat) ^ (2 ^ (keptTo ins ins.length).length) ≤ 2 ^ 16 := Nat.pow_le_pow_right (by omega) (by omega)
  have hl := liveTo_length g ins ins.length
  unfold toldD
  dsimp only
  exact ⟨by omega, by omega, by omega⟩
theorem liveTo_mem (g : Int → Int) (ins : List Int) (k : Nat) : ∀ x ∈ liveTo g ins k, ∃ y, x = g y := by
  induction k with
  | zero => intro x hx; cases hx
  | succ k ih =>
    intro x hx
    unfold liveTo at hx
    split at hx
    · exact ih x hx
    · rcases List.mem_append.1 hx with h | h
      · exact ih x h
      · rw [List.mem_singleton] at h; exact ⟨_, h⟩

/-- A block that Pack makes is small, and hangs on wires alone. -/
structure BlkFine (f : Int → Int) (b : BlkD) : Prop where
  tab0 : 0 ≤ b.tab
  tab : b.tab < 65536
  len : b.ins.length ≤ 4
  ins : ∀ x ∈ b.ins, ∃ y, x = f y

theorem lut_len (N : NetV) (hok : NetOk N 4) (i : Nat) : (N.luts.getD i default).ins.length ≤ 4 := by
  rcases Nat.lt_or_ge i N.luts.length with h | h
  · have := (hok.lut i h).len; omega
  · simp [List.getD, List.getElem?_eq_none h]; exact Nat.zero_le _
theorem told_fine (f : Int → Int) (ins : List Int) (T : Nat) (ff init : Bool) (h : ins.length ≤ 4) : BlkFine f (toldD f ins T ff init) :=
  ⟨(toldD_tab f ins T ff init h).1, (toldD_tab f ins T ff init h).2.1, (toldD_tab f ins T ff init h).2.2, liveTo_mem f ins ins.length⟩
theorem zero_fine (f : Int → Int) (ff init : Bool) : BlkFine f ⟨[], 0, ff, init⟩ := ⟨Int.le_refl 0, (by decide : (0 : Int) < 65536), Nat.zero_le 4, fun x hx => by cases hx⟩
theorem holdBlk_fine (N : NetV) (hok : NetOk N 4) (g : Int → Bool) (f : Int → Int) (h : HoldV) : BlkFine f (holdBlk N g f h) := by
  unfold holdBlk
  split
  · exact told_fine f _ _ _ _ (lut_len N hok _)
  · split
    · exact zero_fine f _ _
    · exact ⟨by dsimp only; omega, by dsimp only; omega, by simp, fun x hx => ⟨h.d, by simpa using hx⟩⟩
theorem packBlks_fine (N : NetV) (hok : NetOk N 4) : ∀ b ∈ packBlks N, BlkFine (wiresF N) b := by
  intro b hb
  unfold packBlks at hb
  rcases List.mem_append.1 hb with hb | hb
  · rcases List.mem_append.1 hb with hb | hb
    · unfold holdBlks at hb
      obtain ⟨h, _, rfl⟩ := List.mem_map.1 hb
      exact holdBlk_fine N hok _ _ h
    · revert hb
      generalize N.luts.length = k
      intro hb
      induction k with
      | zero => cases hb
      | succ k ih =>
        unfold lutBlks at hb
        split at hb
        · exact ih hb
        · rcases List.mem_append.1 hb with hb | hb
          · exact ih hb
          · rw [List.mem_singleton] at hb; subst hb; exact told_fine _ _ _ _ _ (lut_len N hok _)
  · split at hb
    · rw [List.mem_singleton] at hb; subst hb; exact zero_fine _ _ _
    · cases hb
theorem wiresF_bound (N : NetV) (hf : Few N) (h0 : 0 ≤ N.ins) (x : Int) : 0 ≤ wiresF N x ∧ wiresF N x ≤ 400 := by
  have h := wireTo_bound N (whoF N) h0 N.luts.length x
  have h1 := hf.ins; have h2 := hf.holds; have h3 := hf.luts
  unfold wiresF; omega
theorem wiresE_bound (N : NetV) (hf : Few N) (h0 : 0 ≤ N.ins) (x : Int) : 0 ≤ wiresE N x ∧ wiresE N x ≤ 400 := by
  have h := wiresF_bound N hf h0 x
  have h4 := nextTo_bound N (whoF N) N.luts.length
  have h1 := hf.ins; have h2 := hf.holds; have h3 := hf.luts
  unfold wiresE; split
  · dsimp only; split <;> omega
  · exact h
theorem packBlks_length (N : NetV) : (packBlks N).length ≤ N.holds.length + N.luts.length + 1 ∧ N.holds.length ≤ (packBlks N).length := by
  have h := lutBlks_length N (whoF N) (wiresF N) N.luts.length
  unfold packBlks holdBlks
  rw [List.length_append, List.length_append, List.length_map, List.length_take]
  split <;> simp <;> omega

/-- What lies where a pack was made reads as one. -/
theorem pack_at {w : World} {N : NetV} {P : PackV} {lo : Nat} (hok : NetOk N 4) (hf : Few N) (hi : P.ins = N.ins) (hI : I64 N.ins) (hb : P.bs.map BlkV.data = packBlks N) (ho : P.os = packOuts N)
    (hr : Rows lo P.bs (.slice P.ba P.bs.length P.bc) P.os (.slice P.oa P.os.length P.oc) w) : PackAt w P := by
  have hfine : ∀ b ∈ P.bs, BlkFine (wiresF N) b.data := fun b hbm => packBlks_fine N hok _ (hb ▸ List.mem_map_of_mem hbm)
  have hlen : P.bs.length ≤ 500 := by
    have h := congrArg List.length hb
    rw [List.length_map] at h
    have := packBlks_length N; have := hf.holds; have := hf.luts; omega
  refine ⟨hi ▸ hI, ?_, ?_, fun b hbm => ⟨?_, fun x hx => ?_, ?_, ?_⟩, fun x hx => ?_, by omega, ?_⟩
  · rcases Nat.eq_zero_or_pos P.bs.length with h0 | h0
    · exact .inl (by omega)
    · obtain ⟨g, cap, hv, _, _, hc⟩ := owns_cells hr.own h0
      injection hv with hv
      refine .inr ⟨g, 0, hv, fun i hi => ?_⟩
      have hi' : i < (P.bs.flatMap BlkV.cells).length := by rw [flat_length]; omega
      rw [Nat.zero_add, hc i hi', blk_flat]
  · rcases Nat.eq_zero_or_pos P.os.length with h0 | h0
    · exact .inl h0
    · obtain ⟨g, cap, hv, _, _, _, hc⟩ := owns_shape hr.oown h0
      injection hv with hv
      exact .inr ⟨g, 0, hv, fun i hi => by rw [Nat.zero_add]; exact hc i hi⟩
  · rcases hr.ins b hbm with h | ⟨g, off, ha, _, _, _, _, hc⟩
    · exact .inl h
    · exact .inr ⟨g, off, ha, hc⟩
  · obtain ⟨y, rfl⟩ := (hfine b hbm).ins x hx
    have := wiresF_bound N hf hok.ins0 y
    exact ⟨by omega, by omega⟩
  · have h1 := (hfine b hbm).tab0
    have h2 := (hfine b hbm).tab
    have : b.data.tab = b.tab := rfl
    exact ⟨by omega, by omega⟩
  · have h1 := (hfine b hbm).len
    have : b.data.ins.length = b.ins.length := rfl
    omega
  · rw [ho] at hx
    obtain ⟨y, _, rfl⟩ := List.mem_map.1 hx
    have := wiresE_bound N hf hok.ins0 y
    exact ⟨by omega, by omega⟩
  · rw [ho]; unfold packOuts; rw [List.length_map]; have := hf.outs; omega

set_option maxRecDepth 100000 in
set_option maxHeartbeats 8000000 in
theorem pack_bad (w : World) (N : NetV) (hN : NetAt w N) (hf : Few N) (hok : ¬ NetOk N 4) : Calls Try.prog 16 #[N.val] w fun e w' => e = .returned (.tuple #[.agg #[.int .i64 0, .slice none 0 0, .slice none 0 0], .int .i64 1]) ∧ Below w.heap.size w w' := by
  go_enter Try.func16, Try.ntmps16
  go_wp2_with fail
  refine (check _ N (hN.below (((Below.refl _ _).alloc (Nat.le_refl _) _).alloc (by simp) _) (Nat.le_refl _)) hf 4 (by omega)).mono ?_
  rintro e w1 ⟨rfl, hb1⟩
  obtain ⟨c, hc⟩ : ∃ c, c = chk N 4 := ⟨_, rfl⟩
  have hc0 : c = 1 := by rw [hc]; unfold chk; rw [if_neg hok]
  rw [← hc, hc0]
  clear hc hc0
  have hb1 : Below (w.heap.size + 2) ((w.alloc N.obj).alloc (.cells #[.int .i64 0, .slice none 0 0, .slice none 0 0] 31)) w1 := hb1.mono (by simp)
  have zr : w1.heap[w.heap.size + 1]? = some (.cells #[.int .i64 0, .slice none 0 0, .slice none 0 0] 31) := by
    refine (hb1.block _ (by omega)).trans ?_
    have h := alloc_top (w.alloc N.obj) (.cells #[.int .i64 0, .slice none 0 0, .slice none 0 0] 31)
    rwa [show (w.alloc N.obj).heap.size = w.heap.size + 1 by simp] at h
  have hw : Below w.heap.size w w1 := (((Below.refl _ _).alloc (Nat.le_refl _) _).alloc (by simp) _).trans (hb1.mono (by omega))
  have hws : w.heap.size + 2 ≤ w1.heap.size := by have := hb1.size; simpa using this
  obtain ⟨zr0, zf⟩ := cells_at zr 0
  have zr1 := (cells_at zr 1).1
  have zr2 := (cells_at zr 2).1
  have zf1 := (cells_at zr 1).2
  have zf2 := (cells_at zr 2).2
  simp only [List.getElem?_toArray, List.getElem?_cons_zero, List.getElem?_cons_succ] at zr0 zr1 zr2
  have HW := Lib.hid hw
  clear hw hb1 zr
  go_wp2_with fail
  refine bodyPost_ret (results_pack1 (b := w.heap.size + 1) rfl rfl (set_keep (set_keep (cell?_set_own zr0) (by decide)) (by decide)) (set_keep (cell?_set_own (set_keep zr1 (by decide))) (by decide)) (cell?_set_own (set_keep (set_keep zr2 (by decide)) (by decide)))) rfl ⟨rfl, ?_⟩
  have hg := ggrown (ggrown (grownBy_set w1 (w.heap.size + 1) 0 (.int .i64 0)) (grownBy_set _ (w.heap.size + 1) 1 (.slice none 0 0))) (grownBy_set _ (w.heap.size + 1) 2 (.slice none 0 0))
  exact HW.out.grown hg (by omega) (fun k e => by injection e with e; omega)

theorem packs (w : World) (N : NetV) (hN : NetAt w N) (hf : Few N) : Calls Try.prog 16 #[N.val] w fun e w' =>
    (NetOk N 4 ∧ NewPack w N e w') ∨ (¬ NetOk N 4 ∧ e = .returned (.tuple #[.agg #[.int .i64 0, .slice none 0 0, .slice none 0 0], .int .i64 1]) ∧ Below w.heap.size w w') := by
  by_cases hok : NetOk N 4
  · exact pack_ok w N hN hf hok _ (fun e w' h => .inl ⟨hok, h⟩)
  · exact (pack_bad w N hN hf hok).mono (fun e w' h => .inr ⟨hok, h⟩)
end Go.Proofs.Ytibimdhmfchcoaa

/- A11 -/
namespace Go.Proofs.Ytibimdhmfchcoaa
open Go.RowKit Go.Shelf Go.Maps
set_option linter.unusedVariables false
set_option linter.unusedSimpArgs false


theorem cell_top (w : World) (xs : Array Value) (t : TypeId) (b i : Nat) (v : Value) (hb : b = w.heap.size) (hx : xs[i]? = some v) : (w.alloc (Obj.cells xs t)).cell? ⟨b, i, none⟩ = some v := by
  subst hb; exact (cells_at (alloc_top w _) i).1.trans hx
/-- The net of the chapter's example, as it lies. -/
abbrev liveN (h : Nat) : NetV := ⟨1, some ⟨h, 0, none⟩, 1, [⟨3, false⟩], some ⟨h + 2, 0, none⟩, 1, [⟨some ⟨h + 1, 0, none⟩, 2, [1, 2], 6⟩], some ⟨h + 3, 0, none⟩, 1, [2]⟩
theorem live_blks (h : Nat) : packBlks (liveN h) = [⟨[0, 1], 6, true, false⟩] := by kernel_rfl
theorem live_outs (h : Nat) : packOuts (liveN h) = [1] := by kernel_rfl
theorem live_ok (h : Nat) : NetOk (liveN h) 4 := by
  refine ⟨by simp, fun i hi => ?_, ?_, ?_⟩
  · obtain rfl : i = 0 := by simp at hi; exact hi
    refine ⟨?_, ?_, ?_⟩
    · show ((2 : Nat) : Int) ≤ 4
      omega
    · show (6 : Int) ≤ ((rowsN 2 : Nat) : Int)
      simp [rowsN]
    · intro x hx
      simp at hx
      rcases hx with rfl | rfl <;> simp
  · intro x hx; simp at hx; subst hx; simp
  · intro x hx; simp at hx; subst hx; simp
theorem live_few (h : Nat) : Few (liveN h) := by
  refine ⟨fun l hl => ?_, by simp, by simp, by simp, by simp⟩
  simp at hl; subst hl; simp
def liveW (w : World) : World := (((w.alloc (Obj.cells #[Value.int .i64 3, Value.bool false] 63)).alloc (Obj.cells #[Value.int .i64 1, Value.int .i64 2] 3)).alloc (Obj.cells #[Value.slice (some ⟨w.heap.size + 1, 0, none⟩) 2 2, Value.int .u64 6] 41)).alloc (Obj.cells #[Value.int .i64 2] 3)
theorem live_size (w : World) : (liveW w).heap.size = w.heap.size + 4 := by unfold liveW; simp
theorem live_below (w : World) : Below w.heap.size w (liveW w) := (((Below.refl _ _).alloc (Nat.le_refl _) _).alloc (by simp) _).alloc (by simp; omega) _ |>.alloc (by simp; omega) _
theorem live_at (w : World) : NetAt (liveW w) (liveN w.heap.size) := by
  refine ⟨⟨by simp, by simp⟩, .inr ⟨w.heap.size, 0, rfl, fun i hi => ?_⟩, .inr ⟨w.heap.size + 2, 0, rfl, fun i hi => ?_⟩, .inr ⟨w.heap.size + 3, 0, rfl, fun i hi => ?_⟩, ?_, ?_, ?_, by simp, by simp, by simp⟩
  · match i, hi with
    | 0, _ => exact cell_alloc _ (cell_alloc _ (cell_alloc _ (cell_top _ _ _ _ _ _ (by simp) rfl)))
    | 1, _ => exact cell_alloc _ (cell_alloc _ (cell_alloc _ (cell_top _ _ _ _ _ _ (by simp) rfl)))
  · match i, hi with
    | 0, _ => exact cell_alloc _ (cell_top _ _ _ _ _ _ (by simp) rfl)
    | 1, _ => exact cell_alloc _ (cell_top _ _ _ _ _ _ (by simp) rfl)
  · match i, hi with
    | 0, _ => exact cell_top _ _ _ _ _ _ (by simp) rfl
  · intro l hl
    simp at hl; subst hl
    refine ⟨.inr ⟨w.heap.size + 1, 0, rfl, fun i hi => ?_⟩, ⟨by simp, by simp⟩, ?_, by simp⟩
    · match i, hi with
      | 0, _ => exact cell_alloc _ (cell_alloc _ (cell_top _ _ _ _ _ _ (by simp) rfl))
      | 1, _ => exact cell_alloc _ (cell_alloc _ (cell_top _ _ _ _ _ _ (by simp) rfl))
    · intro x hx; simp at hx; rcases hx with rfl | rfl <;> exact ⟨by simp, by simp⟩
  · intro x hx; simp at hx; subst hx; exact ⟨by simp, by simp⟩
  · intro x hx; simp at hx; subst hx; exact ⟨by simp, by simp⟩

set_option maxRecDepth 100000 in
set_option maxHeartbeats 8000000 in
theorem live14 (w : World) : Calls Try.prog 14 #[] w fun e w' => e = .returned (.bool true) ∧ Below w.heap.size w w' := by
  have HA := Lib.hid (live_at w)
  have hz := live_size w
  go_enter Try.func14, Try.ntmps14
  go_wp2_with fail
  show Calls Try.prog 16 #[(liveN w.heap.size).val] (liveW w) _
  refine (packs (liveW w) (liveN w.heap.size) HA.out (live_few _)).mono ?_
  rintro e w1 (⟨_, P, hi, hb, ho, rfl, hr, hbl⟩ | ⟨hno, _⟩)
  rotate_left
  · exact absurd (live_ok _) hno
  rw [live_blks] at hb
  rw [live_outs] at ho
  obtain ⟨pi, ba, bc, bs, oa, oc, os⟩ := P
  dsimp only at hi hb ho hr
  subst ho hi
  obtain ⟨b, rfl⟩ : ∃ b, bs = [b] := List.length_eq_one_iff.1 (by have h := congrArg List.length hb; simpa using h)
  obtain ⟨ia, ic, bi, bt, bf, bn⟩ := b
  simp only [List.map_cons, List.map_nil, List.cons.injEq, and_true, BlkV.data, BlkD.mk.injEq] at hb
  obtain ⟨rfl, rfl, rfl, rfl⟩ := hb
  obtain ⟨g, cap, hv, hg1, hg2, hc⟩ := owns_cells hr.own (by simp)
  injection hv with hv _ _
  subst hv
  have x0 := hc 0 (by simp)
  have x1 := hc 1 (by simp)
  have x2 := hc 2 (by simp)
  have x3 := hc 3 (by simp)
  simp only [List.flatMap_cons, List.flatMap_nil, List.append_nil, List.getElem_cons_zero, List.getElem_cons_succ] at x0 x1 x2 x3
  have HIn : Hid (Seq w1 ia 2 (ints [0, 1])) := Lib.hid (by
    rcases hr.ins _ (List.mem_singleton.2 rfl) with h | ⟨g, off, ha, _, _, _, _, hc⟩
    · exact .inl h
    · exact .inr ⟨g, off, ha, hc⟩)
  have HOut : Hid (Seq w1 oa 1 (ints [1])) := Lib.hid (by
    obtain ⟨g, cap, hv, _, _, _, hc⟩ := owns_shape hr.oown (by simp)
    injection hv with hv
    exact .inr ⟨g, 0, hv, fun i hi => by rw [Nat.zero_add]; exact hc i hi⟩)
  have HB : Hid (Below w.heap.size w w1) := Lib.hid ((live_below w).trans (hbl.mono (by omega)))
  clear hr hc hbl
  go_wp2_with fail
  have hb1 : Below w1.heap.size w1 ((w1.alloc (Obj.cells #[Value.int IntKind.i64 1, Value.slice (some ⟨g, 0, none⟩) 1 cap, Value.slice oa 1 oc] 31)).alloc (Obj.cells #[Value.int IntKind.i64 0, Value.int IntKind.i64 1] 3)) := ((Below.refl _ _).alloc (Nat.le_refl _) _).alloc (by simp) _
  refine (sameInts _ ia (some ⟨w1.heap.size + 1, 0, none⟩) 2 ic 2 2 [0, 1] [0, 1] rfl rfl (by simp) (by simp) (HIn.out.below hb1 (Nat.le_refl _)) (.inr ⟨w1.heap.size + 1, 0, rfl, fun i hi => ?_⟩)).mono ?_
  · match i, hi with
    | 0, _ => exact cell_top _ _ _ _ _ _ (by simp) rfl
    | 1, _ => exact cell_top _ _ _ _ _ _ (by simp) rfl
  rintro e w2 ⟨rfl, hb2⟩
  have hb2 := hb2.mono (show w1.heap.size + 2 ≤ _ by simp)
  have k2 : w2.cell? ⟨w1.heap.size, 2, none⟩ = some (Value.slice oa 1 oc) := (hb2.cell (p := ⟨_, _, none⟩) (by simp only; omega)).trans (cell_alloc _ (cell_top _ _ _ _ _ _ rfl rfl))
  have HB2 := Lib.hid (hb1.trans (hb2.mono (by omega)))
  clear hb1 hb2
  simp only [decide_true]
  go_wp2_with fail
  refine (sameInts _ oa (some ⟨w2.heap.size, 0, none⟩) 1 oc 1 1 [1] [1] rfl rfl (by simp) (by simp) ((HOut.out.below HB2.out (Nat.le_refl _)).below ((Below.refl _ _).alloc (Nat.le_refl _) _) (Nat.le_refl _)) (.inr ⟨w2.heap.size, 0, rfl, fun i hi => ?_⟩)).mono ?_
  · match i, hi with
    | 0, _ => exact cell_top _ _ _ _ _ _ (by simp) rfl
  rintro e w3 ⟨rfl, hb3⟩
  have HB3 := Lib.hid (HB.out.trans ((HB2.out.mono (by omega)).trans ((((Below.refl _ _).alloc (Nat.le_refl w2.heap.size) _).trans (hb3.mono (by simp))).mono (by have := HB2.out.size; have := HB.out.size; omega))))
  clear hb3
  simp only [decide_true]
  go_wp2
  go_ret
  exact ⟨rfl, HB3.out⟩
end Go.Proofs.Ytibimdhmfchcoaa
