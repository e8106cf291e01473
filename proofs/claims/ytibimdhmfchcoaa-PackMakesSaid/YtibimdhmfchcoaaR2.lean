import Derived.Test.YtibimdhmfchcoaaR1
import Derived.Test.YtibimdhmfchcoaaU42
import Derived.Test.YtibimdhmfchcoaaC4
namespace Go.Proofs.Ytibimdhmfchcoaa
open Go.RowKit Go.Shelf Go.Maps
set_option linter.unusedVariables false
set_option linter.unusedSimpArgs false
structure Pb (pb lo : Nat) (x : Int) (bv ov : Value) (wr : World) : Prop where
  lp : pb < lo
  p0 : wr.cell? ⟨pb, 0, none⟩ = some (.int .i64 x)
  p1 : wr.cell? ⟨pb, 1, none⟩ = some bv
  p2 : wr.cell? ⟨pb, 2, none⟩ = some ov
  fz : ∀ i, wr.frozen? ⟨pb, i, none⟩ = false
section
variable {pb lo : Nat} {x : Int} {bv ov : Value} {wr w' : World}
theorem Pb.low (h : Pb pb lo x bv ov wr) (hb : Below lo wr w') : Pb pb lo x bv ov w' := by
  have h1 := h.lp
  have cl : ∀ {j : Nat} {v : Value}, wr.cell? ⟨pb, j, none⟩ = some v → w'.cell? ⟨pb, j, none⟩ = some v := fun h => (hb.cell (p := ⟨_, _, none⟩) h1).trans h
  exact ⟨h1, cl h.p0, cl h.p1, cl h.p2, fun i => (hb.frozen (p := ⟨_, _, none⟩) h1).trans (h.fz i)⟩
theorem Pb.set1 (h : Pb pb lo x bv ov wr) (bv' : Value) : Pb pb lo x bv' ov (wr.setCell ⟨pb, 1, none⟩ bv') :=
  ⟨h.lp, set_keep h.p0 (by decide), cell?_set_own h.p1, set_keep h.p2 (by decide), fun i => by rw [set_frozen]; exact h.fz i⟩
theorem Pb.set2 (h : Pb pb lo x bv ov wr) (ov' : Value) : Pb pb lo x bv ov' (wr.setCell ⟨pb, 2, none⟩ ov') :=
  ⟨h.lp, set_keep h.p0 (by decide), set_keep h.p1 (by decide), cell?_set_own h.p2, fun i => by rw [set_frozen]; exact h.fz i⟩
end
def refHold (N : NetV) (f : Int → Int) (h : HoldV) : BlkD :=
  if whoF N h.d then toldR f (N.luts.getD (h.d - fstN N).toNat default).ins (N.luts.getD (h.d - fstN N).toNat default).tab.toNat true h.init
  else if h.d = 0 then ⟨[], 0, true, h.init⟩ else ⟨[f h.d], 2, true, h.init⟩
def refHolds (N : NetV) (f : Int → Int) (j : Nat) : List BlkD := (N.holds.take j).map (refHold N f)
theorem refHolds_succ (N : NetV) (f : Int → Int) (j : Nat) (hj : j < N.holds.length) : refHolds N f (j + 1) = refHolds N f j ++ [refHold N f (N.holds.getD j default)] := by
  unfold refHolds
  rw [take_one N.holds default j hj, List.map_append]; rfl

set_option maxRecDepth 100000 in
set_option maxHeartbeats 8000000 in
theorem refL4 (Q : Exit → Act → World → Prop) (hpan : ∀ c (d : Option Tmp) v a w, Q (.panic c) (a.put d v) w → Q (.panic c) a w) (w0 w : World) (N : NetV) (hN : Hid (NetAt w0 N)) (hins : N.ins ≤ 100) (hins0 : 0 ≤ N.ins) (hhol : N.holds.length ≤ 100) (hluts : N.luts.length ≤ 200) (wb pb lo L h : Nat) (hlut : Hid (∀ l ∈ N.luts, l.ins.length ≤ 4 ∧ l.ins.length ≤ l.c ∧ l.tab.toNat < 65536 ∧ ∀ x ∈ l.ins, 0 ≤ x ∧ x < L)) (f : Int → Int) (hwho : Hid (∀ x, f x = -2 ↔ whoF N x = true)) (hwf : Hid (∀ x, whoF N x = true → fstN N ≤ x)) (hdd : Hid (∀ h ∈ N.holds, 0 ≤ h.d ∧ h.d < fstN N + N.luts.length)) (hLe : Hid (fstN N + N.luts.length = (L : Int))) (hL : L ≤ 500) (ov : Value) (ha la : Option Addr) (hha : Hid (N.ha = ha)) (hla : Hid (N.la = la)) (hh0 : Hid (w0.heap.size = h)) (hne : pb ≠ wb) (hpb : w0.heap.size + 2 ≤ pb) (hst : Hid (∃ bv bs, Rw w0 N wb lo L f w ∧ Pb pb lo N.ins bv ov w ∧ Rows lo bs bv [] ov w ∧ bs.map BlkV.data = refHolds N f 0))
    (s0 s2 s3 s6 s7 s8 s9 s10 s12 s13 s14 s15 s16 s17 s18 s19 s20 s21 s22 s23 s24 s25 s26 s27 s28 s29 s30 s31 s32 s33 s34 s35 s36 s37 s38 s39 s40 s41 s42 s43 s44 s45 s46 s47 s48 s49 s50 s51 s52 s53 s54 s55 s56 s57 s58 s59 s60 s61 s62 s63 s64 s65 s66 s67 s68 s69 s70 s71 s72 s73 s74 s75 s76 s77 s78 s79 s80 s81 s82 s83 s84 s85 s86 s87 s88 s89 s90 s91 s92 s93 s94 s95 s96 s97 s98 s99 s100 s101 s102 s103 s104 s105 s106 s107 s108 s109 s113 s114 s115 s116 s117 s118 s119 s120 s121 s122 s123 s124 s125 s126 s127 s128 s129 s130 s131 s132 s133 s134 s135 s136 s137 s138 s139 s140 s141 s142 s143 s144 s145 s146 s147 s148 s149 s150 s151 s152 s153 s154 s155 s156 s157 s158 s159 s160 s161 s162 s163 s164 s165 s166 s167 s168 s169 s170 s171 s172 s173 s174 s175 s176 s177 s178 s179 s180 s181 s182 s183 s184 s185 s186 s187 s188 s189 s190 s191 s192 s193 s194 s195 s196 s197 s198 s199 s200 s201 s202 s203 s204 s205 s206 s207 s208 s209 s210 s211 s212 s213 s214 s215 s216 s217 s218 s219 s220 s221 s222 s223 s224 s225 s226 s227 s228 s229 s230 s231 s232 s233 s234 s235 s236 s237 s238 s239 s240 s241 s242 s243 s244 s245 s246 s247 s248 : Value)
    (hexit : ∀ (r13 r14 r112 r113 r114 r115 r116 r117 r118 r119 r120 r121 r122 r123 r124 r125 r126 r127 r128 r129 r130 r131 r132 r133 r134 r135 r136 r137 r138 r139 r140 r141 r142 r143 r144 r145 r146 r147 r148 r149 r150 r151 r152 r153 r154 r155 : Value) (w' : World), Hid (∃ bv bs, Rw w0 N wb lo L f w' ∧ Pb pb lo N.ins bv ov w' ∧ Rows lo bs bv [] ov w' ∧ bs.map BlkV.data = refHolds N f N.holds.length) → Q .normal { tmps := #[s0, .pointer (some ⟨h, 0, none⟩), s2, s3, .int .i64 (1 + N.ins + (N.holds.length : Int)), .slice (some ⟨wb, 0, none⟩) L L, s6, s7, s8, s9, s10, .pointer (some ⟨pb, 0, none⟩), s12, r13, r14, s15, s16, s17, s18, s19, s20, s21, s22, s23, s24, s25, s26, s27, s28, s29, s30, s31, s32, s33, s34, s35, s36, s37, s38, s39, s40, s41, s42, s43, s44, s45, s46, s47, s48, s49, s50, s51, s52, s53, s54, s55, s56, s57, s58, s59, s60, s61, s62, s63, s64, s65, s66, s67, s68, s69, s70, s71, s72, s73, s74, s75, s76, s77, s78, s79, s80, s81, s82, s83, s84, s85, s86, s87, s88, s89, s90, s91, s92, s93, s94, s95, s96, s97, s98, s99, s100, s101, s102, s103, s104, s105, s106, s107, s108, s109, .slice ha N.holds.length N.hc, .int .i64 (N.holds.length : Int), r112, r113, r114, r115, r116, r117, r118, r119, r120, r121, r122, r123, r124, r125, r126, r127, r128, r129, r130, r131, r132, r133, r134, r135, r136, r137, r138, r139, r140, r141, r142, r143, r144, r145, r146, r147, r148, r149, r150, r151, r152, r153, r154, r155, s156, s157, s158, s159, s160, s161, s162, s163, s164, s165, s166, s167, s168, s169, s170, s171, s172, s173, s174, s175, s176, s177, s178, s179, s180, s181, s182, s183, s184, s185, s186, s187, s188, s189, s190, s191, s192, s193, s194, s195, s196, s197, s198, s199, s200, s201, s202, s203, s204, s205, s206, s207, s208, s209, s210, s211, s212, s213, s214, s215, s216, s217, s218, s219, s220, s221, s222, s223, s224, s225, s226, s227, s228, s229, s230, s231, s232, s233, s234, s235, s236, s237, s238, s239, s240, s241, s242, s243, s244, s245, s246, s247, s248], defers := [] } w') :
    ((Try.f17.body.bind (loopAt 27)).getD .skip).wp Try.prog (Exit.inBlock 6 Q) { tmps := #[s0, .pointer (some ⟨h, 0, none⟩), s2, s3, .int .i64 (1 + N.ins + (N.holds.length : Int)), .slice (some ⟨wb, 0, none⟩) L L, s6, s7, s8, s9, s10, .pointer (some ⟨pb, 0, none⟩), s12, s13, s14, s15, s16, s17, s18, s19, s20, s21, s22, s23, s24, s25, s26, s27, s28, s29, s30, s31, s32, s33, s34, s35, s36, s37, s38, s39, s40, s41, s42, s43, s44, s45, s46, s47, s48, s49, s50, s51, s52, s53, s54, s55, s56, s57, s58, s59, s60, s61, s62, s63, s64, s65, s66, s67, s68, s69, s70, s71, s72, s73, s74, s75, s76, s77, s78, s79, s80, s81, s82, s83, s84, s85, s86, s87, s88, s89, s90, s91, s92, s93, s94, s95, s96, s97, s98, s99, s100, s101, s102, s103, s104, s105, s106, s107, s108, s109, .slice ha N.holds.length N.hc, .int .i64 (N.holds.length : Int), .int .i64 0, s113, s114, s115, s116, s117, s118, s119, s120, s121, s122, s123, s124, s125, s126, s127, s128, s129, s130, s131, s132, s133, s134, s135, s136, s137, s138, s139, s140, s141, s142, s143, s144, s145, s146, s147, s148, s149, s150, s151, s152, s153, s154, s155, s156, s157, s158, s159, s160, s161, s162, s163, s164, s165, s166, s167, s168, s169, s170, s171, s172, s173, s174, s175, s176, s177, s178, s179, s180, s181, s182, s183, s184, s185, s186, s187, s188, s189, s190, s191, s192, s193, s194, s195, s196, s197, s198, s199, s200, s201, s202, s203, s204, s205, s206, s207, s208, s209, s210, s211, s212, s213, s214, s215, s216, s217, s218, s219, s220, s221, s222, s223, s224, s225, s226, s227, s228, s229, s230, s231, s232, s233, s234, s235, s236, s237, s238, s239, s240, s241, s242, s243, s244, s245, s246, s247, s248], defers := [] } w := by
  conv => arg 2; whnf
  dsimp only
  obtain ⟨i4, hi, hz0, hz1, hz2⟩ := info_parts info43
  go_loopw [112] (fun iv wr => ∃ j : Nat, j ≤ N.holds.length ∧ iv = .int .i64 j ∧ Hid (∃ bv bs, Rw w0 N wb lo L f wr ∧ Pb pb lo N.ins bv ov wr ∧ Rows lo bs bv [] ov wr ∧ bs.map BlkV.data = refHolds N f j)) (fun iv _ => N.holds.length - (intOf iv).toNat)
  case atStart => exact ⟨0, by omega, rfl, hst⟩
  case round =>
    obtain ⟨j, hj, rfl, hh⟩ := hrel
    by_cases hlt : j < N.holds.length
    · obtain ⟨bv, bs, hp, hx, hr, hdt⟩ := hh.out
      obtain ⟨b, off, hLa0, hbb, hcs⟩ := (hN.out.below hp.below (Nat.le_refl _)).holds.at (2 * j) (by omega)
      have d0 := hcs (j * 2) (by omega)
      have d1 := hcs (j * 2 + 1) (by omega)
      simp only [holdCell] at d0 d1
      rw [if_pos (by omega), show j * 2 / 2 = j by omega] at d0
      rw [if_neg (by omega), show (j * 2 + 1) / 2 = j by omega, ← Nat.add_assoc] at d1
      have hxU := hdd.out _ (getD_mem N.holds default hlt)
      have hbs := refHolds_succ N f j hlt
      obtain ⟨hd, hhd⟩ : ∃ z, z = N.holds.getD j default := ⟨_, rfl⟩
      rw [← hhd] at d0 d1 hxU hbs
      obtain ⟨x, xi⟩ := hd
      dsimp only at d0 d1 hxU
      obtain ⟨xn, rfl⟩ : ∃ n : Nat, x = n := ⟨x.toNat, by omega⟩
      have hXL : xn < L := by have := hLe.out; omega
      rw [← hdt] at hbs
      have hbl : bs.length = j := by
        have h := congrArg List.length hdt
        rw [List.length_map, refHolds, List.length_map, List.length_take] at h; omega
      obtain ⟨W2, hW2⟩ : ∃ W2, W2 = (wr.alloc (Obj.cells #[Value.int IntKind.i64 xn, Value.bool xi] 63)).alloc (Obj.cells #[Value.slice none 0 0, Value.int IntKind.i64 0, Value.bool true, Value.bool xi] 43) := ⟨_, rfl⟩
      have hb2 : Below wr.heap.size wr W2 := by rw [hW2]; exact ((Below.refl _ _).alloc (Nat.le_refl _) _).alloc (by simp) _
      have hsz2 : W2.heap.size = wr.heap.size + 2 := by rw [hW2]; simp
      have hlo := hp.lo'
      have hp2 := hp.low (hb2.mono hlo)
      have hx2 := hx.low (hb2.mono hlo)
      have hr2 := hr.below hb2
      have hown := hr.own.lt
      have q0 : W2.cell? ⟨wr.heap.size, 0, none⟩ = some (.int .i64 xn) := by rw [hW2]; simp
      have c0 : W2.cell? ⟨wr.heap.size + 1, 0, none⟩ = some (Value.slice none 0 0) := by rw [hW2]; simp
      have c1 : W2.cell? ⟨wr.heap.size + 1, 1, none⟩ = some (Value.int IntKind.i64 0) := by rw [hW2]; simp
      have c2' : W2.cell? ⟨wr.heap.size + 1, 2, none⟩ = some (Value.bool true) := by rw [hW2]; simp
      have c3 : W2.cell? ⟨wr.heap.size + 1, 3, none⟩ = some (Value.bool xi) := by rw [hW2]; simp
      have fz : ∀ i, W2.frozen? ⟨wr.heap.size + 1, i, none⟩ = false := by intro i; rw [hW2]; simp
      obtain ⟨gb, hgb⟩ : ∃ b, b = whoF N xn := ⟨_, rfl⟩
      have hwx := hp.ws xn hXL
      have hwbl : wb < wr.heap.size := by have := hp.lw; omega
      obtain ⟨fx, hfx⟩ : ∃ z, z = f xn := ⟨_, rfl⟩
      rw [← hfx] at hwx
      have hgf : (fx == -2) = gb := by
        have h := hwho.out xn
        rw [← hfx, ← hgb] at h
        cases gb
        · have : ¬ fx = -2 := fun e => by have := h.1 e; cases this
          simpa using this
        · have : fx = -2 := h.2 rfl
          simpa using this
      have HX : Hid (Rw w0 N wb lo L f W2 ∧ Pb pb lo N.ins bv ov W2 ∧ Rows lo bs bv [] ov W2) := Lib.hid ⟨hp2, hx2, hr2⟩
      have HW : Hid (∀ W, Below wr.heap.size wr W → Rw w0 N wb lo L f W ∧ Pb pb lo N.ins bv ov W ∧ Rows lo bs bv [] ov W) := Lib.hid (fun W hW => ⟨hp.low (hW.mono hlo), hx.low (hW.mono hlo), hr.below hW⟩)
      have HB2 := Lib.hid hb2
      have HOv := Lib.hid hr.oown.lt
      have HW2 := Lib.hid hW2
      have HOwn := Lib.hid hown
      have HBs := Lib.hid hbs
      have HGb := Lib.hid hgb
      have HBl := Lib.hid hbl
      have HFz := Lib.hid fz
      have HFx := Lib.hid hfx
      have HxU := Lib.hid hxU
      have hlp := hx.lp
      have p1 := hx.p1
      have hpbl : pb < wr.heap.size := by omega
      have hlw := hp.lw
      have hltw := hp.ltw
      have HSz := Lib.hid hsz2
      clear hsz2 hW2 hp hx hr hp2 hx2 hr2 hcs hhd hb2 hown hbs hgb hdt hbl fz hh hfx hxU
      rw [hha.out] at hLa0
      subst hLa0
      cases gb
      · by_cases hx0 : xn = 0
        · subst hx0
          have HD : Hid ((⟨none, 0, [], 0, true, xi⟩ : BlkV).data = refHold N f ⟨((0 : Nat) : Int), xi⟩) := Lib.hid (by unfold refHold; dsimp only; rw [← HGb.out]; rfl)
          have HB : Hid (Rw w0 N wb lo L f W2 ∧ Pb pb lo N.ins bv ov W2 ∧ Rows lo bs bv [] ov W2 ∧ InAt lo bv ov W2 ⟨none, 0, [], 0, true, xi⟩) := Lib.hid ⟨HX.out.1, HX.out.2.1, HX.out.2.2, .inl rfl⟩
          have HC := Lib.hid (And.intro (And.intro c0 c1) (And.intro c2' c3))
          clear c0 c1 c2' c3
          rw [HW2.out] at q0
          have hz0 : W2 = (wr.alloc (Obj.cells #[Value.int IntKind.i64 0, Value.bool xi] 63)).alloc (Obj.cells #[Value.slice none 0 0, Value.int IntKind.i64 0, Value.bool true, Value.bool xi] 43) := HW2.out
          have HZ0 := Lib.hid hz0
          clear hz0
          obtain ⟨W5, rfl⟩ : ∃ W, W = W2 := ⟨_, rfl⟩
          have hn4 := cell_new4 W5 (Value.slice none 0 0) (Value.int IntKind.i64 0) (Value.bool true) (Value.bool xi) 43
          have hs5 : W5.heap.size = wr.heap.size + 1 + 1 := HSz.out
          rw [hs5] at hn4
          have hbl9 : bs.length ≤ 100 := by rw [HBl.out]; omega
          have hlo5 := HB.out.1.lo'
          go_wp2_with (at_builtin; rw [← HZ0.out]; refine wpList_append_lies _ rfl _ _ _ rfl lo 43 i4 (.agg #[.slice none 0 0, .int .i64 0, .bool false, .bool false]) 4 40 Try.underlying29 hi hz0 hz1 hz2 rfl (by decide) bv bs.length (bs.flatMap BlkV.cells) rfl (HB.out.2.2.1.own.alloc _) ⟨wr.heap.size + 1 + 1, 0, none⟩ 1 1 [Value.slice none 0 0, Value.int IntKind.i64 0, Value.bool true, Value.bool xi] rfl rfl (four_new hn4.1 hn4.2.1 hn4.2.2.1 hn4.2.2.2) (by simp [Value.oneCell']) (by omega) (by unfold maxLen; omega) (by omega) (by simp; omega) (W5.heap.size + 1) (by simp) ?_)
          intro gB cB w9 hoB9 hg9 hat9 hlt9
          have hgr9 : W5.grownBy w9 bv.ownBlock := ggrown (World.grownBy_alloc _ _ _) hg9
          have hb9 : Below lo W5 w9 := (Below.refl _ _).grown hgr9 hlo5 (fun k e => (HOwn.out k e).1)
          have hx9 := HB.out.2.1.low hb9
          have y1 := hx9.p1
          have yf := hx9.fz 1
          have HP9 := Lib.hid hx9
          have HB9 := Lib.hid hb9
          clear hx9 hb9
          go_wp2
          go_roundw
          case rel =>
            refine ⟨j + 1, by omega, by go_num, Lib.hid ⟨.slice (some ⟨gB, 0, none⟩) (bs.length + 1) cB, bs ++ [⟨none, 0, [], 0, true, xi⟩], ?_, ?_, ?_, ?_⟩⟩
            · exact (HB.out.1.low HB9.out).side (grownBy_set _ pb 1 _) (by omega) (fun e => hne e)
            · exact HP9.out.set1 _
            · exact (HB.out.2.2.1.addB (b := ⟨none, 0, [], 0, true, xi⟩) HB.out.2.2.2 hgr9 rfl hat9 (by omega) hlt9 hoB9).grown (grownBy_set _ pb 1 _) (fun k e => by injection e with e; omega)
            · rw [List.map_append, HBs.out, ← HD.out]; rfl
          case measure => simp [intOf]; omega
        · have hxb : ((xn : Int) != 0) = true := by simpa using hx0
          have HD : Hid ((⟨some ⟨wr.heap.size + 1 + 1, 0, none⟩, 1, [fx], 2, true, xi⟩ : BlkV).data = refHold N f ⟨xn, xi⟩) := Lib.hid (by unfold refHold; dsimp only; rw [← HGb.out, if_neg (by simp), if_neg (by omega), ← HFx.out])
          have HC := Lib.hid (And.intro (And.intro c0 c1) (And.intro c2' c3))
          clear c0 c1 c2' c3
          rw [HW2.out] at q0
          obtain ⟨x1, hx1⟩ : ∃ W, W = (wr.alloc (Obj.cells #[Value.int IntKind.i64 xn, Value.bool xi] 63)).alloc (Obj.cells #[Value.slice (some ⟨wr.heap.size + 1 + 1, 0, none⟩) 1 1, Value.int IntKind.i64 2, Value.bool true, Value.bool xi] 43) := ⟨_, rfl⟩
          obtain ⟨w9, hw9⟩ : ∃ W, W = x1.alloc (Obj.cells #[Value.int IntKind.i64 fx] 3) := ⟨_, rfl⟩
          have hx1s : x1.heap.size = wr.heap.size + 1 + 1 := by rw [hx1]; simp
          have hB8 : Below wr.heap.size wr x1 := by rw [hx1]; exact ((Below.refl _ _).alloc (Nat.le_refl _) _).alloc (by simp) _
          have hB9 : Below wr.heap.size wr w9 := by rw [hw9]; exact hB8.alloc (by omega) _
          have c0 : x1.cell? ⟨wr.heap.size + 1, 0, none⟩ = some (Value.slice (some ⟨wr.heap.size + 1 + 1, 0, none⟩) 1 1) := by rw [hx1]; simp
          have c1 : x1.cell? ⟨wr.heap.size + 1, 1, none⟩ = some (Value.int IntKind.i64 2) := by rw [hx1]; simp
          have c2' : x1.cell? ⟨wr.heap.size + 1, 2, none⟩ = some (Value.bool true) := by rw [hx1]; simp
          have c3 : x1.cell? ⟨wr.heap.size + 1, 3, none⟩ = some (Value.bool xi) := by rw [hx1]; simp
          have k7 : w9.cell? ⟨wr.heap.size + 1 + 1, 0, none⟩ = some (.int .i64 fx) := by rw [hw9, ← hx1s]; exact cell_newW x1 _ _
          have hs9 : w9.heap.size = wr.heap.size + 1 + 1 + 1 := by rw [hw9]; simp [hx1s]
          have HB : Hid (Rw w0 N wb lo L f w9 ∧ Pb pb lo N.ins bv ov w9 ∧ Rows lo bs bv [] ov w9 ∧ InAt lo bv ov w9 ⟨some ⟨wr.heap.size + 1 + 1, 0, none⟩, 1, [fx], 2, true, xi⟩) := by
            have hsz := HSz.out
            obtain ⟨k1, k2, k3⟩ := HW.out _ hB9
            refine Lib.hid ⟨k1, k2, k3, .inr ⟨wr.heap.size + 1 + 1, 0, rfl, by omega, by omega, fun e => by have := HOwn.out _ e; omega, fun e => by have := HOv.out _ e; omega, fun i hi => ?_⟩⟩
            obtain rfl : i = 0 := by simp at hi; exact hi
            exact k7
          rw [hx1] at hw9
          have HW9 := Lib.hid hw9
          clear k7 hB9 hB8 hw9 hx1s c0 c1 c2' c3 hx1
          obtain ⟨W5, rfl⟩ : ∃ W, W = w9 := ⟨_, rfl⟩
          clear p1
          have p1 := HB.out.2.1.p1
          rw [HW9.out] at p1
          have hn4 := cell_new4 W5 (Value.slice (some ⟨wr.heap.size + 1 + 1, 0, none⟩) 1 1) (Value.int IntKind.i64 2) (Value.bool true) (Value.bool xi) 43
          rw [hs9] at hn4
          have hbl9 : bs.length ≤ 100 := by rw [HBl.out]; omega
          have hlo5 := HB.out.1.lo'
          go_wp2_with (at_builtin; rw [← HW9.out]; refine wpList_append_lies _ rfl _ _ _ rfl lo 43 i4 (.agg #[.slice none 0 0, .int .i64 0, .bool false, .bool false]) 4 40 Try.underlying29 hi hz0 hz1 hz2 rfl (by decide) bv bs.length (bs.flatMap BlkV.cells) rfl (HB.out.2.2.1.own.alloc _) ⟨wr.heap.size + 1 + 1 + 1, 0, none⟩ 1 1 [Value.slice (some ⟨wr.heap.size + 1 + 1, 0, none⟩) 1 1, Value.int IntKind.i64 2, Value.bool true, Value.bool xi] rfl rfl (four_new hn4.1 hn4.2.1 hn4.2.2.1 hn4.2.2.2) (by simp [Value.oneCell']) (by omega) (by unfold maxLen; omega) (by omega) (by simp; omega) (W5.heap.size + 1) (by simp) ?_)
          intro gB cB w9 hoB9 hg9 hat9 hlt9
          have hgr9 : W5.grownBy w9 bv.ownBlock := ggrown (World.grownBy_alloc _ _ _) hg9
          have hb9 : Below lo W5 w9 := (Below.refl _ _).grown hgr9 hlo5 (fun k e => (HOwn.out k e).1)
          have hx9 := HB.out.2.1.low hb9
          have y1 := hx9.p1
          have yf := hx9.fz 1
          have HP9 := Lib.hid hx9
          have HB9 := Lib.hid hb9
          clear hx9 hb9
          go_wp2
          go_roundw
          case rel =>
            refine ⟨j + 1, by omega, by go_num, Lib.hid ⟨.slice (some ⟨gB, 0, none⟩) (bs.length + 1) cB, bs ++ [⟨some ⟨wr.heap.size + 1 + 1, 0, none⟩, 1, [fx], 2, true, xi⟩], ?_, ?_, ?_, ?_⟩⟩
            · exact (HB.out.1.low HB9.out).side (grownBy_set _ pb 1 _) (by omega) (fun e => hne e)
            · exact HP9.out.set1 _
            · exact (HB.out.2.2.1.addB (b := ⟨some ⟨wr.heap.size + 1 + 1, 0, none⟩, 1, [fx], 2, true, xi⟩) HB.out.2.2.2 hgr9 rfl hat9 (by omega) hlt9 hoB9).grown (grownBy_set _ pb 1 _) (fun k e => by injection e with e; omega)
            · rw [List.map_append, HBs.out, ← HD.out]; rfl
          case measure => simp [intOf]; omega
      · have hgx := hwf.out xn HGb.out.symm
        obtain ⟨k, hk⟩ : ∃ k : Nat, (xn : Int) = 1 + N.ins + (N.holds.length : Int) + k := ⟨((xn : Int) - fstN N).toNat, by unfold fstN at hgx ⊢; omega⟩
        have hkl : k < N.luts.length := by have := HxU.out; unfold fstN at this; omega
        obtain ⟨b3, off3, hLa3, hbb3, hcs3⟩ := (hN.out.below HX.out.1.below (Nat.le_refl _)).luts.at (2 * k) (by omega)
        have e0 := hcs3 (k * 2) (by omega)
        have e1 := hcs3 (k * 2 + 1) (by omega)
        simp only [lutCell] at e0 e1
        rw [if_pos (by omega), show k * 2 / 2 = k by omega] at e0
        rw [if_neg (by omega), show (k * 2 + 1) / 2 = k by omega, ← Nat.add_assoc] at e1
        have hLm := getD_mem N.luts default hkl
        have hea := (hN.out.below HX.out.1.below (Nat.le_refl _)).each _ hLm
        have hL4 := hlut.out _ hLm
        have HBlk : Hid (refHold N f ⟨xn, xi⟩ = toldR f (N.luts.getD k default).ins (N.luts.getD k default).tab.toNat true xi) := Lib.hid (by unfold refHold; dsimp only; rw [← HGb.out, if_pos rfl, show ((xn : Int) - fstN N).toNat = k by unfold fstN; omega])
        obtain ⟨LL, hLL⟩ : ∃ LL, LL = N.luts.getD k default := ⟨_, rfl⟩
        rw [← hLL] at e0 e1 hea hL4 HBlk
        obtain ⟨La, Lc, Li, Lt⟩ := LL
        dsimp only at e0 e1 hea hL4 HBlk
        have n2 := HX.out.1.n2
        rw [hh0.out, hla.out] at n2
        rw [hla.out] at hLa3
        subst hLa3
        have HT : Hid (∀ q, (∀ i, i < L → (W2.drewN q).cell? ⟨wb, i, none⟩ = some (.int .i64 (f i))) ∧ Seq (W2.drewN q) La Li.length (ints Li)) := Lib.hid (fun q => ⟨fun i hi => HX.out.1.ws i hi, hea.1.below (belowN (Below.refl _ _)) (Nat.le_refl _)⟩)
        have HL : Hid (U64 Lt ∧ Lt.toNat < 65536 ∧ (∀ x ∈ Li, I64 x) ∧ Li.length ≤ 4 ∧ Li.length ≤ Lc ∧ ∀ x ∈ Li, 0 ≤ x ∧ x < L) := Lib.hid ⟨hea.2.1, hL4.2.2.1, hea.2.2.1, hL4.1, hL4.2.1, hL4.2.2.2⟩
        have HSub : Hid (IntKind.i64.wrap ((xn : Int) - (1 + N.ins + (N.holds.length : Int))) = k) := Lib.hid (by rw [show (xn : Int) - (1 + N.ins + (N.holds.length : Int)) = (k : Int) by omega]; exact Lib.wrap_i64_small k (by omega))
        have HK := Lib.hid hk
        have HC := Lib.hid (And.intro (And.intro c0 c1) (And.intro c2' c3))
        have HQ := Lib.hid q0
        clear hea hL4 hLm hLL hcs3 hk hgx c0 c1 c2' c3
        rw [HW2.out] at q0
        go_wp2_with fail
        rw [← HW2.out]
        clear q0
        obtain ⟨⟨c0, c1⟩, c2', c3⟩ := HC.out
        have q0 := HQ.out
        refine wp_region_K (S := fun w' => w'.cell? ⟨wr.heap.size, 0, none⟩ = some (.int .i64 xn) ∧ w'.cell? ⟨wr.heap.size + 1, 0, none⟩ = some (Value.slice none 0 0) ∧ w'.cell? ⟨wr.heap.size + 1, 1, none⟩ = some (Value.int IntKind.i64 0) ∧ w'.cell? ⟨wr.heap.size + 1, 2, none⟩ = some (Value.bool true) ∧ w'.cell? ⟨wr.heap.size + 1, 3, none⟩ = some (Value.bool xi) ∧ w'.cell? ⟨h, 2, none⟩ = some (.slice (some ⟨b3, off3, none⟩) N.luts.length N.lc) ∧ w'.cell? ⟨b3, off3 + k * 2, none⟩ = some (.slice La Li.length Lc) ∧ w'.cell? ⟨b3, off3 + k * 2 + 1, none⟩ = some (.int .u64 Lt)) 11 (by kernel_rfl) (⟨q0, c0, c1, c2', c3, n2, e0, e1⟩) (fun hHeld => ?_)
        refine wpAnyK_take (i := 0) (v := ?_) (by simp only [List.getElem?_toArray, List.getElem?_cons_succ, List.getElem?_cons_zero]; rfl) (by kernel_rfl) (by kernel_rfl) (by kernel_rfl) (by kernel_rfl) (by intro _ _ _ h; exact hpan _ _ _ _ _ h) (Or.inl ⟨by rfl, ?_⟩) (by assumption) ?_
        rotate_left
        · intro w hSw; (try dsimp only at hSw); go_simp; try with_reducible rfl
        try simp only [Act.put, List.setIfInBounds_toArray, List.set_cons_zero, List.set_cons_succ]
        refine wpAnyK_take (i := 1) (v := ?_) (by simp only [List.getElem?_toArray, List.getElem?_cons_succ, List.getElem?_cons_zero]; rfl) (by kernel_rfl) (by kernel_rfl) (by kernel_rfl) (by kernel_rfl) (by intro _ _ _ h; exact hpan _ _ _ _ _ h) (Or.inl ⟨by rfl, ?_⟩) (by assumption) ?_
        rotate_left
        · intro w hSw; (try dsimp only at hSw); go_simp; try with_reducible rfl
        try simp only [Act.put, List.setIfInBounds_toArray, List.set_cons_zero, List.set_cons_succ]
        refine wpAnyK_take (i := 2) (v := ?_) (by simp only [List.getElem?_toArray, List.getElem?_cons_succ, List.getElem?_cons_zero]; rfl) (by kernel_rfl) (by kernel_rfl) (by kernel_rfl) (by kernel_rfl) (by intro _ _ _ h; exact hpan _ _ _ _ _ h) (Or.inl ⟨by rfl, ?_⟩) (by assumption) ?_
        rotate_left
        · intro w hSw; (try dsimp only at hSw); go_simp; try with_reducible rfl
        try simp only [Act.put, List.setIfInBounds_toArray, List.set_cons_zero, List.set_cons_succ]
        refine wpAnyK_take (i := 3) (v := ?_) (by simp only [List.getElem?_toArray, List.getElem?_cons_succ, List.getElem?_cons_zero]; rfl) (by kernel_rfl) (by kernel_rfl) (by kernel_rfl) (by kernel_rfl) (by intro _ _ _ h; exact hpan _ _ _ _ _ h) (Or.inl ⟨by rfl, ?_⟩) (by assumption) ?_
        rotate_left
        · intro w hSw; (try dsimp only at hSw); go_simp; try with_reducible rfl
        try simp only [Act.put, List.setIfInBounds_toArray, List.set_cons_zero, List.set_cons_succ]
        refine wpAnyK_take (i := 4) (v := ?_) (by simp only [List.getElem?_toArray, List.getElem?_cons_succ, List.getElem?_cons_zero]; rfl) (by kernel_rfl) (by kernel_rfl) (by kernel_rfl) (by kernel_rfl) (by intro _ _ _ h; exact hpan _ _ _ _ _ h) (Or.inl ⟨by rfl, ?_⟩) (by assumption) ?_
        rotate_left
        · intro w hSw; (try dsimp only at hSw); go_simp; try with_reducible rfl
        try simp only [Act.put, List.setIfInBounds_toArray, List.set_cons_zero, List.set_cons_succ]
        refine wpAnyK_take (i := 5) (v := ?_) (by simp only [List.getElem?_toArray, List.getElem?_cons_succ, List.getElem?_cons_zero]; rfl) (by kernel_rfl) (by kernel_rfl) (by kernel_rfl) (by kernel_rfl) (by intro _ _ _ h; exact hpan _ _ _ _ _ h) (Or.inl ⟨by rfl, ?_⟩) (by assumption) ?_
        rotate_left
        · intro w hSw; (try dsimp only at hSw); go_simp; rw [HSub.out]
        try simp only [Act.put, List.setIfInBounds_toArray, List.set_cons_zero, List.set_cons_succ]
        refine wpAnyK_take (i := 6) (v := ?_) (by simp only [List.getElem?_toArray, List.getElem?_cons_succ, List.getElem?_cons_zero]; rfl) (by kernel_rfl) (by kernel_rfl) (by kernel_rfl) (by kernel_rfl) (by intro _ _ _ h; exact hpan _ _ _ _ _ h) (Or.inl ⟨by rfl, ?_⟩) (by assumption) ?_
        rotate_left
        · intro w hSw; (try dsimp only at hSw); go_simp; first | with_reducible rfl | rw [if_pos (by omega)]
        try simp only [Act.put, List.setIfInBounds_toArray, List.set_cons_zero, List.set_cons_succ]
        refine wpAnyK_take (i := 7) (v := ?_) (by simp only [List.getElem?_toArray, List.getElem?_cons_succ, List.getElem?_cons_zero]; rfl) (by kernel_rfl) (by kernel_rfl) (by kernel_rfl) (by kernel_rfl) (by intro _ _ _ h; exact hpan _ _ _ _ _ h) (Or.inl ⟨by rfl, ?_⟩) (by assumption) ?_
        rotate_left
        · intro w hSw; (try dsimp only at hSw); go_simp; try with_reducible rfl
        try simp only [Act.put, List.setIfInBounds_toArray, List.set_cons_zero, List.set_cons_succ]
        refine wpAnyK_take (i := 8) (v := ?_) (by simp only [List.getElem?_toArray, List.getElem?_cons_succ, List.getElem?_cons_zero]; rfl) (by kernel_rfl) (by kernel_rfl) (by kernel_rfl) (by kernel_rfl) (by intro _ _ _ h; exact hpan _ _ _ _ _ h) (Or.inl ⟨by rfl, ?_⟩) (by assumption) ?_
        rotate_left
        · intro w hSw; (try dsimp only at hSw); go_simp; try with_reducible rfl
        try simp only [Act.put, List.setIfInBounds_toArray, List.set_cons_zero, List.set_cons_succ]
        refine wpAnyK_take (i := 9) (v := ?_) (by simp only [List.getElem?_toArray, List.getElem?_cons_succ, List.getElem?_cons_zero]; rfl) (by kernel_rfl) (by kernel_rfl) (by kernel_rfl) (by kernel_rfl) (by intro _ _ _ h; exact hpan _ _ _ _ _ h) (Or.inl ⟨by rfl, ?_⟩) (by assumption) ?_
        rotate_left
        · intro w hSw; (try dsimp only at hSw); go_simp; try with_reducible rfl
        try simp only [Act.put, List.setIfInBounds_toArray, List.set_cons_zero, List.set_cons_succ]
        refine wpAnyK_ready (rs := [10]) (by kernel_rfl) (by simp) ?_
        refine AllReadyK.cons (o := _) (by simp only [List.getElem?_toArray, List.getElem?_cons_succ, List.getElem?_cons_zero]; rfl) (fun K hK => ?_) AllReadyK.nil
        go_simp
        go_at_call 42
        refine (told42 _ La Lc Li Lt HL.out.1 HL.out.2.1 HL.out.2.2.1 (HT.out _).2 HL.out.2.2.2.1 HL.out.2.2.2.2.1 wb L L f hL (HT.out _).1 HL.out.2.2.2.2.2 true xi).mono ?_
        rintro e w7 ⟨B, hBd, rfl, hbo, hb7⟩
        obtain ⟨ba, bc, bi, bt, bf, bn⟩ := B
        have hB7' : Below W2.heap.size W2 w7 := (belowN (Below.refl _ _)).trans hb7
        have c7 : ∀ {b i : Nat} {v : Value}, W2.cell? ⟨b, i, none⟩ = some v → w7.cell? ⟨b, i, none⟩ = some v := fun h => (hB7'.cell (p := ⟨_, _, none⟩) (World.block_lt_of_cell? W2 _ h)).trans h
        have a0 := c7 c0
        have a1 := c7 c1
        have a2 := c7 c2'
        have a3 := c7 c3
        have fz7 : ∀ i, w7.frozen? ⟨wr.heap.size + 1, i, none⟩ = false := fun i => (hB7'.frozen (p := ⟨_, _, none⟩) (by have := HSz.out; simp only; omega)).trans (HFz.out i)
        have HBo := Lib.hid hbo
        have HBd := Lib.hid hBd
        have f0 := fz7 0
        have f1 := fz7 1
        have f2 := fz7 2
        have f3 := fz7 3
        clear hbo hBd
        go_simp
        refine hK.out _ _ (fun _ => by exact ⟨c7 q0, a0, a1, a2, a3, c7 n2, c7 e0, c7 e1⟩) (fun hH => ?_)
        have hHeld := hH (by decide)
        clear hK K hH
        try simp only [Act.put, List.setIfInBounds_toArray, List.set_cons_zero, List.set_cons_succ]
        refine wpAnyK_ready (rs := [11]) (by kernel_rfl) (by simp) ?_
        refine AllReadyK.cons (o := _) (by simp only [List.getElem?_toArray, List.getElem?_cons_succ, List.getElem?_cons_zero]; rfl) (fun K hK => ?_) AllReadyK.nil
        go_simp

        refine hK.out _ _ (fun h => absurd rfl h) (fun _ => ?_)
        clear hK K
        try simp only [Act.put, List.setIfInBounds_toArray, List.set_cons_zero, List.set_cons_succ]
        refine wpAnyK_done (by kernel_rfl) ?_ _
        generalize hw9 : (((w7.setCell ⟨wr.heap.size + 1, 0, none⟩ (Value.slice ba bi.length bc)).setCell ⟨wr.heap.size + 1, 1, none⟩ (Value.int IntKind.i64 bt)).setCell ⟨wr.heap.size + 1, 2, none⟩ (Value.bool bf)).setCell ⟨wr.heap.size + 1, 3, none⟩ (Value.bool bn) = w9
        have hG : w7.grownBy w9 (some (wr.heap.size + 1)) := by rw [← hw9]; exact ggrown (ggrown (ggrown (grownBy_set _ _ _ _) (grownBy_set _ _ _ _)) (grownBy_set _ _ _ _)) (grownBy_set _ _ _ _)
        have j0 : w9.cell? ⟨wr.heap.size + 1, 0, none⟩ = some (Value.slice ba bi.length bc) := by rw [← hw9]; exact set_keep (set_keep (set_keep (cell?_set_own a0) (by decide)) (by decide)) (by decide)
        have j1 : w9.cell? ⟨wr.heap.size + 1, 1, none⟩ = some (Value.int IntKind.i64 bt) := by rw [← hw9]; exact set_keep (set_keep (cell?_set_own (set_keep a1 (by decide))) (by decide)) (by decide)
        have j2 : w9.cell? ⟨wr.heap.size + 1, 2, none⟩ = some (Value.bool bf) := by rw [← hw9]; exact set_keep (cell?_set_own (set_keep (set_keep a2 (by decide)) (by decide))) (by decide)
        have j3 : w9.cell? ⟨wr.heap.size + 1, 3, none⟩ = some (Value.bool bn) := by rw [← hw9]; exact cell?_set_own (set_keep (set_keep (set_keep a3 (by decide)) (by decide)) (by decide))
        clear hw9
        have HD : Hid ((⟨ba, bc, bi, bt, bf, bn⟩ : BlkV).data = refHold N f ⟨xn, xi⟩) := Lib.hid (by rw [HBlk.out]; exact HBd.out)
        have hB7s := hB7'.size
        have HB : Hid (Rw w0 N wb lo L f w9 ∧ Pb pb lo N.ins bv ov w9 ∧ Rows lo bs bv [] ov w9 ∧ InAt lo bv ov w9 ⟨ba, bc, bi, bt, bf, bn⟩) := by
          have hsz := HSz.out
          have hB9 := (HB2.out.trans (hB7'.mono (by omega))).grown hG (by omega) (fun k e => by injection e with e; omega)
          obtain ⟨k1, k2, k3⟩ := HW.out _ hB9
          refine Lib.hid ⟨k1, k2, k3, ?_⟩
          rcases Nat.eq_zero_or_pos bi.length with h0 | h0
          · exact .inl h0
          · obtain ⟨gg, cap, hv, hg1, hg2, _, hcc⟩ := owns_shape HBo.out h0
            injection hv with hv1 hv2 hv3
            have hg1 : W2.heap.size ≤ gg := hg1
            exact .inr ⟨gg, 0, hv1, by omega, by have := hG.size; omega, fun e => by have := HOwn.out _ e; omega, fun e => by have := HOv.out _ e; omega, fun i hi => (World.cell?_of_block (a := ⟨_, _, none⟩) (hG.block _ (by simp only; omega) (by intro e; injection e with e; simp only at e; omega))).trans (by rw [Nat.zero_add]; exact hcc i hi)⟩
        have hs9 : W2.heap.size ≤ w9.heap.size := by have := hG.size; omega
        have c0 := j0
        have c1 := j1
        have c2' := j2
        have c3 := j3
        clear j0 j1 j2 j3 a0 a1 a2 a3 f0 f1 f2 f3 c7 hG hB7' fz7 q0 e0 e1 n2 p1
        have p1 := HB.out.2.1.p1
        obtain ⟨W5, rfl⟩ : ∃ W, W = w9 := ⟨_, rfl⟩
        have hn4 := cell_new4 W5 (Value.slice ba bi.length bc) (Value.int IntKind.i64 bt) (Value.bool bf) (Value.bool bn) 43
        have hbl9 : bs.length ≤ 100 := by rw [HBl.out]; omega
        have hlo5 := HB.out.1.lo'
        go_wp2_with (at_builtin; refine wpList_append_lies _ rfl _ _ _ rfl lo 43 i4 (.agg #[.slice none 0 0, .int .i64 0, .bool false, .bool false]) 4 40 Try.underlying29 hi hz0 hz1 hz2 rfl (by decide) bv bs.length (bs.flatMap BlkV.cells) rfl (HB.out.2.2.1.own.alloc _) ⟨W5.heap.size, 0, none⟩ 1 1 [Value.slice ba bi.length bc, Value.int IntKind.i64 bt, Value.bool bf, Value.bool bn] rfl rfl (four_new hn4.1 hn4.2.1 hn4.2.2.1 hn4.2.2.2) (by simp [Value.oneCell']) (by omega) (by unfold maxLen; omega) (by omega) (by simp; omega) (W5.heap.size + 1) (by simp) ?_)
        intro gB cB w9 hoB9 hg9 hat9 hlt9
        have hgr9 : W5.grownBy w9 bv.ownBlock := ggrown (World.grownBy_alloc _ _ _) hg9
        have hb9 : Below lo W5 w9 := (Below.refl _ _).grown hgr9 hlo5 (fun k e => (HOwn.out k e).1)
        have hx9 := HB.out.2.1.low hb9
        have y1 := hx9.p1
        have yf := hx9.fz 1
        have HP9 := Lib.hid hx9
        have HB9 := Lib.hid hb9
        clear hx9 hb9
        go_wp2
        go_roundw
        case rel =>
          refine ⟨j + 1, by omega, by go_num, Lib.hid ⟨.slice (some ⟨gB, 0, none⟩) (bs.length + 1) cB, bs ++ [⟨ba, bc, bi, bt, bf, bn⟩], ?_, ?_, ?_, ?_⟩⟩
          · exact (HB.out.1.low HB9.out).side (grownBy_set _ pb 1 _) (by omega) (fun e => hne e)
          · exact HP9.out.set1 _
          · exact (HB.out.2.2.1.addB (b := ⟨ba, bc, bi, bt, bf, bn⟩) HB.out.2.2.2 hgr9 rfl hat9 (by omega) hlt9 hoB9).grown (grownBy_set _ pb 1 _) (fun k e => by injection e with e; omega)
          · rw [List.map_append, HBs.out, ← HD.out]; rfl
        case measure => simp [intOf]; omega
    · obtain rfl : j = N.holds.length := by omega
      go_wp2
      exact hh
end Go.Proofs.Ytibimdhmfchcoaa

