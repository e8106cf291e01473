import Derived.Test.YtibimdhmfchcoaaR3
namespace Go.Proofs.Ytibimdhmfchcoaa
open Go.RowKit Go.Shelf Go.Maps
set_option linter.unusedVariables false
set_option linter.unusedSimpArgs false
def outR (f : Int → Int) (k : Int) : Int → Int := fun x => if x = 0 then k - 1 else f x

set_option maxRecDepth 100000 in
set_option maxHeartbeats 8000000 in
theorem refL6 (Q : Exit → Act → World → Prop) (hpan : ∀ c (d : Option Tmp) v a w, Q (.panic c) (a.put d v) w → Q (.panic c) a w) (w0 w : World) (N : NetV) (hN : Hid (NetAt w0 N)) (hins : N.ins ≤ 100) (hins0 : 0 ≤ N.ins) (houts : N.outs.length ≤ 100) (wb pb lo L h : Nat) (f : Int → Int) (oa : Option Addr) (hoa : Hid (N.oa = oa)) (hh0 : Hid (w0.heap.size = h)) (hne : pb ≠ wb) (hpb : w0.heap.size + 2 ≤ pb) (nx : Int) (base : List BlkD) (hbase : base.length ≤ 300) (hnx : nx = N.ins + base.length) (ov : Value) (hst : Hid (∃ bv bs, Rw w0 N wb lo L f w ∧ Pb pb lo N.ins bv ov w ∧ Rows lo bs bv [] ov w ∧ bs.map BlkV.data = base ++ nones (noneTo N 0)))
    (s0 s2 s3 s4 s5 s6 s7 s8 s10 s12 s13 s14 s15 s16 s17 s18 s19 s20 s21 s22 s23 s24 s25 s26 s27 s28 s29 s30 s31 s32 s33 s34 s35 s36 s37 s38 s39 s40 s41 s42 s43 s44 s45 s46 s47 s48 s49 s50 s51 s52 s53 s54 s55 s56 s57 s58 s59 s60 s61 s62 s63 s64 s65 s66 s67 s68 s69 s70 s71 s72 s73 s74 s75 s76 s77 s78 s79 s80 s81 s82 s83 s84 s85 s86 s87 s88 s89 s90 s91 s92 s93 s94 s95 s96 s97 s98 s99 s100 s101 s102 s103 s104 s105 s106 s107 s108 s109 s110 s111 s112 s113 s114 s115 s116 s117 s118 s119 s120 s121 s122 s123 s124 s125 s126 s127 s128 s129 s130 s131 s132 s133 s134 s135 s136 s137 s138 s139 s140 s141 s142 s143 s144 s145 s146 s147 s148 s149 s150 s151 s152 s153 s154 s155 s156 s157 s158 s159 s160 s161 s162 s163 s164 s165 s166 s167 s168 s169 s170 s171 s172 s173 s174 s175 s176 s177 s178 s179 s180 s181 s185 s186 s187 s188 s189 s190 s191 s192 s193 s194 s195 s196 s197 s198 s199 s200 s201 s202 s203 s204 s205 s206 s207 s208 s209 s210 s211 s212 s213 s214 s215 s216 s217 s218 s219 s220 s221 s222 s223 s224 s225 s226 s227 s228 s229 s230 s231 s232 s233 s234 s235 s236 s237 s238 s239 s240 s241 s242 s243 s244 s245 s246 s247 s248 : Value)
    (hexit : ∀ (r18 r184 r185 r186 r187 r188 r189 r190 r191 r192 r193 r194 r195 r196 r197 r198 r199 r200 r201 r202 r203 r204 r205 r206 : Value) (w' : World), Hid (∃ bv bs, Rw w0 N wb lo L f w' ∧ Pb pb lo N.ins bv ov w' ∧ Rows lo bs bv [] ov w' ∧ bs.map BlkV.data = base ++ nones (noneTo N N.outs.length)) → Q .normal { tmps := #[s0, .pointer (some ⟨h, 0, none⟩), s2, s3, s4, s5, s6, s7, s8, .int .i64 nx, s10, .pointer (some ⟨pb, 0, none⟩), s12, s13, s14, s15, s16, s17, r18, s19, s20, s21, s22, s23, s24, s25, s26, s27, s28, s29, s30, s31, s32, s33, s34, s35, s36, s37, s38, s39, s40, s41, s42, s43, s44, s45, s46, s47, s48, s49, s50, s51, s52, s53, s54, s55, s56, s57, s58, s59, s60, s61, s62, s63, s64, s65, s66, s67, s68, s69, s70, s71, s72, s73, s74, s75, s76, s77, s78, s79, s80, s81, s82, s83, s84, s85, s86, s87, s88, s89, s90, s91, s92, s93, s94, s95, s96, s97, s98, s99, s100, s101, s102, s103, s104, s105, s106, s107, s108, s109, s110, s111, s112, s113, s114, s115, s116, s117, s118, s119, s120, s121, s122, s123, s124, s125, s126, s127, s128, s129, s130, s131, s132, s133, s134, s135, s136, s137, s138, s139, s140, s141, s142, s143, s144, s145, s146, s147, s148, s149, s150, s151, s152, s153, s154, s155, s156, s157, s158, s159, s160, s161, s162, s163, s164, s165, s166, s167, s168, s169, s170, s171, s172, s173, s174, s175, s176, s177, s178, s179, s180, s181, .slice oa N.outs.length N.oc, .int .i64 (N.outs.length : Int), r184, r185, r186, r187, r188, r189, r190, r191, r192, r193, r194, r195, r196, r197, r198, r199, r200, r201, r202, r203, r204, r205, r206, s207, s208, s209, s210, s211, s212, s213, s214, s215, s216, s217, s218, s219, s220, s221, s222, s223, s224, s225, s226, s227, s228, s229, s230, s231, s232, s233, s234, s235, s236, s237, s238, s239, s240, s241, s242, s243, s244, s245, s246, s247, s248], defers := [] } w') :
    ((Try.f17.body.bind (loopAt 44)).getD .skip).wp Try.prog (Exit.inBlock 11 Q) { tmps := #[s0, .pointer (some ⟨h, 0, none⟩), s2, s3, s4, s5, s6, s7, s8, .int .i64 nx, s10, .pointer (some ⟨pb, 0, none⟩), s12, s13, s14, s15, s16, s17, s18, s19, s20, s21, s22, s23, s24, s25, s26, s27, s28, s29, s30, s31, s32, s33, s34, s35, s36, s37, s38, s39, s40, s41, s42, s43, s44, s45, s46, s47, s48, s49, s50, s51, s52, s53, s54, s55, s56, s57, s58, s59, s60, s61, s62, s63, s64, s65, s66, s67, s68, s69, s70, s71, s72, s73, s74, s75, s76, s77, s78, s79, s80, s81, s82, s83, s84, s85, s86, s87, s88, s89, s90, s91, s92, s93, s94, s95, s96, s97, s98, s99, s100, s101, s102, s103, s104, s105, s106, s107, s108, s109, s110, s111, s112, s113, s114, s115, s116, s117, s118, s119, s120, s121, s122, s123, s124, s125, s126, s127, s128, s129, s130, s131, s132, s133, s134, s135, s136, s137, s138, s139, s140, s141, s142, s143, s144, s145, s146, s147, s148, s149, s150, s151, s152, s153, s154, s155, s156, s157, s158, s159, s160, s161, s162, s163, s164, s165, s166, s167, s168, s169, s170, s171, s172, s173, s174, s175, s176, s177, s178, s179, s180, s181, .slice oa N.outs.length N.oc, .int .i64 (N.outs.length : Int), .int .i64 0, s185, s186, s187, s188, s189, s190, s191, s192, s193, s194, s195, s196, s197, s198, s199, s200, s201, s202, s203, s204, s205, s206, s207, s208, s209, s210, s211, s212, s213, s214, s215, s216, s217, s218, s219, s220, s221, s222, s223, s224, s225, s226, s227, s228, s229, s230, s231, s232, s233, s234, s235, s236, s237, s238, s239, s240, s241, s242, s243, s244, s245, s246, s247, s248], defers := [] } w := by
  conv => arg 2; whnf
  dsimp only
  obtain ⟨i4, hi, hz0, hz1, hz2⟩ := info_parts info43
  have HNx := Lib.hid hnx
  clear hnx
  go_loopw [184] (fun iv wr => ∃ j : Nat, j ≤ N.outs.length ∧ iv = .int .i64 j ∧ Hid (∃ bv bs, Rw w0 N wb lo L f wr ∧ Pb pb lo N.ins bv ov wr ∧ Rows lo bs bv [] ov wr ∧ bs.map BlkV.data = base ++ nones (noneTo N j))) (fun iv _ => N.outs.length - (intOf iv).toNat)
  case atStart => exact ⟨0, by omega, rfl, hst⟩
  case round =>
    obtain ⟨j, hj, rfl, hh⟩ := hrel
    by_cases hlt : j < N.outs.length
    · obtain ⟨bv, bs, hp, hx, hr, hdt⟩ := hh.out
      obtain ⟨b3, off3, hOa, hbb3, hcs3⟩ := (hN.out.below hp.below (Nat.le_refl _)).outs.at j hlt
      have e0 := hcs3 j hlt
      unfold ints at e0
      have hnt := noneTo_succ N j hlt
      obtain ⟨x, hxe⟩ : ∃ z, z = N.outs.getD j 0 := ⟨_, rfl⟩
      rw [← hxe] at e0 hnt
      obtain ⟨sn, hsn⟩ : ∃ b, b = noneTo N j := ⟨_, rfl⟩
      rw [← hsn] at hnt hdt
      have hbl : bs.length = base.length + (nones sn).length := by
        have h := congrArg List.length hdt
        rwa [List.length_map, List.length_append] at h
      obtain ⟨ba, bc, rfl⟩ := owns_val hr.own
      have n0 := hp.n0
      rw [hh0.out] at n0
      have p1 := hx.p1
      have hlo := hp.lo'
      have hlp := hx.lp
      have HP := Lib.hid hp
      have HX := Lib.hid hx
      have HR := Lib.hid hr
      have HDt := Lib.hid hdt
      have HNt := Lib.hid hnt
      clear hp hx hr hdt hnt hcs3 hxe hsn hh
      rw [hoa.out] at hOa
      subst hOa
      by_cases hx0 : x = 0
      · subst hx0
        cases sn
        · replace hbl : bs.length = base.length := hbl
          have hg : (nx == N.ins + (bs.length : Int)) = true := by have := HNx.out; simpa using (by omega : nx = N.ins + (bs.length : Int))
          have hbl9 : bs.length ≤ 301 := by omega
          have HBl := Lib.hid hbl
          clear hbl
          go_wp2_with (at_builtin; refine wpList_append_lies _ rfl _ _ _ rfl lo 43 i4 (.agg #[.slice none 0 0, .int .i64 0, .bool false, .bool false]) 4 40 Try.underlying29 hi hz0 hz1 hz2 rfl (by decide) (.slice ba bs.length bc) bs.length (bs.flatMap BlkV.cells) rfl (HR.out.own.alloc _) ⟨wr.heap.size, 0, none⟩ 1 1 [Value.slice none 0 0, Value.int IntKind.i64 0, Value.bool false, Value.bool false] rfl rfl (four_new (cell_new4 wr _ _ _ _ _).1 (cell_new4 wr _ _ _ _ _).2.1 (cell_new4 wr _ _ _ _ _).2.2.1 (cell_new4 wr _ _ _ _ _).2.2.2) (by simp [Value.oneCell']) (by omega) (by unfold maxLen; omega) (by omega) (by simp; omega) (wr.heap.size + 1) (by simp) ?_)
          intro gB cB w9 hoB9 hg9 hat9 hlt9
          have hgr9 : wr.grownBy w9 (Value.slice ba bs.length bc).ownBlock := ggrown (World.grownBy_alloc _ _ _) hg9
          have hb9 : Below lo wr w9 := (Below.refl _ _).grown hgr9 hlo (fun k e => (HR.out.own.lt k e).1)
          have hx9 := HX.out.low hb9
          have y1 := hx9.p1
          have yf := hx9.fz 1
          have HX9 := Lib.hid hx9
          clear hx9
          go_wp2
          go_roundw
          case rel =>
            refine ⟨j + 1, by omega, by go_num, Lib.hid ⟨.slice (some ⟨gB, 0, none⟩) (bs.length + 1) cB, bs ++ [⟨none, 0, [], 0, false, false⟩], ?_, ?_, ?_, ?_⟩⟩
            · exact (HP.out.low hb9).side (grownBy_set _ pb 1 _) (by omega) hne
            · exact HX9.out.set1 _
            · exact (HR.out.addB (b := ⟨none, 0, [], 0, false, false⟩) (.inl rfl) hgr9 rfl hat9 (by omega) hlt9 hoB9).grown (grownBy_set _ pb 1 _) (fun k e => by injection e with e; omega)
            · rw [List.map_append, HDt.out, HNt.out]
              simp [nones, BlkV.data]
          case measure => simp [intOf]; omega
        · replace hbl : bs.length = base.length + 1 := hbl
          have hg : (nx == N.ins + (bs.length : Int)) = false := by have := HNx.out; simpa using (by omega : ¬ nx = N.ins + (bs.length : Int))
          have hbl9 : bs.length ≤ 301 := by omega
          have HBl := Lib.hid hbl
          clear hbl
          go_wp2_with fail
          go_roundw
          case rel => exact ⟨j + 1, by omega, by go_num, Lib.hid ⟨_, bs, HP.out, HX.out, HR.out, by rw [HDt.out, HNt.out]; rfl⟩⟩
          case measure => simp [intOf]; omega
      · have hxb : (x == 0) = false := by simpa using hx0
        have hxc : (0 == x) = false := by simpa using (fun e => hx0 e.symm : ¬ 0 = x)
        have HXc := Lib.hid hxc
        clear hxc
        go_wp2_with fail
        go_roundw
        case rel => exact ⟨j + 1, by omega, by go_num, Lib.hid ⟨_, bs, HP.out, HX.out, HR.out, by rw [HDt.out, HNt.out, HXc.out, Bool.or_false]⟩⟩
        case measure => simp [intOf]; omega
    · obtain rfl : j = N.outs.length := by omega
      go_wp2
      exact hh
set_option maxRecDepth 100000 in
set_option maxHeartbeats 8000000 in
theorem refL7 (Q : Exit → Act → World → Prop) (hpan : ∀ c (d : Option Tmp) v a w, Q (.panic c) (a.put d v) w → Q (.panic c) a w) (w0 w : World) (N : NetV) (hN : Hid (NetAt w0 N)) (hins : N.ins ≤ 100) (hins0 : 0 ≤ N.ins) (houts : N.outs.length ≤ 100) (wb pb lo L h : Nat) (f : Int → Int) (oa : Option Addr) (hoa : Hid (N.oa = oa)) (hh0 : Hid (w0.heap.size = h)) (hne : pb ≠ wb) (hpb : w0.heap.size + 2 ≤ pb) (hL : L ≤ 500) (hdo : Hid (∀ x ∈ N.outs, 0 ≤ x ∧ x < L)) (ba : Option Addr) (n bc : Nat) (hn : n ≤ 400) (bs : List BlkV) (hst : Hid (∃ ov os, Rw w0 N wb lo L f w ∧ Pb pb lo N.ins (.slice ba n bc) ov w ∧ Rows lo bs (.slice ba n bc) os ov w ∧ os = (N.outs.take 0).map (outR f (N.ins + n))))
    (s0 s2 s3 s4 s6 s7 s8 s9 s10 s12 s13 s14 s15 s16 s17 s18 s19 s20 s21 s22 s23 s24 s25 s26 s27 s28 s29 s30 s31 s32 s33 s34 s35 s36 s37 s38 s39 s40 s41 s42 s43 s44 s45 s46 s47 s48 s49 s50 s51 s52 s53 s54 s55 s56 s57 s58 s59 s60 s61 s62 s63 s64 s65 s66 s67 s68 s69 s70 s71 s72 s73 s74 s75 s76 s77 s78 s79 s80 s81 s82 s83 s84 s85 s86 s87 s88 s89 s90 s91 s92 s93 s94 s95 s96 s97 s98 s99 s100 s101 s102 s103 s104 s105 s106 s107 s108 s109 s110 s111 s112 s113 s114 s115 s116 s117 s118 s119 s120 s121 s122 s123 s124 s125 s126 s127 s128 s129 s130 s131 s132 s133 s134 s135 s136 s137 s138 s139 s140 s141 s142 s143 s144 s145 s146 s147 s148 s149 s150 s151 s152 s153 s154 s155 s156 s157 s158 s159 s160 s161 s162 s163 s164 s165 s166 s167 s168 s169 s170 s171 s172 s173 s174 s175 s176 s177 s178 s179 s180 s181 s182 s183 s184 s185 s186 s187 s188 s189 s190 s191 s192 s193 s194 s195 s196 s197 s198 s199 s200 s201 s202 s203 s204 s205 s206 s207 s211 s212 s213 s214 s215 s216 s217 s218 s219 s220 s221 s222 s223 s224 s225 s226 s227 s228 s229 s230 s231 s232 s233 s234 s235 s236 s237 s238 s239 s240 s241 s242 s243 s244 s245 s246 s247 s248 : Value)
    (hexit : ∀ (r20 r210 r211 r212 r213 r214 r215 r216 r217 r218 r219 r220 r221 r222 r223 r224 r225 r226 r227 r228 r229 r230 r231 r232 r233 r234 r235 r236 r237 : Value) (w' : World), Hid (∃ ov os, Rw w0 N wb lo L f w' ∧ Pb pb lo N.ins (.slice ba n bc) ov w' ∧ Rows lo bs (.slice ba n bc) os ov w' ∧ os = (N.outs.take N.outs.length).map (outR f (N.ins + n))) → Q .normal { tmps := #[s0, .pointer (some ⟨h, 0, none⟩), s2, s3, s4, .slice (some ⟨wb, 0, none⟩) L L, s6, s7, s8, s9, s10, .pointer (some ⟨pb, 0, none⟩), s12, s13, s14, s15, s16, s17, s18, s19, r20, s21, s22, s23, s24, s25, s26, s27, s28, s29, s30, s31, s32, s33, s34, s35, s36, s37, s38, s39, s40, s41, s42, s43, s44, s45, s46, s47, s48, s49, s50, s51, s52, s53, s54, s55, s56, s57, s58, s59, s60, s61, s62, s63, s64, s65, s66, s67, s68, s69, s70, s71, s72, s73, s74, s75, s76, s77, s78, s79, s80, s81, s82, s83, s84, s85, s86, s87, s88, s89, s90, s91, s92, s93, s94, s95, s96, s97, s98, s99, s100, s101, s102, s103, s104, s105, s106, s107, s108, s109, s110, s111, s112, s113, s114, s115, s116, s117, s118, s119, s120, s121, s122, s123, s124, s125, s126, s127, s128, s129, s130, s131, s132, s133, s134, s135, s136, s137, s138, s139, s140, s141, s142, s143, s144, s145, s146, s147, s148, s149, s150, s151, s152, s153, s154, s155, s156, s157, s158, s159, s160, s161, s162, s163, s164, s165, s166, s167, s168, s169, s170, s171, s172, s173, s174, s175, s176, s177, s178, s179, s180, s181, s182, s183, s184, s185, s186, s187, s188, s189, s190, s191, s192, s193, s194, s195, s196, s197, s198, s199, s200, s201, s202, s203, s204, s205, s206, s207, .slice oa N.outs.length N.oc, .int .i64 (N.outs.length : Int), r210, r211, r212, r213, r214, r215, r216, r217, r218, r219, r220, r221, r222, r223, r224, r225, r226, r227, r228, r229, r230, r231, r232, r233, r234, r235, r236, r237, s238, s239, s240, s241, s242, s243, s244, s245, s246, s247, s248], defers := [] } w') :
    ((Try.f17.body.bind (loopAt 50)).getD .skip).wp Try.prog (Exit.inBlock 13 Q) { tmps := #[s0, .pointer (some ⟨h, 0, none⟩), s2, s3, s4, .slice (some ⟨wb, 0, none⟩) L L, s6, s7, s8, s9, s10, .pointer (some ⟨pb, 0, none⟩), s12, s13, s14, s15, s16, s17, s18, s19, s20, s21, s22, s23, s24, s25, s26, s27, s28, s29, s30, s31, s32, s33, s34, s35, s36, s37, s38, s39, s40, s41, s42, s43, s44, s45, s46, s47, s48, s49, s50, s51, s52, s53, s54, s55, s56, s57, s58, s59, s60, s61, s62, s63, s64, s65, s66, s67, s68, s69, s70, s71, s72, s73, s74, s75, s76, s77, s78, s79, s80, s81, s82, s83, s84, s85, s86, s87, s88, s89, s90, s91, s92, s93, s94, s95, s96, s97, s98, s99, s100, s101, s102, s103, s104, s105, s106, s107, s108, s109, s110, s111, s112, s113, s114, s115, s116, s117, s118, s119, s120, s121, s122, s123, s124, s125, s126, s127, s128, s129, s130, s131, s132, s133, s134, s135, s136, s137, s138, s139, s140, s141, s142, s143, s144, s145, s146, s147, s148, s149, s150, s151, s152, s153, s154, s155, s156, s157, s158, s159, s160, s161, s162, s163, s164, s165, s166, s167, s168, s169, s170, s171, s172, s173, s174, s175, s176, s177, s178, s179, s180, s181, s182, s183, s184, s185, s186, s187, s188, s189, s190, s191, s192, s193, s194, s195, s196, s197, s198, s199, s200, s201, s202, s203, s204, s205, s206, s207, .slice oa N.outs.length N.oc, .int .i64 (N.outs.length : Int), .int .i64 0, s211, s212, s213, s214, s215, s216, s217, s218, s219, s220, s221, s222, s223, s224, s225, s226, s227, s228, s229, s230, s231, s232, s233, s234, s235, s236, s237, s238, s239, s240, s241, s242, s243, s244, s245, s246, s247, s248], defers := [] } w := by
  conv => arg 2; whnf
  dsimp only
  obtain ⟨i3, hi, hz0, hz1, hz2⟩ := info_parts info3
  go_loopw [210] (fun iv wr => ∃ j : Nat, j ≤ N.outs.length ∧ iv = .int .i64 j ∧ Hid (∃ ov os, Rw w0 N wb lo L f wr ∧ Pb pb lo N.ins (.slice ba n bc) ov wr ∧ Rows lo bs (.slice ba n bc) os ov wr ∧ os = (N.outs.take j).map (outR f (N.ins + n)))) (fun iv _ => N.outs.length - (intOf iv).toNat)
  case atStart => exact ⟨0, by omega, rfl, hst⟩
  case round =>
    obtain ⟨j, hj, rfl, hh⟩ := hrel
    by_cases hlt : j < N.outs.length
    · obtain ⟨ov, os, hp, hx, hr, hos⟩ := hh.out
      obtain ⟨b3, off3, hOa, hbb3, hcs3⟩ := (hN.out.below hp.below (Nat.le_refl _)).outs.at j hlt
      have e0 := hcs3 j hlt
      unfold ints at e0
      have hxU := hdo.out _ (getD_mem N.outs 0 hlt)
      have hos2 : (N.outs.take (j + 1)).map (outR f (N.ins + n)) = (N.outs.take j).map (outR f (N.ins + n)) ++ [outR f (N.ins + n) (N.outs.getD j 0)] := by rw [take_one N.outs 0 j hlt, List.map_append]; rfl
      obtain ⟨x, hxe⟩ : ∃ z, z = N.outs.getD j 0 := ⟨_, rfl⟩
      rw [← hxe] at e0 hxU hos2
      obtain ⟨xn, rfl⟩ : ∃ n : Nat, x = n := ⟨x.toNat, by omega⟩
      have hxL : xn < L := by omega
      rw [← hos] at hos2
      have hol : os.length = j := by rw [hos, List.length_map, List.length_take]; omega
      have hwx := hp.ws xn hxL
      have n0 := hp.n0
      rw [hh0.out] at n0
      have p1 := hx.p1
      have p2 := hx.p2
      have hlo := hp.lo'
      have hlp := hx.lp
      have hlw := hp.lw
      obtain ⟨fx, hfx⟩ : ∃ z, z = f xn := ⟨_, rfl⟩
      rw [← hfx] at hwx
      have HFx := Lib.hid hfx
      have HP := Lib.hid hp
      have HX := Lib.hid hx
      have HR := Lib.hid hr
      have HOs2 := Lib.hid hos2
      have HOl := Lib.hid hol
      have HOown := Lib.hid hr.oown.lt
      clear hp hx hr hos hos2 hol hcs3 hxe hfx hxU hh
      rw [hoa.out] at hOa
      subst hOa
      by_cases hx0 : xn = 0
      · subst hx0
        have hol9 : os.length ≤ 100 := by have := HOl.out; omega
        go_wp2_with (at_builtin; refine wpList_append_lies _ rfl _ _ _ rfl lo 3 i3 (.int .i64 0) 1 8 Try.underlying24 hi hz0 hz1 hz2 rfl (by decide) ov os.length (os.map (Value.int .i64)) rfl (HR.out.oown.alloc _) ⟨wr.heap.size, 0, none⟩ 1 1 [.int .i64 (N.ins + (n : Int) - 1)] rfl rfl (one_new (cell_newW wr _ _)) (by simp [Value.oneCell']) (by omega) (by unfold maxLen; omega) (by omega) (by simp; omega) (wr.heap.size + 1) (by simp) ?_)
        intro gB cB w9 hoB9 hg9 hat9 hlt9
        have hgr9 : wr.grownBy w9 ov.ownBlock := ggrown (World.grownBy_alloc _ _ _) hg9
        have hb9 : Below lo wr w9 := (Below.refl _ _).grown hgr9 hlo (fun k e => (HOown.out k e).1)
        have hx9 := HX.out.low hb9
        have y1 := hx9.p2
        have yf := hx9.fz 2
        have HX9 := Lib.hid hx9
        clear hx9
        go_wp2
        go_roundw
        case rel =>
          refine ⟨j + 1, by omega, by go_num, Lib.hid ⟨.slice (some ⟨gB, 0, none⟩) (os.length + 1) cB, os ++ [N.ins + (n : Int) - 1], ?_, ?_, ?_, ?_⟩⟩
          · exact (HP.out.low hb9).side (grownBy_set _ pb 2 _) (by omega) hne
          · exact HX9.out.set2 _
          · exact (HR.out.addO hgr9 rfl hat9 (by omega) hlt9 hoB9).grown (grownBy_set _ pb 2 _) (fun k e => by injection e with e; omega)
          · rw [HOs2.out]; rfl
        case measure => simp [intOf]; omega
      · have hxb : ((xn : Int) == 0) = false := by simpa using hx0
        go_wp2_with fail
        refine wp_region_K (S := fun w' => w'.cell? ⟨pb, 2, none⟩ = some ov ∧ w'.cell? ⟨wb, xn, none⟩ = some (.int .i64 fx)) 9 (by kernel_rfl) (⟨p2, hwx⟩) (fun hHeld => ?_)
        refine wpAnyK_take (i := 0) (v := ?_) (by simp only [List.getElem?_toArray, List.getElem?_cons_succ, List.getElem?_cons_zero]; rfl) (by kernel_rfl) (by kernel_rfl) (by kernel_rfl) (by kernel_rfl) (by intro _ _ _ h; exact hpan _ _ _ _ _ h) (Or.inl ⟨by rfl, ?_⟩) (by assumption) ?_
        rotate_left
        · intro w hSw; (try dsimp only at hSw); go_simp; try with_reducible rfl
        try simp only [Act.put, List.setIfInBounds_toArray, List.set_cons_zero, List.set_cons_succ]
        refine wpAnyK_take (i := 1) (v := ?_) (by simp only [List.getElem?_toArray, List.getElem?_cons_succ, List.getElem?_cons_zero]; rfl) (by kernel_rfl) (by kernel_rfl) (by kernel_rfl) (by kernel_rfl) (by intro _ _ _ h; exact hpan _ _ _ _ _ h) (Or.inl ⟨by rfl, ?_⟩) (by assumption) ?_
        rotate_left
        · intro w hSw; (try dsimp only at hSw); go_simp; try with_reducible rfl
        try simp only [Act.put, List.setIfInBounds_toArray, List.set_cons_zero, List.set_cons_succ]
        refine wpAnyK_take (i := 2) (v := ?_) (by simp only [List.getElem?_toArray, List.getElem?_cons_succ, List.getElem?_cons_zero]; rfl) (by kernel_rfl) (by kernel_rfl) (by kernel_rfl) (by kernel_rfl) (by intro _ _ _ h; exact hpan _ _ _ _ _ h) (Or.inl ⟨by rfl, ?_⟩) (by assumption) ?_
        rotate_left
        · intro w hSw; (try dsimp only at hSw); go_simp; try with_reducible rfl
        try simp only [Act.put, List.setIfInBounds_toArray, List.set_cons_zero, List.set_cons_succ]
        refine wpAnyK_take (i := 3) (v := ?_) (by simp only [List.getElem?_toArray, List.getElem?_cons_succ, List.getElem?_cons_zero]; rfl) (by kernel_rfl) (by kernel_rfl) (by kernel_rfl) (by kernel_rfl) (by intro _ _ _ h; exact hpan _ _ _ _ _ h) (Or.inl ⟨by rfl, ?_⟩) (by assumption) ?_
        rotate_left
        · intro w hSw; (try dsimp only at hSw); go_simp; try with_reducible rfl
        try simp only [Act.put, List.setIfInBounds_toArray, List.set_cons_zero, List.set_cons_succ]
        refine wpAnyK_take (i := 4) (v := ?_) (by simp only [List.getElem?_toArray, List.getElem?_cons_succ, List.getElem?_cons_zero]; rfl) (by kernel_rfl) (by kernel_rfl) (by kernel_rfl) (by kernel_rfl) (by intro _ _ _ h; exact hpan _ _ _ _ _ h) (Or.inl ⟨by rfl, ?_⟩) (by assumption) ?_
        rotate_left
        · intro w hSw; (try dsimp only at hSw); go_simp; first | with_reducible rfl | rw [if_pos (by omega)]
        try simp only [Act.put, List.setIfInBounds_toArray, List.set_cons_zero, List.set_cons_succ]
        refine wpAnyK_take (i := 5) (v := ?_) (by simp only [List.getElem?_toArray, List.getElem?_cons_succ, List.getElem?_cons_zero]; rfl) (by kernel_rfl) (by kernel_rfl) (by kernel_rfl) (by kernel_rfl) (by intro _ _ _ h; exact hpan _ _ _ _ _ h) (Or.inl ⟨by rfl, ?_⟩) (by assumption) ?_
        rotate_left
        · intro w hSw; (try dsimp only at hSw); go_simp; try with_reducible rfl
        try simp only [Act.put, List.setIfInBounds_toArray, List.set_cons_zero, List.set_cons_succ]
        refine wpAnyK_ready (rs := [6]) (by kernel_rfl) (by simp) ?_
        refine AllReadyK.cons (o := _) (by simp only [List.getElem?_toArray, List.getElem?_cons_succ, List.getElem?_cons_zero]; rfl) (fun K hK => ?_) AllReadyK.nil
        go_simp

        refine hK.out _ _ (fun _ => by exact ⟨cell_alloc _ p2, cell_alloc _ hwx⟩) (fun hH => ?_)
        have hHeld := hH (by decide)
        clear hK K hH
        try simp only [Act.put, List.setIfInBounds_toArray, List.set_cons_zero, List.set_cons_succ]
        refine wpAnyK_ready (rs := [7]) (by kernel_rfl) (by simp) ?_
        refine AllReadyK.cons (o := _) (by simp only [List.getElem?_toArray, List.getElem?_cons_succ, List.getElem?_cons_zero]; rfl) (fun K hK => ?_) AllReadyK.nil
        rw [if_pos (by rfl)]
        have hoB8 : (wr.drew.alloc (Obj.cells #[Value.int IntKind.i64 fx] 3)).ownsRow lo 3 1 ov os.length (os.map (Value.int .i64)) := (own_drewN (k := 1) HR.out.oown).alloc _
        have hbl9 : os.length ≤ 100 := by have := HOl.out; omega
        refine wp_append_lies _ (.tmp 229) (.tmp 234) 24 rfl lo 3 i3 (.int .i64 0) 1 8 Try.underlying24 hi hz0 hz1 hz2 rfl (by decide) ov os.length (os.map (Value.int .i64)) rfl hoB8 ⟨wr.heap.size, 0, none⟩ 1 1 [.int .i64 fx] rfl rfl (one_new (cell_newW wr.drew _ _)) (by simp [Value.oneCell']) (by omega) (by unfold maxLen; omega) (by omega) (by simp; omega) (wr.heap.size + 1) (by simp) ?_
        intro gB cB w9 hoB9 hg9 hat9 hlt9
        have hgr9 : wr.grownBy w9 ov.ownBlock := ggrown (grownBy_drew _ _) (ggrown (World.grownBy_alloc _ _ _) hg9)
        have hb9 : Below lo wr w9 := (Below.refl _ _).grown hgr9 (by omega) (fun k e => (HOown.out k e).1)
        have y1 := (hb9.cell (p := ⟨pb, 2, none⟩) (by simp only; omega)).trans p2
        have yw := (hb9.cell (p := ⟨wb, xn, none⟩) (by simp only; omega)).trans hwx
        have yf : w9.frozen? ⟨pb, 2, none⟩ = false := (hb9.frozen (p := ⟨_, _, none⟩) (by simp only; omega)).trans (HX.out.fz 2)
        refine hK.out _ _ (fun _ => by exact ⟨y1, yw⟩) (fun hH => ?_)
        have hHeld := hH (by decide)
        clear hK K hH
        try simp only [Act.put, List.setIfInBounds_toArray, List.set_cons_zero, List.set_cons_succ]
        refine wpAnyK_take (i := 8) (v := ?_) (by simp only [List.getElem?_toArray, List.getElem?_cons_succ, List.getElem?_cons_zero]; rfl) (by kernel_rfl) (by kernel_rfl) (by kernel_rfl) (by kernel_rfl) (by intro _ _ _ h; exact hpan _ _ _ _ _ h) (Or.inl ⟨by rfl, ?_⟩) (by assumption) ?_
        rotate_left
        · intro w hSw; (try dsimp only at hSw); go_simp; try with_reducible rfl
        try simp only [Act.put, List.setIfInBounds_toArray, List.set_cons_zero, List.set_cons_succ]
        refine wpAnyK_ready (rs := [9]) (by kernel_rfl) (by simp) ?_
        refine AllReadyK.cons (o := _) (by simp only [List.getElem?_toArray, List.getElem?_cons_succ, List.getElem?_cons_zero]; rfl) (fun K hK => ?_) AllReadyK.nil
        go_simp

        refine hK.out _ _ (fun h => absurd rfl h) (fun _ => ?_)
        clear hK K
        try simp only [Act.put, List.setIfInBounds_toArray, List.set_cons_zero, List.set_cons_succ]
        refine wpAnyK_done (by kernel_rfl) ?_ _
        go_wp2
        go_roundw
        case rel =>
          refine ⟨j + 1, by omega, by go_num, Lib.hid ⟨.slice (some ⟨gB, 0, none⟩) (os.length + 1) cB, os ++ [fx], ?_, ?_, ?_, ?_⟩⟩
          · exact (HP.out.low hb9).side (grownBy_set _ pb 2 _) (by omega) hne
          · exact (HX.out.low hb9).set2 _
          · exact (HR.out.addO hgr9 rfl hat9 (by omega) hlt9 hoB9).grown (grownBy_set _ pb 2 _) (fun k e => by injection e with e; omega)
          · rw [HOs2.out]; unfold outR; rw [if_neg (by omega), HFx.out]
        case measure => simp [intOf]; omega
    · obtain rfl : j = N.outs.length := by omega
      go_wp2
      exact hh
end Go.Proofs.Ytibimdhmfchcoaa

