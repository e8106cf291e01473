import Derived.Test.YtibimdhmfchcoaaC1
namespace Go.Proofs.Ytibimdhmfchcoaa
open Go.RowKit Go.Shelf Go.Maps
set_option linter.unusedVariables false
set_option linter.unusedSimpArgs false
theorem Pk.mono {w wr : World} {N : NetV} {mb pk lo cnt cnt2 : Nat} {f : Int → Int} {bv ov : Value} (h : Pk w N mb pk lo cnt f bv ov wr) (hc : cnt ≤ cnt2) : Pk w N mb pk lo cnt2 f bv ov wr :=
  ⟨h.below, h.ltm, h.ltp, h.nmp, h.lm, h.lp, h.lo', h.n0, h.n1, h.n2, h.n3, h.res, h.p0, h.p1, h.p2, h.p3, h.p4, h.p5, h.p6, h.p7, h.fz, h.map.mono hc⟩

set_option maxRecDepth 100000 in
set_option maxHeartbeats 8000000 in
theorem packL3 (Q : Exit → Act → World → Prop) (hpan : ∀ c (d : Option Tmp) v a w, Q (.panic c) (a.put d v) w → Q (.panic c) a w) (w0 w : World) (N : NetV) (hins : N.ins ≤ 100) (hins0 : 0 ≤ N.ins) (hhol : N.holds.length ≤ 100) (n : Nat) (hn : n ≤ 200) (mb pk lo h cnt c2 xb : Nat) (hcnt : cnt ≤ 1000) (g : Int → Bool) (bv ov : Value) (hxb : xb < lo) (hnm : xb ≠ mb) (hst : Hid (Pk w0 N mb pk lo cnt (wireTo N g 0) bv ov w ∧ BMap w xb c2 g))
    (s0 s2 s3 s5 s6 s8 s9 s11 s12 s13 s14 s15 s16 s17 s18 s19 s20 s21 s22 s23 s24 s25 s26 s27 s28 s29 s30 s31 s32 s33 s34 s35 s36 s37 s38 s39 s40 s41 s42 s43 s44 s45 s46 s47 s48 s49 s50 s51 s52 s53 s54 s55 s56 s57 s58 s59 s60 s61 s62 s63 s64 s65 s66 s67 s68 s69 s70 s71 s72 s73 s74 s75 s76 s77 s78 s79 s80 s81 s84 s85 s86 s87 s88 s89 s90 s91 s92 s93 s94 s95 s96 s97 s98 s99 s100 s101 s102 s103 s104 s105 s106 s107 s108 s109 s110 s111 s112 s113 s114 s115 s116 s117 s118 s119 s120 s121 s122 s123 s124 s125 s126 s127 s128 s129 s130 s131 s132 s133 s134 s135 s136 s137 s138 s139 s140 s141 s142 s143 s144 s145 s146 s147 s148 s149 s150 s151 s152 s153 s154 s155 s156 s157 s158 s159 s160 s161 s162 s163 s164 s165 s166 s167 s168 s169 s170 s171 s172 s173 s174 s175 s176 s177 s178 s179 s180 s181 s182 s183 s184 s185 s186 s187 s188 s189 s190 s191 s192 s193 s194 s195 s196 s197 s198 s199 s200 s201 s202 s203 s204 s205 s206 s207 s208 s209 s210 s211 s212 s213 s214 s215 s216 s217 s218 s219 s220 s221 s222 s223 s224 s225 s226 s227 s228 s229 s230 s231 s232 s233 s234 s235 s236 s237 s238 s239 s240 s241 s242 s243 s244 s245 s246 s247 s248 s249 : Value)
    (hexit : ∀ (r11 r12 r83 r84 r85 r86 r87 r88 r89 r90 r91 r92 r93 r94 r95 r96 r97 r98 r99 r100 r101 r102 : Value) (w' : World), Hid (Pk w0 N mb pk lo (cnt + n) (wireTo N g n) bv ov w' ∧ BMap w' xb c2 g) → Q .normal { tmps := #[s0, .pointer (some ⟨h, 0, none⟩), s2, s3, .pointer (some ⟨pk, 0, none⟩), s5, s6, .map (some xb), s8, s9, .int .i64 (nextTo N g n), r11, r12, s13, s14, s15, s16, s17, s18, s19, s20, s21, s22, s23, s24, s25, s26, s27, s28, s29, s30, s31, s32, s33, s34, s35, s36, s37, s38, s39, s40, s41, s42, s43, s44, s45, s46, s47, s48, s49, s50, s51, s52, s53, s54, s55, s56, s57, s58, s59, s60, s61, s62, s63, s64, s65, s66, s67, s68, s69, s70, s71, s72, s73, s74, s75, s76, s77, s78, s79, s80, s81, .int .i64 (n : Int), r83, r84, r85, r86, r87, r88, r89, r90, r91, r92, r93, r94, r95, r96, r97, r98, r99, r100, r101, r102, s103, s104, s105, s106, s107, s108, s109, s110, s111, s112, s113, s114, s115, s116, s117, s118, s119, s120, s121, s122, s123, s124, s125, s126, s127, s128, s129, s130, s131, s132, s133, s134, s135, s136, s137, s138, s139, s140, s141, s142, s143, s144, s145, s146, s147, s148, s149, s150, s151, s152, s153, s154, s155, s156, s157, s158, s159, s160, s161, s162, s163, s164, s165, s166, s167, s168, s169, s170, s171, s172, s173, s174, s175, s176, s177, s178, s179, s180, s181, s182, s183, s184, s185, s186, s187, s188, s189, s190, s191, s192, s193, s194, s195, s196, s197, s198, s199, s200, s201, s202, s203, s204, s205, s206, s207, s208, s209, s210, s211, s212, s213, s214, s215, s216, s217, s218, s219, s220, s221, s222, s223, s224, s225, s226, s227, s228, s229, s230, s231, s232, s233, s234, s235, s236, s237, s238, s239, s240, s241, s242, s243, s244, s245, s246, s247, s248, s249], defers := [] } w') :
    ((Try.f16.body.bind (loopAt 18)).getD .skip).wp Try.prog (Exit.inBlock 4 Q) { tmps := #[s0, .pointer (some ⟨h, 0, none⟩), s2, s3, .pointer (some ⟨pk, 0, none⟩), s5, s6, .map (some xb), s8, s9, .int .i64 (N.ins + (N.holds.length : Int)), s11, s12, s13, s14, s15, s16, s17, s18, s19, s20, s21, s22, s23, s24, s25, s26, s27, s28, s29, s30, s31, s32, s33, s34, s35, s36, s37, s38, s39, s40, s41, s42, s43, s44, s45, s46, s47, s48, s49, s50, s51, s52, s53, s54, s55, s56, s57, s58, s59, s60, s61, s62, s63, s64, s65, s66, s67, s68, s69, s70, s71, s72, s73, s74, s75, s76, s77, s78, s79, s80, s81, .int .i64 (n : Int), .int .i64 0, s84, s85, s86, s87, s88, s89, s90, s91, s92, s93, s94, s95, s96, s97, s98, s99, s100, s101, s102, s103, s104, s105, s106, s107, s108, s109, s110, s111, s112, s113, s114, s115, s116, s117, s118, s119, s120, s121, s122, s123, s124, s125, s126, s127, s128, s129, s130, s131, s132, s133, s134, s135, s136, s137, s138, s139, s140, s141, s142, s143, s144, s145, s146, s147, s148, s149, s150, s151, s152, s153, s154, s155, s156, s157, s158, s159, s160, s161, s162, s163, s164, s165, s166, s167, s168, s169, s170, s171, s172, s173, s174, s175, s176, s177, s178, s179, s180, s181, s182, s183, s184, s185, s186, s187, s188, s189, s190, s191, s192, s193, s194, s195, s196, s197, s198, s199, s200, s201, s202, s203, s204, s205, s206, s207, s208, s209, s210, s211, s212, s213, s214, s215, s216, s217, s218, s219, s220, s221, s222, s223, s224, s225, s226, s227, s228, s229, s230, s231, s232, s233, s234, s235, s236, s237, s238, s239, s240, s241, s242, s243, s244, s245, s246, s247, s248, s249], defers := [] } w := by
  conv => arg 2; whnf
  dsimp only
  have hinsI : I64 N.ins := ⟨by omega, by omega⟩
  go_loopw [10, 83] (fun nv iv wr => ∃ i : Nat, i ≤ n ∧ iv = .int .i64 i ∧ nv = .int .i64 (nextTo N g i) ∧ Hid (Pk w0 N mb pk lo (cnt + i) (wireTo N g i) bv ov wr ∧ BMap wr xb c2 g)) (fun _ iv _ => n - (intOf iv).toNat)
  case atStart => exact ⟨0, by omega, rfl, rfl, hst⟩
  case round =>
    obtain ⟨i, hi, rfl, rfl, hh⟩ := hrel
    obtain ⟨hp, hx⟩ := hh.out
    by_cases hlt : i < n
    · have s3 := hp.p3
      have s4 := hp.p4
      obtain ⟨nx, hnx⟩ : ∃ z, z = nextTo N g i := ⟨_, rfl⟩
      have hnb := nextTo_bound N g i
      rw [← hnx] at hnb ⊢
      have hwt : wireTo N g (i + 1) = if g (fstN N + i) then wireTo N g i else fun x => if x = fstN N + i then nextTo N g i else wireTo N g i x := rfl
      have hnt : nextTo N g (i + 1) = if g (fstN N + i) then nextTo N g i else nextTo N g i + 1 := rfl
      rw [← hnx] at hwt hnt
      have hfI : I64 (1 + N.ins + (N.holds.length : Int) + i) := ⟨by omega, by omega⟩
      obtain ⟨gb, hgb⟩ : ∃ b, b = g (1 + N.ins + (N.holds.length : Int) + i) := ⟨_, rfl⟩
      have hgb' : g (fstN N + i) = gb := hgb.symm
      rw [hgb'] at hwt hnt
      have HX : Hid (∀ q, Pk w0 N mb pk lo (cnt + i) (wireTo N g i) bv ov (wr.drewN q) ∧ BMap (wr.drewN q) xb c2 g) := Lib.hid (fun q => ⟨hp.drewN q, hx.below (belowN (Below.refl _ _)) (by have := hp.lo'; omega)⟩)
      have HWt := Lib.hid hwt
      have HNt := Lib.hid hnt
      have HGb := Lib.hid hgb
      clear hp hx hwt hnt hgb' hgb hnx
      go_wp2_with fail
      refine (first38 _ pk N.holds.length 0 N.hc N.ins _ hinsI hins hhol (by assumption) (by assumption)).mono ?_
      rintro e w7 ⟨rfl, q, rfl⟩
      obtain ⟨hp, hx⟩ := HX.out q
      have hlk := hx.look (1 + N.ins + (N.holds.length : Int) + i) hfI
      rw [← HGb.out] at hlk
      have p7 := hp.p7
      cases gb
      · obtain ⟨w5, hput, hm5, hg5⟩ := hp.map.put (1 + N.ins + (N.holds.length : Int) + i) nx hfI ⟨by omega, by omega⟩ (by omega)
        have hm5 : IMap w5 mb (cnt + (i + 1)) (wireTo N g (i + 1)) := by rw [HWt.out]; exact hm5
        have HE : Hid (Pk w0 N mb pk lo (cnt + (i + 1)) (wireTo N g (i + 1)) bv ov w5 ∧ BMap w5 xb c2 g) := Lib.hid ⟨hp.put hm5 hg5, hx.kept hg5 (by intro e; injection e with e; exact hnm e)⟩
        clear hp hx hm5 hg5
        go_wp2
        go_roundw
        case rel => exact ⟨i + 1, by omega, by go_num, by rw [HNt.out]; rfl, HE⟩
        case measure => simp [intOf]; omega
      · have HE : Hid (Pk w0 N mb pk lo (cnt + (i + 1)) (wireTo N g (i + 1)) bv ov (wr.drewN q) ∧ BMap (wr.drewN q) xb c2 g) := Lib.hid ⟨by rw [HWt.out]; exact hp.mono (by omega), hx⟩
        clear hp hx
        go_wp2
        go_roundw
        case rel => exact ⟨i + 1, by omega, by go_num, by rw [HNt.out]; rfl, HE⟩
        case measure => simp [intOf]; omega
    · obtain rfl : i = n := by omega
      go_wp2
      exact hh
end Go.Proofs.Ytibimdhmfchcoaa

