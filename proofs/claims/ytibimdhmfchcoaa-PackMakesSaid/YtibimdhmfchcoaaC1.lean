import Derived.Test.YtibimdhmfchcoaaA6
namespace Go.Proofs.Ytibimdhmfchcoaa
open Go.RowKit Go.Shelf Go.Maps
set_option linter.unusedVariables false
set_option linter.unusedSimpArgs false
/-- Does a code begin with that region? -/
def atRegion (k : Nat) : Code → Bool
  | .region id _ _ => id == k
  | .seq a _ => atRegion k a
  | _ => false
/-- The loop whose body begins with that region. -/
def loopAt (k : Nat) : Code → Option Code
  | .loop c => if atRegion k c then some (.loop c) else loopAt k c
  | .seq a b => match loopAt k a with
    | some c => some c
    | none => loopAt k b
  | .block _ c => loopAt k c
  | .scope c => loopAt k c
  | .cond _ a b => match loopAt k a with
    | some c => some c
    | none => loopAt k b
  | .rangeFunc _ _ a b => match loopAt k a with
    | some c => some c
    | none => loopAt k b
  | _ => none

set_option maxRecDepth 100000 in
set_option maxHeartbeats 8000000 in
theorem packL1 (Q : Exit → Act → World → Prop) (hpan : ∀ c (d : Option Tmp) v a w, Q (.panic c) (a.put d v) w → Q (.panic c) a w) (w0 w : World) (N : NetV) (mb pk lo h K : Nat) (bv ov : Value) (hK : K ≤ 200) (hst : Hid (Pk w0 N mb pk lo 0 (fun _ => 0) bv ov w))
    (s0 s2 s3 s5 s6 s7 s8 s9 s10 s11 s12 s13 s14 s15 s16 s17 s18 s19 s20 s21 s22 s23 s24 s25 s26 s27 s28 s29 s30 s31 s32 s33 s34 s35 s38 s39 s40 s41 s42 s43 s44 s45 s46 s47 s48 s49 s50 s51 s52 s53 s54 s55 s56 s57 s58 s59 s60 s61 s62 s63 s64 s65 s66 s67 s68 s69 s70 s71 s72 s73 s74 s75 s76 s77 s78 s79 s80 s81 s82 s83 s84 s85 s86 s87 s88 s89 s90 s91 s92 s93 s94 s95 s96 s97 s98 s99 s100 s101 s102 s103 s104 s105 s106 s107 s108 s109 s110 s111 s112 s113 s114 s115 s116 s117 s118 s119 s120 s121 s122 s123 s124 s125 s126 s127 s128 s129 s130 s131 s132 s133 s134 s135 s136 s137 s138 s139 s140 s141 s142 s143 s144 s145 s146 s147 s148 s149 s150 s151 s152 s153 s154 s155 s156 s157 s158 s159 s160 s161 s162 s163 s164 s165 s166 s167 s168 s169 s170 s171 s172 s173 s174 s175 s176 s177 s178 s179 s180 s181 s182 s183 s184 s185 s186 s187 s188 s189 s190 s191 s192 s193 s194 s195 s196 s197 s198 s199 s200 s201 s202 s203 s204 s205 s206 s207 s208 s209 s210 s211 s212 s213 s214 s215 s216 s217 s218 s219 s220 s221 s222 s223 s224 s225 s226 s227 s228 s229 s230 s231 s232 s233 s234 s235 s236 s237 s238 s239 s240 s241 s242 s243 s244 s245 s246 s247 s248 s249 : Value)
    (hexit : ∀ (r5 r37 r38 r39 r40 r41 r42 r43 r44 r45 r46 r47 : Value) (w' : World), Hid (Pk w0 N mb pk lo K (insTo K) bv ov w') → Q .normal { tmps := #[s0, .pointer (some ⟨h, 0, none⟩), s2, s3, .pointer (some ⟨pk, 0, none⟩), r5, s6, s7, s8, s9, s10, s11, s12, s13, s14, s15, s16, s17, s18, s19, s20, s21, s22, s23, s24, s25, s26, s27, s28, s29, s30, s31, s32, s33, s34, s35, .int .i64 (K : Int), r37, r38, r39, r40, r41, r42, r43, r44, r45, r46, r47, s48, s49, s50, s51, s52, s53, s54, s55, s56, s57, s58, s59, s60, s61, s62, s63, s64, s65, s66, s67, s68, s69, s70, s71, s72, s73, s74, s75, s76, s77, s78, s79, s80, s81, s82, s83, s84, s85, s86, s87, s88, s89, s90, s91, s92, s93, s94, s95, s96, s97, s98, s99, s100, s101, s102, s103, s104, s105, s106, s107, s108, s109, s110, s111, s112, s113, s114, s115, s116, s117, s118, s119, s120, s121, s122, s123, s124, s125, s126, s127, s128, s129, s130, s131, s132, s133, s134, s135, s136, s137, s138, s139, s140, s141, s142, s143, s144, s145, s146, s147, s148, s149, s150, s151, s152, s153, s154, s155, s156, s157, s158, s159, s160, s161, s162, s163, s164, s165, s166, s167, s168, s169, s170, s171, s172, s173, s174, s175, s176, s177, s178, s179, s180, s181, s182, s183, s184, s185, s186, s187, s188, s189, s190, s191, s192, s193, s194, s195, s196, s197, s198, s199, s200, s201, s202, s203, s204, s205, s206, s207, s208, s209, s210, s211, s212, s213, s214, s215, s216, s217, s218, s219, s220, s221, s222, s223, s224, s225, s226, s227, s228, s229, s230, s231, s232, s233, s234, s235, s236, s237, s238, s239, s240, s241, s242, s243, s244, s245, s246, s247, s248, s249], defers := [] } w') :
    ((Try.f16.body.bind (loopAt 5)).getD .skip).wp Try.prog (Exit.inBlock 0 Q) { tmps := #[s0, .pointer (some ⟨h, 0, none⟩), s2, s3, .pointer (some ⟨pk, 0, none⟩), s5, s6, s7, s8, s9, s10, s11, s12, s13, s14, s15, s16, s17, s18, s19, s20, s21, s22, s23, s24, s25, s26, s27, s28, s29, s30, s31, s32, s33, s34, s35, .int .i64 (K : Int), .int .i64 0, s38, s39, s40, s41, s42, s43, s44, s45, s46, s47, s48, s49, s50, s51, s52, s53, s54, s55, s56, s57, s58, s59, s60, s61, s62, s63, s64, s65, s66, s67, s68, s69, s70, s71, s72, s73, s74, s75, s76, s77, s78, s79, s80, s81, s82, s83, s84, s85, s86, s87, s88, s89, s90, s91, s92, s93, s94, s95, s96, s97, s98, s99, s100, s101, s102, s103, s104, s105, s106, s107, s108, s109, s110, s111, s112, s113, s114, s115, s116, s117, s118, s119, s120, s121, s122, s123, s124, s125, s126, s127, s128, s129, s130, s131, s132, s133, s134, s135, s136, s137, s138, s139, s140, s141, s142, s143, s144, s145, s146, s147, s148, s149, s150, s151, s152, s153, s154, s155, s156, s157, s158, s159, s160, s161, s162, s163, s164, s165, s166, s167, s168, s169, s170, s171, s172, s173, s174, s175, s176, s177, s178, s179, s180, s181, s182, s183, s184, s185, s186, s187, s188, s189, s190, s191, s192, s193, s194, s195, s196, s197, s198, s199, s200, s201, s202, s203, s204, s205, s206, s207, s208, s209, s210, s211, s212, s213, s214, s215, s216, s217, s218, s219, s220, s221, s222, s223, s224, s225, s226, s227, s228, s229, s230, s231, s232, s233, s234, s235, s236, s237, s238, s239, s240, s241, s242, s243, s244, s245, s246, s247, s248, s249], defers := [] } w := by
  conv => arg 2; whnf
  dsimp only
  have h0 : (fun _ => 0) = insTo 0 := by funext x; unfold insTo; rw [if_neg (by omega)]
  rw [h0] at hst
  go_loopw [37] (fun iv wr => ∃ i : Nat, i ≤ K ∧ iv = .int .i64 i ∧ Hid (Pk w0 N mb pk lo i (insTo i) bv ov wr)) (fun iv _ => K - (intOf iv).toNat)
  case atStart => exact ⟨0, by omega, rfl, hst⟩
  case round =>
    obtain ⟨i, hi, rfl, hh⟩ := hrel
    by_cases hlt : i < K
    · have hp := hh.out
      have p7 := hp.p7
      obtain ⟨w5, hput, hm5, hg5⟩ := hp.map.put ((i : Int) + 1) (i : Int) ⟨by omega, by omega⟩ ⟨by omega, by omega⟩ (by omega)
      have hm5 : IMap w5 mb (i + 1) (insTo (i + 1)) := by rw [← insTo_succ, Int.natCast_succ]; exact hm5
      have H5 := Lib.hid (hp.put hm5 hg5)
      clear hp hm5 hg5
      go_wp2
      go_roundw
      case rel => exact ⟨i + 1, by omega, by go_num, H5⟩
      case measure => simp [intOf]; omega
    · obtain rfl : i = K := by omega
      go_wp2
      exact hh
end Go.Proofs.Ytibimdhmfchcoaa

