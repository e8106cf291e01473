import Derived.Test.YtibimdhmfchcoaaA6
/- C1 -/
namespace Go.Proofs.Ytibimdhmfchcoaa
open Go.RowKit Go.Shelf Go.Maps
set_option linter.unusedVariables false
set_option linter.unusedSimpArgs false
/-- Does a code begin with that region? -/
def atRegion (k : Nat) : Code → Bool
  | .region id _ _ => id == k
  | .seq a _ => atRegion k a
  | _ => false
/-- The loop whose body begins with that region. -/
def loopAt (k : Nat) : Code → Option Code
  | .loop c => if atRegion k c then some (.loop c) else loopAt k c
  | .seq a b => match loopAt k a with
    | some c => some c
    | none => loopAt k b
  | .block _ c => loopAt k c
  | .scope c => loopAt k c
  | .cond _ a b => match loopAt k a with
    | some c => some c
    | none => loopAt k b
  | .rangeFunc _ _ a b => match loopAt k a with
    | some c => some c
    | none => loopAt k b
  | _ => none

set_option maxRecDepth 100000 in
set_option maxHeartbeats 8000000 in
theorem packL1 (Q : Exit → Act → World → Prop) (hpan : ∀ c (d : Option Tmp) v a w, Q (.panic c) (a.put d v) w → Q (.panic c) a w) (w0 w : World) (N : NetV) (mb pk lo h K : Nat) (bv ov : Value) (hK : K ≤ 200) (hst : Hid (Pk w0 N mb pk lo 0 (fun _ => 0) bv ov w))
    (s0 s2 s3 s5 s6 s7 s8 s9 s10 s11 s12 s13 s14 s15 s16 s17 s18 s19 s20 s21 s22 s23 s24 s25 s26 s27 s28 s29 s30 s31 s32 s33 s34 s35 s38 s39 s40 s41 s42 s43 s44 s45 s46 s47 s48 s49 s50 s51 s52 s53 s54 s55 s56 s57 s58 s59 s60 s61 s62 s63 s64 s65 s66 s67 s68 s69 s70 s71 s72 s73 s74 s75 s76 s77 s78 s79 s80 s81 s82 s83 s84 s85 s86 s87 s88 s89 s90 s91 s92 s93 s94 s95 s96 s97 s98 s99 s100 s101 s102 s103 s104 s105 s106 s107 s108 s109 s110 s111 s112 s113 s114 s115 s116 s117 s118 s119 s120 s121 s122 s123 s124 s125 s126 s127 s128 s129 s130 s131 s132 s133 s134 s135 s136 s137 s138 s139 s140 s141 s142 s143 s144 s145 s146 s147 s148 s149 s150 s151 s152 s153 s154 s155 s156 s157 s158 s159 s160 s161 s162 s163 s164 s165 s166 s167 s168 s169 s170 s171 s172 s173 s174 s175 s176 s177 s178 s179 s180 s181 s182 s183 s184 s185 s186 s187 s188 s189 s190 s191 s192 s193 s194 s195 s196 s197 s198 s199 s200 s201 s202 s203 s204 s205 s206 s207 s208 s209 s210 s211 s212 s213 s214 s215 s216 s217 s218 s219 s220 s221 s222 s223 s224 s225 s226 s227 s228 s229 s230 s231 s232 s233 s234 s235 s236 s237 s238 s239 s240 s241 s242 s243 s244 s245 s246 s247 s248 s249 : Value)
    (hexit : ∀ (r5 r37 r38 r39 r40 r41 r42 r43 r44 r45 r46 r47 : Value) (w' : World), Hid (Pk w0 N mb pk lo K (insTo K) bv ov w') → Q .normal { tmps := #[s0, .pointer (some ⟨h, 0, none⟩), s2, s3, .pointer (some ⟨pk, 0, none⟩), r5, s6, s7, s8, s9, s10, s11, s12, s13, s14, s15, s16, s17, s18, s19, s20, s21, s22, s23, s24, s25, s26, s27, s28, s29, s30, s31, s32, s33, s34, s35, .int .i64 (K : Int), r37, r38, r39, r40, r41, r42, r43, r44, r45, r46, r47, s48, s49, s50, s51, s52, s53, s54, s55, s56, s57, s58, s59, s60, s61, s62, s63, s64, s65, s66, s67, s68, s69, s70, s71, s72, s73, s74, s75, s76, s77, s78, s79, s80, s81, s82, s83, s84, s85, s86, s87, s88, s89, s90, s91, s92, s93, s94, s95, s96, s97, s98, s99, s100, s101, s102, s103, s104, s105, s106, s107, s108, s109, s110, s111, s112, s113, s114, s115, s116, s117, s118, s119, s120, s121, s122, s123, s124, s125, s126, s127, s128, s129, s130, s131, s132, s133, s134, s135, s136, s137, s138, s139, s140, s141, s142, s143, s144, s145, s146, s147, s148, s149, s150, s151, s152, s153, s154, s155, s156, s157, s158, s159, s160, s161, s162, s163, s164, s165, s166, s167, s168, s169, s170, s171, s172, s173, s174, s175, s176, s177, s178, s179, s180, s181, s182, s183, s184, s185, s186, s187, s188, s189, s190, s191, s192, s193, s194, s195, s196, s197, s198, s199, s200, s201, s202, s203, s204, s205, s206, s207, s208, s209, s210, s211, s212, s213, s214, s215, s216, s217, s218, s219, s220, s221, s222, s223, s224, s225, s226, s227, s228, s229, s230, s231, s232, s233, s234, s235, s236, s237, s238, s239, s240, s241, s242, s243, s244, s245, s246, s247, s248, s249], defers := [] } w') :
    ((Try.f16.body.bind (loopAt 5)).getD .skip).wp Try.prog (Exit.inBlock 0 Q) { tmps := #[s0, .pointer (some ⟨h, 0, none⟩), s2, s3, .pointer (some ⟨pk, 0, none⟩), s5, s6, s7, s8, s9, s10, s11, s12, s13, s14, s15, s16, s17, s18, s19, s20, s21, s22, s23, s24, s25, s26, s27, s28, s29, s30, s31, s32, s33, s34, s35, .int .i64 (K : Int), .int .i64 0, s38, s39, s40, s41, s42, s43, s44, s45, s46, s47, s48, s49, s50, s51, s52, s53, s54, s55, s56, s57, s58, s59, s60, s61, s62, s63, s64, s65, s66, s67, s68, s69, s70, s71, s72, s73, s74, s75, s76, s77, s78, s79, s80, s81, s82, s83, s84, s85, s86, s87, s88, s89, s90, s91, s92, s93, s94, s95, s96, s97, s98, s99, s100, s101, s102, s103, s104, s105, s106, s107, s108, s109, s110, s111, s112, s113, s114, s115, s116, s117, s118, s119, s120, s121, s122, s123, s124, s125, s126, s127, s128, s129, s130, s131, s132, s133, s134, s135, s136, s137, s138, s139, s140, s141, s142, s143, s144, s145, s146, s147, s148, s149, s150, s151, s152, s153, s154, s155, s156, s157, s158, s159, s160, s161, s162, s163, s164, s165, s166, s167, s168, s169, s170, s171, s172, s173, s174, s175, s176, s177, s178, s179, s180, s181, s182, s183, s184, s185, s186, s187, s188, s189, s190, s191, s192, s193, s194, s195, s196, s197, s198, s199, s200, s201, s202, s203, s204, s205, s206, s207, s208, s209, s210, s211, s212, s213, s214, s215, s216, s217, s218, s219, s220, s221, s222, s223, s224, s225, s226, s227, s228, s229, s230, s231, s232, s233, s234, s235, s236, s237, s238, s239, s240, s241, s242, s243, s244, s245, s246, s247, s248, s249], defers := [] } w := by
  conv => arg 2; whnf
  dsimp only
  have h0 : (fun _ => 0) = insTo 0 := by funext x; unfold insTo; rw [if_neg (by omega)]
  rw [h0] at hst
  go_loopw [37] (fun iv wr => ∃ i : Nat, i ≤ K ∧ iv = .int .i64 i ∧ Hid (Pk w0 N mb pk lo i (insTo i) bv ov wr)) (fun iv _ => K - (intOf iv).toNat)
  case atStart => exact ⟨0, by omega, rfl, hst⟩
  case round =>
    obtain ⟨i, hi, rfl, hh⟩ := hrel
    by_cases hlt : i < K
    · have hp := hh.out
      have p7 := hp.p7
      obtain ⟨w5, hput, hm5, hg5⟩ := hp.map.put ((i : Int) + 1) (i : Int) ⟨by omega, by omega⟩ ⟨by omega, by omega⟩ (by omega)
      have hm5 : IMap w5 mb (i + 1) (insTo (i + 1)) := by rw [← insTo_succ, Int.natCast_succ]; exact hm5
      have H5 := Lib.hid (hp.put hm5 hg5)
      clear hp hm5 hg5
      go_wp2
      go_roundw
      case rel => exact ⟨i + 1, by omega, by go_num, H5⟩
      case measure => simp [intOf]; omega
    · obtain rfl : i = K := by omega
      go_wp2
      exact hh
end Go.Proofs.Ytibimdhmfchcoaa

/- C2 -/
namespace Go.Proofs.Ytibimdhmfchcoaa
open Go.RowKit Go.Shelf Go.Maps
set_option linter.unusedVariables false
set_option linter.unusedSimpArgs false
theorem whoTo_succ (N : NetV) (j : Nat) (hj : j < N.holds.length) : whoTo N (j + 1) = if fstN N ≤ (N.holds.getD j default).d ∧ cntF (occ N) (N.holds.getD j default).d = 1 then (fun y => if y = (N.holds.getD j default).d then true else whoTo N j y) else whoTo N j := by
  funext y
  unfold whoTo
  rw [take_one N.holds default j hj, List.any_append]
  generalize N.holds.getD j default = h
  generalize fstN N = F
  simp only [List.any_cons, List.any_nil, Bool.or_false]
  by_cases e : y = h.d
  · subst e
    by_cases hc : F ≤ h.d ∧ cntF (occ N) h.d = 1
    · rw [if_pos hc]
      rw [decide_eq_true hc.1, decide_eq_true hc.2]; simp
    · rw [if_neg hc]
      have : (decide (F ≤ h.d) && decide (cntF (occ N) h.d = 1)) = false := by
        rw [Bool.and_eq_false_iff]
        by_cases h1 : F ≤ h.d
        · right; simpa using fun h2 => hc ⟨h1, h2⟩
        · left; simpa using h1
      rw [this, Bool.and_false, Bool.and_false]
  · have hb : (h.d == y) = false := by simpa using fun h => e h.symm
    rw [hb, Bool.or_false]
    by_cases hc : F ≤ h.d ∧ cntF (occ N) h.d = 1
    · rw [if_pos hc, if_neg e]
    · rw [if_neg hc]
/-- Another map of the call's own is put into. -/
theorem Pk.side {w wr w' : World} {N : NetV} {mb pk lo cnt xb : Nat} {f : Int → Int} {bv ov : Value} (h : Pk w N mb pk lo cnt f bv ov wr) (hg : wr.grownBy w' (some xb)) (h1 : xb < lo) (hnm : xb ≠ mb) (hnp : xb ≠ pk) (hxw : w.heap.size + 2 ≤ xb) : Pk w N mb pk lo cnt f bv ov w' := by
  have hs := hg.size
  have a1 := h.ltm; have a2 := h.ltp; have a3 := h.lm; have a4 := h.lp; have a5 := h.lo'
  have cl : ∀ {b j : Nat} {v : Value}, b < lo → b ≠ xb → wr.cell? ⟨b, j, none⟩ = some v → w'.cell? ⟨b, j, none⟩ = some v := fun hl hne h => (World.cell?_of_block (a := ⟨_, _, none⟩) (hg.block _ (by simp only; omega) (by intro e; injection e with e; exact hne e))).trans h
  have hp : pk ≠ xb := fun e => hnp e.symm
  exact ⟨h.below.grown hg (by omega) (fun k e => by injection e with e; omega), a1, a2, h.nmp, a3, a4, by omega, cl (by omega) (by omega) h.n0, cl (by omega) (by omega) h.n1, cl (by omega) (by omega) h.n2, cl (by omega) (by omega) h.n3,
    (hg.block _ (by omega) (by intro e; injection e with e; omega)).trans h.res,
    cl a4 hp h.p0, cl a4 hp h.p1, cl a4 hp h.p2, cl a4 hp h.p3, cl a4 hp h.p4, cl a4 hp h.p5, cl a4 hp h.p6, cl a4 hp h.p7,
    fun i => (World.frozen?_of_block (a := ⟨_, _, none⟩) (hg.block _ (by simp only; omega) (by intro e; injection e with e; exact hp e))).trans (h.fz i), h.map.kept hg (by intro e; injection e with e; exact hnm e.symm)⟩

set_option maxRecDepth 100000 in
set_option maxHeartbeats 8000000 in
theorem packL2 (Q : Exit → Act → World → Prop) (hpan : ∀ c (d : Option Tmp) v a w, Q (.panic c) (a.put d v) w → Q (.panic c) a w) (w0 w : World) (N : NetV) (hN : Hid (NetAt w0 N)) (hins : N.ins ≤ 100) (hins0 : 0 ≤ N.ins) (hhol : N.holds.length ≤ 100) (mb pk lo h cnt ub xb : Nat) (f : Int → Int) (bv ov : Value) (ha : Option Addr) (hha : Hid (N.ha = ha)) (hub : ub < lo) (hxb : xb < lo) (hne : ub ≠ xb) (hnm : xb ≠ mb) (hnp : xb ≠ pk) (hxw : w0.heap.size + 2 ≤ xb) (hst : Hid (Pk w0 N mb pk lo cnt f bv ov w ∧ IMap w ub 10000 (cntF (occ N)) ∧ BMap w xb 0 (fun _ => false)))
    (s0 s2 s3 s5 s8 s9 s10 s11 s12 s13 s14 s15 s16 s17 s18 s19 s20 s21 s22 s23 s24 s25 s26 s27 s28 s29 s30 s31 s32 s33 s34 s35 s36 s37 s38 s39 s40 s41 s42 s43 s44 s45 s46 s47 s48 s49 s50 s51 s55 s56 s57 s58 s59 s60 s61 s62 s63 s64 s65 s66 s67 s68 s69 s70 s71 s72 s73 s74 s75 s76 s77 s78 s79 s80 s81 s82 s83 s84 s85 s86 s87 s88 s89 s90 s91 s92 s93 s94 s95 s96 s97 s98 s99 s100 s101 s102 s103 s104 s105 s106 s107 s108 s109 s110 s111 s112 s113 s114 s115 s116 s117 s118 s119 s120 s121 s122 s123 s124 s125 s126 s127 s128 s129 s130 s131 s132 s133 s134 s135 s136 s137 s138 s139 s140 s141 s142 s143 s144 s145 s146 s147 s148 s149 s150 s151 s152 s153 s154 s155 s156 s157 s158 s159 s160 s161 s162 s163 s164 s165 s166 s167 s168 s169 s170 s171 s172 s173 s174 s175 s176 s177 s178 s179 s180 s181 s182 s183 s184 s185 s186 s187 s188 s189 s190 s191 s192 s193 s194 s195 s196 s197 s198 s199 s200 s201 s202 s203 s204 s205 s206 s207 s208 s209 s210 s211 s212 s213 s214 s215 s216 s217 s218 s219 s220 s221 s222 s223 s224 s225 s226 s227 s228 s229 s230 s231 s232 s233 s234 s235 s236 s237 s238 s239 s240 s241 s242 s243 s244 s245 s246 s247 s248 s249 : Value)
    (hexit : ∀ (r9 r54 r55 r56 r57 r58 r59 r60 r61 r62 r63 r64 r65 r66 r67 r68 r69 r70 r71 r72 r73 : Value) (w' : World), Hid (Pk w0 N mb pk lo cnt f bv ov w' ∧ BMap w' xb N.holds.length (whoF N)) → Q .normal { tmps := #[s0, .pointer (some ⟨h, 0, none⟩), s2, s3, .pointer (some ⟨pk, 0, none⟩), s5, .map (some ub), .map (some xb), s8, r9, s10, s11, s12, s13, s14, s15, s16, s17, s18, s19, s20, s21, s22, s23, s24, s25, s26, s27, s28, s29, s30, s31, s32, s33, s34, s35, s36, s37, s38, s39, s40, s41, s42, s43, s44, s45, s46, s47, s48, s49, s50, s51, .slice ha N.holds.length N.hc, .int .i64 (N.holds.length : Int), r54, r55, r56, r57, r58, r59, r60, r61, r62, r63, r64, r65, r66, r67, r68, r69, r70, r71, r72, r73, s74, s75, s76, s77, s78, s79, s80, s81, s82, s83, s84, s85, s86, s87, s88, s89, s90, s91, s92, s93, s94, s95, s96, s97, s98, s99, s100, s101, s102, s103, s104, s105, s106, s107, s108, s109, s110, s111, s112, s113, s114, s115, s116, s117, s118, s119, s120, s121, s122, s123, s124, s125, s126, s127, s128, s129, s130, s131, s132, s133, s134, s135, s136, s137, s138, s139, s140, s141, s142, s143, s144, s145, s146, s147, s148, s149, s150, s151, s152, s153, s154, s155, s156, s157, s158, s159, s160, s161, s162, s163, s164, s165, s166, s167, s168, s169, s170, s171, s172, s173, s174, s175, s176, s177, s178, s179, s180, s181, s182, s183, s184, s185, s186, s187, s188, s189, s190, s191, s192, s193, s194, s195, s196, s197, s198, s199, s200, s201, s202, s203, s204, s205, s206, s207, s208, s209, s210, s211, s212, s213, s214, s215, s216, s217, s218, s219, s220, s221, s222, s223, s224, s225, s226, s227, s228, s229, s230, s231, s232, s233, s234, s235, s236, s237, s238, s239, s240, s241, s242, s243, s244, s245, s246, s247, s248, s249], defers := [] } w') :
    ((Try.f16.body.bind (loopAt 11)).getD .skip).wp Try.prog (Exit.inBlock 2 Q) { tmps := #[s0, .pointer (some ⟨h, 0, none⟩), s2, s3, .pointer (some ⟨pk, 0, none⟩), s5, .map (some ub), .map (some xb), s8, s9, s10, s11, s12, s13, s14, s15, s16, s17, s18, s19, s20, s21, s22, s23, s24, s25, s26, s27, s28, s29, s30, s31, s32, s33, s34, s35, s36, s37, s38, s39, s40, s41, s42, s43, s44, s45, s46, s47, s48, s49, s50, s51, .slice ha N.holds.length N.hc, .int .i64 (N.holds.length : Int), .int .i64 0, s55, s56, s57, s58, s59, s60, s61, s62, s63, s64, s65, s66, s67, s68, s69, s70, s71, s72, s73, s74, s75, s76, s77, s78, s79, s80, s81, s82, s83, s84, s85, s86, s87, s88, s89, s90, s91, s92, s93, s94, s95, s96, s97, s98, s99, s100, s101, s102, s103, s104, s105, s106, s107, s108, s109, s110, s111, s112, s113, s114, s115, s116, s117, s118, s119, s120, s121, s122, s123, s124, s125, s126, s127, s128, s129, s130, s131, s132, s133, s134, s135, s136, s137, s138, s139, s140, s141, s142, s143, s144, s145, s146, s147, s148, s149, s150, s151, s152, s153, s154, s155, s156, s157, s158, s159, s160, s161, s162, s163, s164, s165, s166, s167, s168, s169, s170, s171, s172, s173, s174, s175, s176, s177, s178, s179, s180, s181, s182, s183, s184, s185, s186, s187, s188, s189, s190, s191, s192, s193, s194, s195, s196, s197, s198, s199, s200, s201, s202, s203, s204, s205, s206, s207, s208, s209, s210, s211, s212, s213, s214, s215, s216, s217, s218, s219, s220, s221, s222, s223, s224, s225, s226, s227, s228, s229, s230, s231, s232, s233, s234, s235, s236, s237, s238, s239, s240, s241, s242, s243, s244, s245, s246, s247, s248, s249], defers := [] } w := by
  conv => arg 2; whnf
  dsimp only
  have h0 : (fun _ => false) = whoTo N 0 := by funext x; simp [whoTo]
  rw [h0] at hst
  have hinsI : I64 N.ins := ⟨by omega, by omega⟩
  go_loopw [54] (fun iv wr => ∃ j : Nat, j ≤ N.holds.length ∧ iv = .int .i64 j ∧ Hid (Pk w0 N mb pk lo cnt f bv ov wr ∧ IMap wr ub 10000 (cntF (occ N)) ∧ BMap wr xb j (whoTo N j))) (fun iv _ => N.holds.length - (intOf iv).toNat)
  case atStart => exact ⟨0, by omega, rfl, hst⟩
  case round =>
    obtain ⟨j, hj, rfl, hh⟩ := hrel
    obtain ⟨hp, hu, hx⟩ := hh.out
    by_cases hlt : j < N.holds.length
    · obtain ⟨b, off, hLa0, hbb, hcs⟩ := (hN.out.below hp.below (Nat.le_refl _)).holds.at (2 * j) (by omega)
      have d0 := hcs (j * 2) (by omega)
      have d1 := hcs (j * 2 + 1) (by omega)
      simp only [holdCell] at d0 d1
      rw [if_pos (by omega), show j * 2 / 2 = j by omega] at d0
      rw [if_neg (by omega), show (j * 2 + 1) / 2 = j by omega, ← Nat.add_assoc] at d1
      have hxI := hN.out.holdsR _ (getD_mem N.holds default hlt)
      have hwho := whoTo_succ N j hlt
      obtain ⟨hd, hhd⟩ : ∃ z, z = N.holds.getD j default := ⟨_, rfl⟩
      rw [← hhd] at d0 d1 hxI hwho
      obtain ⟨x, xi⟩ := hd
      dsimp only at d0 d1 hxI hwho
      obtain ⟨W2, hW2⟩ : ∃ W2, W2 = wr.alloc (Obj.cells #[Value.int IntKind.i64 x, Value.bool xi] 63) := ⟨_, rfl⟩
      have hb2 : Below wr.heap.size wr W2 := by rw [hW2]; exact (Below.refl _ _).alloc (Nat.le_refl _) _
      have hlo := hp.lo'
      have hp2 := hp.low (hb2.mono hlo)
      have hu2 := hu.below hb2 (by omega)
      have hx2 := hx.below hb2 (by omega)
      obtain ⟨c, hc⟩ : ∃ c, c = cntF (occ N) x := ⟨_, rfl⟩
      have HLk : Hid (∀ W, Below W2.heap.size W2 W → (Instr.lookup 68 (.map (some ub)) (.int .i64 x) false).run Try.prog W = .ok (.int .i64 c) W) := Lib.hid (fun W hW => by rw [hc]; exact (hu2.below hW (by have := hb2.size; omega)).look x hxI)
      have q0 : W2.cell? ⟨wr.heap.size, 0, none⟩ = some (.int .i64 x) := by rw [hW2]; simp
      have s3 := hp2.p3
      have s4 := hp2.p4
      rw [← hc] at hwho
      have hlo2 := hp2.lo'
      have HX : Hid (∀ W, Below W2.heap.size W2 W → Pk w0 N mb pk lo cnt f bv ov W ∧ IMap W ub 10000 (cntF (occ N)) ∧ BMap W xb j (whoTo N j)) := Lib.hid (fun W hW => ⟨hp2.low (hW.mono hlo2), hu2.below hW (by omega), hx2.below hW (by omega)⟩)
      have HW2 := Lib.hid hW2
      clear hW2 hp hu hx hp2 hu2 hx2 hcs hhd hc hb2 hlo
      rw [hha.out] at hLa0 s4
      subst hLa0
      by_cases hfx : 1 + N.ins + (N.holds.length : Int) ≤ x
      · have hfb : decide (1 + N.ins + (N.holds.length : Int) ≤ x) = true := by simpa using hfx
        by_cases hc1 : c = 1
        · have hcb : (c == 1) = true := by simpa using hc1
          rw [if_pos (show fstN N ≤ x ∧ c = 1 from ⟨hfx, hc1⟩)] at hwho
          have HWho := Lib.hid hwho
          clear hwho
          go_wp2_with fail
          rw [← HW2.out]
          refine wp_region_held_drew (S := fun w' => w'.cell? ⟨wr.heap.size, 0, none⟩ = some (.int .i64 x) ∧ w'.cell? ⟨pk, 3, none⟩ = some (.int .i64 N.ins) ∧ w'.cell? ⟨pk, 4, none⟩ = some (.slice (some ⟨b, off, none⟩) N.holds.length N.hc) ∧ (Instr.lookup 68 (.map (some ub)) (.int .i64 x) false).run Try.prog w' = .ok (.int .i64 c) w') (by kernel_rfl) (⟨q0, s3, s4, HLk.out _ (Below.refl _ _).drew⟩) (fun hHeld => ?_)
          refine wpAnyH_take (i := 0) (v := ?_) (by simp only [List.getElem?_toArray, List.getElem?_cons_succ, List.getElem?_cons_zero]; rfl) (by kernel_rfl) (by kernel_rfl) (by kernel_rfl) (by intro _ _ _ h; exact hpan _ _ _ _ _ h) (Or.inl ⟨by rfl, ?_⟩) (by assumption) ?_
          rotate_left
          · intro w hSw; (try dsimp only at hSw); go_simp; try with_reducible rfl
          try simp only [Act.put, List.setIfInBounds_toArray, List.set_cons_zero, List.set_cons_succ]
          refine wpAnyH_take (i := 1) (v := ?_) (by simp only [List.getElem?_toArray, List.getElem?_cons_succ, List.getElem?_cons_zero]; rfl) (by kernel_rfl) (by kernel_rfl) (by kernel_rfl) (by intro _ _ _ h; exact hpan _ _ _ _ _ h) (Or.inl ⟨by rfl, ?_⟩) (by assumption) ?_
          rotate_left
          · intro w hSw; (try dsimp only at hSw); go_simp; try with_reducible rfl
          try simp only [Act.put, List.setIfInBounds_toArray, List.set_cons_zero, List.set_cons_succ]
          refine wpAnyH_take (i := 2) (v := ?_) (by simp only [List.getElem?_toArray, List.getElem?_cons_succ, List.getElem?_cons_zero]; rfl) (by kernel_rfl) (by kernel_rfl) (by kernel_rfl) (by intro _ _ _ h; exact hpan _ _ _ _ _ h) (Or.inl ⟨by rfl, ?_⟩) (by assumption) ?_
          rotate_left
          · intro w hSw; (try dsimp only at hSw); go_simp; try with_reducible rfl
          try simp only [Act.put, List.setIfInBounds_toArray, List.set_cons_zero, List.set_cons_succ]
          refine wpAnyH_ready (rs := [3]) (by kernel_rfl) (by simp) ?_
          refine AllReadyH.cons (o := _) (by simp only [List.getElem?_toArray, List.getElem?_cons_succ, List.getElem?_cons_zero]; rfl) (fun K hK => ?_) AllReadyH.nil
          go_simp
          go_at_call 38
          refine (first38 _ pk N.holds.length 0 N.hc N.ins _ hinsI hins hhol (by assumption) (by assumption)).mono ?_
          rintro e w7 ⟨rfl, q, rfl⟩
          go_simp
          refine hK.out _ _ (by exact ⟨q0, s3, s4, HLk.out _ (belowN (Below.refl _ _))⟩) (fun hHeld => ?_)
          clear hK K
          try simp only [Act.put, List.setIfInBounds_toArray, List.set_cons_zero, List.set_cons_succ]
          refine wpAnyH_take (i := 4) (v := ?_) (by simp only [List.getElem?_toArray, List.getElem?_cons_succ, List.getElem?_cons_zero]; rfl) (by kernel_rfl) (by kernel_rfl) (by kernel_rfl) (by intro _ _ _ h; exact hpan _ _ _ _ _ h) (Or.inl ⟨by rfl, ?_⟩) (by assumption) ?_
          rotate_left
          · intro w hSw; (try dsimp only at hSw); go_simp; try with_reducible rfl
          try simp only [Act.put, List.setIfInBounds_toArray, List.set_cons_zero, List.set_cons_succ]
          refine wpAnyH_take (i := 5) (v := ?_) (by simp only [List.getElem?_toArray, List.getElem?_cons_succ, List.getElem?_cons_zero]; rfl) (by kernel_rfl) (by kernel_rfl) (by kernel_rfl) (by intro _ _ _ h; exact hpan _ _ _ _ _ h) (Or.inl ⟨by rfl, ?_⟩) (by assumption) ?_
          rotate_left
          · intro w hSw; (try dsimp only at hSw); go_simp; try with_reducible rfl
          try simp only [Act.put, List.setIfInBounds_toArray, List.set_cons_zero, List.set_cons_succ]
          refine wpAnyH_take (i := 6) (v := ?_) (by simp only [List.getElem?_toArray, List.getElem?_cons_succ, List.getElem?_cons_zero]; rfl) (by kernel_rfl) (by kernel_rfl) (by kernel_rfl) (by intro _ _ _ h; exact hpan _ _ _ _ _ h) (Or.inl ⟨by rfl, ?_⟩) (by assumption) ?_
          rotate_left
          · intro w hSw; (try dsimp only at hSw); go_simp; try with_reducible rfl
          try simp only [Act.put, List.setIfInBounds_toArray, List.set_cons_zero, List.set_cons_succ]
          refine wpAnyH_take (i := 7) (v := ?_) (by simp only [List.getElem?_toArray, List.getElem?_cons_succ, List.getElem?_cons_zero]; rfl) (by kernel_rfl) (by kernel_rfl) (by kernel_rfl) (by intro _ _ _ h; exact hpan _ _ _ _ _ h) (Or.inl ⟨by rfl, ?_⟩) (by assumption) ?_
          rotate_left
          · intro w hSw; (try dsimp only at hSw); go_simp; try with_reducible rfl
          try simp only [Act.put, List.setIfInBounds_toArray, List.set_cons_zero, List.set_cons_succ]
          refine wpAnyH_take (i := 8) (v := ?_) (by simp only [List.getElem?_toArray, List.getElem?_cons_succ, List.getElem?_cons_zero]; rfl) (by kernel_rfl) (by kernel_rfl) (by kernel_rfl) (by intro _ _ _ h; exact hpan _ _ _ _ _ h) (Or.inl ⟨by rfl, ?_⟩) (by assumption) ?_
          rotate_left
          · intro w hSw; (try dsimp only at hSw); go_simp; try with_reducible rfl
          try simp only [Act.put, List.setIfInBounds_toArray, List.set_cons_zero, List.set_cons_succ]
          refine wpAnyH_take (i := 9) (v := ?_) (by simp only [List.getElem?_toArray, List.getElem?_cons_succ, List.getElem?_cons_zero]; rfl) (by kernel_rfl) (by kernel_rfl) (by kernel_rfl) (by intro _ _ _ h; exact hpan _ _ _ _ _ h) (Or.inl ⟨by rfl, ?_⟩) (by assumption) ?_
          rotate_left
          · intro w hSw; (try dsimp only at hSw); go_simp; first | with_reducible rfl | (simp only [hSw.2.2.2]; rfl) | (simp [hSw.2.2.2]; rfl)
          try simp only [Act.put, List.setIfInBounds_toArray, List.set_cons_zero, List.set_cons_succ]
          refine wpAnyH_take (i := 10) (v := ?_) (by simp only [List.getElem?_toArray, List.getElem?_cons_succ, List.getElem?_cons_zero]; rfl) (by kernel_rfl) (by kernel_rfl) (by kernel_rfl) (by intro _ _ _ h; exact hpan _ _ _ _ _ h) (Or.inl ⟨by rfl, ?_⟩) (by assumption) ?_
          rotate_left
          · intro w hSw; (try dsimp only at hSw); go_simp; try with_reducible rfl
          try simp only [Act.put, List.setIfInBounds_toArray, List.set_cons_zero, List.set_cons_succ]
          refine wpAnyH_take (i := 11) (v := ?_) (by simp only [List.getElem?_toArray, List.getElem?_cons_succ, List.getElem?_cons_zero]; rfl) (by kernel_rfl) (by kernel_rfl) (by kernel_rfl) (by intro _ _ _ h; exact hpan _ _ _ _ _ h) (Or.inl ⟨by rfl, ?_⟩) (by assumption) ?_
          rotate_left
          · intro w hSw; (try dsimp only at hSw); go_simp; try with_reducible rfl
          try simp only [Act.put, List.setIfInBounds_toArray, List.set_cons_zero, List.set_cons_succ]
          refine wpAnyH_done (by kernel_rfl) ?_ _
          have hE := HX.out (W2.drewN (1 + q)) (belowN (Below.refl _ _))
          obtain ⟨w5, hput, hm5, hg5⟩ := hE.2.2.put x true hxI (by omega)
          have HE : Hid (Pk w0 N mb pk lo cnt f bv ov w5 ∧ IMap w5 ub 10000 (cntF (occ N)) ∧ BMap w5 xb (j + 1) (whoTo N (j + 1))) := Lib.hid ⟨hE.1.side hg5 hxb hnm hnp hxw, hE.2.1.kept hg5 (by intro e; injection e with e; exact hne e), by rw [HWho.out]; exact hm5⟩
          clear hE hm5 hg5
          go_wp2
          go_roundw
          case rel => exact ⟨j + 1, by omega, by go_num, HE⟩
          case measure => simp [intOf]; omega
        · have hcb : (c == 1) = false := by simpa using hc1
          rw [if_neg (show ¬ (fstN N ≤ x ∧ c = 1) from fun h => hc1 h.2)] at hwho
          have HWho := Lib.hid hwho
          clear hwho
          go_wp2_with fail
          rw [← HW2.out]
          refine wp_region_held_drew (S := fun w' => w'.cell? ⟨wr.heap.size, 0, none⟩ = some (.int .i64 x) ∧ w'.cell? ⟨pk, 3, none⟩ = some (.int .i64 N.ins) ∧ w'.cell? ⟨pk, 4, none⟩ = some (.slice (some ⟨b, off, none⟩) N.holds.length N.hc) ∧ (Instr.lookup 68 (.map (some ub)) (.int .i64 x) false).run Try.prog w' = .ok (.int .i64 c) w') (by kernel_rfl) (⟨q0, s3, s4, HLk.out _ (Below.refl _ _).drew⟩) (fun hHeld => ?_)
          refine wpAnyH_take (i := 0) (v := ?_) (by simp only [List.getElem?_toArray, List.getElem?_cons_succ, List.getElem?_cons_zero]; rfl) (by kernel_rfl) (by kernel_rfl) (by kernel_rfl) (by intro _ _ _ h; exact hpan _ _ _ _ _ h) (Or.inl ⟨by rfl, ?_⟩) (by assumption) ?_
          rotate_left
          · intro w hSw; (try dsimp only at hSw); go_simp; try with_reducible rfl
          try simp only [Act.put, List.setIfInBounds_toArray, List.set_cons_zero, List.set_cons_succ]
          refine wpAnyH_take (i := 1) (v := ?_) (by simp only [List.getElem?_toArray, List.getElem?_cons_succ, List.getElem?_cons_zero]; rfl) (by kernel_rfl) (by kernel_rfl) (by kernel_rfl) (by intro _ _ _ h; exact hpan _ _ _ _ _ h) (Or.inl ⟨by rfl, ?_⟩) (by assumption) ?_
          rotate_left
          · intro w hSw; (try dsimp only at hSw); go_simp; try with_reducible rfl
          try simp only [Act.put, List.setIfInBounds_toArray, List.set_cons_zero, List.set_cons_succ]
          refine wpAnyH_take (i := 2) (v := ?_) (by simp only [List.getElem?_toArray, List.getElem?_cons_succ, List.getElem?_cons_zero]; rfl) (by kernel_rfl) (by kernel_rfl) (by kernel_rfl) (by intro _ _ _ h; exact hpan _ _ _ _ _ h) (Or.inl ⟨by rfl, ?_⟩) (by assumption) ?_
          rotate_left
          · intro w hSw; (try dsimp only at hSw); go_simp; try with_reducible rfl
          try simp only [Act.put, List.setIfInBounds_toArray, List.set_cons_zero, List.set_cons_succ]
          refine wpAnyH_ready (rs := [3]) (by kernel_rfl) (by simp) ?_
          refine AllReadyH.cons (o := _) (by simp only [List.getElem?_toArray, List.getElem?_cons_succ, List.getElem?_cons_zero]; rfl) (fun K hK => ?_) AllReadyH.nil
          go_simp
          go_at_call 38
          refine (first38 _ pk N.holds.length 0 N.hc N.ins _ hinsI hins hhol (by assumption) (by assumption)).mono ?_
          rintro e w7 ⟨rfl, q, rfl⟩
          go_simp
          refine hK.out _ _ (by exact ⟨q0, s3, s4, HLk.out _ (belowN (Below.refl _ _))⟩) (fun hHeld => ?_)
          clear hK K
          try simp only [Act.put, List.setIfInBounds_toArray, List.set_cons_zero, List.set_cons_succ]
          refine wpAnyH_take (i := 4) (v := ?_) (by simp only [List.getElem?_toArray, List.getElem?_cons_succ, List.getElem?_cons_zero]; rfl) (by kernel_rfl) (by kernel_rfl) (by kernel_rfl) (by intro _ _ _ h; exact hpan _ _ _ _ _ h) (Or.inl ⟨by rfl, ?_⟩) (by assumption) ?_
          rotate_left
          · intro w hSw; (try dsimp only at hSw); go_simp; try with_reducible rfl
          try simp only [Act.put, List.setIfInBounds_toArray, List.set_cons_zero, List.set_cons_succ]
          refine wpAnyH_take (i := 5) (v := ?_) (by simp only [List.getElem?_toArray, List.getElem?_cons_succ, List.getElem?_cons_zero]; rfl) (by kernel_rfl) (by kernel_rfl) (by kernel_rfl) (by intro _ _ _ h; exact hpan _ _ _ _ _ h) (Or.inl ⟨by rfl, ?_⟩) (by assumption) ?_
          rotate_left
          · intro w hSw; (try dsimp only at hSw); go_simp; try with_reducible rfl
          try simp only [Act.put, List.setIfInBounds_toArray, List.set_cons_zero, List.set_cons_succ]
          refine wpAnyH_take (i := 6) (v := ?_) (by simp only [List.getElem?_toArray, List.getElem?_cons_succ, List.getElem?_cons_zero]; rfl) (by kernel_rfl) (by kernel_rfl) (by kernel_rfl) (by intro _ _ _ h; exact hpan _ _ _ _ _ h) (Or.inl ⟨by rfl, ?_⟩) (by assumption) ?_
          rotate_left
          · intro w hSw; (try dsimp only at hSw); go_simp; try with_reducible rfl
          try simp only [Act.put, List.setIfInBounds_toArray, List.set_cons_zero, List.set_cons_succ]
          refine wpAnyH_take (i := 7) (v := ?_) (by simp only [List.getElem?_toArray, List.getElem?_cons_succ, List.getElem?_cons_zero]; rfl) (by kernel_rfl) (by kernel_rfl) (by kernel_rfl) (by intro _ _ _ h; exact hpan _ _ _ _ _ h) (Or.inl ⟨by rfl, ?_⟩) (by assumption) ?_
          rotate_left
          · intro w hSw; (try dsimp only at hSw); go_simp; try with_reducible rfl
          try simp only [Act.put, List.setIfInBounds_toArray, List.set_cons_zero, List.set_cons_succ]
          refine wpAnyH_take (i := 8) (v := ?_) (by simp only [List.getElem?_toArray, List.getElem?_cons_succ, List.getElem?_cons_zero]; rfl) (by kernel_rfl) (by kernel_rfl) (by kernel_rfl) (by intro _ _ _ h; exact hpan _ _ _ _ _ h) (Or.inl ⟨by rfl, ?_⟩) (by assumption) ?_
          rotate_left
          · intro w hSw; (try dsimp only at hSw); go_simp; try with_reducible rfl
          try simp only [Act.put, List.setIfInBounds_toArray, List.set_cons_zero, List.set_cons_succ]
          refine wpAnyH_take (i := 9) (v := ?_) (by simp only [List.getElem?_toArray, List.getElem?_cons_succ, List.getElem?_cons_zero]; rfl) (by kernel_rfl) (by kernel_rfl) (by kernel_rfl) (by intro _ _ _ h; exact hpan _ _ _ _ _ h) (Or.inl ⟨by rfl, ?_⟩) (by assumption) ?_
          rotate_left
          · intro w hSw; (try dsimp only at hSw); go_simp; first | with_reducible rfl | (simp only [hSw.2.2.2]; rfl) | (simp [hSw.2.2.2]; rfl)
          try simp only [Act.put, List.setIfInBounds_toArray, List.set_cons_zero, List.set_cons_succ]
          refine wpAnyH_take (i := 10) (v := ?_) (by simp only [List.getElem?_toArray, List.getElem?_cons_succ, List.getElem?_cons_zero]; rfl) (by kernel_rfl) (by kernel_rfl) (by kernel_rfl) (by intro _ _ _ h; exact hpan _ _ _ _ _ h) (Or.inl ⟨by rfl, ?_⟩) (by assumption) ?_
          rotate_left
          · intro w hSw; (try dsimp only at hSw); go_simp; try with_reducible rfl
          try simp only [Act.put, List.setIfInBounds_toArray, List.set_cons_zero, List.set_cons_succ]
          refine wpAnyH_take (i := 11) (v := ?_) (by simp only [List.getElem?_toArray, List.getElem?_cons_succ, List.getElem?_cons_zero]; rfl) (by kernel_rfl) (by kernel_rfl) (by kernel_rfl) (by intro _ _ _ h; exact hpan _ _ _ _ _ h) (Or.inl ⟨by rfl, ?_⟩) (by assumption) ?_
          rotate_left
          · intro w hSw; (try dsimp only at hSw); go_simp; try with_reducible rfl
          try simp only [Act.put, List.setIfInBounds_toArray, List.set_cons_zero, List.set_cons_succ]
          refine wpAnyH_done (by kernel_rfl) ?_ _
          have hE := HX.out (W2.drewN (1 + q)) (belowN (Below.refl _ _))
          have HE : Hid (Pk w0 N mb pk lo cnt f bv ov (W2.drewN (1 + q)) ∧ IMap (W2.drewN (1 + q)) ub 10000 (cntF (occ N)) ∧ BMap (W2.drewN (1 + q)) xb (j + 1) (whoTo N (j + 1))) := Lib.hid ⟨hE.1, hE.2.1, by rw [HWho.out]; exact hE.2.2.mono (by omega)⟩
          clear hE
          go_wp2
          go_roundw
          case rel => exact ⟨j + 1, by omega, by go_num, HE⟩
          case measure => simp [intOf]; omega
      · have hfb : decide (1 + N.ins + (N.holds.length : Int) ≤ x) = false := by simpa using hfx
        rw [if_neg (show ¬ (fstN N ≤ x ∧ c = 1) from fun h => hfx h.1)] at hwho
        have HWho := Lib.hid hwho
        clear hwho
        go_wp2_with fail
        rw [← HW2.out]
        refine wp_region_held_drew (S := fun w' => w'.cell? ⟨wr.heap.size, 0, none⟩ = some (.int .i64 x) ∧ w'.cell? ⟨pk, 3, none⟩ = some (.int .i64 N.ins) ∧ w'.cell? ⟨pk, 4, none⟩ = some (.slice (some ⟨b, off, none⟩) N.holds.length N.hc) ∧ (Instr.lookup 68 (.map (some ub)) (.int .i64 x) false).run Try.prog w' = .ok (.int .i64 c) w') (by kernel_rfl) (⟨q0, s3, s4, HLk.out _ (Below.refl _ _).drew⟩) (fun hHeld => ?_)
        refine wpAnyH_take (i := 0) (v := ?_) (by simp only [List.getElem?_toArray, List.getElem?_cons_succ, List.getElem?_cons_zero]; rfl) (by kernel_rfl) (by kernel_rfl) (by kernel_rfl) (by intro _ _ _ h; exact hpan _ _ _ _ _ h) (Or.inl ⟨by rfl, ?_⟩) (by assumption) ?_
        rotate_left
        · intro w hSw; (try dsimp only at hSw); go_simp; try with_reducible rfl
        try simp only [Act.put, List.setIfInBounds_toArray, List.set_cons_zero, List.set_cons_succ]
        refine wpAnyH_take (i := 1) (v := ?_) (by simp only [List.getElem?_toArray, List.getElem?_cons_succ, List.getElem?_cons_zero]; rfl) (by kernel_rfl) (by kernel_rfl) (by kernel_rfl) (by intro _ _ _ h; exact hpan _ _ _ _ _ h) (Or.inl ⟨by rfl, ?_⟩) (by assumption) ?_
        rotate_left
        · intro w hSw; (try dsimp only at hSw); go_simp; try with_reducible rfl
        try simp only [Act.put, List.setIfInBounds_toArray, List.set_cons_zero, List.set_cons_succ]
        refine wpAnyH_take (i := 2) (v := ?_) (by simp only [List.getElem?_toArray, List.getElem?_cons_succ, List.getElem?_cons_zero]; rfl) (by kernel_rfl) (by kernel_rfl) (by kernel_rfl) (by intro _ _ _ h; exact hpan _ _ _ _ _ h) (Or.inl ⟨by rfl, ?_⟩) (by assumption) ?_
        rotate_left
        · intro w hSw; (try dsimp only at hSw); go_simp; try with_reducible rfl
        try simp only [Act.put, List.setIfInBounds_toArray, List.set_cons_zero, List.set_cons_succ]
        refine wpAnyH_ready (rs := [3]) (by kernel_rfl) (by simp) ?_
        refine AllReadyH.cons (o := _) (by simp only [List.getElem?_toArray, List.getElem?_cons_succ, List.getElem?_cons_zero]; rfl) (fun K hK => ?_) AllReadyH.nil
        go_simp
        go_at_call 38
        refine (first38 _ pk N.holds.length 0 N.hc N.ins _ hinsI hins hhol (by assumption) (by assumption)).mono ?_
        rintro e w7 ⟨rfl, q, rfl⟩
        go_simp
        refine hK.out _ _ (by exact ⟨q0, s3, s4, HLk.out _ (belowN (Below.refl _ _))⟩) (fun hHeld => ?_)
        clear hK K
        try simp only [Act.put, List.setIfInBounds_toArray, List.set_cons_zero, List.set_cons_succ]
        refine wpAnyH_take (i := 4) (v := ?_) (by simp only [List.getElem?_toArray, List.getElem?_cons_succ, List.getElem?_cons_zero]; rfl) (by kernel_rfl) (by kernel_rfl) (by kernel_rfl) (by intro _ _ _ h; exact hpan _ _ _ _ _ h) (Or.inl ⟨by rfl, ?_⟩) (by assumption) ?_
        rotate_left
        · intro w hSw; (try dsimp only at hSw); go_simp; try with_reducible rfl
        try simp only [Act.put, List.setIfInBounds_toArray, List.set_cons_zero, List.set_cons_succ]
        refine wpAnyH_take (i := 5) (v := ?_) (by simp only [List.getElem?_toArray, List.getElem?_cons_succ, List.getElem?_cons_zero]; rfl) (by kernel_rfl) (by kernel_rfl) (by kernel_rfl) (by intro _ _ _ h; exact hpan _ _ _ _ _ h) (Or.inl ⟨by rfl, ?_⟩) (by assumption) ?_
        rotate_left
        · intro w hSw; (try dsimp only at hSw); go_simp; try with_reducible rfl
        try simp only [Act.put, List.setIfInBounds_toArray, List.set_cons_zero, List.set_cons_succ]
        refine wpAnyH_take (i := 6) (v := undef) (by simp only [List.getElem?_toArray, List.getElem?_cons_succ, List.getElem?_cons_zero]; rfl) (by kernel_rfl) (by kernel_rfl) (by kernel_rfl) (by intro _ _ _ h; exact hpan _ _ _ _ _ h) (Or.inr ⟨by rfl, rfl⟩) (by assumption) ?_
        try simp only [Act.put, List.setIfInBounds_toArray, List.set_cons_zero, List.set_cons_succ]
        refine wpAnyH_take (i := 7) (v := undef) (by simp only [List.getElem?_toArray, List.getElem?_cons_succ, List.getElem?_cons_zero]; rfl) (by kernel_rfl) (by kernel_rfl) (by kernel_rfl) (by intro _ _ _ h; exact hpan _ _ _ _ _ h) (Or.inr ⟨by rfl, rfl⟩) (by assumption) ?_
        try simp only [Act.put, List.setIfInBounds_toArray, List.set_cons_zero, List.set_cons_succ]
        refine wpAnyH_take (i := 8) (v := undef) (by simp only [List.getElem?_toArray, List.getElem?_cons_succ, List.getElem?_cons_zero]; rfl) (by kernel_rfl) (by kernel_rfl) (by kernel_rfl) (by intro _ _ _ h; exact hpan _ _ _ _ _ h) (Or.inr ⟨by rfl, rfl⟩) (by assumption) ?_
        try simp only [Act.put, List.setIfInBounds_toArray, List.set_cons_zero, List.set_cons_succ]
        refine wpAnyH_take (i := 9) (v := undef) (by simp only [List.getElem?_toArray, List.getElem?_cons_succ, List.getElem?_cons_zero]; rfl) (by kernel_rfl) (by kernel_rfl) (by kernel_rfl) (by intro _ _ _ h; exact hpan _ _ _ _ _ h) (Or.inr ⟨by rfl, rfl⟩) (by assumption) ?_
        try simp only [Act.put, List.setIfInBounds_toArray, List.set_cons_zero, List.set_cons_succ]
        refine wpAnyH_take (i := 10) (v := undef) (by simp only [List.getElem?_toArray, List.getElem?_cons_succ, List.getElem?_cons_zero]; rfl) (by kernel_rfl) (by kernel_rfl) (by kernel_rfl) (by intro _ _ _ h; exact hpan _ _ _ _ _ h) (Or.inr ⟨by rfl, rfl⟩) (by assumption) ?_
        try simp only [Act.put, List.setIfInBounds_toArray, List.set_cons_zero, List.set_cons_succ]
        refine wpAnyH_take (i := 11) (v := ?_) (by simp only [List.getElem?_toArray, List.getElem?_cons_succ, List.getElem?_cons_zero]; rfl) (by kernel_rfl) (by kernel_rfl) (by kernel_rfl) (by intro _ _ _ h; exact hpan _ _ _ _ _ h) (Or.inl ⟨by rfl, ?_⟩) (by assumption) ?_
        rotate_left
        · intro w hSw; (try dsimp only at hSw); go_simp; try with_reducible rfl
        try simp only [Act.put, List.setIfInBounds_toArray, List.set_cons_zero, List.set_cons_succ]
        refine wpAnyH_done (by kernel_rfl) ?_ _
        have hE := HX.out (W2.drewN (1 + q)) (belowN (Below.refl _ _))
        have HE : Hid (Pk w0 N mb pk lo cnt f bv ov (W2.drewN (1 + q)) ∧ IMap (W2.drewN (1 + q)) ub 10000 (cntF (occ N)) ∧ BMap (W2.drewN (1 + q)) xb (j + 1) (whoTo N (j + 1))) := Lib.hid ⟨hE.1, hE.2.1, by rw [HWho.out]; exact hE.2.2.mono (by omega)⟩
        clear hE
        go_wp2
        go_roundw
        case rel => exact ⟨j + 1, by omega, by go_num, HE⟩
        case measure => simp [intOf]; omega
    · obtain rfl : j = N.holds.length := by omega
      have he : Hid (Pk w0 N mb pk lo cnt f bv ov wr ∧ BMap wr xb N.holds.length (whoF N)) := Lib.hid ⟨hp, hx⟩
      go_wp2
      exact he
end Go.Proofs.Ytibimdhmfchcoaa

/- C3 -/
namespace Go.Proofs.Ytibimdhmfchcoaa
open Go.RowKit Go.Shelf Go.Maps
set_option linter.unusedVariables false
set_option linter.unusedSimpArgs false
theorem Pk.mono {w wr : World} {N : NetV} {mb pk lo cnt cnt2 : Nat} {f : Int → Int} {bv ov : Value} (h : Pk w N mb pk lo cnt f bv ov wr) (hc : cnt ≤ cnt2) : Pk w N mb pk lo cnt2 f bv ov wr :=
  ⟨h.below, h.ltm, h.ltp, h.nmp, h.lm, h.lp, h.lo', h.n0, h.n1, h.n2, h.n3, h.res, h.p0, h.p1, h.p2, h.p3, h.p4, h.p5, h.p6, h.p7, h.fz, h.map.mono hc⟩

set_option maxRecDepth 100000 in
set_option maxHeartbeats 8000000 in
theorem packL3 (Q : Exit → Act → World → Prop) (hpan : ∀ c (d : Option Tmp) v a w, Q (.panic c) (a.put d v) w → Q (.panic c) a w) (w0 w : World) (N : NetV) (hins : N.ins ≤ 100) (hins0 : 0 ≤ N.ins) (hhol : N.holds.length ≤ 100) (n : Nat) (hn : n ≤ 200) (mb pk lo h cnt c2 xb : Nat) (hcnt : cnt ≤ 1000) (g : Int → Bool) (bv ov : Value) (hxb : xb < lo) (hnm : xb ≠ mb) (hst : Hid (Pk w0 N mb pk lo cnt (wireTo N g 0) bv ov w ∧ BMap w xb c2 g))
    (s0 s2 s3 s5 s6 s8 s9 s11 s12 s13 s14 s15 s16 s17 s18 s19 s20 s21 s22 s23 s24 s25 s26 s27 s28 s29 s30 s31 s32 s33 s34 s35 s36 s37 s38 s39 s40 s41 s42 s43 s44 s45 s46 s47 s48 s49 s50 s51 s52 s53 s54 s55 s56 s57 s58 s59 s60 s61 s62 s63 s64 s65 s66 s67 s68 s69 s70 s71 s72 s73 s74 s75 s76 s77 s78 s79 s80 s81 s84 s85 s86 s87 s88 s89 s90 s91 s92 s93 s94 s95 s96 s97 s98 s99 s100 s101 s102 s103 s104 s105 s106 s107 s108 s109 s110 s111 s112 s113 s114 s115 s116 s117 s118 s119 s120 s121 s122 s123 s124 s125 s126 s127 s128 s129 s130 s131 s132 s133 s134 s135 s136 s137 s138 s139 s140 s141 s142 s143 s144 s145 s146 s147 s148 s149 s150 s151 s152 s153 s154 s155 s156 s157 s158 s159 s160 s161 s162 s163 s164 s165 s166 s167 s168 s169 s170 s171 s172 s173 s174 s175 s176 s177 s178 s179 s180 s181 s182 s183 s184 s185 s186 s187 s188 s189 s190 s191 s192 s193 s194 s195 s196 s197 s198 s199 s200 s201 s202 s203 s204 s205 s206 s207 s208 s209 s210 s211 s212 s213 s214 s215 s216 s217 s218 s219 s220 s221 s222 s223 s224 s225 s226 s227 s228 s229 s230 s231 s232 s233 s234 s235 s236 s237 s238 s239 s240 s241 s242 s243 s244 s245 s246 s247 s248 s249 : Value)
    (hexit : ∀ (r11 r12 r83 r84 r85 r86 r87 r88 r89 r90 r91 r92 r93 r94 r95 r96 r97 r98 r99 r100 r101 r102 : Value) (w' : World), Hid (Pk w0 N mb pk lo (cnt + n) (wireTo N g n) bv ov w' ∧ BMap w' xb c2 g) → Q .normal { tmps := #[s0, .pointer (some ⟨h, 0, none⟩), s2, s3, .pointer (some ⟨pk, 0, none⟩), s5, s6, .map (some xb), s8, s9, .int .i64 (nextTo N g n), r11, r12, s13, s14, s15, s16, s17, s18, s19, s20, s21, s22, s23, s24, s25, s26, s27, s28, s29, s30, s31, s32, s33, s34, s35, s36, s37, s38, s39, s40, s41, s42, s43, s44, s45, s46, s47, s48, s49, s50, s51, s52, s53, s54, s55, s56, s57, s58, s59, s60, s61, s62, s63, s64, s65, s66, s67, s68, s69, s70, s71, s72, s73, s74, s75, s76, s77, s78, s79, s80, s81, .int .i64 (n : Int), r83, r84, r85, r86, r87, r88, r89, r90, r91, r92, r93, r94, r95, r96, r97, r98, r99, r100, r101, r102, s103, s104, s105, s106, s107, s108, s109, s110, s111, s112, s113, s114, s115, s116, s117, s118, s119, s120, s121, s122, s123, s124, s125, s126, s127, s128, s129, s130, s131, s132, s133, s134, s135, s136, s137, s138, s139, s140, s141, s142, s143, s144, s145, s146, s147, s148, s149, s150, s151, s152, s153, s154, s155, s156, s157, s158, s159, s160, s161, s162, s163, s164, s165, s166, s167, s168, s169, s170, s171, s172, s173, s174, s175, s176, s177, s178, s179, s180, s181, s182, s183, s184, s185, s186, s187, s188, s189, s190, s191, s192, s193, s194, s195, s196, s197, s198, s199, s200, s201, s202, s203, s204, s205, s206, s207, s208, s209, s210, s211, s212, s213, s214, s215, s216, s217, s218, s219, s220, s221, s222, s223, s224, s225, s226, s227, s228, s229, s230, s231, s232, s233, s234, s235, s236, s237, s238, s239, s240, s241, s242, s243, s244, s245, s246, s247, s248, s249], defers := [] } w') :
    ((Try.f16.body.bind (loopAt 18)).getD .skip).wp Try.prog (Exit.inBlock 4 Q) { tmps := #[s0, .pointer (some ⟨h, 0, none⟩), s2, s3, .pointer (some ⟨pk, 0, none⟩), s5, s6, .map (some xb), s8, s9, .int .i64 (N.ins + (N.holds.length : Int)), s11, s12, s13, s14, s15, s16, s17, s18, s19, s20, s21, s22, s23, s24, s25, s26, s27, s28, s29, s30, s31, s32, s33, s34, s35, s36, s37, s38, s39, s40, s41, s42, s43, s44, s45, s46, s47, s48, s49, s50, s51, s52, s53, s54, s55, s56, s57, s58, s59, s60, s61, s62, s63, s64, s65, s66, s67, s68, s69, s70, s71, s72, s73, s74, s75, s76, s77, s78, s79, s80, s81, .int .i64 (n : Int), .int .i64 0, s84, s85, s86, s87, s88, s89, s90, s91, s92, s93, s94, s95, s96, s97, s98, s99, s100, s101, s102, s103, s104, s105, s106, s107, s108, s109, s110, s111, s112, s113, s114, s115, s116, s117, s118, s119, s120, s121, s122, s123, s124, s125, s126, s127, s128, s129, s130, s131, s132, s133, s134, s135, s136, s137, s138, s139, s140, s141, s142, s143, s144, s145, s146, s147, s148, s149, s150, s151, s152, s153, s154, s155, s156, s157, s158, s159, s160, s161, s162, s163, s164, s165, s166, s167, s168, s169, s170, s171, s172, s173, s174, s175, s176, s177, s178, s179, s180, s181, s182, s183, s184, s185, s186, s187, s188, s189, s190, s191, s192, s193, s194, s195, s196, s197, s198, s199, s200, s201, s202, s203, s204, s205, s206, s207, s208, s209, s210, s211, s212, s213, s214, s215, s216, s217, s218, s219, s220, s221, s222, s223, s224, s225, s226, s227, s228, s229, s230, s231, s232, s233, s234, s235, s236, s237, s238, s239, s240, s241, s242, s243, s244, s245, s246, s247, s248, s249], defers := [] } w := by
  conv => arg 2; whnf
  dsimp only
  have hinsI : I64 N.ins := ⟨by omega, by omega⟩
  go_loopw [10, 83] (fun nv iv wr => ∃ i : Nat, i ≤ n ∧ iv = .int .i64 i ∧ nv = .int .i64 (nextTo N g i) ∧ Hid (Pk w0 N mb pk lo (cnt + i) (wireTo N g i) bv ov wr ∧ BMap wr xb c2 g)) (fun _ iv _ => n - (intOf iv).toNat)
  case atStart => exact ⟨0, by omega, rfl, rfl, hst⟩
  case round =>
    obtain ⟨i, hi, rfl, rfl, hh⟩ := hrel
    obtain ⟨hp, hx⟩ := hh.out
    by_cases hlt : i < n
    · have s3 := hp.p3
      have s4 := hp.p4
      obtain ⟨nx, hnx⟩ : ∃ z, z = nextTo N g i := ⟨_, rfl⟩
      have hnb := nextTo_bound N g i
      rw [← hnx] at hnb ⊢
      have hwt : wireTo N g (i + 1) = if g (fstN N + i) then wireTo N g i else fun x => if x = fstN N + i then nextTo N g i else wireTo N g i x := rfl
      have hnt : nextTo N g (i + 1) = if g (fstN N + i) then nextTo N g i else nextTo N g i + 1 := rfl
      rw [← hnx] at hwt hnt
      have hfI : I64 (1 + N.ins + (N.holds.length : Int) + i) := ⟨by omega, by omega⟩
      obtain ⟨gb, hgb⟩ : ∃ b, b = g (1 + N.ins + (N.holds.length : Int) + i) := ⟨_, rfl⟩
      have hgb' : g (fstN N + i) = gb := hgb.symm
      rw [hgb'] at hwt hnt
      have HX : Hid (∀ q, Pk w0 N mb pk lo (cnt + i) (wireTo N g i) bv ov (wr.drewN q) ∧ BMap (wr.drewN q) xb c2 g) := Lib.hid (fun q => ⟨hp.drewN q, hx.below (belowN (Below.refl _ _)) (by have := hp.lo'; omega)⟩)
      have HWt := Lib.hid hwt
      have HNt := Lib.hid hnt
      have HGb := Lib.hid hgb
      clear hp hx hwt hnt hgb' hgb hnx
      go_wp2_with fail
      refine (first38 _ pk N.holds.length 0 N.hc N.ins _ hinsI hins hhol (by assumption) (by assumption)).mono ?_
      rintro e w7 ⟨rfl, q, rfl⟩
      obtain ⟨hp, hx⟩ := HX.out q
      have hlk := hx.look (1 + N.ins + (N.holds.length : Int) + i) hfI
      rw [← HGb.out] at hlk
      have p7 := hp.p7
      cases gb
      · obtain ⟨w5, hput, hm5, hg5⟩ := hp.map.put (1 + N.ins + (N.holds.length : Int) + i) nx hfI ⟨by omega, by omega⟩ (by omega)
        have hm5 : IMap w5 mb (cnt + (i + 1)) (wireTo N g (i + 1)) := by rw [HWt.out]; exact hm5
        have HE : Hid (Pk w0 N mb pk lo (cnt + (i + 1)) (wireTo N g (i + 1)) bv ov w5 ∧ BMap w5 xb c2 g) := Lib.hid ⟨hp.put hm5 hg5, hx.kept hg5 (by intro e; injection e with e; exact hnm e)⟩
        clear hp hx hm5 hg5
        go_wp2
        go_roundw
        case rel => exact ⟨i + 1, by omega, by go_num, by rw [HNt.out]; rfl, HE⟩
        case measure => simp [intOf]; omega
      · have HE : Hid (Pk w0 N mb pk lo (cnt + (i + 1)) (wireTo N g (i + 1)) bv ov (wr.drewN q) ∧ BMap (wr.drewN q) xb c2 g) := Lib.hid ⟨by rw [HWt.out]; exact hp.mono (by omega), hx⟩
        clear hp hx
        go_wp2
        go_roundw
        case rel => exact ⟨i + 1, by omega, by go_num, by rw [HNt.out]; rfl, HE⟩
        case measure => simp [intOf]; omega
    · obtain rfl : i = n := by omega
      go_wp2
      exact hh
end Go.Proofs.Ytibimdhmfchcoaa
