import Derived.Test.YtibimdhmfchcoaaC2
import Derived.Test.YtibimdhmfchcoaaU41
import Derived.Test.YtibimdhmfchcoaaC1
namespace Go.Proofs.Ytibimdhmfchcoaa
open Go.RowKit Go.Shelf Go.Maps
set_option linter.unusedVariables false
set_option linter.unusedSimpArgs false
/-- What the reference's slots of wires tell. -/
def refM (N : NetV) (j : Nat) : Int → Int := fun x => if whoTo N j x then -2 else if x = 0 then -1 else insTo (N.ins + N.holds.length).toNat x
def refW (N : NetV) (i : Nat) : Int → Int := fun x => if whoF N x then -2 else if x = 0 then -1 else wireTo N (whoF N) i x
theorem refM_all (N : NetV) : refM N N.holds.length = refW N 0 := rfl
theorem refW_bound (N : NetV) (h0 : 0 ≤ N.ins) (i : Nat) (x : Int) : -2 ≤ refW N i x ∧ refW N i x ≤ N.ins + N.holds.length + i := by
  have := wireTo_bound N (whoF N) h0 i x
  unfold refW; split
  · omega
  · split <;> omega
theorem refW_who (N : NetV) (h0 : 0 ≤ N.ins) (i : Nat) (x : Int) : refW N i x = -2 ↔ whoF N x = true := by
  have := wireTo_bound N (whoF N) h0 i x
  unfold refW
  by_cases hw : whoF N x = true
  · rw [if_pos hw]; simp [hw]
  · rw [if_neg hw]
    constructor
    · intro h; split at h <;> omega
    · intro h; exact absurd h hw

structure Rw (w : World) (N : NetV) (wb lo L : Nat) (f : Int → Int) (wr : World) : Prop where
  below : Below w.heap.size w wr
  ltw : w.heap.size + 2 ≤ wb
  lw : wb < lo
  lo' : lo ≤ wr.heap.size
  n0 : wr.cell? ⟨w.heap.size, 0, none⟩ = some (.int .i64 N.ins)
  n1 : wr.cell? ⟨w.heap.size, 1, none⟩ = some (.slice N.ha N.holds.length N.hc)
  n2 : wr.cell? ⟨w.heap.size, 2, none⟩ = some (.slice N.la N.luts.length N.lc)
  n3 : wr.cell? ⟨w.heap.size, 3, none⟩ = some (.slice N.oa N.outs.length N.oc)
  res : wr.heap[w.heap.size + 1]? = some (.cells #[.int .i64 0, .slice none 0 0, .slice none 0 0] 31)
  ws : ∀ i, i < L → wr.cell? ⟨wb, i, none⟩ = some (.int .i64 (f i))
  wf : ∀ i, wr.frozen? ⟨wb, i, none⟩ = false
section
variable {w wr w' : World} {N : NetV} {wb lo L : Nat} {f : Int → Int}
theorem Rw.low (h : Rw w N wb lo L f wr) (hb : Below lo wr w') : Rw w N wb lo L f w' := by
  have hs := hb.size
  have h1 := h.ltw; have h2 := h.lw; have h3 := h.lo'
  have cl : ∀ {b j : Nat} {v : Value}, b < lo → wr.cell? ⟨b, j, none⟩ = some v → w'.cell? ⟨b, j, none⟩ = some v := fun hl h => (hb.cell (p := ⟨_, _, none⟩) hl).trans h
  exact ⟨h.below.trans (hb.mono (by omega)), h1, h2, by omega, cl (by omega) h.n0, cl (by omega) h.n1, cl (by omega) h.n2, cl (by omega) h.n3, (hb.block _ (by omega)).trans h.res, fun i hi => cl (by omega) (h.ws i hi), fun i => (hb.frozen (p := ⟨_, _, none⟩) h2).trans (h.wf i)⟩
theorem Rw.side (h : Rw w N wb lo L f wr) {b : Nat} (hg : wr.grownBy w' (some b)) (h1 : w.heap.size + 2 ≤ b) (h2 : b ≠ wb) : Rw w N wb lo L f w' := by
  have hs := hg.size
  have a1 := h.ltw; have a2 := h.lw; have a3 := h.lo'
  have cl : ∀ {c j : Nat} {v : Value}, c < lo → c ≠ b → wr.cell? ⟨c, j, none⟩ = some v → w'.cell? ⟨c, j, none⟩ = some v := fun hl hne h => (World.cell?_of_block (a := ⟨_, _, none⟩) (hg.block _ (by simp only; omega) (by intro e; injection e with e; exact hne e))).trans h
  exact ⟨h.below.grown hg (by omega) (fun k e => by injection e with e; omega), a1, a2, by omega, cl (by omega) (by omega) h.n0, cl (by omega) (by omega) h.n1, cl (by omega) (by omega) h.n2, cl (by omega) (by omega) h.n3,
    (hg.block _ (by omega) (by intro e; injection e with e; omega)).trans h.res, fun i hi => cl (by omega) (fun e => h2 e.symm) (h.ws i hi),
    fun i => (World.frozen?_of_block (a := ⟨_, _, none⟩) (hg.block _ (by simp only; omega) (by intro e; injection e with e; exact h2 e.symm))).trans (h.wf i)⟩
theorem Rw.set (h : Rw w N wb lo L f wr) {i : Nat} (hi : i < L) (v : Int) : Rw w N wb lo L (fun x => if x = i then v else f x) (wr.setCell ⟨wb, i, none⟩ (.int .i64 v)) := by
  have a1 := h.ltw; have a2 := h.lw; have a3 := h.lo'
  have hg := grownBy_set wr wb i (.int .i64 v)
  exact ⟨h.below.grown hg (by omega) (fun k e => by injection e with e; omega), a1, a2, by rw [set_size]; exact a3, (cell?_set_far (by omega)).trans h.n0, (cell?_set_far (by omega)).trans h.n1, (cell?_set_far (by omega)).trans h.n2, (cell?_set_far (by omega)).trans h.n3,
    (hg.block _ (by omega) (by intro e; injection e with e; omega)).trans h.res, fun j hj => by
      by_cases e : j = i
      · subst e
        show _ = some (Value.int .i64 (if (j : Int) = (j : Int) then v else f j))
        rw [if_pos rfl]; exact cell?_set_own (h.ws j hj)
      · show _ = some (Value.int .i64 (if (j : Int) = (i : Int) then v else f j))
        rw [if_neg (by omega)]; exact set_keep (h.ws j hj) e,
    fun j => by rw [set_frozen]; exact h.wf j⟩
theorem Rw.ext (h : Rw w N wb lo L f wr) {g : Int → Int} (e : f = g) : Rw w N wb lo L g wr := e ▸ h
theorem Rw.relo (h : Rw w N wb lo L f wr) {lo2 : Nat} (h1 : lo ≤ lo2) (h2 : lo2 ≤ wr.heap.size) : Rw w N wb lo2 L f wr :=
  ⟨h.below, h.ltw, by have := h.lw; omega, h2, h.n0, h.n1, h.n2, h.n3, h.res, h.ws, h.wf⟩
end
theorem refIns_step (i : Nat) : (fun x => if x = ((1 + i : Nat) : Int) then (i : Int) else if x = 0 then -1 else insTo i x) = (fun x => if x = 0 then -1 else insTo (i + 1) x) := by
  funext x
  rw [← insTo_succ]
  dsimp only
  by_cases h : x = ((1 + i : Nat) : Int)
  · rw [if_pos h, if_neg (by omega), if_pos (by omega)]
  · rw [if_neg h]
    by_cases h0 : x = 0
    · rw [if_pos h0, if_pos h0]
    · rw [if_neg h0, if_neg h0, if_neg (by omega)]
theorem refW_step (N : NetV) (h0 : 0 ≤ N.ins) (i n : Nat) (hn : (n : Int) = fstN N + i) (hw : whoF N (fstN N + i) = false) : (fun x => if x = (n : Int) then nextTo N (whoF N) i else refW N i x) = refW N (i + 1) := by
  funext x
  unfold refW
  have hwt : wireTo N (whoF N) (i + 1) = fun x => if x = fstN N + i then nextTo N (whoF N) i else wireTo N (whoF N) i x := by
    show (if whoF N (fstN N + i) then _ else _) = _
    rw [hw]; rfl
  rw [hwt]
  dsimp only
  by_cases h : x = (n : Int)
  · rw [if_pos h, if_neg (by rw [h, hn, hw]; simp), if_neg (by unfold fstN at hn; omega), if_pos (by omega)]
  · rw [if_neg h]
    have : ¬ x = fstN N + i := by omega
    simp only [if_neg this]
theorem refW_keep (N : NetV) (i : Nat) (hw : whoF N (fstN N + i) = true) : refW N i = refW N (i + 1) := by
  funext x
  unfold refW
  have hwt : wireTo N (whoF N) (i + 1) = wireTo N (whoF N) i := by
    show (if whoF N (fstN N + i) then _ else _) = _
    rw [hw]; rfl
  rw [hwt]
theorem refM_step (N : NetV) (j : Nat) (hj : j < N.holds.length) (n : Nat) (hn : (n : Int) = (N.holds.getD j default).d) (hc : fstN N ≤ (N.holds.getD j default).d ∧ cntF (occ N) (N.holds.getD j default).d = 1) :
    (fun x => if x = (n : Int) then -2 else refM N j x) = refM N (j + 1) := by
  funext x
  unfold refM
  rw [whoTo_succ N j hj, if_pos hc]
  by_cases h : x = (n : Int)
  · rw [if_pos h, if_pos (by rw [if_pos (by omega)])]
  · rw [if_neg h]
    simp only [if_neg (show ¬ x = (N.holds.getD j default).d by omega)]
theorem refM_keep (N : NetV) (j : Nat) (hj : j < N.holds.length) (hc : ¬ (fstN N ≤ (N.holds.getD j default).d ∧ cntF (occ N) (N.holds.getD j default).d = 1)) : refM N j = refM N (j + 1) := by
  funext x
  unfold refM
  rw [whoTo_succ N j hj, if_neg hc]

set_option maxRecDepth 100000 in
set_option maxHeartbeats 8000000 in
theorem refL1 (Q : Exit → Act → World → Prop) (hpan : ∀ c (d : Option Tmp) v a w, Q (.panic c) (a.put d v) w → Q (.panic c) a w) (w0 w : World) (N : NetV) (wb lo L h K : Nat) (hK : K ≤ 200) (hKL : K + 1 ≤ L) (hL : L ≤ 500) (hst : Hid (Rw w0 N wb lo L (fun x => if x = 0 then -1 else insTo 0 x) w))
    (s0 s2 s3 s4 s6 s7 s8 s9 s10 s11 s12 s13 s14 s15 s16 s17 s18 s19 s20 s21 s22 s23 s24 s25 s26 s27 s28 s29 s30 s31 s32 s33 s34 s35 s36 s37 s38 s39 s40 s41 s42 s43 s44 s47 s48 s49 s50 s51 s52 s53 s54 s55 s56 s57 s58 s59 s60 s61 s62 s63 s64 s65 s66 s67 s68 s69 s70 s71 s72 s73 s74 s75 s76 s77 s78 s79 s80 s81 s82 s83 s84 s85 s86 s87 s88 s89 s90 s91 s92 s93 s94 s95 s96 s97 s98 s99 s100 s101 s102 s103 s104 s105 s106 s107 s108 s109 s110 s111 s112 s113 s114 s115 s116 s117 s118 s119 s120 s121 s122 s123 s124 s125 s126 s127 s128 s129 s130 s131 s132 s133 s134 s135 s136 s137 s138 s139 s140 s141 s142 s143 s144 s145 s146 s147 s148 s149 s150 s151 s152 s153 s154 s155 s156 s157 s158 s159 s160 s161 s162 s163 s164 s165 s166 s167 s168 s169 s170 s171 s172 s173 s174 s175 s176 s177 s178 s179 s180 s181 s182 s183 s184 s185 s186 s187 s188 s189 s190 s191 s192 s193 s194 s195 s196 s197 s198 s199 s200 s201 s202 s203 s204 s205 s206 s207 s208 s209 s210 s211 s212 s213 s214 s215 s216 s217 s218 s219 s220 s221 s222 s223 s224 s225 s226 s227 s228 s229 s230 s231 s232 s233 s234 s235 s236 s237 s238 s239 s240 s241 s242 s243 s244 s245 s246 s247 s248 : Value)
    (hexit : ∀ (r6 r46 r47 r48 r49 r50 r51 r52 r53 r54 : Value) (w' : World), Hid (Rw w0 N wb lo L (fun x => if x = 0 then -1 else insTo K x) w') → Q .normal { tmps := #[s0, .pointer (some ⟨h, 0, none⟩), s2, s3, s4, .slice (some ⟨wb, 0, none⟩) L L, r6, s7, s8, s9, s10, s11, s12, s13, s14, s15, s16, s17, s18, s19, s20, s21, s22, s23, s24, s25, s26, s27, s28, s29, s30, s31, s32, s33, s34, s35, s36, s37, s38, s39, s40, s41, s42, s43, s44, .int .i64 (K : Int), r46, r47, r48, r49, r50, r51, r52, r53, r54, s55, s56, s57, s58, s59, s60, s61, s62, s63, s64, s65, s66, s67, s68, s69, s70, s71, s72, s73, s74, s75, s76, s77, s78, s79, s80, s81, s82, s83, s84, s85, s86, s87, s88, s89, s90, s91, s92, s93, s94, s95, s96, s97, s98, s99, s100, s101, s102, s103, s104, s105, s106, s107, s108, s109, s110, s111, s112, s113, s114, s115, s116, s117, s118, s119, s120, s121, s122, s123, s124, s125, s126, s127, s128, s129, s130, s131, s132, s133, s134, s135, s136, s137, s138, s139, s140, s141, s142, s143, s144, s145, s146, s147, s148, s149, s150, s151, s152, s153, s154, s155, s156, s157, s158, s159, s160, s161, s162, s163, s164, s165, s166, s167, s168, s169, s170, s171, s172, s173, s174, s175, s176, s177, s178, s179, s180, s181, s182, s183, s184, s185, s186, s187, s188, s189, s190, s191, s192, s193, s194, s195, s196, s197, s198, s199, s200, s201, s202, s203, s204, s205, s206, s207, s208, s209, s210, s211, s212, s213, s214, s215, s216, s217, s218, s219, s220, s221, s222, s223, s224, s225, s226, s227, s228, s229, s230, s231, s232, s233, s234, s235, s236, s237, s238, s239, s240, s241, s242, s243, s244, s245, s246, s247, s248], defers := [] } w') :
    ((Try.f17.body.bind (loopAt 7)).getD .skip).wp Try.prog (Exit.inBlock 0 Q) { tmps := #[s0, .pointer (some ⟨h, 0, none⟩), s2, s3, s4, .slice (some ⟨wb, 0, none⟩) L L, s6, s7, s8, s9, s10, s11, s12, s13, s14, s15, s16, s17, s18, s19, s20, s21, s22, s23, s24, s25, s26, s27, s28, s29, s30, s31, s32, s33, s34, s35, s36, s37, s38, s39, s40, s41, s42, s43, s44, .int .i64 (K : Int), .int .i64 0, s47, s48, s49, s50, s51, s52, s53, s54, s55, s56, s57, s58, s59, s60, s61, s62, s63, s64, s65, s66, s67, s68, s69, s70, s71, s72, s73, s74, s75, s76, s77, s78, s79, s80, s81, s82, s83, s84, s85, s86, s87, s88, s89, s90, s91, s92, s93, s94, s95, s96, s97, s98, s99, s100, s101, s102, s103, s104, s105, s106, s107, s108, s109, s110, s111, s112, s113, s114, s115, s116, s117, s118, s119, s120, s121, s122, s123, s124, s125, s126, s127, s128, s129, s130, s131, s132, s133, s134, s135, s136, s137, s138, s139, s140, s141, s142, s143, s144, s145, s146, s147, s148, s149, s150, s151, s152, s153, s154, s155, s156, s157, s158, s159, s160, s161, s162, s163, s164, s165, s166, s167, s168, s169, s170, s171, s172, s173, s174, s175, s176, s177, s178, s179, s180, s181, s182, s183, s184, s185, s186, s187, s188, s189, s190, s191, s192, s193, s194, s195, s196, s197, s198, s199, s200, s201, s202, s203, s204, s205, s206, s207, s208, s209, s210, s211, s212, s213, s214, s215, s216, s217, s218, s219, s220, s221, s222, s223, s224, s225, s226, s227, s228, s229, s230, s231, s232, s233, s234, s235, s236, s237, s238, s239, s240, s241, s242, s243, s244, s245, s246, s247, s248], defers := [] } w := by
  conv => arg 2; whnf
  dsimp only
  go_loopw [46] (fun iv wr => ∃ i : Nat, i ≤ K ∧ iv = .int .i64 i ∧ Hid (Rw w0 N wb lo L (fun x => if x = 0 then -1 else insTo i x) wr)) (fun iv _ => K - (intOf iv).toNat)
  case atStart => exact ⟨0, by omega, rfl, hst⟩
  case round =>
    obtain ⟨i, hi, rfl, hh⟩ := hrel
    by_cases hlt : i < K
    · have hp := hh.out
      have c0 := hp.ws (1 + i) (by omega)
      have f0 := hp.wf (1 + i)
      have hset := (hp.set (i := 1 + i) (by omega) (i : Int)).ext (refIns_step i)
      have HE := Lib.hid hset
      have hIx : (1 + (i : Int)).toNat = 1 + i := by omega
      have hLL : 1 + i < L := by omega
      clear hset hp
      go_wp2
      go_roundw
      case rel => exact ⟨i + 1, by omega, by go_num, HE⟩
      case measure => simp [intOf]; omega
    · obtain rfl : i = K := by omega
      go_wp2
      exact hh
set_option maxRecDepth 100000 in
set_option maxHeartbeats 8000000 in
theorem refL2 (Q : Exit → Act → World → Prop) (hpan : ∀ c (d : Option Tmp) v a w, Q (.panic c) (a.put d v) w → Q (.panic c) a w) (w0 w : World) (N : NetV) (hN : Hid (NetAt w0 N)) (hf : Hid (Few N)) (hhol : N.holds.length ≤ 100) (hdd : Hid (∀ h ∈ N.holds, 0 ≤ h.d ∧ h.d < fstN N + N.luts.length)) (wb lo L h : Nat) (hLe : Hid (fstN N + N.luts.length = (L : Int))) (ha : Option Addr) (hha : Hid (N.ha = ha)) (hh0 : Hid (w0.heap.size = h)) (hL : L ≤ 500) (hst : Hid (Rw w0 N wb lo L (refM N 0) w))
    (s0 s2 s3 s6 s7 s8 s9 s10 s11 s12 s13 s14 s15 s16 s17 s18 s19 s20 s21 s22 s23 s24 s25 s26 s27 s28 s29 s30 s31 s32 s33 s34 s35 s36 s37 s38 s39 s40 s41 s42 s43 s44 s45 s46 s47 s48 s49 s50 s51 s52 s53 s54 s55 s59 s60 s61 s62 s63 s64 s65 s66 s67 s68 s69 s70 s71 s72 s73 s74 s75 s76 s77 s78 s79 s80 s81 s82 s83 s84 s85 s86 s87 s88 s89 s90 s91 s92 s93 s94 s95 s96 s97 s98 s99 s100 s101 s102 s103 s104 s105 s106 s107 s108 s109 s110 s111 s112 s113 s114 s115 s116 s117 s118 s119 s120 s121 s122 s123 s124 s125 s126 s127 s128 s129 s130 s131 s132 s133 s134 s135 s136 s137 s138 s139 s140 s141 s142 s143 s144 s145 s146 s147 s148 s149 s150 s151 s152 s153 s154 s155 s156 s157 s158 s159 s160 s161 s162 s163 s164 s165 s166 s167 s168 s169 s170 s171 s172 s173 s174 s175 s176 s177 s178 s179 s180 s181 s182 s183 s184 s185 s186 s187 s188 s189 s190 s191 s192 s193 s194 s195 s196 s197 s198 s199 s200 s201 s202 s203 s204 s205 s206 s207 s208 s209 s210 s211 s212 s213 s214 s215 s216 s217 s218 s219 s220 s221 s222 s223 s224 s225 s226 s227 s228 s229 s230 s231 s232 s233 s234 s235 s236 s237 s238 s239 s240 s241 s242 s243 s244 s245 s246 s247 s248 : Value)
    (hexit : ∀ (r8 r58 r59 r60 r61 r62 r63 r64 r65 r66 r67 r68 r69 r70 r71 r72 r73 r74 r75 r76 r77 : Value) (w' : World), Hid (Rw w0 N wb lo L (refW N 0) w') → Q .normal { tmps := #[s0, .pointer (some ⟨h, 0, none⟩), s2, s3, .int .i64 (1 + N.ins + (N.holds.length : Int)), .slice (some ⟨wb, 0, none⟩) L L, s6, s7, r8, s9, s10, s11, s12, s13, s14, s15, s16, s17, s18, s19, s20, s21, s22, s23, s24, s25, s26, s27, s28, s29, s30, s31, s32, s33, s34, s35, s36, s37, s38, s39, s40, s41, s42, s43, s44, s45, s46, s47, s48, s49, s50, s51, s52, s53, s54, s55, .slice ha N.holds.length N.hc, .int .i64 (N.holds.length : Int), r58, r59, r60, r61, r62, r63, r64, r65, r66, r67, r68, r69, r70, r71, r72, r73, r74, r75, r76, r77, s78, s79, s80, s81, s82, s83, s84, s85, s86, s87, s88, s89, s90, s91, s92, s93, s94, s95, s96, s97, s98, s99, s100, s101, s102, s103, s104, s105, s106, s107, s108, s109, s110, s111, s112, s113, s114, s115, s116, s117, s118, s119, s120, s121, s122, s123, s124, s125, s126, s127, s128, s129, s130, s131, s132, s133, s134, s135, s136, s137, s138, s139, s140, s141, s142, s143, s144, s145, s146, s147, s148, s149, s150, s151, s152, s153, s154, s155, s156, s157, s158, s159, s160, s161, s162, s163, s164, s165, s166, s167, s168, s169, s170, s171, s172, s173, s174, s175, s176, s177, s178, s179, s180, s181, s182, s183, s184, s185, s186, s187, s188, s189, s190, s191, s192, s193, s194, s195, s196, s197, s198, s199, s200, s201, s202, s203, s204, s205, s206, s207, s208, s209, s210, s211, s212, s213, s214, s215, s216, s217, s218, s219, s220, s221, s222, s223, s224, s225, s226, s227, s228, s229, s230, s231, s232, s233, s234, s235, s236, s237, s238, s239, s240, s241, s242, s243, s244, s245, s246, s247, s248], defers := [] } w') :
    ((Try.f17.body.bind (loopAt 12)).getD .skip).wp Try.prog (Exit.inBlock 2 Q) { tmps := #[s0, .pointer (some ⟨h, 0, none⟩), s2, s3, .int .i64 (1 + N.ins + (N.holds.length : Int)), .slice (some ⟨wb, 0, none⟩) L L, s6, s7, s8, s9, s10, s11, s12, s13, s14, s15, s16, s17, s18, s19, s20, s21, s22, s23, s24, s25, s26, s27, s28, s29, s30, s31, s32, s33, s34, s35, s36, s37, s38, s39, s40, s41, s42, s43, s44, s45, s46, s47, s48, s49, s50, s51, s52, s53, s54, s55, .slice ha N.holds.length N.hc, .int .i64 (N.holds.length : Int), .int .i64 0, s59, s60, s61, s62, s63, s64, s65, s66, s67, s68, s69, s70, s71, s72, s73, s74, s75, s76, s77, s78, s79, s80, s81, s82, s83, s84, s85, s86, s87, s88, s89, s90, s91, s92, s93, s94, s95, s96, s97, s98, s99, s100, s101, s102, s103, s104, s105, s106, s107, s108, s109, s110, s111, s112, s113, s114, s115, s116, s117, s118, s119, s120, s121, s122, s123, s124, s125, s126, s127, s128, s129, s130, s131, s132, s133, s134, s135, s136, s137, s138, s139, s140, s141, s142, s143, s144, s145, s146, s147, s148, s149, s150, s151, s152, s153, s154, s155, s156, s157, s158, s159, s160, s161, s162, s163, s164, s165, s166, s167, s168, s169, s170, s171, s172, s173, s174, s175, s176, s177, s178, s179, s180, s181, s182, s183, s184, s185, s186, s187, s188, s189, s190, s191, s192, s193, s194, s195, s196, s197, s198, s199, s200, s201, s202, s203, s204, s205, s206, s207, s208, s209, s210, s211, s212, s213, s214, s215, s216, s217, s218, s219, s220, s221, s222, s223, s224, s225, s226, s227, s228, s229, s230, s231, s232, s233, s234, s235, s236, s237, s238, s239, s240, s241, s242, s243, s244, s245, s246, s247, s248], defers := [] } w := by
  conv => arg 2; whnf
  dsimp only
  go_loopw [58] (fun iv wr => ∃ j : Nat, j ≤ N.holds.length ∧ iv = .int .i64 j ∧ Hid (Rw w0 N wb lo L (refM N j) wr)) (fun iv _ => N.holds.length - (intOf iv).toNat)
  case atStart => exact ⟨0, by omega, rfl, hst⟩
  case round =>
    obtain ⟨j, hj, rfl, hh⟩ := hrel
    have hp := hh.out
    by_cases hlt : j < N.holds.length
    · obtain ⟨b, off, hLa0, hbb, hcs⟩ := (hN.out.below hp.below (Nat.le_refl _)).holds.at (2 * j) (by omega)
      have d0 := hcs (j * 2) (by omega)
      have d1 := hcs (j * 2 + 1) (by omega)
      simp only [holdCell] at d0 d1
      rw [if_pos (by omega), show j * 2 / 2 = j by omega] at d0
      rw [if_neg (by omega), show (j * 2 + 1) / 2 = j by omega, ← Nat.add_assoc] at d1
      have hxU := hdd.out _ (getD_mem N.holds default hlt)
      have hst1 := refM_step N j hlt
      have hkp := refM_keep N j hlt
      obtain ⟨hd, hhd⟩ : ∃ z, z = N.holds.getD j default := ⟨_, rfl⟩
      rw [← hhd] at d0 d1 hxU hst1 hkp
      obtain ⟨x, xi⟩ := hd
      dsimp only at d0 d1 hxU hst1 hkp
      obtain ⟨xn, rfl⟩ : ∃ n : Nat, x = n := ⟨x.toNat, by omega⟩
      obtain ⟨W2, hW2⟩ : ∃ W2, W2 = wr.alloc (Obj.cells #[Value.int IntKind.i64 xn, Value.bool xi] 63) := ⟨_, rfl⟩
      have hb2 : Below wr.heap.size wr W2 := by rw [hW2]; exact (Below.refl _ _).alloc (Nat.le_refl _) _
      have hlo := hp.lo'
      have hp2 := hp.low (hb2.mono hlo)
      have q0 : W2.cell? ⟨wr.heap.size, 0, none⟩ = some (.int .i64 xn) := by rw [hW2]; simp
      have hz2 : W2.heap.size = wr.heap.size + 1 := by rw [hW2]; simp
      have HZ2 := Lib.hid hz2
      have HX := Lib.hid hp2
      have HS1 := Lib.hid hst1
      have HKp := Lib.hid hkp
      have HxU := Lib.hid hxU
      have HD := Lib.hid (And.intro hp2.n0 (And.intro hp2.n1 (And.intro hp2.n2 hp2.n3)))
      have HW2 := Lib.hid hW2
      clear hW2 hp hp2 hcs hhd hst1 hkp hb2 hxU hz2
      rw [hha.out] at hLa0
      subst hLa0
      by_cases hfx : 1 + N.ins + (N.holds.length : Int) ≤ (xn : Int)
      · have hfb : decide (1 + N.ins + (N.holds.length : Int) ≤ (xn : Int)) = true := by simpa using hfx
        have HFx := Lib.hid hfx
        clear hfx
        have n0 := HD.out.1
        have n1 := HD.out.2.1
        have n2 := HD.out.2.2.1
        have n3 := HD.out.2.2.2
        rw [hh0.out] at n0 n1 n2 n3
        rw [HW2.out] at n0 n1 n2 n3 q0
        go_wp2_with fail
        rw [← HW2.out]
        refine (uses41 W2 N (hN.out.below HX.out.below (Nat.le_refl _)) hf.out xn).mono ?_
        rintro e w5 ⟨rfl, hb5⟩
        obtain ⟨c, hc⟩ : ∃ c, c = cntF (occ N) xn := ⟨_, rfl⟩
        rw [← hc]
        have hw5 := HX.out.low (hb5.mono HX.out.lo')
        have c0 := hw5.ws xn (by have := HxU.out; have := hLe.out; omega)
        have f0 := hw5.wf xn
        have q5 : w5.cell? ⟨wr.heap.size, 0, none⟩ = some (.int .i64 xn) := (hb5.cell (p := ⟨_, _, none⟩) (by have := HZ2.out; simp only; omega)).trans (HW2.out ▸ q0)
        have HXL : xn < L := by have := HxU.out; have := hLe.out; omega
        have H5 := Lib.hid hw5
        clear hw5 hb5
        by_cases hc1 : c = 1
        · have hcb : (c == 1) = true := by simpa using hc1
          have HE : Hid (Rw w0 N wb lo L (refM N (j + 1)) (w5.setCell ⟨wb, xn, none⟩ (.int .i64 (-2)))) := Lib.hid ((H5.out.set HXL (-2)).ext (HS1.out xn rfl ⟨HFx.out, by rw [← hc]; exact hc1⟩))
          clear hc hc1
          go_wp2
          go_roundw
          case rel => exact ⟨j + 1, by omega, by go_num, HE⟩
          case measure => simp [intOf]; omega
        · have hcb : (c == 1) = false := by simpa using hc1
          have HE : Hid (Rw w0 N wb lo L (refM N (j + 1)) w5) := Lib.hid (H5.out.ext (HKp.out (fun h => hc1 (by rw [hc]; exact h.2))))
          clear hc hc1
          go_wp2
          go_roundw
          case rel => exact ⟨j + 1, by omega, by go_num, HE⟩
          case measure => simp [intOf]; omega
      · have hfb : decide (1 + N.ins + (N.holds.length : Int) ≤ (xn : Int)) = false := by simpa using hfx
        have HE : Hid (Rw w0 N wb lo L (refM N (j + 1)) W2) := Lib.hid (HX.out.ext (HKp.out (fun h => hfx h.1)))
        clear hfx
        rw [HW2.out] at q0 HE
        go_wp2
        go_roundw
        case rel => exact ⟨j + 1, by omega, by go_num, HE⟩
        case measure => simp [intOf]; omega
    · obtain rfl : j = N.holds.length := by omega
      go_wp2
      exact hh
set_option maxRecDepth 100000 in
set_option maxHeartbeats 8000000 in
theorem refL3 (Q : Exit → Act → World → Prop) (hpan : ∀ c (d : Option Tmp) v a w, Q (.panic c) (a.put d v) w → Q (.panic c) a w) (w0 w : World) (N : NetV) (hins : N.ins ≤ 100) (hins0 : 0 ≤ N.ins) (hhol : N.holds.length ≤ 100) (n : Nat) (hn : n ≤ 200) (wb lo L h : Nat) (hLe : 1 + N.ins + (N.holds.length : Int) + n = (L : Int)) (hst : Hid (Rw w0 N wb lo L (refW N 0) w))
    (s0 s2 s3 s6 s7 s8 s10 s11 s12 s13 s14 s15 s16 s17 s18 s19 s20 s21 s22 s23 s24 s25 s26 s27 s28 s29 s30 s31 s32 s33 s34 s35 s36 s37 s38 s39 s40 s41 s42 s43 s44 s45 s46 s47 s48 s49 s50 s51 s52 s53 s54 s55 s56 s57 s58 s59 s60 s61 s62 s63 s64 s65 s66 s67 s68 s69 s70 s71 s72 s73 s74 s75 s76 s77 s78 s79 s80 s81 s82 s83 s84 s85 s88 s89 s90 s91 s92 s93 s94 s95 s96 s97 s98 s99 s100 s101 s102 s103 s104 s105 s106 s107 s108 s109 s110 s111 s112 s113 s114 s115 s116 s117 s118 s119 s120 s121 s122 s123 s124 s125 s126 s127 s128 s129 s130 s131 s132 s133 s134 s135 s136 s137 s138 s139 s140 s141 s142 s143 s144 s145 s146 s147 s148 s149 s150 s151 s152 s153 s154 s155 s156 s157 s158 s159 s160 s161 s162 s163 s164 s165 s166 s167 s168 s169 s170 s171 s172 s173 s174 s175 s176 s177 s178 s179 s180 s181 s182 s183 s184 s185 s186 s187 s188 s189 s190 s191 s192 s193 s194 s195 s196 s197 s198 s199 s200 s201 s202 s203 s204 s205 s206 s207 s208 s209 s210 s211 s212 s213 s214 s215 s216 s217 s218 s219 s220 s221 s222 s223 s224 s225 s226 s227 s228 s229 s230 s231 s232 s233 s234 s235 s236 s237 s238 s239 s240 s241 s242 s243 s244 s245 s246 s247 s248 : Value)
    (hexit : ∀ (r10 r87 r88 r89 r90 r91 r92 r93 r94 r95 r96 r97 r98 r99 r100 r101 r102 r103 r104 r105 : Value) (w' : World), Hid (Rw w0 N wb lo L (refW N n) w') → Q .normal { tmps := #[s0, .pointer (some ⟨h, 0, none⟩), s2, s3, .int .i64 (1 + N.ins + (N.holds.length : Int)), .slice (some ⟨wb, 0, none⟩) L L, s6, s7, s8, .int .i64 (nextTo N (whoF N) n), r10, s11, s12, s13, s14, s15, s16, s17, s18, s19, s20, s21, s22, s23, s24, s25, s26, s27, s28, s29, s30, s31, s32, s33, s34, s35, s36, s37, s38, s39, s40, s41, s42, s43, s44, s45, s46, s47, s48, s49, s50, s51, s52, s53, s54, s55, s56, s57, s58, s59, s60, s61, s62, s63, s64, s65, s66, s67, s68, s69, s70, s71, s72, s73, s74, s75, s76, s77, s78, s79, s80, s81, s82, s83, s84, s85, .int .i64 (n : Int), r87, r88, r89, r90, r91, r92, r93, r94, r95, r96, r97, r98, r99, r100, r101, r102, r103, r104, r105, s106, s107, s108, s109, s110, s111, s112, s113, s114, s115, s116, s117, s118, s119, s120, s121, s122, s123, s124, s125, s126, s127, s128, s129, s130, s131, s132, s133, s134, s135, s136, s137, s138, s139, s140, s141, s142, s143, s144, s145, s146, s147, s148, s149, s150, s151, s152, s153, s154, s155, s156, s157, s158, s159, s160, s161, s162, s163, s164, s165, s166, s167, s168, s169, s170, s171, s172, s173, s174, s175, s176, s177, s178, s179, s180, s181, s182, s183, s184, s185, s186, s187, s188, s189, s190, s191, s192, s193, s194, s195, s196, s197, s198, s199, s200, s201, s202, s203, s204, s205, s206, s207, s208, s209, s210, s211, s212, s213, s214, s215, s216, s217, s218, s219, s220, s221, s222, s223, s224, s225, s226, s227, s228, s229, s230, s231, s232, s233, s234, s235, s236, s237, s238, s239, s240, s241, s242, s243, s244, s245, s246, s247, s248], defers := [] } w') :
    ((Try.f17.body.bind (loopAt 19)).getD .skip).wp Try.prog (Exit.inBlock 4 Q) { tmps := #[s0, .pointer (some ⟨h, 0, none⟩), s2, s3, .int .i64 (1 + N.ins + (N.holds.length : Int)), .slice (some ⟨wb, 0, none⟩) L L, s6, s7, s8, .int .i64 (N.ins + (N.holds.length : Int)), s10, s11, s12, s13, s14, s15, s16, s17, s18, s19, s20, s21, s22, s23, s24, s25, s26, s27, s28, s29, s30, s31, s32, s33, s34, s35, s36, s37, s38, s39, s40, s41, s42, s43, s44, s45, s46, s47, s48, s49, s50, s51, s52, s53, s54, s55, s56, s57, s58, s59, s60, s61, s62, s63, s64, s65, s66, s67, s68, s69, s70, s71, s72, s73, s74, s75, s76, s77, s78, s79, s80, s81, s82, s83, s84, s85, .int .i64 (n : Int), .int .i64 0, s88, s89, s90, s91, s92, s93, s94, s95, s96, s97, s98, s99, s100, s101, s102, s103, s104, s105, s106, s107, s108, s109, s110, s111, s112, s113, s114, s115, s116, s117, s118, s119, s120, s121, s122, s123, s124, s125, s126, s127, s128, s129, s130, s131, s132, s133, s134, s135, s136, s137, s138, s139, s140, s141, s142, s143, s144, s145, s146, s147, s148, s149, s150, s151, s152, s153, s154, s155, s156, s157, s158, s159, s160, s161, s162, s163, s164, s165, s166, s167, s168, s169, s170, s171, s172, s173, s174, s175, s176, s177, s178, s179, s180, s181, s182, s183, s184, s185, s186, s187, s188, s189, s190, s191, s192, s193, s194, s195, s196, s197, s198, s199, s200, s201, s202, s203, s204, s205, s206, s207, s208, s209, s210, s211, s212, s213, s214, s215, s216, s217, s218, s219, s220, s221, s222, s223, s224, s225, s226, s227, s228, s229, s230, s231, s232, s233, s234, s235, s236, s237, s238, s239, s240, s241, s242, s243, s244, s245, s246, s247, s248], defers := [] } w := by
  conv => arg 2; whnf
  dsimp only
  go_loopw [9, 87] (fun nv iv wr => ∃ i : Nat, i ≤ n ∧ iv = .int .i64 i ∧ nv = .int .i64 (nextTo N (whoF N) i) ∧ Hid (Rw w0 N wb lo L (refW N i) wr)) (fun _ iv _ => n - (intOf iv).toNat)
  case atStart => exact ⟨0, by omega, rfl, rfl, hst⟩
  case round =>
    obtain ⟨i, hi, rfl, rfl, hh⟩ := hrel
    have hp := hh.out
    by_cases hlt : i < n
    · obtain ⟨nx, hnx⟩ : ∃ z, z = nextTo N (whoF N) i := ⟨_, rfl⟩
      have hnb := nextTo_bound N (whoF N) i
      have hnt : nextTo N (whoF N) (i + 1) = if whoF N (fstN N + i) then nextTo N (whoF N) i else nextTo N (whoF N) i + 1 := rfl
      obtain ⟨q, hq⟩ : ∃ q : Nat, 1 + N.ins + (N.holds.length : Int) + i = q := ⟨(1 + N.ins + (N.holds.length : Int) + i).toNat, by omega⟩
      have hqL : q < L := by omega
      have hqf : (q : Int) = fstN N + i := by unfold fstN; omega
      have hqf' : fstN N + i = (q : Int) := hqf.symm
      have hwho := refW_who N hins0 i q
      have hs1 := refW_step N hins0 i q hqf
      have hk1 := refW_keep N i
      rw [← hnx] at hnb hnt hs1 ⊢
      rw [hqf'] at hnt hs1 hk1
      have c0 := hp.ws q hqL
      have f0 := hp.wf q
      obtain ⟨fv, hfv⟩ : ∃ z, z = refW N i q := ⟨_, rfl⟩
      rw [← hfv] at c0 hwho
      have HP := Lib.hid hp
      obtain ⟨gb, hgb⟩ : ∃ b, b = whoF N q := ⟨_, rfl⟩
      rw [← hgb] at hnt hs1 hk1 hwho
      cases gb
      · have hfb : (fv != -2) = true := by
          have : ¬ fv = -2 := fun e => by have := hwho.1 e; cases this
          simpa using this
        have HE : Hid (Rw w0 N wb lo L (refW N (i + 1)) (wr.setCell ⟨wb, q, none⟩ (.int .i64 nx))) := Lib.hid ((HP.out.set hqL nx).ext (hs1 rfl))
        have HNt := Lib.hid hnt
        clear hp hnt hs1 hk1 hwho hgb hfv hnx hqf hqf'
        have HQ := Lib.hid hq
        go_wp2
        go_roundw
        case rel => exact ⟨i + 1, by omega, by go_num, by rw [HNt.out]; rfl, HE⟩
        case measure => simp [intOf]; omega
      · have hfb : (fv != -2) = false := by
          have : fv = -2 := hwho.2 rfl
          simpa using this
        have HE : Hid (Rw w0 N wb lo L (refW N (i + 1)) wr) := Lib.hid (HP.out.ext (hk1 rfl))
        have HNt := Lib.hid hnt
        clear hp hnt hs1 hk1 hwho hgb hfv hnx hqf hqf'
        go_wp2
        go_roundw
        case rel => exact ⟨i + 1, by omega, by go_num, by rw [HNt.out]; rfl, HE⟩
        case measure => simp [intOf]; omega
    · obtain rfl : i = n := by omega
      go_wp2
      exact hh
end Go.Proofs.Ytibimdhmfchcoaa

