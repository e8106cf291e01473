/- A plan in which two places are changed, if that is no worse. -/
import Derived.Deep.CutRange
import Derived.Test.YtholafodachjnaaZ24
namespace Go.Proofs.Ytholafodachjnaa
open Go.RowKit Go.Shelf
set_option linter.unusedVariables false
set_option linter.unusedSimpArgs false

theorem rowL_alloc (w : World) (t : TypeId) (l : List Value) : (w.alloc (.cells l.toArray t)).rowIs w.heap.size t l.length (fun i => l.getD i undef) := by
  have h := World.rowIs_alloc w l.toArray t (fun i => l.getD i undef) (fun i hi => by
    have hi' : i < l.length := by simpa using hi
    simp [List.getD, List.getElem?_eq_getElem hi'])
  simpa using h
theorem put9_row {W : World} {b : Nat} {f : Nat → Value} {v0 v1 v2 v3 v4 v5 v6 v7 v8 : Value} (h : W.rowIs b 53 9 f) : (((((((((W.setCell ⟨b, 0, none⟩ v0).setCell ⟨b, 1, none⟩ v1).setCell ⟨b, 2, none⟩ v2).setCell ⟨b, 3, none⟩ v3).setCell ⟨b, 4, none⟩ v4).setCell ⟨b, 5, none⟩ v5).setCell ⟨b, 6, none⟩ v6).setCell ⟨b, 7, none⟩ v7).setCell ⟨b, 8, none⟩ v8).rowIs b 53 9 (fun i => ([v0, v1, v2, v3, v4, v5, v6, v7, v8] : List Value).getD i undef) := by
  refine (((((((((h.set 0 v0).set 1 v1).set 2 v2).set 3 v3).set 4 v4).set 5 v5).set 6 v6).set 7 v7).set 8 v8).congr fun i hi => ?_
  match i, hi with
  | 0, _ => rfl
  | 1, _ => rfl
  | 2, _ => rfl
  | 3, _ => rfl
  | 4, _ => rfl
  | 5, _ => rfl
  | 6, _ => rfl
  | 7, _ => rfl
  | 8, _ => rfl
theorem results_plan {fn : Func} (hfn : fn.results = #[.cell 6 53, .tmp 7]) {tmps : Array Value} {W : World} {b : Nat} {v0 v1 v2 v3 v4 v5 v6 v7 v8 : Value} {ok : Bool} (h6 : tmps[6]?.getD undef = .pointer (some ⟨b, 0, none⟩)) (h7 : tmps[7]?.getD undef = .bool ok)
    (hrow : W.rowIs b 53 9 (fun i => ([v0, v1, v2, v3, v4, v5, v6, v7, v8] : List Value).getD i undef)) : (results fn tmps).run Try.prog W = .ok (.tuple #[.agg #[v0, v1, v2, v3, v4, v5, v6, v7, v8], .bool ok]) W := by
  have c0 : W.cell? ⟨b, 0, none⟩ = some v0 := hrow.cell (i := 0) (by omega)
  have c1 : W.cell? ⟨b, 1, none⟩ = some v1 := hrow.cell (i := 1) (by omega)
  have c2 : W.cell? ⟨b, 2, none⟩ = some v2 := hrow.cell (i := 2) (by omega)
  have c3 : W.cell? ⟨b, 3, none⟩ = some v3 := hrow.cell (i := 3) (by omega)
  have c4 : W.cell? ⟨b, 4, none⟩ = some v4 := hrow.cell (i := 4) (by omega)
  have c5 : W.cell? ⟨b, 5, none⟩ = some v5 := hrow.cell (i := 5) (by omega)
  have c6 : W.cell? ⟨b, 6, none⟩ = some v6 := hrow.cell (i := 6) (by omega)
  have c7 : W.cell? ⟨b, 7, none⟩ = some v7 := hrow.cell (i := 7) (by omega)
  have c8 : W.cell? ⟨b, 8, none⟩ = some v8 := hrow.cell (i := 8) (by omega)
  simp [results, hfn, go_sem, h6, h7, c0, c1, c2, c3, c4, c5, c6, c7, c8]
theorem plan_end {fn : Func} (hfn : fn.results = #[.cell 6 53, .tmp 7]) {R : Ending → World → Prop} {a : Act} {W : World} {b : Nat} {f : Nat → Value} {v0 v1 v2 v3 v4 v5 v6 v7 v8 : Value} {ok : Bool} {W' : World} (hrow : W.rowIs b 53 9 f) (h6 : a.tmps[6]?.getD undef = .pointer (some ⟨b, 0, none⟩)) (h7 : a.tmps[7]?.getD undef = .bool ok) (hd : a.defers = []) (hW : W' = (((((((((W.setCell ⟨b, 0, none⟩ v0).setCell ⟨b, 1, none⟩ v1).setCell ⟨b, 2, none⟩ v2).setCell ⟨b, 3, none⟩ v3).setCell ⟨b, 4, none⟩ v4).setCell ⟨b, 5, none⟩ v5).setCell ⟨b, 6, none⟩ v6).setCell ⟨b, 7, none⟩ v7).setCell ⟨b, 8, none⟩ v8))
    (hR : R (.returned (.tuple #[.agg #[v0, v1, v2, v3, v4, v5, v6, v7, v8], .bool ok])) W') : bodyPost Try.prog fn R .ret a W' := by
  subst hW
  exact bodyPost_ret (results_plan hfn h6 h7 (put9_row hrow)) hd hR
theorem f41_results : Try.f41.results = #[.cell 6 53, .tmp 7] := rfl
theorem own_grown {w W : World} {base n r : Nat} {v : Value} {l : List Value} (h : w.ownsRow base 3 1 v n l) (hg : w.grownBy W (some r)) (hr : r < base) : W.ownsRow base 3 1 v n l := by
  refine ⟨h.1, ?_⟩
  rcases h.2 with h0 | ⟨g, cap, cur, hv, hb, hgg, h1, h2, h3, h4⟩
  · exact .inl h0
  · exact .inr ⟨g, cap, cur, hv, hb, by rw [hg.block g (Array.getElem?_eq_some_iff.1 hgg).1 (by intro e; injection e with e; omega)]; exact hgg, h1, h2, h3, h4⟩
theorem grown_put9 {w W : World} {b : Nat} {v0 v1 v2 v3 v4 v5 v6 v7 v8 : Value} (h : w.grownBy W (some b)) : w.grownBy (((((((((W.setCell ⟨b, 0, none⟩ v0).setCell ⟨b, 1, none⟩ v1).setCell ⟨b, 2, none⟩ v2).setCell ⟨b, 3, none⟩ v3).setCell ⟨b, 4, none⟩ v4).setCell ⟨b, 5, none⟩ v5).setCell ⟨b, 6, none⟩ v6).setCell ⟨b, 7, none⟩ v7).setCell ⟨b, 8, none⟩ v8) (some b) :=
  grown_setB (grown_setB (grown_setB (grown_setB (grown_setB (grown_setB (grown_setB (grown_setB (grown_setB h _ _) _ _) _ _) _ _) _ _) _ _) _ _) _ _) _ _
theorem below_grown {B r : Nat} {w W W' : World} (h : Below B w W) (hg : W.grownBy W' (some r)) (hr : B ≤ r) (hs : B ≤ W.heap.size) : Below B w W' := h.grown hg hs (fun k e => by injection e with e; omega)
theorem i64_of {x : Int} (h0 : 0 ≤ x) (h1 : x ≤ 1000000) : I64 x := by unfold I64; omega
theorem seq_own {w : World} {base n c : Nat} {a : Option Addr} {l : List Int} (h : w.ownsRow base 3 1 (.slice a n c) n (l.map (Value.int .i64))) : Seq w a n (ints l) := by
  obtain ⟨b, d, he, hs⟩ := owni_lat h
  injection he with e1 e2 e3
  subst e1
  exact hs
theorem right_i64 {a : ArchV} {P : PackD} {S : SpotD} (h : RightAll a P S) : (∀ x ∈ S.bs, I64 x) ∧ (∀ x ∈ S.is, I64 x) ∧ ∀ x ∈ S.os, I64 x := by
  have hw := h.p.w
  have hh := h.p.h
  have h256 : a.w * a.h ≤ 16 * 16 := Int.mul_le_mul hw.2 hh.2 (by omega) (by omega)
  exact ⟨fun x hx => i64_of (h.s.br x hx).1 (by have := (h.s.br x hx).2; omega), fun x hx => i64_of (h.s.ir x hx).1 (by have := (h.s.ir x hx).2; omega), fun x hx => i64_of (h.s.or x hx).1 (by have := (h.s.or x hx).2; omega)⟩
theorem own_weak {w : World} {base base' n : Nat} {v : Value} {l : List Value} (h : w.ownsRow base 3 1 v n l) (hb : base' ≤ base) : w.ownsRow base' 3 1 v n l := by
  refine ⟨h.1, ?_⟩
  rcases h.2 with h0 | ⟨g, cap, cur, hv, hg, h1⟩
  · exact .inl h0
  · exact .inr ⟨g, cap, cur, hv, Nat.le_trans hb hg, h1⟩
/-- Spots each of whose lists is one of S's, or lies behind base. -/
structure SpotNew (base : Nat) (S R : SpotV) (W : World) : Prop where
  b : (R.ba = S.ba ∧ R.bc = S.bc ∧ R.bs = S.bs) ∨ W.ownsRow base 3 1 (.slice R.ba R.bs.length R.bc) R.bs.length (R.bs.map (Value.int .i64))
  i : (R.ia = S.ia ∧ R.ic = S.ic ∧ R.is = S.is) ∨ W.ownsRow base 3 1 (.slice R.ia R.is.length R.ic) R.is.length (R.is.map (Value.int .i64))
  o : (R.oa = S.oa ∧ R.oc = S.oc ∧ R.os = S.os) ∨ W.ownsRow base 3 1 (.slice R.oa R.os.length R.oc) R.os.length (R.os.map (Value.int .i64))
  bR : ∀ x ∈ R.bs, I64 x
  iR : ∀ x ∈ R.is, I64 x
  oR : ∀ x ∈ R.os, I64 x
theorem SpotNew.grown {base r : Nat} {S R : SpotV} {W W' : World} (h : SpotNew base S R W) (hg : W.grownBy W' (some r)) (hr : r < base) : SpotNew base S R W' :=
  ⟨h.b.imp id (fun x => own_grown x hg hr), h.i.imp id (fun x => own_grown x hg hr), h.o.imp id (fun x => own_grown x hg hr), h.bR, h.iR, h.oR⟩
theorem SpotNew.below {base : Nat} {S R : SpotV} {W W' : World} (h : SpotNew base S R W) (hb : Below W.heap.size W W') : SpotNew base S R W' :=
  ⟨h.b.imp id (fun x => own_below x hb), h.i.imp id (fun x => own_below x hb), h.o.imp id (fun x => own_below x hb), h.bR, h.iR, h.oR⟩
theorem SpotNew.weak {base base' : Nat} {S R : SpotV} {W : World} (h : SpotNew base S R W) (hb : base' ≤ base) : SpotNew base' S R W :=
  ⟨h.b.imp id (fun x => own_weak x hb), h.i.imp id (fun x => own_weak x hb), h.o.imp id (fun x => own_weak x hb), h.bR, h.iR, h.oR⟩
theorem SpotNew.same {base : Nat} {S : SpotV} {W : World} (b : ∀ x ∈ S.bs, I64 x) (i : ∀ x ∈ S.is, I64 x) (o : ∀ x ∈ S.os, I64 x) : SpotNew base S S W := ⟨.inl ⟨rfl, rfl, rfl⟩, .inl ⟨rfl, rfl, rfl⟩, .inl ⟨rfl, rfl, rfl⟩, b, i, o⟩
theorem SpotNew.trans {base base' : Nat} {S T R : SpotV} {W : World} (h : SpotNew base S T W) (k : SpotNew base' T R W) (hb : base ≤ base') : SpotNew base S R W := by
  refine ⟨?_, ?_, ?_, k.bR, k.iR, k.oR⟩
  · rcases k.b with ⟨e1, e2, e3⟩ | h1
    · rw [e1, e2, e3]; exact h.b
    · exact .inr (own_weak h1 hb)
  · rcases k.i with ⟨e1, e2, e3⟩ | h1
    · rw [e1, e2, e3]; exact h.i
    · exact .inr (own_weak h1 hb)
  · rcases k.o with ⟨e1, e2, e3⟩ | h1
    · rw [e1, e2, e3]; exact h.o
    · exact .inr (own_weak h1 hb)
theorem SpotNew.spots {base : Nat} {S R : SpotV} {W : World} (h : SpotNew base S R W) (hS : SpotAt W S) : SpotAt W R := by
  refine ⟨?_, ?_, ?_, h.bR, h.iR, h.oR⟩
  · rcases h.b with ⟨e1, -, e2⟩ | h1
    · rw [e1, e2]; exact hS.b
    · exact seq_own h1
  · rcases h.i with ⟨e1, -, e2⟩ | h1
    · rw [e1, e2]; exact hS.i
    · exact seq_own h1
  · rcases h.o with ⟨e1, -, e2⟩ | h1
    · rw [e1, e2]; exact hS.o
    · exact seq_own h1
set_option maxRecDepth 100000 in
set_option maxHeartbeats 16000000 in
theorem better41 (w : World) (a : ArchV) (P : PackV) (S : SpotV) (hP : PackAt w P) (hS : SpotAt w S) (hr : RightAll a P.data S.data) (k1 : P.bs.length ≤ 500) (k2 : P.os.length ≤ 500) (k3 : S.is.length ≤ 500) (m k : Int) (hmk : TwoOk a m k) :
    Calls Try.prog 41 #[planVal a P S, .int .i64 m, .int .i64 k] w fun e w' => ∃ R : SpotV, e = .returned (.tuple #[planVal a P R, .bool (betterB a P.data S.data m k)]) ∧ R.data = betterD a P.data S.data m k ∧ SpotNew w.heap.size S R w' ∧ Below w.heap.size w w' := by
  have HCo : Hid (∀ W (R : SpotV), Below w.heap.size w W → SpotAt W R → RightAll a P.data R.data → Calls Try.prog 29 #[planVal a P R] W fun e w' => e = .returned (.int .i64 (costL a P.data R.data)) ∧ Below W.heap.size W w') := Lib.hid fun W R hW hR hrr => by
    refine cost29 W a P R (hP.below hW (Nat.le_refl _)) hR hrr.p hrr.s k1 k2 ?_
    have e1 := hrr.s.i
    have e2 := hr.s.i
    dsimp only at e1 e2
    omega
  have HTi : Hid (∀ W, Calls Try.prog 44 #[planVal a P S] W fun e w' => e = .returned (.int .i64 (tilesL a)) ∧ Below W.heap.size W w') := Lib.hid fun W => by
    have hw := hr.p.w
    have hh := hr.p.h
    exact tiles44 W a P S (by omega) (by omega)
  have hpi : P.ins = ((S.is.length : Nat) : Int) := hr.s.i
  have hbl : S.bs.length = P.bs.length := by have := hr.s.b; simpa using this
  have hol : S.os.length = P.os.length := hr.s.o
  obtain ⟨D, hD⟩ : ∃ D, D = P.data := ⟨_, rfl⟩
  obtain ⟨E, hE⟩ : ∃ E, E = S.data := ⟨_, rfl⟩
  rw [← hD] at HCo hr
  rw [← hE] at hr
  rw [← hD, ← hE]
  have hEb : E.bs = S.bs := by rw [hE]
  have hEi : E.is = S.is := by rw [hE]
  have hEo : E.os = S.os := by rw [hE]
  have htl : 0 ≤ tilesL a ∧ tilesL a ≤ 256 := by
    have hw := hr.p.w
    have hh := hr.p.h
    have h256 : a.w * a.h ≤ 16 * 16 := Int.mul_le_mul hw.2 hh.2 (by omega) (by omega)
    have h0 : 0 ≤ a.w * a.h := Int.mul_nonneg (by omega) (by omega)
    unfold tilesL; omega
  have hpl : padsL a ≤ 64 := by
    have hw := hr.p.w
    have hh := hr.p.h
    unfold padsL; omega
  have hm := hmk.mr
  have hk := hmk.nr
  have hm9 : m ≤ 1000 := by omega
  have hk9 : k ≤ 1000 := by omega
  obtain ⟨t, ht⟩ : ∃ t, t = tilesL a := ⟨_, rfl⟩
  rw [← ht] at HTi htl hm hk
  have HSw : Hid (RightAll a D (turnD a E m k)) := Lib.hid (hr.swap hmk)
  have HR := Lib.hid hr
  have HTy : Hid (m < t → turnD a E m k = ⟨turnL m k E.bs, E.is, E.os⟩) := Lib.hid fun h => by unfold turnD; rw [if_pos (by rw [← ht]; exact h)]
  have HTn : Hid (¬ m < t → turnD a E m k = ⟨E.bs, turnL (m - t) (k - t) E.is, turnL (m - t) (k - t) E.os⟩) := Lib.hid fun h => by unfold turnD; rw [if_neg (by rw [← ht]; exact h), ht]
  have HNk : Hid (¬ m < t → ¬ k < t) := Lib.hid fun h e => h (by rw [ht]; exact hmk.both.2 (by rw [← ht]; exact e))
  have HBy : Hid (costL a D (turnD a E m k) ≤ costL a D E → betterB a D E m k = true ∧ betterD a D E m k = turnD a E m k) := Lib.hid fun h => by
    have hb : betterB a D E m k = true := by unfold betterB; simpa using h
    exact ⟨hb, by unfold betterD; rw [if_pos hb]⟩
  have HBn : Hid (¬ costL a D (turnD a E m k) ≤ costL a D E → betterB a D E m k = false ∧ betterD a D E m k = E) := Lib.hid fun h => by
    have hb : betterB a D E m k = false := by unfold betterB; simpa using h
    exact ⟨hb, by unfold betterD; rw [hb]; rfl⟩
  have HSs : Hid (∀ W r, w.heap.size ≤ r → Below w.heap.size w W → ∀ W', W.grownBy W' (some r) → SpotAt W' S) := Lib.hid fun W r hr' hW W' hg => hS.below (below_grown hW hg hr' hW.size) (Nat.le_refl _)
  obtain ⟨TD, hTD⟩ : ∃ T, T = turnD a E m k := ⟨_, rfl⟩
  rw [← hTD] at HSw HTy HTn HBy HBn
  obtain ⟨bB, hbB⟩ : ∃ b, b = betterB a D E m k := ⟨_, rfl⟩
  obtain ⟨bD, hbD⟩ : ∃ b, b = betterD a D E m k := ⟨_, rfl⟩
  rw [← hbB, ← hbD] at HBy HBn
  rw [← hbB, ← hbD]
  clear hbB hbD hTD ht hmk hr hP hpl
  obtain ⟨aw, ah, at_⟩ := a
  obtain ⟨pi, pa, pc, pb, qa, qc, qb⟩ := P
  obtain ⟨ba, bc, bs, ia, ic, is, oa, oc, os⟩ := S
  obtain ⟨A, hA⟩ : ∃ A : ArchV, A = ⟨aw, ah, at_⟩ := ⟨_, rfl⟩
  unfold planVal at HCo HTi
  unfold planVal
  dsimp only at hEb hEi hEo hpi hbl hol k1 k2 k3 HCo HTi ⊢
  rw [← hA] at HCo HSw HR HBy HBn
  rw [hbl, hol] at HTi ⊢
  obtain ⟨nb, hnb⟩ : ∃ n, n = pb.length := ⟨_, rfl⟩
  obtain ⟨ni, hni⟩ : ∃ n, n = is.length := ⟨_, rfl⟩
  obtain ⟨no, hno⟩ : ∃ n, n = qb.length := ⟨_, rfl⟩
  rw [← hnb] at HCo HTi hbl k1 ⊢
  rw [← hni] at HTi hpi k3 ⊢
  rw [← hno] at HCo HTi hol k2 ⊢
  have hSs := hS
  obtain ⟨s1, s2, s3, -, -, -⟩ := hS
  dsimp only at s1 s2 s3
  rw [hbl] at s1
  rw [← hni] at s2
  rw [hol] at s3
  have HSb := Lib.hid s1
  have HSi := Lib.hid s2
  have HSo := Lib.hid s3
  have HLb : Hid (bs.length = nb ∧ is.length = ni ∧ os.length = no) := Lib.hid ⟨hbl, hni.symm, hol⟩
  have HE : Hid (E.bs = bs ∧ E.is = is ∧ E.os = os) := Lib.hid ⟨hEb, hEi, hEo⟩
  have HEd := Lib.hid hE
  have HI6 : Hid ((∀ x ∈ bs, I64 x) ∧ (∀ x ∈ is, I64 x) ∧ ∀ x ∈ os, I64 x) := Lib.hid (by have := right_i64 HR.out; rwa [hEb, hEi, hEo] at this)
  clear s1 s2 s3 hSs hnb hni hno hbl hol hpi hEb hEi hEo hD hE hA
  obtain ⟨H, hH⟩ : ∃ h, h = w.heap.size := ⟨_, rfl⟩
  obtain ⟨w1, hw1⟩ : ∃ W, W = ((w.alloc (.cells #[.int .i64 aw, .int .i64 ah, .int .i64 at_, .int .i64 pi, .slice pa nb pc, .slice qa no qc, .slice ba nb bc, .slice ia ni ic, .slice oa no oc] 53)).alloc (.cells #[.int .i64 0, .int .i64 0, .int .i64 0, .int .i64 0, .slice none 0 0, .slice none 0 0, .slice none 0 0, .slice none 0 0, .slice none 0 0] 53)).alloc (.cells #[.int .i64 aw, .int .i64 ah, .int .i64 at_, .int .i64 pi, .slice pa nb pc, .slice qa no qc, .slice ba nb bc, .slice ia ni ic, .slice oa no oc] 53) := ⟨_, rfl⟩
  have hX1 : Below w.heap.size w w1 := by rw [hw1]; exact (((Below.refl _ _).alloc (Nat.le_refl _) _).alloc (by simp) _).alloc (by simp <;> omega) _
  have hs1 : w1.heap.size = H + 3 := by rw [hw1, hH]; simp
  have hrw0 : w1.rowIs (H) 53 9 (fun i => ([.int .i64 aw, .int .i64 ah, .int .i64 at_, .int .i64 pi, .slice pa nb pc, .slice qa no qc, .slice ba nb bc, .slice ia ni ic, .slice oa no oc] : List Value).getD i undef) := by
    rw [hw1, hH]
    exact ((rowL_alloc w 53 [.int .i64 aw, .int .i64 ah, .int .i64 at_, .int .i64 pi, .slice pa nb pc, .slice qa no qc, .slice ba nb bc, .slice ia ni ic, .slice oa no oc]).alloc _).alloc _
  have hrw1 : w1.rowIs (H + 1) 53 9 (fun i => ([.int .i64 0, .int .i64 0, .int .i64 0, .int .i64 0, .slice none 0 0, .slice none 0 0, .slice none 0 0, .slice none 0 0, .slice none 0 0] : List Value).getD i undef) := by
    have h := (rowL_alloc (w.alloc (.cells #[.int .i64 aw, .int .i64 ah, .int .i64 at_, .int .i64 pi, .slice pa nb pc, .slice qa no qc, .slice ba nb bc, .slice ia ni ic, .slice oa no oc] 53)) 53 [.int .i64 0, .int .i64 0, .int .i64 0, .int .i64 0, .slice none 0 0, .slice none 0 0, .slice none 0 0, .slice none 0 0, .slice none 0 0]).alloc (.cells #[.int .i64 aw, .int .i64 ah, .int .i64 at_, .int .i64 pi, .slice pa nb pc, .slice qa no qc, .slice ba nb bc, .slice ia ni ic, .slice oa no oc] 53)
    rw [hw1]
    have hsz : (w.alloc (.cells #[.int .i64 aw, .int .i64 ah, .int .i64 at_, .int .i64 pi, .slice pa nb pc, .slice qa no qc, .slice ba nb bc, .slice ia ni ic, .slice oa no oc] 53)).heap.size = H + 1 := by rw [hH]; simp
    rw [hsz] at h
    exact h
  have hrw2 : w1.rowIs (H + 2) 53 9 (fun i => ([.int .i64 aw, .int .i64 ah, .int .i64 at_, .int .i64 pi, .slice pa nb pc, .slice qa no qc, .slice ba nb bc, .slice ia ni ic, .slice oa no oc] : List Value).getD i undef) := by
    have h := rowL_alloc ((w.alloc (.cells #[.int .i64 aw, .int .i64 ah, .int .i64 at_, .int .i64 pi, .slice pa nb pc, .slice qa no qc, .slice ba nb bc, .slice ia ni ic, .slice oa no oc] 53)).alloc (.cells #[.int .i64 0, .int .i64 0, .int .i64 0, .int .i64 0, .slice none 0 0, .slice none 0 0, .slice none 0 0, .slice none 0 0, .slice none 0 0] 53)) 53 [.int .i64 aw, .int .i64 ah, .int .i64 at_, .int .i64 pi, .slice pa nb pc, .slice qa no qc, .slice ba nb bc, .slice ia ni ic, .slice oa no oc]
    rw [hw1]
    have hsz : ((w.alloc (.cells #[.int .i64 aw, .int .i64 ah, .int .i64 at_, .int .i64 pi, .slice pa nb pc, .slice qa no qc, .slice ba nb bc, .slice ia ni ic, .slice oa no oc] 53)).alloc (.cells #[.int .i64 0, .int .i64 0, .int .i64 0, .int .i64 0, .slice none 0 0, .slice none 0 0, .slice none 0 0, .slice none 0 0, .slice none 0 0] 53)).heap.size = H + 2 := by rw [hH]; simp
    rw [hsz] at h
    exact h
  obtain ⟨X, hX⟩ : ∃ x, x = H + 2 := ⟨_, rfl⟩
  obtain ⟨B1, hB1⟩ : ∃ x, x = H + 1 := ⟨_, rfl⟩
  rw [← hX] at hrw2
  rw [← hB1] at hrw1
  have HX1 := Lib.hid hX1
  have HW0 : Hid (∀ W, Below X w1 W → W.rowIs (H) 53 9 (fun i => ([.int .i64 aw, .int .i64 ah, .int .i64 at_, .int .i64 pi, .slice pa nb pc, .slice qa no qc, .slice ba nb bc, .slice ia ni ic, .slice oa no oc] : List Value).getD i undef)) := Lib.hid fun W hW => hrw0.of_block (hW.block H (by omega))
  have HW1r : Hid (∀ W, Below X w1 W → W.rowIs (B1) 53 9 (fun i => ([.int .i64 0, .int .i64 0, .int .i64 0, .int .i64 0, .slice none 0 0, .slice none 0 0, .slice none 0 0, .slice none 0 0, .slice none 0 0] : List Value).getD i undef)) := Lib.hid fun W hW => hrw1.of_block (hW.block B1 (by omega))
  have HWX := Lib.hid hrw2
  have HK : Hid (∀ W, Below X w1 W → W.cell? ⟨H, 0, none⟩ = some (.int .i64 aw) ∧ W.cell? ⟨H, 1, none⟩ = some (.int .i64 ah) ∧ W.cell? ⟨H, 2, none⟩ = some (.int .i64 at_) ∧ W.cell? ⟨H, 3, none⟩ = some (.int .i64 pi) ∧ W.cell? ⟨H, 4, none⟩ = some (.slice pa nb pc) ∧ W.cell? ⟨H, 5, none⟩ = some (.slice qa no qc) ∧ W.cell? ⟨H, 6, none⟩ = some (.slice ba nb bc) ∧ W.cell? ⟨H, 7, none⟩ = some (.slice ia ni ic) ∧ W.cell? ⟨H, 8, none⟩ = some (.slice oa no oc)) := Lib.hid fun W hW => by
    have h := HW0.out W hW
    exact ⟨h.cell (by omega), h.cell (by omega), h.cell (by omega), h.cell (by omega), h.cell (by omega), h.cell (by omega), h.cell (by omega), h.cell (by omega), h.cell (by omega)⟩
  have HSz : Hid (w1.heap.size = H + 3 ∧ X = H + 2 ∧ B1 = H + 1 ∧ H = w.heap.size) := Lib.hid ⟨hs1, hX, hB1, hH⟩
  have HXW : Hid (∀ W, Below X w1 W → Below w.heap.size w W) := Lib.hid fun W hW => hX1.trans (hW.mono (by omega))
  have HW1 := Lib.hid hw1
  have HHH := Lib.hid hH
  have HXX := Lib.hid hX
  have HBB := Lib.hid hB1
  have HX2 : Hid (X = B1 + 1) := Lib.hid (by omega)
  clear hw1 hX1 hs1 hrw0 hrw1 hrw2 hX hB1 hH
  go_enter Try.func41, Try.ntmps41
  go_wp2_with fail
  rw [← HW1.out]
  (try rw [← HHH.out])
  rw [← HBB.out]
  rw [← HX2.out]
  refine Calls.mono (HTi.out w1) ?_
  rintro e w2 ⟨rfl, hb2⟩
  have HB2 : Hid (Below X w1 w2) := Lib.hid (hb2.mono (by have := HSz.out; omega))
  have HS2 : Hid (w2.heap.size ≥ H + 3) := Lib.hid (by have := hb2.size; have := HSz.out; omega)
  have HR2 : Hid (w2.rowIs (X) 53 9 (fun i => ([.int .i64 aw, .int .i64 ah, .int .i64 at_, .int .i64 pi, .slice pa nb pc, .slice qa no qc, .slice ba nb bc, .slice ia ni ic, .slice oa no oc] : List Value).getD i undef)) := Lib.hid (HWX.out.of_block (hb2.block X (by have := HSz.out; omega)))
  clear hb2 HWX
  obtain ⟨a0, a1, a2, p0, p1, p2, s0, s1, s2⟩ := HK.out w2 HB2.out
  have x0 : w2.cell? ⟨X, 0, none⟩ = some (.int .i64 aw) := HR2.out.cell (by omega)
  have x1 : w2.cell? ⟨X, 1, none⟩ = some (.int .i64 ah) := HR2.out.cell (by omega)
  have x2 : w2.cell? ⟨X, 2, none⟩ = some (.int .i64 at_) := HR2.out.cell (by omega)
  have x3 : w2.cell? ⟨X, 3, none⟩ = some (.int .i64 pi) := HR2.out.cell (by omega)
  have x4 : w2.cell? ⟨X, 4, none⟩ = some (.slice pa nb pc) := HR2.out.cell (by omega)
  have x5 : w2.cell? ⟨X, 5, none⟩ = some (.slice qa no qc) := HR2.out.cell (by omega)
  have x6 : w2.cell? ⟨X, 6, none⟩ = some (.slice ba nb bc) := HR2.out.cell (by omega)
  have x7 : w2.cell? ⟨X, 7, none⟩ = some (.slice ia ni ic) := HR2.out.cell (by omega)
  have x8 : w2.cell? ⟨X, 8, none⟩ = some (.slice oa no oc) := HR2.out.cell (by omega)
  go_upto_if 15 with fail
  go_cut [] from 10 to 52 (fun wx => ∃ (rba : Option Addr) (rbc : Nat) (rbs : List Int) (ria : Option Addr) (ric : Nat) (ris : List Int) (roa : Option Addr) (roc : Nat) (ros : List Int), Hid ((rbs.length = nb ∧ ris.length = ni ∧ ros.length = no ∧ TD = ⟨rbs, ris, ros⟩) ∧ Below X w1 wx ∧ wx.rowIs (X) 53 9 (fun i => ([.int .i64 aw, .int .i64 ah, .int .i64 at_, .int .i64 pi, .slice pa nb pc, .slice qa no qc, .slice rba nb rbc, .slice ria ni ric, .slice roa no roc] : List Value).getD i undef) ∧ SpotNew w1.heap.size ⟨ba, bc, bs, ia, ic, is, oa, oc, os⟩ ⟨rba, rbc, rbs, ria, ric, ris, roa, roc, ros⟩ wx))
  case first =>
    by_cases hlt : m < t
    · have hd : decide (m < t) = true := by simpa using hlt
      rw [hd]
      have HT := Lib.hid (HTy.out hlt)
      clear hlt
      go_wp2_with fail
      refine Calls.mono (swapped57 w2 ba nb bc bs m k HLb.out.1 (by omega) (HSb.out.below (HXW.out w2 HB2.out) (Nat.le_refl _))) ?_
      rintro e w3 ⟨b, d, rfl, hown, hb3⟩
      have HB3 := Lib.hid hb3
      have HO := Lib.hid hown
      clear hb3 hown a0 a1 a2 p0 p1 p2 s0 s1 s2 x0 x1 x2 x3 x4 x5 x6 x7 x8
      have hr3 := HR2.out.of_block (HB3.out.block X (by have := HSz.out; have := HS2.out; omega))
      have x6 : w3.cell? ⟨X, 6, none⟩ = some (.slice ba nb bc) := hr3.cell (by omega)
      have f6 := hr3.frozen 6
      have HR3 := Lib.hid hr3
      clear hr3
      go_wp2_with fail
      go_meet
      have hs3 := HB3.out.size
      have hs2 := HS2.out
      obtain ⟨z1, z2, z3, z4⟩ := HSz.out
      have hbX : Below X w1 (w3.setCell ⟨X, 6, none⟩ (.slice b nb d)) := (HB2.out.trans (HB3.out.mono (by omega))).setCell (Nat.le_refl _) _
      refine ⟨b, d, turnL m k bs, ia, ic, is, oa, oc, os, Lib.hid ⟨⟨by rw [turnL_len]; exact HLb.out.1, HLb.out.2.1, HLb.out.2.2, by rw [HT.out, HE.out.1, HE.out.2.1, HE.out.2.2]⟩, hbX, (HR3.out.set 6 (.slice b nb d)).congr fun i hi => ?_, ?_⟩⟩
      · match i, hi with
        | 0, _ => rfl
        | 1, _ => rfl
        | 2, _ => rfl
        | 3, _ => rfl
        | 4, _ => rfl
        | 5, _ => rfl
        | 6, _ => rfl
        | 7, _ => rfl
        | 8, _ => rfl
      · have ho := own_weak (base' := w1.heap.size) (ownsRow_setCell_below HO.out (a := ⟨X, 6, none⟩) (by show X < w2.heap.size; omega) (.slice b nb d)) (by omega)
        have hi6 := right_i64 HSw.out
        rw [HT.out, HE.out.1, HE.out.2.1, HE.out.2.2] at hi6
        exact ⟨.inr (by dsimp only; rw [turnL_len, HLb.out.1]; exact ho), .inl ⟨rfl, rfl, rfl⟩, .inl ⟨rfl, rfl, rfl⟩, hi6.1, hi6.2.1, hi6.2.2⟩
    · have hd : decide (m < t) = false := by simpa using hlt
      rw [hd]
      have HT := Lib.hid (HTn.out (by omega))
      have hlt2 : ¬ k < t := by have := HNk.out (by omega); omega
      have HSub1 : Hid (IntKind.i64.wrap (m - t) = m - t) := Lib.hid (wrapSmall (by omega) (by omega))
      have HSub2 : Hid (IntKind.i64.wrap (k - t) = k - t) := Lib.hid (wrapSmall (by omega) (by omega))
      have HHK : Hid (∀ W, Below w2.heap.size w2 W → W.cell? ⟨H, 0, none⟩ = some (.int .i64 aw) ∧ W.cell? ⟨H, 1, none⟩ = some (.int .i64 ah) ∧ W.cell? ⟨H, 2, none⟩ = some (.int .i64 at_) ∧ W.cell? ⟨H, 3, none⟩ = some (.int .i64 pi) ∧ W.cell? ⟨H, 4, none⟩ = some (.slice pa nb pc) ∧ W.cell? ⟨H, 5, none⟩ = some (.slice qa no qc) ∧ W.cell? ⟨H, 6, none⟩ = some (.slice ba nb bc) ∧ W.cell? ⟨H, 7, none⟩ = some (.slice ia ni ic) ∧ W.cell? ⟨H, 8, none⟩ = some (.slice oa no oc)) := Lib.hid fun W hW => HK.out W (HB2.out.trans (hW.mono (by have := HSz.out; have := HS2.out; omega)))
      clear hlt hlt2 a0 a1 a2 p0 p1 p2 s0 s1 s2 x0 x1 x2 x3 x4 x5 x6 x7 x8
      go_wp2_with fail
      refine wp_region_held_drew (S := fun w' => w'.cell? ⟨H, 0, none⟩ = some (.int .i64 aw) ∧ w'.cell? ⟨H, 1, none⟩ = some (.int .i64 ah) ∧ w'.cell? ⟨H, 2, none⟩ = some (.int .i64 at_) ∧ w'.cell? ⟨H, 3, none⟩ = some (.int .i64 pi) ∧ w'.cell? ⟨H, 4, none⟩ = some (.slice pa nb pc) ∧ w'.cell? ⟨H, 5, none⟩ = some (.slice qa no qc) ∧ w'.cell? ⟨H, 6, none⟩ = some (.slice ba nb bc) ∧ w'.cell? ⟨H, 7, none⟩ = some (.slice ia ni ic) ∧ w'.cell? ⟨H, 8, none⟩ = some (.slice oa no oc)) (by kernel_rfl) (HHK.out _ (Below.refl _ _).drew) (fun hHeld => ?_)
      refine wpAnyH_take (i := 0) (v := ?_) (by simp only [List.getElem?_toArray, List.getElem?_cons_succ, List.getElem?_cons_zero]; rfl) (by kernel_rfl) (by kernel_rfl) (by kernel_rfl) (by intro _ _ _ h; exact h) (Or.inl ⟨by rfl, ?_⟩) (by assumption) ?_
      rotate_left
      · intro w hSw; (try dsimp only at hSw); go_simp; try with_reducible rfl
      try simp only [Act.put, List.setIfInBounds_toArray, List.set_cons_zero, List.set_cons_succ]
      refine wpAnyH_take (i := 1) (v := ?_) (by simp only [List.getElem?_toArray, List.getElem?_cons_succ, List.getElem?_cons_zero]; rfl) (by kernel_rfl) (by kernel_rfl) (by kernel_rfl) (by intro _ _ _ h; exact h) (Or.inl ⟨by rfl, ?_⟩) (by assumption) ?_
      rotate_left
      · intro w hSw; (try dsimp only at hSw); go_simp; try with_reducible rfl
      try simp only [Act.put, List.setIfInBounds_toArray, List.set_cons_zero, List.set_cons_succ]
      refine wpAnyH_take (i := 2) (v := ?_) (by simp only [List.getElem?_toArray, List.getElem?_cons_succ, List.getElem?_cons_zero]; rfl) (by kernel_rfl) (by kernel_rfl) (by kernel_rfl) (by intro _ _ _ h; exact h) (Or.inl ⟨by rfl, ?_⟩) (by assumption) ?_
      rotate_left
      · intro w hSw; (try dsimp only at hSw); go_simp; try with_reducible rfl
      try simp only [Act.put, List.setIfInBounds_toArray, List.set_cons_zero, List.set_cons_succ]
      refine wpAnyH_take (i := 3) (v := ?_) (by simp only [List.getElem?_toArray, List.getElem?_cons_succ, List.getElem?_cons_zero]; rfl) (by kernel_rfl) (by kernel_rfl) (by kernel_rfl) (by intro _ _ _ h; exact h) (Or.inl ⟨by rfl, ?_⟩) (by assumption) ?_
      rotate_left
      · intro w hSw; (try dsimp only at hSw); go_simp; try with_reducible rfl
      try simp only [Act.put, List.setIfInBounds_toArray, List.set_cons_zero, List.set_cons_succ]
      refine wpAnyH_take (i := 4) (v := ?_) (by simp only [List.getElem?_toArray, List.getElem?_cons_succ, List.getElem?_cons_zero]; rfl) (by kernel_rfl) (by kernel_rfl) (by kernel_rfl) (by intro _ _ _ h; exact h) (Or.inl ⟨by rfl, ?_⟩) (by assumption) ?_
      rotate_left
      · intro w hSw; (try dsimp only at hSw); go_simp; try with_reducible rfl
      try simp only [Act.put, List.setIfInBounds_toArray, List.set_cons_zero, List.set_cons_succ]
      refine wpAnyH_take (i := 5) (v := ?_) (by simp only [List.getElem?_toArray, List.getElem?_cons_succ, List.getElem?_cons_zero]; rfl) (by kernel_rfl) (by kernel_rfl) (by kernel_rfl) (by intro _ _ _ h; exact h) (Or.inl ⟨by rfl, ?_⟩) (by assumption) ?_
      rotate_left
      · intro w hSw; (try dsimp only at hSw); go_simp; rw [HSub1.out]
      try simp only [Act.put, List.setIfInBounds_toArray, List.set_cons_zero, List.set_cons_succ]
      refine wpAnyH_take (i := 6) (v := ?_) (by simp only [List.getElem?_toArray, List.getElem?_cons_succ, List.getElem?_cons_zero]; rfl) (by kernel_rfl) (by kernel_rfl) (by kernel_rfl) (by intro _ _ _ h; exact h) (Or.inl ⟨by rfl, ?_⟩) (by assumption) ?_
      rotate_left
      · intro w hSw; (try dsimp only at hSw); go_simp; try with_reducible rfl
      try simp only [Act.put, List.setIfInBounds_toArray, List.set_cons_zero, List.set_cons_succ]
      refine wpAnyH_take (i := 7) (v := ?_) (by simp only [List.getElem?_toArray, List.getElem?_cons_succ, List.getElem?_cons_zero]; rfl) (by kernel_rfl) (by kernel_rfl) (by kernel_rfl) (by intro _ _ _ h; exact h) (Or.inl ⟨by rfl, ?_⟩) (by assumption) ?_
      rotate_left
      · intro w hSw; (try dsimp only at hSw); go_simp; try with_reducible rfl
      try simp only [Act.put, List.setIfInBounds_toArray, List.set_cons_zero, List.set_cons_succ]
      refine wpAnyH_take (i := 8) (v := ?_) (by simp only [List.getElem?_toArray, List.getElem?_cons_succ, List.getElem?_cons_zero]; rfl) (by kernel_rfl) (by kernel_rfl) (by kernel_rfl) (by intro _ _ _ h; exact h) (Or.inl ⟨by rfl, ?_⟩) (by assumption) ?_
      rotate_left
      · intro w hSw; (try dsimp only at hSw); go_simp; rw [HSub2.out]
      try simp only [Act.put, List.setIfInBounds_toArray, List.set_cons_zero, List.set_cons_succ]
      refine wpAnyH_take (i := 10) (v := ?_) (by simp only [List.getElem?_toArray, List.getElem?_cons_succ, List.getElem?_cons_zero]; rfl) (by kernel_rfl) (by kernel_rfl) (by kernel_rfl) (by intro _ _ _ h; exact h) (Or.inl ⟨by rfl, ?_⟩) (by assumption) ?_
      rotate_left
      · intro w hSw; (try dsimp only at hSw); go_simp; try with_reducible rfl
      try simp only [Act.put, List.setIfInBounds_toArray, List.set_cons_zero, List.set_cons_succ]
      refine wpAnyH_take (i := 11) (v := ?_) (by simp only [List.getElem?_toArray, List.getElem?_cons_succ, List.getElem?_cons_zero]; rfl) (by kernel_rfl) (by kernel_rfl) (by kernel_rfl) (by intro _ _ _ h; exact h) (Or.inl ⟨by rfl, ?_⟩) (by assumption) ?_
      rotate_left
      · intro w hSw; (try dsimp only at hSw); go_simp; try with_reducible rfl
      try simp only [Act.put, List.setIfInBounds_toArray, List.set_cons_zero, List.set_cons_succ]
      refine wpAnyH_take (i := 12) (v := ?_) (by simp only [List.getElem?_toArray, List.getElem?_cons_succ, List.getElem?_cons_zero]; rfl) (by kernel_rfl) (by kernel_rfl) (by kernel_rfl) (by intro _ _ _ h; exact h) (Or.inl ⟨by rfl, ?_⟩) (by assumption) ?_
      rotate_left
      · intro w hSw; (try dsimp only at hSw); go_simp; try with_reducible rfl
      try simp only [Act.put, List.setIfInBounds_toArray, List.set_cons_zero, List.set_cons_succ]
      refine wpAnyH_take (i := 13) (v := ?_) (by simp only [List.getElem?_toArray, List.getElem?_cons_succ, List.getElem?_cons_zero]; rfl) (by kernel_rfl) (by kernel_rfl) (by kernel_rfl) (by intro _ _ _ h; exact h) (Or.inl ⟨by rfl, ?_⟩) (by assumption) ?_
      rotate_left
      · intro w hSw; (try dsimp only at hSw); go_simp; try with_reducible rfl
      try simp only [Act.put, List.setIfInBounds_toArray, List.set_cons_zero, List.set_cons_succ]
      refine wpAnyH_take (i := 14) (v := ?_) (by simp only [List.getElem?_toArray, List.getElem?_cons_succ, List.getElem?_cons_zero]; rfl) (by kernel_rfl) (by kernel_rfl) (by kernel_rfl) (by intro _ _ _ h; exact h) (Or.inl ⟨by rfl, ?_⟩) (by assumption) ?_
      rotate_left
      · intro w hSw; (try dsimp only at hSw); go_simp; try with_reducible rfl
      try simp only [Act.put, List.setIfInBounds_toArray, List.set_cons_zero, List.set_cons_succ]
      refine wpAnyH_take (i := 15) (v := ?_) (by simp only [List.getElem?_toArray, List.getElem?_cons_succ, List.getElem?_cons_zero]; rfl) (by kernel_rfl) (by kernel_rfl) (by kernel_rfl) (by intro _ _ _ h; exact h) (Or.inl ⟨by rfl, ?_⟩) (by assumption) ?_
      rotate_left
      · intro w hSw; (try dsimp only at hSw); go_simp; rw [HSub1.out]
      try simp only [Act.put, List.setIfInBounds_toArray, List.set_cons_zero, List.set_cons_succ]
      refine wpAnyH_take (i := 16) (v := ?_) (by simp only [List.getElem?_toArray, List.getElem?_cons_succ, List.getElem?_cons_zero]; rfl) (by kernel_rfl) (by kernel_rfl) (by kernel_rfl) (by intro _ _ _ h; exact h) (Or.inl ⟨by rfl, ?_⟩) (by assumption) ?_
      rotate_left
      · intro w hSw; (try dsimp only at hSw); go_simp; try with_reducible rfl
      try simp only [Act.put, List.setIfInBounds_toArray, List.set_cons_zero, List.set_cons_succ]
      refine wpAnyH_take (i := 17) (v := ?_) (by simp only [List.getElem?_toArray, List.getElem?_cons_succ, List.getElem?_cons_zero]; rfl) (by kernel_rfl) (by kernel_rfl) (by kernel_rfl) (by intro _ _ _ h; exact h) (Or.inl ⟨by rfl, ?_⟩) (by assumption) ?_
      rotate_left
      · intro w hSw; (try dsimp only at hSw); go_simp; try with_reducible rfl
      try simp only [Act.put, List.setIfInBounds_toArray, List.set_cons_zero, List.set_cons_succ]
      refine wpAnyH_take (i := 18) (v := ?_) (by simp only [List.getElem?_toArray, List.getElem?_cons_succ, List.getElem?_cons_zero]; rfl) (by kernel_rfl) (by kernel_rfl) (by kernel_rfl) (by intro _ _ _ h; exact h) (Or.inl ⟨by rfl, ?_⟩) (by assumption) ?_
      rotate_left
      · intro w hSw; (try dsimp only at hSw); go_simp; rw [HSub2.out]
      try simp only [Act.put, List.setIfInBounds_toArray, List.set_cons_zero, List.set_cons_succ]
      refine wpAnyH_ready (rs := [9]) (by kernel_rfl) (by simp) ?_
      refine AllReadyH.cons (o := _) (by simp only [List.getElem?_toArray, List.getElem?_cons_succ, List.getElem?_cons_zero]; rfl) (fun K hK => ?_) AllReadyH.nil
      go_simp
      go_at_call 57
      refine Calls.mono (swapped57 _ ia ni ic is (m - t) (k - t) HLb.out.2.1 (by omega) (HSi.out.below (HXW.out w2 HB2.out).drew (Nat.le_refl _))) ?_
      rintro e w3 ⟨b, d, rfl, hown, hb3⟩
      have HB3 : Hid (Below w2.heap.size w2 w3) := Lib.hid ((Below.refl _ _).drew.trans hb3)
      have HO : Hid (w3.ownsRow w2.heap.size 3 1 (.slice b ni d) ni ((turnL (m - t) (k - t) is).map (Value.int .i64))) := Lib.hid hown
      clear hb3 hown
      go_simp
      refine hK.out _ _ (by exact HHK.out _ HB3.out) (fun hHeld => ?_)
      clear hK K
      try simp only [Act.put, List.setIfInBounds_toArray, List.set_cons_zero, List.set_cons_succ]
      refine wpAnyH_take (i := 20) (v := ?_) (by simp only [List.getElem?_toArray, List.getElem?_cons_succ, List.getElem?_cons_zero]; rfl) (by kernel_rfl) (by kernel_rfl) (by kernel_rfl) (by intro _ _ _ h; exact h) (Or.inl ⟨by rfl, ?_⟩) (by assumption) ?_
      rotate_left
      · intro w hSw; (try dsimp only at hSw); go_simp; try with_reducible rfl
      try simp only [Act.put, List.setIfInBounds_toArray, List.set_cons_zero, List.set_cons_succ]
      refine wpAnyH_take (i := 21) (v := ?_) (by simp only [List.getElem?_toArray, List.getElem?_cons_succ, List.getElem?_cons_zero]; rfl) (by kernel_rfl) (by kernel_rfl) (by kernel_rfl) (by intro _ _ _ h; exact h) (Or.inl ⟨by rfl, ?_⟩) (by assumption) ?_
      rotate_left
      · intro w hSw; (try dsimp only at hSw); go_simp; try with_reducible rfl
      try simp only [Act.put, List.setIfInBounds_toArray, List.set_cons_zero, List.set_cons_succ]
      refine wpAnyH_ready (rs := [19]) (by kernel_rfl) (by simp) ?_
      refine AllReadyH.cons (o := _) (by simp only [List.getElem?_toArray, List.getElem?_cons_succ, List.getElem?_cons_zero]; rfl) (fun K hK => ?_) AllReadyH.nil
      go_simp
      go_at_call 57
      refine Calls.mono (swapped57 _ oa no oc os (m - t) (k - t) HLb.out.2.2 (by omega) (HSo.out.below (HXW.out w3 (HB2.out.trans (HB3.out.mono (by have := HSz.out; have := HS2.out; omega)))) (Nat.le_refl _))) ?_
      rintro e w4 ⟨b', d', rfl, hown, hb4⟩
      have HB4 : Hid (Below w2.heap.size w2 w4) := Lib.hid (HB3.out.trans (hb4.mono HB3.out.size))
      have HO2 : Hid (w4.ownsRow w2.heap.size 3 1 (.slice b ni d) ni ((turnL (m - t) (k - t) is).map (Value.int .i64)) ∧ w4.ownsRow w3.heap.size 3 1 (.slice b' no d') no ((turnL (m - t) (k - t) os).map (Value.int .i64))) := Lib.hid ⟨own_below HO.out hb4, hown⟩
      clear hb4 hown HO
      have hr4 := HR2.out.of_block (HB4.out.block X (by have := HSz.out; have := HS2.out; omega))
      have x7 : w4.cell? ⟨X, 7, none⟩ = some (.slice ia ni ic) := hr4.cell (by omega)
      have f7 := hr4.frozen 7
      have hr5 := hr4.set 7 (.slice b ni d)
      have x8 : (w4.setCell ⟨X, 7, none⟩ (.slice b ni d)).cell? ⟨X, 8, none⟩ = some (.slice oa no oc) := hr5.cell (by omega)
      have f8 := hr5.frozen 8
      have HR6 := Lib.hid (hr5.set 8 (.slice b' no d'))
      clear hr4 hr5
      go_simp
      refine hK.out _ _ (by exact HHK.out _ HB4.out) (fun hHeld => ?_)
      clear hK K
      try simp only [Act.put, List.setIfInBounds_toArray, List.set_cons_zero, List.set_cons_succ]
      refine wpAnyH_ready (rs := [22]) (by kernel_rfl) (by simp) ?_
      refine AllReadyH.cons (o := _) (by simp only [List.getElem?_toArray, List.getElem?_cons_succ, List.getElem?_cons_zero]; rfl) (fun K hK => ?_) AllReadyH.nil
      go_simp

      refine hK.out _ _ (by refine HK.out _ ((HB2.out.trans (HB4.out.mono (by have := HSz.out; have := HS2.out; omega))).setCell (Nat.le_refl _) _)) (fun hHeld => ?_)
      clear hK K
      try simp only [Act.put, List.setIfInBounds_toArray, List.set_cons_zero, List.set_cons_succ]
      refine wpAnyH_take (i := 23) (v := ?_) (by simp only [List.getElem?_toArray, List.getElem?_cons_succ, List.getElem?_cons_zero]; rfl) (by kernel_rfl) (by kernel_rfl) (by kernel_rfl) (by intro _ _ _ h; exact h) (Or.inl ⟨by rfl, ?_⟩) (by assumption) ?_
      rotate_left
      · intro w hSw; (try dsimp only at hSw); go_simp; try with_reducible rfl
      try simp only [Act.put, List.setIfInBounds_toArray, List.set_cons_zero, List.set_cons_succ]
      refine wpAnyH_take (i := 24) (v := ?_) (by simp only [List.getElem?_toArray, List.getElem?_cons_succ, List.getElem?_cons_zero]; rfl) (by kernel_rfl) (by kernel_rfl) (by kernel_rfl) (by intro _ _ _ h; exact h) (Or.inl ⟨by rfl, ?_⟩) (by assumption) ?_
      rotate_left
      · intro w hSw; (try dsimp only at hSw); go_simp; try with_reducible rfl
      try simp only [Act.put, List.setIfInBounds_toArray, List.set_cons_zero, List.set_cons_succ]
      refine wpAnyH_ready (rs := [25]) (by kernel_rfl) (by simp) ?_
      refine AllReadyH.cons (o := _) (by simp only [List.getElem?_toArray, List.getElem?_cons_succ, List.getElem?_cons_zero]; rfl) (fun K hK => ?_) AllReadyH.nil
      go_simp

      refine hK.out _ _ (by refine HK.out _ (((HB2.out.trans (HB4.out.mono (by have := HSz.out; have := HS2.out; omega))).setCell (Nat.le_refl _) _).setCell (Nat.le_refl _) _)) (fun hHeld => ?_)
      clear hK K
      try simp only [Act.put, List.setIfInBounds_toArray, List.set_cons_zero, List.set_cons_succ]
      refine wpAnyH_done (by kernel_rfl) ?_ _
      go_wp2_with fail
      go_meet
      have hs4 := HB4.out.size
      have hs3 := HB3.out.size
      have hs2 := HS2.out
      obtain ⟨z1, z2, z3, z4⟩ := HSz.out
      have hbX : Below X w1 ((w4.setCell ⟨X, 7, none⟩ (.slice b ni d)).setCell ⟨X, 8, none⟩ (.slice b' no d')) := ((HB2.out.trans (HB4.out.mono (by omega))).setCell (Nat.le_refl _) _).setCell (Nat.le_refl _) _
      refine ⟨ba, bc, bs, b, d, turnL (m - t) (k - t) is, b', d', turnL (m - t) (k - t) os, Lib.hid ⟨⟨HLb.out.1, by rw [turnL_len]; exact HLb.out.2.1, by rw [turnL_len]; exact HLb.out.2.2, by rw [HT.out, HE.out.1, HE.out.2.1, HE.out.2.2]⟩, hbX, HR6.out.congr fun i hi => ?_, ?_⟩⟩
      · match i, hi with
        | 0, _ => rfl
        | 1, _ => rfl
        | 2, _ => rfl
        | 3, _ => rfl
        | 4, _ => rfl
        | 5, _ => rfl
        | 6, _ => rfl
        | 7, _ => rfl
        | 8, _ => rfl
      · have ho1 := own_weak (base' := w1.heap.size) (ownsRow_setCell_below (ownsRow_setCell_below HO2.out.1 (a := ⟨X, 7, none⟩) (by show X < w2.heap.size; omega) (.slice b ni d)) (a := ⟨X, 8, none⟩) (by show X < w2.heap.size; omega) (.slice b' no d')) (by omega)
        have ho2 := own_weak (base' := w1.heap.size) (ownsRow_setCell_below (ownsRow_setCell_below HO2.out.2 (a := ⟨X, 7, none⟩) (by show X < w3.heap.size; omega) (.slice b ni d)) (a := ⟨X, 8, none⟩) (by show X < w3.heap.size; omega) (.slice b' no d')) (by omega)
        have hi6 := right_i64 HSw.out
        rw [HT.out, HE.out.1, HE.out.2.1, HE.out.2.2] at hi6
        exact ⟨.inl ⟨rfl, rfl, rfl⟩, .inr (by dsimp only; rw [turnL_len, HLb.out.2.1]; exact ho1), .inr (by dsimp only; rw [turnL_len, HLb.out.2.2]; exact ho2), hi6.1, hi6.2.1, hi6.2.2⟩
  case rest =>
    obtain ⟨wA, hwA⟩ : ∃ W, W = wc := ⟨_, rfl⟩
    subst hwA
    obtain ⟨rba, rbc, rbs, ria, ric, ris, roa, roc, ros, HC0⟩ := hcut
    obtain ⟨⟨l1, l2, l3, hTD⟩, hbA, hrA, hSA⟩ := HC0.out
    have HBA := Lib.hid hbA
    have HSA := Lib.hid hSA
    have HRA := Lib.hid hrA
    have hdat : (SpotV.data ⟨rba, rbc, rbs, ria, ric, ris, roa, roc, ros⟩) = TD := hTD.symm
    have hAsz : H + 3 ≤ wA.heap.size := by have := hbA.size; have := HSz.out; omega
    have HAs := Lib.hid hAsz
    have C1 : Hid (∀ W, Below wA.heap.size wA W → Calls Try.prog 29 #[.agg #[.int .i64 aw, .int .i64 ah, .int .i64 at_, .int .i64 pi, .slice pa nb pc, .slice qa no qc, .slice rba nb rbc, .slice ria ni ric, .slice roa no roc]] W fun e w' => e = .returned (.int .i64 (costL A D TD)) ∧ Below W.heap.size W w') := Lib.hid fun W hW => by
      have h := HCo.out W ⟨rba, rbc, rbs, ria, ric, ris, roa, roc, ros⟩ (HXW.out W (hbA.trans (hW.mono (by have := HSz.out; omega)))) ((hSA.below hW).spots (HSs.out W B1 (by have := HSz.out; omega) (HXW.out W (hbA.trans (hW.mono (by have := HSz.out; omega)))) W (World.grownBy.refl _ _))) (by rw [hdat]; exact HSw.out)
      rw [hdat] at h
      dsimp only at h
      rwa [l1, l2, l3] at h
    have C2 : Hid (∀ W, Below wA.heap.size wA W → Calls Try.prog 29 #[.agg #[.int .i64 aw, .int .i64 ah, .int .i64 at_, .int .i64 pi, .slice pa nb pc, .slice qa no qc, .slice ba nb bc, .slice ia ni ic, .slice oa no oc]] W fun e w' => e = .returned (.int .i64 (costL A D E)) ∧ Below W.heap.size W w') := Lib.hid fun W hW => by
      have hWw := HXW.out W (hbA.trans (hW.mono (by have := HSz.out; omega)))
      have h := HCo.out W ⟨ba, bc, bs, ia, ic, is, oa, oc, os⟩ hWw (HSs.out W B1 (by have := HSz.out; omega) hWw W (World.grownBy.refl _ _)) (by rw [← HEd.out]; exact HR.out)
      rw [← HEd.out] at h
      dsimp only at h
      rwa [HLb.out.1, HLb.out.2.1, HLb.out.2.2] at h
    have HKA : Hid (∀ W, Below wA.heap.size wA W → (W.cell? ⟨H, 0, none⟩ = some (.int .i64 aw) ∧ W.cell? ⟨H, 1, none⟩ = some (.int .i64 ah) ∧ W.cell? ⟨H, 2, none⟩ = some (.int .i64 at_) ∧ W.cell? ⟨H, 3, none⟩ = some (.int .i64 pi) ∧ W.cell? ⟨H, 4, none⟩ = some (.slice pa nb pc) ∧ W.cell? ⟨H, 5, none⟩ = some (.slice qa no qc) ∧ W.cell? ⟨H, 6, none⟩ = some (.slice ba nb bc) ∧ W.cell? ⟨H, 7, none⟩ = some (.slice ia ni ic) ∧ W.cell? ⟨H, 8, none⟩ = some (.slice oa no oc)) ∧ W.cell? ⟨X, 0, none⟩ = some (.int .i64 aw) ∧ W.cell? ⟨X, 1, none⟩ = some (.int .i64 ah) ∧ W.cell? ⟨X, 2, none⟩ = some (.int .i64 at_) ∧ W.cell? ⟨X, 3, none⟩ = some (.int .i64 pi) ∧ W.cell? ⟨X, 4, none⟩ = some (.slice pa nb pc) ∧ W.cell? ⟨X, 5, none⟩ = some (.slice qa no qc) ∧ W.cell? ⟨X, 6, none⟩ = some (.slice rba nb rbc) ∧ W.cell? ⟨X, 7, none⟩ = some (.slice ria ni ric) ∧ W.cell? ⟨X, 8, none⟩ = some (.slice roa no roc)) := Lib.hid fun W hW => by
      refine ⟨HK.out W (hbA.trans (hW.mono (by have := HSz.out; omega))), ?_⟩
      have h := hrA.of_block (hW.block X (by have := HSz.out; omega))
      exact ⟨h.cell (by omega), h.cell (by omega), h.cell (by omega), h.cell (by omega), h.cell (by omega), h.cell (by omega), h.cell (by omega), h.cell (by omega), h.cell (by omega)⟩
    have HLr := Lib.hid (And.intro l1 (And.intro l2 l3))
    have HDat := Lib.hid hdat
    clear l1 l2 l3 hTD hbA hrA hSA hdat hAsz HC0 a0 a1 a2 p0 p1 p2 s0 s1 s2 x0 x1 x2 x3 x4 x5 x6 x7 x8
    obtain ⟨c1, hc1⟩ : ∃ c, c = costL A D TD := ⟨_, rfl⟩
    obtain ⟨c2, hc2⟩ : ∃ c, c = costL A D E := ⟨_, rfl⟩
    rw [← hc1] at C1 HBy HBn
    rw [← hc2] at C2 HBy HBn
    clear hc1 hc2
    obtain ⟨⟨a0, a1, a2, p0, p1, p2, s0, s1, s2⟩, x0, x1, x2, x3, x4, x5, x6, x7, x8⟩ := HKA.out wA (Below.refl _ _)
    go_wp2_with fail
    clear a0 a1 a2 p0 p1 p2 s0 s1 s2 x0 x1 x2 x3 x4 x5 x6 x7 x8
    refine wp_region_held_drew (S := fun w' => (w'.cell? ⟨H, 0, none⟩ = some (.int .i64 aw) ∧ w'.cell? ⟨H, 1, none⟩ = some (.int .i64 ah) ∧ w'.cell? ⟨H, 2, none⟩ = some (.int .i64 at_) ∧ w'.cell? ⟨H, 3, none⟩ = some (.int .i64 pi) ∧ w'.cell? ⟨H, 4, none⟩ = some (.slice pa nb pc) ∧ w'.cell? ⟨H, 5, none⟩ = some (.slice qa no qc) ∧ w'.cell? ⟨H, 6, none⟩ = some (.slice ba nb bc) ∧ w'.cell? ⟨H, 7, none⟩ = some (.slice ia ni ic) ∧ w'.cell? ⟨H, 8, none⟩ = some (.slice oa no oc)) ∧ w'.cell? ⟨X, 0, none⟩ = some (.int .i64 aw) ∧ w'.cell? ⟨X, 1, none⟩ = some (.int .i64 ah) ∧ w'.cell? ⟨X, 2, none⟩ = some (.int .i64 at_) ∧ w'.cell? ⟨X, 3, none⟩ = some (.int .i64 pi) ∧ w'.cell? ⟨X, 4, none⟩ = some (.slice pa nb pc) ∧ w'.cell? ⟨X, 5, none⟩ = some (.slice qa no qc) ∧ w'.cell? ⟨X, 6, none⟩ = some (.slice rba nb rbc) ∧ w'.cell? ⟨X, 7, none⟩ = some (.slice ria ni ric) ∧ w'.cell? ⟨X, 8, none⟩ = some (.slice roa no roc)) (by kernel_rfl) (HKA.out _ (Below.refl _ _).drew) (fun hHeld => ?_)
    refine wpAnyH_take (i := 0) (v := ?_) (by simp only [List.getElem?_toArray, List.getElem?_cons_succ, List.getElem?_cons_zero]; rfl) (by kernel_rfl) (by kernel_rfl) (by kernel_rfl) (by intro _ _ _ h; exact h) (Or.inl ⟨by rfl, ?_⟩) (by assumption) ?_
    rotate_left
    · intro w hSw; (try dsimp only at hSw); go_simp; try with_reducible rfl
    try simp only [Act.put, List.setIfInBounds_toArray, List.set_cons_zero, List.set_cons_succ]
    refine wpAnyH_take (i := 2) (v := ?_) (by simp only [List.getElem?_toArray, List.getElem?_cons_succ, List.getElem?_cons_zero]; rfl) (by kernel_rfl) (by kernel_rfl) (by kernel_rfl) (by intro _ _ _ h; exact h) (Or.inl ⟨by rfl, ?_⟩) (by assumption) ?_
    rotate_left
    · intro w hSw; (try dsimp only at hSw); go_simp; try with_reducible rfl
    try simp only [Act.put, List.setIfInBounds_toArray, List.set_cons_zero, List.set_cons_succ]
    refine wpAnyH_ready (rs := [1]) (by kernel_rfl) (by simp) ?_
    refine AllReadyH.cons (o := _) (by simp only [List.getElem?_toArray, List.getElem?_cons_succ, List.getElem?_cons_zero]; rfl) (fun K hK => ?_) AllReadyH.nil
    go_simp
    go_at_call 29
    refine Calls.mono (C1.out _ (Below.refl _ _).drew) ?_
    rintro e w5 ⟨rfl, hb5⟩
    have HB5 : Hid (Below wA.heap.size wA w5) := Lib.hid ((Below.refl _ _).drew.trans hb5)
    clear hb5
    go_simp
    refine hK.out _ _ (by exact HKA.out _ HB5.out) (fun hHeld => ?_)
    clear hK K
    try simp only [Act.put, List.setIfInBounds_toArray, List.set_cons_zero, List.set_cons_succ]
    refine wpAnyH_ready (rs := [3]) (by kernel_rfl) (by simp) ?_
    refine AllReadyH.cons (o := _) (by simp only [List.getElem?_toArray, List.getElem?_cons_succ, List.getElem?_cons_zero]; rfl) (fun K hK => ?_) AllReadyH.nil
    go_simp
    go_at_call 29
    refine Calls.mono (C2.out _ HB5.out) ?_
    rintro e w6 ⟨rfl, hb6⟩
    have HB6 : Hid (Below wA.heap.size wA w6) := Lib.hid (HB5.out.trans (hb6.mono HB5.out.size))
    clear hb6
    go_simp
    refine hK.out _ _ (by exact HKA.out _ HB6.out) (fun hHeld => ?_)
    clear hK K
    try simp only [Act.put, List.setIfInBounds_toArray, List.set_cons_zero, List.set_cons_succ]
    refine wpAnyH_take (i := 4) (v := ?_) (by simp only [List.getElem?_toArray, List.getElem?_cons_succ, List.getElem?_cons_zero]; rfl) (by kernel_rfl) (by kernel_rfl) (by kernel_rfl) (by intro _ _ _ h; exact h) (Or.inl ⟨by rfl, ?_⟩) (by assumption) ?_
    rotate_left
    · intro w hSw; (try dsimp only at hSw); go_simp; try with_reducible rfl
    try simp only [Act.put, List.setIfInBounds_toArray, List.set_cons_zero, List.set_cons_succ]
    refine wpAnyH_done (by kernel_rfl) ?_ _
    have HXA : Hid (Below X w1 w6) := Lib.hid (HBA.out.trans (HB6.out.mono (by have := HSz.out; have := HAs.out; omega)))
    have hr9 := HW1r.out w6 HXA.out
    have z0 : w6.cell? ⟨B1, 0, none⟩ = some (.int .i64 0) := hr9.cell (by omega)
    have f0 := hr9.frozen 0
    have z1 : w6.cell? ⟨B1, 1, none⟩ = some (.int .i64 0) := hr9.cell (by omega)
    have f1 := hr9.frozen 1
    have z2 : w6.cell? ⟨B1, 2, none⟩ = some (.int .i64 0) := hr9.cell (by omega)
    have f2 := hr9.frozen 2
    have z3 : w6.cell? ⟨B1, 3, none⟩ = some (.int .i64 0) := hr9.cell (by omega)
    have f3 := hr9.frozen 3
    have z4 : w6.cell? ⟨B1, 4, none⟩ = some (.slice none 0 0) := hr9.cell (by omega)
    have f4 := hr9.frozen 4
    have z5 : w6.cell? ⟨B1, 5, none⟩ = some (.slice none 0 0) := hr9.cell (by omega)
    have f5 := hr9.frozen 5
    have z6 : w6.cell? ⟨B1, 6, none⟩ = some (.slice none 0 0) := hr9.cell (by omega)
    have f6 := hr9.frozen 6
    have z7 : w6.cell? ⟨B1, 7, none⟩ = some (.slice none 0 0) := hr9.cell (by omega)
    have f7 := hr9.frozen 7
    have z8 : w6.cell? ⟨B1, 8, none⟩ = some (.slice none 0 0) := hr9.cell (by omega)
    have f8 := hr9.frozen 8
    have HR9 := Lib.hid hr9
    obtain ⟨⟨a0, a1, a2, p0, p1, p2, s0, s1, s2⟩, x0, x1, x2, x3, x4, x5, x6, x7, x8⟩ := HKA.out w6 HB6.out
    clear hr9 hHeld
    by_cases hcc : c1 ≤ c2
    · have hd : decide (c1 > c2) = false := by simpa using hcc
      have hd2 : decide (c2 < c1) = false := by simpa using hcc
      have HBB2 := Lib.hid (HBy.out hcc)
      clear hcc
      rw [hd2]
      go_wp2_with fail
      (try simp only [Exit.inBlock, Exit.then])
      have key : ∀ (R : Ending → World → Prop) (a : Act) (W' : World), a.tmps[6]?.getD undef = .pointer (some ⟨B1, 0, none⟩) → a.tmps[7]?.getD undef = .bool true → a.defers = [] → W' = (((((((((w6.setCell ⟨B1, 0, none⟩ (.int .i64 aw)).setCell ⟨B1, 1, none⟩ (.int .i64 ah)).setCell ⟨B1, 2, none⟩ (.int .i64 at_)).setCell ⟨B1, 3, none⟩ (.int .i64 pi)).setCell ⟨B1, 4, none⟩ (.slice pa nb pc)).setCell ⟨B1, 5, none⟩ (.slice qa no qc)).setCell ⟨B1, 6, none⟩ (.slice rba nb rbc)).setCell ⟨B1, 7, none⟩ (.slice ria ni ric)).setCell ⟨B1, 8, none⟩ (.slice roa no roc)) → R (.returned (.tuple #[.agg #[.int .i64 aw, .int .i64 ah, .int .i64 at_, .int .i64 pi, .slice pa nb pc, .slice qa no qc, .slice rba nb rbc, .slice ria ni ric, .slice roa no roc], .bool true])) W' → bodyPost Try.prog Try.f41 R .ret a W' := fun R a W' q1 q2 q3 q4 q5 => @plan_end Try.f41 f41_results R a w6 B1 _ (.int .i64 aw) (.int .i64 ah) (.int .i64 at_) (.int .i64 pi) (.slice pa nb pc) (.slice qa no qc) (.slice rba nb rbc) (.slice ria ni ric) (.slice roa no roc) true W' HR9.out q1 q2 q3 q4 q5
      refine key _ _ _ ?h6 ?h7 ?hd ?hW ?hR
      case h6 => rfl
      case h7 => rfl
      case hd => rfl
      case hW => rfl
      have hg := grown_put9 (b := B1) (v0 := .int .i64 aw) (v1 := .int .i64 ah) (v2 := .int .i64 at_) (v3 := .int .i64 pi) (v4 := .slice pa nb pc) (v5 := .slice qa no qc) (v6 := .slice rba nb rbc) (v7 := .slice ria ni ric) (v8 := .slice roa no roc) (World.grownBy.refl w6 (some B1))
      refine ⟨⟨rba, rbc, rbs, ria, ric, ris, roa, roc, ros⟩, ?_, by rw [HDat.out, HBB2.out.2], ((HSA.out.below HB6.out).grown hg (by have := HSz.out; omega)).weak (by have := HSz.out; omega), ?_⟩
      · dsimp only
        rw [HLr.out.1, HLr.out.2.1, HLr.out.2.2, HBB2.out.1]
      · exact below_grown (HXW.out _ HXA.out) hg (by have := HSz.out; omega) (HXW.out _ HXA.out).size
    · have hd : decide (c1 > c2) = true := by simp; omega
      have hd2 : decide (c2 < c1) = true := by simp; omega
      have HBB2 := Lib.hid (HBn.out (by omega))
      clear hcc
      rw [hd2]
      go_wp2_with fail
      (try simp only [Exit.inBlock, Exit.then])
      have key : ∀ (R : Ending → World → Prop) (a : Act) (W' : World), a.tmps[6]?.getD undef = .pointer (some ⟨B1, 0, none⟩) → a.tmps[7]?.getD undef = .bool false → a.defers = [] → W' = (((((((((w6.setCell ⟨B1, 0, none⟩ (.int .i64 aw)).setCell ⟨B1, 1, none⟩ (.int .i64 ah)).setCell ⟨B1, 2, none⟩ (.int .i64 at_)).setCell ⟨B1, 3, none⟩ (.int .i64 pi)).setCell ⟨B1, 4, none⟩ (.slice pa nb pc)).setCell ⟨B1, 5, none⟩ (.slice qa no qc)).setCell ⟨B1, 6, none⟩ (.slice ba nb bc)).setCell ⟨B1, 7, none⟩ (.slice ia ni ic)).setCell ⟨B1, 8, none⟩ (.slice oa no oc)) → R (.returned (.tuple #[.agg #[.int .i64 aw, .int .i64 ah, .int .i64 at_, .int .i64 pi, .slice pa nb pc, .slice qa no qc, .slice ba nb bc, .slice ia ni ic, .slice oa no oc], .bool false])) W' → bodyPost Try.prog Try.f41 R .ret a W' := fun R a W' q1 q2 q3 q4 q5 => @plan_end Try.f41 f41_results R a w6 B1 _ (.int .i64 aw) (.int .i64 ah) (.int .i64 at_) (.int .i64 pi) (.slice pa nb pc) (.slice qa no qc) (.slice ba nb bc) (.slice ia ni ic) (.slice oa no oc) false W' HR9.out q1 q2 q3 q4 q5
      refine key _ _ _ ?h6b ?h7b ?hdb ?hWb ?hRb
      case h6b => rfl
      case h7b => rfl
      case hdb => rfl
      case hWb => rfl
      have hg := grown_put9 (b := B1) (v0 := .int .i64 aw) (v1 := .int .i64 ah) (v2 := .int .i64 at_) (v3 := .int .i64 pi) (v4 := .slice pa nb pc) (v5 := .slice qa no qc) (v6 := .slice ba nb bc) (v7 := .slice ia ni ic) (v8 := .slice oa no oc) (World.grownBy.refl w6 (some B1))
      refine ⟨⟨ba, bc, bs, ia, ic, is, oa, oc, os⟩, ?_, by rw [← HEd.out, HBB2.out.2], SpotNew.same (HI6.out).1 (HI6.out).2.1 (HI6.out).2.2, ?_⟩
      · dsimp only
        rw [HLb.out.1, HLb.out.2.1, HLb.out.2.2, HBB2.out.1]
      · exact below_grown (HXW.out _ HXA.out) hg (by have := HSz.out; omega) (HXW.out _ HXA.out).size
end Go.Proofs.Ytholafodachjnaa
