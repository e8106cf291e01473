/- Where all is in the end (Place). -/
import Derived.BigRegion
import Derived.Deep.CutRange
import Derived.Test.YtholafodachjnaaZ31
import Derived.Test.YtholafodachjnaaZ11
namespace Go.Proofs.Ytholafodachjnaa
open Go.RowKit Go.Shelf
set_option linter.unusedVariables false
set_option linter.unusedSimpArgs false
attribute [local go_sem] Oper.semAt_some

theorem KpX.put {n₀ X B : Nat} (hn : n₀ ≤ B) (W : World) (l : Nat) (o o' : Obj) (hl : B ≤ l) (h : W.heap[l]? = some o) (h1 : o.isCells = false) (h2 : o.isWalk = false) : KpX n₀ X W (W.putObj l o') := by
  have hg := grownBy_putObj' W l o'
  exact ⟨hg.os, hg.tape, hg.output, hg.size, fun k hk _ => hg.block k (by have := (Array.getElem?_eq_some_iff.1 h).1; omega) (by intro e; injection e with e; omega)⟩
theorem own_kept {W W' : World} {row : Option Nat} {base n : Nat} {v : Value} {l : List Value} (h : W.ownsRow base 3 1 v n l) (hg : W.grownBy W' row) (hr : ∀ r, row = some r → ∃ o : Obj, W.heap[r]? = some o ∧ o.isCells = false) : W'.ownsRow base 3 1 v n l := by
  refine ⟨h.1, ?_⟩
  rcases h.2 with h0 | ⟨g, cap, cur, hv, hb, hgg, h1, h2, h3, h4⟩
  · exact .inl h0
  · refine .inr ⟨g, cap, cur, hv, hb, ?_, h1, h2, h3, h4⟩
    rw [hg.block g (Array.getElem?_eq_some_iff.1 hgg).1 (fun e => by
      obtain ⟨o, ho, hc⟩ := hr g e.symm
      rw [hgg] at ho
      injection ho with ho
      rw [← ho] at hc
      cases hc)]
    exact hgg
theorem SpotNew.kept {base : Nat} {S R : SpotV} {W W' : World} {row : Option Nat} (h : SpotNew base S R W) (hg : W.grownBy W' row) (hr : ∀ r, row = some r → ∃ o : Obj, W.heap[r]? = some o ∧ o.isCells = false) : SpotNew base S R W' :=
  ⟨h.b.imp id (fun x => own_kept x hg hr), h.i.imp id (fun x => own_kept x hg hr), h.o.imp id (fun x => own_kept x hg hr), h.bR, h.iR, h.oR⟩
theorem noDefer_spec {ops : Array Oper} (h : (ops.all fun o => match o.op with | .defer _ => false | _ => true) = true) : ∀ (i : Nat) (o : Oper), ops[i]? = some o → ∀ c, o.op ≠ .defer c := by
  intro i o ho c hc
  have hi := (Array.getElem?_eq_some_iff.1 ho)
  obtain ⟨hlt, he⟩ := hi
  have := Array.all_eq_true.1 h i hlt
  rw [he] at this
  simp [hc] at this
theorem own_grownT {w W : World} {base n r m : Nat} {v : Value} {l : List Value} {f : Nat → Value} (h : w.ownsRow base 3 1 v n l) (hg : w.grownBy W (some r)) (hx : w.rowIs r 53 m f) : W.ownsRow base 3 1 v n l := by
  refine ⟨h.1, ?_⟩
  rcases h.2 with h0 | ⟨g, cap, cur, hv, hb, hgg, h1, h2, h3, h4⟩
  · exact .inl h0
  · refine .inr ⟨g, cap, cur, hv, hb, ?_, h1, h2, h3, h4⟩
    rw [hg.block g (Array.getElem?_eq_some_iff.1 hgg).1 (fun e => by
      injection e with e
      subst e
      obtain ⟨c, hc, _⟩ := hx
      rw [hgg] at hc
      injection hc with hc
      injection hc with _ hc
      cases hc)]
    exact hgg
theorem SpotNew.grownT {base r m : Nat} {S R : SpotV} {W W' : World} {f : Nat → Value} (h : SpotNew base S R W) (hg : W.grownBy W' (some r)) (hx : W.rowIs r 53 m f) : SpotNew base S R W' :=
  ⟨h.b.imp id (fun x => own_grownT x hg hx), h.i.imp id (fun x => own_grownT x hg hx), h.o.imp id (fun x => own_grownT x hg hx), h.bR, h.iR, h.oR⟩
/-- Where all is behind changes that come in any order. -/
def placeL (a : ArchV) (D : PackD) (ds : List Int) (S : SpotD) (js : List Nat) : SpotD := js.foldl (fun S j => betterD a D S (mOf a ds j) (nOf a ds j)) S
theorem placeL_snoc (a : ArchV) (D : PackD) (ds : List Int) (S : SpotD) (js : List Nat) (j : Nat) : placeL a D ds S (js ++ [j]) = betterD a D (placeL a D ds S js) (mOf a ds j) (nOf a ds j) := by unfold placeL; rw [List.foldl_append]; rfl
theorem placeL_range (a : ArchV) (D : PackD) (ds : List Int) (S : SpotD) : ∀ k, placeL a D ds S (List.range k) = placeTo a D ds S k
  | 0 => rfl
  | k + 1 => by rw [List.range_succ, placeL_snoc, placeL_range a D ds S k]; rfl
theorem placeL_right {a : ArchV} {D : PackD} (ds : List Int) (js : List Nat) : ∀ {S : SpotD}, RightAll a D S → RightAll a D (placeL a D ds S js) := by
  induction js with
  | nil => exact fun h => h
  | cons j js ih => exact fun {S} h => ih (S := betterD a D S (mOf a ds j) (nOf a ds j)) (h.better (two_of a ds j h.p.w h.p.h))
/-- Between two rounds: the plan's box, and what else lies as it lay. -/
structure PlSt (base n₀ X : Nat) (A6 : List Value) (W0 : World) (S : SpotD) (W : World) : Prop where
  kp : KpX n₀ X W0 W
  st : ∃ R : SpotV, R.data = S ∧ W.rowIs X 53 9 (fun i => (A6 ++ [Value.slice R.ba R.bs.length R.bc, Value.slice R.ia R.is.length R.ic, Value.slice R.oa R.os.length R.oc]).getD i undef) ∧ SpotNew base noSpots R W
theorem PlSt.kept {base n₀ X : Nat} {A6 : List Value} {W0 W W' : World} {S : SpotD} {row : Option Nat} (h : PlSt base n₀ X A6 W0 S W) (hX : X < n₀) (hg : W.grownBy W' row) (hr : ∀ r, row = some r → n₀ ≤ r ∧ ∃ o : Obj, W.heap[r]? = some o ∧ o.isCells = false) (hs : n₀ ≤ W.heap.size) : PlSt base n₀ X A6 W0 S W' := by
  obtain ⟨R, h1, h2, h3⟩ := h.st
  have hne : ∀ k, k < n₀ → some k ≠ row := fun k hk e => by have := (hr k e.symm).1; omega
  refine ⟨⟨hg.os.trans h.kp.os, hg.tape.trans h.kp.tape, hg.output.trans h.kp.output, Nat.le_trans h.kp.size hg.size, fun k hk hx => (hg.block k (by omega) (hne k hk)).trans (h.kp.block k hk hx)⟩, R, h1, h2.of_block (hg.block X (by omega) (hne X hX)), h3.kept hg (fun r e => (hr r e).2)⟩
def PlI {n : Nat} (base n₀ X : Nat) (A6 : List Value) (W0 : World) (f : List Nat → SpotD) (pre : List (Ch n)) (W : World) : Prop := PlSt base n₀ X A6 W0 (f (pre.map fun x => x.1)) W ∧ ∀ x ∈ pre, 2 * x.1 + 1 < n
def PlIx {n : Nat} (base n₀ X : Nat) (A6 : List Value) (W0 : World) (f : List Nat → SpotD) (c : Code) (pre : List (Ch n)) (W : World) : Prop := c = Code.exit 0 ∧ ∃ pre' x, pre = pre' ++ [x] ∧ 2 * x.1 + 1 = n ∧ PlSt base n₀ X A6 W0 (f (pre'.map fun x => x.1)) W
/-- Q, and no panic. -/
def NP (Q : Exit → Act → World → Prop) : Exit → Act → World → Prop
  | .panic _, _, _ => False
  | .outgrown, _, _ => False
  | e, a, w => Q e a w
theorem NP.imp {Q : Exit → Act → World → Prop} : ∀ e a w, NP Q e a w → Q e a w := fun e a w h => by
  cases e <;> first | exact h | exact h.elim
theorem f22_results : Try.f22.results = #[.cell 6 29, .tmp 7] := rfl
theorem results_place {fn : Func} (hfn : fn.results = #[.cell 6 29, .tmp 7]) {tmps : Array Value} {W : World} {b : Nat} {v0 v1 v2 : Value} {e : Int} (h6 : tmps[6]?.getD undef = .pointer (some ⟨b, 0, none⟩)) (h8 : tmps[7]?.getD undef = .int .i64 e)
    (hrow : W.rowIs b 29 3 (fun i => ([v0, v1, v2] : List Value).getD i undef)) : (results fn tmps).run Try.prog W = .ok (.tuple #[.agg #[v0, v1, v2], .int .i64 e]) W := by
  have c0 : W.cell? ⟨b, 0, none⟩ = some v0 := hrow.cell (i := 0) (by omega)
  have c1 : W.cell? ⟨b, 1, none⟩ = some v1 := hrow.cell (i := 1) (by omega)
  have c2 : W.cell? ⟨b, 2, none⟩ = some v2 := hrow.cell (i := 2) (by omega)
  simp [results, hfn, go_sem, h6, h8, c0, c1, c2]
theorem placeM_end {R : Ending → World → Prop} {a : Act} {W : World} {b : Nat} {f : Nat → Value} {v0 v1 v2 : Value} {e : Int} {W' : World} (hrow : W.rowIs b 29 3 f)
    (h6 : a.tmps[6]?.getD undef = .pointer (some ⟨b, 0, none⟩)) (h8 : a.tmps[7]?.getD undef = .int .i64 e) (hd : a.defers = []) (hW : W' = (((W.setCell ⟨b, 0, none⟩ (v0)).setCell ⟨b, 1, none⟩ (v1)).setCell ⟨b, 2, none⟩ (v2)))
    (hR : R (.returned (.tuple #[.agg #[v0, v1, v2], .int .i64 e])) W') : bodyPostM Fence.wide 3 Try.prog Try.f22 R .ret a W' := by
  subst hW
  show LeavesInM Fence.wide 3 Try.prog Try.f22 a.tmps R a.defers .returning _
  rw [hd]
  exact ⟨_, results_place f22_results h6 h8 (put3_row hrow), hR⟩
theorem placeM_end2 {R : Ending → World → Prop} {a : Act} {W : World} {b D : Nat} {f : Nat → Value} {v0 v1 v2 : Value} {e : Int} {W' : World} (hrow : W.rowIs b 29 3 f)
    (h6 : a.tmps[6]?.getD undef = .pointer (some ⟨b, 0, none⟩)) (h8 : a.tmps[7]?.getD undef = .int .i64 e) (hd : a.defers = [{ target := .collected D, args := #[] }]) (hK : W.heap[D]? = some (.deferred (some []))) (hbD : D ≠ b) (hW : W' = (((W.setCell ⟨b, 0, none⟩ (v0)).setCell ⟨b, 1, none⟩ (v1)).setCell ⟨b, 2, none⟩ (v2)))
    (hR : R (.returned (.tuple #[.agg #[v0, v1, v2], .int .i64 e])) (W'.putObj D (.deferred none))) : bodyPostM Fence.wide 3 Try.prog Try.f22 R .ret a W' := by
  have hg := grown_put3 (b := b) (v0 := v0) (v1 := v1) (v2 := v2) (World.grownBy.refl W (some b))
  have hK' : W'.heap[D]? = some (.deferred (some [])) := by
    rw [hW]
    exact (hg.block D (Array.getElem?_eq_some_iff.1 hK).1 (by intro e; injection e with e; exact hbD e)).trans hK
  have hr' : (W'.putObj D (.deferred none)).rowIs b 29 3 (fun i => ([v0, v1, v2] : List Value).getD i undef) := by
    have h := put3_row (v0 := v0) (v1 := v1) (v2 := v2) hrow
    rw [← hW] at h
    exact h.of_block (World.putObj_heap_other (fun e => hbD e.symm))
  show LeavesInM Fence.wide 3 Try.prog Try.f22 a.tmps R a.defers .returning _
  rw [hd]
  exact ⟨by simp, .inl ⟨_, _, rfl, run_takeDeferred hK', _, results_place f22_results h6 h8 hr', hR⟩⟩
set_option maxRecDepth 100000 in
set_option maxHeartbeats 16000000 in
theorem place22 (w : World) (a : ArchV) (P : PackV) (hP : PackAt w P) (hf : FewP P) (da : Option Addr) (n cap : Nat) (ds : List Int) (hl : ds.length = n) (hn : n ≤ 1000) (hnc : n ≤ cap) (hd : Seq w da n (ints ds)) :
    Calls Try.prog 22 #[a.val, P.val, .slice da n cap] w fun e w' => PlaceOut a P ds w e w' := by
  have HF1 : Hid (∀ W, Below w.heap.size w W → Calls Try.prog 17 #[a.val, P.val] W fun e w' => FirstOut a P W e w') := Lib.hid fun W hW => first17 W a P (hP.below hW (Nat.le_refl _)) hf
  have HR0 : Hid (errF a P = 0 → RightAll a P.data (firstD P)) := Lib.hid fun h => by
    obtain ⟨h1, h2⟩ := errF_ok.1 h
    exact first_right h1 h2
  have HFw : Hid (P.ins ≤ 100 ∧ P.bs.length ≤ 500 ∧ P.os.length ≤ 500) := Lib.hid ⟨hf.ins, hf.bs, hf.os⟩
  have HB : Hid (∀ W S m k, Below w.heap.size w W → SpotAt W S → RightAll a P.data S.data → TwoOk a m k → Calls Try.prog 41 #[planVal a P S, .int .i64 m, .int .i64 k] W fun e w' => ∃ R : SpotV, e = .returned (.tuple #[planVal a P R, .bool (betterB a P.data S.data m k)]) ∧ R.data = betterD a P.data S.data m k ∧ SpotNew W.heap.size S R w' ∧ Below W.heap.size W w') := Lib.hid fun W S m k hW hS hr hmk => by
    obtain ⟨k1, k2, k3⟩ := right_few hf hr
    exact better41 W a P S (hP.below hW (Nat.le_refl _)) hS hr k1 k2 k3 m k hmk
  have HTi : Hid (∀ W S, (1 ≤ a.w ∧ a.w ≤ 16) → (1 ≤ a.h ∧ a.h ≤ 16) → Calls Try.prog 44 #[planVal a P S] W fun e w' => e = .returned (.int .i64 (tilesL a)) ∧ Below W.heap.size W w') := Lib.hid fun W S hw hh => tiles44 W a P S (by omega) (by omega)
  have HOn0 : Hid (∀ {F : Int} {w'}, errF a P = F → ¬ F = 0 → Below w.heap.size w w' → PlaceOut a P ds w (.returned (.tuple #[zeroSpots, .int .i64 F])) w') := Lib.hid fun h1 h2 h3 => ⟨noSpots, by rw [h1]; rfl, by unfold placeO; rw [h1, if_neg h2], SpotNew.none _ _ _, h3⟩
  have HOy0 : Hid (∀ {R : SpotV} {w'}, errF a P = 0 → R.data = placeTo a P.data ds (firstD P) (ds.length / 2) → SpotNew w.heap.size noSpots R w' → Below w.heap.size w w' → PlaceOut a P ds w (.returned (.tuple #[R.val, .int .i64 0])) w') := Lib.hid fun h1 h2 h3 h4 => ⟨_, by rw [h1], by unfold placeO; rw [h1, if_pos rfl]; exact h2, h3, h4⟩
  have HFo : Hid (∀ W e w', FirstOut a P W e w' → ∃ R : SpotV, e = .returned (.tuple #[R.val, .int .i64 (errF a P)]) ∧ R.data = firstO a P ∧ SpotNew W.heap.size noSpots R w' ∧ Below W.heap.size W w') := Lib.hid fun W e w' h => h
  have HD := Lib.hid hd
  have HDl := Lib.hid hl
  obtain ⟨G, hG⟩ : ∃ G, G = fun e w' => PlaceOut a P ds w e w' := ⟨_, rfl⟩
  obtain ⟨er, her⟩ : ∃ F, F = errF a P := ⟨_, rfl⟩
  obtain ⟨PT, hPT⟩ : ∃ F : Nat → SpotD, F = placeTo a P.data ds (firstD P) := ⟨_, rfl⟩
  have HPs : Hid (∀ k, PT (k + 1) = betterD a P.data (PT k) (mOf a ds k) (nOf a ds k)) := Lib.hid fun k => by rw [hPT]; rfl
  have HPr : Hid (er = 0 → ∀ k, RightAll a P.data (PT k) ∧ TwoOk a (mOf a ds k) (nOf a ds k)) := Lib.hid fun h k => by
    have h0 := HR0.out (by rw [← her]; exact h)
    rw [hPT]
    exact ⟨placeTo_right ds h0 k, two_of a ds k h0.p.w h0.p.h⟩
  have HP0 : Hid (er = 0 → firstO a P = PT 0 ∧ (1 ≤ a.w ∧ a.w ≤ 16) ∧ 1 ≤ a.h ∧ a.h ≤ 16) := Lib.hid fun h => by
    have h0 := HR0.out (by rw [← her]; exact h)
    refine ⟨?_, h0.p.w, h0.p.h⟩
    unfold firstO
    rw [← her, if_pos h, hPT]
    rfl
  have HPl : Hid (er = 0 → ∀ k, (PT k).bs.length = P.bs.length ∧ ((PT k).is.length : Int) = P.ins ∧ (PT k).os.length = P.os.length) := Lib.hid fun h k => by
    have h1 := (HPr.out h k).1.s
    exact ⟨by have := h1.b; simpa using this, h1.i.symm, h1.o⟩
  have HOn : Hid (∀ {F : Int} {w'}, er = F → ¬ F = 0 → Below w.heap.size w w' → G (.returned (.tuple #[zeroSpots, .int .i64 F])) w') := Lib.hid (by rw [hG, her]; exact HOn0.out)
  have HOy : Hid (∀ {R : SpotV} {w'}, er = 0 → R.data = PT (n / 2) → SpotNew w.heap.size noSpots R w' → Below w.heap.size w w' → G (.returned (.tuple #[R.val, .int .i64 0])) w') := Lib.hid (by rw [hG, her, hPT, ← hl]; exact HOy0.out)
  rw [← hG]
  rw [← her] at HFo
  clear HOn0 HOy0 HR0 her hPT hP hf hG hd hl
  obtain ⟨aw, ah, at_⟩ := a
  obtain ⟨pi, pa, pc, pb, qa, qc, qb⟩ := P
  obtain ⟨A, hA⟩ : ∃ A : ArchV, A = ⟨aw, ah, at_⟩ := ⟨_, rfl⟩
  obtain ⟨PP, hPP⟩ : ∃ A : PackV, A = ⟨pi, pa, pc, pb, qa, qc, qb⟩ := ⟨_, rfl⟩
  rw [← hA, ← hPP] at HPs HPr HFo
  rw [← hA, ← hPP] at HP0
  unfold ArchV.val PackV.val at HF1
  unfold planVal at HB HTi
  unfold ArchV.val PackV.val
  dsimp only at HF1 HB HTi HFw HP0 HPl ⊢
  obtain ⟨nb, hnb⟩ : ∃ n, n = pb.length := ⟨_, rfl⟩
  obtain ⟨no, hno⟩ : ∃ n, n = qb.length := ⟨_, rfl⟩
  rw [← hnb, ← hno] at HF1 HB HTi HFw HPl ⊢
  rw [← hA, ← hPP] at HF1 HB
  rw [← hA] at HTi
  have HAe := Lib.hid hA
  clear hnb hno hA hPP
  obtain ⟨H, hH⟩ : ∃ h, h = w.heap.size := ⟨_, rfl⟩
  obtain ⟨w1, hw1⟩ : ∃ W, W = ((w.alloc (.cells #[.int .i64 aw, .int .i64 ah, .int .i64 at_] 23)).alloc (.cells #[.int .i64 pi, .slice pa nb pc, .slice qa no qc] 27)).alloc (.cells #[.slice none 0 0, .slice none 0 0, .slice none 0 0] 29) := ⟨_, rfl⟩
  have hX1 : Below w.heap.size w w1 := by rw [hw1]; exact (((Below.refl _ _).alloc (Nat.le_refl _) _).alloc (by simp) _).alloc (by simp <;> omega) _
  have hs1 : w1.heap.size = H + 3 := by rw [hw1, hH]; simp
  obtain ⟨H1, hH1⟩ : ∃ x, x = H + 1 := ⟨_, rfl⟩
  obtain ⟨B1, hB1⟩ : ∃ x, x = H1 + 1 := ⟨_, rfl⟩
  have hrw0 : w1.rowIs (H) 23 3 (fun i => ([.int .i64 aw, .int .i64 ah, .int .i64 at_] : List Value).getD i undef) := by
    rw [hw1, hH]
    exact ((rowL_alloc w 23 [.int .i64 aw, .int .i64 ah, .int .i64 at_]).alloc _).alloc _
  have hrw1 : w1.rowIs (H1) 27 3 (fun i => ([.int .i64 pi, .slice pa nb pc, .slice qa no qc] : List Value).getD i undef) := by
    have h := (rowL_alloc (w.alloc (.cells #[.int .i64 aw, .int .i64 ah, .int .i64 at_] 23)) 27 [.int .i64 pi, .slice pa nb pc, .slice qa no qc]).alloc (.cells #[.slice none 0 0, .slice none 0 0, .slice none 0 0] 29)
    rw [hw1]
    have hsz : (w.alloc (.cells #[.int .i64 aw, .int .i64 ah, .int .i64 at_] 23)).heap.size = H1 := by rw [hH1, hH]; simp
    rw [hsz] at h
    exact h
  have hrw3 : w1.rowIs (B1) 29 3 (fun i => ([.slice none 0 0, .slice none 0 0, .slice none 0 0] : List Value).getD i undef) := by
    have h := rowL_alloc ((w.alloc (.cells #[.int .i64 aw, .int .i64 ah, .int .i64 at_] 23)).alloc (.cells #[.int .i64 pi, .slice pa nb pc, .slice qa no qc] 27)) 29 [.slice none 0 0, .slice none 0 0, .slice none 0 0]
    rw [hw1]
    have hsz : ((w.alloc (.cells #[.int .i64 aw, .int .i64 ah, .int .i64 at_] 23)).alloc (.cells #[.int .i64 pi, .slice pa nb pc, .slice qa no qc] 27)).heap.size = B1 := by rw [hB1, hH1, hH]; simp
    rw [hsz] at h
    exact h
  have HX1 := Lib.hid hX1
  have HW3r : Hid (∀ W, Below w1.heap.size w1 W → W.rowIs (B1) 29 3 (fun i => ([.slice none 0 0, .slice none 0 0, .slice none 0 0] : List Value).getD i undef)) := Lib.hid fun W hW => hrw3.of_block (hW.block B1 (by omega))
  have HK : Hid (∀ W, Below B1 w1 W → W.cell? ⟨H, 0, none⟩ = some (.int .i64 aw) ∧ W.cell? ⟨H, 1, none⟩ = some (.int .i64 ah) ∧ W.cell? ⟨H, 2, none⟩ = some (.int .i64 at_) ∧ W.cell? ⟨H1, 0, none⟩ = some (.int .i64 pi) ∧ W.cell? ⟨H1, 1, none⟩ = some (.slice pa nb pc) ∧ W.cell? ⟨H1, 2, none⟩ = some (.slice qa no qc)) := Lib.hid fun W hW => by
    have h0 := hrw0.of_block (hW.block H (by omega))
    have h1 := hrw1.of_block (hW.block H1 (by omega))
    exact ⟨h0.cell (by omega), h0.cell (by omega), h0.cell (by omega), h1.cell (by omega), h1.cell (by omega), h1.cell (by omega)⟩
  have HSz : Hid (w1.heap.size = H + 3 ∧ B1 = H + 2 ∧ H = w.heap.size) := Lib.hid ⟨hs1, by omega, hH⟩
  have HXW : Hid (∀ W, Below B1 w1 W → Below w.heap.size w W) := Lib.hid fun W hW => hX1.trans (hW.mono (by omega))
  have HBw : Hid (∀ W, Below w1.heap.size w1 W → Below B1 w1 W) := Lib.hid fun W hW => hW.mono (by omega)
  have HW1 := Lib.hid hw1
  have HHH := Lib.hid hH
  have HHH1 := Lib.hid hH1
  have HBB := Lib.hid hB1
  clear hw1 hX1 hs1 hrw0 hrw1 hrw3 hH hH1 hB1
  have hro : Fence.wide.round = none := rfl
  refine (callsIn_wide (n := 3)).1 ?_
  refine callsIn_of_wp_marks Try.func22 rfl trivial ?_ hro
  refine wpIn_wide.2 ?_
  refine Code.wp_mono NP.imp ?_
  simp only [Try.ntmps22, List.size_toArray, List.length_cons, List.length_nil, Nat.reduceAdd, Nat.reduceSub, Array.replicate_succ, Array.replicate_zero, List.push_toArray, List.append_toArray, List.nil_append, List.cons_append]
  go_wp2_with fail
  rw [← HW1.out]
  (try rw [← HHH.out])
  rw [← HHH1.out]
  rw [← HBB.out]
  refine Calls.mono (HF1.out w1 HX1.out) ?_
  rintro e w2 hfo
  obtain ⟨⟨rba, rbc, rbs, ria, ric, ris, roa, roc, ros⟩, rfl, hdat, hnew, hb2⟩ := HFo.out _ _ _ hfo
  clear hfo
  have HBx := Lib.hid hb2
  have HDat := Lib.hid hdat
  have HNew := Lib.hid hnew
  clear hb2 hdat hnew
  dsimp only
  by_cases hE : er = 0
  · subst hE
    obtain ⟨hF0, hw0, hh0⟩ := HP0.out rfl
    obtain ⟨w3, hw3⟩ : ∃ W, W = w2.alloc (.cells #[.slice rba rbs.length rbc, .slice ria ris.length ric, .slice roa ros.length roc] 29) := ⟨_, rfl⟩
    obtain ⟨X, hX⟩ : ∃ x, x = w2.heap.size + 1 := ⟨_, rfl⟩
    obtain ⟨w4, hw4⟩ : ∃ W, W = w3.alloc (.cells #[.int .i64 aw, .int .i64 ah, .int .i64 at_, .int .i64 pi, .slice pa nb pc, .slice qa no qc, .slice rba rbs.length rbc, .slice ria ris.length ric, .slice roa ros.length roc] 53) := ⟨_, rfl⟩
    have hs3 : w3.heap.size = X := by rw [hw3, hX]; simp
    have hs4 : w4.heap.size = X + 1 := by rw [hw4, ← hs3]; simp
    have hr4 : w4.rowIs X 53 9 (fun i => ([.int .i64 aw, .int .i64 ah, .int .i64 at_, .int .i64 pi, .slice pa nb pc, .slice qa no qc, .slice rba rbs.length rbc, .slice ria ris.length ric, .slice roa ros.length roc] : List Value).getD i undef) := by rw [hw4, ← hs3]; exact rowL_alloc w3 53 [.int .i64 aw, .int .i64 ah, .int .i64 at_, .int .i64 pi, .slice pa nb pc, .slice qa no qc, .slice rba rbs.length rbc, .slice ria ris.length ric, .slice roa ros.length roc]
    have hb34 : Below w2.heap.size w2 w4 := by rw [hw4, hw3]; exact ((Below.refl _ _).alloc (Nat.le_refl _) _).alloc (by simp) _
    have HB4 : Hid (Below w1.heap.size w1 w4) := Lib.hid (HBx.out.trans (hb34.mono HBx.out.size))
    have HX4 : Hid (w4.heap.size = X + 1 ∧ w1.heap.size ≤ X ∧ w2.heap.size ≤ X) := Lib.hid ⟨hs4, by have := HBx.out.size; omega, by omega⟩
    have HNew4 := Lib.hid (HNew.out.below hb34)
    have HKS : Hid (∀ W, Below w4.heap.size w4 W → (W.cell? ⟨H, 0, none⟩ = some (.int .i64 aw) ∧ W.cell? ⟨H, 1, none⟩ = some (.int .i64 ah) ∧ W.cell? ⟨H, 2, none⟩ = some (.int .i64 at_)) ∧ W.cell? ⟨X, 0, none⟩ = some (.int .i64 aw) ∧ W.cell? ⟨X, 1, none⟩ = some (.int .i64 ah) ∧ W.cell? ⟨X, 2, none⟩ = some (.int .i64 at_) ∧ W.cell? ⟨X, 3, none⟩ = some (.int .i64 pi) ∧ W.cell? ⟨X, 4, none⟩ = some (.slice pa nb pc) ∧ W.cell? ⟨X, 5, none⟩ = some (.slice qa no qc) ∧ W.cell? ⟨X, 6, none⟩ = some (.slice rba rbs.length rbc) ∧ W.cell? ⟨X, 7, none⟩ = some (.slice ria ris.length ric) ∧ W.cell? ⟨X, 8, none⟩ = some (.slice roa ros.length roc)) := Lib.hid fun W hW => by
      obtain ⟨q0, q1, q2, -, -, -⟩ := HK.out W (HBw.out W (HB4.out.trans (hW.mono HB4.out.size)))
      have h := hr4.of_block (hW.block X (by omega))
      exact ⟨⟨q0, q1, q2⟩, h.cell (by omega), h.cell (by omega), h.cell (by omega), h.cell (by omega), h.cell (by omega), h.cell (by omega), h.cell (by omega), h.cell (by omega), h.cell (by omega)⟩
    have HR4 := Lib.hid hr4
    obtain ⟨tt, htt⟩ : ∃ x, x = tilesL A := ⟨_, rfl⟩
    obtain ⟨pd, hpd⟩ : ∃ x, x = padsL A := ⟨_, rfl⟩
    rw [← htt] at HTi
    have HTt : Hid (tt = tilesL A ∧ pd = padsL A) := Lib.hid ⟨htt, hpd⟩
    have hw := hw0
    have hh := hh0
    rw [HAe.out] at hw hh
    dsimp only at hw hh
    have hpd2 : pd = 2 * aw + 2 * ah := by rw [hpd, HAe.out]; rfl
    have HF6 : Hid (IntKind.i64.wrap (aw + ah) = aw + ah ∧ IntKind.i64.wrap (2 * (aw + ah)) = pd) := Lib.hid ⟨wrapSmall (by omega) (by omega), by rw [wrapSmall (by omega) (by omega)]; omega⟩
    have HWH : Hid ((1 ≤ A.w ∧ A.w ≤ 16) ∧ 1 ≤ A.h ∧ A.h ≤ 16) := Lib.hid ⟨hw0, hh0⟩
    have HD0 := Lib.hid (HDat.out.trans hF0)
    have HCR : Hid (pd = 2 * aw + 2 * ah) := Lib.hid hpd2
    clear hs3 hs4 hr4 hb34 htt hpd hpd2 hF0
    have hb3 : Below w1.heap.size w1 w3 := by rw [hw3]; exact HBx.out.trans ((Below.refl _ _).alloc HBx.out.size _)
    have hK3 := HK.out w3 (HBw.out w3 hb3)
    rw [hw3] at hK3
    obtain ⟨p0, p1, p2, r0, r1, r2⟩ := hK3
    clear hb3
    go_upto_region 5 with fail
    rw [← hw3]
    rw [← hw4]
    rw [← hX]
    clear hw3 hw4 hX p0 p1 p2 r0 r1 r2
    go_cut [11, 12] from 30 to 37 (fun p q wx => ∃ T1 T2 : Nat, p = .pointer (some ⟨T1, 0, none⟩) ∧ q = .pointer (some ⟨T2, 0, none⟩) ∧ Hid (T1 ≠ T2 ∧ w4.heap.size ≤ T1 ∧ w4.heap.size ≤ T2 ∧ Below w4.heap.size w4 wx ∧ wx.rowIs T1 3 1 (fun i => ([.int .i64 tt] : List Value).getD i undef) ∧ wx.rowIs T2 3 1 (fun i => ([.int .i64 pd] : List Value).getD i undef)))
    case first =>
      refine wp_region_held_drew (S := fun w' => (w'.cell? ⟨H, 0, none⟩ = some (.int .i64 aw) ∧ w'.cell? ⟨H, 1, none⟩ = some (.int .i64 ah) ∧ w'.cell? ⟨H, 2, none⟩ = some (.int .i64 at_)) ∧ w'.cell? ⟨X, 0, none⟩ = some (.int .i64 aw) ∧ w'.cell? ⟨X, 1, none⟩ = some (.int .i64 ah) ∧ w'.cell? ⟨X, 2, none⟩ = some (.int .i64 at_) ∧ w'.cell? ⟨X, 3, none⟩ = some (.int .i64 pi) ∧ w'.cell? ⟨X, 4, none⟩ = some (.slice pa nb pc) ∧ w'.cell? ⟨X, 5, none⟩ = some (.slice qa no qc) ∧ w'.cell? ⟨X, 6, none⟩ = some (.slice rba rbs.length rbc) ∧ w'.cell? ⟨X, 7, none⟩ = some (.slice ria ris.length ric) ∧ w'.cell? ⟨X, 8, none⟩ = some (.slice roa ros.length roc)) (by kernel_rfl) (HKS.out _ (Below.refl _ _).drew) (fun hHeld => ?_)
      refine wpAnyH_take (i := 0) (v := ?_) (by simp only [List.getElem?_toArray, List.getElem?_cons_succ, List.getElem?_cons_zero]; rfl) (by kernel_rfl) (by kernel_rfl) (by kernel_rfl) (by intro _ _ _ h; exact h) (Or.inl ⟨by rfl, ?_⟩) (by assumption) ?_
      rotate_left
      · intro w hSw; (try dsimp only at hSw); go_simp; try with_reducible rfl
      try simp only [Act.put, List.setIfInBounds_toArray, List.set_cons_zero, List.set_cons_succ]
      refine wpAnyH_take (i := 2) (v := ?_) (by simp only [List.getElem?_toArray, List.getElem?_cons_succ, List.getElem?_cons_zero]; rfl) (by kernel_rfl) (by kernel_rfl) (by kernel_rfl) (by intro _ _ _ h; exact h) (Or.inl ⟨by rfl, ?_⟩) (by assumption) ?_
      rotate_left
      · intro w hSw; (try dsimp only at hSw); go_simp; try with_reducible rfl
      try simp only [Act.put, List.setIfInBounds_toArray, List.set_cons_zero, List.set_cons_succ]
      refine wpAnyH_take (i := 3) (v := ?_) (by simp only [List.getElem?_toArray, List.getElem?_cons_succ, List.getElem?_cons_zero]; rfl) (by kernel_rfl) (by kernel_rfl) (by kernel_rfl) (by intro _ _ _ h; exact h) (Or.inl ⟨by rfl, ?_⟩) (by assumption) ?_
      rotate_left
      · intro w hSw; (try dsimp only at hSw); go_simp; try with_reducible rfl
      try simp only [Act.put, List.setIfInBounds_toArray, List.set_cons_zero, List.set_cons_succ]
      refine wpAnyH_take (i := 4) (v := ?_) (by simp only [List.getElem?_toArray, List.getElem?_cons_succ, List.getElem?_cons_zero]; rfl) (by kernel_rfl) (by kernel_rfl) (by kernel_rfl) (by intro _ _ _ h; exact h) (Or.inl ⟨by rfl, ?_⟩) (by assumption) ?_
      rotate_left
      · intro w hSw; (try dsimp only at hSw); go_simp; try with_reducible rfl
      try simp only [Act.put, List.setIfInBounds_toArray, List.set_cons_zero, List.set_cons_succ]
      refine wpAnyH_take (i := 5) (v := ?_) (by simp only [List.getElem?_toArray, List.getElem?_cons_succ, List.getElem?_cons_zero]; rfl) (by kernel_rfl) (by kernel_rfl) (by kernel_rfl) (by intro _ _ _ h; exact h) (Or.inl ⟨by rfl, ?_⟩) (by assumption) ?_
      rotate_left
      · intro w hSw; (try dsimp only at hSw); go_simp; try with_reducible rfl
      try simp only [Act.put, List.setIfInBounds_toArray, List.set_cons_zero, List.set_cons_succ]
      refine wpAnyH_take (i := 6) (v := ?_) (by simp only [List.getElem?_toArray, List.getElem?_cons_succ, List.getElem?_cons_zero]; rfl) (by kernel_rfl) (by kernel_rfl) (by kernel_rfl) (by intro _ _ _ h; exact h) (Or.inl ⟨by rfl, ?_⟩) (by assumption) ?_
      rotate_left
      · intro w hSw; (try dsimp only at hSw); go_simp; rw [HF6.out.1]
      try simp only [Act.put, List.setIfInBounds_toArray, List.set_cons_zero, List.set_cons_succ]
      refine wpAnyH_take (i := 7) (v := ?_) (by simp only [List.getElem?_toArray, List.getElem?_cons_succ, List.getElem?_cons_zero]; rfl) (by kernel_rfl) (by kernel_rfl) (by kernel_rfl) (by intro _ _ _ h; exact h) (Or.inl ⟨by rfl, ?_⟩) (by assumption) ?_
      rotate_left
      · intro w hSw; (try dsimp only at hSw); go_simp; rw [HF6.out.2]
      try simp only [Act.put, List.setIfInBounds_toArray, List.set_cons_zero, List.set_cons_succ]
      refine wpAnyH_ready (rs := [1, 8, 9]) (by kernel_rfl) (by simp) ?_
      refine AllReadyH.cons (o := _) (by simp only [List.getElem?_toArray, List.getElem?_cons_succ, List.getElem?_cons_zero]; rfl) (fun K hK => ?_) (AllReadyH.cons (o := _) (by simp only [List.getElem?_toArray, List.getElem?_cons_succ, List.getElem?_cons_zero]; rfl) (fun K hK => ?_) (AllReadyH.cons (o := _) (by simp only [List.getElem?_toArray, List.getElem?_cons_succ, List.getElem?_cons_zero]; rfl) (fun K hK => ?_) AllReadyH.nil))
      · go_simp
        go_at_call 44
        refine Calls.mono (HTi.out w4.drew ⟨rba, rbc, rbs, ria, ric, ris, roa, roc, ros⟩ hw hh) ?_
        rintro e v1 ⟨rfl, hb1⟩
        have HBv1 : Hid (Below w4.heap.size w4 v1) := Lib.hid (((Below.refl w4.heap.size w4).drew).trans (hb1.mono ((Below.refl w4.heap.size w4).drew).size))
        go_simp
        refine hK.out _ _ (by exact HKS.out _ HBv1.out) (fun hHeld => ?_)
        clear hK K
        try simp only [Act.put, List.setIfInBounds_toArray, List.set_cons_zero, List.set_cons_succ]
        refine wpAnyH_ready (rs := [8, 9]) (by kernel_rfl) (by simp) ?_
        refine AllReadyH.cons (o := _) (by simp only [List.getElem?_toArray, List.getElem?_cons_succ, List.getElem?_cons_zero]; rfl) (fun K hK => ?_) (AllReadyH.cons (o := _) (by simp only [List.getElem?_toArray, List.getElem?_cons_succ, List.getElem?_cons_zero]; rfl) (fun K hK => ?_) AllReadyH.nil)
        · go_simp
          obtain ⟨T1, hT1⟩ : ∃ x, x = v1.heap.size := ⟨_, rfl⟩
          obtain ⟨v2, hv2⟩ : ∃ W, W = (v1.alloc (.cells #[.int .i64 0] 3)) := ⟨_, rfl⟩
          have hb2 : Below v1.heap.size v1 v2 := by rw [hv2]; exact (Below.refl v1.heap.size v1).alloc (Nat.le_refl _) (.cells #[.int .i64 0] 3)
          have HBv2 : Hid (Below w4.heap.size w4 v2) := Lib.hid ((HBv1.out).trans (hb2.mono (HBv1.out).size))
          have hrow2_T1 : v2.rowIs T1 3 1 (fun i => ([.int .i64 0] : List Value).getD i undef) := by rw [hv2, hT1]; exact rowL_alloc v1 3 [.int .i64 0]
          have hgeT1 : w4.heap.size ≤ T1 := by rw [hT1]; exact (HBv1.out).size
          (try rw [← hv2])
          rw [← hT1]
          clear hv2 hT1
          refine hK.out _ _ (by exact HKS.out _ HBv2.out) (fun hHeld => ?_)
          clear hK K
          try simp only [Act.put, List.setIfInBounds_toArray, List.set_cons_zero, List.set_cons_succ]
          refine wpAnyH_ready (rs := [9]) (by kernel_rfl) (by simp) ?_
          refine AllReadyH.cons (o := _) (by simp only [List.getElem?_toArray, List.getElem?_cons_succ, List.getElem?_cons_zero]; rfl) (fun K hK => ?_) AllReadyH.nil
          go_simp
          obtain ⟨T2, hT2⟩ : ∃ x, x = v2.heap.size := ⟨_, rfl⟩
          obtain ⟨v3, hv3⟩ : ∃ W, W = (v2.alloc (.cells #[.int .i64 0] 3)) := ⟨_, rfl⟩
          have hb3 : Below v2.heap.size v2 v3 := by rw [hv3]; exact (Below.refl v2.heap.size v2).alloc (Nat.le_refl _) (.cells #[.int .i64 0] 3)
          have HBv3 : Hid (Below w4.heap.size w4 v3) := Lib.hid ((HBv2.out).trans (hb3.mono (HBv2.out).size))
          have hrow3_T2 : v3.rowIs T2 3 1 (fun i => ([.int .i64 0] : List Value).getD i undef) := by rw [hv3, hT2]; exact rowL_alloc v2 3 [.int .i64 0]
          have hgeT2 : w4.heap.size ≤ T2 := by rw [hT2]; exact (HBv2.out).size
          have hrow3_T1 := (hrow2_T1).of_block (hb3.block T1 (hrow2_T1).lt)
          have hneT : T1 ≠ T2 := by have := (hrow2_T1).lt; omega
          (try rw [← hv3])
          rw [← hT2]
          clear hv3 hT2
          refine hK.out _ _ (by exact HKS.out _ HBv3.out) (fun hHeld => ?_)
          clear hK K
          try simp only [Act.put, List.setIfInBounds_toArray, List.set_cons_zero, List.set_cons_succ]
          have x1 : v3.cell? ⟨T1, 0, none⟩ = some (.int .i64 0) := (hrow3_T1).cell (i := 0) (by omega)
          have f1 := (hrow3_T1).frozen 0
          have hq1 := (hrow3_T1).set 0 (.int .i64 tt)
          have hq2 := (hrow3_T2).setOther (a := ⟨T1, 0, none⟩) (by simp; omega) (.int .i64 tt)
          have x2 : (v3.setCell ⟨T1, 0, none⟩ (.int .i64 tt)).cell? ⟨T2, 0, none⟩ = some (.int .i64 0) := hq2.cell (i := 0) (by omega)
          have f2 := hq2.frozen 0
          have hz1 := hq1.setOther (a := ⟨T2, 0, none⟩) (by simp; omega) (.int .i64 pd)
          have hz2 := hq2.set 0 (.int .i64 pd)
          have HFn : Hid (Below w4.heap.size w4 ((v3.setCell ⟨T1, 0, none⟩ (.int .i64 tt)).setCell ⟨T2, 0, none⟩ (.int .i64 pd))) := Lib.hid (((HBv3.out).setCell (p := ⟨T1, 0, none⟩) hgeT1 _).setCell (p := ⟨T2, 0, none⟩) hgeT2 _)
          have HFz : Hid (T1 ≠ T2 ∧ w4.heap.size ≤ T1 ∧ w4.heap.size ≤ T2 ∧ (((v3.setCell ⟨T1, 0, none⟩ (.int .i64 tt)).setCell ⟨T2, 0, none⟩ (.int .i64 pd)).rowIs T1 3 1 (fun i => ([.int .i64 tt] : List Value).getD i undef) ∧ ((v3.setCell ⟨T1, 0, none⟩ (.int .i64 tt)).setCell ⟨T2, 0, none⟩ (.int .i64 pd)).rowIs T2 3 1 (fun i => ([.int .i64 pd] : List Value).getD i undef))) := Lib.hid ⟨by omega, hgeT1, hgeT2, hz1.congr (fun i hi => by match i, hi with | 0, _ => rfl), hz2.congr (fun i hi => by match i, hi with | 0, _ => rfl)⟩
          refine wpAnyH_ready (rs := [10]) (by kernel_rfl) (by simp) ?_
          refine AllReadyH.cons (o := _) (by simp only [List.getElem?_toArray, List.getElem?_cons_succ, List.getElem?_cons_zero]; rfl) (fun K hK => ?_) AllReadyH.nil
          go_simp
          refine hK.out _ _ (by exact HKS.out _ ((HBv3.out).setCell (p := ⟨T1, 0, none⟩) hgeT1 (.int .i64 tt))) (fun hHeld => ?_)
          clear hK K
          try simp only [Act.put, List.setIfInBounds_toArray, List.set_cons_zero, List.set_cons_succ]
          refine wpAnyH_ready (rs := [11]) (by kernel_rfl) (by simp) ?_
          refine AllReadyH.cons (o := _) (by simp only [List.getElem?_toArray, List.getElem?_cons_succ, List.getElem?_cons_zero]; rfl) (fun K hK => ?_) AllReadyH.nil
          go_simp
          refine hK.out _ _ (by exact HKS.out _ HFn.out) (fun hHeld => ?_)
          clear hK K
          try simp only [Act.put, List.setIfInBounds_toArray, List.set_cons_zero, List.set_cons_succ]
          refine wpAnyH_done (by kernel_rfl) ?_ _
          go_wp2_with fail
          go_meet
          exact ⟨T1, T2, rfl, rfl, Lib.hid ⟨HFz.out.1, HFz.out.2.1, HFz.out.2.2.1, HFn.out, HFz.out.2.2.2⟩⟩
        · go_simp
          obtain ⟨T2, hT2⟩ : ∃ x, x = v1.heap.size := ⟨_, rfl⟩
          obtain ⟨v5, hv5⟩ : ∃ W, W = (v1.alloc (.cells #[.int .i64 0] 3)) := ⟨_, rfl⟩
          have hb5 : Below v1.heap.size v1 v5 := by rw [hv5]; exact (Below.refl v1.heap.size v1).alloc (Nat.le_refl _) (.cells #[.int .i64 0] 3)
          have HBv5 : Hid (Below w4.heap.size w4 v5) := Lib.hid ((HBv1.out).trans (hb5.mono (HBv1.out).size))
          have hrow5_T2 : v5.rowIs T2 3 1 (fun i => ([.int .i64 0] : List Value).getD i undef) := by rw [hv5, hT2]; exact rowL_alloc v1 3 [.int .i64 0]
          have hgeT2 : w4.heap.size ≤ T2 := by rw [hT2]; exact (HBv1.out).size
          (try rw [← hv5])
          rw [← hT2]
          clear hv5 hT2
          refine hK.out _ _ (by exact HKS.out _ HBv5.out) (fun hHeld => ?_)
          clear hK K
          try simp only [Act.put, List.setIfInBounds_toArray, List.set_cons_zero, List.set_cons_succ]
          refine wpAnyH_ready (rs := [8]) (by kernel_rfl) (by simp) ?_
          refine AllReadyH.cons (o := _) (by simp only [List.getElem?_toArray, List.getElem?_cons_succ, List.getElem?_cons_zero]; rfl) (fun K hK => ?_) AllReadyH.nil
          go_simp
          obtain ⟨T1, hT1⟩ : ∃ x, x = v5.heap.size := ⟨_, rfl⟩
          obtain ⟨v6, hv6⟩ : ∃ W, W = (v5.alloc (.cells #[.int .i64 0] 3)) := ⟨_, rfl⟩
          have hb6 : Below v5.heap.size v5 v6 := by rw [hv6]; exact (Below.refl v5.heap.size v5).alloc (Nat.le_refl _) (.cells #[.int .i64 0] 3)
          have HBv6 : Hid (Below w4.heap.size w4 v6) := Lib.hid ((HBv5.out).trans (hb6.mono (HBv5.out).size))
          have hrow6_T1 : v6.rowIs T1 3 1 (fun i => ([.int .i64 0] : List Value).getD i undef) := by rw [hv6, hT1]; exact rowL_alloc v5 3 [.int .i64 0]
          have hgeT1 : w4.heap.size ≤ T1 := by rw [hT1]; exact (HBv5.out).size
          have hrow6_T2 := (hrow5_T2).of_block (hb6.block T2 (hrow5_T2).lt)
          have hneT : T2 ≠ T1 := by have := (hrow5_T2).lt; omega
          (try rw [← hv6])
          rw [← hT1]
          clear hv6 hT1
          refine hK.out _ _ (by exact HKS.out _ HBv6.out) (fun hHeld => ?_)
          clear hK K
          try simp only [Act.put, List.setIfInBounds_toArray, List.set_cons_zero, List.set_cons_succ]
          have x1 : v6.cell? ⟨T1, 0, none⟩ = some (.int .i64 0) := (hrow6_T1).cell (i := 0) (by omega)
          have f1 := (hrow6_T1).frozen 0
          have hq1 := (hrow6_T1).set 0 (.int .i64 tt)
          have hq2 := (hrow6_T2).setOther (a := ⟨T1, 0, none⟩) (by simp; omega) (.int .i64 tt)
          have x2 : (v6.setCell ⟨T1, 0, none⟩ (.int .i64 tt)).cell? ⟨T2, 0, none⟩ = some (.int .i64 0) := hq2.cell (i := 0) (by omega)
          have f2 := hq2.frozen 0
          have hz1 := hq1.setOther (a := ⟨T2, 0, none⟩) (by simp; omega) (.int .i64 pd)
          have hz2 := hq2.set 0 (.int .i64 pd)
          have HFn : Hid (Below w4.heap.size w4 ((v6.setCell ⟨T1, 0, none⟩ (.int .i64 tt)).setCell ⟨T2, 0, none⟩ (.int .i64 pd))) := Lib.hid (((HBv6.out).setCell (p := ⟨T1, 0, none⟩) hgeT1 _).setCell (p := ⟨T2, 0, none⟩) hgeT2 _)
          have HFz : Hid (T1 ≠ T2 ∧ w4.heap.size ≤ T1 ∧ w4.heap.size ≤ T2 ∧ (((v6.setCell ⟨T1, 0, none⟩ (.int .i64 tt)).setCell ⟨T2, 0, none⟩ (.int .i64 pd)).rowIs T1 3 1 (fun i => ([.int .i64 tt] : List Value).getD i undef) ∧ ((v6.setCell ⟨T1, 0, none⟩ (.int .i64 tt)).setCell ⟨T2, 0, none⟩ (.int .i64 pd)).rowIs T2 3 1 (fun i => ([.int .i64 pd] : List Value).getD i undef))) := Lib.hid ⟨by omega, hgeT1, hgeT2, hz1.congr (fun i hi => by match i, hi with | 0, _ => rfl), hz2.congr (fun i hi => by match i, hi with | 0, _ => rfl)⟩
          refine wpAnyH_ready (rs := [10]) (by kernel_rfl) (by simp) ?_
          refine AllReadyH.cons (o := _) (by simp only [List.getElem?_toArray, List.getElem?_cons_succ, List.getElem?_cons_zero]; rfl) (fun K hK => ?_) AllReadyH.nil
          go_simp
          refine hK.out _ _ (by exact HKS.out _ ((HBv6.out).setCell (p := ⟨T1, 0, none⟩) hgeT1 (.int .i64 tt))) (fun hHeld => ?_)
          clear hK K
          try simp only [Act.put, List.setIfInBounds_toArray, List.set_cons_zero, List.set_cons_succ]
          refine wpAnyH_ready (rs := [11]) (by kernel_rfl) (by simp) ?_
          refine AllReadyH.cons (o := _) (by simp only [List.getElem?_toArray, List.getElem?_cons_succ, List.getElem?_cons_zero]; rfl) (fun K hK => ?_) AllReadyH.nil
          go_simp
          refine hK.out _ _ (by exact HKS.out _ HFn.out) (fun hHeld => ?_)
          clear hK K
          try simp only [Act.put, List.setIfInBounds_toArray, List.set_cons_zero, List.set_cons_succ]
          refine wpAnyH_done (by kernel_rfl) ?_ _
          go_wp2_with fail
          go_meet
          exact ⟨T1, T2, rfl, rfl, Lib.hid ⟨HFz.out.1, HFz.out.2.1, HFz.out.2.2.1, HFn.out, HFz.out.2.2.2⟩⟩
      · go_simp
        obtain ⟨T1, hT1⟩ : ∃ x, x = w4.heap.size := ⟨_, rfl⟩
        obtain ⟨v8, hv8⟩ : ∃ W, W = (w4.alloc (.cells #[.int .i64 0] 3)).drew := ⟨_, rfl⟩
        have hb8 : Below w4.drew.heap.size w4.drew v8 := by rw [hv8]; exact (Below.refl w4.drew.heap.size w4.drew).alloc (Nat.le_refl _) (.cells #[.int .i64 0] 3)
        have HBv8 : Hid (Below w4.heap.size w4 v8) := Lib.hid (((Below.refl w4.heap.size w4).drew).trans (hb8.mono ((Below.refl w4.heap.size w4).drew).size))
        have hrow8_T1 : v8.rowIs T1 3 1 (fun i => ([.int .i64 0] : List Value).getD i undef) := by rw [hv8, hT1]; exact rowL_alloc w4 3 [.int .i64 0]
        have hgeT1 : w4.heap.size ≤ T1 := by rw [hT1]; exact ((Below.refl w4.heap.size w4).drew).size
        (try rw [← hv8])
        rw [← hT1]
        clear hv8 hT1
        refine hK.out _ _ (by exact HKS.out _ HBv8.out) (fun hHeld => ?_)
        clear hK K
        try simp only [Act.put, List.setIfInBounds_toArray, List.set_cons_zero, List.set_cons_succ]
        refine wpAnyH_ready (rs := [1, 9]) (by kernel_rfl) (by simp) ?_
        refine AllReadyH.cons (o := _) (by simp only [List.getElem?_toArray, List.getElem?_cons_succ, List.getElem?_cons_zero]; rfl) (fun K hK => ?_) (AllReadyH.cons (o := _) (by simp only [List.getElem?_toArray, List.getElem?_cons_succ, List.getElem?_cons_zero]; rfl) (fun K hK => ?_) AllReadyH.nil)
        · go_simp
          go_at_call 44
          refine Calls.mono (HTi.out v8 ⟨rba, rbc, rbs, ria, ric, ris, roa, roc, ros⟩ hw hh) ?_
          rintro e v9 ⟨rfl, hb9⟩
          have HBv9 : Hid (Below w4.heap.size w4 v9) := Lib.hid ((HBv8.out).trans (hb9.mono (HBv8.out).size))
          have hrow9_T1 := (hrow8_T1).of_block (hb9.block T1 (hrow8_T1).lt)
          go_simp
          refine hK.out _ _ (by exact HKS.out _ HBv9.out) (fun hHeld => ?_)
          clear hK K
          try simp only [Act.put, List.setIfInBounds_toArray, List.set_cons_zero, List.set_cons_succ]
          refine wpAnyH_ready (rs := [9]) (by kernel_rfl) (by simp) ?_
          refine AllReadyH.cons (o := _) (by simp only [List.getElem?_toArray, List.getElem?_cons_succ, List.getElem?_cons_zero]; rfl) (fun K hK => ?_) AllReadyH.nil
          go_simp
          obtain ⟨T2, hT2⟩ : ∃ x, x = v9.heap.size := ⟨_, rfl⟩
          obtain ⟨v10, hv10⟩ : ∃ W, W = (v9.alloc (.cells #[.int .i64 0] 3)) := ⟨_, rfl⟩
          have hb10 : Below v9.heap.size v9 v10 := by rw [hv10]; exact (Below.refl v9.heap.size v9).alloc (Nat.le_refl _) (.cells #[.int .i64 0] 3)
          have HBv10 : Hid (Below w4.heap.size w4 v10) := Lib.hid ((HBv9.out).trans (hb10.mono (HBv9.out).size))
          have hrow10_T2 : v10.rowIs T2 3 1 (fun i => ([.int .i64 0] : List Value).getD i undef) := by rw [hv10, hT2]; exact rowL_alloc v9 3 [.int .i64 0]
          have hgeT2 : w4.heap.size ≤ T2 := by rw [hT2]; exact (HBv9.out).size
          have hrow10_T1 := (hrow9_T1).of_block (hb10.block T1 (hrow9_T1).lt)
          have hneT : T1 ≠ T2 := by have := (hrow9_T1).lt; omega
          (try rw [← hv10])
          rw [← hT2]
          clear hv10 hT2
          refine hK.out _ _ (by exact HKS.out _ HBv10.out) (fun hHeld => ?_)
          clear hK K
          try simp only [Act.put, List.setIfInBounds_toArray, List.set_cons_zero, List.set_cons_succ]
          have x1 : v10.cell? ⟨T1, 0, none⟩ = some (.int .i64 0) := (hrow10_T1).cell (i := 0) (by omega)
          have f1 := (hrow10_T1).frozen 0
          have hq1 := (hrow10_T1).set 0 (.int .i64 tt)
          have hq2 := (hrow10_T2).setOther (a := ⟨T1, 0, none⟩) (by simp; omega) (.int .i64 tt)
          have x2 : (v10.setCell ⟨T1, 0, none⟩ (.int .i64 tt)).cell? ⟨T2, 0, none⟩ = some (.int .i64 0) := hq2.cell (i := 0) (by omega)
          have f2 := hq2.frozen 0
          have hz1 := hq1.setOther (a := ⟨T2, 0, none⟩) (by simp; omega) (.int .i64 pd)
          have hz2 := hq2.set 0 (.int .i64 pd)
          have HFn : Hid (Below w4.heap.size w4 ((v10.setCell ⟨T1, 0, none⟩ (.int .i64 tt)).setCell ⟨T2, 0, none⟩ (.int .i64 pd))) := Lib.hid (((HBv10.out).setCell (p := ⟨T1, 0, none⟩) hgeT1 _).setCell (p := ⟨T2, 0, none⟩) hgeT2 _)
          have HFz : Hid (T1 ≠ T2 ∧ w4.heap.size ≤ T1 ∧ w4.heap.size ≤ T2 ∧ (((v10.setCell ⟨T1, 0, none⟩ (.int .i64 tt)).setCell ⟨T2, 0, none⟩ (.int .i64 pd)).rowIs T1 3 1 (fun i => ([.int .i64 tt] : List Value).getD i undef) ∧ ((v10.setCell ⟨T1, 0, none⟩ (.int .i64 tt)).setCell ⟨T2, 0, none⟩ (.int .i64 pd)).rowIs T2 3 1 (fun i => ([.int .i64 pd] : List Value).getD i undef))) := Lib.hid ⟨by omega, hgeT1, hgeT2, hz1.congr (fun i hi => by match i, hi with | 0, _ => rfl), hz2.congr (fun i hi => by match i, hi with | 0, _ => rfl)⟩
          refine wpAnyH_ready (rs := [10]) (by kernel_rfl) (by simp) ?_
          refine AllReadyH.cons (o := _) (by simp only [List.getElem?_toArray, List.getElem?_cons_succ, List.getElem?_cons_zero]; rfl) (fun K hK => ?_) AllReadyH.nil
          go_simp
          refine hK.out _ _ (by exact HKS.out _ ((HBv10.out).setCell (p := ⟨T1, 0, none⟩) hgeT1 (.int .i64 tt))) (fun hHeld => ?_)
          clear hK K
          try simp only [Act.put, List.setIfInBounds_toArray, List.set_cons_zero, List.set_cons_succ]
          refine wpAnyH_ready (rs := [11]) (by kernel_rfl) (by simp) ?_
          refine AllReadyH.cons (o := _) (by simp only [List.getElem?_toArray, List.getElem?_cons_succ, List.getElem?_cons_zero]; rfl) (fun K hK => ?_) AllReadyH.nil
          go_simp
          refine hK.out _ _ (by exact HKS.out _ HFn.out) (fun hHeld => ?_)
          clear hK K
          try simp only [Act.put, List.setIfInBounds_toArray, List.set_cons_zero, List.set_cons_succ]
          refine wpAnyH_done (by kernel_rfl) ?_ _
          go_wp2_with fail
          go_meet
          exact ⟨T1, T2, rfl, rfl, Lib.hid ⟨HFz.out.1, HFz.out.2.1, HFz.out.2.2.1, HFn.out, HFz.out.2.2.2⟩⟩
        · go_simp
          obtain ⟨T2, hT2⟩ : ∃ x, x = v8.heap.size := ⟨_, rfl⟩
          obtain ⟨v12, hv12⟩ : ∃ W, W = (v8.alloc (.cells #[.int .i64 0] 3)) := ⟨_, rfl⟩
          have hb12 : Below v8.heap.size v8 v12 := by rw [hv12]; exact (Below.refl v8.heap.size v8).alloc (Nat.le_refl _) (.cells #[.int .i64 0] 3)
          have HBv12 : Hid (Below w4.heap.size w4 v12) := Lib.hid ((HBv8.out).trans (hb12.mono (HBv8.out).size))
          have hrow12_T2 : v12.rowIs T2 3 1 (fun i => ([.int .i64 0] : List Value).getD i undef) := by rw [hv12, hT2]; exact rowL_alloc v8 3 [.int .i64 0]
          have hgeT2 : w4.heap.size ≤ T2 := by rw [hT2]; exact (HBv8.out).size
          have hrow12_T1 := (hrow8_T1).of_block (hb12.block T1 (hrow8_T1).lt)
          have hneT : T1 ≠ T2 := by have := (hrow8_T1).lt; omega
          (try rw [← hv12])
          rw [← hT2]
          clear hv12 hT2
          refine hK.out _ _ (by exact HKS.out _ HBv12.out) (fun hHeld => ?_)
          clear hK K
          try simp only [Act.put, List.setIfInBounds_toArray, List.set_cons_zero, List.set_cons_succ]
          refine wpAnyH_ready (rs := [1]) (by kernel_rfl) (by simp) ?_
          refine AllReadyH.cons (o := _) (by simp only [List.getElem?_toArray, List.getElem?_cons_succ, List.getElem?_cons_zero]; rfl) (fun K hK => ?_) AllReadyH.nil
          go_simp
          go_at_call 44
          refine Calls.mono (HTi.out v12 ⟨rba, rbc, rbs, ria, ric, ris, roa, roc, ros⟩ hw hh) ?_
          rintro e v13 ⟨rfl, hb13⟩
          have HBv13 : Hid (Below w4.heap.size w4 v13) := Lib.hid ((HBv12.out).trans (hb13.mono (HBv12.out).size))
          have hrow13_T2 := (hrow12_T2).of_block (hb13.block T2 (hrow12_T2).lt)
          have hrow13_T1 := (hrow12_T1).of_block (hb13.block T1 (hrow12_T1).lt)
          go_simp
          refine hK.out _ _ (by exact HKS.out _ HBv13.out) (fun hHeld => ?_)
          clear hK K
          try simp only [Act.put, List.setIfInBounds_toArray, List.set_cons_zero, List.set_cons_succ]
          have x1 : v13.cell? ⟨T1, 0, none⟩ = some (.int .i64 0) := (hrow13_T1).cell (i := 0) (by omega)
          have f1 := (hrow13_T1).frozen 0
          have hq1 := (hrow13_T1).set 0 (.int .i64 tt)
          have hq2 := (hrow13_T2).setOther (a := ⟨T1, 0, none⟩) (by simp; omega) (.int .i64 tt)
          have x2 : (v13.setCell ⟨T1, 0, none⟩ (.int .i64 tt)).cell? ⟨T2, 0, none⟩ = some (.int .i64 0) := hq2.cell (i := 0) (by omega)
          have f2 := hq2.frozen 0
          have hz1 := hq1.setOther (a := ⟨T2, 0, none⟩) (by simp; omega) (.int .i64 pd)
          have hz2 := hq2.set 0 (.int .i64 pd)
          have HFn : Hid (Below w4.heap.size w4 ((v13.setCell ⟨T1, 0, none⟩ (.int .i64 tt)).setCell ⟨T2, 0, none⟩ (.int .i64 pd))) := Lib.hid (((HBv13.out).setCell (p := ⟨T1, 0, none⟩) hgeT1 _).setCell (p := ⟨T2, 0, none⟩) hgeT2 _)
          have HFz : Hid (T1 ≠ T2 ∧ w4.heap.size ≤ T1 ∧ w4.heap.size ≤ T2 ∧ (((v13.setCell ⟨T1, 0, none⟩ (.int .i64 tt)).setCell ⟨T2, 0, none⟩ (.int .i64 pd)).rowIs T1 3 1 (fun i => ([.int .i64 tt] : List Value).getD i undef) ∧ ((v13.setCell ⟨T1, 0, none⟩ (.int .i64 tt)).setCell ⟨T2, 0, none⟩ (.int .i64 pd)).rowIs T2 3 1 (fun i => ([.int .i64 pd] : List Value).getD i undef))) := Lib.hid ⟨by omega, hgeT1, hgeT2, hz1.congr (fun i hi => by match i, hi with | 0, _ => rfl), hz2.congr (fun i hi => by match i, hi with | 0, _ => rfl)⟩
          refine wpAnyH_ready (rs := [10]) (by kernel_rfl) (by simp) ?_
          refine AllReadyH.cons (o := _) (by simp only [List.getElem?_toArray, List.getElem?_cons_succ, List.getElem?_cons_zero]; rfl) (fun K hK => ?_) AllReadyH.nil
          go_simp
          refine hK.out _ _ (by exact HKS.out _ ((HBv13.out).setCell (p := ⟨T1, 0, none⟩) hgeT1 (.int .i64 tt))) (fun hHeld => ?_)
          clear hK K
          try simp only [Act.put, List.setIfInBounds_toArray, List.set_cons_zero, List.set_cons_succ]
          refine wpAnyH_ready (rs := [11]) (by kernel_rfl) (by simp) ?_
          refine AllReadyH.cons (o := _) (by simp only [List.getElem?_toArray, List.getElem?_cons_succ, List.getElem?_cons_zero]; rfl) (fun K hK => ?_) AllReadyH.nil
          go_simp
          refine hK.out _ _ (by exact HKS.out _ HFn.out) (fun hHeld => ?_)
          clear hK K
          try simp only [Act.put, List.setIfInBounds_toArray, List.set_cons_zero, List.set_cons_succ]
          refine wpAnyH_done (by kernel_rfl) ?_ _
          go_wp2_with fail
          go_meet
          exact ⟨T1, T2, rfl, rfl, Lib.hid ⟨HFz.out.1, HFz.out.2.1, HFz.out.2.2.1, HFn.out, HFz.out.2.2.2⟩⟩
      · go_simp
        obtain ⟨T2, hT2⟩ : ∃ x, x = w4.heap.size := ⟨_, rfl⟩
        obtain ⟨v15, hv15⟩ : ∃ W, W = (w4.alloc (.cells #[.int .i64 0] 3)).drew := ⟨_, rfl⟩
        have hb15 : Below w4.drew.heap.size w4.drew v15 := by rw [hv15]; exact (Below.refl w4.drew.heap.size w4.drew).alloc (Nat.le_refl _) (.cells #[.int .i64 0] 3)
        have HBv15 : Hid (Below w4.heap.size w4 v15) := Lib.hid (((Below.refl w4.heap.size w4).drew).trans (hb15.mono ((Below.refl w4.heap.size w4).drew).size))
        have hrow15_T2 : v15.rowIs T2 3 1 (fun i => ([.int .i64 0] : List Value).getD i undef) := by rw [hv15, hT2]; exact rowL_alloc w4 3 [.int .i64 0]
        have hgeT2 : w4.heap.size ≤ T2 := by rw [hT2]; exact ((Below.refl w4.heap.size w4).drew).size
        (try rw [← hv15])
        rw [← hT2]
        clear hv15 hT2
        refine hK.out _ _ (by exact HKS.out _ HBv15.out) (fun hHeld => ?_)
        clear hK K
        try simp only [Act.put, List.setIfInBounds_toArray, List.set_cons_zero, List.set_cons_succ]
        refine wpAnyH_ready (rs := [1, 8]) (by kernel_rfl) (by simp) ?_
        refine AllReadyH.cons (o := _) (by simp only [List.getElem?_toArray, List.getElem?_cons_succ, List.getElem?_cons_zero]; rfl) (fun K hK => ?_) (AllReadyH.cons (o := _) (by simp only [List.getElem?_toArray, List.getElem?_cons_succ, List.getElem?_cons_zero]; rfl) (fun K hK => ?_) AllReadyH.nil)
        · go_simp
          go_at_call 44
          refine Calls.mono (HTi.out v15 ⟨rba, rbc, rbs, ria, ric, ris, roa, roc, ros⟩ hw hh) ?_
          rintro e v16 ⟨rfl, hb16⟩
          have HBv16 : Hid (Below w4.heap.size w4 v16) := Lib.hid ((HBv15.out).trans (hb16.mono (HBv15.out).size))
          have hrow16_T2 := (hrow15_T2).of_block (hb16.block T2 (hrow15_T2).lt)
          go_simp
          refine hK.out _ _ (by exact HKS.out _ HBv16.out) (fun hHeld => ?_)
          clear hK K
          try simp only [Act.put, List.setIfInBounds_toArray, List.set_cons_zero, List.set_cons_succ]
          refine wpAnyH_ready (rs := [8]) (by kernel_rfl) (by simp) ?_
          refine AllReadyH.cons (o := _) (by simp only [List.getElem?_toArray, List.getElem?_cons_succ, List.getElem?_cons_zero]; rfl) (fun K hK => ?_) AllReadyH.nil
          go_simp
          obtain ⟨T1, hT1⟩ : ∃ x, x = v16.heap.size := ⟨_, rfl⟩
          obtain ⟨v17, hv17⟩ : ∃ W, W = (v16.alloc (.cells #[.int .i64 0] 3)) := ⟨_, rfl⟩
          have hb17 : Below v16.heap.size v16 v17 := by rw [hv17]; exact (Below.refl v16.heap.size v16).alloc (Nat.le_refl _) (.cells #[.int .i64 0] 3)
          have HBv17 : Hid (Below w4.heap.size w4 v17) := Lib.hid ((HBv16.out).trans (hb17.mono (HBv16.out).size))
          have hrow17_T1 : v17.rowIs T1 3 1 (fun i => ([.int .i64 0] : List Value).getD i undef) := by rw [hv17, hT1]; exact rowL_alloc v16 3 [.int .i64 0]
          have hgeT1 : w4.heap.size ≤ T1 := by rw [hT1]; exact (HBv16.out).size
          have hrow17_T2 := (hrow16_T2).of_block (hb17.block T2 (hrow16_T2).lt)
          have hneT : T2 ≠ T1 := by have := (hrow16_T2).lt; omega
          (try rw [← hv17])
          rw [← hT1]
          clear hv17 hT1
          refine hK.out _ _ (by exact HKS.out _ HBv17.out) (fun hHeld => ?_)
          clear hK K
          try simp only [Act.put, List.setIfInBounds_toArray, List.set_cons_zero, List.set_cons_succ]
          have x1 : v17.cell? ⟨T1, 0, none⟩ = some (.int .i64 0) := (hrow17_T1).cell (i := 0) (by omega)
          have f1 := (hrow17_T1).frozen 0
          have hq1 := (hrow17_T1).set 0 (.int .i64 tt)
          have hq2 := (hrow17_T2).setOther (a := ⟨T1, 0, none⟩) (by simp; omega) (.int .i64 tt)
          have x2 : (v17.setCell ⟨T1, 0, none⟩ (.int .i64 tt)).cell? ⟨T2, 0, none⟩ = some (.int .i64 0) := hq2.cell (i := 0) (by omega)
          have f2 := hq2.frozen 0
          have hz1 := hq1.setOther (a := ⟨T2, 0, none⟩) (by simp; omega) (.int .i64 pd)
          have hz2 := hq2.set 0 (.int .i64 pd)
          have HFn : Hid (Below w4.heap.size w4 ((v17.setCell ⟨T1, 0, none⟩ (.int .i64 tt)).setCell ⟨T2, 0, none⟩ (.int .i64 pd))) := Lib.hid (((HBv17.out).setCell (p := ⟨T1, 0, none⟩) hgeT1 _).setCell (p := ⟨T2, 0, none⟩) hgeT2 _)
          have HFz : Hid (T1 ≠ T2 ∧ w4.heap.size ≤ T1 ∧ w4.heap.size ≤ T2 ∧ (((v17.setCell ⟨T1, 0, none⟩ (.int .i64 tt)).setCell ⟨T2, 0, none⟩ (.int .i64 pd)).rowIs T1 3 1 (fun i => ([.int .i64 tt] : List Value).getD i undef) ∧ ((v17.setCell ⟨T1, 0, none⟩ (.int .i64 tt)).setCell ⟨T2, 0, none⟩ (.int .i64 pd)).rowIs T2 3 1 (fun i => ([.int .i64 pd] : List Value).getD i undef))) := Lib.hid ⟨by omega, hgeT1, hgeT2, hz1.congr (fun i hi => by match i, hi with | 0, _ => rfl), hz2.congr (fun i hi => by match i, hi with | 0, _ => rfl)⟩
          refine wpAnyH_ready (rs := [10]) (by kernel_rfl) (by simp) ?_
          refine AllReadyH.cons (o := _) (by simp only [List.getElem?_toArray, List.getElem?_cons_succ, List.getElem?_cons_zero]; rfl) (fun K hK => ?_) AllReadyH.nil
          go_simp
          refine hK.out _ _ (by exact HKS.out _ ((HBv17.out).setCell (p := ⟨T1, 0, none⟩) hgeT1 (.int .i64 tt))) (fun hHeld => ?_)
          clear hK K
          try simp only [Act.put, List.setIfInBounds_toArray, List.set_cons_zero, List.set_cons_succ]
          refine wpAnyH_ready (rs := [11]) (by kernel_rfl) (by simp) ?_
          refine AllReadyH.cons (o := _) (by simp only [List.getElem?_toArray, List.getElem?_cons_succ, List.getElem?_cons_zero]; rfl) (fun K hK => ?_) AllReadyH.nil
          go_simp
          refine hK.out _ _ (by exact HKS.out _ HFn.out) (fun hHeld => ?_)
          clear hK K
          try simp only [Act.put, List.setIfInBounds_toArray, List.set_cons_zero, List.set_cons_succ]
          refine wpAnyH_done (by kernel_rfl) ?_ _
          go_wp2_with fail
          go_meet
          exact ⟨T1, T2, rfl, rfl, Lib.hid ⟨HFz.out.1, HFz.out.2.1, HFz.out.2.2.1, HFn.out, HFz.out.2.2.2⟩⟩
        · go_simp
          obtain ⟨T1, hT1⟩ : ∃ x, x = v15.heap.size := ⟨_, rfl⟩
          obtain ⟨v19, hv19⟩ : ∃ W, W = (v15.alloc (.cells #[.int .i64 0] 3)) := ⟨_, rfl⟩
          have hb19 : Below v15.heap.size v15 v19 := by rw [hv19]; exact (Below.refl v15.heap.size v15).alloc (Nat.le_refl _) (.cells #[.int .i64 0] 3)
          have HBv19 : Hid (Below w4.heap.size w4 v19) := Lib.hid ((HBv15.out).trans (hb19.mono (HBv15.out).size))
          have hrow19_T1 : v19.rowIs T1 3 1 (fun i => ([.int .i64 0] : List Value).getD i undef) := by rw [hv19, hT1]; exact rowL_alloc v15 3 [.int .i64 0]
          have hgeT1 : w4.heap.size ≤ T1 := by rw [hT1]; exact (HBv15.out).size
          have hrow19_T2 := (hrow15_T2).of_block (hb19.block T2 (hrow15_T2).lt)
          have hneT : T2 ≠ T1 := by have := (hrow15_T2).lt; omega
          (try rw [← hv19])
          rw [← hT1]
          clear hv19 hT1
          refine hK.out _ _ (by exact HKS.out _ HBv19.out) (fun hHeld => ?_)
          clear hK K
          try simp only [Act.put, List.setIfInBounds_toArray, List.set_cons_zero, List.set_cons_succ]
          refine wpAnyH_ready (rs := [1]) (by kernel_rfl) (by simp) ?_
          refine AllReadyH.cons (o := _) (by simp only [List.getElem?_toArray, List.getElem?_cons_succ, List.getElem?_cons_zero]; rfl) (fun K hK => ?_) AllReadyH.nil
          go_simp
          go_at_call 44
          refine Calls.mono (HTi.out v19 ⟨rba, rbc, rbs, ria, ric, ris, roa, roc, ros⟩ hw hh) ?_
          rintro e v20 ⟨rfl, hb20⟩
          have HBv20 : Hid (Below w4.heap.size w4 v20) := Lib.hid ((HBv19.out).trans (hb20.mono (HBv19.out).size))
          have hrow20_T1 := (hrow19_T1).of_block (hb20.block T1 (hrow19_T1).lt)
          have hrow20_T2 := (hrow19_T2).of_block (hb20.block T2 (hrow19_T2).lt)
          go_simp
          refine hK.out _ _ (by exact HKS.out _ HBv20.out) (fun hHeld => ?_)
          clear hK K
          try simp only [Act.put, List.setIfInBounds_toArray, List.set_cons_zero, List.set_cons_succ]
          have x1 : v20.cell? ⟨T1, 0, none⟩ = some (.int .i64 0) := (hrow20_T1).cell (i := 0) (by omega)
          have f1 := (hrow20_T1).frozen 0
          have hq1 := (hrow20_T1).set 0 (.int .i64 tt)
          have hq2 := (hrow20_T2).setOther (a := ⟨T1, 0, none⟩) (by simp; omega) (.int .i64 tt)
          have x2 : (v20.setCell ⟨T1, 0, none⟩ (.int .i64 tt)).cell? ⟨T2, 0, none⟩ = some (.int .i64 0) := hq2.cell (i := 0) (by omega)
          have f2 := hq2.frozen 0
          have hz1 := hq1.setOther (a := ⟨T2, 0, none⟩) (by simp; omega) (.int .i64 pd)
          have hz2 := hq2.set 0 (.int .i64 pd)
          have HFn : Hid (Below w4.heap.size w4 ((v20.setCell ⟨T1, 0, none⟩ (.int .i64 tt)).setCell ⟨T2, 0, none⟩ (.int .i64 pd))) := Lib.hid (((HBv20.out).setCell (p := ⟨T1, 0, none⟩) hgeT1 _).setCell (p := ⟨T2, 0, none⟩) hgeT2 _)
          have HFz : Hid (T1 ≠ T2 ∧ w4.heap.size ≤ T1 ∧ w4.heap.size ≤ T2 ∧ (((v20.setCell ⟨T1, 0, none⟩ (.int .i64 tt)).setCell ⟨T2, 0, none⟩ (.int .i64 pd)).rowIs T1 3 1 (fun i => ([.int .i64 tt] : List Value).getD i undef) ∧ ((v20.setCell ⟨T1, 0, none⟩ (.int .i64 tt)).setCell ⟨T2, 0, none⟩ (.int .i64 pd)).rowIs T2 3 1 (fun i => ([.int .i64 pd] : List Value).getD i undef))) := Lib.hid ⟨by omega, hgeT1, hgeT2, hz1.congr (fun i hi => by match i, hi with | 0, _ => rfl), hz2.congr (fun i hi => by match i, hi with | 0, _ => rfl)⟩
          refine wpAnyH_ready (rs := [10]) (by kernel_rfl) (by simp) ?_
          refine AllReadyH.cons (o := _) (by simp only [List.getElem?_toArray, List.getElem?_cons_succ, List.getElem?_cons_zero]; rfl) (fun K hK => ?_) AllReadyH.nil
          go_simp
          refine hK.out _ _ (by exact HKS.out _ ((HBv20.out).setCell (p := ⟨T1, 0, none⟩) hgeT1 (.int .i64 tt))) (fun hHeld => ?_)
          clear hK K
          try simp only [Act.put, List.setIfInBounds_toArray, List.set_cons_zero, List.set_cons_succ]
          refine wpAnyH_ready (rs := [11]) (by kernel_rfl) (by simp) ?_
          refine AllReadyH.cons (o := _) (by simp only [List.getElem?_toArray, List.getElem?_cons_succ, List.getElem?_cons_zero]; rfl) (fun K hK => ?_) AllReadyH.nil
          go_simp
          refine hK.out _ _ (by exact HKS.out _ HFn.out) (fun hHeld => ?_)
          clear hK K
          try simp only [Act.put, List.setIfInBounds_toArray, List.set_cons_zero, List.set_cons_succ]
          refine wpAnyH_done (by kernel_rfl) ?_ _
          go_wp2_with fail
          go_meet
          exact ⟨T1, T2, rfl, rfl, Lib.hid ⟨HFz.out.1, HFz.out.2.1, HFz.out.2.2.1, HFn.out, HFz.out.2.2.2⟩⟩
    case rest =>
      obtain ⟨T1, T2, rfl, rfl, HC⟩ := hcut
      obtain ⟨wA, hwA⟩ : ∃ W, W = wc := ⟨_, rfl⟩
      subst hwA
      go_wp2_with fail
      refine Calls.mono (callsIn_wide.1 (chunk45_in 3 da n cap _)) ?_
      rintro e w7 ⟨rfl, rfl⟩
      go_wp2_with fail
      obtain ⟨b, off, hda⟩ : ∃ b off, 0 < n → da = some ⟨b, off, none⟩ ∧ b < w.heap.size ∧ ∀ i, i < n → w.cell? ⟨b, off + i, none⟩ = some (.int .i64 (ds.getD i 0)) := by
        by_cases h : 0 < n
        · obtain ⟨b, off, h1, h2, h3⟩ := HD.out.at 0 h
          exact ⟨b, off, fun _ => ⟨h1, h2, h3⟩⟩
        · exact ⟨0, 0, fun e => absurd e h⟩
      obtain ⟨W0, hW0⟩ : ∃ W, W = (wA.alloc (.cells #[.slice da n cap] 25)).alloc (.cells #[.int .i64 2] 3) := ⟨_, rfl⟩
      have hsA : w4.heap.size ≤ wA.heap.size := HC.out.2.2.2.1.size
      have hs0 : W0.heap.size = wA.heap.size + 2 := by rw [hW0]; simp
      have hb0 : Below wA.heap.size wA W0 := by rw [hW0]; exact ((Below.refl _ _).alloc (Nat.le_refl _) _).alloc (by simp) _
      have hX0 := HX4.out
      have c1 : W0.cell? ⟨wA.heap.size, 0, none⟩ = some (.slice da n cap) := by rw [hW0]; exact cell_alloc _ (by simp)
      have c2 : W0.cell? ⟨wA.heap.size + 1, 0, none⟩ = some (.int .i64 2) := by rw [hW0]; simp
      have hSt0 : PlSt w1.heap.size W0.heap.size X [.int .i64 aw, .int .i64 ah, .int .i64 at_, .int .i64 pi, .slice pa nb pc, .slice qa no qc] W0 (PT 0) W0 := ⟨KpX.refl _ _ _, ⟨rba, rbc, rbs, ria, ric, ris, roa, roc, ros⟩, HD0.out, HR4.out.of_block ((hb0.block X (by omega)).trans (HC.out.2.2.2.1.block X (by omega))), ((HNew4.out.below HC.out.2.2.2.1).below hb0).weak (Nat.le_refl _)⟩
      have hPT : ∀ k, placeL A PP.data ds (PT 0) (List.range k) = PT k := fun k => by
        induction k with
        | zero => rfl
        | succ k ih => rw [List.range_succ, placeL_snoc, ih, HPs.out k]
      have HPT := Lib.hid hPT
      have hrB : W0.rowIs B1 29 3 (fun i => ([.slice none 0 0, .slice none 0 0, .slice none 0 0] : List Value).getD i undef) := (HW3r.out w4 HB4.out).of_block ((hb0.block B1 (by have := HSz.out; omega)).trans (HC.out.2.2.2.1.block B1 (by have := HSz.out; omega)))
      have HRB := Lib.hid hrB
      have hw0 : Below w.heap.size w W0 := (HXW.out w4 (HBw.out w4 HB4.out)).trans ((HC.out.2.2.2.1.trans (hb0.mono (by omega))).mono (by have := HSz.out; omega))
      have HW0w := Lib.hid hw0
      have hB9 : B1 < W0.heap.size ∧ B1 ≠ X ∧ w.heap.size ≤ B1 ∧ B1 < w1.heap.size ∧ w.heap.size ≤ X ∧ w.heap.size ≤ W0.heap.size := by have := HSz.out; omega
      have HB9 := Lib.hid hB9
      have hsI : wA.heap.size + 1 < W0.heap.size := by omega
      clear hPT hrB hw0
      rw [← hW0]
      clear hW0 hs0
      refine wpIn_wide.1 (wpIn_rangeFunc_ownG (F := Fence.wide) (n := 3) rfl (by omega) (gf := 59) (lb := #[.pointer (some ⟨wA.heap.size, 0, none⟩), .pointer (some ⟨wA.heap.size + 1, 0, none⟩)]) rfl trivial (enters_of Try.func59 (by kernel_rfl) rfl)
        (encs := fun x : Ch n => #[chunkV b off n x.1]) (Kp := KpX W0.heap.size X) (S := fun ys => ys.map (fun x => x.1) = List.range ((n + 1) / 2)) (Sp := fun pre => pre.map (fun x => x.1) = List.range pre.length) (N := (n + 1) / 2) (w0 := W0)
        (fun l J Jx W hW hJ _ hY h0 => chunk59_in 2 (by omega) l wA.heap.size (wA.heap.size + 1) W0.heap.size X b off n cap da (fun e => (hda e).1) ⟨by omega, by omega⟩ ⟨by omega, by omega⟩ (by omega) hnc J Jx hY W ((hW.cell (p := ⟨_, _, none⟩) (by simp only; omega)).trans c1) ((hW.cell (p := ⟨_, _, none⟩) (by simp only; omega)).trans c2) h0 (fun s V hs => hJ s V V.drew none hs (grown_drew (World.grownBy.refl _ _)) (fun r e => by cases e)))
        KpX.trans (KpX.put (Nat.le_refl _)) (Below.refl _ _) (by intro _; rfl)
        (PlI w1.heap.size W0.heap.size X [.int .i64 aw, .int .i64 ah, .int .i64 at_, .int .i64 pi, .slice pa nb pc, .slice qa no qc] W0 (placeL A PP.data ds (PT 0)))
        (PlIx w1.heap.size W0.heap.size X [.int .i64 aw, .int .i64 ah, .int .i64 at_, .int .i64 pi, .slice pa nb pc, .slice qa no qc] W0 (placeL A PP.data ds (PT 0)))
        ?hI ?hIx ⟨hSt0, fun x hx => by cases hx⟩
        (fun x => { tmps := #[.agg #[.int .i64 aw, .int .i64 ah, .int .i64 at_], .agg #[.int .i64 pi, .slice pa nb pc, .slice qa no qc], .slice da n cap, .pointer (some ⟨H, 0, none⟩), .pointer (some ⟨H1, 0, none⟩), undef, .pointer (some ⟨B1, 0, none⟩), .int .i64 0, .pointer (some ⟨w2.heap.size, 0, none⟩), .int .i64 0, .pointer (some ⟨X, 0, none⟩), .pointer (some ⟨T1, 0, none⟩), .pointer (some ⟨T2, 0, none⟩), (chunkV b off n x.1), undef, undef, .tuple #[(SpotV.val ⟨rba, rbc, rbs, ria, ric, ris, roa, roc, ros⟩), .int .i64 0], .agg #[.int .i64 aw, .int .i64 ah, .int .i64 at_], .agg #[.int .i64 pi, .slice pa nb pc, .slice qa no qc], .tuple #[(SpotV.val ⟨rba, rbc, rbs, ria, ric, ris, roa, roc, ros⟩), .int .i64 0], (SpotV.val ⟨rba, rbc, rbs, ria, ric, ris, roa, roc, ros⟩), .int .i64 0, .int .i64 0, .bool false, undef, undef, .agg #[.int .i64 aw, .int .i64 ah, .int .i64 at_], .agg #[.int .i64 pi, .slice pa nb pc, .slice qa no qc], .agg #[.slice rba rbs.length rbc, .slice ria ris.length ric, .slice roa ros.length roc], .agg #[.int .i64 aw, .int .i64 ah, .int .i64 at_, .int .i64 pi, .slice pa nb pc, .slice qa no qc, .slice rba rbs.length rbc, .slice ria ris.length ric, .slice roa ros.length roc], u30, u31, u32, u33, u34, u35, u36, u37, .slice da n cap, .func (.func 59) #[] #[.pointer (some ⟨wA.heap.size, 0, none⟩), .pointer (some ⟨wA.heap.size + 1, 0, none⟩)], (chunkV b off n x.1), undef, undef, undef, undef, undef, undef, undef, undef, undef, undef, undef, undef, undef, undef, undef, undef, undef, undef, undef, undef, undef, undef, undef, undef, undef, undef, undef, undef, undef, undef, undef, undef, undef, undef], defers := [] }) ?assign ?body ?done ?stop)
      case hI => exact fun s V V' row hs hg hr => ⟨hs.1.kept (by omega) hg hr hs.1.kp.size, hs.2⟩
      case hIx =>
        intro c s V V' row hs hg hr
        obtain ⟨q1, p, x, q2, q3, q4⟩ := hs
        exact ⟨q1, p, x, q2, q3, q4.kept (by omega) hg hr q4.kp.size⟩
      case assign =>
        intro l x W K hK
        gi_wp2
        exact hK
      case body =>
        rintro l pre ⟨j, hj⟩ W ⟨hst, hall⟩ hlen
        have hst0 := hst
        obtain ⟨hkp, ⟨qba, qbc, qbs, qia, qic, qis, qoa, qoc, qos⟩, hRd, hRx, hRn⟩ := hst
        obtain ⟨hda1, hda2, hda3⟩ := hda (by omega)
        have hb9 := HB9.out
        have hWb : Below w.heap.size w W := HW0w.out.trans ⟨hkp.os, hkp.tape, hkp.output, hkp.size, fun k hk => hkp.block k (by omega) (by omega)⟩
        have e0 : W.cell? ⟨b, off + 2 * j, none⟩ = some (.int .i64 (ds.getD (2 * j) 0)) := (hWb.cell (p := ⟨_, _, none⟩) hda2).trans (hda3 (2 * j) hj)
        have HSt0 := Lib.hid hst0
        by_cases h1 : 2 * j + 1 = n
        · have hch : chLen n j = 1 := by unfold chLen; omega
          unfold chunkV
          dsimp only
          rw [hch]
          clear e0
          gi_wp2
          exact ⟨KeepsFrom.refl _ _, rfl, pre, ⟨j, hj⟩, rfl, h1, HSt0.out⟩
        · have hj2 : 2 * j + 1 < n := by omega
          have hch : chLen n j = 2 := by unfold chLen; omega
          have e1 : W.cell? ⟨b, off + 2 * j + 1, none⟩ = some (.int .i64 (ds.getD (2 * j + 1) 0)) := by
            rw [Nat.add_assoc]
            exact (hWb.cell (p := ⟨_, _, none⟩) hda2).trans (hda3 (2 * j + 1) hj2)
          unfold chunkV
          dsimp only
          rw [hch]
          obtain ⟨x0, hx0⟩ : ∃ x, x = ds.getD (2 * j) 0 := ⟨_, rfl⟩
          obtain ⟨x1, hx1⟩ : ∃ x, x = ds.getD (2 * j + 1) 0 := ⟨_, rfl⟩
          rw [← hx0] at e0
          rw [← hx1] at e1
          have hc := HC.out
          have t1 : W.cell? ⟨T1, 0, none⟩ = some (.int .i64 tt) := (hkp.cell (by have := hc.2.2.2.2.1.lt; omega) (by omega)).trans ((hb0.cell (p := ⟨T1, 0, none⟩) (by have := hc.2.2.2.2.1.lt; exact this)).trans (hc.2.2.2.2.1.cell (i := 0) (by omega)))
          have t2 : W.cell? ⟨T2, 0, none⟩ = some (.int .i64 pd) := (hkp.cell (by have := hc.2.2.2.2.2.lt; omega) (by omega)).trans ((hb0.cell (p := ⟨T2, 0, none⟩) (by have := hc.2.2.2.2.2.lt; exact this)).trans (hc.2.2.2.2.2.cell (i := 0) (by omega)))
          have htp : 1 ≤ tt ∧ tt ≤ 256 ∧ 1 ≤ pd ∧ pd ≤ 64 := by
            have hw := HWH.out.1
            have hh := HWH.out.2
            have h256 : A.w * A.h ≤ 16 * 16 := Int.mul_le_mul hw.2 hh.2 (by omega) (by omega)
            have h1' : 1 * 1 ≤ A.w * A.h := Int.mul_le_mul hw.1 hh.1 (by omega) (by omega)
            have e1 := HTt.out.1
            have e2 := HTt.out.2
            unfold tilesL at e1
            unfold padsL at e2
            omega
          have HM : Hid (1 ≤ tt + pd ∧ tt + pd ≤ 100000 ∧ 1 ≤ tt ∧ tt ≤ 100000 ∧ 1 ≤ pd ∧ pd ≤ 100000 ∧ IntKind.i64.wrap (tt + pd) = tt + pd) := Lib.hid ⟨by omega, by omega, by omega, by omega, by omega, by omega, wrapSmall (by omega) (by omega)⟩
          have HXx := Lib.hid (And.intro hx0 hx1)
          have HRd := Lib.hid hRd
          have HRn := Lib.hid hRn
          have HRx := Lib.hid hRx
          have HKp := Lib.hid hkp
          have HWb := Lib.hid hWb
          have HHall := Lib.hid hall
          obtain ⟨mm, hmm⟩ : ∃ x, x = x0 % (tt + pd) := ⟨_, rfl⟩
          obtain ⟨nn1, hnn1⟩ : ∃ x, x = x1 % tt := ⟨_, rfl⟩
          obtain ⟨nn2, hnn2⟩ : ∃ x, x = x1 % pd := ⟨_, rfl⟩
          have CM1 : Hid (∀ V, Calls Try.prog 46 #[.int .i64 x0, .int .i64 (tt + pd)] V fun e w' => e = .returned (.int .i64 mm) ∧ V = w') := Lib.hid fun V => by rw [hmm]; exact modulo46 V x0 (tt + pd) HM.out.1 HM.out.2.1
          have CM2 : Hid (∀ V, Calls Try.prog 46 #[.int .i64 x1, .int .i64 tt] V fun e w' => e = .returned (.int .i64 nn1) ∧ V = w') := Lib.hid fun V => by rw [hnn1]; exact modulo46 V x1 tt HM.out.2.2.1 HM.out.2.2.2.1
          have CM3 : Hid (∀ V, Calls Try.prog 46 #[.int .i64 x1, .int .i64 pd] V fun e w' => e = .returned (.int .i64 nn2) ∧ V = w') := Lib.hid fun V => by rw [hnn2]; exact modulo46 V x1 pd HM.out.2.2.2.2.1 HM.out.2.2.2.2.2.1
          have hn2b : 0 ≤ nn2 ∧ nn2 < pd := by rw [hnn2]; exact ⟨Int.emod_nonneg _ (by omega), Int.emod_lt_of_pos _ (by omega)⟩
          have HA11 : Hid (IntKind.i64.wrap (tt + nn2) = tt + nn2) := Lib.hid (wrapSmall (by omega) (by omega))
          have hmo : mOf A ds j = mm := by unfold mOf; rw [hmm, HTt.out.1, HTt.out.2, ← hx0]
          have HNy : Hid (tt ≤ mm → tt + nn2 = nOf A ds j) := Lib.hid fun h => by
            unfold nOf
            rw [hmo, if_neg (by rw [← HTt.out.1]; omega), ← HTt.out.1, ← HTt.out.2, ← hx1, hnn2]
          have HNn : Hid (¬ tt ≤ mm → nn1 = nOf A ds j) := Lib.hid fun h => by
            unfold nOf
            rw [hmo, if_pos (by rw [← HTt.out.1]; omega), ← HTt.out.1, ← hx1, hnn1]
          have hqr : RightAll A PP.data (SpotV.data ⟨qba, qbc, qbs, qia, qic, qis, qoa, qoc, qos⟩) := by
            rw [HRd.out]
            exact placeL_right ds _ (HPr.out (by first | rfl | trivial) 0).1
          have hqs : ∀ V, Below W.heap.size W V → SpotAt V ⟨qba, qbc, qbs, qia, qic, qis, qoa, qoc, qos⟩ := fun V hV => (HRn.out.below hV).spots ⟨.inl rfl, .inl rfl, .inl rfl, fun _ h => (by cases h), fun _ h => (by cases h), fun _ h => (by cases h)⟩
          have htwo : TwoOk A (mOf A ds j) (nOf A ds j) := two_of A ds j HWH.out.1 HWH.out.2
          have hWsz : W0.heap.size ≤ W.heap.size := hkp.size
          have hX9 : X < W.heap.size := by omega
          have CB : Hid (∀ V nn, V.heap.size = W.heap.size → Below W.heap.size W V → nn = nOf A ds j → Calls Try.prog 41 #[.agg #[.int .i64 aw, .int .i64 ah, .int .i64 at_, .int .i64 pi, .slice pa nb pc, .slice qa no qc, .slice qba qbs.length qbc, .slice qia qis.length qic, .slice qoa qos.length qoc], .int .i64 mm, .int .i64 nn] V fun e w' => ∃ R : SpotV, e = .returned (.tuple #[.agg #[.int .i64 aw, .int .i64 ah, .int .i64 at_, .int .i64 pi, .slice pa nb pc, .slice qa no qc, .slice R.ba R.bs.length R.bc, .slice R.ia R.is.length R.ic, .slice R.oa R.os.length R.oc], .bool (betterB A PP.data (SpotV.data ⟨qba, qbc, qbs, qia, qic, qis, qoa, qoc, qos⟩) (mOf A ds j) (nOf A ds j))]) ∧ R.data = betterD A PP.data (SpotV.data ⟨qba, qbc, qbs, qia, qic, qis, qoa, qoc, qos⟩) (mOf A ds j) (nOf A ds j) ∧ SpotNew W.heap.size ⟨qba, qbc, qbs, qia, qic, qis, qoa, qoc, qos⟩ R w' ∧ Below W.heap.size W w' ∧ w'.rowIs X 53 9 (fun i => ([.int .i64 aw, .int .i64 ah, .int .i64 at_, .int .i64 pi, .slice pa nb pc, .slice qa no qc, .slice qba qbs.length qbc, .slice qia qis.length qic, .slice qoa qos.length qoc] : List Value).getD i undef) ∧ (w'.cell? ⟨X, 0, none⟩ = some (.int .i64 aw) ∧ w'.cell? ⟨X, 1, none⟩ = some (.int .i64 ah) ∧ w'.cell? ⟨X, 2, none⟩ = some (.int .i64 at_) ∧ w'.cell? ⟨X, 3, none⟩ = some (.int .i64 pi) ∧ w'.cell? ⟨X, 4, none⟩ = some (.slice pa nb pc) ∧ w'.cell? ⟨X, 5, none⟩ = some (.slice qa no qc) ∧ w'.cell? ⟨X, 6, none⟩ = some (.slice qba qbs.length qbc) ∧ w'.cell? ⟨X, 7, none⟩ = some (.slice qia qis.length qic) ∧ w'.cell? ⟨X, 8, none⟩ = some (.slice qoa qos.length qoc)) ∧ w'.frozen? ⟨X, 0, none⟩ = false ∧ w'.frozen? ⟨X, 1, none⟩ = false ∧ w'.frozen? ⟨X, 2, none⟩ = false ∧ w'.frozen? ⟨X, 3, none⟩ = false ∧ w'.frozen? ⟨X, 4, none⟩ = false ∧ w'.frozen? ⟨X, 5, none⟩ = false ∧ w'.frozen? ⟨X, 6, none⟩ = false ∧ w'.frozen? ⟨X, 7, none⟩ = false ∧ w'.frozen? ⟨X, 8, none⟩ = false) := Lib.hid fun V nn hVs hV hnn => by
            rw [hnn, ← hmo]
            refine Calls.mono (HB.out V ⟨qba, qbc, qbs, qia, qic, qis, qoa, qoc, qos⟩ (mOf A ds j) (nOf A ds j) (HWb.out.trans (hV.mono HWb.out.size)) (hqs V hV) hqr htwo) ?_
            rintro e w' ⟨R, he, h1, h2, h3⟩
            have hb : Below W.heap.size W w' := hV.trans (h3.mono (by omega))
            have hr := HRx.out.of_block (hb.block X hX9)
            exact ⟨R, he, h1, by rw [← hVs]; exact h2, hb, hr, ⟨hr.cell (by omega), hr.cell (by omega), hr.cell (by omega), hr.cell (by omega), hr.cell (by omega), hr.cell (by omega), hr.cell (by omega), hr.cell (by omega), hr.cell (by omega)⟩, hr.frozen _, hr.frozen _, hr.frozen _, hr.frozen _, hr.frozen _, hr.frozen _, hr.frozen _, hr.frozen _, hr.frozen _⟩
          have HCq : Hid (W.cell? ⟨X, 0, none⟩ = some (.int .i64 aw) ∧ W.cell? ⟨X, 1, none⟩ = some (.int .i64 ah) ∧ W.cell? ⟨X, 2, none⟩ = some (.int .i64 at_) ∧ W.cell? ⟨X, 3, none⟩ = some (.int .i64 pi) ∧ W.cell? ⟨X, 4, none⟩ = some (.slice pa nb pc) ∧ W.cell? ⟨X, 5, none⟩ = some (.slice qa no qc) ∧ W.cell? ⟨X, 6, none⟩ = some (.slice qba qbs.length qbc) ∧ W.cell? ⟨X, 7, none⟩ = some (.slice qia qis.length qic) ∧ W.cell? ⟨X, 8, none⟩ = some (.slice qoa qos.length qoc)) := Lib.hid ⟨HRx.out.cell (by omega), HRx.out.cell (by omega), HRx.out.cell (by omega), HRx.out.cell (by omega), HRx.out.cell (by omega), HRx.out.cell (by omega), HRx.out.cell (by omega), HRx.out.cell (by omega), HRx.out.cell (by omega)⟩
          have HMo := Lib.hid hmo
          have HX9 := Lib.hid (And.intro hX9 hWsz)
          clear hx0 hx1 hc hRd hRn hRx hkp hWb hall hst0 hmm hnn1 hnn2 hn2b hmo hqr hqs htwo hWsz hX9 htp
          gi_wp2
          refine wpIn_region_round (S := fun w' => w'.cell? ⟨T1, 0, none⟩ = some (.int .i64 tt) ∧ w'.cell? ⟨T2, 0, none⟩ = some (.int .i64 pd) ∧ w'.cell? ⟨b, off + 2 * j, none⟩ = some (.int .i64 x0) ∧ w'.cell? ⟨b, off + 2 * j + 1, none⟩ = some (.int .i64 x1)) (by kernel_rfl) (by rintro ⟨a9, w9, h9⟩; exact h9) (noDefer_spec (by kernel_rfl)) (⟨t1, t2, e0, e1⟩) (fun hHeld => ?_)
          refine wpAnyH_take (i := 0) (v := ?_) (by simp only [List.getElem?_toArray, List.getElem?_cons_succ, List.getElem?_cons_zero]; rfl) (by kernel_rfl) (by kernel_rfl) (by kernel_rfl) (by intro _ _ _ h; exact h) (Or.inl ⟨by rfl, ?_⟩) (by assumption) ?_
          rotate_left
          · intro w hSw; (try dsimp only at hSw); go_simp; try with_reducible rfl
          try simp only [Act.put, List.setIfInBounds_toArray, List.set_cons_zero, List.set_cons_succ]
          refine wpAnyH_take (i := 1) (v := ?_) (by simp only [List.getElem?_toArray, List.getElem?_cons_succ, List.getElem?_cons_zero]; rfl) (by kernel_rfl) (by kernel_rfl) (by kernel_rfl) (by intro _ _ _ h; exact h) (Or.inl ⟨by rfl, ?_⟩) (by assumption) ?_
          rotate_left
          · intro w hSw; (try dsimp only at hSw); go_simp; first | with_reducible rfl | rw [if_pos (by omega)]
          try simp only [Act.put, List.setIfInBounds_toArray, List.set_cons_zero, List.set_cons_succ]
          refine wpAnyH_take (i := 2) (v := ?_) (by simp only [List.getElem?_toArray, List.getElem?_cons_succ, List.getElem?_cons_zero]; rfl) (by kernel_rfl) (by kernel_rfl) (by kernel_rfl) (by intro _ _ _ h; exact h) (Or.inl ⟨by rfl, ?_⟩) (by assumption) ?_
          rotate_left
          · intro w hSw; (try dsimp only at hSw); go_simp; try with_reducible rfl
          try simp only [Act.put, List.setIfInBounds_toArray, List.set_cons_zero, List.set_cons_succ]
          refine wpAnyH_take (i := 3) (v := ?_) (by simp only [List.getElem?_toArray, List.getElem?_cons_succ, List.getElem?_cons_zero]; rfl) (by kernel_rfl) (by kernel_rfl) (by kernel_rfl) (by intro _ _ _ h; exact h) (Or.inl ⟨by rfl, ?_⟩) (by assumption) ?_
          rotate_left
          · intro w hSw; (try dsimp only at hSw); go_simp; try with_reducible rfl
          try simp only [Act.put, List.setIfInBounds_toArray, List.set_cons_zero, List.set_cons_succ]
          refine wpAnyH_take (i := 4) (v := ?_) (by simp only [List.getElem?_toArray, List.getElem?_cons_succ, List.getElem?_cons_zero]; rfl) (by kernel_rfl) (by kernel_rfl) (by kernel_rfl) (by intro _ _ _ h; exact h) (Or.inl ⟨by rfl, ?_⟩) (by assumption) ?_
          rotate_left
          · intro w hSw; (try dsimp only at hSw); go_simp; try with_reducible rfl
          try simp only [Act.put, List.setIfInBounds_toArray, List.set_cons_zero, List.set_cons_succ]
          refine wpAnyH_take (i := 5) (v := ?_) (by simp only [List.getElem?_toArray, List.getElem?_cons_succ, List.getElem?_cons_zero]; rfl) (by kernel_rfl) (by kernel_rfl) (by kernel_rfl) (by intro _ _ _ h; exact h) (Or.inl ⟨by rfl, ?_⟩) (by assumption) ?_
          rotate_left
          · intro w hSw; (try dsimp only at hSw); go_simp; rw [HM.out.2.2.2.2.2.2]
          try simp only [Act.put, List.setIfInBounds_toArray, List.set_cons_zero, List.set_cons_succ]
          refine wpAnyH_take (i := 7) (v := ?_) (by simp only [List.getElem?_toArray, List.getElem?_cons_succ, List.getElem?_cons_zero]; rfl) (by kernel_rfl) (by kernel_rfl) (by kernel_rfl) (by intro _ _ _ h; exact h) (Or.inl ⟨by rfl, ?_⟩) (by assumption) ?_
          rotate_left
          · intro w hSw; (try dsimp only at hSw); go_simp; try with_reducible rfl
          try simp only [Act.put, List.setIfInBounds_toArray, List.set_cons_zero, List.set_cons_succ]
          refine wpAnyH_take (i := 8) (v := ?_) (by simp only [List.getElem?_toArray, List.getElem?_cons_succ, List.getElem?_cons_zero]; rfl) (by kernel_rfl) (by kernel_rfl) (by kernel_rfl) (by intro _ _ _ h; exact h) (Or.inl ⟨by rfl, ?_⟩) (by assumption) ?_
          rotate_left
          · intro w hSw; (try dsimp only at hSw); go_simp; first | with_reducible rfl | rw [if_pos (by omega)]
          try simp only [Act.put, List.setIfInBounds_toArray, List.set_cons_zero, List.set_cons_succ]
          refine wpAnyH_take (i := 9) (v := ?_) (by simp only [List.getElem?_toArray, List.getElem?_cons_succ, List.getElem?_cons_zero]; rfl) (by kernel_rfl) (by kernel_rfl) (by kernel_rfl) (by intro _ _ _ h; exact h) (Or.inl ⟨by rfl, ?_⟩) (by assumption) ?_
          rotate_left
          · intro w hSw; (try dsimp only at hSw); go_simp; try with_reducible rfl
          try simp only [Act.put, List.setIfInBounds_toArray, List.set_cons_zero, List.set_cons_succ]
          refine wpAnyH_take (i := 10) (v := ?_) (by simp only [List.getElem?_toArray, List.getElem?_cons_succ, List.getElem?_cons_zero]; rfl) (by kernel_rfl) (by kernel_rfl) (by kernel_rfl) (by intro _ _ _ h; exact h) (Or.inl ⟨by rfl, ?_⟩) (by assumption) ?_
          rotate_left
          · intro w hSw; (try dsimp only at hSw); go_simp; try with_reducible rfl
          try simp only [Act.put, List.setIfInBounds_toArray, List.set_cons_zero, List.set_cons_succ]
          refine wpAnyH_ready (rs := [6]) (by kernel_rfl) (by simp) ?_
          refine AllReadyH.cons (o := _) (by simp only [List.getElem?_toArray, List.getElem?_cons_succ, List.getElem?_cons_zero]; rfl) (fun K hK => ?_) AllReadyH.nil
          go_simp
          go_at_call 46
          refine Calls.mono (CM1.out _) ?_
          rintro e w' ⟨rfl, rfl⟩
          go_simp
          refine hK.out _ _ (by exact hHeld) (fun hHeld => ?_)
          clear hK K
          try simp only [Act.put, List.setIfInBounds_toArray, List.set_cons_zero, List.set_cons_succ]
          refine wpAnyH_ready (rs := [11]) (by kernel_rfl) (by simp) ?_
          refine AllReadyH.cons (o := _) (by simp only [List.getElem?_toArray, List.getElem?_cons_succ, List.getElem?_cons_zero]; rfl) (fun K hK => ?_) AllReadyH.nil
          go_simp
          go_at_call 46
          refine Calls.mono (CM2.out _) ?_
          rintro e w' ⟨rfl, rfl⟩
          go_simp
          refine hK.out _ _ (by exact hHeld) (fun hHeld => ?_)
          clear hK K
          try simp only [Act.put, List.setIfInBounds_toArray, List.set_cons_zero, List.set_cons_succ]
          refine wpAnyH_take (i := 12) (v := ?_) (by simp only [List.getElem?_toArray, List.getElem?_cons_succ, List.getElem?_cons_zero]; rfl) (by kernel_rfl) (by kernel_rfl) (by kernel_rfl) (by intro _ _ _ h; exact h) (Or.inl ⟨by rfl, ?_⟩) (by assumption) ?_
          rotate_left
          · intro w hSw; (try dsimp only at hSw); go_simp; try with_reducible rfl
          try simp only [Act.put, List.setIfInBounds_toArray, List.set_cons_zero, List.set_cons_succ]
          refine wpAnyH_take (i := 13) (v := ?_) (by simp only [List.getElem?_toArray, List.getElem?_cons_succ, List.getElem?_cons_zero]; rfl) (by kernel_rfl) (by kernel_rfl) (by kernel_rfl) (by intro _ _ _ h; exact h) (Or.inl ⟨by rfl, ?_⟩) (by assumption) ?_
          rotate_left
          · intro w hSw; (try dsimp only at hSw); go_simp; try with_reducible rfl
          try simp only [Act.put, List.setIfInBounds_toArray, List.set_cons_zero, List.set_cons_succ]
          refine wpAnyH_done (by kernel_rfl) ?_ _
          (try simp only [Exit.then])
          by_cases hmt : tt ≤ mm
          · have d1 : decide (tt ≤ mm) = true := by simpa using hmt
            have d2 : decide (mm ≥ tt) = true := by simpa using hmt
            have HNN := Lib.hid (HNy.out hmt)
            clear hmt
            gi_wp2
            refine wpIn_region_round (S := fun w' => w'.cell? ⟨T1, 0, none⟩ = some (.int .i64 tt) ∧ w'.cell? ⟨T2, 0, none⟩ = some (.int .i64 pd) ∧ w'.cell? ⟨b, off + 2 * j, none⟩ = some (.int .i64 x0) ∧ w'.cell? ⟨b, off + 2 * j + 1, none⟩ = some (.int .i64 x1)) (by kernel_rfl) (by rintro ⟨a9, w9, h9⟩; exact h9) (noDefer_spec (by kernel_rfl)) (⟨t1, t2, e0, e1⟩) (fun hHeld => ?_)
            refine wpAnyH_take (i := 0) (v := ?_) (by simp only [List.getElem?_toArray, List.getElem?_cons_succ, List.getElem?_cons_zero]; rfl) (by kernel_rfl) (by kernel_rfl) (by kernel_rfl) (by intro _ _ _ h; exact h) (Or.inl ⟨by rfl, ?_⟩) (by assumption) ?_
            rotate_left
            · intro w hSw; (try dsimp only at hSw); go_simp; try with_reducible rfl
            try simp only [Act.put, List.setIfInBounds_toArray, List.set_cons_zero, List.set_cons_succ]
            refine wpAnyH_take (i := 1) (v := ?_) (by simp only [List.getElem?_toArray, List.getElem?_cons_succ, List.getElem?_cons_zero]; rfl) (by kernel_rfl) (by kernel_rfl) (by kernel_rfl) (by intro _ _ _ h; exact h) (Or.inl ⟨by rfl, ?_⟩) (by assumption) ?_
            rotate_left
            · intro w hSw; (try dsimp only at hSw); go_simp; try with_reducible rfl
            try simp only [Act.put, List.setIfInBounds_toArray, List.set_cons_zero, List.set_cons_succ]
            refine wpAnyH_take (i := 2) (v := ?_) (by simp only [List.getElem?_toArray, List.getElem?_cons_succ, List.getElem?_cons_zero]; rfl) (by kernel_rfl) (by kernel_rfl) (by kernel_rfl) (by intro _ _ _ h; exact h) (Or.inl ⟨by rfl, ?_⟩) (by assumption) ?_
            rotate_left
            · intro w hSw; (try dsimp only at hSw); go_simp; first | with_reducible rfl | rw [if_pos (by omega)]
            try simp only [Act.put, List.setIfInBounds_toArray, List.set_cons_zero, List.set_cons_succ]
            refine wpAnyH_take (i := 3) (v := ?_) (by simp only [List.getElem?_toArray, List.getElem?_cons_succ, List.getElem?_cons_zero]; rfl) (by kernel_rfl) (by kernel_rfl) (by kernel_rfl) (by intro _ _ _ h; exact h) (Or.inl ⟨by rfl, ?_⟩) (by assumption) ?_
            rotate_left
            · intro w hSw; (try dsimp only at hSw); go_simp; try with_reducible rfl
            try simp only [Act.put, List.setIfInBounds_toArray, List.set_cons_zero, List.set_cons_succ]
            refine wpAnyH_take (i := 4) (v := ?_) (by simp only [List.getElem?_toArray, List.getElem?_cons_succ, List.getElem?_cons_zero]; rfl) (by kernel_rfl) (by kernel_rfl) (by kernel_rfl) (by intro _ _ _ h; exact h) (Or.inl ⟨by rfl, ?_⟩) (by assumption) ?_
            rotate_left
            · intro w hSw; (try dsimp only at hSw); go_simp; try with_reducible rfl
            try simp only [Act.put, List.setIfInBounds_toArray, List.set_cons_zero, List.set_cons_succ]
            refine wpAnyH_ready (rs := [5]) (by kernel_rfl) (by simp) ?_
            refine AllReadyH.cons (o := _) (by simp only [List.getElem?_toArray, List.getElem?_cons_succ, List.getElem?_cons_zero]; rfl) (fun K hK => ?_) AllReadyH.nil
            go_simp
            go_at_call 46
            refine Calls.mono (CM3.out _) ?_
            rintro e w' ⟨rfl, rfl⟩
            go_simp
            refine hK.out _ _ (by exact hHeld) (fun hHeld => ?_)
            clear hK K
            try simp only [Act.put, List.setIfInBounds_toArray, List.set_cons_zero, List.set_cons_succ]
            refine wpAnyH_take (i := 6) (v := ?_) (by simp only [List.getElem?_toArray, List.getElem?_cons_succ, List.getElem?_cons_zero]; rfl) (by kernel_rfl) (by kernel_rfl) (by kernel_rfl) (by intro _ _ _ h; exact h) (Or.inl ⟨by rfl, ?_⟩) (by assumption) ?_
            rotate_left
            · intro w hSw; (try dsimp only at hSw); go_simp; rw [HA11.out]
            try simp only [Act.put, List.setIfInBounds_toArray, List.set_cons_zero, List.set_cons_succ]
            refine wpAnyH_take (i := 7) (v := ?_) (by simp only [List.getElem?_toArray, List.getElem?_cons_succ, List.getElem?_cons_zero]; rfl) (by kernel_rfl) (by kernel_rfl) (by kernel_rfl) (by intro _ _ _ h; exact h) (Or.inl ⟨by rfl, ?_⟩) (by assumption) ?_
            rotate_left
            · intro w hSw; (try dsimp only at hSw); go_simp; try with_reducible rfl
            try simp only [Act.put, List.setIfInBounds_toArray, List.set_cons_zero, List.set_cons_succ]
            refine wpAnyH_done (by kernel_rfl) ?_ _
            (try simp only [Exit.then])
            obtain ⟨g0, g1, g2, g3, g4, g5, g6, g7, g8⟩ := HCq.out
            gi_wp2_with (refine ⟨trivial, ?_⟩; gi_at_call 41; refine (CallsIn.inRound l (callsIn_wide.2 (CB.out W.drew.drew (tt + nn2) rfl (Below.refl _ _).drew.drew HNN.out))).mono ?_; rintro e w5 ⟨⟨sba, sbc, sbs, sia, sic, sis, soa, soc, sos⟩, rfl, hSd, hSn, hb5, hrx5, ⟨y0, y1, y2, y3, y4, y5, y6, y7, y8⟩, y9, y10, y11, y12, y13, y14, y15, y16, y17⟩; clear g0 g1 g2 g3 g4 g5 g6 g7 g8)
            have hg5 : w5.grownBy ((((((((((w5.setCell ⟨X, 0, none⟩ (.int .i64 aw)).setCell ⟨X, 1, none⟩ (.int .i64 ah)).setCell ⟨X, 2, none⟩ (.int .i64 at_)).setCell ⟨X, 3, none⟩ (.int .i64 pi)).setCell ⟨X, 4, none⟩ (.slice pa nb pc)).setCell ⟨X, 5, none⟩ (.slice qa no qc)).setCell ⟨X, 6, none⟩ (.slice sba sbs.length sbc)).setCell ⟨X, 7, none⟩ (.slice sia sis.length sic)).setCell ⟨X, 8, none⟩ (.slice soa sos.length soc))) (some X) := grown_put9 (World.grownBy.refl _ _)
            have hgX : W.grownBy ((((((((((w5.setCell ⟨X, 0, none⟩ (.int .i64 aw)).setCell ⟨X, 1, none⟩ (.int .i64 ah)).setCell ⟨X, 2, none⟩ (.int .i64 at_)).setCell ⟨X, 3, none⟩ (.int .i64 pi)).setCell ⟨X, 4, none⟩ (.slice pa nb pc)).setCell ⟨X, 5, none⟩ (.slice qa no qc)).setCell ⟨X, 6, none⟩ (.slice sba sbs.length sbc)).setCell ⟨X, 7, none⟩ (.slice sia sis.length sic)).setCell ⟨X, 8, none⟩ (.slice soa sos.length soc))) (some X) := grown_trans ⟨hb5.os, hb5.tape, hb5.output, hb5.size, fun i hi _ => hb5.block i hi⟩ hg5
            refine ⟨KeepsFrom.of_grownBy hgX (fun r e => by injection e with e; have := HX9.out; have := HX4.out; omega), KpX.grown hgX HX9.out.2, ⟨HKp.out.trans (KpX.grown hgX HX9.out.2), ⟨sba, sbc, sbs, sia, sic, sis, soa, soc, sos⟩, ?_, put9_row hrx5, ?_⟩, ?_⟩
            · rw [List.map_append]
              show _ = placeL A PP.data ds (PT 0) (pre.map (fun x => x.1) ++ [j])
              rw [placeL_snoc, ← HRd.out]
              exact hSd
            · exact (((HRn.out.below hb5).trans hSn (by have := HX9.out; have := HC.out.2.2.2.1.size; have := HX4.out; omega))).grownT hg5 hrx5
            · intro y hy
              rcases List.mem_append.1 hy with hy | hy
              · exact HHall.out y hy
              · rw [List.mem_singleton] at hy
                subst hy
                exact hj2
          · have d1 : decide (tt ≤ mm) = false := by simpa using hmt
            have d2 : decide (mm ≥ tt) = false := by simpa using hmt
            have HNN := Lib.hid (HNn.out (by omega))
            clear hmt
            obtain ⟨g0, g1, g2, g3, g4, g5, g6, g7, g8⟩ := HCq.out
            gi_wp2_with (refine ⟨trivial, ?_⟩; gi_at_call 41; refine (CallsIn.inRound l (callsIn_wide.2 (CB.out W.drew nn1 rfl (Below.refl _ _).drew HNN.out))).mono ?_; rintro e w5 ⟨⟨sba, sbc, sbs, sia, sic, sis, soa, soc, sos⟩, rfl, hSd, hSn, hb5, hrx5, ⟨y0, y1, y2, y3, y4, y5, y6, y7, y8⟩, y9, y10, y11, y12, y13, y14, y15, y16, y17⟩; clear g0 g1 g2 g3 g4 g5 g6 g7 g8)
            have hg5 : w5.grownBy ((((((((((w5.setCell ⟨X, 0, none⟩ (.int .i64 aw)).setCell ⟨X, 1, none⟩ (.int .i64 ah)).setCell ⟨X, 2, none⟩ (.int .i64 at_)).setCell ⟨X, 3, none⟩ (.int .i64 pi)).setCell ⟨X, 4, none⟩ (.slice pa nb pc)).setCell ⟨X, 5, none⟩ (.slice qa no qc)).setCell ⟨X, 6, none⟩ (.slice sba sbs.length sbc)).setCell ⟨X, 7, none⟩ (.slice sia sis.length sic)).setCell ⟨X, 8, none⟩ (.slice soa sos.length soc))) (some X) := grown_put9 (World.grownBy.refl _ _)
            have hgX : W.grownBy ((((((((((w5.setCell ⟨X, 0, none⟩ (.int .i64 aw)).setCell ⟨X, 1, none⟩ (.int .i64 ah)).setCell ⟨X, 2, none⟩ (.int .i64 at_)).setCell ⟨X, 3, none⟩ (.int .i64 pi)).setCell ⟨X, 4, none⟩ (.slice pa nb pc)).setCell ⟨X, 5, none⟩ (.slice qa no qc)).setCell ⟨X, 6, none⟩ (.slice sba sbs.length sbc)).setCell ⟨X, 7, none⟩ (.slice sia sis.length sic)).setCell ⟨X, 8, none⟩ (.slice soa sos.length soc))) (some X) := grown_trans ⟨hb5.os, hb5.tape, hb5.output, hb5.size, fun i hi _ => hb5.block i hi⟩ hg5
            refine ⟨KeepsFrom.of_grownBy hgX (fun r e => by injection e with e; have := HX9.out; have := HX4.out; omega), KpX.grown hgX HX9.out.2, ⟨HKp.out.trans (KpX.grown hgX HX9.out.2), ⟨sba, sbc, sbs, sia, sic, sis, soa, soc, sos⟩, ?_, put9_row hrx5, ?_⟩, ?_⟩
            · rw [List.map_append]
              show _ = placeL A PP.data ds (PT 0) (pre.map (fun x => x.1) ++ [j])
              rw [placeL_snoc, ← HRd.out]
              exact hSd
            · exact (((HRn.out.below hb5).trans hSn (by have := HX9.out; have := HC.out.2.2.2.1.size; have := HX4.out; omega))).grownT hg5 hrx5
            · intro y hy
              rcases List.mem_append.1 hy with hy | hy
              · exact HHall.out y hy
              · rw [List.mem_singleton] at hy
                subst hy
                exact hj2
      case done =>
        rintro D ys W hD hS ⟨hst, hall⟩ hK
        have hev : (n + 1) / 2 = n / 2 := by
          by_cases h0 : n = 0
          · omega
          · have hm : (n + 1) / 2 - 1 ∈ ys.map (fun x => x.1) := by rw [hS, List.mem_range]; omega
            obtain ⟨y, hy, hy2⟩ := List.mem_map.1 hm
            have := hall y hy
            omega
        rw [hS, HPT.out, hev] at hst
        obtain ⟨hkp, ⟨qba, qbc, qbs, qia, qic, qis, qoa, qoc, qos⟩, hRd, hRx, hRn⟩ := hst
        have hrB := HRB.out.of_block (hkp.block B1 HB9.out.1 HB9.out.2.1)
        have z0 : W.cell? ⟨B1, 0, none⟩ = some (.slice none 0 0) := hrB.cell (by omega)
        have f0 := hrB.frozen 0
        have z1 : W.cell? ⟨B1, 1, none⟩ = some (.slice none 0 0) := hrB.cell (by omega)
        have f1 := hrB.frozen 1
        have z2 : W.cell? ⟨B1, 2, none⟩ = some (.slice none 0 0) := hrB.cell (by omega)
        have f2 := hrB.frozen 2
        have x6 : W.cell? ⟨X, 6, none⟩ = some (.slice qba qbs.length qbc) := hRx.cell (by omega)
        have x7 : W.cell? ⟨X, 7, none⟩ = some (.slice qia qis.length qic) := hRx.cell (by omega)
        have x8 : W.cell? ⟨X, 8, none⟩ = some (.slice qoa qos.length qoc) := hRx.cell (by omega)
        have HKd := Lib.hid hK
        have HDs := Lib.hid hD
        have HRn := Lib.hid hRn
        have HRd := Lib.hid hRd
        have HrB := Lib.hid hrB
        have HKp := Lib.hid hkp
        clear hK hD hRn hRd hrB hkp hRx
        go_wp2_with fail
        have key : ∀ (R : Ending → World → Prop) (a : Act) (W' : World), a.tmps[6]?.getD undef = .pointer (some ⟨B1, 0, none⟩) → a.tmps[7]?.getD undef = .int .i64 0 → a.defers = [{ target := .collected D, args := #[] }] → W' = (((W.setCell ⟨B1, 0, none⟩ (.slice qba qbs.length qbc)).setCell ⟨B1, 1, none⟩ (.slice qia qis.length qic)).setCell ⟨B1, 2, none⟩ (.slice qoa qos.length qoc)) → R (.returned (.tuple #[.agg #[.slice qba qbs.length qbc, .slice qia qis.length qic, .slice qoa qos.length qoc], .int .i64 0])) (W'.putObj D (.deferred none)) → NP (bodyPostM Fence.wide 3 Try.prog Try.f22 R) .ret a W' := fun R a W' q1 q2 q3 q4 q5 => @placeM_end2 R a W B1 D _ (.slice qba qbs.length qbc) (.slice qia qis.length qic) (.slice qoa qos.length qoc) 0 W' HrB.out q1 q2 q3 HKd.out (by have := HDs.out; have := HB9.out; omega) q4 q5
        refine key _ _ _ ?e6q1 ?e8q1 ?edq1 ?eWq1 ?eRq1
        case e6q1 => rfl
        case e8q1 => rfl
        case edq1 => rfl
        case eWq1 => rfl
        have hg := grown_put3 (b := B1) (v0 := .slice qba qbs.length qbc) (v1 := .slice qia qis.length qic) (v2 := .slice qoa qos.length qoc) (World.grownBy.refl W (some B1))
        have hK2 := (hg.block D (Array.getElem?_eq_some_iff.1 HKd.out).1 (by intro e; injection e with e; have := HDs.out; have := HB9.out; omega)).trans HKd.out
        have hWb : Below w.heap.size w W := HW0w.out.trans ⟨HKp.out.os, HKp.out.tape, HKp.out.output, HKp.out.size, fun k hk => HKp.out.block k (by have := HB9.out; omega) (by have := HB9.out; omega)⟩
        have hNb := below_grown hWb hg (by have := HB9.out; omega) hWb.size
        have hRn2 := (HRn.out.grown hg HB9.out.2.2.2.1).kept (grownBy_putObj' _ D (.deferred none)) (fun r e => by cases e; exact ⟨_, hK2, rfl⟩)
        refine HOy.out (R := ⟨qba, qbc, qbs, qia, qic, qis, qoa, qoc, qos⟩) (by first | rfl | trivial) HRd.out (hRn2.weak (by have := HB9.out; omega)) ?_
        exact hNb.grown (grownBy_putObj' _ D (.deferred none)) hNb.size (fun k e => by cases e; have := HDs.out; have := HB9.out; omega)
      case stop =>
        rintro D c pre W hD hSp ⟨rfl, pre', x, rfl, hx, hst⟩ hK
        have hlen : x.1 = pre'.length ∧ pre'.map (fun x => x.1) = List.range pre'.length := by
          rw [List.map_append, List.length_append, List.length_singleton, List.range_succ] at hSp
          have h := List.append_inj hSp (by simp)
          exact ⟨by have := h.2; simpa using this, h.1⟩
        rw [hlen.2, HPT.out, show pre'.length = n / 2 by omega] at hst
        refine wpIn_wide.2 ?_
        obtain ⟨hkp, ⟨qba, qbc, qbs, qia, qic, qis, qoa, qoc, qos⟩, hRd, hRx, hRn⟩ := hst
        have hrB := HRB.out.of_block (hkp.block B1 HB9.out.1 HB9.out.2.1)
        have z0 : W.cell? ⟨B1, 0, none⟩ = some (.slice none 0 0) := hrB.cell (by omega)
        have f0 := hrB.frozen 0
        have z1 : W.cell? ⟨B1, 1, none⟩ = some (.slice none 0 0) := hrB.cell (by omega)
        have f1 := hrB.frozen 1
        have z2 : W.cell? ⟨B1, 2, none⟩ = some (.slice none 0 0) := hrB.cell (by omega)
        have f2 := hrB.frozen 2
        have x6 : W.cell? ⟨X, 6, none⟩ = some (.slice qba qbs.length qbc) := hRx.cell (by omega)
        have x7 : W.cell? ⟨X, 7, none⟩ = some (.slice qia qis.length qic) := hRx.cell (by omega)
        have x8 : W.cell? ⟨X, 8, none⟩ = some (.slice qoa qos.length qoc) := hRx.cell (by omega)
        have HKd := Lib.hid hK
        have HDs := Lib.hid hD
        have HRn := Lib.hid hRn
        have HRd := Lib.hid hRd
        have HrB := Lib.hid hrB
        have HKp := Lib.hid hkp
        clear hK hD hRn hRd hrB hkp hRx
        go_wp2_with fail
        have key : ∀ (R : Ending → World → Prop) (a : Act) (W' : World), a.tmps[6]?.getD undef = .pointer (some ⟨B1, 0, none⟩) → a.tmps[7]?.getD undef = .int .i64 0 → a.defers = [{ target := .collected D, args := #[] }] → W' = (((W.setCell ⟨B1, 0, none⟩ (.slice qba qbs.length qbc)).setCell ⟨B1, 1, none⟩ (.slice qia qis.length qic)).setCell ⟨B1, 2, none⟩ (.slice qoa qos.length qoc)) → R (.returned (.tuple #[.agg #[.slice qba qbs.length qbc, .slice qia qis.length qic, .slice qoa qos.length qoc], .int .i64 0])) (W'.putObj D (.deferred none)) → NP (bodyPostM Fence.wide 3 Try.prog Try.f22 R) .ret a W' := fun R a W' q1 q2 q3 q4 q5 => @placeM_end2 R a W B1 D _ (.slice qba qbs.length qbc) (.slice qia qis.length qic) (.slice qoa qos.length qoc) 0 W' HrB.out q1 q2 q3 HKd.out (by have := HDs.out; have := HB9.out; omega) q4 q5
        refine key _ _ _ ?e6q2 ?e8q2 ?edq2 ?eWq2 ?eRq2
        case e6q2 => rfl
        case e8q2 => rfl
        case edq2 => rfl
        case eWq2 => rfl
        have hg := grown_put3 (b := B1) (v0 := .slice qba qbs.length qbc) (v1 := .slice qia qis.length qic) (v2 := .slice qoa qos.length qoc) (World.grownBy.refl W (some B1))
        have hK2 := (hg.block D (Array.getElem?_eq_some_iff.1 HKd.out).1 (by intro e; injection e with e; have := HDs.out; have := HB9.out; omega)).trans HKd.out
        have hWb : Below w.heap.size w W := HW0w.out.trans ⟨HKp.out.os, HKp.out.tape, HKp.out.output, HKp.out.size, fun k hk => HKp.out.block k (by have := HB9.out; omega) (by have := HB9.out; omega)⟩
        have hNb := below_grown hWb hg (by have := HB9.out; omega) hWb.size
        have hRn2 := (HRn.out.grown hg HB9.out.2.2.2.1).kept (grownBy_putObj' _ D (.deferred none)) (fun r e => by cases e; exact ⟨_, hK2, rfl⟩)
        refine HOy.out (R := ⟨qba, qbc, qbs, qia, qic, qis, qoa, qoc, qos⟩) (by first | rfl | trivial) HRd.out (hRn2.weak (by have := HB9.out; omega)) ?_
        exact hNb.grown (grownBy_putObj' _ D (.deferred none)) hNb.size (fun k e => by cases e; have := HDs.out; have := HB9.out; omega)
  · have hEb : (er == 0) = false := by simpa using hE
    have hEb2 : (er != 0) = true := by simpa using hE
    have HE := Lib.hid hE
    clear hE
    obtain ⟨w3, hw3⟩ : ∃ W, W = w2.alloc (.cells #[.slice rba rbs.length rbc, .slice ria ris.length ric, .slice roa ros.length roc] 29) := ⟨_, rfl⟩
    have HB3 : Hid (Below w1.heap.size w1 w3) := Lib.hid (by rw [hw3]; exact HBx.out.trans ((Below.refl _ _).alloc (by have := HBx.out.size; omega) _))
    go_upto_if 23 with fail
    rw [← hw3]
    clear hw3
    have hr9 := HW3r.out w3 HB3.out
    have z0 : w3.cell? ⟨B1, 0, none⟩ = some (.slice none 0 0) := hr9.cell (by omega)
    have f0 := hr9.frozen 0
    have z1 : w3.cell? ⟨B1, 1, none⟩ = some (.slice none 0 0) := hr9.cell (by omega)
    have f1 := hr9.frozen 1
    have z2 : w3.cell? ⟨B1, 2, none⟩ = some (.slice none 0 0) := hr9.cell (by omega)
    have f2 := hr9.frozen 2
    have HR9 := Lib.hid hr9
    clear hr9
    go_wp2_with fail
    have key : ∀ (R : Ending → World → Prop) (a : Act) (W' : World), a.tmps[6]?.getD undef = .pointer (some ⟨B1, 0, none⟩) → a.tmps[7]?.getD undef = .int .i64 er → a.defers = [] → W' = (((w3.setCell ⟨B1, 0, none⟩ (.slice none 0 0)).setCell ⟨B1, 1, none⟩ (.slice none 0 0)).setCell ⟨B1, 2, none⟩ (.slice none 0 0)) → R (.returned (.tuple #[.agg #[.slice none 0 0, .slice none 0 0, .slice none 0 0], .int .i64 er])) W' → NP (bodyPostM Fence.wide 3 Try.prog Try.f22 R) .ret a W' := fun R a W' q1 q2 q3 q4 q5 => @placeM_end R a w3 B1 _ (.slice none 0 0) (.slice none 0 0) (.slice none 0 0) er W' HR9.out q1 q2 q3 q4 q5
    refine key _ _ _ ?n6 ?n8 ?nd ?nW ?nR
    case n6 => rfl
    case n8 => rfl
    case nd => rfl
    case nW => rfl
    have hg := grown_put3 (b := B1) (v0 := .slice none 0 0) (v1 := .slice none 0 0) (v2 := .slice none 0 0) (World.grownBy.refl w3 (some B1))
    exact HOn.out rfl HE.out (below_grown (HXW.out _ (HBw.out _ HB3.out)) hg (by have := HSz.out; omega) (HXW.out _ (HBw.out _ HB3.out)).size)
end Go.Proofs.Ytholafodachjnaa
