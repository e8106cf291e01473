import Derived.Test.YtkcilpkcjhnkaaaB2
import Derived.Test.YtkcilpkcjhnkaaaB1
import Derived.Laws.AppendOwnNone
import Derived.Lib.AppendZerosOnto
import Derived.Lib.SliceRun
/- T13 -/
namespace Go.Proofs.Ytkcilpkcjhnkaaa
open Go.RowKit
set_option linter.unusedVariables false

/-- A new list of numbers. -/
def NewList (w : World) (l : List Int) (e : Ending) (w' : World) : Prop :=
  ∃ v, e = .returned v ∧ w'.ownsRow w.heap.size 3 1 v l.length (l.map (Value.int .i64)) ∧ Below w.heap.size w w'

theorem one_cell (w : World) (x : Int) : ∀ j u, [Value.int .i64 x][j]? = some u → (w.alloc (Obj.cells #[Value.int .i64 x] 3)).cell? ((⟨w.heap.size, 0, none⟩ : Addr).add j) = some u := by
  intro j u hj
  match j, hj with
  | 0, hj => simp at hj; subst hj; simp [Addr.add]

theorem units (w : World) (N : NetV) (hf2 : N.luts.length ≤ 200) :
    Calls Try.prog 19 #[N.val] w (NewList w (List.replicate N.luts.length 1)) := by
  have HBX := Lib.hid (Box.start w N)
  obtain ⟨i0, hi, hz0, hz1, hz2⟩ := info_parts info3
  go_enter Try.func19, Try.ntmps19
  go_wp2
  go_loopw [3, 7] (fun v i wr => ∃ k : Nat, k ≤ N.luts.length ∧ i = .int .i64 k ∧ Hid (Box w.heap.size w N wr ∧ wr.ownsRow (w.heap.size + 1) 3 1 v k ((List.replicate k (1 : Int)).map (Value.int .i64)))) (fun _ i _ => N.luts.length - (intOf i).toNat)
  case atStart => exact ⟨0, by omega, rfl, HBX.out, World.ownsRow_nil _ _ _ _⟩
  case round =>
    obtain ⟨k, hk, rfl, hh⟩ := hrel
    have hsz := hh.out.1.size
    by_cases hlt : k < N.luts.length
    · go_wp2_with (at_builtin; refine wpList_append_own _ rfl (.tmp 9) (.tmp 10) 24 rfl (w.heap.size + 1) 3 i0 (.int .i64 0) 1 8 Try.underlying24 hi hz0 hz1 hz2 rfl (by decide) _ _ _ rfl (hh.out.2.alloc _) ⟨wr.heap.size, 0, none⟩ 1 1 [.int .i64 1] rfl rfl (one_cell _ _) (by simp [Value.oneCell']) (by unfold maxLen; omega) (by omega) (by simp; omega) ?_)
      intro v' w1 hown' hgrow _
      have hb : Below (w.heap.size + 1) wr w1 := ((Below.refl _ _).alloc hsz _).grown hgrow (by simp; omega) (fun j e => (hh.out.2.lt j e).1)
      have HB := Lib.hid (hh.out.1.step hb (Nat.le_refl _))
      have HO := Lib.hid hown'
      clear hown' hgrow hb
      go_wp2
      go_roundw
      case rel => exact ⟨k + 1, by omega, by go_num, HB.out, by have := HO.out; rw [List.replicate_succ']; simpa using this⟩
      case measure => simp [intOf]; omega
    · obtain rfl : k = N.luts.length := by omega
      go_wp2
      go_ret
      exact ⟨_, rfl, by simpa using hh.out.2.base_le (Nat.le_succ _), hh.out.1.below⟩

theorem picked (w : World) (a0 a1 : Option Addr) (n0 c0 n1 c1 : Nat) (P K : List Int) (e0 : P.length = n0) (e1 : K.length = n1) (b0 : n0 ≤ 100000) (b1 : n1 ≤ 1000)
    (h0 : Seq w a0 n0 (ints P)) (h1 : Seq w a1 n1 (ints K)) (hr : ∀ k ∈ K, 0 ≤ k ∧ k < n0) :
    Calls Try.prog 37 #[.slice a0 n0 c0, .slice a1 n1 c1] w (NewList w (K.map fun k => P.getD k.toNat 0)) := by
  have H0 := Lib.hid h0
  have H1 := Lib.hid h1
  have E1 := Lib.hid e1
  have HR := Lib.hid hr
  clear h0 h1 e0 e1 hr
  obtain ⟨i0, hi, hz0, hz1, hz2⟩ := info_parts info3
  go_enter Try.func37, Try.ntmps37
  go_wp2
  go_loopw [5, 10] (fun v i wr => ∃ k : Nat, k ≤ n1 ∧ i = .int .i64 k ∧ Hid (Below w.heap.size w wr ∧ wr.ownsRow w.heap.size 3 1 v k (((K.take k).map fun k => P.getD k.toNat 0).map (Value.int .i64)))) (fun _ i _ => n1 - (intOf i).toNat)
  case atStart => exact ⟨0, by omega, rfl, Below.refl _ _, World.ownsRow_nil _ _ _ _⟩
  case round =>
    obtain ⟨k, hk, rfl, hh⟩ := hrel
    have hsz := hh.out.1.size
    by_cases hlt : k < n1
    · obtain ⟨b1, o1, rfl, hb1, hc1⟩ := H1.out.at k hlt
      have g1 : wr.cell? ⟨b1, o1 + k, none⟩ = some (.int .i64 (K.getD k 0)) := (hh.out.1.cell (p := ⟨b1, o1 + k, none⟩) hb1).trans (hc1 k hlt)
      have hx := HR.out _ (getD_mem K 0 (by rw [E1.out]; exact hlt))
      obtain ⟨x, hxe⟩ : ∃ x, x = K.getD k 0 := ⟨_, rfl⟩
      rw [← hxe] at g1 hx
      obtain ⟨xn, rfl⟩ := Int.eq_ofNat_of_zero_le hx.1
      have hxn : xn < n0 := by omega
      have hxi : (xn : Int) < n0 := by omega
      obtain ⟨b0, o0, rfl, hb0, hc0⟩ := H0.out.at xn hxn
      have g0 : wr.cell? ⟨b0, o0 + xn, none⟩ = some (.int .i64 (P.getD xn 0)) := (hh.out.1.cell (p := ⟨b0, o0 + xn, none⟩) hb0).trans (hc0 xn hxn)
      obtain ⟨y, hy⟩ : ∃ y, y = P.getD xn 0 := ⟨_, rfl⟩
      rw [← hy] at g0
      have HX := Lib.hid hxe
      have HY := Lib.hid hy
      clear hc0 hc1 hxe hy hx
      go_wp2_with (at_builtin; refine wpList_append_own _ rfl (.tmp 14) (.tmp 19) 24 rfl w.heap.size 3 i0 (.int .i64 0) 1 8 Try.underlying24 hi hz0 hz1 hz2 rfl (by decide) _ _ _ rfl (hh.out.2.alloc _) ⟨wr.heap.size, 0, none⟩ 1 1 [.int .i64 y] rfl rfl (one_cell _ _) (by simp [Value.oneCell']) (by unfold maxLen; omega) (by omega) (by simp; omega) ?_)
      intro v' w1 hown' hgrow _
      have HB := Lib.hid (hh.out.1.trans (((Below.refl _ _).alloc hsz _).grown hgrow (by simp; omega) (fun j e => (hh.out.2.lt j e).1)))
      have HO := Lib.hid hown'
      clear hown' hgrow
      go_wp2
      go_roundw
      case rel =>
        refine ⟨k + 1, by omega, by go_num, HB.out, ?_⟩
        have h := HO.out
        have hkl : k < K.length := by rw [E1.out]; exact hlt
        rw [List.take_succ_eq_append_getElem hkl, List.map_append, List.map_append]
        have he : K[k] = (xn : Int) := by rw [HX.out]; simp [List.getD, List.getElem?_eq_getElem hkl]
        rw [he]
        simp only [List.map_cons, List.map_nil, Int.toNat_natCast, ← HY.out]
        simpa using h
      case measure => simp [intOf]; omega
    · obtain rfl : k = n1 := by omega
      go_wp2
      go_ret
      refine ⟨_, rfl, ?_, hh.out.1⟩
      have h := hh.out.2
      rw [List.take_of_length_le (by rw [E1.out]; exact Nat.le_refl _)] at h
      simpa [E1.out] using h

/-- slices.Max of a list that is not empty. -/
theorem maxOf (w : World) (a : Option Addr) (n c : Nat) (l : List Int) (e : l.length = n) (hn : 0 < n) (hb : n ≤ 100000) (h : Seq w a n (ints l)) :
    Calls Try.prog 36 #[.slice a n c] w fun e w' => e = .returned (.int .i64 (l.foldl max (l.getD 0 0))) ∧ w = w' := by
  have E := Lib.hid e
  obtain ⟨b, off, rfl, hbb, hc⟩ := h.at 0 hn
  have g0 : w.cell? ⟨b, off, none⟩ = some (.int .i64 (l.getD 0 0)) := hc 0 hn
  have HC := Lib.hid hc
  obtain ⟨x0, hx0⟩ : ∃ x, x = l.getD 0 0 := ⟨_, rfl⟩
  rw [← hx0] at g0 ⊢
  have HX0 := Lib.hid hx0
  have M2 := @run_max2 Try.prog
  have hn1 : (0 : Int) < n := by omega
  clear h hc e hx0
  go_enter Try.func36, Try.ntmps36
  go_wp2
  go_loop [3, 4] (fun m i => ∃ k : Nat, 1 ≤ k ∧ k ≤ n ∧ i = .int .i64 k ∧ m = .int .i64 ((l.take k).foldl max x0)) (fun _ i => n - (intOf i).toNat)
  case atStart =>
    refine ⟨1, by omega, by omega, rfl, ?_⟩
    have h0 : l.take 1 = [x0] := by
      rw [HX0.out]
      match l, E.out with
      | y :: l', _ => simp
      | [], h => simp at h; omega
    rw [h0]; simp
  case round =>
    obtain ⟨k, hk1, hk, rfl, rfl⟩ := hrel
    by_cases hlt : k < n
    · have g1 := HC.out k hlt
      unfold ints at g1
      have hkl : k < l.length := by rw [E.out]; exact hlt
      have ht : (l.take (k + 1)).foldl max x0 = max ((l.take k).foldl max x0) (l.getD k 0) := by
        rw [List.take_succ_eq_append_getElem hkl, List.foldl_append]; simp [List.getD, List.getElem?_eq_getElem hkl]
      obtain ⟨y, hy⟩ : ∃ y, y = l.getD k 0 := ⟨_, rfl⟩
      rw [← hy] at g1 ht
      have HT := Lib.hid ht
      clear ht hy
      go_wp2
      go_round
      case rel => exact ⟨k + 1, by omega, by omega, by go_num, by rw [HT.out]⟩
      case measure => simp [intOf]; omega
    · obtain rfl : k = n := by omega
      go_wp2
      go_ret
      exact ⟨ret_int (by rw [List.take_of_length_le (by rw [E.out]; exact Nat.le_refl _)]), rfl⟩
end Go.Proofs.Ytkcilpkcjhnkaaa

/- T14 -/
namespace Go.Proofs.Ytkcilpkcjhnkaaa
open Go.RowKit
set_option linter.unusedVariables false

theorem max_picked (P K : List Int) (h : ∀ x ∈ P, 0 ≤ x) : (((K.map fun (k : Int) => P.getD k.toNat 0) ++ [0]).foldl max (((K.map fun (k : Int) => P.getD k.toNat 0) ++ [0]).getD 0 0)) = mostOf P K := by
  have key : ∀ (K : List Int) (m : Int), (K.map fun k => P.getD k.toNat 0).foldl max m = K.foldl (fun m k => max m (P.getD k.toNat 0)) m := by
    intro K
    induction K with
    | nil => intro m; rfl
    | cons k K ih => intro m; simp only [List.map_cons, List.foldl_cons]; exact ih _
  have hpos : ∀ k : Int, 0 ≤ P.getD k.toNat 0 := by
    intro k
    by_cases hk : k.toNat < P.length
    · exact h _ (getD_mem _ _ hk)
    · simp [List.getD, List.getElem?_eq_none (Nat.le_of_not_lt hk)]
  have mono : ∀ (K : List Int) (m : Int), max (K.foldl (fun m k => max m (P.getD k.toNat 0)) m) 0 = K.foldl (fun m k => max m (P.getD k.toNat 0)) (max m 0) := by
    intro K
    induction K with
    | nil => intro m; rfl
    | cons k K ih =>
      intro m
      simp only [List.foldl_cons]
      rw [ih]
      congr 1
      omega
  rw [List.foldl_append, key]
  simp only [List.foldl_cons, List.foldl_nil]
  rw [mono]
  unfold mostOf
  cases K with
  | nil => rfl
  | cons k K =>
    have := hpos k
    have e : ((List.map (fun (k : Int) => P.getD k.toNat 0) (k :: K)) ++ [0]).getD 0 0 = P.getD k.toNat 0 := by simp
    rw [e]
    simp only [List.foldl_cons]
    congr 1
    omega

theorem getD_ones (n i : Nat) (h : i < n) : (List.replicate n (1 : Int)).getD i 0 = 1 := by simp [List.getD, h]

theorem costOk_ones (N : NetV) : CostOk N (List.replicate N.luts.length 1) ↔ NetOk N 6 :=
  ⟨fun h => h.net, fun h => ⟨h, by simp, fun c hc => by rw [List.eq_of_mem_replicate hc]; omega⟩⟩

/-- How deep the nodes are, or why it is not told. -/
noncomputable def levO (N : NetV) : List Int := arrO N (List.replicate N.luts.length 1)
noncomputable def levE (N : NetV) : Int := arrE N (List.replicate N.luts.length 1)

set_option maxHeartbeats 1000000 in
theorem levels (w : World) (N : NetV) (h : NetAt w N) (f : Few N) :
    Calls Try.prog 20 #[N.val] w (NewInts w (levO N) (levE N)) := by
  have HBX := Lib.hid (Box.start w N)
  have C := check (w.alloc N.obj) N (h.below HBX.out.below (Nat.le_refl _)) f 6 (by omega)
  rcases chk_cases N 6 with ⟨hc, ok⟩ | ⟨hc, ok⟩
  · rw [hc] at C
    have hcok := (costOk_ones N).2 ok
    rw [levO, levE, arrO, arrE, if_pos hcok, if_pos hcok]
    have hf0 := f.ins
    have hf1 := f.holds
    have hf2 := f.luts
    have hi0 := ok.ins0
    have hfl : firstN N ≤ 201 := by unfold firstN; omega
    have hfl0 : 0 < firstN N := by unfold firstN; omega
    have hfe := firstN_eq hi0
    obtain ⟨F0, hF0⟩ : ∃ F0, F0 = firstN N := ⟨_, rfl⟩
    rw [← hF0] at hfl hfl0 hfe
    have HFE := Lib.hid hfe
    have HF0 := Lib.hid hF0
    have HC := Lib.hid C
    have H := Lib.hid h
    have F := Lib.hid f
    have HOk := Lib.hid ok
    have HCk := Lib.hid hcok
    clear hc C h f ok hF0 hcok hfe
    obtain ⟨i0, hi, hz0, hz1, hz2⟩ := info_parts info3
    obtain ⟨ins, ha, hc, holds, la, lc, luts, oa, oc, outs⟩ := N
    dsimp only at hf0 hf1 hf2 hi0 HFE ⊢
    go_enter Try.func20, Try.ntmps20
    go_wp2_with fail
    refine HC.out.mono ?_
    rintro e w1 ⟨rfl, hb1⟩
    have hbx := HBX.out.step hb1 (by simp)
    have HBx := Lib.hid hbx
    have c0 := hbx.c0
    have c1 := hbx.c1
    have c2 := hbx.c2
    have hs1 := hbx.size
    dsimp only at c0 c1 c2
    clear hbx hb1
    go_wp2_with (at_make; rw [show (1 + ins + (holds.length : Int)) = ((F0 : Nat) : Int) from HFE.out.symm]; refine wpList_make_full _ rfl (.tmp 19) (.tmp 19) 24 rfl (w.heap.size + 1) 3 i0 (.int .i64 0) 1 Try.underlying24 hi hz0 hz1 .i64 .i64 _ _ _ rfl rfl rfl rfl (by rw [hz2]; omega) (by unfold maxLen; omega) (by omega) ?_)
    intro w3 hown hgrow
    have HBx3 := Lib.hid (HBx.out.step (C := w.heap.size + 1) ((Below.refl _ _).grown hgrow hs1 (fun k e => by cases e)) (Nat.le_refl _))
    have e2 := HBx3.out.c2
    dsimp only at e2
    have hs3 := HBx3.out.size
    have HOwn := Lib.hid hown
    clear hown hgrow c0 c1 c2 hs1
    go_wp2
    go_loopw [5, 24] (fun v i wr => ∃ j : Nat, j ≤ luts.length ∧ i = .int .i64 j ∧ Hid (Box w.heap.size w ⟨ins, ha, hc, holds, la, lc, luts, oa, oc, outs⟩ wr ∧ wr.ownsRow (w.heap.size + 1) 3 1 v (F0 + j) ((arrTo ⟨ins, ha, hc, holds, la, lc, luts, oa, oc, outs⟩ (List.replicate luts.length 1) j).map (Value.int .i64)))) (fun _ i _ => luts.length - (intOf i).toNat)
    case atStart =>
      refine ⟨0, by omega, rfl, HBx3.out, ?_⟩
      have := HOwn.out
      rw [Nat.add_zero]
      simpa [arrTo, toList_madeCells_one, ← HF0.out] using this
    case round =>
      obtain ⟨j, hj, rfl, hh⟩ := hrel
      by_cases hlt : j < luts.length
      · obtain ⟨b, off, rfl, hbb, d0, d1⟩ := (H.out.below hh.out.1.below (Nat.le_refl _)).lut j hlt
        have hU := (H.out.lutAt j hlt).1
        have hrng := (HOk.out.lut j hlt).ins
        have h20 := F.out.lut _ (getD_mem luts default hlt)
        obtain ⟨L, hLe⟩ : ∃ L, L = luts.getD j default := ⟨_, rfl⟩
        dsimp only at d0 d1 hU hrng
        rw [← hLe] at d0 d1 hU hrng h20
        have HL := Lib.hid hLe
        clear hLe
        obtain ⟨P, hP⟩ : ∃ P, P = arrTo ⟨ins, ha, hc, holds, some ⟨b, off, none⟩, lc, luts, oa, oc, outs⟩ (List.replicate luts.length 1) j := ⟨_, rfl⟩
        have hPl : P.length = F0 + j := by rw [hP, arrTo_length, ← HF0.out]
        have hown := hh.out.2
        rw [← hP] at hown
        have hPb := arrTo_bound ⟨ins, ha, hc, holds, some ⟨b, off, none⟩, lc, luts, oa, oc, outs⟩ (List.replicate luts.length 1) HCk.out.each j
        rw [← hP] at hPb
        have hsw := hh.out.1.size
        have hbx := hh.out.1.below
        have HPb := Lib.hid hPb
        have HP := Lib.hid hP
        have HPl := Lib.hid hPl
        have HRng := Lib.hid hrng
        have HU := Lib.hid hU
        have HOwn2 := Lib.hid hown
        have HBw := Lib.hid hbx
        clear hP hPb hPl hU hrng hown hbx
        obtain ⟨va, vc, hv, hVS, _, _⟩ := owns_seq HOwn2.out
        subst hv
        obtain ⟨La, Lc, Li, Lt⟩ := L
        dsimp only at d0 d1 h20
        have hm := mostOf_le P Li (1048576 * j) (by omega) (fun x hx => (HPb.out x hx).2)
        have hm0 := mostOf_nonneg P Li
        have HVS := Lib.hid hVS
        clear hVS
        go_wp2_with fail
        obtain ⟨W2, hW2⟩ : ∃ W2, W2 = wr.alloc (Obj.cells #[Value.slice La Li.length Lc, Value.int IntKind.u64 Lt] 48) := ⟨_, rfl⟩
        have hb2 : Below wr.heap.size wr W2 := by rw [hW2]; exact (Below.refl _ _).alloc (Nat.le_refl _) _
        rw [← hW2]
        clear hW2
        have hpk := picked W2 va La (F0 + j) vc Li.length Lc P Li HPl.out rfl (by omega) (by omega) (HVS.out.below hb2 (Nat.le_refl _)) ((HU.out.below HBw.out (Nat.le_refl _)).below hb2 (Nat.le_refl _))
          (fun k hk => by have := HRng.out k hk; have := HFE.out; omega)
        refine hpk.mono ?_
        rintro e w4 ⟨v4, rfl, hown4, hb4⟩
        have hb24 : Below wr.heap.size wr w4 := hb2.trans (hb4.mono hb2.size)
        have hs2 := hb2.size
        have hs4 := hb4.size
        have HB24 := Lib.hid hb24
        have hown4' := Lib.hid (hown4.alloc (.cells #[.int .i64 0] 3))
        clear hpk hb4 hb24 hown4 hb2
        go_wp2_with (at_builtin; refine wpList_append_own _ rfl (.tmp 32) (.tmp 33) 24 rfl W2.heap.size 3 i0 (.int .i64 0) 1 8 Try.underlying24 hi hz0 hz1 hz2 rfl (by decide) _ _ _ rfl hown4'.out ⟨w4.heap.size, 0, none⟩ 1 1 [.int .i64 0] rfl rfl (one_cell _ _) (by simp [Value.oneCell']) (by unfold maxLen; simp; omega) (by simp; omega) (by simp; omega) ?_)
        intro v5 w5 hown5 hgrow5 _
        have hown5' : w5.ownsRow W2.heap.size 3 1 v5 (Li.length + 1) (((Li.map fun (k : Int) => P.getD k.toNat 0) ++ [0]).map (Value.int .i64)) := by simpa using hown5
        have hb45 : Below W2.heap.size w4 w5 := ((Below.refl _ _).alloc hs4 _).grown hgrow5 (by simp; omega) (fun k e => (hown4'.out.lt k e).1)
        have hb5 : Below wr.heap.size wr w5 := HB24.out.trans (hb45.mono hs2)
        obtain ⟨a5, c5, hv5, hS5, _, _⟩ := owns_seq hown5'
        subst hv5
        have HB5 := Lib.hid hb5
        have hs5 := hb45.size
        have HS5 := Lib.hid hS5
        have HMx := Lib.hid (max_picked P Li (fun x hx => (HPb.out x hx).1))
        clear hown5 hown5' hgrow5 hb45 hb5 hS5
        go_wp2_with fail
        refine (maxOf w5 a5 (Li.length + 1) c5 _ (by simp) (by omega) (by omega) HS5.out).mono ?_
        rw [HMx.out]
        rintro e w6 ⟨rfl, rfl⟩
        have hcx : IntKind.i64.wrap (1 + mostOf P Li) = 1 + mostOf P Li := IntWalk.i64_in _ (by omega)
        have HOwn6 := Lib.hid ((own_below HOwn2.out HB5.out).alloc (.cells #[.int .i64 (1 + mostOf P Li)] 3))
        have hs6 := HB5.out.size
        go_wp2_with (at_builtin; refine wpList_append_own _ rfl (.tmp 28) (.tmp 37) 24 rfl (w.heap.size + 1) 3 i0 (.int .i64 0) 1 8 Try.underlying24 hi hz0 hz1 hz2 rfl (by decide) _ _ _ rfl HOwn6.out ⟨w5.heap.size, 0, none⟩ 1 1 [.int .i64 (1 + mostOf P Li)] rfl rfl (one_cell _ _) (by simp [Value.oneCell']) (by unfold maxLen; omega) (by omega) (by simp; omega) ?_)
        intro v7 w7 hown7 hgrow7 _
        have hb7 : Below (w.heap.size + 1) wr w7 := (HB5.out.mono hsw).trans (((Below.refl _ _).alloc (by omega) _).grown hgrow7 (by simp; omega) (fun k e => (HOwn6.out.lt k e).1))
        have HBx7 := Lib.hid (hh.out.1.step hb7 (Nat.le_refl _))
        have HO7 := Lib.hid hown7
        clear hown7 hgrow7 hb7
        go_wp2
        go_roundw
        case rel =>
          refine ⟨j + 1, by omega, by go_num, HBx7.out, ?_⟩
          have h := HO7.out
          rw [show arrTo ⟨ins, ha, hc, holds, some ⟨b, off, none⟩, lc, luts, oa, oc, outs⟩ (List.replicate luts.length 1) (j + 1) = P ++ [1 + mostOf P Li] by
            simp only [arrTo]; rw [← HP.out, ← HL.out, getD_ones _ _ hlt]]
          simpa [Nat.add_assoc] using h
        case measure => simp [intOf]; omega
      · obtain rfl : j = luts.length := by omega
        go_wp2
        go_ret2
        refine ⟨_, rfl, ?_, hh.out.1.below⟩
        have h1 := hh.out.2
        have h2 : (arrTo ⟨ins, ha, hc, holds, la, lc, luts, oa, oc, outs⟩ (List.replicate luts.length 1) luts.length).length = F0 + luts.length := by rw [arrTo_length, ← HF0.out]
        show World.ownsRow _ _ _ _ _ (arrTo ⟨ins, ha, hc, holds, la, lc, luts, oa, oc, outs⟩ (List.replicate luts.length 1) luts.length).length _
        rw [h2]
        exact h1.base_le (Nat.le_succ _)
  · rw [hc] at C
    have hcok := fun h => ok ((costOk_ones N).1 h)
    rw [levO, levE, arrO, arrE, if_neg hcok, if_neg hcok]
    have HC := Lib.hid C
    clear C hc hcok ok h f
    go_enter Try.func20, Try.ntmps20
    go_wp2_with fail
    refine HC.out.mono ?_
    rintro e w1 ⟨rfl, hb1⟩
    have HBx := Lib.hid (HBX.out.step hb1 (by simp))
    clear hb1
    go_wp2
    go_ret2
    exact ⟨_, rfl, World.ownsRow_nil _ _ _ _, HBx.out.below⟩
end Go.Proofs.Ytkcilpkcjhnkaaa

/- L3 -/
namespace Go.Proofs.Ytkcilpkcjhnkaaa
open Go.RowKit
set_option linter.unusedVariables false

theorem levE_cases (N : NetV) : levE N = 0 ∨ (levE N = 1 ∧ levO N = []) := by
  unfold levE levO arrE arrO
  split
  · exact .inl rfl
  · exact .inr ⟨rfl, rfl⟩

set_option maxHeartbeats 2000000 in
theorem delayDeep (w : World) (N : NetV) (h : NetAt w N) :
    Calls Try.prog 5 #[N.val] w fun e w' => e = .returned (.bool true) ∧ Below w.heap.size w w' := by
  have HBX := Lib.hid (Box.start w N)
  have H := Lib.hid h
  clear h
  obtain ⟨fb, hfb⟩ : ∃ b, b = fewB N := ⟨_, rfl⟩
  have HF := Lib.hid hfb
  clear hfb
  go_enter Try.func5, Try.ntmps5
  go_wp2_with fail
  refine (live _).mono ?_
  rintro e w1 ⟨rfl, hb1⟩
  have hbx := HBX.out.step hb1 (by simp)
  have HBx := Lib.hid hbx
  have c0 := hbx.c0
  have c1 := hbx.c1
  have c2 := hbx.c2
  have c3 := hbx.c3
  clear hbx hb1
  go_wp2_with fail
  have hC := fewNet w1 N (H.out.below HBx.out.below (Nat.le_refl _))
  rw [← HF.out] at hC
  refine hC.mono ?_
  rintro e w2 ⟨rfl, hb2⟩
  have hbx := HBx.out.step hb2 HBx.out.size
  have HBx2 := Lib.hid hbx
  have d0 := hbx.c0
  have d1 := hbx.c1
  have d2 := hbx.c2
  have d3 := hbx.c3
  have hs2 := hbx.size
  clear hbx hb2 c0 c1 c2 c3 hC
  cases fb
  · go_wp2
    go_ret
    exact ⟨ret_bool (by simp), HBx2.out.below⟩
  · have F := few_of N HF.out.symm
    have hAl := arrO_length N (List.replicate N.luts.length 1) F
    have hl2 := F.luts
    have hEc := levE_cases N
    obtain ⟨A, hA⟩ : ∃ A, A = levO N := ⟨_, rfl⟩
    obtain ⟨E, hE⟩ : ∃ E, E = levE N := ⟨_, rfl⟩
    rw [show arrO N (List.replicate N.luts.length 1) = A from hA.symm] at hAl
    rw [← hA, ← hE] at hEc
    have HFw := Lib.hid F
    have HA := Lib.hid hA
    have HE := Lib.hid hE
    have HEc := Lib.hid hEc
    clear F hA hE hEc
    go_wp2_with fail
    go_region_held3 (fun w' => w'.cell? ⟨w.heap.size, 0, none⟩ = some (.int .i64 N.ins) ∧ w'.cell? ⟨w.heap.size, 1, none⟩ = some (Value.slice N.ha N.holds.length N.hc) ∧ w'.cell? ⟨w.heap.size, 2, none⟩ = some (Value.slice N.la N.luts.length N.lc) ∧ w'.cell? ⟨w.heap.size, 3, none⟩ = some (Value.slice N.oa N.outs.length N.oc))
      (first | exact ⟨d0, d1, d2, d3⟩ | exact ⟨(hk4 _).trans d0, (hk4 _).trans d1, (hk4 _).trans d2, (hk4 _).trans d3⟩ | exact ⟨(hk3 _).trans d0, (hk3 _).trans d1, (hk3 _).trans d2, (hk3 _).trans d3⟩)
      (first | (go_at_call 19; refine (units _ N hl2).mono ?_; rintro e w3 ⟨v3, rfl, hown3, hb3⟩; obtain ⟨ua, uc, rfl, hU, _, _⟩ := owns_seq hown3; rw [List.length_replicate] at hU ⊢; have hs3 : w2.heap.size ≤ w3.heap.size := hb3.size; have hk3 : ∀ i, w3.cell? ⟨w.heap.size, i, none⟩ = w2.cell? ⟨w.heap.size, i, none⟩ := (fun i => hb3.cell (p := ⟨w.heap.size, i, none⟩) (by show w.heap.size < w2.heap.size; omega)); have hbx3 := HBx2.out.step (C := w2.heap.size) ((Below.refl _ _).drew.trans hb3) hs2)
             | (go_at_call 15; refine (arrive _ N (H.out.below hbx3.below (Nat.le_refl _)) HFw.out ua N.luts.length uc (List.replicate N.luts.length 1) (List.length_replicate ..) (by omega) hU).mono ?_; rintro e w4 ⟨v4, rfl, hown4, hb4⟩; obtain ⟨va, vc, rfl, hV, _, _⟩ := owns_seq hown4; have hk4 : ∀ i, w4.cell? ⟨w.heap.size, i, none⟩ = w2.cell? ⟨w.heap.size, i, none⟩ := (fun i => (hb4.cell (p := ⟨w.heap.size, i, none⟩) (by show w.heap.size < w3.heap.size; omega)).trans (hk3 i))))
    have HBx4 := Lib.hid (hbx3.step hb4 hbx3.size)
    rw [show arrO N (List.replicate N.luts.length 1) = A from HA.out.symm, show arrE N (List.replicate N.luts.length 1) = E from HE.out.symm] at *
    have HV := Lib.hid hV
    clear hb3 hb4 hown3 hown4 hU hV hk3 hbx3
    have f0 := HBx4.out.c0
    have f1 := HBx4.out.c1
    have f2 := HBx4.out.c2
    have f3 := HBx4.out.c3
    clear d0 d1 d2 d3 hk4
    go_wp2_with fail
    have hC := levels w4 N (H.out.below HBx4.out.below (Nat.le_refl _)) HFw.out
    rw [← HA.out, ← HE.out] at hC
    refine hC.mono ?_
    rintro e w5 ⟨v5, rfl, hown5, hb5⟩
    obtain ⟨ta, tc, rfl, hT, _, _⟩ := owns_seq hown5
    have HBx5 := Lib.hid (HBx4.out.step hb5 HBx4.out.size)
    have HV5 := Lib.hid (HV.out.below hb5 (Nat.le_refl _))
    have HT := Lib.hid hT
    clear hC hown5 hb5 hT f0 f1 f2 f3
    rcases HEc.out with hE0 | ⟨hE1, hA0⟩
    · subst hE0
      go_wp2_with fail
      have hC := sameInts w5 va ta A.length vc A.length tc A A rfl rfl (by omega) (by omega) HV5.out HT.out
      rw [decide_eq_true (rfl : A = A)] at hC
      refine hC.mono ?_
      rintro e w6 ⟨rfl, hb6⟩
      have HB6 := Lib.hid (HBx5.out.below.trans (hb6.mono (by have := HBx5.out.size; omega)))
      clear hb6 hC
      go_wp2
      go_ret
      exact ⟨ret_bool (by simp), HB6.out⟩
    · subst hE1
      subst hA0
      simp only [List.length_nil]
      go_wp2
      go_ret
      exact ⟨ret_bool (by simp), HBx5.out.below⟩
end Go.Proofs.Ytkcilpkcjhnkaaa

/- T15 -/
namespace Go.Proofs.Ytkcilpkcjhnkaaa
open Go.RowKit

/-- SameBools, whatever the two lists. -/
theorem sameBools (w : World) (a0 a1 : Option Addr) (n0 c0 n1 c1 : Nat) (l0 l1 : List Bool) (e0 : l0.length = n0) (e1 : l1.length = n1) (b0 : n0 ≤ 9223372036854775807) (b1 : n1 ≤ 9223372036854775807)
    (h0 : Seq w a0 n0 (bools l0)) (h1 : Seq w a1 n1 (bools l1)) :
    Calls Try.prog 25 #[.slice a0 n0 c0, .slice a1 n1 c1] w fun e w' => e = .returned (.bool (decide (l0 = l1))) ∧ Below w.heap.size w w' := by
  have H0 := Lib.hid h0
  have H1 := Lib.hid h1
  have E0 := Lib.hid e0
  have E1 := Lib.hid e1
  clear h0 h1 e0 e1
  by_cases hn : n0 = n1
  · subst hn
    go_enter Try.func25, Try.ntmps25
    go_wp2
    go_loopw [13] (fun i wr => ∃ k : Nat, k ≤ n0 ∧ i = .int .i64 k ∧ Hid ((∀ j, j < k → l0.getD j false = l1.getD j false) ∧ ∃ nq, wr = w.drewN nq)) (fun i _ => n0 - (intOf i).toNat)
    case atStart => exact ⟨0, by omega, rfl, ⟨fun j hj => by omega, 0, rfl⟩⟩
    case round =>
      obtain ⟨k, hk, rfl, hh⟩ := hrel
      obtain ⟨ht, nq, rfl⟩ := hh
      have Ht := Lib.hid ht
      clear ht
      by_cases hlt : k < n0
      · obtain ⟨b, off, rfl, _, hc0⟩ := H0.out.at k hlt
        obtain ⟨b', off', rfl, _, hc1⟩ := H1.out.at k hlt
        have d0 := hc0 k hlt
        have d1 := hc1 k hlt
        clear hc0 hc1
        unfold bools at d0 d1
        obtain ⟨x, hx⟩ : ∃ x, x = l0.getD k false := ⟨_, rfl⟩
        obtain ⟨y, hy⟩ : ∃ y, y = l1.getD k false := ⟨_, rfl⟩
        rw [← hx] at d0
        rw [← hy] at d1
        have HX := Lib.hid hx
        have HY := Lib.hid hy
        clear hx hy
        by_cases hv : x = y
        · subst hv
          go_wp2
          go_quiet (fail)
          go_wp2
          go_roundw
          case rel => exact ⟨k + 1, by omega, by go_num, fun j hj => by
            rcases Nat.lt_succ_iff_lt_or_eq.1 hj with h | rfl
            · exact Ht.out j h
            · rw [← HX.out, ← HY.out], _, rfl⟩
          case measure => simp [intOf]; omega
        · have hv' : (!(x == y)) = true := by simpa using hv
          have HV := Lib.hid hv
          clear hv
          go_wp2
          go_quiet (fail)
          go_wp2
          go_ret
          refine ⟨ret_bool ?_, by first | exact belowN (Below.refl _ _) | exact belowN (belowN (Below.refl _ _))⟩
          refine (decide_eq_false (fun h => HV.out ?_)).symm
          rw [HX.out, HY.out, h]
      · obtain rfl : k = n0 := by omega
        go_wp2
        go_ret
        refine ⟨ret_bool ?_, by first | exact belowN (Below.refl _ _) | exact belowN (belowN (Below.refl _ _))⟩
        refine (decide_eq_true ?_).symm
        apply List.ext_getElem (by rw [E0.out, E1.out])
        intro i h1 h2
        have := Ht.out i (by rw [← E0.out]; exact h1)
        simpa [List.getD, List.getElem?_eq_getElem h1, List.getElem?_eq_getElem h2] using this
  · have hn' : ((n0 : Int) != n1) = true := by rw [bne_iff_ne]; omega
    have HN := Lib.hid hn
    clear hn
    go_enter Try.func25, Try.ntmps25
    go_wp2
    go_ret
    refine ⟨ret_bool ?_, (Below.refl _ _)⟩
    refine (decide_eq_false (fun h => HN.out ?_)).symm
    rw [← E0.out, ← E1.out, h]
/-- slices.Equal of bools, whatever the two lists. -/
theorem equalBools (w : World) (a0 a1 : Option Addr) (n0 c0 n1 c1 : Nat) (l0 l1 : List Bool) (e0 : l0.length = n0) (e1 : l1.length = n1) (b0 : n0 ≤ 9223372036854775807) (b1 : n1 ≤ 9223372036854775807)
    (h0 : Seq w a0 n0 (bools l0)) (h1 : Seq w a1 n1 (bools l1)) :
    Calls Try.prog 45 #[.slice a0 n0 c0, .slice a1 n1 c1] w fun e w' => e = .returned (.bool (decide (l0 = l1))) ∧ Below w.heap.size w w' := by
  have H0 := Lib.hid h0
  have H1 := Lib.hid h1
  have E0 := Lib.hid e0
  have E1 := Lib.hid e1
  clear h0 h1 e0 e1
  by_cases hn : n0 = n1
  · subst hn
    go_enter Try.func45, Try.ntmps45
    go_wp2
    go_loopw [13] (fun i wr => ∃ k : Nat, k ≤ n0 ∧ i = .int .i64 k ∧ Hid ((∀ j, j < k → l0.getD j false = l1.getD j false) ∧ ∃ nq, wr = w.drewN nq)) (fun i _ => n0 - (intOf i).toNat)
    case atStart => exact ⟨0, by omega, rfl, ⟨fun j hj => by omega, 0, rfl⟩⟩
    case round =>
      obtain ⟨k, hk, rfl, hh⟩ := hrel
      obtain ⟨ht, nq, rfl⟩ := hh
      have Ht := Lib.hid ht
      clear ht
      by_cases hlt : k < n0
      · obtain ⟨b, off, rfl, _, hc0⟩ := H0.out.at k hlt
        obtain ⟨b', off', rfl, _, hc1⟩ := H1.out.at k hlt
        have d0 := hc0 k hlt
        have d1 := hc1 k hlt
        clear hc0 hc1
        unfold bools at d0 d1
        obtain ⟨x, hx⟩ : ∃ x, x = l0.getD k false := ⟨_, rfl⟩
        obtain ⟨y, hy⟩ : ∃ y, y = l1.getD k false := ⟨_, rfl⟩
        rw [← hx] at d0
        rw [← hy] at d1
        have HX := Lib.hid hx
        have HY := Lib.hid hy
        clear hx hy
        by_cases hv : x = y
        · subst hv
          go_wp2
          go_quiet (fail)
          go_wp2
          go_roundw
          case rel => exact ⟨k + 1, by omega, by go_num, fun j hj => by
            rcases Nat.lt_succ_iff_lt_or_eq.1 hj with h | rfl
            · exact Ht.out j h
            · rw [← HX.out, ← HY.out], _, rfl⟩
          case measure => simp [intOf]; omega
        · have hv' : (!(x == y)) = true := by simpa using hv
          have HV := Lib.hid hv
          clear hv
          go_wp2
          go_quiet (fail)
          go_wp2
          go_ret
          refine ⟨ret_bool ?_, by first | exact belowN (Below.refl _ _) | exact belowN (belowN (Below.refl _ _))⟩
          refine (decide_eq_false (fun h => HV.out ?_)).symm
          rw [HX.out, HY.out, h]
      · obtain rfl : k = n0 := by omega
        go_wp2
        go_ret
        refine ⟨ret_bool ?_, by first | exact belowN (Below.refl _ _) | exact belowN (belowN (Below.refl _ _))⟩
        refine (decide_eq_true ?_).symm
        apply List.ext_getElem (by rw [E0.out, E1.out])
        intro i h1 h2
        have := Ht.out i (by rw [← E0.out]; exact h1)
        simpa [List.getD, List.getElem?_eq_getElem h1, List.getElem?_eq_getElem h2] using this
  · have hn' : ((n0 : Int) != n1) = true := by rw [bne_iff_ne]; omega
    have HN := Lib.hid hn
    clear hn
    go_enter Try.func45, Try.ntmps45
    go_wp2
    go_ret
    refine ⟨ret_bool ?_, (Below.refl _ _)⟩
    refine (decide_eq_false (fun h => HN.out ?_)).symm
    rw [← E0.out, ← E1.out, h]
end Go.Proofs.Ytkcilpkcjhnkaaa

/- P4 -/
namespace Go.Proofs.Ytkcilpkcjhnkaaa
set_option linter.unusedSectionVars false

/-- The row of a table at some values, as far as its first j inputs say. -/
def rowTo (ins : List Int) (v : List Bool) : Nat → Nat
  | 0 => 0
  | j + 1 => rowTo ins v j + (if v.getD (ins.getD j 0).toNat false then 2 ^ j else 0)

theorem rowTo_lt (ins : List Int) (v : List Bool) (j : Nat) : rowTo ins v j < 2 ^ j := by
  induction j with
  | zero => simp [rowTo]
  | succ j ih =>
    simp only [rowTo, Nat.pow_succ]
    split <;> omega

def tabVal (l : LutV) (v : List Bool) : Bool := l.tab.toNat.testBit (rowTo l.ins v l.ins.length)

theorem rowTo_congr (ins : List Int) (v v' : List Bool) (h : ∀ k ∈ ins, v.getD k.toNat false = v'.getD k.toNat false) (j : Nat) (hj : j ≤ ins.length) : rowTo ins v j = rowTo ins v' j := by
  induction j with
  | zero => rfl
  | succ j ih =>
    simp only [rowTo]
    rw [ih (by omega), h _ (getD_mem ins 0 (by omega))]

theorem tabVal_congr (l : LutV) (v v' : List Bool) (h : ∀ k ∈ l.ins, v.getD k.toNat false = v'.getD k.toNat false) : tabVal l v = tabVal l v' := by
  unfold tabVal
  rw [rowTo_congr _ _ _ h _ (Nat.le_refl _)]

/-- Every table told anew. -/
def stepV (N : NetV) (now : List Bool) : List Bool := now.take (firstN N) ++ N.luts.map fun l => tabVal l now

def iterV (N : NetV) (now : List Bool) : Nat → List Bool
  | 0 => now
  | s + 1 => stepV N (iterV N now s)

/-- The values in order, of those ahead of table i. -/
def valTo (N : NetV) (v0 : List Bool) : Nat → List Bool
  | 0 => v0
  | i + 1 => valTo N v0 i ++ [tabVal (N.luts.getD i default) (valTo N v0 i)]

theorem valTo_length (N : NetV) (v0 : List Bool) (i : Nat) : (valTo N v0 i).length = v0.length + i := by
  induction i with
  | zero => rfl
  | succ i ih => simp [valTo, ih]; omega

theorem ext_getD {l m : List Bool} (h : l.length = m.length) (h' : ∀ i, i < l.length → l.getD i false = m.getD i false) : l = m := by
  apply List.ext_getElem h
  intro i h1 h2
  have := h' i h1
  simpa [List.getD, List.getElem?_eq_getElem h1, List.getElem?_eq_getElem h2] using this

theorem getD_append_left' (l m : List Bool) (i : Nat) (h : i < l.length) : (l ++ m).getD i false = l.getD i false := by
  simp [List.getD, List.getElem?_append_left h]

theorem getD_append_right' (l m : List Bool) (i : Nat) : (l ++ m).getD (l.length + i) false = m.getD i false := by
  rw [List.getD, List.getElem?_append_right (by omega)]
  simp [List.getD]

theorem valTo_prefix (N : NetV) (v0 : List Bool) (i j : Nat) (h : i ≤ j) (k : Nat) (hk : k < v0.length + i) : (valTo N v0 j).getD k false = (valTo N v0 i).getD k false := by
  induction j with
  | zero => obtain rfl : i = 0 := by omega
            rfl
  | succ j ih =>
    by_cases e : i = j + 1
    · subst e; rfl
    · simp only [valTo]
      rw [getD_append_left' _ _ _ (by rw [valTo_length]; omega), ih (by omega)]

section
variable {N : NetV} (hin : ∀ i, i < N.luts.length → ∀ k ∈ (N.luts.getD i default).ins, 0 ≤ k ∧ k.toNat < firstN N + i)
include hin

theorem fin_tab (v0 : List Bool) (h0 : v0.length = firstN N) (i : Nat) (hi : i < N.luts.length) :
    (valTo N v0 N.luts.length).getD (firstN N + i) false = tabVal (N.luts.getD i default) (valTo N v0 N.luts.length) := by
  rw [valTo_prefix N v0 (i + 1) N.luts.length (by omega) _ (by omega)]
  simp only [valTo]
  have := getD_append_right' (valTo N v0 i) [tabVal (N.luts.getD i default) (valTo N v0 i)] 0
  rw [valTo_length, h0, Nat.add_zero] at this
  rw [this]
  simp only [List.getD_cons_zero]
  refine tabVal_congr _ _ _ fun k hk => ?_
  exact (valTo_prefix N v0 i N.luts.length (by omega) _ (by rw [h0]; exact (hin i hi k hk).2)).symm

theorem stepV_length (now : List Bool) (h : now.length = firstN N + N.luts.length) : (stepV N now).length = firstN N + N.luts.length := by
  simp [stepV, h]

theorem iterV_length (now : List Bool) (h : now.length = firstN N + N.luts.length) (s : Nat) : (iterV N now s).length = firstN N + N.luts.length := by
  induction s with
  | zero => exact h
  | succ s ih => exact stepV_length hin _ ih

theorem stepV_low (now : List Bool) (h : now.length = firstN N + N.luts.length) (k : Nat) (hk : k < firstN N) : (stepV N now).getD k false = now.getD k false := by
  unfold stepV
  rw [getD_append_left' _ _ _ (by rw [List.length_take]; omega)]
  simp [List.getD, hk]

theorem stepV_tab (now : List Bool) (h : now.length = firstN N + N.luts.length) (i : Nat) (hi : i < N.luts.length) : (stepV N now).getD (firstN N + i) false = tabVal (N.luts.getD i default) now := by
  unfold stepV
  have hl : (now.take (firstN N)).length = firstN N := by rw [List.length_take]; omega
  have := getD_append_right' (now.take (firstN N)) (N.luts.map fun l => tabVal l now) i
  rw [hl] at this
  rw [this]
  simp [List.getD, hi]

theorem iterV_low (now : List Bool) (h : now.length = firstN N + N.luts.length) (s k : Nat) (hk : k < firstN N) : (iterV N now s).getD k false = now.getD k false := by
  induction s with
  | zero => rfl
  | succ s ih => rw [show iterV N now (s + 1) = stepV N (iterV N now s) from rfl, stepV_low hin _ (iterV_length hin now h s) k hk, ih]

/-- A table is at rest as soon as its depth has gone by. -/
theorem settle (now : List Bool) (h : now.length = firstN N + N.luts.length) (d : Nat → Nat) (hd1 : ∀ i, i < N.luts.length → 1 ≤ d i)
    (hd2 : ∀ i, i < N.luts.length → ∀ k ∈ (N.luts.getD i default).ins, firstN N ≤ k.toNat → d (k.toNat - firstN N) < d i) :
    ∀ i, i < N.luts.length → ∀ s, d i ≤ s → (iterV N now s).getD (firstN N + i) false = (valTo N (now.take (firstN N)) N.luts.length).getD (firstN N + i) false := by
  have h0 : (now.take (firstN N)).length = firstN N := by rw [List.length_take]; omega
  intro i
  induction i using Nat.strongRecOn with
  | _ i ih =>
    intro hi s hs
    have h1 := hd1 i hi
    obtain ⟨s', rfl⟩ : ∃ s', s = s' + 1 := ⟨s - 1, by omega⟩
    rw [show iterV N now (s' + 1) = stepV N (iterV N now s') from rfl, stepV_tab hin _ (iterV_length hin now h s') i hi, fin_tab hin _ h0 i hi]
    refine tabVal_congr _ _ _ fun k hk => ?_
    have hk' := (hin i hi k hk).2
    by_cases hf : k.toNat < firstN N
    · rw [iterV_low hin now h s' _ hf, valTo_prefix N _ 0 N.luts.length (by omega) _ (by rw [h0]; omega)]
      simp [valTo, List.getD, hf]
    · have := ih (k.toNat - firstN N) (by omega) (by omega) s' (by have := hd2 i hi k hk (by omega); omega)
      rwa [show firstN N + (k.toNat - firstN N) = k.toNat by omega] at this

theorem iterV_fin (now : List Bool) (h : now.length = firstN N + N.luts.length) (d : Nat → Nat) (hd1 : ∀ i, i < N.luts.length → 1 ≤ d i)
    (hd2 : ∀ i, i < N.luts.length → ∀ k ∈ (N.luts.getD i default).ins, firstN N ≤ k.toNat → d (k.toNat - firstN N) < d i) (s : Nat) (hs : ∀ i, i < N.luts.length → d i ≤ s) :
    iterV N now s = valTo N (now.take (firstN N)) N.luts.length := by
  have h0 : (now.take (firstN N)).length = firstN N := by rw [List.length_take]; omega
  apply ext_getD
  · rw [iterV_length hin now h, valTo_length, h0]
  · intro k hk
    rw [iterV_length hin now h] at hk
    by_cases hf : k < firstN N
    · rw [iterV_low hin now h s _ hf, valTo_prefix N _ 0 N.luts.length (by omega) _ (by rw [h0]; omega)]
      simp [valTo, List.getD, hf]
    · have := settle hin now h d hd1 hd2 (k - firstN N) (by omega) s (hs _ (by omega))
      rwa [show firstN N + (k - firstN N) = k by omega] at this

/-- The values in order are at rest. -/
theorem stepV_fin (v0 : List Bool) (h0 : v0.length = firstN N) : stepV N (valTo N v0 N.luts.length) = valTo N v0 N.luts.length := by
  have hl : (valTo N v0 N.luts.length).length = firstN N + N.luts.length := by rw [valTo_length, h0]
  apply ext_getD
  · rw [stepV_length hin _ hl, hl]
  · intro k hk
    rw [stepV_length hin _ hl] at hk
    by_cases hf : k < firstN N
    · rw [stepV_low hin _ hl _ hf]
    · have := stepV_tab hin _ hl (k - firstN N) (by omega)
      rw [show firstN N + (k - firstN N) = k by omega] at this
      rw [this, ← fin_tab hin v0 h0 (k - firstN N) (by omega), show firstN N + (k - firstN N) = k by omega]

/-- No more steps than tables change anything. -/
theorem rest_at (now : List Bool) (h : now.length = firstN N + N.luts.length) (s : Nat) (hs : N.luts.length ≤ s) : stepV N (iterV N now s) = iterV N now s := by
  have h0 : (now.take (firstN N)).length = firstN N := by rw [List.length_take]; omega
  rw [iterV_fin hin now h (fun i => i + 1) (fun i _ => by omega) (fun i hi k hk hf => by have := (hin i hi k hk).2; show k.toNat - firstN N + 1 < i + 1; omega) s (fun i hi => by show i + 1 ≤ s; omega)]
  exact stepV_fin hin _ h0
end

/-- In s steps, and no fewer, it comes to rest. -/
structure Rest (N : NetV) (now : List Bool) (s : Nat) : Prop where
  rest : stepV N (iterV N now s) = iterV N now s
  before : ∀ t, t < s → stepV N (iterV N now t) ≠ iterV N now t

theorem Rest.unique {N : NetV} {now : List Bool} {s t : Nat} (h : Rest N now s) (k : Rest N now t) : s = t := by
  rcases Nat.lt_trichotomy s t with hlt | h | hlt
  · exact absurd h.rest (k.before s hlt)
  · exact h
  · exact absurd k.rest (h.before t hlt)
end Go.Proofs.Ytkcilpkcjhnkaaa

/- T16 -/
namespace Go.Proofs.Ytkcilpkcjhnkaaa
open Go.RowKit

theorem rowTo_small (ins : List Int) (v : List Bool) (j : Nat) (h : j ≤ 6) : rowTo ins v j < 64 := by
  have h1 := rowTo_lt ins v j
  have : (2 : Nat) ^ j ≤ 2 ^ 6 := Nat.pow_le_pow_right (by omega) h
  omega

theorem bit_shr (tab : Int) (h : U64 tab) (r : Nat) : (bits .and .u64 (tab / 2 ^ r) 1 == 1) = tab.toNat.testBit r := by
  obtain ⟨h0, h1⟩ := h
  obtain ⟨m, rfl⟩ := Int.eq_ofNat_of_zero_le h0
  rw [Int.toNat_natCast, Nat.testBit_eq_decide_div_mod_eq, show ((m : Int) / 2 ^ r) = ((m / 2 ^ r : Nat) : Int) by simp, show (1 : Int) = ((1 : Nat) : Int) by rfl,
    u64_and_nat _ _ (Nat.lt_of_le_of_lt (Nat.div_le_self _ _) (by omega)) (by omega), Nat.and_one_is_mod]
  by_cases h : m / 2 ^ r % 2 = 1
  · simp [h]
  · rw [decide_eq_false h, beq_eq_false_iff_ne]; omega

set_option maxHeartbeats 1000000 in
theorem value (w : World) (L : LutV) (hS : Seq w L.a L.ins.length (ints L.ins)) (hU : U64 L.tab) (h6 : L.ins.length ≤ 6) (a : Option Addr) (n c : Nat) (v : List Bool) (S : Seq w a n (bools v)) (hn : n ≤ 100000) (hin : ∀ x ∈ L.ins, 0 ≤ x ∧ x < n) :
    Calls Try.prog 47 #[.agg #[.slice L.a L.ins.length L.c, .int .u64 L.tab], .slice a n c] w fun e w' => e = .returned (.bool (tabVal L v)) ∧ Below w.heap.size w w' := by
  have HU := Lib.hid hU
  have HS := Lib.hid hS
  have HV := Lib.hid S
  have HIn := Lib.hid hin
  clear hU hS S hin
  obtain ⟨La, Lc, ins, tab⟩ := L
  dsimp only at h6 ⊢
  have HB : Below w.heap.size w (w.alloc (Obj.cells #[Value.slice La ins.length Lc, Value.int IntKind.u64 tab] 48)) := (Below.refl _ _).alloc (Nat.le_refl _) _
  have HBB := Lib.hid HB
  clear HB
  go_enter Try.func47, Try.ntmps47
  go_wp2
  go_loop [5, 11] (fun r i => ∃ j : Nat, j ≤ ins.length ∧ i = .int .i64 j ∧ r = .int .i64 (rowTo ins v j : Nat)) (fun _ i => ins.length - (intOf i).toNat)
  case atStart => exact ⟨0, by omega, rfl, rfl⟩
  case round =>
    obtain ⟨j, hj, rfl, rfl⟩ := hrel
    by_cases hlt : j < ins.length
    · obtain ⟨b, off, hLa, hbb, hc⟩ := HS.out.at j hlt
      try dsimp only at hLa
      subst hLa
      have d0 := hc j hlt
      unfold ints at d0
      try dsimp only at d0
      have hx := HIn.out _ (getD_mem ins 0 hlt)
      try dsimp only at hx
      obtain ⟨xn, hxn⟩ := Int.eq_ofNat_of_zero_le hx.1
      have hR : rowTo ins v (j + 1) = rowTo ins v j + (if v.getD xn false then 2 ^ j else 0) := by
        simp only [rowTo]; rw [hxn, Int.toNat_natCast]
      rw [hxn] at d0 hx
      have hxlt : xn < n := by omega
      obtain ⟨bv, ov, rfl, hbv, hcv⟩ := HV.out.at xn hxlt
      have e0 := hcv xn hxlt
      unfold bools at e0
      have hr0 := rowTo_small ins v j (by omega)
      obtain ⟨r, hr⟩ : ∃ r, r = rowTo ins v j := ⟨_, rfl⟩
      rw [← hr] at hr0 hR ⊢
      obtain ⟨y, hy⟩ : ∃ y, y = v.getD xn false := ⟨_, rfl⟩
      rw [← hy] at e0 hR
      have HR := Lib.hid hR
      have hj6 : j = 0 ∨ j = 1 ∨ j = 2 ∨ j = 3 ∨ j = 4 ∨ j = 5 := by omega
      have d0' := cell_alloc (Obj.cells #[Value.slice (some ⟨b, off, none⟩) ins.length Lc, Value.int IntKind.u64 tab] 48) d0
      have e0' := cell_alloc (Obj.cells #[Value.slice (some ⟨b, off, none⟩) ins.length Lc, Value.int IntKind.u64 tab] 48) e0
      clear hc hxn hcv hr hy hR d0 e0
      cases y
      · go_wp2
        go_round
        case rel => exact ⟨j + 1, by omega, by go_num, by rw [HR.out]; simp⟩
        case measure => simp [intOf]; omega
      · rcases hj6 with rfl | rfl | rfl | rfl | rfl | rfl
        all_goals
          try rw [Nat.add_zero] at d0'
          go_wp2
          go_round
          case rel => exact ⟨_, hlt, by go_num, by rw [HR.out]; simp⟩
          case measure => simp [intOf]; omega
    · obtain rfl : j = ins.length := by omega
      have hr0 := rowTo_small ins v ins.length h6
      obtain ⟨r, hr⟩ : ∃ r, r = rowTo ins v ins.length := ⟨_, rfl⟩
      rw [← hr] at hr0 ⊢
      go_wp2
      go_ret
      refine ⟨ret_bool ?_, HBB.out⟩
      unfold tabVal
      dsimp only
      rw [← hr]
      exact bit_shr tab HU.out r
end Go.Proofs.Ytkcilpkcjhnkaaa

/- T17 -/
namespace Go.Proofs.Ytkcilpkcjhnkaaa
open Go.RowKit
set_option linter.unusedVariables false

theorem info4 : (Try.prog.info? 4).map (fun i => (i.zero, i.size, i.bytes)) = some (some (.bool false), 1, 1) := by kernel_rfl

theorem run_append_none' {P : Program} {w : World} (base : Nat) (t ty e : TypeId) (i : TypeInfo) (size : Nat) (ht : P.underlying t = some (.slice e)) (hi : P.info? e = some i)
    (v : Value) (n c : Nat) (xs : List Value) (hown : w.ownsRow base e size v n xs) :
    (Builtin.append_ #[t, t] ty #[v, .slice none 0 c]).run P w = .ok v w := by
  rcases hown.2 with ⟨rfl, rfl⟩ | ⟨g, cap, cur, rfl, _, _, hnc, _⟩
  · simp [Builtin.append_, run_underlying ht, sizeOf, typeInfo, hi, Builtin.lenOf, Builtin.firstCells]
  · simp [Builtin.append_, run_underlying ht, sizeOf, typeInfo, hi, Builtin.lenOf, Builtin.firstCells, hnc, storeCells]

/-- append of a list as it lies, wherever (or nowhere) that is. -/
theorem wpList_append_seq {P : Program} {w : World} {ops : Array Oper} {rest : List Oper} {o : Oper} {a : Act} {Q : Exit → Act → World → Prop} (hgd : o.guard = none) (s x : Operand) (t : TypeId)
    (ho : o.op = .call { callee := .builtin .append, args := #[s, x], argTypes := #[t, t] })
    (base : Nat) (e : TypeId) (i : TypeInfo) (z : Value) (bytes : Nat) (ht : P.underlying t = some (.slice e)) (hi : P.info? e = some i) (hz : i.zero = some z)
    (hsize : i.size = 1) (hby : i.bytes = bytes) (hzs : z.cells.size = 1)
    (v : Value) (n : Nat) (xs : List Value) (hs : a.eval s = v) (hown : w.ownsRow base e 1 v n xs)
    (ao : Option Addr) (m c : Nat) (news : List Value) (f : Nat → Value) (hx : a.eval x = .slice ao m c) (hl : news.length = m) (S : Seq w ao m f) (hf : ∀ j, j < m → news[j]? = some (f j)) (h1 : ∀ u ∈ news, u.oneCell' = true)
    (h63 : n + m ≤ maxLen) (hbytes : (n + m) * bytes ≤ 140737488355328) (hbase : base ≤ w.heap.size)
    (h : ∀ v' w', w'.ownsRow base e 1 v' (n + m) (xs ++ news) → w.grownBy w' v.ownBlock → wpList P ops Q rest (a.put o.dst v') w') : wpList P ops Q (o :: rest) a w := by
  cases ao with
  | none =>
    have hm : m = 0 := by rcases S with h | ⟨b, off, h, _⟩; exact h; cases h
    subst hm
    have hnews : news = [] := List.eq_nil_of_length_eq_zero hl
    subst hnews
    refine wpList_plain hgd fun K hK => ?_
    have hrun := run_append_none' (P := P) (w := w) base t o.type e i 1 ht hi v n c xs hown
    unfold Oper.wp
    simp [execOp, ho, resolve, invoke, builtin, hs, hx, hrun, Result.andThen]
    exact hK _ _ (h v w (by simpa using hown) (World.grownBy.refl _ _))
  | some ad =>
    refine wpList_append_own _ hgd s x t ho base e i z 1 bytes ht hi hz hsize hby hzs (by omega) v n xs hs hown ad m c news hx (by omega) ?_ h1 h63 hbytes hbase fun v' w' h2 h3 _ => h v' w' h2 h3
    intro j u hj
    have hjm : j < m := by rw [← hl]; exact (List.getElem?_eq_some_iff.1 hj).1
    rcases S with h | ⟨b, off, ha, hc⟩
    · omega
    · cases ha
      rw [hf j hjm] at hj
      cases hj
      rw [Addr.add_lit]; exact hc j hjm

theorem bools_get (l : List Bool) (j : Nat) (h : j < l.length) : (l.map Value.bool)[j]? = some (bools l j) := by
  simp [bools, List.getD, List.getElem?_eq_getElem h]
theorem ints_get (l : List Int) (j : Nat) (h : j < l.length) : (l.map (Value.int .i64))[j]? = some (ints l j) := by
  simp [ints, List.getD, List.getElem?_eq_getElem h]
theorem bools_one (l : List Bool) : ∀ u ∈ l.map Value.bool, u.oneCell' = true := by
  intro u hu; obtain ⟨x, _, rfl⟩ := List.mem_map.1 hu; rfl
theorem ints_one (l : List Int) : ∀ u ∈ l.map (Value.int .i64), u.oneCell' = true := by
  intro u hu; obtain ⟨x, _, rfl⟩ := List.mem_map.1 hu; rfl

section
variable {w : World} {base e n : Nat} {v : Value} {l : List Bool}

theorem ownb_shape (h : w.ownsRow base e 1 v n (l.map Value.bool)) (hn : 0 < n) : ∃ g cap, v = .slice (some ⟨g, 0, none⟩) n cap ∧ base ≤ g ∧ g < w.heap.size ∧ n ≤ cap ∧ cap ≤ maxLen ∧ ∀ j, j < n → w.cell? ⟨g, j, none⟩ = some (.bool (l.getD j false)) := by
  have hl : l.length = n := by have := h.1; simpa using this
  rcases h.2 with ⟨_, h0⟩ | ⟨g, cap, cur, hv, hb, hg, hnc, hm, hs, ht⟩
  · omega
  · subst hv
    refine ⟨g, cap, rfl, hb, (Array.getElem?_eq_some_iff.1 hg).1, hnc, hm, fun j hj => ?_⟩
    rw [h.cellAt j (by omega)]
    simp [List.getD, List.getElem?_eq_getElem (show j < l.length by omega)]

theorem ownb_seq (h : w.ownsRow base e 1 v n (l.map Value.bool)) : ∃ a cap, v = .slice a n cap ∧ Seq w a n (bools l) ∧ n ≤ cap ∧ cap ≤ maxLen := by
  by_cases hn : 0 < n
  · obtain ⟨g, cap, rfl, _, _, h1, h2, hc⟩ := ownb_shape h hn
    exact ⟨_, cap, rfl, .inr ⟨g, 0, rfl, fun i hi => by rw [Nat.zero_add]; exact hc i hi⟩, h1, h2⟩
  · rcases h.2 with ⟨hv, h0⟩ | ⟨g, cap, cur, hv, hb, hg, hnc, hm, hs, ht⟩
    · exact ⟨none, 0, by rw [hv, h0], .inl h0, by omega, by simp [maxLen]⟩
    · exact ⟨_, cap, hv, .inl (by omega), hnc, hm⟩
end

/-- slices.Clone of bools that lie somewhere. -/
theorem cloneBools (w : World) (b off n c : Nat) (l : List Bool) (hl : l.length = n) (hn : n ≤ 100000) (S : Seq w (some ⟨b, off, none⟩) n (bools l)) :
    Calls Try.prog 44 #[.slice (some ⟨b, off, none⟩) n c] w fun e w' => ∃ v, e = .returned v ∧ w'.ownsRow w.heap.size 4 1 v n (l.map Value.bool) ∧ Below w.heap.size w w' := by
  have q : ∀ (w : World) (a : Option Addr) (n c n' c' : Nat), (binOp .eql 39 (.slice a n c) (.slice none n' c')).run Try.prog w = .ok (.bool a.isNone) w := fun w a n c n' c' => Lib.run_eql_slice_nil w _ _ a n c n' c' Try.underlying39
  have HS := Lib.hid S
  have HL := Lib.hid hl
  clear S hl
  obtain ⟨i0, hi, hz0, hz1, hz2⟩ := info_parts info4
  have HB : Below w.heap.size w (w.alloc (Obj.cells #[] 4)) := (Below.refl _ _).alloc (Nat.le_refl _) _
  go_enter Try.func44, Try.ntmps44
  go_wp2_with (at_builtin; refine wpList_append_seq rfl _ _ 39 rfl w.heap.size 4 i0 (.bool false) 1 Try.underlying39 hi hz0 hz1 hz2 rfl _ _ _ rfl (World.ownsRow_lit w #[] 0 (Nat.le_refl _) (Nat.zero_le _) rfl) (some ⟨b, off, none⟩) n c (l.map Value.bool) (bools l) rfl ?c1 ?c2 ?c3 (bools_one l) ?c4 ?c5 ?c6 ?_)
  case c1 => rw [List.length_map, HL.out]
  case c2 => exact HS.out.below HB (Nat.le_refl _)
  case c3 => intro j hj; exact bools_get l j (by rw [HL.out]; exact hj)
  case c4 => unfold maxLen; omega
  case c5 => omega
  case c6 => simp
  intro v' w1 hown hgrow
  go_wp2
  go_ret
  exact ⟨v', rfl, by simpa using hown, HB.grown hgrow (by simp) (by intro k hk; simp [Value.ownBlock] at hk; omega)⟩
end Go.Proofs.Ytkcilpkcjhnkaaa

/- T18 -/
namespace Go.Proofs.Ytkcilpkcjhnkaaa
open Go.RowKit
set_option linter.unusedVariables false

/-- A new list of bools. -/
def NewBools (w : World) (l : List Bool) (e : Ending) (w' : World) : Prop :=
  ∃ v, e = .returned v ∧ w'.ownsRow w.heap.size 4 1 v l.length (l.map Value.bool) ∧ Below w.heap.size w w'

/-- slices.Grow of nothing. -/
theorem growNil (w : World) (n : Nat) (hn : n ≤ 100000) :
    Calls Try.prog 64 #[.slice none 0 0, .int .i64 n] w (NewBools w []) := by
  by_cases h0 : n = 0
  · subst h0
    go_enter Try.func64, Try.ntmps64
    go_wp2
    go_ret
    exact ⟨_, rfl, World.ownsRow_nil _ _ _ _, Below.refl _ _⟩
  · obtain ⟨i0, hi, hz0, hz1, hz2⟩ := info_parts info4
    have hold : (Builtin.firstCells i0.size 0 (.slice none 0 0)).run Try.prog w.drew = .ok ([] : List Value).toArray w.drew := run_firstCells_none w.drew i0.size 0 0 0
    have hrz : ∀ ty, (Builtin.append_ #[39, 3] ty #[.slice none 0 0, .int .i64 (n : Int)]).run Try.prog w =
        .ok (.slice (some ⟨w.heap.size, 0, none⟩) n (grownCap w n 0 4)) (w.drew.alloc (.cells (([] : List Value).toArray ++ Builtin.zeroCells (Value.bool false).cells n ++ Builtin.zeroCells (Value.bool false).cells (grownCap w n 0 4 - n)) 4)) := fun ty => by
      have h := Lib.run_append_grow_zeros w 39 3 ty 4 i0 (.bool false) .i64 .i64 Try.underlying39 Try.underlying3 hi hz0 none 0 0 [] hold n (by omega) (by omega) (by omega) (by omega) (by rw [hz2]; omega) (by rw [Nat.zero_add, hz2]; exact growslice_fits (by omega) (by omega))
      rw [Nat.zero_add] at h
      exact h
    have hGn : n ≤ grownCap w n 0 4 := grownCap_ge w _ _ _
    have hG63 : grownCap w n 0 4 ≤ maxLen := grownCap_le_maxLen w n 0 4 (by unfold maxLen; omega)
    have hG63' : grownCap w n 0 4 ≤ 9223372036854775807 := by unfold maxLen at hG63; omega
    obtain ⟨G, hG⟩ : ∃ G, G = grownCap w n 0 4 := ⟨_, rfl⟩
    rw [← hG] at hrz hGn hG63 hG63'
    clear hold hG
    obtain ⟨cs, hcs⟩ : ∃ cs, cs = ([] : List Value).toArray ++ Builtin.zeroCells (Value.bool false).cells n ++ Builtin.zeroCells (Value.bool false).cells (G - n) := ⟨_, rfl⟩
    rw [← hcs] at hrz
    have hsz : cs.size = G := by rw [hcs]; simp [Builtin.zeroCells, Value.cells]; omega
    clear hcs
    go_enter Try.func64, Try.ntmps64
    go_wp2_with (at_builtin; refine Lib.wpList_append_run _ rfl _ _ _ _ rfl _ _ rfl rfl _ _ (hrz _) ?_)
    go_ret
    refine ⟨_, rfl, ⟨by simp, .inr ⟨w.heap.size, G, cs, rfl, Nat.le_refl _, ?_, Nat.zero_le _, hG63, by rw [hsz, Nat.mul_one], by simp⟩⟩, ((Below.refl _ _).drew).alloc (Nat.le_refl _) _⟩
    exact heap_alloc_new w.drew _
end Go.Proofs.Ytkcilpkcjhnkaaa

/- T19 -/
namespace Go.Proofs.Ytkcilpkcjhnkaaa
open Go.RowKit
set_option linter.unusedVariables false

/-- A list of bools as it lies. -/
structure PartV where
  a : Option Addr
  c : Nat
  l : List Bool

instance : Inhabited PartV := ⟨⟨none, 0, []⟩⟩

def Parts (w : World) (b : Nat) (ps : List PartV) : Prop :=
  ∀ i, i < ps.length → w.cell? ⟨b, i, none⟩ = some (.slice (ps.getD i default).a (ps.getD i default).l.length (ps.getD i default).c) ∧ Seq w (ps.getD i default).a (ps.getD i default).l.length (bools (ps.getD i default).l) ∧ (ps.getD i default).l.length ≤ 1000

theorem Parts.below {w w' : World} {b : Nat} {ps : List PartV} (h : Parts w b ps) (hb : Below w.heap.size w w') : Parts w' b ps :=
  fun i hi => ⟨(hb.cell (World.block_lt_of_cell? w _ (h i hi).1)).trans (h i hi).1, (h i hi).2.1.below hb (Nat.le_refl _), (h i hi).2.2⟩

def flatTo (ps : List PartV) : Nat → List Bool
  | 0 => []
  | i + 1 => flatTo ps i ++ (ps.getD i default).l

theorem flatTo_le (ps : List PartV) (h : ∀ i, i < ps.length → (ps.getD i default).l.length ≤ 1000) : ∀ i, i ≤ ps.length → (flatTo ps i).length ≤ 1000 * i
  | 0, _ => by simp [flatTo]
  | i + 1, hi => by
    have := flatTo_le ps h i (by omega)
    have := h i (by omega)
    simp only [flatTo, List.length_append]; omega

set_option maxHeartbeats 1000000 in
theorem concat (w : World) (b c n : Nat) (ps : List PartV) (hn : ps.length = n) (h10 : n ≤ 10) (P : Parts w b ps) :
    Calls Try.prog 43 #[.slice (some ⟨b, 0, none⟩) n c] w (NewBools w (flatTo ps n)) := by
  have hfl := flatTo_le ps (fun i hi => (P i hi).2.2)
  have HP := Lib.hid P
  have HN := Lib.hid hn
  have HFl := Lib.hid hfl
  clear hfl hn
  obtain ⟨i0, hi, hz0, hz1, hz2⟩ := info_parts info4
  clear P
  go_enter Try.func43, Try.ntmps43
  go_wp2
  go_loop [3, 11] (fun s i => ∃ j : Nat, j ≤ n ∧ i = .int .i64 j ∧ s = .int .i64 ((flatTo ps j).length : Nat)) (fun _ i => n - (intOf i).toNat)
  case atStart => exact ⟨0, by omega, rfl, rfl⟩
  case round =>
    obtain ⟨j, hj, rfl, rfl⟩ := hrel
    have hs := HFl.out j (by rw [HN.out]; exact hj)
    by_cases hlt : j < n
    · obtain ⟨d0, _, hl⟩ := HP.out j (by rw [HN.out]; exact hlt)
      have hs1 : (flatTo ps (j + 1)).length = (flatTo ps j).length + (ps.getD j default).l.length := by simp [flatTo]
      obtain ⟨s, hs0⟩ : ∃ s, s = (flatTo ps j).length := ⟨_, rfl⟩
      obtain ⟨p, hp⟩ : ∃ p, p = ps.getD j default := ⟨_, rfl⟩
      rw [← hp] at d0 hl hs1
      rw [← hs0] at hs hs1 ⊢
      have HS1 := Lib.hid hs1
      obtain ⟨pa, pc, pl⟩ := p
      dsimp only at d0 hl HS1
      clear hp hs0 hs1
      obtain ⟨m, hm⟩ : ∃ m, m = pl.length := ⟨_, rfl⟩
      rw [← hm] at d0 hl HS1
      clear hm
      go_wp2
      go_round
      case rel => exact ⟨j + 1, by omega, by go_num, by rw [HS1.out]; go_num⟩
      case measure => simp [intOf]; omega
    · obtain rfl : j = n := by omega
      obtain ⟨s, hs0⟩ : ∃ s, s = (flatTo ps j).length := ⟨_, rfl⟩
      rw [← hs0] at hs ⊢
      clear hs0
      go_wp2_with fail
      refine (growNil w s (by omega)).mono ?_
      rintro e w1 ⟨v, rfl, hown, hb1⟩
      have HOwn := Lib.hid hown
      have HP1 := Lib.hid (HP.out.below hb1)
      have HB1 := Lib.hid hb1
      clear hown hb1
      go_wp2
      go_loopw [6, 27] (fun v i wr => ∃ k : Nat, k ≤ j ∧ i = .int .i64 k ∧ Hid (Below w.heap.size w wr ∧ wr.ownsRow w.heap.size 4 1 v (flatTo ps k).length ((flatTo ps k).map Value.bool))) (fun _ i _ => j - (intOf i).toNat)
      case atStart => exact ⟨0, by omega, rfl, HB1.out, HOwn.out⟩
      case round =>
        obtain ⟨k, hk, rfl, hh⟩ := hrel
        by_cases hlk : k < j
        · have hs1 := HFl.out (k + 1) (by rw [HN.out]; omega)
          obtain ⟨d00, hS0, _⟩ := HP.out k (by rw [HN.out]; exact hlk)
          have d0 := (hh.out.1.cell (World.block_lt_of_cell? w _ d00)).trans d00
          have hS := hS0.below hh.out.1 (Nat.le_refl _)
          have hlen : (flatTo ps (k + 1)) = (flatTo ps k) ++ (ps.getD k default).l := rfl
          rw [hlen, List.length_append] at hs1
          obtain ⟨p, hp⟩ : ∃ p, p = ps.getD k default := ⟨_, rfl⟩
          rw [← hp] at d0 hS hs1 hlen
          have HLen := Lib.hid hlen
          obtain ⟨pa, pc, pl⟩ := p
          dsimp only at d0 hS HLen hs1
          have HS := Lib.hid hS
          have hsz := hh.out.1.size
          clear hp hlen hS hS0 d00
          go_wp2_with (at_builtin; refine wpList_append_seq rfl _ _ 39 rfl w.heap.size 4 i0 (.bool false) 1 Try.underlying39 hi hz0 hz1 hz2 rfl _ _ _ rfl hh.out.2 pa pl.length pc (pl.map Value.bool) (bools pl) rfl (List.length_map _) HS.out (bools_get pl) (bools_one pl) (by unfold maxLen; omega) (by omega) hsz ?_)
          intro v' w2 hown2 hgrow2
          have hb2 := hh.out.1.grown hgrow2 hsz (fun q e => (hh.out.2.lt q e).1)
          have HB2 := Lib.hid hb2
          have HOwn2 := Lib.hid hown2
          clear hb2 hown2 hgrow2
          go_wp2
          go_roundw
          case rel => exact ⟨k + 1, by omega, by go_num, HB2.out, by rw [HLen.out, List.length_append, List.map_append]; exact HOwn2.out⟩
          case measure => simp [intOf]; omega
        · obtain rfl : k = j := by omega
          go_wp2
          go_ret
          exact ⟨_, rfl, hh.out.2, hh.out.1⟩
end Go.Proofs.Ytkcilpkcjhnkaaa
