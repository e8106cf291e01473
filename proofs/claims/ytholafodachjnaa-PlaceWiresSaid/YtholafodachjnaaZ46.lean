/- Bare blocks that lie in a row of one's own; one less of what goes out. -/
import Derived.Test.YtholafodachjnaaZ45
import Derived.Test.YtholafodachjnaaZ32
import Derived.Test.YtholafodachjnaaZ40
namespace Go.Proofs.Ytholafodachjnaa
open Go.RowKit Go.Shelf
set_option linter.unusedVariables false
set_option linter.unusedSimpArgs false

theorem info46 : (Try.prog.info? 46).map (fun i => (i.zero, i.size, i.bytes)) = some (some (.agg #[.slice none 0 0, .int .i64 0, .bool false, .bool false]), 4, 40) := by kernel_rfl
def zcell (j : Nat) : Value := if j % 4 = 0 then .slice none 0 0 else if j % 4 = 1 then .int .i64 0 else .bool false
def xsZ (n : Nat) : List Value := (List.range (4 * n)).map zcell
theorem xsZ_len (n : Nat) : (xsZ n).length = n * 4 := by unfold xsZ; rw [List.length_map, List.length_range]; omega
theorem xsZ_snoc (n : Nat) : xsZ (n + 1) = xsZ n ++ [.slice none 0 0, .int .i64 0, .bool false, .bool false] := by
  unfold xsZ
  rw [show 4 * (n + 1) = 4 * n + 1 + 1 + 1 + 1 by omega, List.range_succ, List.range_succ, List.range_succ, List.range_succ]
  simp only [List.map_append, List.map_cons, List.map_nil, List.append_assoc, List.cons_append, List.nil_append]
  have h0 : zcell (4 * n) = .slice none 0 0 := by unfold zcell; rw [if_pos (by omega)]
  have h1 : zcell (4 * n + 1) = .int .i64 0 := by unfold zcell; rw [if_neg (by omega), if_pos (by omega)]
  have h2 : zcell (4 * n + 1 + 1) = .bool false := by unfold zcell; rw [if_neg (by omega), if_neg (by omega)]
  have h3 : zcell (4 * n + 1 + 1 + 1) = .bool false := by unfold zcell; rw [if_neg (by omega), if_neg (by omega)]
  rw [h0, h1, h2, h3]
theorem bare_cell (n i : Nat) : blkCell (List.replicate n default) i = zcell i := by
  unfold blkCell zcell
  rw [rep_getD]
  by_cases h0 : i % 4 = 0
  · rw [if_pos h0, if_pos h0]; rfl
  · rw [if_neg h0, if_neg h0]
    by_cases h1 : i % 4 = 1
    · rw [if_pos h1, if_pos h1]; rfl
    · rw [if_neg h1, if_neg h1]
      split <;> rfl
theorem own_bare {w : World} {base n : Nat} {v : Value} (h : w.ownsRow base 46 4 v n (xsZ n)) : ∃ a c, v = .slice a n c ∧ Seq w a (4 * n) (blkCell (List.replicate n default)) := by
  rcases h.2 with ⟨hv, h0⟩ | ⟨g, cap, cur, hv, hb, hg, hnc, hm, hs, ht⟩
  · exact ⟨none, 0, by rw [hv, h0], .inl (by omega)⟩
  · refine ⟨_, cap, hv, .inr ⟨g, 0, rfl, fun i hi => ?_⟩⟩
    subst hv
    rw [Nat.zero_add, h.cellAt i (by omega), bare_cell]
    unfold xsZ
    simp [hi]
theorem own_grownG {w W : World} {base n r m size : Nat} {e ty : TypeId} {v : Value} {l : List Value} {f : Nat → Value} (hty : ty ≠ e) (h : w.ownsRow base e size v n l) (hg : w.grownBy W (some r)) (hx : w.rowIs r ty m f) : W.ownsRow base e size v n l := by
  refine ⟨h.1, ?_⟩
  rcases h.2 with h0 | ⟨g, cap, cur, hv, hb, hgg, h1, h2, h3, h4⟩
  · exact .inl h0
  · refine .inr ⟨g, cap, cur, hv, hb, ?_, h1, h2, h3, h4⟩
    rw [hg.block g (Array.getElem?_eq_some_iff.1 hgg).1 (fun e => by
      injection e with e
      subst e
      obtain ⟨c, hc, _⟩ := hx
      rw [hgg] at hc
      injection hc with hc
      injection hc with _ hc
      exact hty hc.symm)]
    exact hgg
theorem put27_row {W : World} {b : Nat} {x v z v2 : Value} (h : W.rowIs b 27 3 (fun i => ([x, v, z] : List Value).getD i undef)) : (W.setCell ⟨b, 1, none⟩ v2).rowIs b 27 3 (fun i => ([x, v2, z] : List Value).getD i undef) := by
  refine (h.set 1 v2).congr fun i hi => ?_
  match i, hi with
  | 0, _ => rfl
  | 1, _ => rfl
  | 2, _ => rfl
theorem own_slice {w : World} {base size n : Nat} {e : TypeId} {v : Value} {xs : List Value} (h : w.ownsRow base e size v n xs) : ∃ a c, v = .slice a n c := by
  rcases h.2 with ⟨hv, h0⟩ | ⟨g, cap, cur, hv, hb, hg, hnc, hm, hs, ht⟩
  · exact ⟨none, 0, by rw [hv, h0]⟩
  · exact ⟨_, cap, hv⟩
theorem KpX.belowY {B n₀ X : Nat} {w W0 W : World} (h : KpX n₀ X W0 W) (h0 : Below B w W0) (hB : B ≤ X) (hn : B ≤ n₀) : Below B w W :=
  h0.trans ⟨h.os, h.tape, h.output, h.size, fun k hk => h.block k (by omega) (by omega)⟩
theorem KpX.grownAny {n₀ X : Nat} {A B : World} {row : Option Nat} (h : A.grownBy B row) (hr : ∀ r, row = some r → n₀ ≤ r) (hn : n₀ ≤ A.heap.size) : KpX n₀ X A B :=
  ⟨h.os, h.tape, h.output, h.size, fun k hk _ => h.block k (by omega) (fun e => by have := hr k e.symm; omega)⟩
theorem cost_bare (W : World) (a : ArchV) (P : PackV) (S : SpotV) (va : Option Addr) (vc n : Nat) (hf : FewP P) (hs : FewS S) (hS : SpotAt W S) (hi : I64 P.ins) (hn : n = P.bs.length) (hv : Seq W va (4 * n) (blkCell (List.replicate n default))) (hc : checkE a P S = 0) :
    Calls Try.prog 13 #[a.val, .agg #[.int .i64 P.ins, .slice va n vc, .slice none 0 0], .agg #[.slice S.ba S.bs.length S.bc, .slice S.ia S.is.length S.ic, .slice none 0 0]] W fun e w' => e = .returned (.tuple #[.int .i64 0, .int .i64 0]) ∧ Below W.heap.size W w' := by
  have hr : (List.replicate n (default : BlkV)).length = n := List.length_replicate
  have hP : PackAt W (bareV P.ins va vc n) := by
    refine ⟨hi, by show Seq W va (4 * (List.replicate n (default : BlkV)).length) _; rw [hr]; exact hv, .inl rfl, fun b hb => ?_, fun x hx => (by cases hx), ?_, Nat.zero_le _⟩
    · obtain rfl := (List.mem_replicate.1 hb).2
      exact ⟨.inl rfl, fun x hx => (by cases hx), by unfold I64; show (-9223372036854775808 : Int) ≤ 0 ∧ (0 : Int) ≤ 9223372036854775807; omega, Nat.zero_le _⟩
    · show (List.replicate n (default : BlkV)).length ≤ 9223372036854775807
      rw [hr, hn]
      have := hf.bs
      omega
  have hfb : FewP (bareV P.ins va vc n) := by
    refine ⟨hf.ins, ?_, Nat.zero_le _, fun b hb => ?_⟩
    · show (List.replicate n (default : BlkV)).length ≤ 500
      rw [hr, hn]
      exact hf.bs
    · obtain rfl := (List.mem_replicate.1 hb).2
      exact Nat.zero_le _
  obtain ⟨h1, h2⟩ := bare_cost (T := ⟨S.ba, S.bc, S.bs, S.ia, S.ic, S.is, none, 0, []⟩) (va := va) (vc := vc) hc hn rfl
  have h := cost13 W a (bareV P.ins va vc n) ⟨S.ba, S.bc, S.bs, S.ia, S.ic, S.is, none, 0, []⟩ hP hfb ⟨hS.b, hS.i, .inl rfl, hS.bR, hS.iR, fun x hx => (by cases hx)⟩ ⟨hs.b, hs.i, Nat.zero_le _⟩
  rw [h1, h2] at h
  have hval : (bareV P.ins va vc n).val = .agg #[.int .i64 P.ins, .slice va n vc, .slice none 0 0] := by
    show Value.agg #[.int .i64 P.ins, .slice va (List.replicate n (default : BlkV)).length vc, .slice none 0 0] = _
    rw [hr]
  rw [hval] at h
  exact h
theorem seq_take {w : World} {a : Option Addr} {l : List Int} {m : Nat} (h : Seq w a l.length (ints l)) (hm : m ≤ l.length) : Seq w a m (ints (l.take m)) := by
  rcases h with h | ⟨b, off, h1, h2⟩
  · exact .inl (by omega)
  · refine .inr ⟨b, off, h1, fun i hi => ?_⟩
    rw [h2 i (by omega)]
    unfold ints
    simp [List.getD, List.getElem?_take, hi]
theorem cost_less (W : World) (a : ArchV) (P : PackV) (S : SpotV) (m : Nat) (hP : PackAt W P) (hf : FewP P) (hS : SpotAt W S) (hs : FewS S) (hm : m = P.os.length - 1) (hc : checkE a P S = 0) :
    ∃ cL, cL ≤ costV a P S ∧ Calls Try.prog 13 #[a.val, .agg #[.int .i64 P.ins, .slice P.ba P.bs.length P.bc, .slice P.oa m P.oc], .agg #[.slice S.ba S.bs.length S.bc, .slice S.ia S.is.length S.ic, .slice S.oa m S.oc]] W fun e w' => e = .returned (.tuple #[.int .i64 cL, .int .i64 0]) ∧ Below W.heap.size W w' := by
  have hol : S.os.length = P.os.length := (checkE_ok.1 hc).2.s.o
  have l1 : (P.os.take (P.os.length - 1)).length = m := by rw [List.length_take]; omega
  have l2 : (S.os.take (S.os.length - 1)).length = m := by rw [List.length_take]; omega
  obtain ⟨h1, h2⟩ := less_cost (U := ⟨S.ba, S.bc, S.bs, S.ia, S.ic, S.is, S.oa, S.oc, S.os.take (S.os.length - 1)⟩) hc rfl
  have hP2 : PackAt W (lessV P) := ⟨hP.insR, hP.blocks, by
    show Seq W P.oa (P.os.take (P.os.length - 1)).length (ints (P.os.take (P.os.length - 1)))
    rw [l1, ← hm]
    exact seq_take hP.outs (by omega), hP.each, fun x hx => hP.outsR x (List.mem_of_mem_take hx), hP.blocksL, by
    show (P.os.take (P.os.length - 1)).length ≤ _
    rw [l1]
    have := hf.os
    omega⟩
  have hS2 : SpotAt W ⟨S.ba, S.bc, S.bs, S.ia, S.ic, S.is, S.oa, S.oc, S.os.take (S.os.length - 1)⟩ := ⟨hS.b, hS.i, by
    show Seq W S.oa (S.os.take (S.os.length - 1)).length (ints (S.os.take (S.os.length - 1)))
    rw [l2, show m = S.os.length - 1 by omega]
    exact seq_take hS.o (by omega), hS.bR, hS.iR, fun x hx => hS.oR x (List.mem_of_mem_take hx)⟩
  have h := cost13 W a (lessV P) ⟨S.ba, S.bc, S.bs, S.ia, S.ic, S.is, S.oa, S.oc, S.os.take (S.os.length - 1)⟩ hP2 ⟨hf.ins, hf.bs, by show (P.os.take (P.os.length - 1)).length ≤ 500; rw [l1]; have := hf.os; omega, hf.each⟩ hS2 ⟨hs.b, hs.i, by show (S.os.take (S.os.length - 1)).length ≤ 1000; rw [l2]; have := hs.o; omega⟩
  rw [h1] at h
  have v1 : (lessV P).val = .agg #[.int .i64 P.ins, .slice P.ba P.bs.length P.bc, .slice P.oa m P.oc] := by
    show Value.agg #[.int .i64 P.ins, .slice P.ba P.bs.length P.bc, .slice P.oa (P.os.take (P.os.length - 1)).length P.oc] = _
    rw [l1]
  have v2 : SpotV.val ⟨S.ba, S.bc, S.bs, S.ia, S.ic, S.is, S.oa, S.oc, S.os.take (S.os.length - 1)⟩ = .agg #[.slice S.ba S.bs.length S.bc, .slice S.ia S.is.length S.ic, .slice S.oa m S.oc] := by
    show Value.agg #[.slice S.ba S.bs.length S.bc, .slice S.ia S.is.length S.ic, .slice S.oa (S.os.take (S.os.length - 1)).length S.oc] = _
    rw [l2]
  rw [v1, v2] at h
  exact ⟨_, h2, h⟩
end Go.Proofs.Ytholafodachjnaa
