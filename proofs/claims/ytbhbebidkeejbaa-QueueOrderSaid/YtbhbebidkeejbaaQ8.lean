/- An event more among a queue's (Insert). -/
import Derived.Test.YtbhbebidkeejbaaQ7
namespace Go.Proofs.Ytbhbebidkeejbaa
open Go.RowKit Go.Shelf
set_option linter.unusedVariables false
set_option linter.unusedSimpArgs false

theorem run_copy_rowN {P : Program} (w : World) (dT sT ty elem : TypeId) (size g o dLen dCap : Nat) (a : Addr) (sLen sCap : Nat) (cur : Array Value) (t : TypeId) (cs : List Value)
    (hu : P.underlying dT = some (.slice elem)) (hs : (P.info? elem).map (·.size) = some size)
    (hg : w.heap[g]? = some (.cells cur t (0, 0))) (hn : cs.length = Nat.min sLen dLen * size)
    (hsrc : ∀ j v, cs[j]? = some v → w.cell? (a.add j) = some v) (hfit : o + cs.length ≤ cur.size) (h1 : ∀ v ∈ cs, v.oneCell' = true) :
    (Builtin.copy_ #[dT, sT] ty #[.slice (some ⟨g, o, none⟩) dLen dCap, .slice (some a) sLen sCap]).run P w =
      .ok (goInt (Nat.min sLen dLen)) (w.setRow g (cur.toList.take o ++ cs ++ cur.toList.drop (o + cs.length)).toArray) := by
  have hl := run_loadCells_list (P := P) w a cs hsrc
  have hst := run_storeCells_at P g o t cs 0 cur w hg (by simpa using hfit) h1
  cases hq : P.info? elem with
  | none => simp [hq] at hs
  | some i =>
    have hi : i.size = size := by simpa [hq] using hs
    simp [Builtin.copy_, run_underlying hu, Builtin.lenOf, Builtin.firstCells, sizeOf, typeInfo, hq, hi, ← hn, hl, hst]
/-- What a copy leaves. -/
structure Copied (w w' : World) (g : Nat) (cur : List Value) (t : TypeId) : Prop where
  row : w'.heap[g]? = some (.cells cur.toArray t (0, 0))
  size : w'.heap.size = w.heap.size
  off : ∀ k, k ≠ g → w'.heap[k]? = w.heap[k]?
  os : w'.os = w.os
  tape : w'.tape = w.tape
  output : w'.output = w.output
theorem Copied.below {w w' : World} {g B : Nat} {cur : List Value} {t : TypeId} {w0 : World} (h : Copied w w' g cur t) (hb : Below B w0 w) (hB : B ≤ g) : Below B w0 w' :=
  hb.trans ⟨h.os, h.tape, h.output, Nat.le_of_eq h.size.symm, fun k hk => h.off k (by omega)⟩
theorem Copied.cell {w w' : World} {g b i : Nat} {cur : List Value} {t : TypeId} {v : Value} (h : Copied w w' g cur t) (hc : w.cell? ⟨b, i, none⟩ = some v) (hb : b ≠ g) : w'.cell? ⟨b, i, none⟩ = some v :=
  (World.cell?_of_block (a := ⟨b, i, none⟩) (h.off b hb)).trans hc
theorem Copied.own {w w' : World} {g : Nat} {cur : List Value} {t : TypeId} (h : Copied w w' g cur t) (j : Nat) : w'.cell? ⟨g, j, none⟩ = cur[j]? := by
  have := cell_of_row w' g j cur.toArray t (0, 0) h.row
  simpa using this
theorem wp_copyN {P : Program} {w : World} {o : Oper} {a : Act} {K : Act → World → Prop} {Q : Exit → Act → World → Prop} (d s : Operand) (dT sT : TypeId)
    (ho : o.op = .call { callee := .builtin .copy, args := #[d, s], argTypes := #[dT, sT] }) (elem : TypeId) (size : Nat) (hu : P.underlying dT = some (.slice elem)) (hsz : (P.info? elem).map (·.size) = some size)
    (g off dLen dCap : Nat) (ad : Addr) (sLen sCap : Nat) (hd : a.eval d = .slice (some ⟨g, off, none⟩) dLen dCap) (hs : a.eval s = .slice (some ad) sLen sCap)
    (cur : List Value) (t : TypeId) (hg : w.heap[g]? = some (.cells cur.toArray t (0, 0))) (cs : List Value) (hn : cs.length = Nat.min sLen dLen * size)
    (hsrc : ∀ j v, cs[j]? = some v → w.cell? (ad.add j) = some v) (hfit : off + cs.length ≤ cur.length) (h1 : ∀ v ∈ cs, v.oneCell' = true)
    (h : ∀ w', Copied w w' g (cur.take off ++ cs ++ cur.drop (off + cs.length)) t → K (a.put o.dst (goInt (Nat.min sLen dLen))) w') : o.wp P a w K Q := by
  have hr := run_copy_rowN (P := P) w dT sT o.type elem size g off dLen dCap ad sLen sCap cur.toArray t cs hu hsz hg hn hsrc (by simpa using hfit) h1
  unfold Oper.wp execOp
  simp only [ho, resolve, invoke, builtin, Sem.run_bind, Sem.run_pure, Result.andThen_ok, List.map_toArray, List.map_cons, List.map_nil, hd, hs, hr]
  exact h _ ⟨by simpa using setRow_heap w g _ _ t _ hg, by simp [World.setRow], fun k hk => setRow_other w g k _ hk, rfl, rfl, rfl⟩
theorem wpList_copyN {P : Program} {w : World} {ops : Array Oper} {rest : List Oper} {o : Oper} {a : Act} {Q : Exit → Act → World → Prop} (hgd : o.guard = none) (d s : Operand) (dT sT : TypeId)
    (ho : o.op = .call { callee := .builtin .copy, args := #[d, s], argTypes := #[dT, sT] }) (elem : TypeId) (size : Nat) (hu : P.underlying dT = some (.slice elem)) (hsz : (P.info? elem).map (·.size) = some size)
    (g off dLen dCap : Nat) (ad : Addr) (sLen sCap : Nat) (hd : a.eval d = .slice (some ⟨g, off, none⟩) dLen dCap) (hs : a.eval s = .slice (some ad) sLen sCap)
    (cur : List Value) (t : TypeId) (hg : w.heap[g]? = some (.cells cur.toArray t (0, 0))) (cs : List Value) (hn : cs.length = Nat.min sLen dLen * size)
    (hsrc : ∀ j v, cs[j]? = some v → w.cell? (ad.add j) = some v) (hfit : off + cs.length ≤ cur.length) (h1 : ∀ v ∈ cs, v.oneCell' = true)
    (h : ∀ w', Copied w w' g (cur.take off ++ cs ++ cur.drop (off + cs.length)) t → wpList P ops Q rest (a.put o.dst (goInt (Nat.min sLen dLen))) w') : wpList P ops Q (o :: rest) a w :=
  wpList_plain hgd fun _ hK => wp_copyN d s dT sT ho elem size hu hsz g off dLen dCap ad sLen sCap hd hs cur t hg cs hn hsrc hfit h1 fun w' hc => hK _ _ (h w' hc)

def insL (l : List EvV) (i : Nat) (x : EvV) : List EvV := l.take i ++ x :: l.drop i
theorem insL_length (l : List EvV) (i : Nat) (x : EvV) (h : i ≤ l.length) : (insL l i x).length = l.length + 1 := by unfold insL; simp; omega
theorem flat_take (l : List EvV) (i : Nat) (h : i ≤ l.length) : (l.take i).flatMap EvV.cells = (l.flatMap EvV.cells).take (5 * i) := by
  have e : l.flatMap EvV.cells = (l.take i).flatMap EvV.cells ++ (l.drop i).flatMap EvV.cells := by rw [← List.flatMap_append, List.take_append_drop]
  have hl : ((l.take i).flatMap EvV.cells).length = 5 * i := by rw [flat5_length, List.length_take, Nat.min_eq_left h]
  rw [e, ← hl, List.take_left]
theorem flat_drop (l : List EvV) (i : Nat) (h : i ≤ l.length) : (l.drop i).flatMap EvV.cells = (l.flatMap EvV.cells).drop (5 * i) := by
  have e : l.flatMap EvV.cells = (l.take i).flatMap EvV.cells ++ (l.drop i).flatMap EvV.cells := by rw [← List.flatMap_append, List.take_append_drop]
  have hl : ((l.take i).flatMap EvV.cells).length = 5 * i := by rw [flat5_length, List.length_take, Nat.min_eq_left h]
  rw [e, ← hl, List.drop_left]
theorem flat_ins (l : List EvV) (i : Nat) (x : EvV) (h : i ≤ l.length) : (insL l i x).flatMap EvV.cells = (l.flatMap EvV.cells).take (5 * i) ++ x.cells ++ (l.flatMap EvV.cells).drop (5 * i) := by
  unfold insL
  rw [List.flatMap_append, List.flatMap_cons, flat_take l i h, flat_drop l i h, List.append_assoc]
/-- Where a row of cells has been parted and joined, its first cells are these. -/
theorem joined {cur xs xc : List Value} {a N : Nat} (hxs : cur.take N = xs) (hl : xs.length = N) (ha : a ≤ N) (hc : xc.length = 5) (hN : N + 5 ≤ cur.length) :
    ((cur.take (a + 5) ++ xs.drop a ++ cur.drop (a + 5 + (xs.drop a).length)).take a ++ xc ++ (cur.take (a + 5) ++ xs.drop a ++ cur.drop (a + 5 + (xs.drop a).length)).drop (a + xc.length)) = xs.take a ++ xc ++ xs.drop a ++ cur.drop (N + 5) := by
  have h1 : (cur.take (a + 5)).length = a + 5 := by rw [List.length_take]; omega
  have h2 : (xs.drop a).length = N - a := by rw [List.length_drop, hl]
  have e1 : (cur.take (a + 5) ++ xs.drop a ++ cur.drop (a + 5 + (xs.drop a).length)).take a = xs.take a := by
    rw [List.append_assoc, List.take_append_of_le_length (by omega), List.take_take, ← hxs, List.take_take]
    congr 1; omega
  have e2 : (cur.take (a + 5) ++ xs.drop a ++ cur.drop (a + 5 + (xs.drop a).length)).drop (a + xc.length) = xs.drop a ++ cur.drop (N + 5) := by
    rw [List.append_assoc, hc, List.drop_left' h1, h2, show a + 5 + (N - a) = N + 5 by omega]
  rw [e1, e2]
  simp only [List.append_assoc]
end Go.Proofs.Ytbhbebidkeejbaa
