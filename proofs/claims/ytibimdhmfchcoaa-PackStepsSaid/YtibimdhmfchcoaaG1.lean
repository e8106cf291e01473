import Derived.Test.YtibimdhmfchcoaaG0
namespace Go.Proofs.Ytibimdhmfchcoaa
open Go.RowKit Go.Shelf Go.Maps
set_option linter.unusedVariables false
set_option linter.unusedSimpArgs false

/-- What is kept in the beginning. -/
def st0 (D : PackD) : List Bool := (flopsL D).map (fun i => (D.blk i).init)
def stAt (D : PackD) (inns : List (List Bool)) : Nat → List Bool
  | 0 => st0 D
  | k + 1 => evalN D (inns.getD k []) (stAt D inns k)
def eAt (D : PackD) (inns : List (List Bool)) (k : Nat) : Int := evalE D (inns.getD k []) (stAt D inns k)
def oAt (D : PackD) (inns : List (List Bool)) (k : Nat) : List Bool := evalO D (inns.getD k []) (stAt D inns k)
def runFrom (D : PackD) (inns : List (List Bool)) : Nat → Nat → Int
  | 0, _ => 0
  | f + 1, k => if eAt D inns k = 0 then runFrom D inns f (k + 1) else eAt D inns k
def runE (D : PackD) (inns : List (List Bool)) : Int := if orderE D = 0 then runFrom D inns inns.length 0 else orderE D
def runO (D : PackD) (inns : List (List Bool)) : List (List Bool) := if runE D inns = 0 then (List.range inns.length).map (oAt D inns) else []
theorem runFrom_step (D : PackD) (inns : List (List Bool)) {n k : Nat} (h : k < n) : runFrom D inns (n - k) k = if eAt D inns k = 0 then runFrom D inns (n - (k + 1)) (k + 1) else eAt D inns k := by
  obtain ⟨f, hf⟩ : ∃ f, n - k = f + 1 := ⟨n - k - 1, by omega⟩
  rw [hf, show n - (k + 1) = f by omega]
  rfl
theorem st_len (D : PackD) (inns : List (List Bool)) : ∀ k, (stAt D inns k).length ≤ D.n
  | 0 => by
    show (st0 D).length ≤ _
    unfold st0
    rw [List.length_map]; exact flopsTo_len D D.n
  | k + 1 => evalN_len D _ _
def NewRun (w : World) (D : PackD) (inns : List (List Bool)) (e : Ending) (w' : World) : Prop :=
  ∃ (a : Option Addr) (c : Nat) (rs : List RowV), e = .returned (.tuple #[.slice a rs.length c, .int .i64 (runE D inns)]) ∧ rowsL rs = runO D inns ∧ RowsAt w' a rs ∧ Below w.heap.size w w'
theorem noRun {w w' : World} {D : PackD} {inns : List (List Bool)} (h : runE D inns ≠ 0) (hb : Below w.heap.size w w') : NewRun w D inns (.returned (.tuple #[.slice none 0 0, .int .i64 (runE D inns)])) w' :=
  ⟨none, 0, [], rfl, by unfold runO; rw [if_neg h]; rfl, ⟨.inl rfl, fun i hi => by simp at hi, fun i hi => by simp at hi, by simp⟩, hb⟩
theorem Wir.set {w : World} {B g i m : Nat} {a : Option Addr} {f : Nat → Bool} {v : Value} (h : Wir w B a m f) (hg : g < B) : Wir (w.setCell ⟨g, i, none⟩ v) B a m f := by
  rcases h with h | ⟨b, ha, h1, h2, hc, hf⟩
  · exact .inl h
  · exact .inr ⟨b, ha, h1, by rw [set_size]; exact h2, fun j hj => (cell?_set_far (by omega)).trans (hc j hj), fun j => by rw [set_frozen]; exact hf j⟩
theorem info37 : (Try.prog.info? 37).map (fun i => (i.zero, i.size, i.bytes)) = some (some (.slice none 0 0), 1, 24) := by kernel_rfl
theorem rowCell_append (rs : List RowV) (r : RowV) (i : Nat) : rowCell (rs ++ [r]) i = if i = rs.length then .slice r.a r.l.length r.c else rowCell rs i := by
  unfold rowCell
  by_cases h : i = rs.length
  · subst h; simp [List.getD_eq_getElem?_getD]
  · rw [if_neg h]
    rcases Nat.lt_or_ge i rs.length with h1 | h1
    · simp [List.getD_eq_getElem?_getD, List.getElem?_append_left h1]
    · simp [List.getD_eq_getElem?_getD, List.getElem?_eq_none h1, List.getElem?_eq_none (show (rs ++ [r]).length ≤ i by simp; omega)]
theorem rows_snoc (rs : List RowV) (r : RowV) (i : Nat) (hi : i < rs.length + 1) : (rs ++ [r]).getD i default = if i = rs.length then r else rs.getD i default := by
  by_cases h : i = rs.length
  · subst h; simp [List.getD_eq_getElem?_getD]
  · rw [if_neg h]
    simp [List.getD_eq_getElem?_getD, List.getElem?_append_left (show i < rs.length by omega)]
end Go.Proofs.Ytibimdhmfchcoaa
