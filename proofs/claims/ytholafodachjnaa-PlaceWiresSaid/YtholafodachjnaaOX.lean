import Derived.Test.YtholafodachjnaaAX
import Derived.ProofKit
import Derived.OpenShut
import Derived.ShutString
import Derived.ChangeOld
import Derived.Lib.SmallJoins
import Derived.Deep.SlicePairs
import Derived.Test.YtholafodachjnaaBM
import Derived.Test.YtholafodachjnaaZ2
/- Open -/
/- How the arguments' readings, as the row gives them, are the readings that the walks take. -/
namespace Go.Proofs.Ytholafodachjnaa
open Go.ChangeShapes Go.WideShapes Go.ChangeAt Go.RowKit Go.Joins Go.Deep
set_option maxRecDepth 100000

section
variable {H : Type} {enc : TypeId × Value → H} {w : World} {base : Nat} {spare : Nat → Bool} {held : Bool} {fuel : Nat}

theorem wf64 {x : Int} (h : (Lit.int .i64 x).wf = true) : I64 x := by
  simp only [Lit.wf, Bool.and_eq_true, decide_eq_true_eq] at h
  exact h
theorem seq_of {a : Addr} {n : Nat} {f : Nat → Value} (h : ∀ i, i < n → w.cell? (a.add i) = some (f i)) : Seq w (some a) n f := by
  by_cases hn : n = 0
  · exact .inl hn
  · obtain ⟨b, off, spot⟩ := a
    have h0 := h 0 (by omega)
    have hs : spot = none := by simpa [Addr.add] using World.cell?_spot h0
    subst hs
    refine .inr ⟨b, off, rfl, fun i hi => ?_⟩
    have := h i hi
    rwa [Addr.add_lit] at this

theorem read_ints {cs : List Value} {x : DataW H × List MemPlace} (h : DataW.trod enc Try.prog w base spare held fuel 25 cs = some x) :
    ∃ a c l, cs = [.slice a l.length c] ∧ Seq w a l.length (ints l) ∧ (∀ x ∈ l, I64 x) ∧ l.length ≤ 9223372036854775807 := by
  rcases open_ints Try.underlying25 Try.underlying3 (by kernel_rfl) h with ⟨rfl, _⟩ | ⟨a, len, cap, zs, rfl, _, hl, hm, hz, _, hc, hw⟩
  · exact ⟨none, 0, [], rfl, .inl rfl, by simp, by simp⟩
  · have hle : len ≤ zs.length := by rw [hz]; split <;> omega
    have hlen : (zs.take len).length = len := by rw [List.length_take]; omega
    refine ⟨some a, cap, zs.take len, by rw [hlen], ?_, fun x hx => wf64 (hw x (List.mem_of_mem_take hx)), by rw [hlen]; unfold maxLen at hm; omega⟩
    rw [hlen]
    refine seq_of fun i hi => ?_
    rw [hc i (by omega)]
    simp [ints, List.getD, hi]

end
end Go.Proofs.Ytholafodachjnaa

/- Open3 -/
/- How blocks, as the row gives them, read. -/
namespace Go.Proofs.Ytholafodachjnaa
open Go.ChangeShapes Go.WideShapes Go.ChangeAt Go.RowKit Go.Joins Go.Deep
set_option maxRecDepth 100000

section
variable {H : Type} {enc : TypeId × Value → H} {w : World} {base : Nat} {spare : Nat → Bool} {held : Bool} {fuel : Nat}

/-- A slice of structs of k fields of one cell each: what each cell holds. -/
theorem open_flat {P : Program} {t e : TypeId} {fs : Array Field} {k : Nat} {cs : List Value} {x : DataW H × List MemPlace} (ht : P.underlying t = some (.slice e)) (he : P.underlying e = some (.struct fs)) (ce : P.cellsOf e = k)
    (ho : ∀ j f, fs[j]? = some f → j < k ∧ f.offset = j ∧ P.cellsOf f.type = 1) (h : DataW.trod enc P w base spare held fuel t cs = some x) :
    cs = [.slice none 0 0] ∨ ∃ (a : Addr) (len cap n : Nat), cs = [.slice (some a) len cap] ∧ len ≤ cap ∧ cap ≤ maxLen ∧
      ∀ i, i < len → ∀ j f, fs[j]? = some f → ∃ v y, w.cell? (a.add (i * k + j)) = some v ∧ DataW.trod enc P w base spare held n f.type [v] = some y := by
  rcases open_slice ht h with ⟨h0, _⟩ | ⟨a, len, cap, m, n, D, Pl, rfl, hb, hl, hm, hmm, rfl, hx⟩
  · exact Or.inl h0
  refine Or.inr ⟨a, len, cap, n - 1, rfl, hl, hm, fun i hi j f hf => ?_⟩
  have hlm : len ≤ m := by rw [hmm]; split <;> omega
  obtain ⟨cs', h1, h2⟩ := hx i (by omega)
  rw [ce] at h1
  obtain ⟨_, hlen, hcell⟩ := World.cells?_some h1
  obtain ⟨xs, q, hk, hxy, hcl, hxl, hfs⟩ := DataW.trod_struct he h2
  obtain rfl : q = n - 1 := by omega
  obtain ⟨hj, o1, c1⟩ := ho j f hf
  have g := hfs j f hf
  rw [o1, c1] at g
  have hjx : j < xs.length := by
    rw [hxl]; exact (Array.getElem?_eq_some_iff.1 hf).1
  have hd : (cs'.drop j).take 1 = [cs'[j]'(by omega)] := by
    rw [List.drop_eq_getElem_cons (by omega)]; rfl
  rw [hd, List.getElem?_eq_getElem hjx] at g
  have hc := hcell j hj
  rw [add_add, List.getElem?_eq_getElem (by omega)] at hc
  exact ⟨_, _, hc, g⟩

theorem read_blocks {cs : List Value} {x : DataW H × List MemPlace} (h : DataW.trod enc Try.prog w base spare held fuel 24 cs = some x) :
    ∃ (a : Option Addr) (c : Nat) (ll : List BlkV), cs = [.slice a ll.length c] ∧ Seq w a (4 * ll.length) (blkCell ll) ∧ (∀ b ∈ ll, Seq w b.a b.ins.length (ints b.ins) ∧ (∀ x ∈ b.ins, I64 x) ∧ I64 b.tab ∧ b.ins.length ≤ 9223372036854775807) ∧ ll.length ≤ 9223372036854775807 := by
  rcases open_flat (k := 4) Try.underlying24 Try.underlying46 (by kernel_rfl) (by
    intro j f hf
    match j, hf with
    | 0, hf => simp at hf; subst hf; exact ⟨by omega, rfl, by kernel_rfl⟩
    | 1, hf => simp at hf; subst hf; exact ⟨by omega, rfl, by kernel_rfl⟩
    | 2, hf => simp at hf; subst hf; exact ⟨by omega, rfl, by kernel_rfl⟩
    | 3, hf => simp at hf; subst hf; exact ⟨by omega, rfl, by kernel_rfl⟩
    | j + 4, hf => simp at hf) h with rfl | ⟨a, len, cap, n, rfl, hl, hm, hx⟩
  · exact ⟨none, 0, [], rfl, .inl rfl, by simp, by simp⟩
  · have each : ∀ i, i < len → ∃ v : BlkV, w.cell? (a.add (i * 4)) = some (.slice v.a v.ins.length v.c) ∧ w.cell? (a.add (i * 4 + 1)) = some (.int .i64 v.tab) ∧ w.cell? (a.add (i * 4 + 2)) = some (.bool v.ff) ∧ w.cell? (a.add (i * 4 + 3)) = some (.bool v.init) ∧
        Seq w v.a v.ins.length (ints v.ins) ∧ (∀ x ∈ v.ins, I64 x) ∧ I64 v.tab ∧ v.ins.length ≤ 9223372036854775807 := by
      intro i hi
      obtain ⟨v0, y0, h0, t0⟩ := hx i hi 0 _ rfl
      obtain ⟨v1, y1, h1, t1⟩ := hx i hi 1 _ rfl
      obtain ⟨v2, y2, h2, t2⟩ := hx i hi 2 _ rfl
      obtain ⟨v3, y3, h3, t3⟩ := hx i hi 3 _ rfl
      obtain ⟨la, lc, ll, e0, s0, r0, b0⟩ := read_ints t0
      obtain ⟨u, e1, _, wu⟩ := DataW.trod_int Try.underlying3 t1
      obtain ⟨f, e2, _⟩ := DataW.trod_bool Try.underlying4 t2
      obtain ⟨g, e3, _⟩ := DataW.trod_bool Try.underlying4 t3
      simp at e0 e1 e2 e3
      exact ⟨⟨la, lc, ll, u, f, g⟩, by rw [Nat.add_zero] at h0; rw [h0, e0], by rw [h1, e1], by rw [h2, e2], by rw [h3, e3], s0, r0, wf64 wu, b0⟩
    obtain ⟨F, hF⟩ := choose_lt each
    have hlen : ((List.range len).map F).length = len := by simp
    have hget : ∀ k, k < len → ((List.range len).map F).getD k default = F k := fun k hk => by simp [List.getD, hk]
    refine ⟨some a, cap, (List.range len).map F, by rw [hlen], ?_, fun x hx => ?_, by rw [hlen]; unfold maxLen at hm; omega⟩
    · rw [hlen]
      refine seq_of fun i hi => ?_
      have hk : i / 4 < len := by omega
      obtain ⟨c0, c1, c2, c3, _⟩ := hF (i / 4) hk
      simp only [blkCell, hget _ hk]
      by_cases p0 : i % 4 = 0
      · rw [if_pos p0, ← c0]; congr 2; omega
      · rw [if_neg p0]
        by_cases p1 : i % 4 = 1
        · rw [if_pos p1, ← c1]; congr 2; omega
        · rw [if_neg p1]
          by_cases p2 : i % 4 = 2
          · rw [if_pos p2, ← c2]; congr 2; omega
          · rw [if_neg p2, ← c3]; congr 2; omega
    · obtain ⟨k, hk, rfl⟩ := List.mem_map.1 hx
      exact (hF k (List.mem_range.1 hk)).2.2.2.2

theorem Try.cells31 : Try.prog.cellsOf 27 = 3 := by kernel_rfl

/-- BLOCKS THAT CAME IN. -/
theorem read_pack {r : Reach} {b0 : Nat} {v : Value} {d : DataW H} {p : List MemPlace} (hv : Value.okWide Try.prog w r b0 27 v) (h : DataW.Trod enc Try.prog w base spare held 27 v d p) :
    ∃ P : PackV, v = P.val ∧ PackAt w P := by
  obtain ⟨v0, v1, v2, y0, y1, y2, n, rfl, _, _, h0, h1, h2⟩ := open_agg3 Try.underlying27 (by kernel_rfl) Try.cells31 hv h
  obtain ⟨i, e0, _, wi⟩ := DataW.trod_int Try.underlying3 h0
  obtain ⟨ha, hc, hl, e1, s1, r1, b1⟩ := read_blocks h1
  obtain ⟨oa, oc, ol, e2, s2, r2, b2⟩ := read_ints h2
  simp at e0 e1 e2
  subst e0 e1 e2
  exact ⟨⟨i, ha, hc, hl, oa, oc, ol⟩, rfl, wf64 wi, s1, s2, r1, r2, b1, b2⟩
end
end Go.Proofs.Ytholafodachjnaa

/- Open5 -/
/- How fabrics, spots and draws, as the row gives them, read; and lists with the room that they have. -/
namespace Go.Proofs.Ytholafodachjnaa
open Go.ChangeShapes Go.WideShapes Go.ChangeAt Go.RowKit Go.Joins Go.Deep
set_option maxRecDepth 100000

section
variable {H : Type} {enc : TypeId × Value → H} {w : World} {base : Nat} {spare : Nat → Bool} {held : Bool} {fuel : Nat}

theorem read_intsc {cs : List Value} {x : DataW H × List MemPlace} (h : DataW.trod enc Try.prog w base spare held fuel 25 cs = some x) :
    ∃ a c l, cs = [.slice a l.length c] ∧ Seq w a l.length (ints l) ∧ (∀ x ∈ l, I64 x) ∧ l.length ≤ 9223372036854775807 ∧ l.length ≤ c := by
  rcases open_ints Try.underlying25 Try.underlying3 (by kernel_rfl) h with ⟨rfl, _⟩ | ⟨a, len, cap, zs, rfl, _, hl, hm, hz, _, hc, hw⟩
  · exact ⟨none, 0, [], rfl, .inl rfl, by simp, by simp, by simp⟩
  · have hle : len ≤ zs.length := by rw [hz]; split <;> omega
    have hlen : (zs.take len).length = len := by rw [List.length_take]; omega
    refine ⟨some a, cap, zs.take len, by rw [hlen], ?_, fun x hx => wf64 (hw x (List.mem_of_mem_take hx)), by rw [hlen]; unfold maxLen at hm; omega, by rw [hlen]; exact hl⟩
    rw [hlen]
    refine seq_of fun i hi => ?_
    rw [hc i (by omega)]
    simp [ints, List.getD, hi]
theorem Try.cells23 : Try.prog.cellsOf 23 = 3 := by kernel_rfl
theorem Try.cells29 : Try.prog.cellsOf 29 = 3 := by kernel_rfl
/-- BLOCKS THAT CAME IN, with the room of what goes out. -/
theorem read_packc {r : Reach} {b0 : Nat} {v : Value} {d : DataW H} {p : List MemPlace} (hv : Value.okWide Try.prog w r b0 27 v) (h : DataW.Trod enc Try.prog w base spare held 27 v d p) :
    ∃ P : PackV, v = P.val ∧ PackAt w P ∧ P.os.length ≤ P.oc := by
  obtain ⟨v0, v1, v2, y0, y1, y2, n, rfl, _, _, h0, h1, h2⟩ := open_agg3 Try.underlying27 (by kernel_rfl) Try.cells31 hv h
  obtain ⟨i, e0, _, wi⟩ := DataW.trod_int Try.underlying3 h0
  obtain ⟨ha, hc, hl, e1, s1, r1, b1⟩ := read_blocks h1
  obtain ⟨oa, oc, ol, e2, s2, r2, b2, c2⟩ := read_intsc h2
  simp at e0 e1 e2
  subst e0 e1 e2
  exact ⟨⟨i, ha, hc, hl, oa, oc, ol⟩, rfl, ⟨wf64 wi, s1, s2, r1, r2, b1, b2⟩, c2⟩
/-- A FABRIC THAT CAME IN. -/
theorem read_arch {r : Reach} {b0 : Nat} {v : Value} {d : DataW H} {p : List MemPlace} (hv : Value.okWide Try.prog w r b0 23 v) (h : DataW.Trod enc Try.prog w base spare held 23 v d p) :
    ∃ a : ArchV, v = a.val ∧ ArchR a := by
  obtain ⟨v0, v1, v2, y0, y1, y2, n, rfl, _, _, h0, h1, h2⟩ := open_agg3 Try.underlying23 (by kernel_rfl) Try.cells23 hv h
  obtain ⟨i, e0, _, wi⟩ := DataW.trod_int Try.underlying3 h0
  obtain ⟨j, e1, _, wj⟩ := DataW.trod_int Try.underlying3 h1
  obtain ⟨k, e2, _, wk⟩ := DataW.trod_int Try.underlying3 h2
  simp at e0 e1 e2
  subst e0 e1 e2
  exact ⟨⟨i, j, k⟩, rfl, wf64 wi, wf64 wj, wf64 wk⟩
/-- SPOTS THAT CAME IN. -/
theorem read_spots {r : Reach} {b0 : Nat} {v : Value} {d : DataW H} {p : List MemPlace} (hv : Value.okWide Try.prog w r b0 29 v) (h : DataW.Trod enc Try.prog w base spare held 29 v d p) :
    ∃ S : SpotV, v = S.val ∧ SpotAt w S ∧ S.os.length ≤ S.oc := by
  obtain ⟨v0, v1, v2, y0, y1, y2, n, rfl, _, _, h0, h1, h2⟩ := open_agg3 Try.underlying29 (by kernel_rfl) Try.cells29 hv h
  obtain ⟨ba, bc, bl, e0, s0, r0, b0, c0⟩ := read_intsc h0
  obtain ⟨ia, ic, il, e1, s1, r1, b1, c1⟩ := read_intsc h1
  obtain ⟨oa, oc, ol, e2, s2, r2, b2, c2⟩ := read_intsc h2
  simp at e0 e1 e2
  subst e0 e1 e2
  exact ⟨⟨ba, bc, bl, ia, ic, il, oa, oc, ol⟩, rfl, ⟨s0, s1, s2, r0, r1, r2⟩, c2⟩
/-- DRAWS THAT CAME IN. -/
theorem read_draws {v : Value} {d : DataW H} {p : List MemPlace} {r : Reach} {b0 : Nat} (hv : Value.okWide Try.prog w r b0 25 v) (h : DataW.Trod enc Try.prog w base spare held 25 v d p) :
    ∃ a c l, v = .slice a l.length c ∧ Seq w a l.length (ints l) ∧ (∀ x ∈ l, I64 x) ∧ l.length ≤ 9223372036854775807 ∧ l.length ≤ c := by
  obtain ⟨a0, len0, cap0, rfl⟩ := okWide_slice Try.underlying25 hv
  obtain ⟨f, hf⟩ := h
  obtain ⟨a, c, l, e, s, b⟩ := read_intsc hf
  simp [Value.cells] at e
  obtain ⟨rfl, rfl, rfl⟩ := e
  exact ⟨_, _, l, rfl, s, b⟩
end
end Go.Proofs.Ytholafodachjnaa
