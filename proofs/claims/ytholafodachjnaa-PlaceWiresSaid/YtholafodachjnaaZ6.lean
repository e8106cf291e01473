/- Lists of numbers: appended, cloned, grown, joined. -/
import Derived.Test.YtholafodachjnaaZ5
import Derived.Lib.AppendZerosOnto
import Derived.Lib.SliceRun
import Derived.Laws.AppendOwnNone
/- T17 -/
namespace Go.Proofs.Ytholafodachjnaa
open Go.RowKit
set_option linter.unusedVariables false


theorem run_append_none' {P : Program} {w : World} (base : Nat) (t ty e : TypeId) (i : TypeInfo) (size : Nat) (ht : P.underlying t = some (.slice e)) (hi : P.info? e = some i)
    (v : Value) (n c : Nat) (xs : List Value) (hown : w.ownsRow base e size v n xs) :
    (Builtin.append_ #[t, t] ty #[v, .slice none 0 c]).run P w = .ok v w := by
  rcases hown.2 with ⟨rfl, rfl⟩ | ⟨g, cap, cur, rfl, _, _, hnc, _⟩
  · simp [Builtin.append_, run_underlying ht, sizeOf, typeInfo, hi, Builtin.lenOf, Builtin.firstCells]
  · simp [Builtin.append_, run_underlying ht, sizeOf, typeInfo, hi, Builtin.lenOf, Builtin.firstCells, hnc, storeCells]

/-- append of a list as it lies, wherever (or nowhere) that is. -/
theorem wpList_append_seq {P : Program} {w : World} {ops : Array Oper} {rest : List Oper} {o : Oper} {a : Act} {Q : Exit → Act → World → Prop} (hgd : o.guard = none) (s x : Operand) (t : TypeId)
    (ho : o.op = .call { callee := .builtin .append, args := #[s, x], argTypes := #[t, t] })
    (base : Nat) (e : TypeId) (i : TypeInfo) (z : Value) (bytes : Nat) (ht : P.underlying t = some (.slice e)) (hi : P.info? e = some i) (hz : i.zero = some z)
    (hsize : i.size = 1) (hby : i.bytes = bytes) (hzs : z.cells.size = 1)
    (v : Value) (n : Nat) (xs : List Value) (hs : a.eval s = v) (hown : w.ownsRow base e 1 v n xs)
    (ao : Option Addr) (m c : Nat) (news : List Value) (f : Nat → Value) (hx : a.eval x = .slice ao m c) (hl : news.length = m) (S : Seq w ao m f) (hf : ∀ j, j < m → news[j]? = some (f j)) (h1 : ∀ u ∈ news, u.oneCell' = true)
    (h63 : n + m ≤ maxLen) (hbytes : (n + m) * bytes ≤ 140737488355328) (hbase : base ≤ w.heap.size)
    (h : ∀ v' w', w'.ownsRow base e 1 v' (n + m) (xs ++ news) → w.grownBy w' v.ownBlock → wpList P ops Q rest (a.put o.dst v') w') : wpList P ops Q (o :: rest) a w := by
  cases ao with
  | none =>
    have hm : m = 0 := by rcases S with h | ⟨b, off, h, _⟩; exact h; cases h
    subst hm
    have hnews : news = [] := List.eq_nil_of_length_eq_zero hl
    subst hnews
    refine wpList_plain hgd fun K hK => ?_
    have hrun := run_append_none' (P := P) (w := w) base t o.type e i 1 ht hi v n c xs hown
    unfold Oper.wp
    simp [execOp, ho, resolve, invoke, builtin, hs, hx, hrun, Result.andThen]
    exact hK _ _ (h v w (by simpa using hown) (World.grownBy.refl _ _))
  | some ad =>
    refine wpList_append_own _ hgd s x t ho base e i z 1 bytes ht hi hz hsize hby hzs (by omega) v n xs hs hown ad m c news hx (by omega) ?_ h1 h63 hbytes hbase fun v' w' h2 h3 _ => h v' w' h2 h3
    intro j u hj
    have hjm : j < m := by rw [← hl]; exact (List.getElem?_eq_some_iff.1 hj).1
    rcases S with h | ⟨b, off, ha, hc⟩
    · omega
    · cases ha
      rw [hf j hjm] at hj
      cases hj
      rw [Addr.add_lit]; exact hc j hjm

theorem ints_get (l : List Int) (j : Nat) (h : j < l.length) : (l.map (Value.int .i64))[j]? = some (ints l j) := by
  simp [ints, List.getD, List.getElem?_eq_getElem h]
theorem ints_one (l : List Int) : ∀ u ∈ l.map (Value.int .i64), u.oneCell' = true := by
  intro u hu; obtain ⟨x, _, rfl⟩ := List.mem_map.1 hu; rfl

section
variable {w : World} {base e n : Nat} {v : Value} {l : List Int}

theorem owni_shape (h : w.ownsRow base e 1 v n (l.map (Value.int .i64))) (hn : 0 < n) : ∃ g cap, v = .slice (some ⟨g, 0, none⟩) n cap ∧ base ≤ g ∧ g < w.heap.size ∧ n ≤ cap ∧ cap ≤ maxLen ∧ ∀ j, j < n → w.cell? ⟨g, j, none⟩ = some (.int .i64 (l.getD j 0)) := by
  have hl : l.length = n := by have := h.1; simpa using this
  rcases h.2 with ⟨_, h0⟩ | ⟨g, cap, cur, hv, hb, hg, hnc, hm, hs, ht⟩
  · omega
  · subst hv
    refine ⟨g, cap, rfl, hb, (Array.getElem?_eq_some_iff.1 hg).1, hnc, hm, fun j hj => ?_⟩
    rw [h.cellAt j (by omega)]
    simp [List.getD, List.getElem?_eq_getElem (show j < l.length by omega)]

theorem owni_seq (h : w.ownsRow base e 1 v n (l.map (Value.int .i64))) : ∃ a cap, v = .slice a n cap ∧ Seq w a n (ints l) ∧ n ≤ cap ∧ cap ≤ maxLen := by
  by_cases hn : 0 < n
  · obtain ⟨g, cap, rfl, _, _, h1, h2, hc⟩ := owni_shape h hn
    exact ⟨_, cap, rfl, .inr ⟨g, 0, rfl, fun i hi => by rw [Nat.zero_add]; exact hc i hi⟩, h1, h2⟩
  · rcases h.2 with ⟨hv, h0⟩ | ⟨g, cap, cur, hv, hb, hg, hnc, hm, hs, ht⟩
    · exact ⟨none, 0, by rw [hv, h0], .inl h0, by omega, by simp [maxLen]⟩
    · exact ⟨_, cap, hv, .inl (by omega), hnc, hm⟩
end

/-- slices.Clone of ints that lie somewhere. -/
theorem cloneInts (w : World) (b off n c : Nat) (l : List Int) (hl : l.length = n) (hn : n ≤ 100000) (S : Seq w (some ⟨b, off, none⟩) n (ints l)) :
    Calls Try.prog 67 #[.slice (some ⟨b, off, none⟩) n c] w fun e w' => ∃ v, e = .returned v ∧ w'.ownsRow w.heap.size 3 1 v n (l.map (Value.int .i64)) ∧ Below w.heap.size w w' := by
  have q : ∀ (w : World) (a : Option Addr) (n c n' c' : Nat), (binOp .eql 25 (.slice a n c) (.slice none n' c')).run Try.prog w = .ok (.bool a.isNone) w := fun w a n c n' c' => Lib.run_eql_slice_nil w _ _ a n c n' c' Try.underlying25
  have HS := Lib.hid S
  have HL := Lib.hid hl
  clear S hl
  obtain ⟨i0, hi, hz0, hz1, hz2⟩ := info_parts info3
  have HB : Below w.heap.size w (w.alloc (Obj.cells #[] 3)) := (Below.refl _ _).alloc (Nat.le_refl _) _
  go_enter Try.func67, Try.ntmps67
  go_wp2_with (at_builtin; refine wpList_append_seq rfl _ _ 25 rfl w.heap.size 3 i0 (.int .i64 0) 8 Try.underlying25 hi hz0 hz1 hz2 rfl _ _ _ rfl (World.ownsRow_lit w #[] 0 (Nat.le_refl _) (Nat.zero_le _) rfl) (some ⟨b, off, none⟩) n c (l.map (Value.int .i64)) (ints l) rfl ?c1 ?c2 ?c3 (ints_one l) ?c4 ?c5 ?c6 ?_)
  case c1 => rw [List.length_map, HL.out]
  case c2 => exact HS.out.below HB (Nat.le_refl _)
  case c3 => intro j hj; exact ints_get l j (by rw [HL.out]; exact hj)
  case c4 => unfold maxLen; omega
  case c5 => omega
  case c6 => simp
  intro v' w1 hown hgrow
  go_wp2
  go_ret
  exact ⟨v', rfl, by simpa using hown, HB.grown hgrow (by simp) (by intro k hk; simp [Value.ownBlock] at hk; omega)⟩
end Go.Proofs.Ytholafodachjnaa

/- T18 -/
namespace Go.Proofs.Ytholafodachjnaa
open Go.RowKit
set_option linter.unusedVariables false

/-- A new list of ints. -/
def NewInts (w : World) (l : List Int) (e : Ending) (w' : World) : Prop :=
  ∃ v, e = .returned v ∧ w'.ownsRow w.heap.size 3 1 v l.length (l.map (Value.int .i64)) ∧ Below w.heap.size w w'

set_option maxRecDepth 100000 in
/-- slices.Grow of nothing. -/
theorem growNilI (w : World) (n : Nat) (hn : n ≤ 100000) :
    Calls Try.prog 54 #[.slice none 0 0, .int .i64 n] w (NewInts w []) := by
  by_cases h0 : n = 0
  · subst h0
    go_enter Try.func54, Try.ntmps54
    go_wp2
    go_ret
    exact ⟨_, rfl, World.ownsRow_nil _ _ _ _, Below.refl _ _⟩
  · obtain ⟨i0, hi, hz0, hz1, hz2⟩ := info_parts info3
    have hold : (Builtin.firstCells i0.size 0 (.slice none 0 0)).run Try.prog w.drew = .ok ([] : List Value).toArray w.drew := run_firstCells_none w.drew i0.size 0 0 0
    have hrz : ∀ ty, (Builtin.append_ #[25, 3] ty #[.slice none 0 0, .int .i64 (n : Int)]).run Try.prog w =
        .ok (.slice (some ⟨w.heap.size, 0, none⟩) n (grownCap w n 0 3)) (w.drew.alloc (.cells (([] : List Value).toArray ++ Builtin.zeroCells (Value.int .i64 0).cells n ++ Builtin.zeroCells (Value.int .i64 0).cells (grownCap w n 0 3 - n)) 3)) := fun ty => by
      have h := Lib.run_append_grow_zeros w 25 3 ty 3 i0 (.int .i64 0) .i64 .i64 Try.underlying25 Try.underlying3 hi hz0 none 0 0 [] hold n (by omega) (by omega) (by omega) (by omega) (by rw [hz2]; omega) (by rw [Nat.zero_add, hz2]; exact growslice_fits (by omega) (by omega))
      rw [Nat.zero_add] at h
      exact h
    have hGn : n ≤ grownCap w n 0 3 := grownCap_ge w _ _ _
    have hG63 : grownCap w n 0 3 ≤ maxLen := grownCap_le_maxLen w n 0 3 (by unfold maxLen; omega)
    have hG63' : grownCap w n 0 3 ≤ 9223372036854775807 := by unfold maxLen at hG63; omega
    obtain ⟨G, hG⟩ : ∃ G, G = grownCap w n 0 3 := ⟨_, rfl⟩
    rw [← hG] at hrz hGn hG63 hG63'
    clear hold hG
    obtain ⟨cs, hcs⟩ : ∃ cs, cs = ([] : List Value).toArray ++ Builtin.zeroCells (Value.int .i64 0).cells n ++ Builtin.zeroCells (Value.int .i64 0).cells (G - n) := ⟨_, rfl⟩
    rw [← hcs] at hrz
    have hsz : cs.size = G := by rw [hcs]; simp [Builtin.zeroCells, Value.cells]; omega
    clear hcs
    go_enter Try.func54, Try.ntmps54
    go_wp2_with (at_builtin; refine Lib.wpList_append_run _ rfl _ _ _ _ rfl _ _ rfl rfl _ _ (hrz _) ?_)
    go_ret
    refine ⟨_, rfl, ⟨by simp, .inr ⟨w.heap.size, G, cs, rfl, Nat.le_refl _, ?_, Nat.zero_le _, hG63, by rw [hsz, Nat.mul_one], by simp⟩⟩, ((Below.refl _ _).drew).alloc (Nat.le_refl _) _⟩
    exact heap_alloc_new w.drew _
end Go.Proofs.Ytholafodachjnaa

/- T19 -/
namespace Go.Proofs.Ytholafodachjnaa
open Go.RowKit
set_option linter.unusedVariables false

/-- A list of ints as it lies. -/
structure PartI where
  a : Option Addr
  c : Nat
  l : List Int

instance : Inhabited PartI := ⟨⟨none, 0, []⟩⟩

def PartsI (w : World) (b : Nat) (ps : List PartI) : Prop :=
  ∀ i, i < ps.length → w.cell? ⟨b, i, none⟩ = some (.slice (ps.getD i default).a (ps.getD i default).l.length (ps.getD i default).c) ∧ Seq w (ps.getD i default).a (ps.getD i default).l.length (ints (ps.getD i default).l) ∧ (ps.getD i default).l.length ≤ 1000

theorem PartsI.below {w w' : World} {b : Nat} {ps : List PartI} (h : PartsI w b ps) (hb : Below w.heap.size w w') : PartsI w' b ps :=
  fun i hi => ⟨(hb.cell (World.block_lt_of_cell? w _ (h i hi).1)).trans (h i hi).1, (h i hi).2.1.below hb (Nat.le_refl _), (h i hi).2.2⟩

def flatI (ps : List PartI) : Nat → List Int
  | 0 => []
  | i + 1 => flatI ps i ++ (ps.getD i default).l

theorem flatI_le (ps : List PartI) (h : ∀ i, i < ps.length → (ps.getD i default).l.length ≤ 1000) : ∀ i, i ≤ ps.length → (flatI ps i).length ≤ 1000 * i
  | 0, _ => by simp [flatI]
  | i + 1, hi => by
    have := flatI_le ps h i (by omega)
    have := h i (by omega)
    simp only [flatI, List.length_append]; omega

set_option maxRecDepth 100000 in
set_option maxHeartbeats 1000000 in
theorem concatI (w : World) (b c n : Nat) (ps : List PartI) (hn : ps.length = n) (h10 : n ≤ 10) (P : PartsI w b ps) :
    Calls Try.prog 33 #[.slice (some ⟨b, 0, none⟩) n c] w (NewInts w (flatI ps n)) := by
  have hfl := flatI_le ps (fun i hi => (P i hi).2.2)
  have HP := Lib.hid P
  have HN := Lib.hid hn
  have HFl := Lib.hid hfl
  clear hfl hn
  obtain ⟨i0, hi, hz0, hz1, hz2⟩ := info_parts info3
  clear P
  go_enter Try.func33, Try.ntmps33
  go_wp2
  go_loop [3, 11] (fun s i => ∃ j : Nat, j ≤ n ∧ i = .int .i64 j ∧ s = .int .i64 ((flatI ps j).length : Nat)) (fun _ i => n - (intOf i).toNat)
  case atStart => exact ⟨0, by omega, rfl, rfl⟩
  case round =>
    obtain ⟨j, hj, rfl, rfl⟩ := hrel
    have hs := HFl.out j (by rw [HN.out]; exact hj)
    by_cases hlt : j < n
    · obtain ⟨d0, _, hl⟩ := HP.out j (by rw [HN.out]; exact hlt)
      have hs1 : (flatI ps (j + 1)).length = (flatI ps j).length + (ps.getD j default).l.length := by simp [flatI]
      obtain ⟨s, hs0⟩ : ∃ s, s = (flatI ps j).length := ⟨_, rfl⟩
      obtain ⟨p, hp⟩ : ∃ p, p = ps.getD j default := ⟨_, rfl⟩
      rw [← hp] at d0 hl hs1
      rw [← hs0] at hs hs1 ⊢
      have HS1 := Lib.hid hs1
      obtain ⟨pa, pc, pl⟩ := p
      dsimp only at d0 hl HS1
      clear hp hs0 hs1
      obtain ⟨m, hm⟩ : ∃ m, m = pl.length := ⟨_, rfl⟩
      rw [← hm] at d0 hl HS1
      clear hm
      go_wp2
      go_round
      case rel => exact ⟨j + 1, by omega, by go_num, by rw [HS1.out]; go_num⟩
      case measure => simp [intOf]; omega
    · obtain rfl : j = n := by omega
      obtain ⟨s, hs0⟩ : ∃ s, s = (flatI ps j).length := ⟨_, rfl⟩
      rw [← hs0] at hs ⊢
      clear hs0
      go_wp2_with fail
      refine (growNilI w s (by omega)).mono ?_
      rintro e w1 ⟨v, rfl, hown, hb1⟩
      have HOwn := Lib.hid hown
      have HP1 := Lib.hid (HP.out.below hb1)
      have HB1 := Lib.hid hb1
      clear hown hb1
      go_wp2
      go_loopw [6, 27] (fun v i wr => ∃ k : Nat, k ≤ j ∧ i = .int .i64 k ∧ Hid (Below w.heap.size w wr ∧ wr.ownsRow w.heap.size 3 1 v (flatI ps k).length ((flatI ps k).map (Value.int .i64)))) (fun _ i _ => j - (intOf i).toNat)
      case atStart => exact ⟨0, by omega, rfl, HB1.out, HOwn.out⟩
      case round =>
        obtain ⟨k, hk, rfl, hh⟩ := hrel
        by_cases hlk : k < j
        · have hs1 := HFl.out (k + 1) (by rw [HN.out]; omega)
          obtain ⟨d00, hS0, _⟩ := HP.out k (by rw [HN.out]; exact hlk)
          have d0 := (hh.out.1.cell (World.block_lt_of_cell? w _ d00)).trans d00
          have hS := hS0.below hh.out.1 (Nat.le_refl _)
          have hlen : (flatI ps (k + 1)) = (flatI ps k) ++ (ps.getD k default).l := rfl
          rw [hlen, List.length_append] at hs1
          obtain ⟨p, hp⟩ : ∃ p, p = ps.getD k default := ⟨_, rfl⟩
          rw [← hp] at d0 hS hs1 hlen
          have HLen := Lib.hid hlen
          obtain ⟨pa, pc, pl⟩ := p
          dsimp only at d0 hS HLen hs1
          have HS := Lib.hid hS
          have hsz := hh.out.1.size
          clear hp hlen hS hS0 d00
          go_wp2_with (at_builtin; refine wpList_append_seq rfl _ _ 25 rfl w.heap.size 3 i0 (.int .i64 0) 8 Try.underlying25 hi hz0 hz1 hz2 rfl _ _ _ rfl hh.out.2 pa pl.length pc (pl.map (Value.int .i64)) (ints pl) rfl (List.length_map _) HS.out (ints_get pl) (ints_one pl) (by unfold maxLen; omega) (by omega) hsz ?_)
          intro v' w2 hown2 hgrow2
          have hb2 := hh.out.1.grown hgrow2 hsz (fun q e => (hh.out.2.lt q e).1)
          have HB2 := Lib.hid hb2
          have HOwn2 := Lib.hid hown2
          clear hb2 hown2 hgrow2
          go_wp2
          go_roundw
          case rel => exact ⟨k + 1, by omega, by go_num, HB2.out, by rw [HLen.out, List.length_append, List.map_append]; exact HOwn2.out⟩
          case measure => simp [intOf]; omega
        · obtain rfl : k = j := by omega
          go_wp2
          go_ret
          exact ⟨_, rfl, hh.out.2, hh.out.1⟩
end Go.Proofs.Ytholafodachjnaa

