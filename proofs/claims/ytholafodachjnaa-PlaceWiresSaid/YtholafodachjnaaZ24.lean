/- Two numbers changed for each other in a list. -/
import Derived.Test.YtholafodachjnaaZ23
namespace Go.Proofs.Ytholafodachjnaa
open Go.RowKit Go.Shelf
set_option linter.unusedVariables false
set_option linter.unusedSimpArgs false

set_option maxRecDepth 100000 in
set_option maxHeartbeats 2000000 in
theorem clone67 (w : World) (a : Option Addr) (n c : Nat) (l : List Int) (hl : l.length = n) (hn : n ≤ 100000) (S : Seq w a n (ints l)) :
    Calls Try.prog 67 #[.slice a n c] w fun e w' => ∃ v, e = .returned v ∧ w'.ownsRow w.heap.size 3 1 v n (l.map (Value.int .i64)) ∧ Below w.heap.size w w' := by
  have q : ∀ (w : World) (a : Option Addr) (n c n' c' : Nat), (binOp .eql 25 (.slice a n c) (.slice none n' c')).run Try.prog w = .ok (.bool a.isNone) w := fun w a n c n' c' => Lib.run_eql_slice_nil w _ _ a n c n' c' Try.underlying25
  cases a with
  | none =>
    have h0 : n = 0 := by
      rcases S with h | ⟨b, off, h, _⟩
      · exact h
      · cases h
    subst h0
    have hl0 : l = [] := List.length_eq_zero_iff.1 hl
    subst hl0
    clear S hl
    go_enter Try.func67, Try.ntmps67
    go_wp2_with fail
    go_ret
    exact ⟨.slice none 0 0, rfl, World.ownsRow_nil _ _ _ _, Below.refl _ _⟩
  | some ad =>
    have HS := Lib.hid S
    have HL := Lib.hid hl
    clear S hl
    obtain ⟨i0, hi, hz0, hz1, hz2⟩ := info_parts info3
    have HB : Below w.heap.size w (w.alloc (Obj.cells #[] 3)) := (Below.refl _ _).alloc (Nat.le_refl _) _
    go_enter Try.func67, Try.ntmps67
    go_wp2_with (at_builtin; refine wpList_append_seq rfl _ _ 25 rfl w.heap.size 3 i0 (.int .i64 0) 8 Try.underlying25 hi hz0 hz1 hz2 rfl _ _ _ rfl (World.ownsRow_lit w #[] 0 (Nat.le_refl _) (Nat.zero_le _) rfl) (some ad) n c (l.map (Value.int .i64)) (ints l) rfl ?c1 ?c2 ?c3 (ints_one l) ?c4 ?c5 ?c6 ?_)
    case c1 => rw [List.length_map, HL.out]
    case c2 => exact HS.out.below HB (Nat.le_refl _)
    case c3 => intro j hj; exact ints_get l j (by rw [HL.out]; exact hj)
    case c4 => unfold maxLen; omega
    case c5 => omega
    case c6 => simp
    intro v' w1 hown hgrow
    go_wp2
    go_ret
    exact ⟨v', rfl, by simpa using hown, HB.grown hgrow (by simp) (by intro k hk; simp [Value.ownBlock] at hk; omega)⟩
/-- The first i turned, the others as they were. -/
def turnTo (m k : Int) (l : List Int) (i : Nat) : List Int := turnL m k (l.take i) ++ l.drop i
theorem turnTo_zero (m k : Int) (l : List Int) : turnTo m k l 0 = l := by unfold turnTo; simp [turnL]
theorem turnTo_len (m k : Int) (l : List Int) (i : Nat) : (turnTo m k l i).length = l.length := by unfold turnTo; rw [List.length_append, turnL_len, List.length_take, List.length_drop]; omega
theorem turnTo_all (m k : Int) (l : List Int) : turnTo m k l l.length = turnL m k l := by unfold turnTo; rw [List.take_length, List.drop_length, List.append_nil]
theorem turnTo_succ (m k : Int) (l : List Int) (i : Nat) (hi : i < l.length) : turnTo m k l (i + 1) = (turnTo m k l i).set i (turnF m k (l.getD i 0)) := by
  have e : l.getD i 0 = l[i] := by simp [List.getD, List.getElem?_eq_getElem hi]
  unfold turnTo
  rw [List.take_add_one, List.getElem?_eq_getElem hi]
  have ht : (l.take i).length = i := by rw [List.length_take]; omega
  rw [List.set_append_right (h := by rw [turnL_len, ht]; exact Nat.le_refl _), turnL_len, ht, Nat.sub_self, List.drop_eq_getElem_cons hi]
  rw [e]
  unfold turnL
  rw [List.map_append, List.append_assoc]
  rfl
theorem set_getD_same (l : List Int) (i : Nat) (x : Int) (h : l.getD i 0 = x) (hi : i < l.length) : l.set i x = l := by
  have e : l.getD i 0 = l[i] := by simp [List.getD, List.getElem?_eq_getElem hi]
  rw [← h, e]
  exact List.set_getElem_self hi
theorem turnTo_get (m k : Int) (l : List Int) (i : Nat) (hi : i < l.length) : (turnTo m k l i).getD i 0 = l.getD i 0 := by
  unfold turnTo
  have ht : (l.take i).length = i := by rw [List.length_take]; omega
  rw [List.getD_eq_getElem?_getD, List.getElem?_append_right (by rw [turnL_len, ht]; exact Nat.le_refl _), turnL_len, ht, Nat.sub_self, List.getElem?_drop, Nat.add_zero, ← List.getD_eq_getElem?_getD]
theorem turnTo_skip (m k : Int) (l : List Int) (i : Nat) (hi : i < l.length) (h1 : ¬ l.getD i 0 = m) (h2 : ¬ l.getD i 0 = k) : turnTo m k l (i + 1) = turnTo m k l i := by
  rw [turnTo_succ m k l i hi]
  refine set_getD_same _ _ _ ?_ (by rw [turnTo_len]; exact hi)
  rw [turnTo_get m k l i hi]
  unfold turnF
  rw [if_neg h1, if_neg h2]
theorem own_set {w : World} {base n : Nat} {v : Value} {l : List Int} (h : w.ownsRow base 3 1 v n (l.map (Value.int .i64))) (i : Nat) (hi : i < n) : ∃ g c, v = .slice (some ⟨g, 0, none⟩) n c ∧ base ≤ g ∧ g < w.heap.size ∧ w.cell? ⟨g, i, none⟩ = some (.int .i64 (l.getD i 0)) ∧ w.frozen? ⟨g, i, none⟩ = false ∧
    ∀ x, (w.setCell ⟨g, i, none⟩ (.int .i64 x)).ownsRow base 3 1 v n ((l.set i x).map (Value.int .i64)) := by
  obtain ⟨g, cap, rfl, hb, hg, hnc, hm, hc⟩ := owni_shape h (by omega)
  refine ⟨g, cap, rfl, hb, hg, hc i hi, ?_, fun x => ?_⟩
  · exact (RowAt.mk (c := cap) (by have := h.1; simpa using this) h).frozen i
  · rw [List.map_set]
    exact (own_store h i (.int .i64 x)).1
set_option maxRecDepth 100000 in
set_option maxHeartbeats 4000000 in
theorem swapped57 (w : World) (a : Option Addr) (n c : Nat) (l : List Int) (m k : Int) (hl : l.length = n) (hn : n ≤ 100000) (S : Seq w a n (ints l)) :
    Calls Try.prog 57 #[.slice a n c, .int .i64 m, .int .i64 k] w fun e w' => ∃ b d, e = .returned (.slice b n d) ∧ w'.ownsRow w.heap.size 3 1 (.slice b n d) n ((turnL m k l).map (Value.int .i64)) ∧ Below w.heap.size w w' := by
  have HCl : Hid (Calls Try.prog 67 #[.slice a n c] w fun e w' => ∃ v, e = .returned v ∧ w'.ownsRow w.heap.size 3 1 v n (l.map (Value.int .i64)) ∧ Below w.heap.size w w') := Lib.hid (clone67 w a n c l hl hn S)
  have HS := Lib.hid S
  have HL := Lib.hid hl
  clear S hl
  go_enter Try.func57, Try.ntmps57
  go_wp2_with fail
  refine Calls.mono HCl.out ?_
  rintro e w1 ⟨v, rfl, hown, hb⟩
  have HI0 : Hid (w1.ownsRow w.heap.size 3 1 v n ((turnTo m k l 0).map (Value.int .i64)) ∧ Below w.heap.size w w1) := Lib.hid ⟨by rw [turnTo_zero]; exact hown, hb⟩
  clear hown hb HCl
  go_wp2_with fail
  go_loopw [8, 9, 14] (fun _ _ iv wr => ∃ i : Nat, i ≤ n ∧ iv = .int .i64 i ∧ Hid (wr.ownsRow w.heap.size 3 1 v n ((turnTo m k l i).map (Value.int .i64)) ∧ Below w.heap.size w wr)) (fun _ _ iv _ => n - (intOf iv).toNat)
  case atStart => exact ⟨0, by omega, rfl, HI0⟩
  case round =>
    obtain ⟨i, hi, rfl, HI⟩ := hrel
    by_cases hlt : i < n
    · obtain ⟨b, o, rfl, hb1, hc1⟩ := (HS.out.below HI.out.2 (Nat.le_refl _)).at i hlt
      have d0 := hc1 i hlt
      unfold ints at d0
      obtain ⟨g, cg, rfl, hg0, hg1, hcell, hfr, hset⟩ := own_set HI.out.1 i hlt
      have hil : i < l.length := by rw [HL.out]; exact hlt
      have hsucc := turnTo_succ m k l i hil
      have hskip := turnTo_skip m k l i hil
      obtain ⟨x, hx⟩ : ∃ x, x = l.getD i 0 := ⟨_, rfl⟩
      rw [← hx] at d0 hsucc hskip
      have HSet := Lib.hid hset
      have HSu := Lib.hid hsucc
      have HSk := Lib.hid hskip
      have HBe : ∀ y : Int, Hid (Below w.heap.size w (wr.setCell ⟨g, i, none⟩ (.int .i64 y))) := fun y => Lib.hid (HI.out.2.setCell hg0 _)
      clear hb1 hc1 hset hsucc hskip hil hx HI0
      by_cases h1 : x = m
      · subst h1
        have hf : turnF x k x = k := by unfold turnF; rw [if_pos rfl]
        have HF := Lib.hid hf
        clear hf
        go_wp2_with fail
        go_roundw
        case rel => exact ⟨i + 1, by omega, by go_num, Lib.hid ⟨by rw [HSu.out, HF.out]; exact HSet.out k, (HBe k).out⟩⟩
        case measure => simp [intOf]; omega
      · have h1b : (x == m) = false := by simpa using h1
        by_cases h2 : x = k
        · subst h2
          have hf : turnF m x x = m := by unfold turnF; rw [if_neg h1, if_pos rfl]
          have HF := Lib.hid hf
          clear hf
          go_wp2_with fail
          go_roundw
          case rel => exact ⟨i + 1, by omega, by go_num, Lib.hid ⟨by rw [HSu.out, HF.out]; exact HSet.out m, (HBe m).out⟩⟩
          case measure => simp [intOf]; omega
        · have h2b : (x == k) = false := by simpa using h2
          go_wp2_with fail
          go_roundw
          case rel => exact ⟨i + 1, by omega, by go_num, Lib.hid ⟨by rw [HSk.out h1 h2]; exact HI.out.1, HI.out.2⟩⟩
          case measure => simp [intOf]; omega
    · obtain rfl : i = n := by omega
      have hown := HI.out.1
      rw [show turnTo m k l i = turnL m k l by rw [← HL.out]; exact turnTo_all m k l] at hown
      obtain ⟨b, d, rfl, hsq⟩ := owni_lat hown
      have HSq := Lib.hid hown
      clear hown hsq
      go_wp2_with fail
      go_ret
      exact ⟨b, d, rfl, HSq.out, HI.out.2⟩
theorem turnL_take (m k : Int) (l : List Int) (i : Nat) (hi : i < l.length) : turnL m k (l.take (i + 1)) = turnL m k (l.take i) ++ [turnF m k (l.getD i 0)] := by
  have e : l.getD i 0 = l[i] := by simp [List.getD, List.getElem?_eq_getElem hi]
  rw [e, List.take_add_one, List.getElem?_eq_getElem hi]
  unfold turnL
  rw [List.map_append]
  rfl
set_option maxRecDepth 100000 in
set_option maxHeartbeats 4000000 in
theorem turned58 (w : World) (a : Option Addr) (n c : Nat) (l : List Int) (m k : Int) (hl : l.length = n) (hn : n ≤ 100000) (S : Seq w a n (ints l)) :
    Calls Try.prog 58 #[.slice a n c, .int .i64 m, .int .i64 k] w fun e w' => ∃ b d, e = .returned (.slice b n d) ∧ w'.ownsRow w.heap.size 3 1 (.slice b n d) n ((turnL m k l).map (Value.int .i64)) ∧ Below w.heap.size w w' := by
  have HS := Lib.hid S
  have HL := Lib.hid hl
  clear S hl
  obtain ⟨i3, hi3, hz0, hz1, hz2⟩ := info_parts info3
  go_enter Try.func58, Try.ntmps58
  go_wp2_with fail
  go_loopw [7, 8, 9] (fun v iv _ wr => ∃ i : Nat, i ≤ n ∧ iv = .int .i64 i ∧ Hid (wr.ownsRow w.heap.size 3 1 v i ((turnL m k (l.take i)).map (Value.int .i64)) ∧ Below w.heap.size w wr)) (fun _ iv _ _ => n - (intOf iv).toNat)
  case atStart => exact ⟨0, by omega, rfl, Lib.hid ⟨World.ownsRow_nil _ _ _ _, Below.refl _ _⟩⟩
  case round =>
    obtain ⟨i, hi, rfl, HI⟩ := hrel
    by_cases hlt : i < n
    · obtain ⟨b, o, rfl, hb1, hc1⟩ := (HS.out.below HI.out.2 (Nat.le_refl _)).at i hlt
      have d0 := hc1 i hlt
      unfold ints at d0
      have hil : i < l.length := by rw [HL.out]; exact hlt
      have hsucc := turnL_take m k l i hil
      obtain ⟨x, hx⟩ : ∃ x, x = l.getD i 0 := ⟨_, rfl⟩
      rw [← hx] at d0 hsucc
      have HSu := Lib.hid hsucc
      have hnew : ∀ y : Int, ∀ (j : Nat) (u : Value), [Value.int .i64 y][j]? = some u → (wr.alloc (.cells #[.int .i64 y] 3)).cell? (Addr.add ⟨wr.heap.size, 0, none⟩ j) = some u := by
        intro y j u hj
        match j, hj with
        | 0, hj => simp at hj; subst hj; simp [Addr.add]
        | j + 1, hj => simp at hj
      have HNew := Lib.hid hnew
      have HB1 : ∀ y : Int, Hid (Below w.heap.size w (wr.alloc (.cells #[.int .i64 y] 3))) := fun y => Lib.hid (HI.out.2.alloc HI.out.2.size _)
      have HOw : ∀ y : Int, Hid ((wr.alloc (.cells #[.int .i64 y] 3)).ownsRow w.heap.size 3 1 u7 i ((turnL m k (l.take i)).map (Value.int .i64))) := fun y => Lib.hid (own_below HI.out.1 ((Below.refl wr.heap.size wr).alloc (Nat.le_refl _) _))
      clear hb1 hc1 hsucc hil hx hnew
      by_cases h1 : x = m
      · subst h1
        have hf : turnF x k x = k := by unfold turnF; rw [if_pos rfl]
        have HF := Lib.hid hf
        clear hf
        go_wp2_with (at_builtin; go_loud (refine wpList_append_own _ rfl _ _ 25 rfl w.heap.size 3 i3 (.int .i64 0) 1 8 Try.underlying25 hi3 hz0 hz1 hz2 rfl (by decide) _ _ _ rfl (HOw k).out ⟨wr.heap.size, 0, none⟩ 1 1 [.int .i64 k] rfl rfl (HNew.out k) (by intro u hu; simp at hu; subst hu; rfl) (by unfold maxLen; omega) (by omega) (HB1 k).out.size ?_; intro v2 w2 ho2 hg2 hnil2))
        have HF2 : Hid (w2.ownsRow w.heap.size 3 1 v2 (i + 1) ((turnL x k (l.take (i + 1))).map (Value.int .i64)) ∧ Below w.heap.size w w2) := Lib.hid ⟨by rw [HSu.out, HF.out, List.map_append]; exact ho2, (HB1 k).out.grown hg2 (HB1 k).out.size (fun q e => ((HOw k).out.lt q e).1)⟩
        clear ho2 hg2 hnil2
        go_wp2_with fail
        go_roundw
        case rel => exact ⟨i + 1, by omega, by go_num, HF2⟩
        case measure => simp [intOf]; omega
      · have h1b : (x == m) = false := by simpa using h1
        by_cases h2 : x = k
        · subst h2
          have hf : turnF m x x = m := by unfold turnF; rw [if_neg h1, if_pos rfl]
          have HF := Lib.hid hf
          clear hf
          go_wp2_with (at_builtin; go_loud (refine wpList_append_own _ rfl _ _ 25 rfl w.heap.size 3 i3 (.int .i64 0) 1 8 Try.underlying25 hi3 hz0 hz1 hz2 rfl (by decide) _ _ _ rfl (HOw m).out ⟨wr.heap.size, 0, none⟩ 1 1 [.int .i64 m] rfl rfl (HNew.out m) (by intro u hu; simp at hu; subst hu; rfl) (by unfold maxLen; omega) (by omega) (HB1 m).out.size ?_; intro v2 w2 ho2 hg2 hnil2))
          have HF2 : Hid (w2.ownsRow w.heap.size 3 1 v2 (i + 1) ((turnL m x (l.take (i + 1))).map (Value.int .i64)) ∧ Below w.heap.size w w2) := Lib.hid ⟨by rw [HSu.out, HF.out, List.map_append]; exact ho2, (HB1 m).out.grown hg2 (HB1 m).out.size (fun q e => ((HOw m).out.lt q e).1)⟩
          clear ho2 hg2 hnil2
          go_wp2_with fail
          go_roundw
          case rel => exact ⟨i + 1, by omega, by go_num, HF2⟩
          case measure => simp [intOf]; omega
        · have h2b : (x == k) = false := by simpa using h2
          have hf : turnF m k x = x := by unfold turnF; rw [if_neg h1, if_neg h2]
          have HF := Lib.hid hf
          clear hf h1 h2
          go_wp2_with (at_builtin; go_loud (refine wpList_append_own _ rfl _ _ 25 rfl w.heap.size 3 i3 (.int .i64 0) 1 8 Try.underlying25 hi3 hz0 hz1 hz2 rfl (by decide) _ _ _ rfl (HOw x).out ⟨wr.heap.size, 0, none⟩ 1 1 [.int .i64 x] rfl rfl (HNew.out x) (by intro u hu; simp at hu; subst hu; rfl) (by unfold maxLen; omega) (by omega) (HB1 x).out.size ?_; intro v2 w2 ho2 hg2 hnil2))
          have HF2 : Hid (w2.ownsRow w.heap.size 3 1 v2 (i + 1) ((turnL m k (l.take (i + 1))).map (Value.int .i64)) ∧ Below w.heap.size w w2) := Lib.hid ⟨by rw [HSu.out, HF.out, List.map_append]; exact ho2, (HB1 x).out.grown hg2 (HB1 x).out.size (fun q e => ((HOw x).out.lt q e).1)⟩
          clear ho2 hg2 hnil2
          go_wp2_with fail
          go_roundw
          case rel => exact ⟨i + 1, by omega, by go_num, HF2⟩
          case measure => simp [intOf]; omega
    · obtain rfl : i = n := by omega
      have hown := HI.out.1
      rw [show l.take i = l by rw [← HL.out]; exact List.take_length] at hown
      obtain ⟨b, d, rfl, hsq⟩ := owni_lat hown
      have HSq := Lib.hid hown
      clear hown hsq
      go_wp2_with fail
      go_ret
      exact ⟨b, d, rfl, HSq.out, HI.out.2⟩
end Go.Proofs.Ytholafodachjnaa
