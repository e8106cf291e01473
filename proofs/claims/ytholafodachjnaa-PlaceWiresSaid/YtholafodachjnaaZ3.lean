/- Maps of numbers to bools: looked up, made. -/
import Derived.Test.YtholafodachjnaaZ2
namespace Go.Proofs.Ytholafodachjnaa
open Go.RowKit Go.Shelf Go.Maps
set_option linter.unusedVariables false
set_option linter.unusedSimpArgs false
section
variable {w w' : World} {mb cnt : Nat} {f : Int → Int} {g : Int → Bool} {row : Option Nat}
theorem zero4 (w : World) : (zeroValue 4).run Try.prog w = .ok (.bool false) w := by kernel_rfl

theorem plainElem_bool_inv {v : Value} {z : DataW Unit × List MemPlace} (h : plainElem Try.prog 4 v = some z) : ∃ b, v = .bool b ∧ z = (.lit (.bool b), []) := by
  unfold plainElem at h
  simp only [Try.underlying4] at h
  cases v <;> simp at h
  exact ⟨_, rfl, h.symm⟩
theorem BMap.look (h : BMap w mb cnt g) (k : Int) (hk : I64 k) : (Instr.lookup 84 (.map (some mb)) (.int .i64 k) false).run Try.prog w = .ok (.bool (g k)) w := by
  obtain ⟨D, ho, _, ha⟩ := h
  obtain ⟨v, ps, hrun, hv⟩ := ho.lookup (t := 84) law3 Try.underlying84 (zero4 _) (plainElem_bool Try.underlying4 false) (keyOf_int_mk Try.underlying3 (wfI hk))
  obtain ⟨b, rfl, hz⟩ := plainElem_bool_inv hv
  simp only [Prod.mk.injEq] at hz
  have e := hz.1.symm.trans (ha k)
  simp only [DataW.lit.injEq, Lit.bool.injEq] at e
  rw [← e]; exact hrun
theorem BMap.made (w : World) : BMap (w.alloc (.map #[] 0)) w.heap.size 0 (fun _ => false) :=
  ⟨_, World.ownsMap_made w Try.prog 3 _, isMap_empty, fun k => rfl⟩
end

/-- Is a number not below a limit, or there before? -/
def badA (l : List Int) (most : Int) (i : Nat) : Bool := decide (l.getD i 0 < 0) || decide (most ≤ l.getD i 0) || (List.range i).any (fun k => l.getD k 0 == l.getD i 0)
def aloneB (l : List Int) (most : Int) : Bool := !(List.range l.length).any (badA l most)
theorem aloneB_bad {l : List Int} {most : Int} {i : Nat} (hi : i < l.length) (h : badA l most i = true) : aloneB l most = false := by
  unfold aloneB
  rw [List.any_eq_true.2 ⟨i, List.mem_range.2 hi, h⟩]; rfl
theorem aloneB_ok {l : List Int} {most : Int} (h : ∀ i, i < l.length → badA l most i = false) : aloneB l most = true := by
  unfold aloneB
  rw [Bool.not_eq_true']
  rw [List.any_eq_false]
  intro i hi
  rw [h i (List.mem_range.1 hi)]; decide
theorem before_yes {l : List Int} {i k : Nat} (hk : k < i) (h : l.getD k 0 = l.getD i 0) : (List.range i).any (fun k => l.getD k 0 == l.getD i 0) = true :=
  List.any_eq_true.2 ⟨k, List.mem_range.2 hk, by simpa using h⟩
theorem before_no {l : List Int} {i : Nat} (h : ∀ k, k < i → ¬ l.getD k 0 = l.getD i 0) : (List.range i).any (fun k => l.getD k 0 == l.getD i 0) = false := by
  rw [List.any_eq_false]
  intro k hk
  have := h k (List.mem_range.1 hk)
  simpa using this

set_option maxRecDepth 100000 in
set_option maxHeartbeats 2000000 in
theorem alone35 (w : World) (a : Option Addr) (n c : Nat) (l : List Int) (most : Int) (hn : l.length = n) (ha : Seq w a n (ints l)) (h9 : n ≤ 100000) :
    Calls Try.prog 35 #[.slice a n c, .int .i64 most] w fun e w' => e = .returned (.bool (aloneB l most)) ∧ Below w.heap.size w w' := by
  have HA := Lib.hid ha
  have HN := Lib.hid hn
  obtain ⟨r, hr⟩ : ∃ r, r = aloneB l most := ⟨_, rfl⟩
  have HR := Lib.hid hr
  rw [← hr]
  clear ha hn hr
  go_enter Try.func35, Try.ntmps35
  go_wp2_with fail
  go_loopg [5] n (fun g iv wr => ∃ i : Nat, g + i = n ∧ iv = .int .i64 i ∧ Hid (Below w.heap.size w wr ∧ ∀ j, j < i → badA l most j = false))
  case atStart => exact ⟨0, rfl, rfl, Lib.hid ⟨Below.refl _ _, fun j hj => by omega⟩⟩
  case round =>
    obtain ⟨i, hgi, rfl, hh⟩ := hrel
    have HB := Lib.hid hh.out.1
    have HAll := Lib.hid hh.out.2
    clear hh
    by_cases hlt : i < n
    · obtain ⟨b, o, rfl, -, hc⟩ := (HA.out.below HB.out (Nat.le_refl _)).at i hlt
      have d0 := hc i hlt
      unfold ints at d0
      have hbad : badA l most i = (decide (l.getD i 0 < 0) || decide (most ≤ l.getD i 0) || (List.range i).any (fun k => l.getD k 0 == l.getD i 0)) := rfl
      have hby := fun k => before_yes (l := l) (i := i) (k := k)
      have hbn := before_no (l := l) (i := i)
      obtain ⟨x, hx⟩ : ∃ x, x = l.getD i 0 := ⟨_, rfl⟩
      rw [← hx] at d0 hbad hby hbn
      have HBad := Lib.hid hbad
      have HX := Lib.hid hx
      have HBy := Lib.hid hby
      have HBn := Lib.hid hbn
      clear hc hbad hx hby hbn
      by_cases h1 : x < 0
      · have e1 : decide (x < 0) = true := by simpa using h1
        have HF : Hid (r = false) := Lib.hid (HR.out.trans (aloneB_bad (by rw [HN.out]; exact hlt) (by rw [HBad.out, e1]; rfl)))
        clear h1
        go_wp2_with fail
        go_ret
        exact ⟨by rw [HF.out]; rfl, HB.out⟩
      have e1 : decide (x < 0) = false := by simpa using h1
      by_cases h2 : most ≤ x
      · have e2 : decide (most ≤ x) = true := by simpa using h2
        have HF : Hid (r = false) := Lib.hid (HR.out.trans (aloneB_bad (by rw [HN.out]; exact hlt) (by rw [HBad.out, e1, e2]; rfl)))
        clear h1 h2
        go_wp2_with fail
        go_ret
        exact ⟨by rw [HF.out]; rfl, HB.out⟩
      have e2 : decide (most ≤ x) = false := by simpa using h2
      have HE := Lib.hid (And.intro e1 e2)
      clear h1 h2
      go_wp2_with fail
      clear d0
      go_loopg [6] i (fun g iv wq => ∃ k : Nat, g + k = i ∧ iv = .int .i64 k ∧ Hid (Below w.heap.size w wq ∧ ∀ j, j < k → ¬ l.getD j 0 = x))
      case atStart => exact ⟨0, rfl, rfl, Lib.hid ⟨HB.out, fun j hj => by omega⟩⟩
      case round =>
        obtain ⟨k, hgk, rfl, hh⟩ := hrel
        have HBk := Lib.hid hh.out.1
        have HNo := Lib.hid hh.out.2
        clear hh
        by_cases hki : k < i
        · obtain ⟨b', o', ha', -, hc⟩ := (HA.out.below HBk.out (Nat.le_refl _)).at k (by omega)
          injection ha' with ha'
          injection ha' with ha1 ha2
          subst ha1 ha2
          have d0 := hc i hlt
          have d1 := hc k (by omega)
          unfold ints at d0 d1
          rw [← HX.out] at d0
          obtain ⟨y, hy⟩ : ∃ y, y = l.getD k 0 := ⟨_, rfl⟩
          rw [← hy] at d1
          have HY := Lib.hid hy
          have hkn : k < n := by omega
          clear hc hy
          by_cases hyx : y = x
          · have HF : Hid (r = false) := Lib.hid (HR.out.trans (aloneB_bad (by rw [HN.out]; exact hlt) (by rw [HBad.out, HBy.out k hki (by rw [← HY.out]; exact hyx), Bool.or_true])))
            subst hyx
            go_wp2_with fail
            refine wp_region_held_drew (S := fun w' => w'.cell? ⟨b, o + k, none⟩ = some (.int .i64 y) ∧ w'.cell? ⟨b, o + i, none⟩ = some (.int .i64 y)) (by kernel_rfl) (⟨d1, d0⟩) (fun hHeld => ?_)
            refine wpAnyH_take (i := 0) (v := ?_) (by simp only [List.getElem?_toArray, List.getElem?_cons_succ, List.getElem?_cons_zero]; rfl) (by kernel_rfl) (by kernel_rfl) (by kernel_rfl) (by intro _ _ _ h; exact h) (Or.inl ⟨by rfl, ?_⟩) (by assumption) ?_
            rotate_left
            · intro w hSw; (try dsimp only at hSw); go_simp; try with_reducible rfl
            try simp only [Act.put, List.setIfInBounds_toArray, List.set_cons_zero, List.set_cons_succ]
            refine wpAnyH_take (i := 1) (v := ?_) (by simp only [List.getElem?_toArray, List.getElem?_cons_succ, List.getElem?_cons_zero]; rfl) (by kernel_rfl) (by kernel_rfl) (by kernel_rfl) (by intro _ _ _ h; exact h) (Or.inl ⟨by rfl, ?_⟩) (by assumption) ?_
            rotate_left
            · intro w hSw; (try dsimp only at hSw); go_simp; try with_reducible rfl
            try simp only [Act.put, List.setIfInBounds_toArray, List.set_cons_zero, List.set_cons_succ]
            refine wpAnyH_take (i := 2) (v := ?_) (by simp only [List.getElem?_toArray, List.getElem?_cons_succ, List.getElem?_cons_zero]; rfl) (by kernel_rfl) (by kernel_rfl) (by kernel_rfl) (by intro _ _ _ h; exact h) (Or.inl ⟨by rfl, ?_⟩) (by assumption) ?_
            rotate_left
            · intro w hSw; (try dsimp only at hSw); go_simp; first | with_reducible rfl | rw [if_pos (by omega)]
            try simp only [Act.put, List.setIfInBounds_toArray, List.set_cons_zero, List.set_cons_succ]
            refine wpAnyH_take (i := 3) (v := ?_) (by simp only [List.getElem?_toArray, List.getElem?_cons_succ, List.getElem?_cons_zero]; rfl) (by kernel_rfl) (by kernel_rfl) (by kernel_rfl) (by intro _ _ _ h; exact h) (Or.inl ⟨by rfl, ?_⟩) (by assumption) ?_
            rotate_left
            · intro w hSw; (try dsimp only at hSw); go_simp; try with_reducible rfl
            try simp only [Act.put, List.setIfInBounds_toArray, List.set_cons_zero, List.set_cons_succ]
            refine wpAnyH_take (i := 4) (v := ?_) (by simp only [List.getElem?_toArray, List.getElem?_cons_succ, List.getElem?_cons_zero]; rfl) (by kernel_rfl) (by kernel_rfl) (by kernel_rfl) (by intro _ _ _ h; exact h) (Or.inl ⟨by rfl, ?_⟩) (by assumption) ?_
            rotate_left
            · intro w hSw; (try dsimp only at hSw); go_simp; try with_reducible rfl
            try simp only [Act.put, List.setIfInBounds_toArray, List.set_cons_zero, List.set_cons_succ]
            refine wpAnyH_take (i := 5) (v := ?_) (by simp only [List.getElem?_toArray, List.getElem?_cons_succ, List.getElem?_cons_zero]; rfl) (by kernel_rfl) (by kernel_rfl) (by kernel_rfl) (by intro _ _ _ h; exact h) (Or.inl ⟨by rfl, ?_⟩) (by assumption) ?_
            rotate_left
            · intro w hSw; (try dsimp only at hSw); go_simp; try with_reducible rfl
            try simp only [Act.put, List.setIfInBounds_toArray, List.set_cons_zero, List.set_cons_succ]
            refine wpAnyH_take (i := 6) (v := ?_) (by simp only [List.getElem?_toArray, List.getElem?_cons_succ, List.getElem?_cons_zero]; rfl) (by kernel_rfl) (by kernel_rfl) (by kernel_rfl) (by intro _ _ _ h; exact h) (Or.inl ⟨by rfl, ?_⟩) (by assumption) ?_
            rotate_left
            · intro w hSw; (try dsimp only at hSw); go_simp; first | with_reducible rfl | rw [if_pos (by omega)]
            try simp only [Act.put, List.setIfInBounds_toArray, List.set_cons_zero, List.set_cons_succ]
            refine wpAnyH_take (i := 7) (v := ?_) (by simp only [List.getElem?_toArray, List.getElem?_cons_succ, List.getElem?_cons_zero]; rfl) (by kernel_rfl) (by kernel_rfl) (by kernel_rfl) (by intro _ _ _ h; exact h) (Or.inl ⟨by rfl, ?_⟩) (by assumption) ?_
            rotate_left
            · intro w hSw; (try dsimp only at hSw); go_simp; try with_reducible rfl
            try simp only [Act.put, List.setIfInBounds_toArray, List.set_cons_zero, List.set_cons_succ]
            refine wpAnyH_take (i := 8) (v := ?_) (by simp only [List.getElem?_toArray, List.getElem?_cons_succ, List.getElem?_cons_zero]; rfl) (by kernel_rfl) (by kernel_rfl) (by kernel_rfl) (by intro _ _ _ h; exact h) (Or.inl ⟨by rfl, ?_⟩) (by assumption) ?_
            rotate_left
            · intro w hSw; (try dsimp only at hSw); go_simp; try with_reducible rfl
            try simp only [Act.put, List.setIfInBounds_toArray, List.set_cons_zero, List.set_cons_succ]
            refine wpAnyH_done (by kernel_rfl) ?_ _
            go_wp2_with fail
            go_ret
            exact ⟨by rw [HF.out]; rfl, HBk.out.drew⟩
          · have hyb : (y == x) = false := by simpa using hyx
            have HYx := Lib.hid hyx
            clear hyx
            go_wp2_with fail
            refine wp_region_held_drew (S := fun w' => w'.cell? ⟨b, o + k, none⟩ = some (.int .i64 y) ∧ w'.cell? ⟨b, o + i, none⟩ = some (.int .i64 x)) (by kernel_rfl) (⟨d1, d0⟩) (fun hHeld => ?_)
            refine wpAnyH_take (i := 0) (v := ?_) (by simp only [List.getElem?_toArray, List.getElem?_cons_succ, List.getElem?_cons_zero]; rfl) (by kernel_rfl) (by kernel_rfl) (by kernel_rfl) (by intro _ _ _ h; exact h) (Or.inl ⟨by rfl, ?_⟩) (by assumption) ?_
            rotate_left
            · intro w hSw; (try dsimp only at hSw); go_simp; try with_reducible rfl
            try simp only [Act.put, List.setIfInBounds_toArray, List.set_cons_zero, List.set_cons_succ]
            refine wpAnyH_take (i := 1) (v := ?_) (by simp only [List.getElem?_toArray, List.getElem?_cons_succ, List.getElem?_cons_zero]; rfl) (by kernel_rfl) (by kernel_rfl) (by kernel_rfl) (by intro _ _ _ h; exact h) (Or.inl ⟨by rfl, ?_⟩) (by assumption) ?_
            rotate_left
            · intro w hSw; (try dsimp only at hSw); go_simp; try with_reducible rfl
            try simp only [Act.put, List.setIfInBounds_toArray, List.set_cons_zero, List.set_cons_succ]
            refine wpAnyH_take (i := 2) (v := ?_) (by simp only [List.getElem?_toArray, List.getElem?_cons_succ, List.getElem?_cons_zero]; rfl) (by kernel_rfl) (by kernel_rfl) (by kernel_rfl) (by intro _ _ _ h; exact h) (Or.inl ⟨by rfl, ?_⟩) (by assumption) ?_
            rotate_left
            · intro w hSw; (try dsimp only at hSw); go_simp; first | with_reducible rfl | rw [if_pos (by omega)]
            try simp only [Act.put, List.setIfInBounds_toArray, List.set_cons_zero, List.set_cons_succ]
            refine wpAnyH_take (i := 3) (v := ?_) (by simp only [List.getElem?_toArray, List.getElem?_cons_succ, List.getElem?_cons_zero]; rfl) (by kernel_rfl) (by kernel_rfl) (by kernel_rfl) (by intro _ _ _ h; exact h) (Or.inl ⟨by rfl, ?_⟩) (by assumption) ?_
            rotate_left
            · intro w hSw; (try dsimp only at hSw); go_simp; try with_reducible rfl
            try simp only [Act.put, List.setIfInBounds_toArray, List.set_cons_zero, List.set_cons_succ]
            refine wpAnyH_take (i := 4) (v := ?_) (by simp only [List.getElem?_toArray, List.getElem?_cons_succ, List.getElem?_cons_zero]; rfl) (by kernel_rfl) (by kernel_rfl) (by kernel_rfl) (by intro _ _ _ h; exact h) (Or.inl ⟨by rfl, ?_⟩) (by assumption) ?_
            rotate_left
            · intro w hSw; (try dsimp only at hSw); go_simp; try with_reducible rfl
            try simp only [Act.put, List.setIfInBounds_toArray, List.set_cons_zero, List.set_cons_succ]
            refine wpAnyH_take (i := 5) (v := ?_) (by simp only [List.getElem?_toArray, List.getElem?_cons_succ, List.getElem?_cons_zero]; rfl) (by kernel_rfl) (by kernel_rfl) (by kernel_rfl) (by intro _ _ _ h; exact h) (Or.inl ⟨by rfl, ?_⟩) (by assumption) ?_
            rotate_left
            · intro w hSw; (try dsimp only at hSw); go_simp; try with_reducible rfl
            try simp only [Act.put, List.setIfInBounds_toArray, List.set_cons_zero, List.set_cons_succ]
            refine wpAnyH_take (i := 6) (v := ?_) (by simp only [List.getElem?_toArray, List.getElem?_cons_succ, List.getElem?_cons_zero]; rfl) (by kernel_rfl) (by kernel_rfl) (by kernel_rfl) (by intro _ _ _ h; exact h) (Or.inl ⟨by rfl, ?_⟩) (by assumption) ?_
            rotate_left
            · intro w hSw; (try dsimp only at hSw); go_simp; first | with_reducible rfl | rw [if_pos (by omega)]
            try simp only [Act.put, List.setIfInBounds_toArray, List.set_cons_zero, List.set_cons_succ]
            refine wpAnyH_take (i := 7) (v := ?_) (by simp only [List.getElem?_toArray, List.getElem?_cons_succ, List.getElem?_cons_zero]; rfl) (by kernel_rfl) (by kernel_rfl) (by kernel_rfl) (by intro _ _ _ h; exact h) (Or.inl ⟨by rfl, ?_⟩) (by assumption) ?_
            rotate_left
            · intro w hSw; (try dsimp only at hSw); go_simp; try with_reducible rfl
            try simp only [Act.put, List.setIfInBounds_toArray, List.set_cons_zero, List.set_cons_succ]
            refine wpAnyH_take (i := 8) (v := ?_) (by simp only [List.getElem?_toArray, List.getElem?_cons_succ, List.getElem?_cons_zero]; rfl) (by kernel_rfl) (by kernel_rfl) (by kernel_rfl) (by intro _ _ _ h; exact h) (Or.inl ⟨by rfl, ?_⟩) (by assumption) ?_
            rotate_left
            · intro w hSw; (try dsimp only at hSw); go_simp; try with_reducible rfl
            try simp only [Act.put, List.setIfInBounds_toArray, List.set_cons_zero, List.set_cons_succ]
            refine wpAnyH_done (by kernel_rfl) ?_ _
            go_wp2_with fail
            go_roundg (i - (k + 1))
            case measure => omega
            case rel => exact ⟨k + 1, by omega, by go_num, Lib.hid ⟨HBk.out.drew, fun j hj => by
              by_cases e : j = k
              · rw [e, ← HY.out]; exact HYx.out
              · exact HNo.out j (by omega)⟩⟩
        · have hki2 : k = i := by omega
          subst hki2
          have HF : Hid (badA l most k = false) := Lib.hid (by rw [HBad.out, HE.out.1, HE.out.2, HBn.out (fun j hj => HNo.out j hj)]; rfl)
          go_wp2_with fail
          go_roundg (n - (k + 1))
          case measure => omega
          case rel => exact ⟨k + 1, by omega, by go_num, Lib.hid ⟨HBk.out, fun j hj => by
            by_cases e : j = k
            · rw [e]; exact HF.out
            · exact HAll.out j (by omega)⟩⟩
    · have hin : i = n := by omega
      have HF : Hid (r = true) := Lib.hid (HR.out.trans (aloneB_ok (fun j hj => HAll.out j (by rw [HN.out] at hj; omega))))
      go_wp2_with fail
      go_ret
      exact ⟨by rw [HF.out]; rfl, HB.out⟩
end Go.Proofs.Ytholafodachjnaa
