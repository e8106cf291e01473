import Derived.Test.YtkcilpkcjhnkaaaB7
namespace Go.Proofs.Ytkcilpkcjhnkaaa
open Go.RowKit
set_option linter.unusedVariables false
set_option linter.unusedSimpArgs false

theorem ext_getDI {l m : List Int} (h : l.length = m.length) (h' : ∀ i, i < l.length → l.getD i 0 = m.getD i 0) : l = m := by
  apply List.ext_getElem h
  intro i h1 h2
  have := h' i h1
  simpa [List.getD, List.getElem?_eq_getElem h1, List.getElem?_eq_getElem h2] using this

theorem getD_rev (l : List Int) (t : Nat) (h : t < l.length) : l.reverse.getD t 0 = l.getD (l.length - 1 - t) 0 := by
  simp [List.getD, List.getElem?_reverse h]

set_option maxHeartbeats 4000000 in
theorem reverse (w : World) (base g n cap : Nat) (l : List Int) (hlen : l.length = n) (hn : n ≤ 100000) (hown : w.ownsRow base 3 1 (.slice (some ⟨g, 0, none⟩) n cap) n (l.map (Value.int .i64))) :
    Calls Try.prog 52 #[.slice (some ⟨g, 0, none⟩) n cap] w fun e w' => (∃ v, e = .returned v) ∧ w'.ownsRow base 3 1 (.slice (some ⟨g, 0, none⟩) n cap) n (l.reverse.map (Value.int .i64)) ∧ w.grownBy w' (some g) := by
  have HOwn := Lib.hid hown
  have HL := Lib.hid hlen
  clear hown hlen
  go_enter Try.func52, Try.ntmps52
  go_wp2
  go_loopw [2, 3] (fun i j wr => ∃ k : Nat, k ≤ n ∧ i = .int .i64 k ∧ j = .int .i64 ((n : Int) - 1 - k) ∧ 2 * k ≤ n + 1 ∧ Hid (∃ xs : List Int, xs.length = n ∧ (∀ t, t < n → xs.getD t 0 = if t < k ∨ n - 1 - k < t then l.getD (n - 1 - t) 0 else l.getD t 0) ∧ wr.ownsRow base 3 1 (.slice (some ⟨g, 0, none⟩) n cap) n (xs.map (Value.int .i64)) ∧ w.grownBy wr (some g))) (fun i _ _ => n - (intOf i).toNat)
  case atStart =>
    refine ⟨0, by omega, rfl, by simp, by omega, Lib.hid ⟨l, HL.out, fun t ht => ?_, HOwn.out, World.grownBy.refl _ _⟩⟩
    rw [if_neg (by omega)]
  case round =>
    obtain ⟨k, hk, rfl, rfl, hk2, hh⟩ := hrel
    obtain ⟨xs, hxl, hxs, hown, hgr⟩ := hh.out
    by_cases hlt : (k : Int) < (n : Int) - 1 - k
    · obtain ⟨m, hm⟩ : ∃ m, m = n - 1 - k := ⟨_, rfl⟩
      have hmi : (n : Int) - 1 - k = (m : Int) := by omega
      have hmn : m < n := by omega
      have hkm : k < m := by omega
      have z0 := hown.cellAt k (by omega)
      have z1 := hown.cellAt m (by omega)
      rw [List.getElem?_map, List.getElem?_eq_getElem (by omega)] at z0 z1
      simp only [Option.map_some] at z0 z1
      have hxk := hxs k (by omega)
      have hxm := hxs m (by omega)
      have f0 := hown.frozenAt k
      have f1 := hown.frozenAt m
      obtain ⟨x, hx⟩ : ∃ x, x = xs.getD k 0 := ⟨_, rfl⟩
      obtain ⟨y, hy⟩ : ∃ x, x = xs.getD m 0 := ⟨_, rfl⟩
      rw [show xs[k]'(by omega) = x by rw [hx]; simp [List.getD, List.getElem?_eq_getElem (show k < xs.length by omega)]] at z0
      rw [show xs[m]'(by omega) = y by rw [hy]; simp [List.getD, List.getElem?_eq_getElem (show m < xs.length by omega)]] at z1
      have hs1 := own_store (own_drewN (k := 1) hown) k (.int .i64 y)
      have hs2 := own_store hs1.1 m (.int .i64 x)
      change (wr.drew.setCell _ _).ownsRow _ _ _ _ _ _ ∧ wr.drew.grownBy _ _ at hs1
      change ((wr.drew.setCell _ _).setCell _ _).ownsRow _ _ _ _ _ _ ∧ (wr.drew.setCell _ _).grownBy _ _ at hs2
      have HX := Lib.hid hx
      have HY := Lib.hid hy
      have HM : Hid (m = n - 1 - k ∧ True) := Lib.hid ⟨hm, trivial⟩
      have HM := Lib.hid hm
      rw [hmi]
      clear hx hy hm hmi
      go_wp2_with fail
      refine wp_region_held_drew (S := fun _ => True) (by kernel_rfl) (trivial) (fun hHeld => ?_)
      refine wpAnyH_take (i := 0) (v := ?_) (by simp only [List.getElem?_toArray, List.getElem?_cons_succ, List.getElem?_cons_zero]; rfl) (by kernel_rfl) (by kernel_rfl) (by kernel_rfl) (by intro _ _ _ h; exact h) (Or.inl ⟨by rfl, ?_⟩) (by assumption) ?_
      rotate_left
      · intro w hSw; (try dsimp only at hSw); go_simp; try with_reducible rfl
      try simp only [Act.put, List.setIfInBounds_toArray, List.set_cons_zero, List.set_cons_succ]
      refine wpAnyH_take (i := 1) (v := ?_) (by simp only [List.getElem?_toArray, List.getElem?_cons_succ, List.getElem?_cons_zero]; rfl) (by kernel_rfl) (by kernel_rfl) (by kernel_rfl) (by intro _ _ _ h; exact h) (Or.inl ⟨by rfl, ?_⟩) (by assumption) ?_
      rotate_left
      · intro w hSw; (try dsimp only at hSw); go_simp; try with_reducible rfl
      try simp only [Act.put, List.setIfInBounds_toArray, List.set_cons_zero, List.set_cons_succ]
      refine wpAnyH_take (i := 2) (v := ?_) (by simp only [List.getElem?_toArray, List.getElem?_cons_succ, List.getElem?_cons_zero]; rfl) (by kernel_rfl) (by kernel_rfl) (by kernel_rfl) (by intro _ _ _ h; exact h) (Or.inl ⟨by rfl, ?_⟩) (by assumption) ?_
      rotate_left
      · intro w hSw; (try dsimp only at hSw); go_simp; try with_reducible rfl
      try simp only [Act.put, List.setIfInBounds_toArray, List.set_cons_zero, List.set_cons_succ]
      refine wpAnyH_take (i := 3) (v := ?_) (by simp only [List.getElem?_toArray, List.getElem?_cons_succ, List.getElem?_cons_zero]; rfl) (by kernel_rfl) (by kernel_rfl) (by kernel_rfl) (by intro _ _ _ h; exact h) (Or.inl ⟨by rfl, ?_⟩) (by assumption) ?_
      rotate_left
      · intro w hSw; (try dsimp only at hSw); go_simp; try with_reducible rfl
      try simp only [Act.put, List.setIfInBounds_toArray, List.set_cons_zero, List.set_cons_succ]
      refine wpAnyH_take (i := 4) (v := ?_) (by simp only [List.getElem?_toArray, List.getElem?_cons_succ, List.getElem?_cons_zero]; rfl) (by kernel_rfl) (by kernel_rfl) (by kernel_rfl) (by intro _ _ _ h; exact h) (Or.inl ⟨by rfl, ?_⟩) (by assumption) ?_
      rotate_left
      · intro w hSw; (try dsimp only at hSw); go_simp; try with_reducible rfl
      try simp only [Act.put, List.setIfInBounds_toArray, List.set_cons_zero, List.set_cons_succ]
      refine wpAnyH_take (i := 5) (v := ?_) (by simp only [List.getElem?_toArray, List.getElem?_cons_succ, List.getElem?_cons_zero]; rfl) (by kernel_rfl) (by kernel_rfl) (by kernel_rfl) (by intro _ _ _ h; exact h) (Or.inl ⟨by rfl, ?_⟩) (by assumption) ?_
      rotate_left
      · intro w hSw; (try dsimp only at hSw); go_simp; try with_reducible rfl
      try simp only [Act.put, List.setIfInBounds_toArray, List.set_cons_zero, List.set_cons_succ]
      refine wpAnyH_take (i := 6) (v := ?_) (by simp only [List.getElem?_toArray, List.getElem?_cons_succ, List.getElem?_cons_zero]; rfl) (by kernel_rfl) (by kernel_rfl) (by kernel_rfl) (by intro _ _ _ h; exact h) (Or.inl ⟨by rfl, ?_⟩) (by assumption) ?_
      rotate_left
      · intro w hSw; (try dsimp only at hSw); go_simp; first | with_reducible rfl | rw [if_pos (by omega)]
      try simp only [Act.put, List.setIfInBounds_toArray, List.set_cons_zero, List.set_cons_succ]
      refine wpAnyH_take (i := 8) (v := ?_) (by simp only [List.getElem?_toArray, List.getElem?_cons_succ, List.getElem?_cons_zero]; rfl) (by kernel_rfl) (by kernel_rfl) (by kernel_rfl) (by intro _ _ _ h; exact h) (Or.inl ⟨by rfl, ?_⟩) (by assumption) ?_
      rotate_left
      · intro w hSw; (try dsimp only at hSw); go_simp; try with_reducible rfl
      try simp only [Act.put, List.setIfInBounds_toArray, List.set_cons_zero, List.set_cons_succ]
      refine wpAnyH_take (i := 9) (v := ?_) (by simp only [List.getElem?_toArray, List.getElem?_cons_succ, List.getElem?_cons_zero]; rfl) (by kernel_rfl) (by kernel_rfl) (by kernel_rfl) (by intro _ _ _ h; exact h) (Or.inl ⟨by rfl, ?_⟩) (by assumption) ?_
      rotate_left
      · intro w hSw; (try dsimp only at hSw); go_simp; try with_reducible rfl
      try simp only [Act.put, List.setIfInBounds_toArray, List.set_cons_zero, List.set_cons_succ]
      refine wpAnyH_take (i := 10) (v := ?_) (by simp only [List.getElem?_toArray, List.getElem?_cons_succ, List.getElem?_cons_zero]; rfl) (by kernel_rfl) (by kernel_rfl) (by kernel_rfl) (by intro _ _ _ h; exact h) (Or.inl ⟨by rfl, ?_⟩) (by assumption) ?_
      rotate_left
      · intro w hSw; (try dsimp only at hSw); go_simp; first | with_reducible rfl | rw [if_pos (by omega)]
      try simp only [Act.put, List.setIfInBounds_toArray, List.set_cons_zero, List.set_cons_succ]
      refine wpAnyH_ready (rs := [7, 11]) (by kernel_rfl) (by simp) ?_
      refine AllReadyH.cons (o := _) (by simp only [List.getElem?_toArray, List.getElem?_cons_succ, List.getElem?_cons_zero]; rfl) (fun K hK => ?_) (AllReadyH.cons (o := _) (by simp only [List.getElem?_toArray, List.getElem?_cons_succ, List.getElem?_cons_zero]; rfl) (fun K hK => ?_) AllReadyH.nil)
      · go_simp
        refine hK.out _ _ (by trivial) (fun hHeld => ?_)
        clear hK K
        try simp only [Act.put, List.setIfInBounds_toArray, List.set_cons_zero, List.set_cons_succ]
        refine wpAnyH_ready (rs := [11]) (by kernel_rfl) (by simp) ?_
        refine AllReadyH.cons (o := _) (by simp only [List.getElem?_toArray, List.getElem?_cons_succ, List.getElem?_cons_zero]; rfl) (fun K hK => ?_) AllReadyH.nil
        go_simp

        refine hK.out _ _ (by trivial) (fun hHeld => ?_)
        clear hK K
        try simp only [Act.put, List.setIfInBounds_toArray, List.set_cons_zero, List.set_cons_succ]
        refine wpAnyH_take (i := 12) (v := ?_) (by simp only [List.getElem?_toArray, List.getElem?_cons_succ, List.getElem?_cons_zero]; rfl) (by kernel_rfl) (by kernel_rfl) (by kernel_rfl) (by intro _ _ _ h; exact h) (Or.inl ⟨by rfl, ?_⟩) (by assumption) ?_
        rotate_left
        · intro w hSw; (try dsimp only at hSw); go_simp; first | with_reducible rfl | rw [if_pos (by omega)]
        try simp only [Act.put, List.setIfInBounds_toArray, List.set_cons_zero, List.set_cons_succ]
        have q0 : wr.drew.cell? ⟨g, k, none⟩ = some (.int .i64 x) := z0
        have q1 : wr.drew.frozen? ⟨g, k, none⟩ = false := f0
        refine wpAnyH_ready (rs := [13]) (by kernel_rfl) (by simp) ?_
        refine AllReadyH.cons (o := _) (by simp only [List.getElem?_toArray, List.getElem?_cons_succ, List.getElem?_cons_zero]; rfl) (fun K hK => ?_) AllReadyH.nil
        go_simp

        refine hK.out _ _ (by trivial) (fun hHeld => ?_)
        clear hK K
        try simp only [Act.put, List.setIfInBounds_toArray, List.set_cons_zero, List.set_cons_succ]
        refine wpAnyH_take (i := 14) (v := ?_) (by simp only [List.getElem?_toArray, List.getElem?_cons_succ, List.getElem?_cons_zero]; rfl) (by kernel_rfl) (by kernel_rfl) (by kernel_rfl) (by intro _ _ _ h; exact h) (Or.inl ⟨by rfl, ?_⟩) (by assumption) ?_
        rotate_left
        · intro w hSw; (try dsimp only at hSw); go_simp; first | with_reducible rfl | rw [if_pos (by omega)]
        try simp only [Act.put, List.setIfInBounds_toArray, List.set_cons_zero, List.set_cons_succ]
        have q2 := hs1.1.cellAt m (by omega)
        rw [List.getElem?_set_ne (by omega), List.getElem?_map, List.getElem?_eq_getElem (show m < xs.length by omega)] at q2
        simp only [Option.map_some] at q2
        have q3 := hs1.1.frozenAt m
        refine wpAnyH_ready (rs := [15]) (by kernel_rfl) (by simp) ?_
        refine AllReadyH.cons (o := _) (by simp only [List.getElem?_toArray, List.getElem?_cons_succ, List.getElem?_cons_zero]; rfl) (fun K hK => ?_) AllReadyH.nil
        go_simp

        refine hK.out _ _ (by trivial) (fun hHeld => ?_)
        clear hK K
        try simp only [Act.put, List.setIfInBounds_toArray, List.set_cons_zero, List.set_cons_succ]
        refine wpAnyH_done (by kernel_rfl) ?_ _
        go_wp2
        go_roundw
        case rel =>
          refine ⟨k + 1, by omega, by go_num, by have := HM.out; go_num, by omega, Lib.hid ⟨(xs.set k y).set m x, by simp [hxl], fun t ht => ?_, ?_, ?_⟩⟩
          · rw [getD_set _ _ _ _ (by simp; omega), getD_set _ _ _ _ (by omega)]
            have h1 := hxs t ht
            have hm := HM.out
            by_cases e1 : t = m
            · subst e1
              rw [if_pos rfl, if_pos (by omega), HX.out, hxk, if_neg (by omega)]
              congr 1; omega
            · rw [if_neg e1]
              by_cases e2 : t = k
              · subst e2
                rw [if_pos rfl, if_pos (by omega), HY.out, hxm, if_neg (by omega)]
                congr 1
              · rw [if_neg e2, h1]
                by_cases e3 : t < k ∨ n - 1 - k < t
                · rw [if_pos e3, if_pos (by omega)]
                · rw [if_neg e3, if_neg (by omega)]
          · have := hs2.1
            rw [← List.map_set, ← List.map_set] at this
            exact this
          · exact grownBy_trans (grownBy_trans hgr (grownBy_drew _ _)) (grownBy_trans hs1.2 hs2.2)
        case measure => simp [intOf]; omega
      · go_simp
        refine hK.out _ _ (by trivial) (fun hHeld => ?_)
        clear hK K
        try simp only [Act.put, List.setIfInBounds_toArray, List.set_cons_zero, List.set_cons_succ]
        refine wpAnyH_ready (rs := [7]) (by kernel_rfl) (by simp) ?_
        refine AllReadyH.cons (o := _) (by simp only [List.getElem?_toArray, List.getElem?_cons_succ, List.getElem?_cons_zero]; rfl) (fun K hK => ?_) AllReadyH.nil
        go_simp

        refine hK.out _ _ (by trivial) (fun hHeld => ?_)
        clear hK K
        try simp only [Act.put, List.setIfInBounds_toArray, List.set_cons_zero, List.set_cons_succ]
        refine wpAnyH_take (i := 12) (v := ?_) (by simp only [List.getElem?_toArray, List.getElem?_cons_succ, List.getElem?_cons_zero]; rfl) (by kernel_rfl) (by kernel_rfl) (by kernel_rfl) (by intro _ _ _ h; exact h) (Or.inl ⟨by rfl, ?_⟩) (by assumption) ?_
        rotate_left
        · intro w hSw; (try dsimp only at hSw); go_simp; first | with_reducible rfl | rw [if_pos (by omega)]
        try simp only [Act.put, List.setIfInBounds_toArray, List.set_cons_zero, List.set_cons_succ]
        have q0 : wr.drew.cell? ⟨g, k, none⟩ = some (.int .i64 x) := z0
        have q1 : wr.drew.frozen? ⟨g, k, none⟩ = false := f0
        refine wpAnyH_ready (rs := [13]) (by kernel_rfl) (by simp) ?_
        refine AllReadyH.cons (o := _) (by simp only [List.getElem?_toArray, List.getElem?_cons_succ, List.getElem?_cons_zero]; rfl) (fun K hK => ?_) AllReadyH.nil
        go_simp

        refine hK.out _ _ (by trivial) (fun hHeld => ?_)
        clear hK K
        try simp only [Act.put, List.setIfInBounds_toArray, List.set_cons_zero, List.set_cons_succ]
        refine wpAnyH_take (i := 14) (v := ?_) (by simp only [List.getElem?_toArray, List.getElem?_cons_succ, List.getElem?_cons_zero]; rfl) (by kernel_rfl) (by kernel_rfl) (by kernel_rfl) (by intro _ _ _ h; exact h) (Or.inl ⟨by rfl, ?_⟩) (by assumption) ?_
        rotate_left
        · intro w hSw; (try dsimp only at hSw); go_simp; first | with_reducible rfl | rw [if_pos (by omega)]
        try simp only [Act.put, List.setIfInBounds_toArray, List.set_cons_zero, List.set_cons_succ]
        have q2 := hs1.1.cellAt m (by omega)
        rw [List.getElem?_set_ne (by omega), List.getElem?_map, List.getElem?_eq_getElem (show m < xs.length by omega)] at q2
        simp only [Option.map_some] at q2
        have q3 := hs1.1.frozenAt m
        refine wpAnyH_ready (rs := [15]) (by kernel_rfl) (by simp) ?_
        refine AllReadyH.cons (o := _) (by simp only [List.getElem?_toArray, List.getElem?_cons_succ, List.getElem?_cons_zero]; rfl) (fun K hK => ?_) AllReadyH.nil
        go_simp

        refine hK.out _ _ (by trivial) (fun hHeld => ?_)
        clear hK K
        try simp only [Act.put, List.setIfInBounds_toArray, List.set_cons_zero, List.set_cons_succ]
        refine wpAnyH_done (by kernel_rfl) ?_ _
        go_wp2
        go_roundw
        case rel =>
          refine ⟨k + 1, by omega, by go_num, by have := HM.out; go_num, by omega, Lib.hid ⟨(xs.set k y).set m x, by simp [hxl], fun t ht => ?_, ?_, ?_⟩⟩
          · rw [getD_set _ _ _ _ (by simp; omega), getD_set _ _ _ _ (by omega)]
            have h1 := hxs t ht
            have hm := HM.out
            by_cases e1 : t = m
            · subst e1
              rw [if_pos rfl, if_pos (by omega), HX.out, hxk, if_neg (by omega)]
              congr 1; omega
            · rw [if_neg e1]
              by_cases e2 : t = k
              · subst e2
                rw [if_pos rfl, if_pos (by omega), HY.out, hxm, if_neg (by omega)]
                congr 1
              · rw [if_neg e2, h1]
                by_cases e3 : t < k ∨ n - 1 - k < t
                · rw [if_pos e3, if_pos (by omega)]
                · rw [if_neg e3, if_neg (by omega)]
          · have := hs2.1
            rw [← List.map_set, ← List.map_set] at this
            exact this
          · exact grownBy_trans (grownBy_trans hgr (grownBy_drew _ _)) (grownBy_trans hs1.2 hs2.2)
        case measure => simp [intOf]; omega
    · go_wp2
      go_end0
      refine ⟨⟨_, rfl⟩, ?_, hgr⟩
      have e : xs = l.reverse := by
        apply ext_getDI
        · rw [hxl, List.length_reverse, HL.out]
        · intro t ht
          rw [hxs t (by omega), getD_rev l t (by rw [HL.out]; omega), HL.out]
          by_cases h : t < k ∨ n - 1 - k < t
          · rw [if_pos h]
          · rw [if_neg h]; congr 1; omega
      have e2 : xs.map (Value.int .i64) = (l.map (Value.int .i64)).reverse := by rw [e, List.map_reverse]
      first | (rw [← e2]; exact hown) | (rw [← e]; exact hown)
end Go.Proofs.Ytkcilpkcjhnkaaa
