/- The methods of the heap of numbers. -/
import Derived.Test.YtibimdhmfchcoaaO0
import Derived.RegionTactic
import Derived.Deep.RegionWith
namespace Go.Proofs.Ytibimdhmfchcoaa
open Go.RowKit Go.Shelf Go.Maps
set_option linter.unusedVariables false
set_option linter.unusedSimpArgs false

theorem nilchk (w : World) (a : Addr) (nm : String) : Sem.run Try.prog (Builtin.ssaWrapNilChk_ #[95] 95 #[.pointer (some a), strVal "", strVal nm]) w = .ok (.pointer (some a)) w := rfl
theorem m_len (w : World) (R : Nat) (v : Value) (h : w.cell? ⟨R, 0, none⟩ = some v) : Sem.run Try.prog (method 236 95 (.pointer (some ⟨R, 0, none⟩)) "Len") w = .ok (94, v) w := by
  have e : Sem.run Try.prog (method 236 95 (.pointer (some ⟨R, 0, none⟩)) "Len") w = Sem.run Try.prog (do let v ← receiverAt 95 (.val (.pointer (some ⟨R, 0, none⟩))) false (some "Len"); pure (94, v)) w := by kernel_rfl
  rw [e]
  simp [receiverAt, Place.get, nilchk, go_sem, h]
theorem m_less (w : World) (R : Nat) (v : Value) (h : w.cell? ⟨R, 0, none⟩ = some v) : Sem.run Try.prog (method 236 95 (.pointer (some ⟨R, 0, none⟩)) "Less") w = .ok (95, v) w := by
  have e : Sem.run Try.prog (method 236 95 (.pointer (some ⟨R, 0, none⟩)) "Less") w = Sem.run Try.prog (do let v ← receiverAt 95 (.val (.pointer (some ⟨R, 0, none⟩))) false (some "Less"); pure (95, v)) w := by kernel_rfl
  rw [e]
  simp [receiverAt, Place.get, nilchk, go_sem, h]
theorem m_swap (w : World) (R : Nat) (v : Value) (h : w.cell? ⟨R, 0, none⟩ = some v) : Sem.run Try.prog (method 236 95 (.pointer (some ⟨R, 0, none⟩)) "Swap") w = .ok (96, v) w := by
  have e : Sem.run Try.prog (method 236 95 (.pointer (some ⟨R, 0, none⟩)) "Swap") w = Sem.run Try.prog (do let v ← receiverAt 95 (.val (.pointer (some ⟨R, 0, none⟩))) false (some "Swap"); pure (96, v)) w := by kernel_rfl
  rw [e]
  simp [receiverAt, Place.get, nilchk, go_sem, h]
theorem m_push (w : World) (p : Value) : Sem.run Try.prog (method 236 95 p "Push") w = .ok (98, p) w := by kernel_rfl
theorem m_pop (w : World) (p : Value) : Sem.run Try.prog (method 236 95 p "Pop") w = .ok (97, p) w := by kernel_rfl

set_option maxHeartbeats 2000000 in
theorem len94 (w : World) (a : Option Addr) (n c : Nat) : Calls Try.prog 94 #[.slice a n c] w fun e w' => e = .returned (.int .i64 n) ∧ w = w' := by
  go_enter Try.func94, Try.ntmps94
  go_wp2
  go_ret
  exact ⟨rfl, rfl⟩
set_option maxHeartbeats 2000000 in
theorem less95 (w : World) (g n c i j : Nat) (x y : Int) (hi : i < n) (hj : j < n) (hn : n ≤ 65536) (ci : w.cell? ⟨g, i, none⟩ = some (.int .i64 x)) (cj : w.cell? ⟨g, j, none⟩ = some (.int .i64 y)) :
    Calls Try.prog 95 #[.slice (some ⟨g, 0, none⟩) n c, .int .i64 i, .int .i64 j] w fun e w' => e = .returned (.bool (decide (x < y))) ∧ ∃ q, w' = w.drewN q := by
  go_enter Try.func95, Try.ntmps95
  go_wp2
  go_quiet (fail)
  go_wp2
  go_ret
  exact ⟨rfl, nq, rfl⟩
set_option maxHeartbeats 2000000 in
theorem swap96 (w : World) (g n c i j : Nat) (x y : Int) (hi : i < n) (hj : j < n) (hn : n ≤ 65536) (ci : w.cell? ⟨g, i, none⟩ = some (.int .i64 x)) (cj : w.cell? ⟨g, j, none⟩ = some (.int .i64 y))
    (fi : w.frozen? ⟨g, i, none⟩ = false) (fj : w.frozen? ⟨g, j, none⟩ = false) :
    Calls Try.prog 96 #[.slice (some ⟨g, 0, none⟩) n c, .int .i64 i, .int .i64 j] w fun e w' => e = .returned (.tuple #[]) ∧ ∃ q, w' = ((w.setCell ⟨g, i, none⟩ (.int .i64 y)).setCell ⟨g, j, none⟩ (.int .i64 x)).drewN q := by
  obtain ⟨v', hy'⟩ := cell?_setCell_some (w := w) (p := ⟨g, i, none⟩) (x := .int .i64 y) (q := ⟨g, j, none⟩) cj
  go_enter Try.func96, Try.ntmps96
  go_wp2
  go_region
  all_goals (try go_wp2)
  all_goals go_end0
  all_goals exact ⟨rfl, 1, rfl⟩

/-- A row of numbers of the call's own, in a block of its own. -/
structure RowAt (w : World) (base g n c : Nat) (l : List Int) : Prop where
  len : l.length = n
  own : w.ownsRow base 3 1 (.slice (some ⟨g, 0, none⟩) n c) n (l.map (Value.int .i64))
section
variable {w w' : World} {base g n c : Nat} {l : List Int}
theorem RowAt.cell (h : RowAt w base g n c l) {i : Nat} (hi : i < n) : w.cell? ⟨g, i, none⟩ = some (.int .i64 (l.getD i 0)) := by
  have hl := h.len
  obtain ⟨g', cap, hv, _, _, _, hc⟩ := owns_shape h.own (by omega)
  injection hv with hv
  injection hv with hv
  injection hv with hv
  subst hv
  exact hc i hi
theorem RowAt.frozen (h : RowAt w base g n c l) (i : Nat) : w.frozen? ⟨g, i, none⟩ = false := by
  rcases h.own.2 with ⟨hv, _⟩ | ⟨g', cap, cur, hv, _, hh, _⟩
  · cases hv
  · injection hv with hv
    injection hv with hv
    injection hv with hv
    subst hv
    simp [World.frozen?, hh]
theorem RowAt.swap (h : RowAt w base g n c l) {i j : Nat} (hi : i < n) (hj : j < n) : RowAt ((w.setCell ⟨g, i, none⟩ (.int .i64 (l.getD j 0))).setCell ⟨g, j, none⟩ (.int .i64 (l.getD i 0))) base g n c (swapL l i j) ∧
    w.grownBy ((w.setCell ⟨g, i, none⟩ (.int .i64 (l.getD j 0))).setCell ⟨g, j, none⟩ (.int .i64 (l.getD i 0))) (some g) := by
  obtain ⟨h1, g1⟩ := own_store h.own i (.int .i64 (l.getD j 0))
  obtain ⟨h2, g2⟩ := own_store h1 j (.int .i64 (l.getD i 0))
  refine ⟨⟨by rw [swapL_length]; exact h.len, ?_⟩, ggrown g1 g2⟩
  unfold swapL
  rw [List.map_set, List.map_set]
  exact h2
theorem RowAt.drewN (h : RowAt w base g n c l) (q : Nat) : RowAt (w.drewN q) base g n c l := ⟨h.len, own_drewN h.own⟩
end

theorem div2 (j : Nat) (h : 0 < j) : ((j : Int) - 1) / 2 = (par j : Nat) := by unfold par; omega

set_option maxRecDepth 100000 in
set_option maxHeartbeats 4000000 in
theorem up71 (w : World) (R g n c base j : Nat) (l : List Int) (hR : w.cell? ⟨R, 0, none⟩ = some (.slice (some ⟨g, 0, none⟩) n c)) (hrow : RowAt w base g n c l) (hRg : R ≠ g) (hj : j < n) (hU : UpAt l n j) (hn : n ≤ 65536) :
    Calls Try.prog 71 #[.iface 95 (.pointer (some ⟨R, 0, none⟩)), .int .i64 j] w fun e w' => e = .returned (.tuple #[]) ∧ ∃ l', l'.Perm l ∧ IsHeap l' n ∧ RowAt w' base g n c l' ∧ w.grownBy w' (some g) := by
  have H0 : Hid (l.Perm l ∧ UpAt l n j ∧ RowAt w base g n c l ∧ w.grownBy w (some g)) := Lib.hid ⟨.refl _, hU, hrow, World.grownBy.refl w _⟩
  have HR0 := Lib.hid hR
  clear hrow hU hR
  go_enter Try.func71, Try.ntmps71
  go_wp2
  go_loopw [1] (fun jv wr => ∃ (j : Nat) (l' : List Int), jv = .int .i64 j ∧ j < n ∧ Hid (l'.Perm l ∧ UpAt l' n j ∧ RowAt wr base g n c l' ∧ w.grownBy wr (some g))) (fun jv _ => (intOf jv).toNat)
  case atStart => exact ⟨j, l, rfl, hj, H0⟩
  case round =>
    obtain ⟨j, l', rfl, hj, hh⟩ := hrel
    obtain ⟨hp, hu, hrow, hg⟩ := hh.out
    have hR : wr.cell? ⟨R, 0, none⟩ = some (.slice (some ⟨g, 0, none⟩) n c) := (World.cell?_of_block (a := ⟨_, _, none⟩) (hg.block _ (World.block_lt_of_cell? w _ HR0.out) (by intro e; injection e with e; exact hRg e))).trans HR0.out
    rcases Nat.eq_zero_or_pos j with h0 | h0
    · subst h0
      clear hp hu hrow hg hR
      go_wp2
      go_end0
      obtain ⟨hp, hu, hrow, hg⟩ := hh.out
      exact ⟨rfl, l', hp, up_stop hu (.inl rfl), hrow, hg⟩
    · have hd := div2 j h0
      have hpl := par_lt h0
      have hst := up_step (j := j) hu hrow.len.symm hj h0
      have hsp := up_stop (j := j) hu
      have cj := hrow.cell hj
      have ci := hrow.cell (i := par j) (by omega)
      have fj := hrow.frozen j
      have fi := hrow.frozen (par j)
      have hsw := fun q => (hrow.drewN q).swap (i := par j) (j := j) (by omega) hj
      have hpp := swapL_perm l' (par j) j (by have := hrow.len; omega) (by have := hrow.len; omega)
      have hmL := m_less wr R _ hR
      obtain ⟨i, hi⟩ : ∃ i, i = par j := ⟨_, rfl⟩
      rw [← hi] at hd hpl hst hsp ci fi hsw hpp
      obtain ⟨x, hx⟩ : ∃ x, x = l'.getD j 0 := ⟨_, rfl⟩
      obtain ⟨y, hy⟩ : ∃ x, x = l'.getD i 0 := ⟨_, rfl⟩
      rw [← hx] at hst hsp cj hsw
      rw [← hy] at hst hsp ci hsw
      have HS := Lib.hid hsw
      have HT := Lib.hid hst
      have HP := Lib.hid hsp
      have HPP := Lib.hid hpp
      have HG := Lib.hid hg
      have HPm := Lib.hid hp
      have HI := Lib.hid hi
      have HRow := Lib.hid hrow
      clear hx hy hi hsw hst hsp hpp hg hp hu hrow hh
      have hij : ((i : Int) == (j : Int)) = false := by simpa using (by omega : ¬ (i : Int) = (j : Int))
      have e0 : (0 : Int) ≤ (j : Int) - 1 := by omega
      by_cases hlt : x < y
      · have hb : decide (x < y) = true := by simpa using hlt
        have HT2 := Lib.hid (HT.out hlt)
        clear HT hlt HP
        go_wp2_with fail
        refine (less95 _ g n c j i x y hj (by omega) hn cj ci).mono ?_
        rintro e w1 ⟨rfl, q, rfl⟩
        have hmS := m_swap (wr.drewN q) R _ hR
        go_wp2_with fail
        refine (swap96 (wr.drewN q) g n c i j y x (by omega) hj hn ci cj fi fj).mono ?_
        rintro e w1 ⟨rfl, q2, rfl⟩
        go_wp2_with fail
        go_roundw
        case rel => exact ⟨i, swapL l' i j, rfl, by omega, Lib.hid ⟨HPP.out.trans HPm.out, HT2.out, (HS.out q).1.drewN q2, grownBy_trans (grownBy_trans (grownBy_trans HG.out (grownBy_drewN _ q _)) (HS.out q).2) (grownBy_drewN _ q2 _)⟩⟩
        case measure => simp [intOf]; omega
      · have hb : decide (x < y) = false := by simpa using hlt
        have HP2 := Lib.hid (HP.out (.inr (by omega)))
        clear hlt HP HT
        go_wp2_with fail
        refine (less95 _ g n c j i x y hj (by omega) hn cj ci).mono ?_
        rintro e w1 ⟨rfl, q, rfl⟩
        go_wp2_with fail
        go_end0
        exact ⟨rfl, l', HPm.out, HP2.out, HRow.out.drewN q, grownBy_trans HG.out (grownBy_drewN _ q _)⟩
end Go.Proofs.Ytibimdhmfchcoaa
