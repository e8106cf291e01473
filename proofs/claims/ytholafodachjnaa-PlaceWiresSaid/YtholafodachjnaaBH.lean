/- H1 -/
import Derived.Test.YtholafodachjnaaO0
import Derived.RegionTactic
import Derived.Deep.RegionWith
/- The methods of the heap of numbers. -/
namespace Go.Proofs.Ytholafodachjnaa
open Go.RowKit Go.Shelf Go.Maps
set_option linter.unusedVariables false
set_option linter.unusedSimpArgs false

theorem nilchk (w : World) (a : Addr) (nm : String) : Sem.run Try.prog (Builtin.ssaWrapNilChk_ #[91] 91 #[.pointer (some a), strVal "", strVal nm]) w = .ok (.pointer (some a)) w := rfl
theorem m_len (w : World) (R : Nat) (v : Value) (h : w.cell? ⟨R, 0, none⟩ = some v) : Sem.run Try.prog (method 228 91 (.pointer (some ⟨R, 0, none⟩)) "Len") w = .ok (92, v) w := by
  have e : Sem.run Try.prog (method 228 91 (.pointer (some ⟨R, 0, none⟩)) "Len") w = Sem.run Try.prog (do let v ← receiverAt 91 (.val (.pointer (some ⟨R, 0, none⟩))) false (some "Len"); pure (92, v)) w := by kernel_rfl
  rw [e]
  simp [receiverAt, Place.get, nilchk, go_sem, h]
theorem m_less (w : World) (R : Nat) (v : Value) (h : w.cell? ⟨R, 0, none⟩ = some v) : Sem.run Try.prog (method 228 91 (.pointer (some ⟨R, 0, none⟩)) "Less") w = .ok (93, v) w := by
  have e : Sem.run Try.prog (method 228 91 (.pointer (some ⟨R, 0, none⟩)) "Less") w = Sem.run Try.prog (do let v ← receiverAt 91 (.val (.pointer (some ⟨R, 0, none⟩))) false (some "Less"); pure (93, v)) w := by kernel_rfl
  rw [e]
  simp [receiverAt, Place.get, nilchk, go_sem, h]
theorem m_swap (w : World) (R : Nat) (v : Value) (h : w.cell? ⟨R, 0, none⟩ = some v) : Sem.run Try.prog (method 228 91 (.pointer (some ⟨R, 0, none⟩)) "Swap") w = .ok (94, v) w := by
  have e : Sem.run Try.prog (method 228 91 (.pointer (some ⟨R, 0, none⟩)) "Swap") w = Sem.run Try.prog (do let v ← receiverAt 91 (.val (.pointer (some ⟨R, 0, none⟩))) false (some "Swap"); pure (94, v)) w := by kernel_rfl
  rw [e]
  simp [receiverAt, Place.get, nilchk, go_sem, h]
theorem m_push (w : World) (p : Value) : Sem.run Try.prog (method 228 91 p "Push") w = .ok (96, p) w := by kernel_rfl
theorem m_pop (w : World) (p : Value) : Sem.run Try.prog (method 228 91 p "Pop") w = .ok (95, p) w := by kernel_rfl

set_option maxHeartbeats 2000000 in
theorem len94 (w : World) (a : Option Addr) (n c : Nat) : Calls Try.prog 92 #[.slice a n c] w fun e w' => e = .returned (.int .i64 n) ∧ w = w' := by
  go_enter Try.func92, Try.ntmps92
  go_wp2
  go_ret
  exact ⟨rfl, rfl⟩
set_option maxHeartbeats 2000000 in
theorem less95 (w : World) (g n c i j : Nat) (x y : Int) (hi : i < n) (hj : j < n) (hn : n ≤ 65536) (ci : w.cell? ⟨g, i, none⟩ = some (.int .i64 x)) (cj : w.cell? ⟨g, j, none⟩ = some (.int .i64 y)) :
    Calls Try.prog 93 #[.slice (some ⟨g, 0, none⟩) n c, .int .i64 i, .int .i64 j] w fun e w' => e = .returned (.bool (decide (x < y))) ∧ ∃ q, w' = w.drewN q := by
  go_enter Try.func93, Try.ntmps93
  go_wp2
  go_quiet (fail)
  go_wp2
  go_ret
  exact ⟨rfl, nq, rfl⟩
set_option maxHeartbeats 2000000 in
theorem swap96 (w : World) (g n c i j : Nat) (x y : Int) (hi : i < n) (hj : j < n) (hn : n ≤ 65536) (ci : w.cell? ⟨g, i, none⟩ = some (.int .i64 x)) (cj : w.cell? ⟨g, j, none⟩ = some (.int .i64 y))
    (fi : w.frozen? ⟨g, i, none⟩ = false) (fj : w.frozen? ⟨g, j, none⟩ = false) :
    Calls Try.prog 94 #[.slice (some ⟨g, 0, none⟩) n c, .int .i64 i, .int .i64 j] w fun e w' => e = .returned (.tuple #[]) ∧ ∃ q, w' = ((w.setCell ⟨g, i, none⟩ (.int .i64 y)).setCell ⟨g, j, none⟩ (.int .i64 x)).drewN q := by
  obtain ⟨v', hy'⟩ := cell?_setCell_some (w := w) (p := ⟨g, i, none⟩) (x := .int .i64 y) (q := ⟨g, j, none⟩) cj
  go_enter Try.func94, Try.ntmps94
  go_wp2
  go_region
  all_goals (try go_wp2)
  all_goals go_end0
  all_goals exact ⟨rfl, 1, rfl⟩

/-- A row of numbers of the call's own, in a block of its own. -/
structure RowAt (w : World) (base g n c : Nat) (l : List Int) : Prop where
  len : l.length = n
  own : w.ownsRow base 3 1 (.slice (some ⟨g, 0, none⟩) n c) n (l.map (Value.int .i64))
section
variable {w w' : World} {base g n c : Nat} {l : List Int}
theorem RowAt.cell (h : RowAt w base g n c l) {i : Nat} (hi : i < n) : w.cell? ⟨g, i, none⟩ = some (.int .i64 (l.getD i 0)) := by
  have hl := h.len
  obtain ⟨g', cap, hv, _, _, _, hc⟩ := owns_shape h.own (by omega)
  injection hv with hv
  injection hv with hv
  injection hv with hv
  subst hv
  exact hc i hi
theorem RowAt.frozen (h : RowAt w base g n c l) (i : Nat) : w.frozen? ⟨g, i, none⟩ = false := by
  rcases h.own.2 with ⟨hv, _⟩ | ⟨g', cap, cur, hv, _, hh, _⟩
  · cases hv
  · injection hv with hv
    injection hv with hv
    injection hv with hv
    subst hv
    simp [World.frozen?, hh]
theorem RowAt.swap (h : RowAt w base g n c l) {i j : Nat} (hi : i < n) (hj : j < n) : RowAt ((w.setCell ⟨g, i, none⟩ (.int .i64 (l.getD j 0))).setCell ⟨g, j, none⟩ (.int .i64 (l.getD i 0))) base g n c (swapL l i j) ∧
    w.grownBy ((w.setCell ⟨g, i, none⟩ (.int .i64 (l.getD j 0))).setCell ⟨g, j, none⟩ (.int .i64 (l.getD i 0))) (some g) := by
  obtain ⟨h1, g1⟩ := own_store h.own i (.int .i64 (l.getD j 0))
  obtain ⟨h2, g2⟩ := own_store h1 j (.int .i64 (l.getD i 0))
  refine ⟨⟨by rw [swapL_length]; exact h.len, ?_⟩, ggrown g1 g2⟩
  unfold swapL
  rw [List.map_set, List.map_set]
  exact h2
theorem RowAt.drewN (h : RowAt w base g n c l) (q : Nat) : RowAt (w.drewN q) base g n c l := ⟨h.len, own_drewN h.own⟩
end

theorem div2 (j : Nat) (h : 0 < j) : ((j : Int) - 1) / 2 = (par j : Nat) := by unfold par; omega

set_option maxRecDepth 100000 in
set_option maxHeartbeats 4000000 in
theorem up71 (w : World) (R g n c base j : Nat) (l : List Int) (hR : w.cell? ⟨R, 0, none⟩ = some (.slice (some ⟨g, 0, none⟩) n c)) (hrow : RowAt w base g n c l) (hRg : R ≠ g) (hj : j < n) (hU : UpAt l n j) (hn : n ≤ 65536) :
    Calls Try.prog 70 #[.iface 91 (.pointer (some ⟨R, 0, none⟩)), .int .i64 j] w fun e w' => e = .returned (.tuple #[]) ∧ ∃ l', l'.Perm l ∧ IsHeap l' n ∧ RowAt w' base g n c l' ∧ w.grownBy w' (some g) := by
  have H0 : Hid (l.Perm l ∧ UpAt l n j ∧ RowAt w base g n c l ∧ w.grownBy w (some g)) := Lib.hid ⟨.refl _, hU, hrow, World.grownBy.refl w _⟩
  have HR0 := Lib.hid hR
  clear hrow hU hR
  go_enter Try.func70, Try.ntmps70
  go_wp2
  go_loopw [1] (fun jv wr => ∃ (j : Nat) (l' : List Int), jv = .int .i64 j ∧ j < n ∧ Hid (l'.Perm l ∧ UpAt l' n j ∧ RowAt wr base g n c l' ∧ w.grownBy wr (some g))) (fun jv _ => (intOf jv).toNat)
  case atStart => exact ⟨j, l, rfl, hj, H0⟩
  case round =>
    obtain ⟨j, l', rfl, hj, hh⟩ := hrel
    obtain ⟨hp, hu, hrow, hg⟩ := hh.out
    have hR : wr.cell? ⟨R, 0, none⟩ = some (.slice (some ⟨g, 0, none⟩) n c) := (World.cell?_of_block (a := ⟨_, _, none⟩) (hg.block _ (World.block_lt_of_cell? w _ HR0.out) (by intro e; injection e with e; exact hRg e))).trans HR0.out
    rcases Nat.eq_zero_or_pos j with h0 | h0
    · subst h0
      clear hp hu hrow hg hR
      go_wp2
      go_end0
      obtain ⟨hp, hu, hrow, hg⟩ := hh.out
      exact ⟨rfl, l', hp, up_stop hu (.inl rfl), hrow, hg⟩
    · have hd := div2 j h0
      have hpl := par_lt h0
      have hst := up_step (j := j) hu hrow.len.symm hj h0
      have hsp := up_stop (j := j) hu
      have cj := hrow.cell hj
      have ci := hrow.cell (i := par j) (by omega)
      have fj := hrow.frozen j
      have fi := hrow.frozen (par j)
      have hsw := fun q => (hrow.drewN q).swap (i := par j) (j := j) (by omega) hj
      have hpp := swapL_perm l' (par j) j (by have := hrow.len; omega) (by have := hrow.len; omega)
      have hmL := m_less wr R _ hR
      obtain ⟨i, hi⟩ : ∃ i, i = par j := ⟨_, rfl⟩
      rw [← hi] at hd hpl hst hsp ci fi hsw hpp
      obtain ⟨x, hx⟩ : ∃ x, x = l'.getD j 0 := ⟨_, rfl⟩
      obtain ⟨y, hy⟩ : ∃ x, x = l'.getD i 0 := ⟨_, rfl⟩
      rw [← hx] at hst hsp cj hsw
      rw [← hy] at hst hsp ci hsw
      have HS := Lib.hid hsw
      have HT := Lib.hid hst
      have HP := Lib.hid hsp
      have HPP := Lib.hid hpp
      have HG := Lib.hid hg
      have HPm := Lib.hid hp
      have HI := Lib.hid hi
      have HRow := Lib.hid hrow
      clear hx hy hi hsw hst hsp hpp hg hp hu hrow hh
      have hij : ((i : Int) == (j : Int)) = false := by simpa using (by omega : ¬ (i : Int) = (j : Int))
      have e0 : (0 : Int) ≤ (j : Int) - 1 := by omega
      by_cases hlt : x < y
      · have hb : decide (x < y) = true := by simpa using hlt
        have HT2 := Lib.hid (HT.out hlt)
        clear HT hlt HP
        go_wp2_with fail
        refine (less95 _ g n c j i x y hj (by omega) hn cj ci).mono ?_
        rintro e w1 ⟨rfl, q, rfl⟩
        have hmS := m_swap (wr.drewN q) R _ hR
        go_wp2_with fail
        refine (swap96 (wr.drewN q) g n c i j y x (by omega) hj hn ci cj fi fj).mono ?_
        rintro e w1 ⟨rfl, q2, rfl⟩
        go_wp2_with fail
        go_roundw
        case rel => exact ⟨i, swapL l' i j, rfl, by omega, Lib.hid ⟨HPP.out.trans HPm.out, HT2.out, (HS.out q).1.drewN q2, grownBy_trans (grownBy_trans (grownBy_trans HG.out (grownBy_drewN _ q _)) (HS.out q).2) (grownBy_drewN _ q2 _)⟩⟩
        case measure => simp [intOf]; omega
      · have hb : decide (x < y) = false := by simpa using hlt
        have HP2 := Lib.hid (HP.out (.inr (by omega)))
        clear hlt HP HT
        go_wp2_with fail
        refine (less95 _ g n c j i x y hj (by omega) hn cj ci).mono ?_
        rintro e w1 ⟨rfl, q, rfl⟩
        go_wp2_with fail
        go_end0
        exact ⟨rfl, l', HPm.out, HP2.out, HRow.out.drewN q, grownBy_trans HG.out (grownBy_drewN _ q _)⟩
end Go.Proofs.Ytholafodachjnaa

/- H2 -/
namespace Go.Proofs.Ytholafodachjnaa
open Go.RowKit Go.Shelf Go.Maps
set_option linter.unusedVariables false
set_option linter.unusedSimpArgs false

def SameFrom (m : Nat) (a b : List Int) : Prop := ∀ k, m ≤ k → a.getD k 0 = b.getD k 0
theorem less95' (I J : Int) (w : World) (g n c i j : Nat) (x y : Int) (hI : I = i) (hJ : J = j) (hi : i < n) (hj : j < n) (hn : n ≤ 65536) (ci : w.cell? ⟨g, i, none⟩ = some (.int .i64 x)) (cj : w.cell? ⟨g, j, none⟩ = some (.int .i64 y)) :
    Calls Try.prog 93 #[.slice (some ⟨g, 0, none⟩) n c, .int .i64 I, .int .i64 J] w fun e w' => e = .returned (.bool (decide (x < y))) ∧ ∃ q, w' = w.drewN q := by
  subst hI hJ; exact less95 w g n c i j x y hi hj hn ci cj
theorem swap96' (I J : Int) (w : World) (g n c i j : Nat) (x y : Int) (hI : I = i) (hJ : J = j) (hi : i < n) (hj : j < n) (hn : n ≤ 65536) (ci : w.cell? ⟨g, i, none⟩ = some (.int .i64 x)) (cj : w.cell? ⟨g, j, none⟩ = some (.int .i64 y))
    (fi : w.frozen? ⟨g, i, none⟩ = false) (fj : w.frozen? ⟨g, j, none⟩ = false) :
    Calls Try.prog 94 #[.slice (some ⟨g, 0, none⟩) n c, .int .i64 I, .int .i64 J] w fun e w' => e = .returned (.tuple #[]) ∧ ∃ q, w' = ((w.setCell ⟨g, i, none⟩ (.int .i64 y)).setCell ⟨g, j, none⟩ (.int .i64 x)).drewN q := by
  subst hI hJ; exact swap96 w g n c i j x y hi hj hn ci cj fi fj

set_option maxRecDepth 100000 in
set_option maxHeartbeats 8000000 in
theorem down72 (w : World) (R g N c base m : Nat) (l : List Int) (hR : w.cell? ⟨R, 0, none⟩ = some (.slice (some ⟨g, 0, none⟩) N c)) (hrow : RowAt w base g N c l) (hRg : R ≠ g) (hm : m ≤ N) (hU : DnAt l m 0) (hN : N ≤ 65536) :
    Calls Try.prog 71 #[.iface 91 (.pointer (some ⟨R, 0, none⟩)), .int .i64 0, .int .i64 m] w fun e w' => ∃ b, e = .returned (.bool b) ∧ ∃ l', l'.Perm l ∧ IsHeap l' m ∧ RowAt w' base g N c l' ∧ SameFrom m l' l ∧ w.grownBy w' (some g) := by
  have H0 : Hid (l.Perm l ∧ DnAt l m 0 ∧ RowAt w base g N c l ∧ SameFrom m l l ∧ w.grownBy w (some g)) := Lib.hid ⟨.refl _, hU, hrow, fun _ _ => rfl, World.grownBy.refl w _⟩
  have HR0 := Lib.hid hR
  clear hrow hU hR
  go_enter Try.func71, Try.ntmps71
  go_wp2
  go_loopw [7] (fun jv wr => ∃ (j : Nat) (l' : List Int), jv = .int .i64 j ∧ j ≤ m ∧ Hid (l'.Perm l ∧ DnAt l' m j ∧ RowAt wr base g N c l' ∧ SameFrom m l' l ∧ w.grownBy wr (some g))) (fun jv _ => m - (intOf jv).toNat)
  case atStart => exact ⟨0, l, rfl, by omega, H0⟩
  case round =>
    obtain ⟨i, l', rfl, hj, hh⟩ := hrel
    obtain ⟨hp, hu, hrow, hk, hg⟩ := hh.out
    have hR : wr.cell? ⟨R, 0, none⟩ = some (.slice (some ⟨g, 0, none⟩) N c) := (World.cell?_of_block (a := ⟨_, _, none⟩) (hg.block _ (World.block_lt_of_cell? w _ HR0.out) (by intro e; injection e with e; exact hRg e))).trans HR0.out
    have HU := Lib.hid hu
    have HG := Lib.hid hg
    have HPm := Lib.hid hp
    have HRow := Lib.hid hrow
    have HK := Lib.hid hk
    obtain ⟨a, ha⟩ : ∃ a, a = 2 * i + 1 := ⟨_, rfl⟩
    have HA := Lib.hid ha
    have hb0 : (2 * (i : Int) + 1 < 0) = False := by simp; omega
    by_cases ham : 2 * i + 1 < m
    · have hab : decide ((m : Int) ≤ 2 * (i : Int) + 1) = false := by simpa using (by omega : 2 * (i : Int) + 1 < m)
      obtain ⟨b, hbb⟩ : ∃ b, b = a + 1 := ⟨_, rfl⟩
      have HB := Lib.hid hbb
      have ci := hrow.cell (i := i) (by omega)
      have ca := hrow.cell (i := a) (by omega)
      have fi := hrow.frozen i
      have fa := hrow.frozen a
      have fb := hrow.frozen b
      obtain ⟨zi, hzi⟩ : ∃ x, x = l'.getD i 0 := ⟨_, rfl⟩
      obtain ⟨za, hza⟩ : ∃ x, x = l'.getD a 0 := ⟨_, rfl⟩
      rw [← hzi] at ci
      rw [← hza] at ca
      have HZi := Lib.hid hzi
      have HZa := Lib.hid hza
      have ham2 : a < m := by omega
      by_cases hbm : b < m
      · have cb := hrow.cell (i := b) (by omega)
        obtain ⟨zb, hzb⟩ : ∃ x, x = l'.getD b 0 := ⟨_, rfl⟩
        rw [← hzb] at cb
        have HZb := Lib.hid hzb
        have hbc : decide (2 * (i : Int) + 1 + 1 < (m : Int)) = true := by simpa using (by omega : 2 * (i : Int) + 1 + 1 < m)
        clear hzi hza hzb hbb ha hp hu hrow hk hg hh
        by_cases hlt : zb < za
        · have hb1 : decide (zb < za) = true := by simpa using hlt
          by_cases hlt2 : zb < zi
          · have hb2 : decide (zb < zi) = true := by simpa using hlt2
            have hAe := HA.out
            have hBe := HB.out
            have HS : Hid (∀ q, RowAt (((wr.drewN q).setCell ⟨g, i, none⟩ (.int .i64 zb)).setCell ⟨g, b, none⟩ (.int .i64 zi)) base g N c (swapL l' i b) ∧ (wr.drewN q).grownBy (((wr.drewN q).setCell ⟨g, i, none⟩ (.int .i64 zb)).setCell ⟨g, b, none⟩ (.int .i64 zi)) (some g)) := Lib.hid (fun q => by
              have h := (HRow.out.drewN q).swap (i := i) (j := b) (by omega) (by omega)
              rw [← HZi.out, ← HZb.out] at h; exact h)
            have HT2 : Hid (DnAt (swapL l' i b) m b) := Lib.hid (dn_step HU.out (by rw [HRow.out.len]; omega) (by omega) (by omega) (by unfold par; omega) (by rw [← HZi.out, ← HZb.out]; exact hlt2) (by
              intro k k0 hk hkp
              rw [← HZb.out]
              have hkk : k = 2 * i + 1 ∨ k = 2 * i + 2 := by unfold par at hkp; omega
              rcases hkk with e | e
              · subst e; rw [show 2 * i + 1 = a by omega, ← HZa.out]; omega
              · subst e; rw [show 2 * i + 2 = b by omega, ← HZb.out]; omega))
            have HPP : Hid ((swapL l' i b).Perm l') := Lib.hid (swapL_perm l' i b (by rw [HRow.out.len]; omega) (by rw [HRow.out.len]; omega))
            have HKp : Hid (SameFrom m (swapL l' i b) l) := Lib.hid (fun k hk => by
              rw [swapL_get l' i b k (by rw [HRow.out.len]; omega) (by rw [HRow.out.len]; omega), if_neg (by omega), if_neg (by omega)]; exact HK.out k hk)
            clear hlt2 hAe hBe
            have hm1 := m_less wr R _ hR
            go_wp2_with fail
            refine Calls.mono (less95' _ _ wr g N c b a zb za (by have := HA.out; have := HB.out; omega) (by have := HA.out; omega) (by omega) (by omega) hN cb ca) ?_
            rintro e w1 ⟨rfl, p, rfl⟩
            have hm2 := m_less (wr.drewN p) R _ hR
            go_wp2_with fail
            refine Calls.mono (less95' _ _ (wr.drewN p) g N c b i zb zi (by have := HA.out; have := HB.out; omega) rfl (by omega) (by omega) hN cb ci) ?_
            rintro e w1 ⟨rfl, q, rfl⟩
            have hmS := m_swap (wr.drewN (p + q)) R _ hR
            go_wp2_with fail
            refine Calls.mono (swap96' _ _ (wr.drewN (p + q)) g N c i b zi zb rfl (by have := HA.out; have := HB.out; omega) (by omega) (by omega) hN ci cb fi fb) ?_
            rintro e w1 ⟨rfl, q2, rfl⟩
            go_wp2_with fail
            go_roundw
            case rel => exact ⟨b, swapL l' i b, congrArg (Value.int .i64) (by have := HA.out; have := HB.out; omega), by omega, Lib.hid ⟨HPP.out.trans HPm.out, HT2.out, by exact ((HS.out (p + q)).1.drewN q2), HKp.out, by exact grownBy_trans (grownBy_trans (grownBy_trans HG.out (grownBy_drewN _ (p + q) _)) (HS.out (p + q)).2) (grownBy_drewN _ q2 _)⟩⟩
            case measure => simp [intOf]; omega
          · have hb2 : decide (zb < zi) = false := by simpa using hlt2
            have hAe := HA.out
            have hBe := HB.out
            have HT2 : Hid (IsHeap l' m) := Lib.hid (dn_stop HU.out (by
              intro k k0 hk hkp
              rw [← HZi.out]
              have hz : zi ≤ zb := by omega
              have hkk : k = 2 * i + 1 ∨ k = 2 * i + 2 := by unfold par at hkp; omega
              refine Int.le_trans hz ?_
              rcases hkk with e | e
              · subst e; rw [show 2 * i + 1 = a by omega, ← HZa.out]; omega
              · subst e; rw [show 2 * i + 2 = b by omega, ← HZb.out]; omega))
            clear hlt2 hAe hBe
            have hm1 := m_less wr R _ hR
            go_wp2_with fail
            refine Calls.mono (less95' _ _ wr g N c b a zb za (by have := HA.out; have := HB.out; omega) (by have := HA.out; omega) (by omega) (by omega) hN cb ca) ?_
            rintro e w1 ⟨rfl, p, rfl⟩
            have hm2 := m_less (wr.drewN p) R _ hR
            go_wp2_with fail
            refine Calls.mono (less95' _ _ (wr.drewN p) g N c b i zb zi (by have := HA.out; have := HB.out; omega) rfl (by omega) (by omega) hN cb ci) ?_
            rintro e w1 ⟨rfl, q, rfl⟩
            go_wp2_with fail
            go_ret
            exact ⟨_, rfl, l', HPm.out, HT2.out, by exact HRow.out.drewN (p + q), HK.out, by exact grownBy_trans HG.out (grownBy_drewN _ (p + q) _)⟩
        · have hb1 : decide (zb < za) = false := by simpa using hlt
          by_cases hlt2 : za < zi
          · have hb2 : decide (za < zi) = true := by simpa using hlt2
            have hAe := HA.out
            have hBe := HB.out
            have HS : Hid (∀ q, RowAt (((wr.drewN q).setCell ⟨g, i, none⟩ (.int .i64 za)).setCell ⟨g, a, none⟩ (.int .i64 zi)) base g N c (swapL l' i a) ∧ (wr.drewN q).grownBy (((wr.drewN q).setCell ⟨g, i, none⟩ (.int .i64 za)).setCell ⟨g, a, none⟩ (.int .i64 zi)) (some g)) := Lib.hid (fun q => by
              have h := (HRow.out.drewN q).swap (i := i) (j := a) (by omega) (by omega)
              rw [← HZi.out, ← HZa.out] at h; exact h)
            have HT2 : Hid (DnAt (swapL l' i a) m a) := Lib.hid (dn_step HU.out (by rw [HRow.out.len]; omega) (by omega) (by omega) (by unfold par; omega) (by rw [← HZi.out, ← HZa.out]; exact hlt2) (by
              intro k k0 hk hkp
              rw [← HZa.out]
              have hkk : k = 2 * i + 1 ∨ k = 2 * i + 2 := by unfold par at hkp; omega
              rcases hkk with e | e
              · subst e; rw [show 2 * i + 1 = a by omega, ← HZa.out]; omega
              · subst e; rw [show 2 * i + 2 = b by omega, ← HZb.out]; omega))
            have HPP : Hid ((swapL l' i a).Perm l') := Lib.hid (swapL_perm l' i a (by rw [HRow.out.len]; omega) (by rw [HRow.out.len]; omega))
            have HKp : Hid (SameFrom m (swapL l' i a) l) := Lib.hid (fun k hk => by
              rw [swapL_get l' i a k (by rw [HRow.out.len]; omega) (by rw [HRow.out.len]; omega), if_neg (by omega), if_neg (by omega)]; exact HK.out k hk)
            clear hlt2 hAe hBe
            have hm1 := m_less wr R _ hR
            go_wp2_with fail
            refine Calls.mono (less95' _ _ wr g N c b a zb za (by have := HA.out; have := HB.out; omega) (by have := HA.out; omega) (by omega) (by omega) hN cb ca) ?_
            rintro e w1 ⟨rfl, p, rfl⟩
            have hm2 := m_less (wr.drewN p) R _ hR
            go_wp2_with fail
            refine Calls.mono (less95' _ _ (wr.drewN p) g N c a i za zi (by have := HA.out; have := HB.out; omega) rfl (by omega) (by omega) hN ca ci) ?_
            rintro e w1 ⟨rfl, q, rfl⟩
            have hmS := m_swap (wr.drewN (p + q)) R _ hR
            go_wp2_with fail
            refine Calls.mono (swap96' _ _ (wr.drewN (p + q)) g N c i a zi za rfl (by have := HA.out; have := HB.out; omega) (by omega) (by omega) hN ci ca fi fa) ?_
            rintro e w1 ⟨rfl, q2, rfl⟩
            go_wp2_with fail
            go_roundw
            case rel => exact ⟨a, swapL l' i a, congrArg (Value.int .i64) (by have := HA.out; have := HB.out; omega), by omega, Lib.hid ⟨HPP.out.trans HPm.out, HT2.out, by exact ((HS.out (p + q)).1.drewN q2), HKp.out, by exact grownBy_trans (grownBy_trans (grownBy_trans HG.out (grownBy_drewN _ (p + q) _)) (HS.out (p + q)).2) (grownBy_drewN _ q2 _)⟩⟩
            case measure => simp [intOf]; omega
          · have hb2 : decide (za < zi) = false := by simpa using hlt2
            have hAe := HA.out
            have hBe := HB.out
            have HT2 : Hid (IsHeap l' m) := Lib.hid (dn_stop HU.out (by
              intro k k0 hk hkp
              rw [← HZi.out]
              have hz : zi ≤ za := by omega
              have hkk : k = 2 * i + 1 ∨ k = 2 * i + 2 := by unfold par at hkp; omega
              refine Int.le_trans hz ?_
              rcases hkk with e | e
              · subst e; rw [show 2 * i + 1 = a by omega, ← HZa.out]; omega
              · subst e; rw [show 2 * i + 2 = b by omega, ← HZb.out]; omega))
            clear hlt2 hAe hBe
            have hm1 := m_less wr R _ hR
            go_wp2_with fail
            refine Calls.mono (less95' _ _ wr g N c b a zb za (by have := HA.out; have := HB.out; omega) (by have := HA.out; omega) (by omega) (by omega) hN cb ca) ?_
            rintro e w1 ⟨rfl, p, rfl⟩
            have hm2 := m_less (wr.drewN p) R _ hR
            go_wp2_with fail
            refine Calls.mono (less95' _ _ (wr.drewN p) g N c a i za zi (by have := HA.out; have := HB.out; omega) rfl (by omega) (by omega) hN ca ci) ?_
            rintro e w1 ⟨rfl, q, rfl⟩
            go_wp2_with fail
            go_ret
            exact ⟨_, rfl, l', HPm.out, HT2.out, by exact HRow.out.drewN (p + q), HK.out, by exact grownBy_trans HG.out (grownBy_drewN _ (p + q) _)⟩
      · have hbc : decide (2 * (i : Int) + 1 + 1 < (m : Int)) = false := by simpa using (by omega : (m : Int) ≤ 2 * (i : Int) + 1 + 1)
        clear hzi hza hbb ha hp hu hrow hk hg hh fb
        by_cases hlt2 : za < zi
        · have hb2 : decide (za < zi) = true := by simpa using hlt2
          have hAe := HA.out
          skip
          have HS : Hid (∀ q, RowAt (((wr.drewN q).setCell ⟨g, i, none⟩ (.int .i64 za)).setCell ⟨g, a, none⟩ (.int .i64 zi)) base g N c (swapL l' i a) ∧ (wr.drewN q).grownBy (((wr.drewN q).setCell ⟨g, i, none⟩ (.int .i64 za)).setCell ⟨g, a, none⟩ (.int .i64 zi)) (some g)) := Lib.hid (fun q => by
            have h := (HRow.out.drewN q).swap (i := i) (j := a) (by omega) (by omega)
            rw [← HZi.out, ← HZa.out] at h; exact h)
          have HT2 : Hid (DnAt (swapL l' i a) m a) := Lib.hid (dn_step HU.out (by rw [HRow.out.len]; omega) (by omega) (by omega) (by unfold par; omega) (by rw [← HZi.out, ← HZa.out]; exact hlt2) (by
            intro k k0 hk hkp
            rw [← HZa.out]
            have hkk : k = 2 * i + 1 ∨ k = 2 * i + 2 := by unfold par at hkp; omega
            rcases hkk with e | e
            · subst e; rw [show 2 * i + 1 = a by omega, ← HZa.out]; omega
            · have := HB.out; omega))
          have HPP : Hid ((swapL l' i a).Perm l') := Lib.hid (swapL_perm l' i a (by rw [HRow.out.len]; omega) (by rw [HRow.out.len]; omega))
          have HKp : Hid (SameFrom m (swapL l' i a) l) := Lib.hid (fun k hk => by
            rw [swapL_get l' i a k (by rw [HRow.out.len]; omega) (by rw [HRow.out.len]; omega), if_neg (by omega), if_neg (by omega)]; exact HK.out k hk)
          clear hlt2 hAe
          have hm1 := m_less wr R _ hR
          go_wp2_with fail
          refine Calls.mono (less95' _ _ (wr) g N c a i za zi (by have := HA.out; skip; omega) rfl (by omega) (by omega) hN ca ci) ?_
          rintro e w1 ⟨rfl, q, rfl⟩
          have hmS := m_swap (wr.drewN q) R _ hR
          go_wp2_with fail
          refine Calls.mono (swap96' _ _ (wr.drewN q) g N c i a zi za rfl (by have := HA.out; skip; omega) (by omega) (by omega) hN ci ca fi fa) ?_
          rintro e w1 ⟨rfl, q2, rfl⟩
          go_wp2_with fail
          go_roundw
          case rel => exact ⟨a, swapL l' i a, congrArg (Value.int .i64) (by have := HA.out; skip; omega), by omega, Lib.hid ⟨HPP.out.trans HPm.out, HT2.out, by exact (HS.out q).1.drewN q2, HKp.out, by exact grownBy_trans (grownBy_trans (grownBy_trans HG.out (grownBy_drewN _ q _)) (HS.out q).2) (grownBy_drewN _ q2 _)⟩⟩
          case measure => simp [intOf]; omega
        · have hb2 : decide (za < zi) = false := by simpa using hlt2
          have hAe := HA.out
          skip
          have HT2 : Hid (IsHeap l' m) := Lib.hid (dn_stop HU.out (by
            intro k k0 hk hkp
            rw [← HZi.out]
            have hz : zi ≤ za := by omega
            have hkk : k = 2 * i + 1 ∨ k = 2 * i + 2 := by unfold par at hkp; omega
            refine Int.le_trans hz ?_
            rcases hkk with e | e
            · subst e; rw [show 2 * i + 1 = a by omega, ← HZa.out]; omega
            · have := HB.out; omega))
          clear hlt2 hAe
          have hm1 := m_less wr R _ hR
          go_wp2_with fail
          refine Calls.mono (less95' _ _ (wr) g N c a i za zi (by have := HA.out; skip; omega) rfl (by omega) (by omega) hN ca ci) ?_
          rintro e w1 ⟨rfl, q, rfl⟩
          go_wp2_with fail
          go_ret
          exact ⟨_, rfl, l', HPm.out, HT2.out, by exact HRow.out.drewN q, HK.out, by exact grownBy_trans HG.out (grownBy_drewN _ q _)⟩
    · have hab : decide ((m : Int) ≤ 2 * (i : Int) + 1) = true := by simpa using (by omega : (m : Int) ≤ 2 * (i : Int) + 1)
      have HT2 : Hid (IsHeap l' m) := Lib.hid (dn_stop hu (by intro k k0 hk hkp; unfold par at hkp; omega))
      clear hp hu hrow hk hg hh ha
      go_wp2
      go_ret
      exact ⟨_, rfl, l', HPm.out, HT2.out, HRow.out, HK.out, HG.out⟩
end Go.Proofs.Ytholafodachjnaa

/- H3 -/
namespace Go.Proofs.Ytholafodachjnaa
open Go.RowKit Go.Shelf Go.Maps
set_option linter.unusedVariables false
set_option linter.unusedSimpArgs false

theorem own_short {w : World} {base e g n k c : Nat} {xs : List Value} (h : w.ownsRow base e 1 (.slice (some ⟨g, 0, none⟩) n c) n xs) (hk : k ≤ n) : w.ownsRow base e 1 (.slice (some ⟨g, 0, none⟩) k c) k (xs.take k) := by
  have hl := h.1
  rcases h.2 with ⟨hv, _⟩ | ⟨g', cap, cur, hv, hb, hg, hnc, hcm, hcs, htake⟩
  · cases hv
  · injection hv with h1 h2 h3
    injection h1 with h1
    injection h1 with h1
    subst h1 h3
    refine ⟨by rw [List.length_take]; omega, .inr ⟨g, c, cur, rfl, hb, hg, by omega, hcm, hcs, ?_⟩⟩
    rw [← htake, List.take_take, Nat.mul_one, Nat.mul_one, Nat.min_eq_left (by omega)]

set_option maxRecDepth 100000 in
set_option maxHeartbeats 2000000 in
theorem pop97 (w : World) (R g n c : Nat) (x : Int) (hR : w.cell? ⟨R, 0, none⟩ = some (.slice (some ⟨g, 0, none⟩) (n + 1) c)) (hf : w.frozen? ⟨R, 0, none⟩ = false) (hx : w.cell? ⟨g, n, none⟩ = some (.int .i64 x)) (hc : n + 1 ≤ c) (hc2 : c ≤ maxLen) (hn : n ≤ 65536) :
    Calls Try.prog 95 #[.pointer (some ⟨R, 0, none⟩)] w fun e w' => e = .returned (.iface 3 (.int .i64 x)) ∧ w' = w.setCell ⟨R, 0, none⟩ (.slice (some ⟨g, 0, none⟩) n c) := by
  unfold maxLen at hc2
  have h1 : ¬ c = 0 := by omega
  go_enter Try.func95, Try.ntmps95
  go_wp2
  go_ret
  exact ⟨rfl, rfl⟩

theorem run_assert (w : World) (x : Int) : Sem.run Try.prog (Instr.typeAssert (.iface 3 (.int .i64 x)) 20 3 false) w = .ok (.int .i64 x) w := by kernel_rfl

/-- What a call has written: in block R, and in one row. -/
def PushPost (w : World) (base R : Nat) (v : Value) (l : List Int) (x : Int) (e : Ending) (w' : World) : Prop :=
  ∃ g c w9, e = .returned (.tuple #[]) ∧ w.grownBy w9 v.ownBlock ∧ w' = w9.setCell ⟨R, 0, none⟩ (.slice (some ⟨g, 0, none⟩) (l.length + 1) c) ∧ RowAt w9 base g (l.length + 1) c (l ++ [x]) ∧ (v.ownBlock = some g ∨ g = w.heap.size + 1) ∧ g < w9.heap.size

set_option maxRecDepth 100000 in
set_option maxHeartbeats 2000000 in
theorem push98 (w : World) (base R : Nat) (v : Value) (l : List Int) (x : Int) (hR : w.cell? ⟨R, 0, none⟩ = some v) (hf : w.frozen? ⟨R, 0, none⟩ = false) (hown : w.ownsRow base 3 1 v l.length (l.map (Value.int .i64))) (hne : some R ≠ v.ownBlock) (hb : base ≤ w.heap.size) (hl : l.length ≤ 65536) :
    Calls Try.prog 96 #[.pointer (some ⟨R, 0, none⟩), .iface 3 (.int .i64 x)] w (PushPost w base R v l x) := by
  obtain ⟨i3, hi, hz0, hz1, hz2⟩ := info_parts info3
  have hRs : R < w.heap.size := World.block_lt_of_cell? w _ hR
  have HOwn := hown
  go_enter Try.func96, Try.ntmps96
  go_wp2_with fail
  refine wp_region_K (S := fun w' => w'.cell? ⟨R, 0, none⟩ = some v) 9 (by kernel_rfl) (hR) (fun hHeld => ?_)
  refine wpAnyK_take (i := 0) (v := ?_) (by simp only [List.getElem?_toArray, List.getElem?_cons_succ, List.getElem?_cons_zero]; rfl) (by kernel_rfl) (by kernel_rfl) (by kernel_rfl) (by kernel_rfl) (by intro _ _ _ h; exact h) (Or.inl ⟨by rfl, ?_⟩) (by assumption) ?_
  rotate_left
  · intro w hSw; (try dsimp only at hSw); go_simp; try with_reducible rfl
  try simp only [Act.put, List.setIfInBounds_toArray, List.set_cons_zero, List.set_cons_succ]
  refine wpAnyK_take (i := 1) (v := ?_) (by simp only [List.getElem?_toArray, List.getElem?_cons_succ, List.getElem?_cons_zero]; rfl) (by kernel_rfl) (by kernel_rfl) (by kernel_rfl) (by kernel_rfl) (by intro _ _ _ h; exact h) (Or.inl ⟨by rfl, ?_⟩) (by assumption) ?_
  rotate_left
  · intro w hSw; (try dsimp only at hSw); go_simp; try with_reducible rfl
  try simp only [Act.put, List.setIfInBounds_toArray, List.set_cons_zero, List.set_cons_succ]
  refine wpAnyK_take (i := 2) (v := ?_) (by simp only [List.getElem?_toArray, List.getElem?_cons_succ, List.getElem?_cons_zero]; rfl) (by kernel_rfl) (by kernel_rfl) (by kernel_rfl) (by kernel_rfl) (by intro _ _ _ h; exact h) (Or.inl ⟨by rfl, ?_⟩) (by assumption) ?_
  rotate_left
  · intro w hSw; (try dsimp only at hSw); go_simp; try with_reducible rfl
  try simp only [Act.put, List.setIfInBounds_toArray, List.set_cons_zero, List.set_cons_succ]
  refine wpAnyK_take (i := 3) (v := ?_) (by simp only [List.getElem?_toArray, List.getElem?_cons_succ, List.getElem?_cons_zero]; rfl) (by kernel_rfl) (by kernel_rfl) (by kernel_rfl) (by kernel_rfl) (by intro _ _ _ h; exact h) (Or.inl ⟨by rfl, ?_⟩) (by assumption) ?_
  rotate_left
  · intro w hSw; (try dsimp only at hSw); go_simp; try with_reducible rfl
  try simp only [Act.put, List.setIfInBounds_toArray, List.set_cons_zero, List.set_cons_succ]
  refine wpAnyK_take (i := 4) (v := ?_) (by simp only [List.getElem?_toArray, List.getElem?_cons_succ, List.getElem?_cons_zero]; rfl) (by kernel_rfl) (by kernel_rfl) (by kernel_rfl) (by kernel_rfl) (by intro _ _ _ h; exact h) (Or.inl ⟨by rfl, ?_⟩) (by assumption) ?_
  rotate_left
  · intro w hSw; (try dsimp only at hSw); go_simp; try with_reducible rfl
  try simp only [Act.put, List.setIfInBounds_toArray, List.set_cons_zero, List.set_cons_succ]
  refine wpAnyK_take (i := 5) (v := ?_) (by simp only [List.getElem?_toArray, List.getElem?_cons_succ, List.getElem?_cons_zero]; rfl) (by kernel_rfl) (by kernel_rfl) (by kernel_rfl) (by kernel_rfl) (by intro _ _ _ h; exact h) (Or.inl ⟨by rfl, ?_⟩) (by assumption) ?_
  rotate_left
  · intro w hSw; (try dsimp only at hSw); go_simp; rw [run_assert]; rfl
  try simp only [Act.put, List.setIfInBounds_toArray, List.set_cons_zero, List.set_cons_succ]
  refine wpAnyK_ready (rs := [6]) (by kernel_rfl) (by simp) ?_
  refine AllReadyK.cons (o := _) (by simp only [List.getElem?_toArray, List.getElem?_cons_succ, List.getElem?_cons_zero]; rfl) (fun K hK => ?_) AllReadyK.nil
  go_simp

  refine hK.out _ _ (fun _ => by exact cell_alloc _ hR) (fun hH => ?_)
  have hHeld := hH (by decide)
  clear hK K hH
  try simp only [Act.put, List.setIfInBounds_toArray, List.set_cons_zero, List.set_cons_succ]
  refine wpAnyK_ready (rs := [7]) (by kernel_rfl) (by simp) ?_
  refine AllReadyK.cons (o := _) (by simp only [List.getElem?_toArray, List.getElem?_cons_succ, List.getElem?_cons_zero]; rfl) (fun K hK => ?_) AllReadyK.nil
  rw [if_pos (by rfl)]
  have ho8 : (w.drew.alloc (Obj.cells #[Value.int IntKind.i64 x] 3)).ownsRow base 3 1 v l.length (l.map (Value.int .i64)) := (own_drewN (k := 1) hown).alloc _
  refine wp_append_lies _ (.tmp 7) (.tmp 10) 89 rfl base 3 i3 (.int .i64 0) 1 8 Try.underlying89 hi hz0 hz1 hz2 rfl (by decide) v l.length (l.map (Value.int .i64)) rfl ho8 ⟨w.heap.size, 0, none⟩ 1 1 [.int .i64 x] rfl rfl (one_new (cell_newW w.drew _ _)) (by simp [Value.oneCell']) (by omega) (by unfold maxLen; omega) (by omega) (by simp; omega) (w.heap.size + 1) (by simp) ?_
  intro gB cB w9 ho9 hg9 hat9 hlt9
  have hgr9 : w.grownBy w9 v.ownBlock := ggrown (grownBy_drew _ _) (ggrown (World.grownBy_alloc _ _ _) hg9)
  have y1 : w9.cell? ⟨R, 0, none⟩ = some v := (World.cell?_of_block (a := ⟨_, _, none⟩) (hgr9.block _ hRs hne)).trans hR
  have yf : w9.frozen? ⟨R, 0, none⟩ = false := (World.frozen?_of_block (a := ⟨_, _, none⟩) (hgr9.block _ hRs hne)).trans hf
  refine hK.out _ _ (fun _ => by exact y1) (fun hH => ?_)
  have hHeld := hH (by decide)
  clear hK K hH
  try simp only [Act.put, List.setIfInBounds_toArray, List.set_cons_zero, List.set_cons_succ]
  refine wpAnyK_ready (rs := [8]) (by kernel_rfl) (by simp) ?_
  refine AllReadyK.cons (o := _) (by simp only [List.getElem?_toArray, List.getElem?_cons_succ, List.getElem?_cons_zero]; rfl) (fun K hK => ?_) AllReadyK.nil
  go_simp

  refine hK.out _ _ (fun _ => by exact y1) (fun hH => ?_)
  have hHeld := hH (by decide)
  clear hK K hH
  try simp only [Act.put, List.setIfInBounds_toArray, List.set_cons_zero, List.set_cons_succ]
  refine wpAnyK_ready (rs := [9]) (by kernel_rfl) (by simp) ?_
  refine AllReadyK.cons (o := _) (by simp only [List.getElem?_toArray, List.getElem?_cons_succ, List.getElem?_cons_zero]; rfl) (fun K hK => ?_) AllReadyK.nil
  go_simp

  refine hK.out _ _ (fun h => absurd rfl h) (fun _ => ?_)
  clear hK K
  try simp only [Act.put, List.setIfInBounds_toArray, List.set_cons_zero, List.set_cons_succ]
  refine wpAnyK_done (by kernel_rfl) ?_ _
  go_wp2
  go_end0
  exact ⟨gB, cB, w9, rfl, hgr9, rfl, ⟨by simp, by simpa using ho9⟩, hat9, hlt9⟩
end Go.Proofs.Ytholafodachjnaa

/- H4 -/
/- container/heap's Push and Pop at the heap of numbers. -/
namespace Go.Proofs.Ytholafodachjnaa
open Go.RowKit Go.Shelf Go.Maps
set_option linter.unusedVariables false
set_option linter.unusedSimpArgs false

/-- The variable in block R is a heap of the numbers l, which lie in a row behind R. -/
structure Heap (w : World) (R : Nat) (l : List Int) (v : Value) : Prop where
  cell : w.cell? ⟨R, 0, none⟩ = some v
  fz : w.frozen? ⟨R, 0, none⟩ = false
  own : w.ownsRow (R + 1) 3 1 v l.length (l.map (Value.int .i64))
  heap : IsHeap l l.length
/-- Nothing is written but block R and one row, which may be a new one. -/
structure Wrote (w w' : World) (R : Nat) (o o' : Option Nat) : Prop where
  os : w'.os = w.os
  tape : w'.tape = w.tape
  output : w'.output = w.output
  size : w.heap.size ≤ w'.heap.size
  block : ∀ b, b < w.heap.size → b ≠ R → some b ≠ o → w'.heap[b]? = w.heap[b]?
  at_ : ∀ b, o' = some b → o = some b ∨ w.heap.size ≤ b
section
variable {w w' w'' : World} {R : Nat} {o o' o'' row : Option Nat}
theorem Wrote.of_grown (h : w.grownBy w' o) (R : Nat) : Wrote w w' R o o := ⟨h.os, h.tape, h.output, h.size, fun b hb _ ho => h.block b hb ho, fun b hb => .inl hb⟩
theorem Wrote.grown (h : Wrote w w' R o o') (hg : w'.grownBy w'' o') : Wrote w w'' R o o' :=
  ⟨hg.os.trans h.os, hg.tape.trans h.tape, hg.output.trans h.output, Nat.le_trans h.size hg.size,
   fun b hb hr ho => (hg.block b (by have := h.size; omega) (fun e => by rcases h.at_ b e.symm with e | e; exact ho e.symm; omega)).trans (h.block b hb hr ho), h.at_⟩
theorem Wrote.set (h : Wrote w w' R o o') (u : Value) : Wrote w (w'.setCell ⟨R, 0, none⟩ u) R o o' :=
  ⟨h.os, h.tape, h.output, by rw [set_size]; exact h.size, fun b hb hr ho => ((grownBy_set w' R 0 u).block b (by have := h.size; omega) (fun e => by injection e with e; exact hr e)).trans (h.block b hb hr ho), h.at_⟩
theorem Wrote.trans (h : Wrote w w' R o o') (k : Wrote w' w'' R o' o'') : Wrote w w'' R o o'' :=
  ⟨k.os.trans h.os, k.tape.trans h.tape, k.output.trans h.output, Nat.le_trans h.size k.size,
   fun b hb hr ho => (k.block b (by have := h.size; omega) hr (fun e => by rcases h.at_ b e.symm with e | e; exact ho e.symm; omega)).trans (h.block b hb hr ho),
   fun b hb => by rcases k.at_ b hb with e | e; exact h.at_ b e; exact .inr (by have := h.size; omega)⟩
theorem Wrote.below {B : Nat} (h : Wrote w w' R o o') (hR : B ≤ R) (ho : ∀ b, o = some b → B ≤ b) (hB : B ≤ w.heap.size) : Below B w w' :=
  ⟨h.os, h.tape, h.output, h.size, fun b hb => h.block b (by omega) (by omega) (fun e => by have := ho b e.symm; omega)⟩
theorem Wrote.cell (h : Wrote w w' R o o') {b i : Nat} {v : Value} (hr : b ≠ R) (ho : some b ≠ o) (hc : w.cell? ⟨b, i, none⟩ = some v) : w'.cell? ⟨b, i, none⟩ = some v :=
  (World.cell?_of_block (a := ⟨_, _, none⟩) (h.block b (World.block_lt_of_cell? w _ hc) hr ho)).trans hc
end

set_option maxRecDepth 100000 in
set_option maxHeartbeats 4000000 in
theorem push58 (w : World) (R : Nat) (l : List Int) (v : Value) (x : Int) (h : Heap w R l v) (hl : l.length ≤ 60000) :
    Calls Try.prog 61 #[.iface 91 (.pointer (some ⟨R, 0, none⟩)), .iface 3 (.int .i64 x)] w fun e w' => e = .returned (.tuple #[]) ∧ ∃ l' v', l'.Perm (l ++ [x]) ∧ Heap w' R l' v' ∧ Wrote w w' R v.ownBlock v'.ownBlock := by
  have H := Lib.hid h
  have hRs : R < w.heap.size := World.block_lt_of_cell? w _ h.cell
  have hne : some R ≠ v.ownBlock := fun e => by have := (h.own.lt R e.symm).1; omega
  have HNe := Lib.hid hne
  clear h hne
  have hm := m_push w (.pointer (some ⟨R, 0, none⟩))
  go_enter Try.func61, Try.ntmps61
  go_wp2_with fail
  refine (push98 w (R + 1) R v l x H.out.cell H.out.fz H.out.own HNe.out (by omega) (by omega)).mono ?_
  rintro e w1 ⟨g, c, w9, rfl, hg, rfl, hrow, hat, hlt⟩
  have hRw9 : R < w9.heap.size := by have := hg.size; omega
  have hc9 : w9.cell? ⟨R, 0, none⟩ = some v := (World.cell?_of_block (a := ⟨_, _, none⟩) (hg.block _ hRs HNe.out)).trans H.out.cell
  have hf9 : w9.frozen? ⟨R, 0, none⟩ = false := (World.frozen?_of_block (a := ⟨_, _, none⟩) (hg.block _ hRs HNe.out)).trans H.out.fz
  have hRg : R ≠ g := by
    rcases hat with e | e
    · intro e2; exact HNe.out (by rw [e, e2])
    · omega
  have hc1 : (w9.setCell ⟨R, 0, none⟩ (.slice (some ⟨g, 0, none⟩) (l.length + 1) c)).cell? ⟨R, 0, none⟩ = some (.slice (some ⟨g, 0, none⟩) (l.length + 1) c) := cell?_set_own hc9
  have hf1 : (w9.setCell ⟨R, 0, none⟩ (.slice (some ⟨g, 0, none⟩) (l.length + 1) c)).frozen? ⟨R, 0, none⟩ = false := by rw [set_frozen]; exact hf9
  have hrow1 : RowAt (w9.setCell ⟨R, 0, none⟩ (.slice (some ⟨g, 0, none⟩) (l.length + 1) c)) (R + 1) g (l.length + 1) c (l ++ [x]) :=
    ⟨hrow.len, hrow.own.kept (grownBy_set w9 R 0 _) (.inr (by intro e; simp only [Value.ownBlock] at e; injection e with e; exact hRg e.symm))⟩
  have hwr : Wrote w (w9.setCell ⟨R, 0, none⟩ (.slice (some ⟨g, 0, none⟩) (l.length + 1) c)) R v.ownBlock (some g) := by
    have h0 := (Wrote.of_grown hg R).set (.slice (some ⟨g, 0, none⟩) (l.length + 1) c)
    refine ⟨h0.os, h0.tape, h0.output, h0.size, h0.block, fun b hb => ?_⟩
    injection hb with hb
    subst hb
    rcases hat with e | e
    · exact .inl e
    · exact .inr (by omega)
  obtain ⟨W1, hW1⟩ : ∃ W, W = w9.setCell ⟨R, 0, none⟩ (.slice (some ⟨g, 0, none⟩) (l.length + 1) c) := ⟨_, rfl⟩
  rw [← hW1] at hc1 hf1 hrow1 hwr ⊢
  obtain ⟨n, hn⟩ : ∃ n, n = l.length := ⟨_, rfl⟩
  have hup : UpAt (l ++ [x]) (n + 1) n := by rw [hn]; exact up_start H.out.heap
  rw [← hn] at hc1 hrow1 hl
  have HRow := Lib.hid hrow1
  have HUp := Lib.hid hup
  have HWr := Lib.hid hwr
  have HF1 := Lib.hid hf1
  have HC1 := Lib.hid hc1
  have HN := Lib.hid hn
  have hm2 := m_len W1 R _ hc1
  clear hrow1 hup hwr hf1 hn hc9 hf9 hrow hW1 hg hat hlt hm hc1
  go_wp2_with fail
  refine (len94 W1 _ (n + 1) c).mono ?_
  rintro e w2 ⟨rfl, rfl⟩
  go_wp2_with fail
  refine (up71 W1 R g (n + 1) c (R + 1) n (l ++ [x]) HC1.out HRow.out hRg (by omega) HUp.out (by omega)).mono ?_
  rintro e w3 ⟨rfl, l', hp, hh, hr, hg3⟩
  have HP := Lib.hid hp
  have HH := Lib.hid hh
  have HR := Lib.hid hr
  have HG := Lib.hid hg3
  clear hp hh hr hg3
  go_wp2_with fail
  go_end0
  have hlen : l'.length = n + 1 := HR.out.len
  refine ⟨rfl, l', .slice (some ⟨g, 0, none⟩) (n + 1) c, HP.out, ⟨?_, ?_, by rw [hlen]; exact HR.out.own, by rw [hlen]; exact HH.out⟩, HWr.out.grown HG.out⟩
  · exact (World.cell?_of_block (a := ⟨_, _, none⟩) (HG.out.block _ (World.block_lt_of_cell? W1 _ HC1.out) (by intro e; injection e with e; exact hRg e))).trans HC1.out
  · exact (World.frozen?_of_block (a := ⟨_, _, none⟩) (HG.out.block _ (World.block_lt_of_cell? W1 _ HC1.out) (by intro e; injection e with e; exact hRg e))).trans HF1.out

set_option maxRecDepth 100000 in
set_option maxHeartbeats 4000000 in
theorem pop59 (w : World) (R n : Nat) (l : List Int) (v : Value) (h : Heap w R l v) (hn : l.length = n + 1) (hl : n ≤ 60000) :
    Calls Try.prog 62 #[.iface 91 (.pointer (some ⟨R, 0, none⟩))] w fun e w' => e = .returned (.iface 3 (.int .i64 (l.getD 0 0))) ∧ ∃ l' v', l.Perm (l' ++ [l.getD 0 0]) ∧ Heap w' R l' v' ∧ Wrote w w' R v.ownBlock v'.ownBlock ∧ l'.length = n := by
  have hRs : R < w.heap.size := World.block_lt_of_cell? w _ h.cell
  have hown := h.own
  rw [hn] at hown
  obtain ⟨g, c, rfl, hg1, hg2, hc1, _⟩ := owns_shape hown (by omega)
  have hc2 : c ≤ maxLen := by
    rcases hown.2 with ⟨hv, _⟩ | ⟨g', cap, cur, hv, _, _, _, hcm, _⟩
    · cases hv
    · injection hv with _ _ hv; rw [hv]; exact hcm
  have hrow : RowAt w (R + 1) g (n + 1) c l := ⟨hn, hown⟩
  have hRg : R ≠ g := by omega
  have hsw := hrow.swap (i := 0) (j := n) (by omega) (by omega)
  have hdn := dn_start (n := n) (by rw [← hn]; exact h.heap) hn
  have hc := h.cell
  have HF := Lib.hid h.fz
  have c0 := hrow.cell (i := 0) (by omega)
  have cn := hrow.cell (i := n) (by omega)
  have f0 := hrow.frozen 0
  have fn := hrow.frozen n
  have hpp := swapL_perm l 0 n (by omega) (by omega)
  have hsg := swapL_get l 0 n n (by omega) (by omega)
  rw [if_pos rfl] at hsg
  have hsl := swapL_length l 0 n
  obtain ⟨x, hx⟩ : ∃ x, x = l.getD 0 0 := ⟨_, rfl⟩
  obtain ⟨y, hy⟩ : ∃ x, x = l.getD n 0 := ⟨_, rfl⟩
  obtain ⟨l1, hl1⟩ : ∃ x, x = swapL l 0 n := ⟨_, rfl⟩
  rw [← hl1] at hsw hdn hpp hsg hsl
  rw [← hx] at hsw c0 hsg ⊢
  rw [← hy] at hsw cn
  have HSw := Lib.hid hsw
  have HDn := Lib.hid hdn
  have HPp := Lib.hid hpp
  have HSg := Lib.hid hsg
  have HSl := Lib.hid hsl
  have HN := Lib.hid hn
  have HC := Lib.hid hc
  clear hsw hdn hpp hsg hsl hn hx hy hl1 hown hrow h
  have hm := m_len w R _ hc
  have hm2 := m_swap w R _ hc
  clear hc
  go_enter Try.func62, Try.ntmps62
  go_wp2_with fail
  refine (len94 w _ (n + 1) c).mono ?_
  rintro e w2 ⟨rfl, rfl⟩
  go_wp2_with fail
  refine Calls.mono (swap96' _ _ w g (n + 1) c 0 n x y rfl (by omega) (by omega) (by omega) (by omega) c0 cn f0 fn) ?_
  rintro e w1 ⟨rfl, q, rfl⟩
  obtain ⟨W1, hW1⟩ : ∃ W, W = ((w.setCell ⟨g, 0, none⟩ (.int .i64 y)).setCell ⟨g, n, none⟩ (.int .i64 x)).drewN q := ⟨_, rfl⟩
  have hs1 : RowAt W1 (R + 1) g (n + 1) c l1 := by rw [hW1]; exact HSw.out.1.drewN q
  have hg1' : w.grownBy W1 (some g) := by rw [hW1]; exact grownBy_trans HSw.out.2 (grownBy_drewN _ q _)
  rw [← hW1]
  have hc1' : W1.cell? ⟨R, 0, none⟩ = some (.slice (some ⟨g, 0, none⟩) (n + 1) c) := (World.cell?_of_block (a := ⟨_, _, none⟩) (hg1'.block _ hRs (by intro e; injection e with e; exact hRg e))).trans HC.out
  have HS1 := Lib.hid hs1
  have HG1 := Lib.hid hg1'
  have HC1 := Lib.hid hc1'
  clear hs1 hg1' hc1' hW1 c0 cn f0 fn hm hm2
  go_wp2_with fail
  refine Calls.mono (down72 W1 R g (n + 1) c (R + 1) n l1 HC1.out HS1.out hRg (by omega) HDn.out (by omega)) ?_
  rintro e w3 ⟨b, rfl, l2, hp2, hh2, hr2, hk2, hg2'⟩
  have hc2' : w3.cell? ⟨R, 0, none⟩ = some (.slice (some ⟨g, 0, none⟩) (n + 1) c) := (World.cell?_of_block (a := ⟨_, _, none⟩) (hg2'.block _ (World.block_lt_of_cell? W1 _ HC1.out) (by intro e; injection e with e; exact hRg e))).trans HC1.out
  have hf3 : w3.frozen? ⟨R, 0, none⟩ = false := (World.frozen?_of_block (a := ⟨_, _, none⟩) ((hg2'.block _ (World.block_lt_of_cell? W1 _ HC1.out) (by intro e; injection e with e; exact hRg e)).trans (HG1.out.block _ hRs (by intro e; injection e with e; exact hRg e)))).trans HF.out
  have hxn : l2.getD n 0 = x := (hk2 n (Nat.le_refl _)).trans HSg.out
  have cn := hr2.cell (i := n) (by omega)
  rw [hxn] at cn
  have hm3 := m_pop w3 (.pointer (some ⟨R, 0, none⟩))
  have HP2 := Lib.hid hp2
  have HH2 := Lib.hid hh2
  have HR2 := Lib.hid hr2
  have HG2 := Lib.hid hg2'
  have HC2 := Lib.hid hc2'
  have HF3 := Lib.hid hf3
  have HXn := Lib.hid hxn
  have HCn := Lib.hid cn
  clear hp2 hh2 hr2 hg2' hc2' hf3 hxn cn hk2
  go_wp2_with fail
  refine Calls.mono (pop97 w3 R g n c x HC2.out HF3.out HCn.out (by omega) hc2 (by omega)) ?_
  rintro e w4 ⟨rfl, rfl⟩
  go_wp2_with fail
  go_ret
  have hl2 : l2.length = n + 1 := HR2.out.len
  have hlt : (l2.take n).length = n := by rw [List.length_take]; omega
  refine ⟨rfl, l2.take n, .slice (some ⟨g, 0, none⟩) n c, ?_, ⟨cell?_set_own HC2.out, by rw [set_frozen]; exact HF3.out, ?_, ?_⟩, ((Wrote.of_grown (grownBy_trans HG1.out HG2.out) R).set _), hlt⟩
  · have h2 : l2 = l2.take n ++ [x] := by
      have := List.take_append_drop n l2
      rw [List.drop_eq_getElem_cons (by omega), List.drop_eq_nil_of_le (by omega)] at this
      rw [← HXn.out, List.getD_eq_getElem?_getD, List.getElem?_eq_getElem (by omega)]
      exact this.symm
    rw [← h2]
    exact (HP2.out.trans HPp.out).symm
  · rw [hlt, List.map_take]
    exact (own_short HR2.out.own (by omega)).kept (grownBy_set w3 R 0 _) (.inr (by intro e; simp only [Value.ownBlock] at e; injection e with e; exact hRg e.symm))
  · rw [hlt]
    intro k k0 hk
    have := HH2.out k k0 hk
    have hpk := par_lt k0
    simp only [List.getD_eq_getElem?_getD, List.getElem?_take, if_pos hk, if_pos (show par k < n by omega)]
    simpa only [List.getD_eq_getElem?_getD] using this
end Go.Proofs.Ytholafodachjnaa
