import Derived.Test.YtibimdhmfchcoaaH1
namespace Go.Proofs.Ytibimdhmfchcoaa
open Go.RowKit Go.Shelf Go.Maps
set_option linter.unusedVariables false
set_option linter.unusedSimpArgs false

def SameFrom (m : Nat) (a b : List Int) : Prop := ∀ k, m ≤ k → a.getD k 0 = b.getD k 0
theorem less95' (I J : Int) (w : World) (g n c i j : Nat) (x y : Int) (hI : I = i) (hJ : J = j) (hi : i < n) (hj : j < n) (hn : n ≤ 65536) (ci : w.cell? ⟨g, i, none⟩ = some (.int .i64 x)) (cj : w.cell? ⟨g, j, none⟩ = some (.int .i64 y)) :
    Calls Try.prog 95 #[.slice (some ⟨g, 0, none⟩) n c, .int .i64 I, .int .i64 J] w fun e w' => e = .returned (.bool (decide (x < y))) ∧ ∃ q, w' = w.drewN q := by
  subst hI hJ; exact less95 w g n c i j x y hi hj hn ci cj
theorem swap96' (I J : Int) (w : World) (g n c i j : Nat) (x y : Int) (hI : I = i) (hJ : J = j) (hi : i < n) (hj : j < n) (hn : n ≤ 65536) (ci : w.cell? ⟨g, i, none⟩ = some (.int .i64 x)) (cj : w.cell? ⟨g, j, none⟩ = some (.int .i64 y))
    (fi : w.frozen? ⟨g, i, none⟩ = false) (fj : w.frozen? ⟨g, j, none⟩ = false) :
    Calls Try.prog 96 #[.slice (some ⟨g, 0, none⟩) n c, .int .i64 I, .int .i64 J] w fun e w' => e = .returned (.tuple #[]) ∧ ∃ q, w' = ((w.setCell ⟨g, i, none⟩ (.int .i64 y)).setCell ⟨g, j, none⟩ (.int .i64 x)).drewN q := by
  subst hI hJ; exact swap96 w g n c i j x y hi hj hn ci cj fi fj

set_option maxRecDepth 100000 in
set_option maxHeartbeats 8000000 in
theorem down72 (w : World) (R g N c base m : Nat) (l : List Int) (hR : w.cell? ⟨R, 0, none⟩ = some (.slice (some ⟨g, 0, none⟩) N c)) (hrow : RowAt w base g N c l) (hRg : R ≠ g) (hm : m ≤ N) (hU : DnAt l m 0) (hN : N ≤ 65536) :
    Calls Try.prog 72 #[.iface 95 (.pointer (some ⟨R, 0, none⟩)), .int .i64 0, .int .i64 m] w fun e w' => ∃ b, e = .returned (.bool b) ∧ ∃ l', l'.Perm l ∧ IsHeap l' m ∧ RowAt w' base g N c l' ∧ SameFrom m l' l ∧ w.grownBy w' (some g) := by
  have H0 : Hid (l.Perm l ∧ DnAt l m 0 ∧ RowAt w base g N c l ∧ SameFrom m l l ∧ w.grownBy w (some g)) := Lib.hid ⟨.refl _, hU, hrow, fun _ _ => rfl, World.grownBy.refl w _⟩
  have HR0 := Lib.hid hR
  clear hrow hU hR
  go_enter Try.func72, Try.ntmps72
  go_wp2
  go_loopw [7] (fun jv wr => ∃ (j : Nat) (l' : List Int), jv = .int .i64 j ∧ j ≤ m ∧ Hid (l'.Perm l ∧ DnAt l' m j ∧ RowAt wr base g N c l' ∧ SameFrom m l' l ∧ w.grownBy wr (some g))) (fun jv _ => m - (intOf jv).toNat)
  case atStart => exact ⟨0, l, rfl, by omega, H0⟩
  case round =>
    obtain ⟨i, l', rfl, hj, hh⟩ := hrel
    obtain ⟨hp, hu, hrow, hk, hg⟩ := hh.out
    have hR : wr.cell? ⟨R, 0, none⟩ = some (.slice (some ⟨g, 0, none⟩) N c) := (World.cell?_of_block (a := ⟨_, _, none⟩) (hg.block _ (World.block_lt_of_cell? w _ HR0.out) (by intro e; injection e with e; exact hRg e))).trans HR0.out
    have HU := Lib.hid hu
    have HG := Lib.hid hg
    have HPm := Lib.hid hp
    have HRow := Lib.hid hrow
    have HK := Lib.hid hk
    obtain ⟨a, ha⟩ : ∃ a, a = 2 * i + 1 := ⟨_, rfl⟩
    have HA := Lib.hid ha
    have hb0 : (2 * (i : Int) + 1 < 0) = False := by simp; omega
    by_cases ham : 2 * i + 1 < m
    · have hab : decide ((m : Int) ≤ 2 * (i : Int) + 1) = false := by simpa using (by omega : 2 * (i : Int) + 1 < m)
      obtain ⟨b, hbb⟩ : ∃ b, b = a + 1 := ⟨_, rfl⟩
      have HB := Lib.hid hbb
      have ci := hrow.cell (i := i) (by omega)
      have ca := hrow.cell (i := a) (by omega)
      have fi := hrow.frozen i
      have fa := hrow.frozen a
      have fb := hrow.frozen b
      obtain ⟨zi, hzi⟩ : ∃ x, x = l'.getD i 0 := ⟨_, rfl⟩
      obtain ⟨za, hza⟩ : ∃ x, x = l'.getD a 0 := ⟨_, rfl⟩
      rw [← hzi] at ci
      rw [← hza] at ca
      have HZi := Lib.hid hzi
      have HZa := Lib.hid hza
      have ham2 : a < m := by omega
      by_cases hbm : b < m
      · have cb := hrow.cell (i := b) (by omega)
        obtain ⟨zb, hzb⟩ : ∃ x, x = l'.getD b 0 := ⟨_, rfl⟩
        rw [← hzb] at cb
        have HZb := Lib.hid hzb
        have hbc : decide (2 * (i : Int) + 1 + 1 < (m : Int)) = true := by simpa using (by omega : 2 * (i : Int) + 1 + 1 < m)
        clear hzi hza hzb hbb ha hp hu hrow hk hg hh
        by_cases hlt : zb < za
        · have hb1 : decide (zb < za) = true := by simpa using hlt
          by_cases hlt2 : zb < zi
          · have hb2 : decide (zb < zi) = true := by simpa using hlt2
            have hAe := HA.out
            have hBe := HB.out
            have HS : Hid (∀ q, RowAt (((wr.drewN q).setCell ⟨g, i, none⟩ (.int .i64 zb)).setCell ⟨g, b, none⟩ (.int .i64 zi)) base g N c (swapL l' i b) ∧ (wr.drewN q).grownBy (((wr.drewN q).setCell ⟨g, i, none⟩ (.int .i64 zb)).setCell ⟨g, b, none⟩ (.int .i64 zi)) (some g)) := Lib.hid (fun q => by
              have h := (HRow.out.drewN q).swap (i := i) (j := b) (by omega) (by omega)
              rw [← HZi.out, ← HZb.out] at h; exact h)
            have HT2 : Hid (DnAt (swapL l' i b) m b) := Lib.hid (dn_step HU.out (by rw [HRow.out.len]; omega) (by omega) (by omega) (by unfold par; omega) (by rw [← HZi.out, ← HZb.out]; exact hlt2) (by
              intro k k0 hk hkp
              rw [← HZb.out]
              have hkk : k = 2 * i + 1 ∨ k = 2 * i + 2 := by unfold par at hkp; omega
              rcases hkk with e | e
              · subst e; rw [show 2 * i + 1 = a by omega, ← HZa.out]; omega
              · subst e; rw [show 2 * i + 2 = b by omega, ← HZb.out]; omega))
            have HPP : Hid ((swapL l' i b).Perm l') := Lib.hid (swapL_perm l' i b (by rw [HRow.out.len]; omega) (by rw [HRow.out.len]; omega))
            have HKp : Hid (SameFrom m (swapL l' i b) l) := Lib.hid (fun k hk => by
              rw [swapL_get l' i b k (by rw [HRow.out.len]; omega) (by rw [HRow.out.len]; omega), if_neg (by omega), if_neg (by omega)]; exact HK.out k hk)
            clear hlt2 hAe hBe
            have hm1 := m_less wr R _ hR
            go_wp2_with fail
            refine Calls.mono (less95' _ _ wr g N c b a zb za (by have := HA.out; have := HB.out; omega) (by have := HA.out; omega) (by omega) (by omega) hN cb ca) ?_
            rintro e w1 ⟨rfl, p, rfl⟩
            have hm2 := m_less (wr.drewN p) R _ hR
            go_wp2_with fail
            refine Calls.mono (less95' _ _ (wr.drewN p) g N c b i zb zi (by have := HA.out; have := HB.out; omega) rfl (by omega) (by omega) hN cb ci) ?_
            rintro e w1 ⟨rfl, q, rfl⟩
            have hmS := m_swap (wr.drewN (p + q)) R _ hR
            go_wp2_with fail
            refine Calls.mono (swap96' _ _ (wr.drewN (p + q)) g N c i b zi zb rfl (by have := HA.out; have := HB.out; omega) (by omega) (by omega) hN ci cb fi fb) ?_
            rintro e w1 ⟨rfl, q2, rfl⟩
            go_wp2_with fail
            go_roundw
            case rel => exact ⟨b, swapL l' i b, congrArg (Value.int .i64) (by have := HA.out; have := HB.out; omega), by omega, Lib.hid ⟨HPP.out.trans HPm.out, HT2.out, by exact ((HS.out (p + q)).1.drewN q2), HKp.out, by exact grownBy_trans (grownBy_trans (grownBy_trans HG.out (grownBy_drewN _ (p + q) _)) (HS.out (p + q)).2) (grownBy_drewN _ q2 _)⟩⟩
            case measure => simp [intOf]; omega
          · have hb2 : decide (zb < zi) = false := by simpa using hlt2
            have hAe := HA.out
            have hBe := HB.out
            have HT2 : Hid (IsHeap l' m) := Lib.hid (dn_stop HU.out (by
              intro k k0 hk hkp
              rw [← HZi.out]
              have hz : zi ≤ zb := by omega
              have hkk : k = 2 * i + 1 ∨ k = 2 * i + 2 := by unfold par at hkp; omega
              refine Int.le_trans hz ?_
              rcases hkk with e | e
              · subst e; rw [show 2 * i + 1 = a by omega, ← HZa.out]; omega
              · subst e; rw [show 2 * i + 2 = b by omega, ← HZb.out]; omega))
            clear hlt2 hAe hBe
            have hm1 := m_less wr R _ hR
            go_wp2_with fail
            refine Calls.mono (less95' _ _ wr g N c b a zb za (by have := HA.out; have := HB.out; omega) (by have := HA.out; omega) (by omega) (by omega) hN cb ca) ?_
            rintro e w1 ⟨rfl, p, rfl⟩
            have hm2 := m_less (wr.drewN p) R _ hR
            go_wp2_with fail
            refine Calls.mono (less95' _ _ (wr.drewN p) g N c b i zb zi (by have := HA.out; have := HB.out; omega) rfl (by omega) (by omega) hN cb ci) ?_
            rintro e w1 ⟨rfl, q, rfl⟩
            go_wp2_with fail
            go_ret
            exact ⟨_, rfl, l', HPm.out, HT2.out, by exact HRow.out.drewN (p + q), HK.out, by exact grownBy_trans HG.out (grownBy_drewN _ (p + q) _)⟩
        · have hb1 : decide (zb < za) = false := by simpa using hlt
          by_cases hlt2 : za < zi
          · have hb2 : decide (za < zi) = true := by simpa using hlt2
            have hAe := HA.out
            have hBe := HB.out
            have HS : Hid (∀ q, RowAt (((wr.drewN q).setCell ⟨g, i, none⟩ (.int .i64 za)).setCell ⟨g, a, none⟩ (.int .i64 zi)) base g N c (swapL l' i a) ∧ (wr.drewN q).grownBy (((wr.drewN q).setCell ⟨g, i, none⟩ (.int .i64 za)).setCell ⟨g, a, none⟩ (.int .i64 zi)) (some g)) := Lib.hid (fun q => by
              have h := (HRow.out.drewN q).swap (i := i) (j := a) (by omega) (by omega)
              rw [← HZi.out, ← HZa.out] at h; exact h)
            have HT2 : Hid (DnAt (swapL l' i a) m a) := Lib.hid (dn_step HU.out (by rw [HRow.out.len]; omega) (by omega) (by omega) (by unfold par; omega) (by rw [← HZi.out, ← HZa.out]; exact hlt2) (by
              intro k k0 hk hkp
              rw [← HZa.out]
              have hkk : k = 2 * i + 1 ∨ k = 2 * i + 2 := by unfold par at hkp; omega
              rcases hkk with e | e
              · subst e; rw [show 2 * i + 1 = a by omega, ← HZa.out]; omega
              · subst e; rw [show 2 * i + 2 = b by omega, ← HZb.out]; omega))
            have HPP : Hid ((swapL l' i a).Perm l') := Lib.hid (swapL_perm l' i a (by rw [HRow.out.len]; omega) (by rw [HRow.out.len]; omega))
            have HKp : Hid (SameFrom m (swapL l' i a) l) := Lib.hid (fun k hk => by
              rw [swapL_get l' i a k (by rw [HRow.out.len]; omega) (by rw [HRow.out.len]; omega), if_neg (by omega), if_neg (by omega)]; exact HK.out k hk)
            clear hlt2 hAe hBe
            have hm1 := m_less wr R _ hR
            go_wp2_with fail
            refine Calls.mono (less95' _ _ wr g N c b a zb za (by have := HA.out; have := HB.out; omega) (by have := HA.out; omega) (by omega) (by omega) hN cb ca) ?_
            rintro e w1 ⟨rfl, p, rfl⟩
            have hm2 := m_less (wr.drewN p) R _ hR
            go_wp2_with fail
            refine Calls.mono (less95' _ _ (wr.drewN p) g N c a i za zi (by have := HA.out; have := HB.out; omega) rfl (by omega) (by omega) hN ca ci) ?_
            rintro e w1 ⟨rfl, q, rfl⟩
            have hmS := m_swap (wr.drewN (p + q)) R _ hR
            go_wp2_with fail
            refine Calls.mono (swap96' _ _ (wr.drewN (p + q)) g N c i a zi za rfl (by have := HA.out; have := HB.out; omega) (by omega) (by omega) hN ci ca fi fa) ?_
            rintro e w1 ⟨rfl, q2, rfl⟩
            go_wp2_with fail
            go_roundw
            case rel => exact ⟨a, swapL l' i a, congrArg (Value.int .i64) (by have := HA.out; have := HB.out; omega), by omega, Lib.hid ⟨HPP.out.trans HPm.out, HT2.out, by exact ((HS.out (p + q)).1.drewN q2), HKp.out, by exact grownBy_trans (grownBy_trans (grownBy_trans HG.out (grownBy_drewN _ (p + q) _)) (HS.out (p + q)).2) (grownBy_drewN _ q2 _)⟩⟩
            case measure => simp [intOf]; omega
          · have hb2 : decide (za < zi) = false := by simpa using hlt2
            have hAe := HA.out
            have hBe := HB.out
            have HT2 : Hid (IsHeap l' m) := Lib.hid (dn_stop HU.out (by
              intro k k0 hk hkp
              rw [← HZi.out]
              have hz : zi ≤ za := by omega
              have hkk : k = 2 * i + 1 ∨ k = 2 * i + 2 := by unfold par at hkp; omega
              refine Int.le_trans hz ?_
              rcases hkk with e | e
              · subst e; rw [show 2 * i + 1 = a by omega, ← HZa.out]; omega
              · subst e; rw [show 2 * i + 2 = b by omega, ← HZb.out]; omega))
            clear hlt2 hAe hBe
            have hm1 := m_less wr R _ hR
            go_wp2_with fail
            refine Calls.mono (less95' _ _ wr g N c b a zb za (by have := HA.out; have := HB.out; omega) (by have := HA.out; omega) (by omega) (by omega) hN cb ca) ?_
            rintro e w1 ⟨rfl, p, rfl⟩
            have hm2 := m_less (wr.drewN p) R _ hR
            go_wp2_with fail
            refine Calls.mono (less95' _ _ (wr.drewN p) g N c a i za zi (by have := HA.out; have := HB.out; omega) rfl (by omega) (by omega) hN ca ci) ?_
            rintro e w1 ⟨rfl, q, rfl⟩
            go_wp2_with fail
            go_ret
            exact ⟨_, rfl, l', HPm.out, HT2.out, by exact HRow.out.drewN (p + q), HK.out, by exact grownBy_trans HG.out (grownBy_drewN _ (p + q) _)⟩
      · have hbc : decide (2 * (i : Int) + 1 + 1 < (m : Int)) = false := by simpa using (by omega : (m : Int) ≤ 2 * (i : Int) + 1 + 1)
        clear hzi hza hbb ha hp hu hrow hk hg hh fb
        by_cases hlt2 : za < zi
        · have hb2 : decide (za < zi) = true := by simpa using hlt2
          have hAe := HA.out
          skip
          have HS : Hid (∀ q, RowAt (((wr.drewN q).setCell ⟨g, i, none⟩ (.int .i64 za)).setCell ⟨g, a, none⟩ (.int .i64 zi)) base g N c (swapL l' i a) ∧ (wr.drewN q).grownBy (((wr.drewN q).setCell ⟨g, i, none⟩ (.int .i64 za)).setCell ⟨g, a, none⟩ (.int .i64 zi)) (some g)) := Lib.hid (fun q => by
            have h := (HRow.out.drewN q).swap (i := i) (j := a) (by omega) (by omega)
            rw [← HZi.out, ← HZa.out] at h; exact h)
          have HT2 : Hid (DnAt (swapL l' i a) m a) := Lib.hid (dn_step HU.out (by rw [HRow.out.len]; omega) (by omega) (by omega) (by unfold par; omega) (by rw [← HZi.out, ← HZa.out]; exact hlt2) (by
            intro k k0 hk hkp
            rw [← HZa.out]
            have hkk : k = 2 * i + 1 ∨ k = 2 * i + 2 := by unfold par at hkp; omega
            rcases hkk with e | e
            · subst e; rw [show 2 * i + 1 = a by omega, ← HZa.out]; omega
            · have := HB.out; omega))
          have HPP : Hid ((swapL l' i a).Perm l') := Lib.hid (swapL_perm l' i a (by rw [HRow.out.len]; omega) (by rw [HRow.out.len]; omega))
          have HKp : Hid (SameFrom m (swapL l' i a) l) := Lib.hid (fun k hk => by
            rw [swapL_get l' i a k (by rw [HRow.out.len]; omega) (by rw [HRow.out.len]; omega), if_neg (by omega), if_neg (by omega)]; exact HK.out k hk)
          clear hlt2 hAe
          have hm1 := m_less wr R _ hR
          go_wp2_with fail
          refine Calls.mono (less95' _ _ (wr) g N c a i za zi (by have := HA.out; skip; omega) rfl (by omega) (by omega) hN ca ci) ?_
          rintro e w1 ⟨rfl, q, rfl⟩
          have hmS := m_swap (wr.drewN q) R _ hR
          go_wp2_with fail
          refine Calls.mono (swap96' _ _ (wr.drewN q) g N c i a zi za rfl (by have := HA.out; skip; omega) (by omega) (by omega) hN ci ca fi fa) ?_
          rintro e w1 ⟨rfl, q2, rfl⟩
          go_wp2_with fail
          go_roundw
          case rel => exact ⟨a, swapL l' i a, congrArg (Value.int .i64) (by have := HA.out; skip; omega), by omega, Lib.hid ⟨HPP.out.trans HPm.out, HT2.out, by exact (HS.out q).1.drewN q2, HKp.out, by exact grownBy_trans (grownBy_trans (grownBy_trans HG.out (grownBy_drewN _ q _)) (HS.out q).2) (grownBy_drewN _ q2 _)⟩⟩
          case measure => simp [intOf]; omega
        · have hb2 : decide (za < zi) = false := by simpa using hlt2
          have hAe := HA.out
          skip
          have HT2 : Hid (IsHeap l' m) := Lib.hid (dn_stop HU.out (by
            intro k k0 hk hkp
            rw [← HZi.out]
            have hz : zi ≤ za := by omega
            have hkk : k = 2 * i + 1 ∨ k = 2 * i + 2 := by unfold par at hkp; omega
            refine Int.le_trans hz ?_
            rcases hkk with e | e
            · subst e; rw [show 2 * i + 1 = a by omega, ← HZa.out]; omega
            · have := HB.out; omega))
          clear hlt2 hAe
          have hm1 := m_less wr R _ hR
          go_wp2_with fail
          refine Calls.mono (less95' _ _ (wr) g N c a i za zi (by have := HA.out; skip; omega) rfl (by omega) (by omega) hN ca ci) ?_
          rintro e w1 ⟨rfl, q, rfl⟩
          go_wp2_with fail
          go_ret
          exact ⟨_, rfl, l', HPm.out, HT2.out, by exact HRow.out.drewN q, HK.out, by exact grownBy_trans HG.out (grownBy_drewN _ q _)⟩
    · have hab : decide ((m : Int) ≤ 2 * (i : Int) + 1) = true := by simpa using (by omega : (m : Int) ≤ 2 * (i : Int) + 1)
      have HT2 : Hid (IsHeap l' m) := Lib.hid (dn_stop hu (by intro k k0 hk hkp; unfold par at hkp; omega))
      clear hp hu hrow hk hg hh ha
      go_wp2
      go_ret
      exact ⟨_, rfl, l', HPm.out, HT2.out, HRow.out, HK.out, HG.out⟩
end Go.Proofs.Ytibimdhmfchcoaa
