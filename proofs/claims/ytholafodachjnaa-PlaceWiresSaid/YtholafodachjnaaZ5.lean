/- The errors of the layers below. -/
import Derived.Test.YtholafodachjnaaZ4
namespace Go.Proofs.Ytholafodachjnaa
open Go.RowKit Go.Shelf
set_option linter.unusedVariables false
set_option linter.unusedSimpArgs false

set_option maxRecDepth 100000 in
set_option maxHeartbeats 2000000 in
theorem fabric55 (w : World) (a : ArchV) : Calls Try.prog 55 #[a.val] w fun e w' => e = .returned (.int .i64 (archE a)) ∧ Below w.heap.size w w' := by
  have hE := archE_ok (a := a)
  have hc := archE_cases a
  obtain ⟨E, hEe⟩ : ∃ E, E = archE a := ⟨_, rfl⟩
  rw [← hEe] at hE hc ⊢
  obtain ⟨x, y, z⟩ := a
  dsimp only at hE
  unfold ArchV.val
  dsimp only
  clear hEe
  have HE : Hid (∀ k, k < 3 → ([x, y, z].getD k 0 < 1 ∨ 16 < [x, y, z].getD k 0) → E = 1) := Lib.hid (fun k hk h => by
    rcases hc with e | e
    · have := hE.1 e
      match k, hk with
      | 0, _ => simp at h; omega
      | 1, _ => simp at h; omega
      | 2, _ => simp at h; omega
    · exact e)
  have HO : Hid ((∀ k, k < 3 → 1 ≤ [x, y, z].getD k 0 ∧ [x, y, z].getD k 0 ≤ 16) → E = 0) := Lib.hid (fun h => by
    have h0 := h 0 (by omega)
    have h1 := h 1 (by omega)
    have h2 := h 2 (by omega)
    simp at h0 h1 h2
    exact hE.2 (by omega))
  obtain ⟨W1, hW1⟩ : ∃ W, W = (w.alloc (.cells #[.int .i64 x, .int .i64 y, .int .i64 z] 23)).alloc (.cells #[.int .i64 x, .int .i64 y, .int .i64 z] 3) := ⟨_, rfl⟩
  obtain ⟨B, hB⟩ : ∃ b, b = w.heap.size + 1 := ⟨_, rfl⟩
  have HS : Hid (∀ k, k < 3 → W1.cell? ⟨B, k, none⟩ = some (.int .i64 ([x, y, z].getD k 0))) := Lib.hid (fun k hk => by
    rw [hW1, hB]
    match k, hk with
    | 0, _ => simp
    | 1, _ => simp
    | 2, _ => simp)
  have HB1 : Hid (Below w.heap.size w W1) := Lib.hid (by rw [hW1]; exact ((Below.refl _ _).alloc (Nat.le_refl _) _).alloc (by simp) _)
  have HW1 := Lib.hid hW1
  have HBe := Lib.hid hB
  clear hE hc hW1 hB
  go_enter Try.func55, Try.ntmps55
  go_wp2_with fail
  rw [← HW1.out]
  (try rw [← HBe.out])
  go_loopg [13] 3 (fun g iv wr => ∃ k : Nat, g + k = 3 ∧ iv = .int .i64 k ∧ Hid (wr = W1 ∧ ∀ j, j < k → 1 ≤ [x, y, z].getD j 0 ∧ [x, y, z].getD j 0 ≤ 16))
  case atStart => exact ⟨0, rfl, rfl, Lib.hid ⟨rfl, fun j hj => by omega⟩⟩
  case round =>
    obtain ⟨k, hgk, rfl, hh⟩ := hrel
    obtain ⟨hwr, hal⟩ := hh.out
    subst hwr
    have HAll := Lib.hid hal
    clear hh hal
    by_cases hk : k < 3
    · have d0 := HS.out k hk
      have hbad := HE.out k hk
      obtain ⟨n, hn⟩ : ∃ n, n = [x, y, z].getD k 0 := ⟨_, rfl⟩
      rw [← hn] at d0 hbad
      have HN := Lib.hid hn
      have HBad := Lib.hid hbad
      clear hn hbad
      by_cases h1 : n < 1
      · have e1 : decide (n < 1) = true := by simpa using h1
        have HF := Lib.hid (HBad.out (.inl h1))
        clear h1
        go_wp2_with fail
        go_ret
        exact ⟨by rw [HF.out]; rfl, HB1.out⟩
      have e1 : decide (n < 1) = false := by simpa using h1
      by_cases h2 : 16 < n
      · have e2 : decide (16 < n) = true := by simpa using h2
        have HF := Lib.hid (HBad.out (.inr h2))
        clear h1 h2
        go_wp2_with fail
        go_ret
        exact ⟨by rw [HF.out]; rfl, HB1.out⟩
      have e2 : decide (16 < n) = false := by simpa using h2
      have HF : Hid (1 ≤ n ∧ n ≤ 16) := Lib.hid (by omega)
      clear h1 h2
      go_wp2_with fail
      go_roundg (3 - (k + 1))
      case measure => omega
      case rel => exact ⟨k + 1, by omega, by go_num, Lib.hid ⟨rfl, fun j hj => by
        by_cases e : j = k
        · rw [e, ← HN.out]; exact HF.out
        · exact HAll.out j (by omega)⟩⟩
    · have hk3 : k = 3 := by omega
      have HF := Lib.hid (HO.out (fun j hj => HAll.out j (by omega)))
      have dk : decide ((k : Int) < 3) = false := by simp; omega
      go_wp2_with fail
      go_ret
      exact ⟨by rw [HF.out]; rfl, HB1.out⟩
def belowE (a : ArchV) (P : PackV) : Int := if archE a = 0 then orderE P.data else 1

set_option maxRecDepth 100000 in
set_option maxHeartbeats 2000000 in
theorem below31 (w : World) (a : ArchV) (P : PackV) (hP : PackAt w P) (hf : FewP P) : Calls Try.prog 31 #[a.val, P.val] w fun e w' => e = .returned (.int .i64 (belowE a P)) ∧ Below w.heap.size w w' := by
  obtain ⟨E, hE⟩ : ∃ E, E = belowE a P := ⟨_, rfl⟩
  rw [← hE]
  have hE1 : archE a = 1 → E = 1 := fun h => by rw [hE]; unfold belowE; rw [h, if_neg (by decide)]
  have hE0 : archE a = 0 → E = orderE P.data := fun h => by rw [hE]; unfold belowE; rw [h, if_pos rfl]
  have hc := archE_cases a
  have HF := Lib.hid (fun W => fabric24 W a)
  have HC : Hid (∀ W, Below w.heap.size w W → Calls Try.prog 25 #[P.val] W fun e w' => e = .returned (.int .i64 (orderE P.data)) ∧ Below W.heap.size W w') := Lib.hid (fun W hW => check33 W P (hP.below hW (Nat.le_refl _)) hf)
  obtain ⟨A, hA⟩ : ∃ A, A = archE a := ⟨_, rfl⟩
  rw [← hA] at HF hE1 hE0 hc
  obtain ⟨O, hO⟩ : ∃ O, O = orderE P.data := ⟨_, rfl⟩
  rw [← hO] at HC hE0
  clear hP hf hE hA hO
  obtain ⟨x, y, z⟩ := a
  obtain ⟨pi, pa, pc, pb, qa, qc, qb⟩ := P
  unfold ArchV.val at HF
  unfold PackV.val at HC
  unfold ArchV.val PackV.val
  dsimp only at HF HC ⊢
  obtain ⟨n1, hn1⟩ : ∃ n, n = pb.length := ⟨_, rfl⟩
  obtain ⟨n2, hn2⟩ : ∃ n, n = qb.length := ⟨_, rfl⟩
  rw [← hn1, ← hn2] at HC ⊢
  clear hn1 hn2
  obtain ⟨H, hH⟩ : ∃ h, h = w.heap.size := ⟨_, rfl⟩
  obtain ⟨w1, hw1⟩ : ∃ W, W = (w.alloc (.cells #[.int .i64 x, .int .i64 y, .int .i64 z] 23)).alloc (.cells #[.int .i64 pi, .slice pa n1 pc, .slice qa n2 qc] 27) := ⟨_, rfl⟩
  have HX1 : Hid (Below w.heap.size w w1) := Lib.hid (by rw [hw1]; exact ((Below.refl _ _).alloc (Nat.le_refl _) _).alloc (by simp) _)
  have q0 : w1.cell? ⟨H + 1, 0, none⟩ = some (.int .i64 pi) := by rw [hw1, hH]; simp
  have q1 : w1.cell? ⟨H + 1, 1, none⟩ = some (.slice pa n1 pc) := by rw [hw1, hH]; simp
  have q2 : w1.cell? ⟨H + 1, 2, none⟩ = some (.slice qa n2 qc) := by rw [hw1, hH]; simp
  have HW1 := Lib.hid hw1
  have HHH := Lib.hid hH
  have HQ := Lib.hid (And.intro q0 (And.intro q1 q2))
  clear hw1 hH q0 q1 q2
  go_enter Try.func31, Try.ntmps31
  go_wp2_with fail
  rw [← HW1.out]
  (try rw [← HHH.out])
  refine Calls.mono (HF.out w1) ?_
  rintro e w2 ⟨rfl, hb2⟩
  have HB2 := Lib.hid hb2
  have cl : ∀ {b j : Nat} {u : Value}, w1.cell? ⟨b, j, none⟩ = some u → w2.cell? ⟨b, j, none⟩ = some u := fun h => (hb2.cell (p := ⟨_, _, none⟩) (World.block_lt_of_cell? w1 _ h)).trans h
  have q0 := cl HQ.out.1
  have q1 := cl HQ.out.2.1
  have q2 := cl HQ.out.2.2
  clear cl hb2
  rcases hc with rfl | rfl
  · have HEE := Lib.hid (hE0 rfl)
    clear hE0 hE1
    go_wp2_with fail
    refine Calls.mono (HC.out w2 (HX1.out.trans (HB2.out.mono HX1.out.size))) ?_
    rintro e w3 ⟨rfl, hb3⟩
    have HB3 := Lib.hid (HB2.out.trans (hb3.mono HB2.out.size))
    clear hb3
    go_wp2_with fail
    go_ret
    exact ⟨by rw [HEE.out]; rfl, HX1.out.trans (HB3.out.mono HX1.out.size)⟩
  · have HEE := Lib.hid (hE1 rfl)
    clear hE0 hE1
    go_wp2_with fail
    go_ret
    exact ⟨by rw [HEE.out]; rfl, HX1.out.trans (HB2.out.mono HX1.out.size)⟩

set_option maxRecDepth 100000 in
set_option maxHeartbeats 2000000 in
theorem below34 (w : World) (a : ArchV) (P : PackV) (hP : PackAt w P) (hf : FewP P) : Calls Try.prog 34 #[a.val, P.val] w fun e w' => e = .returned (.int .i64 (belowE a P)) ∧ Below w.heap.size w w' := by
  obtain ⟨E, hE⟩ : ∃ E, E = belowE a P := ⟨_, rfl⟩
  rw [← hE]
  have hE1 : archE a = 1 → E = 1 := fun h => by rw [hE]; unfold belowE; rw [h, if_neg (by decide)]
  have hE0 : archE a = 0 → E = orderE P.data := fun h => by rw [hE]; unfold belowE; rw [h, if_pos rfl]
  have hc := archE_cases a
  have HF := Lib.hid (fun W => fabric55 W a)
  have HC : Hid (∀ W, Below w.heap.size w W → Calls Try.prog 56 #[P.val] W fun e w' => e = .returned (.int .i64 (orderE P.data)) ∧ Below W.heap.size W w') := Lib.hid (fun W hW => check34 W P (hP.below hW (Nat.le_refl _)) hf)
  obtain ⟨A, hA⟩ : ∃ A, A = archE a := ⟨_, rfl⟩
  rw [← hA] at HF hE1 hE0 hc
  obtain ⟨O, hO⟩ : ∃ O, O = orderE P.data := ⟨_, rfl⟩
  rw [← hO] at HC hE0
  clear hP hf hE hA hO
  obtain ⟨x, y, z⟩ := a
  obtain ⟨pi, pa, pc, pb, qa, qc, qb⟩ := P
  unfold ArchV.val at HF
  unfold PackV.val at HC
  unfold ArchV.val PackV.val
  dsimp only at HF HC ⊢
  obtain ⟨n1, hn1⟩ : ∃ n, n = pb.length := ⟨_, rfl⟩
  obtain ⟨n2, hn2⟩ : ∃ n, n = qb.length := ⟨_, rfl⟩
  rw [← hn1, ← hn2] at HC ⊢
  clear hn1 hn2
  obtain ⟨H, hH⟩ : ∃ h, h = w.heap.size := ⟨_, rfl⟩
  obtain ⟨w1, hw1⟩ : ∃ W, W = (w.alloc (.cells #[.int .i64 x, .int .i64 y, .int .i64 z] 23)).alloc (.cells #[.int .i64 pi, .slice pa n1 pc, .slice qa n2 qc] 27) := ⟨_, rfl⟩
  have HX1 : Hid (Below w.heap.size w w1) := Lib.hid (by rw [hw1]; exact ((Below.refl _ _).alloc (Nat.le_refl _) _).alloc (by simp) _)
  have q0 : w1.cell? ⟨H + 1, 0, none⟩ = some (.int .i64 pi) := by rw [hw1, hH]; simp
  have q1 : w1.cell? ⟨H + 1, 1, none⟩ = some (.slice pa n1 pc) := by rw [hw1, hH]; simp
  have q2 : w1.cell? ⟨H + 1, 2, none⟩ = some (.slice qa n2 qc) := by rw [hw1, hH]; simp
  have HW1 := Lib.hid hw1
  have HHH := Lib.hid hH
  have HQ := Lib.hid (And.intro q0 (And.intro q1 q2))
  clear hw1 hH q0 q1 q2
  go_enter Try.func34, Try.ntmps34
  go_wp2_with fail
  rw [← HW1.out]
  (try rw [← HHH.out])
  refine Calls.mono (HF.out w1) ?_
  rintro e w2 ⟨rfl, hb2⟩
  have HB2 := Lib.hid hb2
  have cl : ∀ {b j : Nat} {u : Value}, w1.cell? ⟨b, j, none⟩ = some u → w2.cell? ⟨b, j, none⟩ = some u := fun h => (hb2.cell (p := ⟨_, _, none⟩) (World.block_lt_of_cell? w1 _ h)).trans h
  have q0 := cl HQ.out.1
  have q1 := cl HQ.out.2.1
  have q2 := cl HQ.out.2.2
  clear cl hb2
  rcases hc with rfl | rfl
  · have HEE := Lib.hid (hE0 rfl)
    clear hE0 hE1
    go_wp2_with fail
    refine Calls.mono (HC.out w2 (HX1.out.trans (HB2.out.mono HX1.out.size))) ?_
    rintro e w3 ⟨rfl, hb3⟩
    have HB3 := Lib.hid (HB2.out.trans (hb3.mono HB2.out.size))
    clear hb3
    go_wp2_with fail
    go_ret
    exact ⟨by rw [HEE.out]; rfl, HX1.out.trans (HB3.out.mono HX1.out.size)⟩
  · have HEE := Lib.hid (hE1 rfl)
    clear hE0 hE1
    go_wp2_with fail
    go_ret
    exact ⟨by rw [HEE.out]; rfl, HX1.out.trans (HB2.out.mono HX1.out.size)⟩
end Go.Proofs.Ytholafodachjnaa
