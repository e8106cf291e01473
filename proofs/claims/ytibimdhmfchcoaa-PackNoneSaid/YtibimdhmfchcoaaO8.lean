/- The plain law of the order: all that are at once are told, each behind those on which it hangs. -/
import Derived.Test.YtibimdhmfchcoaaO7
namespace Go.Proofs.Ytibimdhmfchcoaa
open Go.RowKit Go.Shelf Go.Maps
set_option linter.unusedVariables false
set_option linter.unusedSimpArgs false

theorem nodup_all {a U : List Nat} (hn : a.Nodup) (hs : ∀ x ∈ a, x ∈ U) (hl : U.length ≤ a.length) : ∀ x ∈ U, x ∈ a := by
  intro x hx
  by_cases hxa : x ∈ a
  · exact hxa
  · have := nodup_len (x :: a) U (List.nodup_cons.2 ⟨hxa, hn⟩) (fun y hy => by
      rcases List.mem_cons.1 hy with rfl | hy
      · exact hx
      · exact hs y hy)
    simp only [List.length_cons] at this
    omega
theorem orderL_all (P : PackD) (h : nowTo P P.n ≤ (orderL P).length) (i : Nat) (hi : i < P.n) (hn : P.now i = true) : i ∈ orderL P :=
  nodup_all (orderL_told P).nodup (fun x hx => by simpa using (orderL_told P).lt x hx) h i (by simpa using ⟨hi, hn⟩)
theorem greedy_behind (P : PackD) (j : Nat) : ∀ t, t < (greedy P j).length → ∀ k ∈ deps P ((greedy P j).getD t 0), k ∈ (greedy P j).take t := by
  induction j with
  | zero => intro t ht; simp [greedy] at ht
  | succ j ih =>
    unfold greedy
    cases h : pick P (greedy P j) with
    | none => exact ih
    | some b =>
      intro t ht k hk
      simp only at ht hk ⊢
      by_cases hlt : t < (greedy P j).length
      · rw [List.getD_eq_getElem?_getD, List.getElem?_append_left hlt, ← List.getD_eq_getElem?_getD] at hk
        rw [List.take_append_of_le_length (by omega)]
        exact ih t hlt k hk
      · have ht2 : t = (greedy P j).length := by simp at ht; omega
        subst ht2
        rw [List.getD_eq_getElem?_getD, List.getElem?_append_right (by omega)] at hk
        simp at hk
        rw [List.take_append_of_le_length (by omega), List.take_length]
        exact (readyN_iff.1 (pick_spec h).2.1).2.2 k hk
/-- Where each one stands, of the first t that are told. -/
def plTo (l : List Nat) : Nat → Nat → Int
  | 0 => fun _ => -1
  | t + 1 => upd (plTo l t) (l.getD t 0) (t : Int)
theorem plTo_no (l : List Nat) : ∀ t, t ≤ l.length → ∀ j, j ∉ l.take t → plTo l t j = -1
  | 0, _, _, _ => rfl
  | t + 1, ht, j, hj => by
    rw [take_one l 0 t (by omega)] at hj
    rw [List.mem_append, List.mem_singleton, not_or] at hj
    have h := hj
    show upd (plTo l t) (l.getD t 0) (t : Int) j = -1
    rw [upd_other _ _ _ h.2]
    exact plTo_no l t (by omega) j h.1
theorem plTo_at (l : List Nat) (hn : l.Nodup) : ∀ t, t ≤ l.length → ∀ s, s < t → plTo l t (l.getD s 0) = (s : Int)
  | 0, _, s, hs => by omega
  | t + 1, ht, s, hs => by
    show upd (plTo l t) (l.getD t 0) (t : Int) (l.getD s 0) = s
    by_cases e : s = t
    · subst e; rw [upd_same]
    · rw [upd_other]
      · exact plTo_at l hn t (by omega) s (by omega)
      · intro h
        rw [List.getD_eq_getElem?_getD, List.getD_eq_getElem?_getD, List.getElem?_eq_getElem (by omega), List.getElem?_eq_getElem (by omega)] at h
        simp only [Option.getD_some] at h
        exact e ((List.getElem_inj hn).1 h)
theorem plTo_mem (l : List Nat) (hn : l.Nodup) (t : Nat) (ht : t ≤ l.length) (j : Nat) (hj : j ∈ l.take t) : ∃ s : Nat, s < t ∧ l.getD s 0 = j ∧ plTo l t j = s := by
  obtain ⟨s, hs, rfl⟩ := List.getElem_of_mem hj
  rw [List.length_take] at hs
  have e : (l.take t)[s]'(by rw [List.length_take]; exact hs) = l.getD s 0 := by
    rw [List.getElem_take, List.getD_eq_getElem?_getD, List.getElem?_eq_getElem (by omega)]; rfl
  rw [e]
  exact ⟨s, by omega, rfl, plTo_at l hn t ht s (by omega)⟩
theorem getD_notin_take {l : List Nat} (hn : l.Nodup) {t : Nat} (ht : t < l.length) : l.getD t 0 ∉ l.take t := by
  intro h
  obtain ⟨s, hs, he, hp⟩ := plTo_mem l hn t (by omega) _ h
  rw [List.getD_eq_getElem?_getD, List.getD_eq_getElem?_getD, List.getElem?_eq_getElem (by omega), List.getElem?_eq_getElem (by omega)] at he
  simp only [Option.getD_some] at he
  have := (List.getElem_inj hn).1 he
  omega
/-- Does a block that is at once hang on another? -/
def hangsB (P : PackD) (b on : Nat) : Bool := P.now b && (P.blk b).ins.any (fun w => w == P.ins + (on : Int))
theorem hangs_dep {P : PackD} {b on : Nat} (h : hangsB P b on = true) (hn : P.now on = true) : on ∈ deps P b := by
  unfold hangsB at h
  rw [Bool.and_eq_true, List.any_eq_true] at h
  obtain ⟨_, w, hw, he⟩ := h
  have he : w = P.ins + (on : Int) := by simpa using he
  unfold deps
  rw [List.mem_map]
  refine ⟨w, ?_, by rw [he]; omega⟩
  rw [List.mem_filter]
  refine ⟨hw, ?_⟩
  unfold depOf
  rw [he, show P.ins + (on : Int) - P.ins = on by omega, Int.toNat_natCast, hn, decide_eq_true (by omega)]
  rfl
/-- It stands behind those on which it hangs. -/
theorem orderL_before (P : PackD) (h : nowTo P P.n ≤ (orderL P).length) {i k : Nat} (hi : i < P.n) (hk : k < P.n) (hh : hangsB P i k = true) (hn : P.now k = true) : plTo (orderL P) (orderL P).length k < plTo (orderL P) (orderL P).length i := by
  have hni : P.now i = true := by unfold hangsB at hh; rw [Bool.and_eq_true] at hh; exact hh.1
  have hmi := orderL_all P h i hi hni
  have nd := (orderL_told P).nodup
  obtain ⟨s, hs, he, hp⟩ := plTo_mem (orderL P) nd _ (Nat.le_refl _) i (by rw [List.take_length]; exact hmi)
  have hb := greedy_behind P P.n s hs
  have e2 : (greedy P P.n).getD s 0 = i := he
  rw [e2] at hb
  obtain ⟨s2, hs2, he2, hp2⟩ := plTo_mem (orderL P) nd s (by omega) k (hb k (hangs_dep hh hn))
  have := plTo_at (orderL P) nd _ (Nat.le_refl _) s2 (by omega)
  rw [he2] at this
  omega

/-- Hangs. -/
theorem hangs30 (w : World) (P : PackV) (h : PackAt w P) (hf : FewP P) (hi0 : 0 ≤ P.ins) (hlen : ∀ b ∈ P.bs, b.ins.length ≤ 4) (b on : Nat) (hb : b < P.bs.length) (ho : on < P.bs.length) :
    Calls Try.prog 30 #[P.val, .int .i64 b, .int .i64 on] w fun e w' => e = .returned (.bool (hangsB P.data b on)) ∧ Below w.heap.size w w' := by
  have hx := PBox.start w P
  obtain ⟨W1, hW1⟩ : ∃ W1, W1 = w.alloc P.obj := ⟨_, rfl⟩
  rw [← hW1] at hx
  have c0 := hx.c0
  have c1 := hx.c1
  have hf0 := hf.ins
  have hf1 := hf.bs
  obtain ⟨q, off, hba, hbb, d0, d1, d2, d3⟩ := (h.below hx.below (Nat.le_refl _)).blk b hb
  have hEach := (h.below hx.below (Nat.le_refl _)).each _ (getD_mem P.bs default hb)
  have h4 := hlen _ (getD_mem P.bs default hb)
  have hres : hangsB P.data b on = (!(P.bs.getD b default).ff && (P.bs.getD b default).ins.any (fun w => w == P.ins + (on : Int))) := by
    unfold hangsB PackD.now
    rw [data_blk]
  obtain ⟨ins, ba, bc, bs, oa, oc, os⟩ := P
  dsimp only at c0 c1 hf0 hf1 hi0 hba d0 d1 d2 d3 hEach h4 hres ho hb
  subst hba
  obtain ⟨L, hLe⟩ : ∃ L, L = bs.getD b default := ⟨_, rfl⟩
  rw [← hLe] at d0 d1 d2 d3 hEach h4 hres
  obtain ⟨La, Lc, Li, Lt, Lf, Ln⟩ := L
  dsimp only at d0 d1 d2 d3 hEach h4 hres
  have HRes := Lib.hid hres
  have HSq := Lib.hid hEach.1
  have HB := Lib.hid hx.below
  have HW1 := Lib.hid hW1
  have e0 := d0
  have e2 := d2
  rw [hW1] at e0 e2
  clear h hf hx hEach hLe hres hW1 hlen d1 d3
  cases Lf
  · go_enter Try.func30, Try.ntmps30
    go_wp2_with fail
    rw [← HW1.out]
    go_loop [22] (fun qv => ∃ q : Nat, q ≤ Li.length ∧ qv = .int .i64 q ∧ Hid (∀ j, j < q → Li.getD j 0 ≠ ins + (on : Int))) (fun qv => Li.length - (intOf qv).toNat)
    case atStart => exact ⟨0, by omega, rfl, Lib.hid (fun j hj => by omega)⟩
    case round =>
      obtain ⟨p, hp, rfl, hh⟩ := hrel
      by_cases hlq : p < Li.length
      · obtain ⟨b3, off3, hLa, hb3, hc3⟩ := HSq.out.at p hlq
        have x0 := hc3 p hlq
        unfold ints at x0
        obtain ⟨x, hx⟩ : ∃ x, x = Li.getD p 0 := ⟨_, rfl⟩
        rw [← hx] at x0
        have HX := Lib.hid hx
        clear hx hc3
        subst hLa
        by_cases hxe : x = ins + (on : Int)
        · have hxb : (x == ins + (on : Int)) = true := by simpa using hxe
          have hres : (Li.any fun w => w == ins + (on : Int)) = true := by
            rw [List.any_eq_true]
            exact ⟨Li.getD p 0, getD_mem Li 0 hlq, by rw [← HX.out]; exact hxb⟩
          have HR := Lib.hid hres
          have HXe := Lib.hid hxe
          clear hres hxe
          go_wp2_with fail
          go_ret
          exact ⟨ret_bool (by rw [HRes.out, HR.out]; rfl), HB.out⟩
        · have hxb : (x == ins + (on : Int)) = false := by simpa using hxe
          have HN : Hid (∀ j, j < p + 1 → Li.getD j 0 ≠ ins + (on : Int)) := Lib.hid (fun j hj => by
            rcases Nat.lt_succ_iff_lt_or_eq.1 hj with h | rfl
            · exact hh.out j h
            · rw [← HX.out]; exact hxe)
          clear hxe
          go_wp2_with fail
          go_round
          case rel => exact ⟨p + 1, by omega, by go_num, HN⟩
          case measure => simp [intOf]; omega
      · obtain rfl : p = Li.length := by omega
        have hres : (Li.any fun w => w == ins + (on : Int)) = false := by
          rw [List.any_eq_false]
          intro x hx
          obtain ⟨j, hj, rfl⟩ := List.getElem_of_mem hx
          have := hh.out j hj
          rw [List.getD_eq_getElem?_getD, List.getElem?_eq_getElem hj] at this
          simpa using this
        have HR := Lib.hid hres
        clear hres
        go_wp2_with fail
        go_ret
        exact ⟨ret_bool (by rw [HRes.out, HR.out]; rfl), HB.out⟩
  · go_enter Try.func30, Try.ntmps30
    go_wp2_with fail
    go_ret
    exact ⟨ret_bool (by rw [HRes.out]; rfl), by rw [← HW1.out]; exact HB.out⟩
end Go.Proofs.Ytibimdhmfchcoaa
