import Derived.Test.YtibimdhmfchcoaaO1
namespace Go.Proofs.Ytibimdhmfchcoaa
open Go.RowKit Go.Shelf Go.Maps
set_option linter.unusedVariables false
set_option linter.unusedSimpArgs false

/-- An order newly told. -/
def NewOrder (w : World) (D : PackD) (e : Ending) (w' : World) : Prop :=
  ∃ (a : Option Addr) (c : Nat), e = .returned (.tuple #[.slice a (orderT D).length c, .int .i64 (orderE D)]) ∧ w'.ownsRow w.heap.size 3 1 (.slice a (orderT D).length c) (orderT D).length ((orderT D).map (Value.int .i64)) ∧ Below w.heap.size w w'
theorem noOrder {w w' : World} {D : PackD} (h : orderE D ≠ 0) (hb : Below w.heap.size w w') : NewOrder w D (.returned (.tuple #[.slice none 0 0, .int .i64 (orderE D)])) w' := by
  have : orderT D = [] := by unfold orderT; rw [if_neg h]
  exact ⟨none, 0, by rw [this]; rfl, by rw [this]; exact World.ownsRow_nil _ _ _ _, hb⟩
theorem someOrder {w w' : World} {D : PackD} {v : Value} (h : orderE D = 0) (ho : w'.ownsRow w.heap.size 3 1 v (orderL D).length (nums (orderL D))) (hb : Below w.heap.size w w') : NewOrder w D (.returned (.tuple #[v, .int .i64 0])) w' := by
  have e : orderT D = (orderL D).map Int.ofNat := by unfold orderT; rw [if_pos h]
  have e2 : nums (orderL D) = (orderT D).map (Value.int .i64) := by rw [e]; unfold nums; rw [List.map_map]; rfl
  have el : (orderL D).length = (orderT D).length := by rw [e]; simp
  rw [e2, el] at ho
  obtain ⟨a, c, rfl⟩ := owns_val ho
  exact ⟨a, c, by rw [h], ho, hb⟩
theorem nowTo_bs (P : PackV) (i : Nat) : nowTo P.data (i + 1) = nowTo P.data i + if (P.bs.getD i default).ff then 0 else 1 := by
  rw [nowTo_succ]
  unfold PackD.now
  rw [data_blk]
  have e : (P.bs.getD i default).data.ff = (P.bs.getD i default).ff := rfl
  rw [e]
  cases (P.bs.getD i default).ff <;> rfl

set_option maxRecDepth 100000 in
set_option maxHeartbeats 8000000 in
theorem order31 (w : World) (P : PackV) (h : PackAt w P) (hf : FewP P) :
    Calls Try.prog 31 #[P.val] w (NewOrder w P.data) := by
  obtain ⟨W1, hW1⟩ : ∃ W1, W1 = w.alloc P.obj := ⟨_, rfl⟩
  have hX := PBox.start w P
  rw [← hW1] at hX
  have h1 : PackAt W1 P := h.below hX.below (Nat.le_refl _)
  have HM := Lib.hid (may60 W1 P h1 hf)
  have x0 := hX.c0
  have x1 := hX.c1
  have x2 := hX.c2
  have HO := Lib.hid (fun (w2 : World) (hb : Below W1.heap.size W1 w2) (hm : mayB P.data = true) => order61 w2 P (h1.below hb (Nat.le_refl _)) hf hm)
  have HX := Lib.hid hX
  have HP := Lib.hid h
  have HF := Lib.hid hf
  have hnow := nowTo_bs P
  have hDn := data_n P
  have hord : ∀ D, orderE D = if mayB D then (if (orderL D).length < nowTo D D.n then 321 else 0) else 1 := fun D => rfl
  have hordD := hord P.data
  have hlen := orderL_len P.data
  have h0 : nowTo P.data 0 = 0 := rfl
  have hfb := hf.bs
  rw [hDn] at hordD hlen
  obtain ⟨D, hD⟩ : ∃ D, D = P.data := ⟨_, rfl⟩
  rw [← hD] at HM HO hnow hDn hordD hlen h0 ⊢
  obtain ⟨ins, ba, bc, bs, oa, oc, os⟩ := P
  dsimp only at x0 x1 x2 hnow hDn hordD hlen hfb
  have HW1 := Lib.hid hW1
  have HNow := Lib.hid hnow
  have HE := Lib.hid hordD
  have HLen := Lib.hid hlen
  have H0 := Lib.hid h0
  obtain ⟨mb, hmb⟩ : ∃ b, b = mayB D := ⟨_, rfl⟩
  rw [← hmb] at HM HE HO
  have HMb := Lib.hid hmb
  clear h h1 hf hX hnow hDn hord hordD hlen h0 hD hW1 hmb
  go_enter Try.func31, Try.ntmps31
  go_wp2_with fail
  rw [← HW1.out]
  go_wp2_with fail
  refine Calls.mono HM.out ?_
  rintro e w2 ⟨rfl, hb2⟩
  cases mb
  · go_wp2_with fail
    have he : orderE D = 1 := by rw [HE.out]; rfl
    have := noOrder (w := w) (w' := w2) (D := D) (by rw [he]; decide) (HX.out.below.trans (hb2.mono (by have := HX.out.size; omega)))
    rw [he] at this
    go_ret2
    exact this
  · have HX2 := Lib.hid (HX.out.step hb2 (by have := HX.out.size; omega))
    have HO2 := Lib.hid (HO.out w2 hb2 rfl)
    have y0 := HX2.out.c0
    have y1 := HX2.out.c1
    have y2 := HX2.out.c2
    dsimp only at y0 y1 y2
    clear hb2
    go_wp2_with fail
    refine Calls.mono HO2.out ?_
    rintro e w3 ⟨v, rfl, ho3, hb3⟩
    obtain ⟨a, c, rfl⟩ := owns_val ho3
    have HX3 := Lib.hid (HX2.out.step hb3 HX2.out.size)
    have z1 := HX3.out.c1
    dsimp only at z1
    have HOw := Lib.hid (ho3.base_le (base' := w.heap.size) (by have := HX2.out.size; omega))
    obtain ⟨len, hlen⟩ : ∃ l, l = (orderL D).length := ⟨_, rfl⟩
    rw [← hlen] at HOw HE HLen ⊢
    have HLn := Lib.hid hlen
    have HW3 := Lib.hid hb3
    clear ho3 hlen hb3
    go_wp2_with fail
    go_loopw [5, 16] (fun nv iv wr => ∃ i : Nat, i ≤ bs.length ∧ iv = .int .i64 i ∧ nv = .int .i64 (nowTo D i) ∧ Hid (Below w3.heap.size w3 wr)) (fun _ iv _ => bs.length - (intOf iv).toNat)
    case atStart => exact ⟨0, by omega, rfl, by rw [H0.out]; rfl, Lib.hid (Below.refl _ _)⟩
    case round =>
      obtain ⟨i, hi, rfl, rfl, hh⟩ := hrel
      have hnl := nowTo_le D i
      by_cases hlt : i < bs.length
      · have hx := HX3.out.step hh.out HX3.out.size
        obtain ⟨b, off, hba, hbb, d0, d1, d2, d3⟩ := (HP.out.below hx.below (Nat.le_refl _)).blk i hlt
        have hns := HNow.out i
        dsimp only at hba d0 d1 d2 d3
        obtain ⟨L, hLe⟩ : ∃ L, L = bs.getD i default := ⟨_, rfl⟩
        rw [← hLe] at d0 d1 d2 d3 hns
        obtain ⟨La, Lc, Li, Lt, Lf, Ln⟩ := L
        dsimp only at d0 d1 d2 d3 hns
        obtain ⟨nn, hnn⟩ : ∃ n, n = nowTo D i := ⟨_, rfl⟩
        rw [← hnn] at hns hnl ⊢
        have HNs := Lib.hid hns
        have HSz := Lib.hid hx.size
        clear hLe hns hnn hx
        subst hba
        cases Lf
        all_goals
          go_wp2_with fail
          go_roundw
          case rel => exact ⟨i + 1, by omega, by go_num, by rw [HNs.out]; first | rfl | go_num, Lib.hid (hh.out.alloc hh.out.size _)⟩
          case measure => simp [intOf]; omega
      · obtain rfl : i = bs.length := by omega
        have HOw4 := Lib.hid (own_below HOw.out (hh.out))
        have HB4 := Lib.hid (HX3.out.below.trans (hh.out.mono (by have := HX3.out.size; omega)))
        obtain ⟨nn, hnn⟩ : ∃ n, n = nowTo D bs.length := ⟨_, rfl⟩
        rw [← hnn] at hnl HE HLen ⊢
        clear hnn
        have hle := HLen.out
        by_cases hne : len = nn
        · have hb : ((len : Int) != (nn : Int)) = false := by simp [hne]
          have he : orderE D = 0 := by rw [HE.out]; simp; omega
          have hres := someOrder (w := w) he (by rw [← HLn.out]; exact HOw4.out) HB4.out
          have HRes := Lib.hid hres
          clear hres he hle
          have HNe := Lib.hid hne
          clear hne
          go_wp2_with fail
          go_ret2
          exact HRes.out
        · have hb : ((len : Int) != (nn : Int)) = true := by simp; omega
          have he : orderE D = 321 := by rw [HE.out]; simp; omega
          have hres := noOrder (w := w) (w' := wr) (D := D) (by rw [he]; decide) HB4.out
          rw [he] at hres
          have HRes := Lib.hid hres
          clear hres he hle hne
          go_wp2_with fail
          go_ret2
          exact HRes.out

set_option maxRecDepth 100000 in
set_option maxHeartbeats 4000000 in
theorem check34 (w : World) (P : PackV) (h : PackAt w P) (hf : FewP P) :
    Calls Try.prog 34 #[P.val] w fun e w' => e = .returned (.int .i64 (orderE P.data)) ∧ Below w.heap.size w w' := by
  obtain ⟨W1, hW1⟩ : ∃ W1, W1 = w.alloc P.obj := ⟨_, rfl⟩
  have hX := PBox.start w P
  rw [← hW1] at hX
  have HO := Lib.hid (order31 W1 P (h.below hX.below (Nat.le_refl _)) hf)
  have x0 := hX.c0
  have x1 := hX.c1
  have x2 := hX.c2
  have HX := Lib.hid hX
  obtain ⟨D, hD⟩ : ∃ D, D = P.data := ⟨_, rfl⟩
  rw [← hD] at HO ⊢
  obtain ⟨ins, ba, bc, bs, oa, oc, os⟩ := P
  dsimp only at x0 x1 x2
  have HW1 := Lib.hid hW1
  clear h hX hW1 hD
  go_enter Try.func34, Try.ntmps34
  go_wp2_with fail
  rw [← HW1.out]
  go_wp2_with fail
  refine Calls.mono HO.out ?_
  rintro e w2 ⟨a, c, rfl, _, hb2⟩
  go_wp2_with fail
  go_ret
  exact ⟨rfl, HX.out.below.trans (hb2.mono (by have := HX.out.size; omega))⟩
end Go.Proofs.Ytibimdhmfchcoaa
