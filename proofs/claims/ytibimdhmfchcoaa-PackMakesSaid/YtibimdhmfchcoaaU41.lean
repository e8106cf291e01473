import Derived.Test.YtibimdhmfchcoaaA10
namespace Go.Proofs.Ytibimdhmfchcoaa
open Go.RowKit Go.Shelf Go.Maps
set_option linter.unusedVariables false
set_option linter.unusedSimpArgs false


theorem cntF_snoc (l : List Int) (x v : Int) : cntF (l ++ [x]) v = cntF l v + (if x = v then 1 else 0) := by
  rw [← cntF_step]
  by_cases h : v = x
  · subst h; simp
  · dsimp only; rw [if_neg h, if_neg (fun e => h e.symm)]; simp
set_option maxRecDepth 100000 in
set_option maxHeartbeats 4000000 in
theorem uses41 (w : World) (N : NetV) (hN : NetAt w N) (hf : Few N) (v : Int) :
    Calls Try.prog 41 #[N.val, .int .i64 v] w fun e w' => e = .returned (.int .i64 (cntF (occ N) v)) ∧ Below w.heap.size w w' := by
  have hlens : N.luts.length ≤ 200 ∧ N.holds.length ≤ 100 ∧ N.outs.length ≤ 100 ∧ ∀ l ∈ N.luts, l.ins.length ≤ 20 := ⟨hf.luts, hf.holds, hf.outs, hf.lut⟩
  have H := Lib.hid hN
  have HFl := Lib.hid hlens.2.2.2
  obtain ⟨l1, l2, l3, _⟩ := hlens
  clear hN hf
  obtain ⟨W0, hW0⟩ : ∃ W, W = w.alloc N.obj := ⟨_, rfl⟩
  have hB := Box.start w N
  rw [← hW0] at hB
  have HB := Lib.hid hB
  obtain ⟨ins, ha, hc, holds, la, lc, luts, oa, oc, outs⟩ := N
  dsimp only at l1 l2 l3 HFl ⊢
  have b2 := hB.c2
  dsimp only at b2
  clear hB
  go_enter Try.func41, Try.ntmps41
  go_wp2_with fail
  rw [← hW0]
  clear hW0
  go_loopw [5, 17] (fun mv iv wr => ∃ j : Nat, j ≤ luts.length ∧ iv = .int .i64 j ∧ ∃ c : Nat, mv = .int .i64 c ∧ c ≤ 20 * j ∧ Hid ((c : Int) = cntF ((luts.take j).flatMap LutV.ins) v ∧ Below (w.heap.size + 1) W0 wr)) (fun _ iv _ => luts.length - (intOf iv).toNat)
  case atStart => exact ⟨0, by omega, rfl, 0, rfl, by omega, Lib.hid ⟨by simp [cntF], Below.refl _ _⟩⟩
  case round =>
    obtain ⟨j, hj, rfl, c, rfl, hc5, hh⟩ := hrel
    obtain ⟨hcq, hbw⟩ := hh.out
    have hx := HB.out.step hbw (Nat.le_refl _)
    by_cases hlt : j < luts.length
    · obtain ⟨b, off, hLa0, hbb, d0, d1⟩ := (H.out.below hx.below (Nat.le_refl _)).lut j hlt
      have hea := (H.out.below hx.below (Nat.le_refl _)).each _ (getD_mem luts default hlt)
      have hL20 := HFl.out _ (getD_mem luts default hlt)
      have htf := take_flat luts j hlt
      dsimp only at hLa0 d0 d1
      obtain ⟨L, hLe⟩ : ∃ L, L = luts.getD j default := ⟨_, rfl⟩
      rw [← hLe] at d0 d1 hea hL20 htf
      obtain ⟨La, Lc, Li, Lt⟩ := L
      dsimp only at d0 d1 hea hL20 htf
      subst hLa0
      obtain ⟨pre, hpe⟩ : ∃ l, l = (luts.take j).flatMap LutV.ins := ⟨_, rfl⟩
      rw [← hpe] at htf hcq
      obtain ⟨W2, hW2⟩ : ∃ W2, W2 = wr.alloc (Obj.cells #[Value.slice La Li.length Lc, Value.int IntKind.u64 Lt] 41) := ⟨_, rfl⟩
      have hb2 : Below wr.heap.size wr W2 := by rw [hW2]; exact (Below.refl _ _).alloc (Nat.le_refl _) _
      have HBw : Hid (Below (w.heap.size + 1) W0 W2) := Lib.hid (hbw.trans (hb2.mono hx.size))
      have HLS : Hid (Seq W2 La Li.length (ints Li)) := Lib.hid (hea.1.below hb2 (Nat.le_refl _))
      have HTF := Lib.hid htf
      have HPe := Lib.hid hpe
      have HC0 := Lib.hid hcq
      clear hea htf hpe hcq hb2 hx hbw hh hLe
      go_wp2
      rw [← hW2]
      clear hW2
      go_loop [5, 24] (fun mv qv => ∃ q : Nat, q ≤ Li.length ∧ qv = .int .i64 q ∧ ∃ c : Nat, mv = .int .i64 c ∧ c ≤ 20 * j + q ∧ Hid ((c : Int) = cntF (pre ++ Li.take q) v)) (fun _ qv => Li.length - (intOf qv).toNat)
      case atStart => exact ⟨0, by omega, rfl, c, rfl, by omega, Lib.hid (by rw [List.take_zero, List.append_nil]; exact HC0.out)⟩
      case round =>
        obtain ⟨q, hq, rfl, c, rfl, hc6, HC⟩ := hrel
        by_cases hlq : q < Li.length
        · obtain ⟨b3, off3, hLa, hb3, hc3⟩ := HLS.out.at q hlq
          have x0 := hc3 q hlq
          unfold ints at x0
          have htk := take_one Li 0 q hlq
          obtain ⟨x, hx⟩ : ∃ x, x = Li.getD q 0 := ⟨_, rfl⟩
          rw [← hx] at x0 htk
          have hsn := cntF_snoc (pre ++ Li.take q) x v
          rw [List.append_assoc, ← htk] at hsn
          clear hx htk hc3
          subst hLa
          by_cases hxv : x = v
          · have hxb : (x == v) = true := by simpa using hxv
            rw [if_pos hxv] at hsn
            have HSn := Lib.hid hsn
            clear hsn hxv
            go_wp2
            go_round
            case rel => exact ⟨q + 1, by omega, by go_num, c + 1, by go_num, by omega, Lib.hid (by rw [HSn.out, ← HC.out]; push_cast; rfl)⟩
            case measure => simp [intOf]; omega
          · have hxb : (x == v) = false := by simpa using hxv
            rw [if_neg hxv] at hsn
            have HSn := Lib.hid hsn
            clear hsn hxv
            go_wp2
            go_round
            case rel => exact ⟨q + 1, by omega, by go_num, c, rfl, by omega, Lib.hid (by rw [HSn.out, ← HC.out]; simp)⟩
            case measure => simp [intOf]; omega
        · obtain rfl : q = Li.length := by omega
          go_wp2
          go_roundw
          case rel => exact ⟨j + 1, by omega, by go_num, c, rfl, by omega, Lib.hid ⟨by rw [HTF.out, HC.out, List.take_length], HBw.out⟩⟩
          case measure => simp [intOf]; omega
    · obtain rfl : j = luts.length := by omega
      have b1 := hx.c1
      have b3 := hx.c3
      dsimp only at b1 b3
      rw [List.take_length] at hcq
      have HBw := Lib.hid hbw
      have HC0 := Lib.hid hcq
      obtain ⟨F, hF⟩ : ∃ l, l = luts.flatMap LutV.ins := ⟨_, rfl⟩
      rw [← hF] at HC0
      have HF := Lib.hid hF
      have hc7 : c ≤ 4000 := by omega
      obtain ⟨W3, rfl⟩ : ∃ W, W = wr := ⟨_, rfl⟩
      clear hx hcq hbw hh hF
      go_wp2
      go_loopw [5, 38] (fun mv iv wr => ∃ j : Nat, j ≤ holds.length ∧ iv = .int .i64 j ∧ ∃ c : Nat, mv = .int .i64 c ∧ c ≤ 4000 + j ∧ Hid ((c : Int) = cntF (F ++ (holds.take j).map HoldV.d) v ∧ Below (w.heap.size + 1) W0 wr)) (fun _ iv _ => holds.length - (intOf iv).toNat)
      case atStart => exact ⟨0, by omega, rfl, c, rfl, by omega, Lib.hid ⟨by simpa using HC0.out, HBw.out⟩⟩
      case round =>
        obtain ⟨j, hj, rfl, c, rfl, hc6, hh⟩ := hrel
        obtain ⟨hcq, hbw⟩ := hh.out
        have hx := HB.out.step hbw (Nat.le_refl _)
        by_cases hlt : j < holds.length
        · obtain ⟨b, off, hLa0, hbb, hcs⟩ := (H.out.below hx.below (Nat.le_refl _)).holds.at (2 * j) (by simp only; omega)
          dsimp only at hLa0 hcs
          have d0 := hcs (j * 2) (by omega)
          have d1 := hcs (j * 2 + 1) (by omega)
          simp only [holdCell] at d0 d1
          rw [if_pos (by omega), show j * 2 / 2 = j by omega] at d0
          rw [if_neg (by omega), show (j * 2 + 1) / 2 = j by omega, ← Nat.add_assoc] at d1
          have htk := take_map holds j hlt
          obtain ⟨hd, hhd⟩ : ∃ z, z = holds.getD j default := ⟨_, rfl⟩
          rw [← hhd] at d0 d1 htk
          obtain ⟨x, xi⟩ := hd
          dsimp only at d0 d1 htk
          have hsn := cntF_snoc (F ++ (holds.take j).map HoldV.d) x v
          rw [List.append_assoc, ← htk] at hsn
          have HBw2 : Hid (Below (w.heap.size + 1) W0 (wr.alloc (Obj.cells #[Value.int IntKind.i64 x, Value.bool xi] 63))) := Lib.hid (hbw.alloc hx.size _)
          have HC := Lib.hid hcq
          clear hcs htk hhd hcq hbw hx hh
          subst hLa0
          by_cases hxv : x = v
          · have hxb : (x == v) = true := by simpa using hxv
            rw [if_pos hxv] at hsn
            have HSn := Lib.hid hsn
            clear hsn hxv
            go_wp2
            go_roundw
            case rel => exact ⟨j + 1, by omega, by go_num, c + 1, by go_num, by omega, Lib.hid ⟨by rw [HSn.out, ← HC.out]; push_cast; rfl, HBw2.out⟩⟩
            case measure => simp [intOf]; omega
          · have hxb : (x == v) = false := by simpa using hxv
            rw [if_neg hxv] at hsn
            have HSn := Lib.hid hsn
            clear hsn hxv
            go_wp2
            go_roundw
            case rel => exact ⟨j + 1, by omega, by go_num, c, rfl, by omega, Lib.hid ⟨by rw [HSn.out, ← HC.out]; simp, HBw2.out⟩⟩
            case measure => simp [intOf]; omega
        · obtain rfl : j = holds.length := by omega
          have b3 := hx.c3
          dsimp only at b3
          rw [List.take_length] at hcq
          obtain ⟨G, hG⟩ : ∃ l, l = F ++ holds.map HoldV.d := ⟨_, rfl⟩
          rw [← hG] at hcq
          have HG := Lib.hid hG
          have HC0 := Lib.hid hcq
          have HOs : Hid (Seq wr oa outs.length (ints outs)) := Lib.hid (H.out.below hx.below (Nat.le_refl _)).outs
          have HBw3 := Lib.hid (hx.below)
          have hc8 : c ≤ 4100 := by omega
          clear hx hcq hbw hh hG
          go_wp2
          go_loop [5, 52] (fun mv iv => ∃ j : Nat, j ≤ outs.length ∧ iv = .int .i64 j ∧ ∃ c : Nat, mv = .int .i64 c ∧ c ≤ 4100 + j ∧ Hid ((c : Int) = cntF (G ++ outs.take j) v)) (fun _ iv => outs.length - (intOf iv).toNat)
          case atStart => exact ⟨0, by omega, rfl, c, rfl, by omega, Lib.hid (by simpa using HC0.out)⟩
          case round =>
            obtain ⟨j, hj, rfl, c, rfl, hc9, HC⟩ := hrel
            by_cases hlt : j < outs.length
            · obtain ⟨b, off, hLa0, hbb, hcs⟩ := HOs.out.at j hlt
              have d0 := hcs j hlt
              unfold ints at d0
              have htk := take_one outs 0 j hlt
              obtain ⟨x, hhd⟩ : ∃ z, z = outs.getD j 0 := ⟨_, rfl⟩
              rw [← hhd] at d0 htk
              have hsn := cntF_snoc (G ++ outs.take j) x v
              rw [List.append_assoc, ← htk] at hsn
              clear hcs htk hhd
              subst hLa0
              by_cases hxv : x = v
              · have hxb : (x == v) = true := by simpa using hxv
                rw [if_pos hxv] at hsn
                have HSn := Lib.hid hsn
                clear hsn hxv
                go_wp2
                go_round
                case rel => exact ⟨j + 1, by omega, by go_num, c + 1, by go_num, by omega, Lib.hid (by rw [HSn.out, ← HC.out]; push_cast; rfl)⟩
                case measure => simp [intOf]; omega
              · have hxb : (x == v) = false := by simpa using hxv
                rw [if_neg hxv] at hsn
                have HSn := Lib.hid hsn
                clear hsn hxv
                go_wp2
                go_round
                case rel => exact ⟨j + 1, by omega, by go_num, c, rfl, by omega, Lib.hid (by rw [HSn.out, ← HC.out]; simp)⟩
                case measure => simp [intOf]; omega
            · obtain rfl : j = outs.length := by omega
              go_wp2
              go_ret
              have : occ ⟨ins, ha, hc, holds, la, lc, luts, oa, oc, outs⟩ = G ++ outs := by rw [HG.out, HF.out]; rfl
              exact ⟨ret_int (by rw [this, HC.out, List.take_length]), HBw3.out⟩
end Go.Proofs.Ytibimdhmfchcoaa

