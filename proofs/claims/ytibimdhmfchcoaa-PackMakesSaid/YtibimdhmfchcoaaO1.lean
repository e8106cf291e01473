import Derived.Test.YtibimdhmfchcoaaM3
namespace Go.Proofs.Ytibimdhmfchcoaa
open Go.RowKit Go.Shelf Go.Maps
set_option linter.unusedVariables false
set_option linter.unusedSimpArgs false

theorem info4 : (Try.prog.info? 4).map (fun i => (i.zero, i.size, i.bytes)) = some (some (.bool false), 1, 1) := by kernel_rfl
def nums (l : List Nat) : List Value := l.map fun k : Nat => Value.int .i64 k
theorem nums_snoc (l : List Nat) (b : Nat) : nums (l ++ [b]) = nums l ++ [Value.int .i64 b] := by simp [nums]
structure RO (w0 : World) (P : PackV) (db : Nat) (out : List Nat) (v : Value) (wr : World) : Prop where
  box : PBox w0.heap.size w0 P wr
  lt : w0.heap.size + 1 ≤ db
  done : wr.rowIs db 4 P.bs.length (fun j => .bool (out.contains j))
  own : wr.ownsRow (db + 1) 3 1 v out.length (nums out)
theorem RO.add {w0 wr w' : World} {P : PackV} {db b g c : Nat} {out : List Nat} {v : Value} (h : RO w0 P db out v wr)
    (ho : w'.ownsRow (db + 1) 3 1 (.slice (some ⟨g, 0, none⟩) (out.length + 1) c) (out.length + 1) (nums out ++ [Value.int .i64 b])) (hg : (wr.setCell ⟨db, b, none⟩ (.bool true)).grownBy w' v.ownBlock) :
    RO w0 P db (out ++ [b]) (.slice (some ⟨g, 0, none⟩) (out.length + 1) c) w' := by
  have hdb := h.done.lt
  have hlt := h.lt
  have hsz := h.box.size
  have hB1 : Below (w0.heap.size + 1) wr (wr.setCell ⟨db, b, none⟩ (.bool true)) := (Below.refl _ _).setCell (by simp only; omega) _
  have hB2 : Below (w0.heap.size + 1) (wr.setCell ⟨db, b, none⟩ (.bool true)) w' := (Below.refl _ _).grown hg (by rw [set_size]; omega) (fun k e => by have := (h.own.lt k e).1; omega)
  refine ⟨(h.box.step hB1 (Nat.le_refl _)).step hB2 (Nat.le_refl _), h.lt, ?_, by rw [List.length_append, nums_snoc]; exact ho⟩
  refine ((h.done.set b (.bool true)).of_block (hg.block db (by rw [set_size]; exact hdb) (fun e => by have := (h.own.lt db e.symm).1; omega))).congr ?_
  intro j hj
  by_cases e : j = b
  · subst e; simp
  · rw [if_neg e]; simp [e]
theorem contains_snoc (l : List Nat) (b j : Nat) : (l ++ [b]).contains j = (l.contains j || j == b) := by
  rw [Bool.eq_iff_iff]; simp
theorem depsTo_succ (P : PackD) (i q : Nat) (hq : q < (P.blk i).ins.length) : depsTo P i (q + 1) = depsTo P i q ++ (if depOf P ((P.blk i).ins.getD q 0) then [((P.blk i).ins.getD q 0 - P.ins).toNat] else []) := by
  unfold depsTo
  rw [take_one (P.blk i).ins 0 q hq, List.filter_append, List.map_append]
  by_cases h : depOf P ((P.blk i).ins.getD q 0) = true
  · rw [if_pos h, List.filter_cons, if_pos h]; rfl
  · rw [if_neg h, List.filter_cons, if_neg h]; rfl
def rdyTo (P : PackD) (out : List Nat) (b q : Nat) : Bool := (depsTo P b q).all (fun k => out.contains k)
theorem rdyTo_succ (P : PackD) (out : List Nat) (b q : Nat) (hq : q < (P.blk b).ins.length) : rdyTo P out b (q + 1) = (rdyTo P out b q && (!depOf P ((P.blk b).ins.getD q 0) || out.contains ((P.blk b).ins.getD q 0 - P.ins).toNat)) := by
  unfold rdyTo
  rw [depsTo_succ P b q hq, List.all_append]
  cases depOf P ((P.blk b).ins.getD q 0) <;> simp
theorem ready_eq (P : PackD) (out : List Nat) (b : Nat) (h1 : P.now b = true) (h2 : out.contains b = false) : readyN P out b = rdyTo P out b (P.blk b).ins.length := by
  unfold readyN rdyTo
  rw [h1, h2, depsTo_all]; simp

set_option maxRecDepth 100000 in
set_option maxHeartbeats 16000000 in
theorem order61 (w : World) (P : PackV) (h : PackAt w P) (hf : FewP P) (hm : mayB P.data = true) :
    Calls Try.prog 61 #[P.val] w fun e w' => ∃ v, e = .returned v ∧ w'.ownsRow w.heap.size 3 1 v (orderL P.data).length (nums (orderL P.data)) ∧ Below w.heap.size w w' := by
  have hf0 := hf.ins
  have hf1 := hf.bs
  have hmm := hm
  unfold mayB at hmm
  simp only [Bool.and_eq_true, decide_eq_true_eq] at hmm
  obtain ⟨⟨⟨hi0, hq1⟩, hq2⟩, hbs, hq3⟩ := hmm
  have hinW : ∀ b, b < P.bs.length → (∀ x ∈ (P.bs.getD b default).ins, 0 ≤ x ∧ x < P.ins + P.bs.length) ∧ (P.bs.getD b default).ins.length ≤ 4 := by
    intro b hb
    have := (blk_all P.data _).1 hbs b (by rw [data_n]; exact hb)
    rw [data_blk, data_n] at this
    unfold blkB at this
    simp only [Bool.and_eq_true, decide_eq_true_eq, List.all_eq_true] at this
    exact ⟨this.2, this.1.1.1⟩
  have HInW := Lib.hid hinW
  clear hq1 hq2 hq3
  have H := Lib.hid h
  have HF := Lib.hid hf
  have hi0' : 0 ≤ P.ins := hi0
  have hDn := data_n P
  have hDb := data_blk P
  have hDi : P.data.ins = P.ins := rfl
  obtain ⟨D, hD⟩ : ∃ D, D = P.data := ⟨_, rfl⟩
  rw [← hD] at hDn hDb hDi ⊢
  clear h hf hbs hinW hm hi0
  obtain ⟨W1, hW1⟩ : ∃ W1, W1 = w.alloc P.obj := ⟨_, rfl⟩
  have hX := PBox.start w P
  rw [← hW1] at hX
  have HX := Lib.hid hX
  have hs1 : W1.heap.size = w.heap.size + 1 := by rw [hW1]; simp
  have c1 := hX.c1
  have hmk := run_make_row' (P := Try.prog) 37 4 (.bool false) 1 Try.underlying37 info4 rfl .i64 .i64 P.bs.length (by omega) (by omega)
  obtain ⟨W2, hW2⟩ : ∃ W2, W2 = W1.alloc (Obj.cells (madeCells #[Value.bool false] P.bs.length) 4) := ⟨_, rfl⟩
  have hst : RO w P W1.heap.size [] (.slice none 0 0) W2 := by
    refine ⟨by rw [hW2]; exact hX.step ((Below.refl _ _).alloc (Nat.le_refl _) _) (by omega), by omega, ?_, World.ownsRow_nil _ _ _ _⟩
    rw [hW2]; exact World.rowIs_made W1 _ _ _
  rw [hs1] at hst
  obtain ⟨db, hdb⟩ : ∃ d, d = w.heap.size + 1 := ⟨_, rfl⟩
  rw [← hdb] at hst
  have HSt := Lib.hid hst
  have c1' := hst.box.c1
  have HW1 := Lib.hid hW1
  have HW2 := Lib.hid hW2
  have HDb := Lib.hid hdb
  obtain ⟨ins, ba, bc, bs, oa, oc, os⟩ := P
  obtain ⟨i4, hi, hz0, hz1, hz2⟩ := info_parts info3
  dsimp only at hf0 hf1 hi0' hDn hDb hDi c1 c1' hmk HSt ⊢
  have HDn := Lib.hid hDn
  have HDk := Lib.hid hDb
  have HDi := Lib.hid hDi
  clear hDn hDb hDi hD
  clear hst hX hW1 hW2 hs1 hdb
  go_enter Try.func61, Try.ntmps61
  go_wp2_with fail
  rw [← HW1.out]
  go_wp2_with fail
  rw [← HW2.out]
  rw [← HDb.out]
  obtain ⟨W2, rfl⟩ : ∃ W, W = W2 := ⟨_, rfl⟩
  go_loopw [3, 17] (fun ov iv wr => ∃ (j : Nat) (v : Value), j ≤ bs.length ∧ iv = .int .i64 j ∧ v = ov ∧ Hid (RO w ⟨ins, ba, bc, bs, oa, oc, os⟩ db (greedy D j) v wr)) (fun _ iv _ => bs.length - (intOf iv).toNat)
  case atStart => exact ⟨0, _, by omega, rfl, rfl, HSt⟩
  case round =>
    obtain ⟨j, v, hj, rfl, rfl, hh⟩ := hrel
    by_cases hlt : j < bs.length
    · have x0 := hh.out.box.c0
      have x1 := hh.out.box.c1
      dsimp only at x0 x1
      obtain ⟨out, hout⟩ : ∃ o, o = greedy D j := ⟨_, rfl⟩
      have HOut := Lib.hid hout
      have HN : Hid (RO w ⟨ins, ba, bc, bs, oa, oc, os⟩ db out v wr) := Lib.hid (by rw [hout]; exact hh.out)
      clear hout hh
      go_wp2_with fail
      obtain ⟨wo, rfl⟩ : ∃ wo : World, wo = wr := ⟨_, rfl⟩
      go_loop [3, 22] (fun ov bv => ∃ b : Nat, b ≤ bs.length ∧ bv = .int .i64 b ∧ v = ov ∧ Hid (∀ k, k < b → readyN D out k = false)) (fun _ bv => bs.length - (intOf bv).toNat)
      case atStart => exact ⟨0, by omega, rfl, rfl, Lib.hid (fun k hk => by omega)⟩
      case round =>
        obtain ⟨b, hb, rfl, rfl, hno⟩ := hrel
        by_cases hlb : b < bs.length
        · obtain ⟨q0, off, hba, hbb, d0, d1, d2, d3⟩ := (H.out.below HN.out.box.below (Nat.le_refl _)).blk b hlb
          have hEach := ((H.out.below HN.out.box.below (Nat.le_refl _)).each _ (getD_mem bs default hlb))
          have hIn := HInW.out b hlb
          have hblk := HDk.out b
          have hdc := HN.out.done.cell (i := b) hlb
          have hdf := HN.out.done.frozen b
          dsimp only at d0 d1 d2 d3 hEach hba hblk hIn
          obtain ⟨L, hLe⟩ : ∃ L, L = bs.getD b default := ⟨_, rfl⟩
          rw [← hLe] at d0 d1 d2 d3 hEach hblk hIn
          obtain ⟨La, Lc, Li, Lt, Lf, Ln⟩ := L
          dsimp only at d0 d1 d2 d3 hEach hblk hIn
          have HSq := Lib.hid hEach.1
          have HIn := Lib.hid hIn.1
          have hl4 := hIn.2
          have hnow : D.now b = !Lf := by unfold PackD.now; rw [hblk]
          have HBk := Lib.hid hblk
          have HNow := Lib.hid hnow
          obtain ⟨cb, hcb⟩ : ∃ c, c = out.contains b := ⟨_, rfl⟩
          rw [← hcb] at hdc
          have HCb := Lib.hid hcb
          clear hEach hIn hblk hLe hnow hcb
          subst hba
          have hskip : (cb || Lf) = true → ∀ k, k < b + 1 → readyN D out k = false := fun hs k hk => by
            rcases Nat.lt_succ_iff_lt_or_eq.1 hk with h | rfl
            · exact hno.out k h
            · rw [Bool.eq_false_iff]
              intro hr
              obtain ⟨r1, r2, _⟩ := readyN_iff.1 hr
              rw [HNow.out] at r1
              have r3 : cb = false := by rw [HCb.out]; simpa using r2
              rw [r3] at hs; cases Lf <;> simp at hs r1
          have HSkip := Lib.hid hskip
          clear hskip
          cases cb
          · cases Lf
            · have hrd := ready_eq D out b (by rw [HNow.out]; rfl) HCb.out.symm
              rw [HBk.out] at hrd
              have HRd := Lib.hid hrd
              clear hrd
              go_wp2_with fail
              go_loop [44, 6] (fun qv rv => ∃ (q : Nat), q ≤ Li.length ∧ qv = .int .i64 q ∧ rv = .bool (rdyTo D out b q)) (fun qv _ => Li.length - (intOf qv).toNat)
              case atStart => exact ⟨0, by omega, rfl, rfl⟩
              case round =>
                obtain ⟨q, hq, rfl, rfl⟩ := hrel
                obtain ⟨r, hr⟩ : ∃ r, r = rdyTo D out b q := ⟨_, rfl⟩
                rw [← hr]
                have HR := Lib.hid hr
                clear hr
                by_cases hlq : q < Li.length
                · obtain ⟨b3, off3, hLa, hb3, hc3⟩ := HSq.out.at q hlq
                  have x2 := hc3 q hlq
                  unfold ints at x2
                  have hxin := HIn.out _ (getD_mem Li 0 hlq)
                  have hst := rdyTo_succ D out b q (by rw [HBk.out]; exact hlq)
                  rw [HBk.out, HDi.out] at hst
                  dsimp only at hst
                  obtain ⟨x, hx⟩ : ∃ x, x = Li.getD q 0 := ⟨_, rfl⟩
                  rw [← hx] at x2 hxin hst
                  rw [← HR.out] at hst
                  clear hx hc3
                  subst hLa
                  by_cases hxd : ins ≤ x
                  · obtain ⟨k, hk⟩ : ∃ k : Nat, x = ins + (k : Int) := ⟨(x - ins).toNat, by omega⟩
                    subst hk
                    have hkn : k < bs.length := by omega
                    have hks : ins + (k : Int) - ins = k := by omega
                    obtain ⟨q1, off1, hba1, _, _, _, f2, _⟩ := (H.out.below HN.out.box.below (Nat.le_refl _)).blk k hkn
                    have hkc := HN.out.done.cell (i := k) hkn
                    have hdep : depOf D (ins + (k : Int)) = !(bs.getD k default).ff := by
                      unfold depOf PackD.now
                      rw [HDi.out, hks, Int.toNat_natCast, HDk.out, decide_eq_true (by omega)]; simp
                    dsimp only at hba1 f2
                    rw [hdep, hks, Int.toNat_natCast] at hst
                    injection hba1 with hba1
                    injection hba1 with hba1 hba2
                    subst hba1 hba2
                    obtain ⟨kf, hkf⟩ : ∃ f, f = (bs.getD k default).ff := ⟨_, rfl⟩
                    obtain ⟨kc, hkc2⟩ : ∃ c, c = out.contains k := ⟨_, rfl⟩
                    rw [← hkf] at f2 hst
                    rw [← hkc2] at hkc hst
                    have HSt2 := Lib.hid hst
                    have hk0 : decide ((0 : Int) ≤ (k : Int)) = true := by simp
                    clear hst hkf hkc2 hdep
                    cases kf <;> cases kc
                    all_goals
                      go_wp2_with fail
                      go_round
                      case rel => exact ⟨q + 1, by omega, by go_num, by rw [HSt2.out]; simp⟩
                      case measure => simp [intOf]; omega
                  · have hdep : depOf D x = false := by unfold depOf; rw [HDi.out, decide_eq_false hxd]; rfl
                    rw [hdep] at hst
                    have HSt2 := Lib.hid hst
                    obtain ⟨d, hd⟩ : ∃ d, x - ins = d := ⟨_, rfl⟩
                    have hd0 : decide (0 ≤ d) = false := by simp; omega
                    clear hst hdep
                    go_wp2_with fail
                    go_round
                    case rel => exact ⟨q + 1, by omega, by go_num, by rw [HSt2.out]; simp⟩
                    case measure => simp [intOf]; omega
                · obtain rfl : q = Li.length := by omega
                  have hrr : readyN D out b = r := by rw [HRd.out]; exact HR.out.symm
                  have HRR := Lib.hid hrr
                  clear hrr
                  cases r
                  · go_wp2_with fail
                    go_round
                    case rel => exact ⟨b + 1, by omega, by go_num, rfl, Lib.hid (fun k hk => by
                      rcases Nat.lt_succ_iff_lt_or_eq.1 hk with h | rfl
                      · exact hno.out k h
                      · exact HRR.out)⟩
                    case measure => simp [intOf]; omega
                  · have hpk := pick_of (by rw [HDn.out]; exact hlb) HRR.out hno.out
                    have HPk := Lib.hid hpk
                    have hol : out.length ≤ 500 := by
                      have h1 := greedy_le D j
                      rw [← HOut.out] at h1; omega
                    have hown := HN.out.own
                    have hlt0 := HN.out.lt
                    have hsz0 := HN.out.done.lt
                    have HOw := Lib.hid ((hown.kept (grownBy_set wo db b (.bool true)) (.inr (fun e => by have := (hown.lt db e).1; omega))))
                    clear hpk hown
                    go_wp2_with (at_builtin; go_loud (refine wpList_append_lies _ rfl _ _ _ rfl (db + 1) 3 i4 (.int .i64 0) 1 8 Try.underlying24 hi hz0 hz1 hz2 rfl (by decide) v out.length (nums out) rfl (HOw.out.alloc _) ⟨wo.heap.size, 0, none⟩ 1 1 [.int .i64 b] rfl rfl (one_new (by rw [← set_size wo db b (.bool true)]; exact cell_newW _ _ _)) (by simp [Value.oneCell']) (by omega) (by unfold maxLen; omega) (by omega) (by simp; omega) (wo.heap.size + 1) (by simp) ?_))
                    intro gB cB w9 hoB9 hg9 hat9 hlt9
                    have hg9' : (wo.setCell ⟨db, b, none⟩ (.bool true)).grownBy w9 v.ownBlock := ggrown (World.grownBy_alloc _ _ _) hg9
                    have HAd := Lib.hid (HN.out.add hoB9 hg9')
                    clear hoB9 hg9 hg9' hat9 hlt9
                    go_wp2_with fail
                    go_roundw
                    case rel => exact ⟨j + 1, _, by omega, by go_num, rfl, Lib.hid (by
                      rw [greedy_next (b := b) (by rw [← HOut.out]; exact HPk.out), ← HOut.out]; exact HAd.out)⟩
                    case measure => simp [intOf]; omega
            · go_wp2_with fail
              go_round
              case rel => exact ⟨b + 1, by omega, by go_num, rfl, Lib.hid (HSkip.out rfl)⟩
              case measure => simp [intOf]; omega
          · go_wp2_with fail
            go_round
            case rel => exact ⟨b + 1, by omega, by go_num, rfl, Lib.hid (HSkip.out rfl)⟩
            case measure => simp [intOf]; omega
        · obtain rfl : b = bs.length := by omega
          go_wp2_with fail
          go_roundw
          case rel => exact ⟨j + 1, v, by omega, by go_num, rfl, Lib.hid (by
            have hp : pick D (greedy D j) = none := pick_no (fun k hk => by rw [← HOut.out]; exact hno.out k (by rw [HDn.out] at hk; exact hk))
            rw [greedy_stop hp 1, ← HOut.out]; exact HN.out)⟩
          case measure => simp [intOf]; omega
    · obtain rfl : j = bs.length := by omega
      have hv := hh.out.own
      go_wp2_with fail
      go_ret
      refine ⟨_, rfl, ?_, hh.out.box.below⟩
      have hn : orderL D = greedy D bs.length := by unfold orderL; rw [HDn.out]
      rw [hn]
      exact hh.out.own.base_le (by have := hh.out.lt; omega)
end Go.Proofs.Ytibimdhmfchcoaa
