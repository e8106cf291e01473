/- O1 -/
import Derived.Test.YtholafodachjnaaBM
namespace Go.Proofs.Ytholafodachjnaa
open Go.RowKit Go.Shelf Go.Maps
set_option linter.unusedVariables false
set_option linter.unusedSimpArgs false

theorem info4 : (Try.prog.info? 4).map (fun i => (i.zero, i.size, i.bytes)) = some (some (.bool false), 1, 1) := by kernel_rfl
def nums (l : List Nat) : List Value := l.map fun k : Nat => Value.int .i64 k
theorem nums_snoc (l : List Nat) (b : Nat) : nums (l ++ [b]) = nums l ++ [Value.int .i64 b] := by simp [nums]
structure RO (w0 : World) (P : PackV) (db : Nat) (out : List Nat) (v : Value) (wr : World) : Prop where
  box : PBox w0.heap.size w0 P wr
  lt : w0.heap.size + 1 ≤ db
  done : wr.rowIs db 4 P.bs.length (fun j => .bool (out.contains j))
  own : wr.ownsRow (db + 1) 3 1 v out.length (nums out)
theorem RO.add {w0 wr w' : World} {P : PackV} {db b g c : Nat} {out : List Nat} {v : Value} (h : RO w0 P db out v wr)
    (ho : w'.ownsRow (db + 1) 3 1 (.slice (some ⟨g, 0, none⟩) (out.length + 1) c) (out.length + 1) (nums out ++ [Value.int .i64 b])) (hg : (wr.setCell ⟨db, b, none⟩ (.bool true)).grownBy w' v.ownBlock) :
    RO w0 P db (out ++ [b]) (.slice (some ⟨g, 0, none⟩) (out.length + 1) c) w' := by
  have hdb := h.done.lt
  have hlt := h.lt
  have hsz := h.box.size
  have hB1 : Below (w0.heap.size + 1) wr (wr.setCell ⟨db, b, none⟩ (.bool true)) := (Below.refl _ _).setCell (by simp only; omega) _
  have hB2 : Below (w0.heap.size + 1) (wr.setCell ⟨db, b, none⟩ (.bool true)) w' := (Below.refl _ _).grown hg (by rw [set_size]; omega) (fun k e => by have := (h.own.lt k e).1; omega)
  refine ⟨(h.box.step hB1 (Nat.le_refl _)).step hB2 (Nat.le_refl _), h.lt, ?_, by rw [List.length_append, nums_snoc]; exact ho⟩
  refine ((h.done.set b (.bool true)).of_block (hg.block db (by rw [set_size]; exact hdb) (fun e => by have := (h.own.lt db e.symm).1; omega))).congr ?_
  intro j hj
  by_cases e : j = b
  · subst e; simp
  · rw [if_neg e]; simp [e]
theorem depsTo_succ (P : PackD) (i q : Nat) (hq : q < (P.blk i).ins.length) : depsTo P i (q + 1) = depsTo P i q ++ (if depOf P ((P.blk i).ins.getD q 0) then [((P.blk i).ins.getD q 0 - P.ins).toNat] else []) := by
  unfold depsTo
  rw [take_one (P.blk i).ins 0 q hq, List.filter_append, List.map_append]
  by_cases h : depOf P ((P.blk i).ins.getD q 0) = true
  · rw [if_pos h, List.filter_cons, if_pos h]; rfl
  · rw [if_neg h, List.filter_cons, if_neg h]; rfl
def rdyTo (P : PackD) (out : List Nat) (b q : Nat) : Bool := (depsTo P b q).all (fun k => out.contains k)
theorem rdyTo_succ (P : PackD) (out : List Nat) (b q : Nat) (hq : q < (P.blk b).ins.length) : rdyTo P out b (q + 1) = (rdyTo P out b q && (!depOf P ((P.blk b).ins.getD q 0) || out.contains ((P.blk b).ins.getD q 0 - P.ins).toNat)) := by
  unfold rdyTo
  rw [depsTo_succ P b q hq, List.all_append]
  cases depOf P ((P.blk b).ins.getD q 0) <;> simp
theorem ready_eq (P : PackD) (out : List Nat) (b : Nat) (h1 : P.now b = true) (h2 : out.contains b = false) : readyN P out b = rdyTo P out b (P.blk b).ins.length := by
  unfold readyN rdyTo
  rw [h1, h2, depsTo_all]; simp

set_option maxRecDepth 100000 in
set_option maxHeartbeats 16000000 in
theorem order61 (w : World) (P : PackV) (h : PackAt w P) (hf : FewP P) (hm : mayB P.data = true) :
    Calls Try.prog 73 #[P.val] w fun e w' => ∃ v, e = .returned v ∧ w'.ownsRow w.heap.size 3 1 v (orderL P.data).length (nums (orderL P.data)) ∧ Below w.heap.size w w' := by
  have hf0 := hf.ins
  have hf1 := hf.bs
  have hmm := hm
  unfold mayB at hmm
  simp only [Bool.and_eq_true, decide_eq_true_eq] at hmm
  obtain ⟨⟨⟨hi0, hq1⟩, hq2⟩, hbs, hq3⟩ := hmm
  have hinW : ∀ b, b < P.bs.length → (∀ x ∈ (P.bs.getD b default).ins, 0 ≤ x ∧ x < P.ins + P.bs.length) ∧ (P.bs.getD b default).ins.length ≤ 4 := by
    intro b hb
    have := (blk_all P.data _).1 hbs b (by rw [data_n]; exact hb)
    rw [data_blk, data_n] at this
    unfold blkB at this
    simp only [Bool.and_eq_true, decide_eq_true_eq, List.all_eq_true] at this
    exact ⟨this.2, this.1.1.1⟩
  have HInW := Lib.hid hinW
  clear hq1 hq2 hq3
  have H := Lib.hid h
  have HF := Lib.hid hf
  have hi0' : 0 ≤ P.ins := hi0
  have hDn := data_n P
  have hDb := data_blk P
  have hDi : P.data.ins = P.ins := rfl
  obtain ⟨D, hD⟩ : ∃ D, D = P.data := ⟨_, rfl⟩
  rw [← hD] at hDn hDb hDi ⊢
  clear h hf hbs hinW hm hi0
  obtain ⟨W1, hW1⟩ : ∃ W1, W1 = w.alloc P.obj := ⟨_, rfl⟩
  have hX := PBox.start w P
  rw [← hW1] at hX
  have HX := Lib.hid hX
  have hs1 : W1.heap.size = w.heap.size + 1 := by rw [hW1]; simp
  have c1 := hX.c1
  have hmk := run_make_row' (P := Try.prog) 111 4 (.bool false) 1 Try.underlying111 info4 rfl .i64 .i64 P.bs.length (by omega) (by omega)
  obtain ⟨W2, hW2⟩ : ∃ W2, W2 = W1.alloc (Obj.cells (madeCells #[Value.bool false] P.bs.length) 4) := ⟨_, rfl⟩
  have hst : RO w P W1.heap.size [] (.slice none 0 0) W2 := by
    refine ⟨by rw [hW2]; exact hX.step ((Below.refl _ _).alloc (Nat.le_refl _) _) (by omega), by omega, ?_, World.ownsRow_nil _ _ _ _⟩
    rw [hW2]; exact World.rowIs_made W1 _ _ _
  rw [hs1] at hst
  obtain ⟨db, hdb⟩ : ∃ d, d = w.heap.size + 1 := ⟨_, rfl⟩
  rw [← hdb] at hst
  have HSt := Lib.hid hst
  have c1' := hst.box.c1
  have HW1 := Lib.hid hW1
  have HW2 := Lib.hid hW2
  have HDb := Lib.hid hdb
  obtain ⟨ins, ba, bc, bs, oa, oc, os⟩ := P
  obtain ⟨i4, hi, hz0, hz1, hz2⟩ := info_parts info3
  dsimp only at hf0 hf1 hi0' hDn hDb hDi c1 c1' hmk HSt ⊢
  have HDn := Lib.hid hDn
  have HDk := Lib.hid hDb
  have HDi := Lib.hid hDi
  clear hDn hDb hDi hD
  clear hst hX hW1 hW2 hs1 hdb
  go_enter Try.func73, Try.ntmps73
  go_wp2_with fail
  rw [← HW1.out]
  go_wp2_with fail
  rw [← HW2.out]
  rw [← HDb.out]
  obtain ⟨W2, rfl⟩ : ∃ W, W = W2 := ⟨_, rfl⟩
  go_loopw [3, 17] (fun ov iv wr => ∃ (j : Nat) (v : Value), j ≤ bs.length ∧ iv = .int .i64 j ∧ v = ov ∧ Hid (RO w ⟨ins, ba, bc, bs, oa, oc, os⟩ db (greedy D j) v wr)) (fun _ iv _ => bs.length - (intOf iv).toNat)
  case atStart => exact ⟨0, _, by omega, rfl, rfl, HSt⟩
  case round =>
    obtain ⟨j, v, hj, rfl, rfl, hh⟩ := hrel
    by_cases hlt : j < bs.length
    · have x0 := hh.out.box.c0
      have x1 := hh.out.box.c1
      dsimp only at x0 x1
      obtain ⟨out, hout⟩ : ∃ o, o = greedy D j := ⟨_, rfl⟩
      have HOut := Lib.hid hout
      have HN : Hid (RO w ⟨ins, ba, bc, bs, oa, oc, os⟩ db out v wr) := Lib.hid (by rw [hout]; exact hh.out)
      clear hout hh
      go_wp2_with fail
      obtain ⟨wo, rfl⟩ : ∃ wo : World, wo = wr := ⟨_, rfl⟩
      go_loop [3, 22] (fun ov bv => ∃ b : Nat, b ≤ bs.length ∧ bv = .int .i64 b ∧ v = ov ∧ Hid (∀ k, k < b → readyN D out k = false)) (fun _ bv => bs.length - (intOf bv).toNat)
      case atStart => exact ⟨0, by omega, rfl, rfl, Lib.hid (fun k hk => by omega)⟩
      case round =>
        obtain ⟨b, hb, rfl, rfl, hno⟩ := hrel
        by_cases hlb : b < bs.length
        · obtain ⟨q0, off, hba, hbb, d0, d1, d2, d3⟩ := (H.out.below HN.out.box.below (Nat.le_refl _)).blk b hlb
          have hEach := ((H.out.below HN.out.box.below (Nat.le_refl _)).each _ (getD_mem bs default hlb))
          have hIn := HInW.out b hlb
          have hblk := HDk.out b
          have hdc := HN.out.done.cell (i := b) hlb
          have hdf := HN.out.done.frozen b
          dsimp only at d0 d1 d2 d3 hEach hba hblk hIn
          obtain ⟨L, hLe⟩ : ∃ L, L = bs.getD b default := ⟨_, rfl⟩
          rw [← hLe] at d0 d1 d2 d3 hEach hblk hIn
          obtain ⟨La, Lc, Li, Lt, Lf, Ln⟩ := L
          dsimp only at d0 d1 d2 d3 hEach hblk hIn
          have HSq := Lib.hid hEach.1
          have HIn := Lib.hid hIn.1
          have hl4 := hIn.2
          have hnow : D.now b = !Lf := by unfold PackD.now; rw [hblk]
          have HBk := Lib.hid hblk
          have HNow := Lib.hid hnow
          obtain ⟨cb, hcb⟩ : ∃ c, c = out.contains b := ⟨_, rfl⟩
          rw [← hcb] at hdc
          have HCb := Lib.hid hcb
          clear hEach hIn hblk hLe hnow hcb
          subst hba
          have hskip : (cb || Lf) = true → ∀ k, k < b + 1 → readyN D out k = false := fun hs k hk => by
            rcases Nat.lt_succ_iff_lt_or_eq.1 hk with h | rfl
            · exact hno.out k h
            · rw [Bool.eq_false_iff]
              intro hr
              obtain ⟨r1, r2, _⟩ := readyN_iff.1 hr
              rw [HNow.out] at r1
              have r3 : cb = false := by rw [HCb.out]; simpa using r2
              rw [r3] at hs; cases Lf <;> simp at hs r1
          have HSkip := Lib.hid hskip
          clear hskip
          cases cb
          · cases Lf
            · have hrd := ready_eq D out b (by rw [HNow.out]; rfl) HCb.out.symm
              rw [HBk.out] at hrd
              have HRd := Lib.hid hrd
              clear hrd
              go_wp2_with fail
              go_loop [44, 6] (fun qv rv => ∃ (q : Nat), q ≤ Li.length ∧ qv = .int .i64 q ∧ rv = .bool (rdyTo D out b q)) (fun qv _ => Li.length - (intOf qv).toNat)
              case atStart => exact ⟨0, by omega, rfl, rfl⟩
              case round =>
                obtain ⟨q, hq, rfl, rfl⟩ := hrel
                obtain ⟨r, hr⟩ : ∃ r, r = rdyTo D out b q := ⟨_, rfl⟩
                rw [← hr]
                have HR := Lib.hid hr
                clear hr
                by_cases hlq : q < Li.length
                · obtain ⟨b3, off3, hLa, hb3, hc3⟩ := HSq.out.at q hlq
                  have x2 := hc3 q hlq
                  unfold ints at x2
                  have hxin := HIn.out _ (getD_mem Li 0 hlq)
                  have hst := rdyTo_succ D out b q (by rw [HBk.out]; exact hlq)
                  rw [HBk.out, HDi.out] at hst
                  dsimp only at hst
                  obtain ⟨x, hx⟩ : ∃ x, x = Li.getD q 0 := ⟨_, rfl⟩
                  rw [← hx] at x2 hxin hst
                  rw [← HR.out] at hst
                  clear hx hc3
                  subst hLa
                  by_cases hxd : ins ≤ x
                  · obtain ⟨k, hk⟩ : ∃ k : Nat, x = ins + (k : Int) := ⟨(x - ins).toNat, by omega⟩
                    subst hk
                    have hkn : k < bs.length := by omega
                    have hks : ins + (k : Int) - ins = k := by omega
                    obtain ⟨q1, off1, hba1, _, _, _, f2, _⟩ := (H.out.below HN.out.box.below (Nat.le_refl _)).blk k hkn
                    have hkc := HN.out.done.cell (i := k) hkn
                    have hdep : depOf D (ins + (k : Int)) = !(bs.getD k default).ff := by
                      unfold depOf PackD.now
                      rw [HDi.out, hks, Int.toNat_natCast, HDk.out, decide_eq_true (by omega)]; simp
                    dsimp only at hba1 f2
                    rw [hdep, hks, Int.toNat_natCast] at hst
                    injection hba1 with hba1
                    injection hba1 with hba1 hba2
                    subst hba1 hba2
                    obtain ⟨kf, hkf⟩ : ∃ f, f = (bs.getD k default).ff := ⟨_, rfl⟩
                    obtain ⟨kc, hkc2⟩ : ∃ c, c = out.contains k := ⟨_, rfl⟩
                    rw [← hkf] at f2 hst
                    rw [← hkc2] at hkc hst
                    have HSt2 := Lib.hid hst
                    have hk0 : decide ((0 : Int) ≤ (k : Int)) = true := by simp
                    clear hst hkf hkc2 hdep
                    cases kf <;> cases kc
                    all_goals
                      go_wp2_with fail
                      go_round
                      case rel => exact ⟨q + 1, by omega, by go_num, by rw [HSt2.out]; simp⟩
                      case measure => simp [intOf]; omega
                  · have hdep : depOf D x = false := by unfold depOf; rw [HDi.out, decide_eq_false hxd]; rfl
                    rw [hdep] at hst
                    have HSt2 := Lib.hid hst
                    obtain ⟨d, hd⟩ : ∃ d, x - ins = d := ⟨_, rfl⟩
                    have hd0 : decide (0 ≤ d) = false := by simp; omega
                    clear hst hdep
                    go_wp2_with fail
                    go_round
                    case rel => exact ⟨q + 1, by omega, by go_num, by rw [HSt2.out]; simp⟩
                    case measure => simp [intOf]; omega
                · obtain rfl : q = Li.length := by omega
                  have hrr : readyN D out b = r := by rw [HRd.out]; exact HR.out.symm
                  have HRR := Lib.hid hrr
                  clear hrr
                  cases r
                  · go_wp2_with fail
                    go_round
                    case rel => exact ⟨b + 1, by omega, by go_num, rfl, Lib.hid (fun k hk => by
                      rcases Nat.lt_succ_iff_lt_or_eq.1 hk with h | rfl
                      · exact hno.out k h
                      · exact HRR.out)⟩
                    case measure => simp [intOf]; omega
                  · have hpk := pick_of (by rw [HDn.out]; exact hlb) HRR.out hno.out
                    have HPk := Lib.hid hpk
                    have hol : out.length ≤ 500 := by
                      have h1 := greedy_le D j
                      rw [← HOut.out] at h1; omega
                    have hown := HN.out.own
                    have hlt0 := HN.out.lt
                    have hsz0 := HN.out.done.lt
                    have HOw := Lib.hid ((hown.kept (grownBy_set wo db b (.bool true)) (.inr (fun e => by have := (hown.lt db e).1; omega))))
                    clear hpk hown
                    go_wp2_with (at_builtin; go_loud (refine wpList_append_lies _ rfl _ _ _ rfl (db + 1) 3 i4 (.int .i64 0) 1 8 Try.underlying25 hi hz0 hz1 hz2 rfl (by decide) v out.length (nums out) rfl (HOw.out.alloc _) ⟨wo.heap.size, 0, none⟩ 1 1 [.int .i64 b] rfl rfl (one_new (by rw [← set_size wo db b (.bool true)]; exact cell_newW _ _ _)) (by simp [Value.oneCell']) (by omega) (by unfold maxLen; omega) (by omega) (by simp; omega) (wo.heap.size + 1) (by simp) ?_))
                    intro gB cB w9 hoB9 hg9 hat9 hlt9
                    have hg9' : (wo.setCell ⟨db, b, none⟩ (.bool true)).grownBy w9 v.ownBlock := ggrown (World.grownBy_alloc _ _ _) hg9
                    have HAd := Lib.hid (HN.out.add hoB9 hg9')
                    clear hoB9 hg9 hg9' hat9 hlt9
                    go_wp2_with fail
                    go_roundw
                    case rel => exact ⟨j + 1, _, by omega, by go_num, rfl, Lib.hid (by
                      rw [greedy_next (b := b) (by rw [← HOut.out]; exact HPk.out), ← HOut.out]; exact HAd.out)⟩
                    case measure => simp [intOf]; omega
            · go_wp2_with fail
              go_round
              case rel => exact ⟨b + 1, by omega, by go_num, rfl, Lib.hid (HSkip.out rfl)⟩
              case measure => simp [intOf]; omega
          · go_wp2_with fail
            go_round
            case rel => exact ⟨b + 1, by omega, by go_num, rfl, Lib.hid (HSkip.out rfl)⟩
            case measure => simp [intOf]; omega
        · obtain rfl : b = bs.length := by omega
          go_wp2_with fail
          go_roundw
          case rel => exact ⟨j + 1, v, by omega, by go_num, rfl, Lib.hid (by
            have hp : pick D (greedy D j) = none := pick_no (fun k hk => by rw [← HOut.out]; exact hno.out k (by rw [HDn.out] at hk; exact hk))
            rw [greedy_stop hp 1, ← HOut.out]; exact HN.out)⟩
          case measure => simp [intOf]; omega
    · obtain rfl : j = bs.length := by omega
      have hv := hh.out.own
      go_wp2_with fail
      go_ret
      refine ⟨_, rfl, ?_, hh.out.box.below⟩
      have hn : orderL D = greedy D bs.length := by unfold orderL; rw [HDn.out]
      rw [hn]
      exact hh.out.own.base_le (by have := hh.out.lt; omega)
end Go.Proofs.Ytholafodachjnaa

/- O2 -/
namespace Go.Proofs.Ytholafodachjnaa
open Go.RowKit Go.Shelf Go.Maps
set_option linter.unusedVariables false
set_option linter.unusedSimpArgs false

/-- An order newly told. -/
def NewOrder (w : World) (D : PackD) (e : Ending) (w' : World) : Prop :=
  ∃ (a : Option Addr) (c : Nat), e = .returned (.tuple #[.slice a (orderT D).length c, .int .i64 (orderE D)]) ∧ w'.ownsRow w.heap.size 3 1 (.slice a (orderT D).length c) (orderT D).length ((orderT D).map (Value.int .i64)) ∧ Below w.heap.size w w'
theorem noOrder {w w' : World} {D : PackD} (h : orderE D ≠ 0) (hb : Below w.heap.size w w') : NewOrder w D (.returned (.tuple #[.slice none 0 0, .int .i64 (orderE D)])) w' := by
  have : orderT D = [] := by unfold orderT; rw [if_neg h]
  exact ⟨none, 0, by rw [this]; rfl, by rw [this]; exact World.ownsRow_nil _ _ _ _, hb⟩
theorem someOrder {w w' : World} {D : PackD} {v : Value} (h : orderE D = 0) (ho : w'.ownsRow w.heap.size 3 1 v (orderL D).length (nums (orderL D))) (hb : Below w.heap.size w w') : NewOrder w D (.returned (.tuple #[v, .int .i64 0])) w' := by
  have e : orderT D = (orderL D).map Int.ofNat := by unfold orderT; rw [if_pos h]
  have e2 : nums (orderL D) = (orderT D).map (Value.int .i64) := by rw [e]; unfold nums; rw [List.map_map]; rfl
  have el : (orderL D).length = (orderT D).length := by rw [e]; simp
  rw [e2, el] at ho
  obtain ⟨a, c, rfl⟩ := owns_val ho
  exact ⟨a, c, by rw [h], ho, hb⟩
theorem nowTo_bs (P : PackV) (i : Nat) : nowTo P.data (i + 1) = nowTo P.data i + if (P.bs.getD i default).ff then 0 else 1 := by
  rw [nowTo_succ]
  unfold PackD.now
  rw [data_blk]
  have e : (P.bs.getD i default).data.ff = (P.bs.getD i default).ff := rfl
  rw [e]
  cases (P.bs.getD i default).ff <;> rfl

set_option maxRecDepth 100000 in
set_option maxHeartbeats 8000000 in
theorem order31 (w : World) (P : PackV) (h : PackAt w P) (hf : FewP P) :
    Calls Try.prog 66 #[P.val] w (NewOrder w P.data) := by
  obtain ⟨W1, hW1⟩ : ∃ W1, W1 = w.alloc P.obj := ⟨_, rfl⟩
  have hX := PBox.start w P
  rw [← hW1] at hX
  have h1 : PackAt W1 P := h.below hX.below (Nat.le_refl _)
  have HM := Lib.hid (may60 W1 P h1 hf)
  have x0 := hX.c0
  have x1 := hX.c1
  have x2 := hX.c2
  have HO := Lib.hid (fun (w2 : World) (hb : Below W1.heap.size W1 w2) (hm : mayB P.data = true) => order61 w2 P (h1.below hb (Nat.le_refl _)) hf hm)
  have HX := Lib.hid hX
  have HP := Lib.hid h
  have HF := Lib.hid hf
  have hnow := nowTo_bs P
  have hDn := data_n P
  have hord : ∀ D, orderE D = if mayB D then (if (orderL D).length < nowTo D D.n then 321 else 0) else 1 := fun D => rfl
  have hordD := hord P.data
  have hlen := orderL_len P.data
  have h0 : nowTo P.data 0 = 0 := rfl
  have hfb := hf.bs
  rw [hDn] at hordD hlen
  obtain ⟨D, hD⟩ : ∃ D, D = P.data := ⟨_, rfl⟩
  rw [← hD] at HM HO hnow hDn hordD hlen h0 ⊢
  obtain ⟨ins, ba, bc, bs, oa, oc, os⟩ := P
  dsimp only at x0 x1 x2 hnow hDn hordD hlen hfb
  have HW1 := Lib.hid hW1
  have HNow := Lib.hid hnow
  have HE := Lib.hid hordD
  have HLen := Lib.hid hlen
  have H0 := Lib.hid h0
  obtain ⟨mb, hmb⟩ : ∃ b, b = mayB D := ⟨_, rfl⟩
  rw [← hmb] at HM HE HO
  have HMb := Lib.hid hmb
  clear h h1 hf hX hnow hDn hord hordD hlen h0 hD hW1 hmb
  go_enter Try.func66, Try.ntmps66
  go_wp2_with fail
  rw [← HW1.out]
  go_wp2_with fail
  refine Calls.mono HM.out ?_
  rintro e w2 ⟨rfl, hb2⟩
  cases mb
  · go_wp2_with fail
    have he : orderE D = 1 := by rw [HE.out]; rfl
    have := noOrder (w := w) (w' := w2) (D := D) (by rw [he]; decide) (HX.out.below.trans (hb2.mono (by have := HX.out.size; omega)))
    rw [he] at this
    go_ret2
    exact this
  · have HX2 := Lib.hid (HX.out.step hb2 (by have := HX.out.size; omega))
    have HO2 := Lib.hid (HO.out w2 hb2 rfl)
    have y0 := HX2.out.c0
    have y1 := HX2.out.c1
    have y2 := HX2.out.c2
    dsimp only at y0 y1 y2
    clear hb2
    go_wp2_with fail
    refine Calls.mono HO2.out ?_
    rintro e w3 ⟨v, rfl, ho3, hb3⟩
    obtain ⟨a, c, rfl⟩ := owns_val ho3
    have HX3 := Lib.hid (HX2.out.step hb3 HX2.out.size)
    have z1 := HX3.out.c1
    dsimp only at z1
    have HOw := Lib.hid (ho3.base_le (base' := w.heap.size) (by have := HX2.out.size; omega))
    obtain ⟨len, hlen⟩ : ∃ l, l = (orderL D).length := ⟨_, rfl⟩
    rw [← hlen] at HOw HE HLen ⊢
    have HLn := Lib.hid hlen
    have HW3 := Lib.hid hb3
    clear ho3 hlen hb3
    go_wp2_with fail
    go_loopw [5, 16] (fun nv iv wr => ∃ i : Nat, i ≤ bs.length ∧ iv = .int .i64 i ∧ nv = .int .i64 (nowTo D i) ∧ Hid (Below w3.heap.size w3 wr)) (fun _ iv _ => bs.length - (intOf iv).toNat)
    case atStart => exact ⟨0, by omega, rfl, by rw [H0.out]; rfl, Lib.hid (Below.refl _ _)⟩
    case round =>
      obtain ⟨i, hi, rfl, rfl, hh⟩ := hrel
      have hnl := nowTo_le D i
      by_cases hlt : i < bs.length
      · have hx := HX3.out.step hh.out HX3.out.size
        obtain ⟨b, off, hba, hbb, d0, d1, d2, d3⟩ := (HP.out.below hx.below (Nat.le_refl _)).blk i hlt
        have hns := HNow.out i
        dsimp only at hba d0 d1 d2 d3
        obtain ⟨L, hLe⟩ : ∃ L, L = bs.getD i default := ⟨_, rfl⟩
        rw [← hLe] at d0 d1 d2 d3 hns
        obtain ⟨La, Lc, Li, Lt, Lf, Ln⟩ := L
        dsimp only at d0 d1 d2 d3 hns
        obtain ⟨nn, hnn⟩ : ∃ n, n = nowTo D i := ⟨_, rfl⟩
        rw [← hnn] at hns hnl ⊢
        have HNs := Lib.hid hns
        have HSz := Lib.hid hx.size
        clear hLe hns hnn hx
        subst hba
        cases Lf
        all_goals
          go_wp2_with fail
          go_roundw
          case rel => exact ⟨i + 1, by omega, by go_num, by rw [HNs.out]; first | rfl | go_num, Lib.hid (hh.out.alloc hh.out.size _)⟩
          case measure => simp [intOf]; omega
      · obtain rfl : i = bs.length := by omega
        have HOw4 := Lib.hid (own_below HOw.out (hh.out))
        have HB4 := Lib.hid (HX3.out.below.trans (hh.out.mono (by have := HX3.out.size; omega)))
        obtain ⟨nn, hnn⟩ : ∃ n, n = nowTo D bs.length := ⟨_, rfl⟩
        rw [← hnn] at hnl HE HLen ⊢
        clear hnn
        have hle := HLen.out
        by_cases hne : len = nn
        · have hb : ((len : Int) != (nn : Int)) = false := by simp [hne]
          have he : orderE D = 0 := by rw [HE.out]; simp; omega
          have hres := someOrder (w := w) he (by rw [← HLn.out]; exact HOw4.out) HB4.out
          have HRes := Lib.hid hres
          clear hres he hle
          have HNe := Lib.hid hne
          clear hne
          go_wp2_with fail
          go_ret2
          exact HRes.out
        · have hb : ((len : Int) != (nn : Int)) = true := by simp; omega
          have he : orderE D = 321 := by rw [HE.out]; simp; omega
          have hres := noOrder (w := w) (w' := wr) (D := D) (by rw [he]; decide) HB4.out
          rw [he] at hres
          have HRes := Lib.hid hres
          clear hres he hle hne
          go_wp2_with fail
          go_ret2
          exact HRes.out

set_option maxRecDepth 100000 in
set_option maxHeartbeats 4000000 in
theorem check34 (w : World) (P : PackV) (h : PackAt w P) (hf : FewP P) :
    Calls Try.prog 56 #[P.val] w fun e w' => e = .returned (.int .i64 (orderE P.data)) ∧ Below w.heap.size w w' := by
  obtain ⟨W1, hW1⟩ : ∃ W1, W1 = w.alloc P.obj := ⟨_, rfl⟩
  have hX := PBox.start w P
  rw [← hW1] at hX
  have HO := Lib.hid (order31 W1 P (h.below hX.below (Nat.le_refl _)) hf)
  have x0 := hX.c0
  have x1 := hX.c1
  have x2 := hX.c2
  have HX := Lib.hid hX
  obtain ⟨D, hD⟩ : ∃ D, D = P.data := ⟨_, rfl⟩
  rw [← hD] at HO ⊢
  obtain ⟨ins, ba, bc, bs, oa, oc, os⟩ := P
  dsimp only at x0 x1 x2
  have HW1 := Lib.hid hW1
  clear h hX hW1 hD
  go_enter Try.func56, Try.ntmps56
  go_wp2_with fail
  rw [← HW1.out]
  go_wp2_with fail
  refine Calls.mono HO.out ?_
  rintro e w2 ⟨a, c, rfl, _, hb2⟩
  go_wp2_with fail
  go_ret
  exact ⟨rfl, HX.out.below.trans (hb2.mono (by have := HX.out.size; omega))⟩
end Go.Proofs.Ytholafodachjnaa

/- O3 -/
/- The plain law of pack.Order's two loops: what waits, what is ready. -/
namespace Go.Proofs.Ytholafodachjnaa
open Go.RowKit
set_option linter.unusedVariables false
set_option linter.unusedSimpArgs false

def depN (P : PackD) (j : Nat) : List Nat := if P.now j then deps P j else []
def rem (P : PackD) (out : List Nat) (j : Nat) : Nat := (deps P j).countP (fun k => !out.contains k)
def upd {α : Type} (f : Nat → α) (k : Nat) (v : α) : Nat → α := fun j => if j = k then v else f j
theorem upd_same {α : Type} (f : Nat → α) (k : Nat) (v : α) : upd f k v k = v := by simp [upd]
theorem upd_other {α : Type} (f : Nat → α) (k : Nat) (v : α) {j : Nat} (h : j ≠ k) : upd f k v j = f j := by simp [upd, h]
theorem nodup_snoc {l : List Nat} {x : Nat} (h : l.Nodup) (hx : x ∉ l) : (l ++ [x]).Nodup := by
  rw [List.nodup_append]
  refine ⟨h, by simp, ?_⟩
  intro a ha b hb e
  simp at hb
  subst hb
  exact hx (e ▸ ha)

theorem rem_snoc (P : PackD) (out : List Nat) (b j : Nat) (hb : b ∉ out) : rem P (out ++ [b]) j + (deps P j).count b = rem P out j := by
  unfold rem
  induction deps P j with
  | nil => rfl
  | cons k l ih =>
    simp only [List.countP_cons, List.count_cons]
    by_cases hk : k = b
    · subst hk
      have h1 : (out ++ [k]).contains k = true := by simp
      have h2 : out.contains k = false := by simpa using hb
      simp only [h1, h2, Bool.not_true, Bool.not_false, if_true, beq_self_eq_true, Bool.false_eq_true, if_false]
      omega
    · have h1 : (out ++ [b]).contains k = out.contains k := by
        rw [Bool.eq_iff_iff]; simp [hk]
      simp only [h1]
      have h3 : (k == b) = false := by simpa using hk
      simp only [h3, Bool.false_eq_true, if_false]
      omega
theorem rem_zero {P : PackD} {out : List Nat} {b : Nat} : rem P out b = 0 ↔ ∀ k ∈ deps P b, k ∈ out := by
  unfold rem
  rw [List.countP_eq_zero]
  simp
theorem ready_rem {P : PackD} {out : List Nat} {b : Nat} : readyN P out b = true ↔ P.now b = true ∧ b ∉ out ∧ rem P out b = 0 := by
  rw [readyN_iff, rem_zero]
theorem rem_nil (P : PackD) (j : Nat) : rem P [] j = (deps P j).length := by
  unfold rem; simp [List.countP_eq_length_filter]
theorem rem_le (P : PackD) (out : List Nat) (j : Nat) : rem P out j ≤ (deps P j).length := by unfold rem; exact List.countP_le_length

/-- In what is told, each one's are told. -/
def Closed (P : PackD) (out : List Nat) : Prop := ∀ x ∈ out, ∀ k ∈ deps P x, k ∈ out
theorem greedy_closed (P : PackD) (j : Nat) : Closed P (greedy P j) := by
  induction j with
  | zero => intro x hx; cases hx
  | succ j ih =>
    unfold greedy
    cases h : pick P (greedy P j) with
    | none => exact ih
    | some b =>
      intro x hx k hk
      rcases List.mem_append.1 hx with hx | hx
      · exact List.mem_append_left _ (ih x hx k hk)
      · simp at hx; subst hx
        exact List.mem_append_left _ ((readyN_iff.1 (pick_spec h).2.1).2.2 k hk)

/-! The first loop. -/
def wtA (P : PackD) (i j : Nat) : Nat := if j < i then (depN P j).length else 0
def cnA (P : PackD) (i j k : Nat) : Nat := if j < i then (depN P j).count k else 0
def rdA (P : PackD) (i : Nat) : List Nat := (List.range i).filter (readyN P [])
structure KA (P : PackD) (i : Nat) (wt : Nat → Nat) (bh : Nat → List Nat) (l : List Int) : Prop where
  hw : ∀ j, wt j = wtA P i j
  hb : ∀ j k, (bh k).count j = cnA P i j k
  len : ∀ k, (bh k).length ≤ 4 * i
  rd : l.Perm ((rdA P i).map Int.ofNat)
structure KB (P : PackD) (i q : Nat) (wt : Nat → Nat) (bh : Nat → List Nat) (l : List Int) : Prop where
  hw : ∀ j, wt j = if j = i then (depsTo P i q).length else wtA P i j
  hb : ∀ j k, (bh k).count j = if j = i then (depsTo P i q).count k else cnA P i j k
  len : ∀ k, (bh k).length ≤ 4 * i + q
  rd : l.Perm ((rdA P i).map Int.ofNat)
theorem rdA_succ (P : PackD) (i : Nat) : rdA P (i + 1) = rdA P i ++ (if readyN P [] i then [i] else []) := by
  unfold rdA
  rw [List.range_succ, List.filter_append]
  by_cases h : readyN P [] i = true
  · rw [if_pos h, List.filter_cons, if_pos h]; rfl
  · rw [if_neg h, List.filter_cons, if_neg h]; rfl
theorem rdA_len (P : PackD) (i : Nat) : (rdA P i).length ≤ i := by
  unfold rdA
  exact Nat.le_trans (List.length_filter_le _ _) (by simp)
theorem KA.zero (P : PackD) : KA P 0 (fun _ => 0) (fun _ => []) [] :=
  ⟨fun j => by simp [wtA], fun j k => by simp [cnA], fun k => by simp, by simp [rdA]⟩
theorem KA.llen {P : PackD} {i : Nat} {wt : Nat → Nat} {bh : Nat → List Nat} {l : List Int} (h : KA P i wt bh l) : l.length ≤ i := by
  rw [h.rd.length_eq, List.length_map]; exact rdA_len P i
theorem KB.llen {P : PackD} {i q : Nat} {wt : Nat → Nat} {bh : Nat → List Nat} {l : List Int} (h : KB P i q wt bh l) : l.length ≤ i := by
  rw [h.rd.length_eq, List.length_map]; exact rdA_len P i
theorem ready_nil (P : PackD) (i : Nat) : readyN P [] i = (P.now i && (deps P i).isEmpty) := by
  unfold readyN
  cases P.now i <;> cases h : deps P i <;> simp
/-- A block with a flop is passed over. -/
theorem KA.skip {P : PackD} {i : Nat} {wt : Nat → Nat} {bh : Nat → List Nat} {l : List Int} (h : KA P i wt bh l) (hn : P.now i = false) : KA P (i + 1) wt bh l := by
  have hd : depN P i = [] := by unfold depN; rw [hn]; rfl
  refine ⟨fun j => ?_, fun j k => ?_, fun k => by have := h.len k; omega, ?_⟩
  · rw [h.hw]; unfold wtA
    by_cases e : j = i
    · subst e; simp [hd]
    · by_cases e2 : j < i
      · rw [if_pos e2, if_pos (by omega)]
      · rw [if_neg e2, if_neg (by omega)]
  · rw [h.hb]; unfold cnA
    by_cases e : j = i
    · subst e; simp [hd]
    · by_cases e2 : j < i
      · rw [if_pos e2, if_pos (by omega)]
      · rw [if_neg e2, if_neg (by omega)]
  · rw [rdA_succ, ready_nil, hn]; simpa using h.rd
theorem KA.start {P : PackD} {i : Nat} {wt : Nat → Nat} {bh : Nat → List Nat} {l : List Int} (h : KA P i wt bh l) : KB P i 0 wt bh l := by
  have hd : depsTo P i 0 = [] := by unfold depsTo; simp
  refine ⟨fun j => ?_, fun j k => ?_, fun k => by have := h.len k; omega, h.rd⟩
  · rw [h.hw]
    by_cases e : j = i
    · subst e; simp [hd, wtA]
    · rw [if_neg e]
  · rw [h.hb]
    by_cases e : j = i
    · subst e; simp [hd, cnA]
    · rw [if_neg e]
theorem KB.skip {P : PackD} {i q : Nat} {wt : Nat → Nat} {bh : Nat → List Nat} {l : List Int} (h : KB P i q wt bh l) (hq : q < (P.blk i).ins.length) (hd : depOf P ((P.blk i).ins.getD q 0) = false) : KB P i (q + 1) wt bh l := by
  have e : depsTo P i (q + 1) = depsTo P i q := by rw [depsTo_succ P i q hq, hd]; simp
  refine ⟨fun j => by rw [h.hw, e], fun j k => by rw [h.hb, e], fun k => by have := h.len k; omega, h.rd⟩
theorem KB.add {P : PackD} {i q x : Nat} {wt : Nat → Nat} {bh : Nat → List Nat} {l : List Int} (h : KB P i q wt bh l) (hq : q < (P.blk i).ins.length) (hd : depOf P ((P.blk i).ins.getD q 0) = true) (hx : ((P.blk i).ins.getD q 0 - P.ins).toNat = x) :
    KB P i (q + 1) (upd wt i (wt i + 1)) (upd bh x (bh x ++ [i])) l := by
  have e : depsTo P i (q + 1) = depsTo P i q ++ [x] := by rw [depsTo_succ P i q hq, hd, hx]; simp
  refine ⟨fun j => ?_, fun j k => ?_, fun k => ?_, h.rd⟩
  · rw [e]
    by_cases c : j = i
    · subst c; rw [upd_same, h.hw, if_pos rfl, if_pos rfl]; simp
    · rw [upd_other _ _ _ c, h.hw, if_neg c, if_neg c]
  · rw [e]
    by_cases c2 : k = x
    · subst c2
      rw [upd_same, List.count_append, h.hb]
      by_cases c : j = i
      · subst c; rw [if_pos rfl, if_pos rfl, List.count_append]; simp
      · rw [if_neg c, if_neg c]
        simp [List.count_cons]
        exact fun e => c e.symm
    · rw [upd_other _ _ _ c2, h.hb]
      by_cases c : j = i
      · subst c; rw [if_pos rfl, if_pos rfl, List.count_append]
        simp [List.count_cons]
        exact fun e => c2 e.symm
      · rw [if_neg c, if_neg c]
  · have := h.len k
    by_cases c2 : k = x
    · subst c2; rw [upd_same, List.length_append]; simp; omega
    · rw [upd_other _ _ _ c2]; omega
theorem KB.done {P : PackD} {i : Nat} {wt : Nat → Nat} {bh : Nat → List Nat} {l l' : List Int} (h : KB P i (P.blk i).ins.length wt bh l) (hn : P.now i = true) (h4 : (P.blk i).ins.length ≤ 4)
    (hl : l'.Perm (if wt i = 0 then l ++ [Int.ofNat i] else l)) : KA P (i + 1) wt bh l' := by
  have hd : depN P i = deps P i := by unfold depN; rw [if_pos hn]
  have hdt := depsTo_all P i
  refine ⟨fun j => ?_, fun j k => ?_, fun k => by have := h.len k; omega, ?_⟩
  · rw [h.hw, hdt, ← hd]; unfold wtA
    by_cases e : j = i
    · subst e; rw [if_pos rfl, if_pos (by omega)]
    · rw [if_neg e]
      by_cases e2 : j < i
      · rw [if_pos e2, if_pos (by omega)]
      · rw [if_neg e2, if_neg (by omega)]
  · rw [h.hb, hdt, ← hd]; unfold cnA
    by_cases e : j = i
    · subst e; rw [if_pos rfl, if_pos (by omega)]
    · rw [if_neg e]
      by_cases e2 : j < i
      · rw [if_pos e2, if_pos (by omega)]
      · rw [if_neg e2, if_neg (by omega)]
  · refine hl.trans ?_
    have hw : wt i = (deps P i).length := by rw [h.hw, if_pos rfl, hdt]
    rw [rdA_succ, ready_nil, hn, hw]
    by_cases e : deps P i = []
    · rw [e]; simp only [List.length_nil, if_pos, List.isEmpty_nil, Bool.and_true, List.map_append]
      exact h.rd.append_right _
    · have e1 : (deps P i).length ≠ 0 := by simpa using e
      have e2 : (deps P i).isEmpty = false := by simpa using e
      rw [if_neg e1, e2]; simpa using h.rd

/-! The second loop. -/
structure KC (P : PackD) (out : List Nat) (wt : Nat → Nat) (bh : Nat → List Nat) (l : List Int) (r : List Nat) : Prop where
  hw : ∀ j, j < P.n → P.now j = true → wt j = rem P out j
  hb : ∀ j k, (bh k).count j = if j < P.n then (depN P j).count k else 0
  len : ∀ k, (bh k).length ≤ 4 * P.n
  rd : l.Perm (r.map Int.ofNat)
  nodup : r.Nodup
  mem : ∀ x, x ∈ r ↔ x < P.n ∧ readyN P out x = true
structure KD (P : PackD) (out : List Nat) (b q : Nat) (wt : Nat → Nat) (bh : Nat → List Nat) (l : List Int) (r : List Nat) : Prop where
  hw : ∀ j, j < P.n → P.now j = true → wt j + ((bh b).take q).count j = rem P out j
  hb : ∀ j k, (bh k).count j = if j < P.n then (depN P j).count k else 0
  len : ∀ k, (bh k).length ≤ 4 * P.n
  rd : l.Perm (r.map Int.ofNat)
  nodup : r.Nodup
  mem : ∀ x, x ∈ r ↔ (x < P.n ∧ readyN P out x = true ∧ x ≠ b) ∨ (x < P.n ∧ x ∈ (bh b).take q ∧ wt x = 0)
theorem KA.all {P : PackD} {wt : Nat → Nat} {bh : Nat → List Nat} {l : List Int} (h : KA P P.n wt bh l) : KC P [] wt bh l (rdA P P.n) := by
  refine ⟨fun j hj hn => ?_, fun j k => h.hb j k, h.len, h.rd, ?_, fun x => ?_⟩
  · rw [h.hw, rem_nil]; unfold wtA depN; rw [if_pos hj, if_pos hn]
  · unfold rdA; exact List.Pairwise.filter _ List.nodup_range
  · unfold rdA; simp
theorem KC.rlen {P : PackD} {out : List Nat} {wt : Nat → Nat} {bh : Nat → List Nat} {l : List Int} {r : List Nat} (h : KC P out wt bh l r) : l.length ≤ P.n := by
  rw [h.rd.length_eq, List.length_map]
  have := nodup_len r (List.range P.n) h.nodup (fun x hx => by simpa using ((h.mem x).1 hx).1)
  simpa using this
theorem KD.rlen {P : PackD} {out : List Nat} {b q : Nat} {wt : Nat → Nat} {bh : Nat → List Nat} {l : List Int} {r : List Nat} (h : KD P out b q wt bh l r) : l.length ≤ P.n := by
  rw [h.rd.length_eq, List.length_map]
  have := nodup_len r (List.range P.n) h.nodup (fun x hx => by rcases (h.mem x).1 hx with h | h <;> simpa using h.1)
  simpa using this
theorem mem_ofNat {r : List Nat} {x : Int} (h : x ∈ r.map Int.ofNat) : ∃ b : Nat, x = b ∧ b ∈ r := by
  obtain ⟨b, hb, rfl⟩ := List.mem_map.1 h
  exact ⟨b, rfl, hb⟩
/-- What is popped is what is told next. -/
theorem KC.pop {P : PackD} {out : List Nat} {wt : Nat → Nat} {bh : Nat → List Nat} {l l' : List Int} {r : List Nat} {x : Int} (h : KC P out wt bh l r) (hp : l.Perm (l' ++ [x])) (hmin : ∀ y ∈ l, x ≤ y) :
    ∃ b : Nat, x = b ∧ pick P out = some b ∧ KD P out b 0 wt bh l' (r.erase b) := by
  have hx : x ∈ l := hp.symm.subset (by simp)
  obtain ⟨b, rfl, hb⟩ := mem_ofNat (h.rd.subset hx)
  obtain ⟨hb1, hb2⟩ := (h.mem b).1 hb
  refine ⟨b, rfl, pick_of hb1 hb2 (fun k hk => ?_), ⟨fun j hj hn => by simpa using h.hw j hj hn, h.hb, h.len, ?_, h.nodup.erase b, fun y => ?_⟩⟩
  · rw [Bool.eq_false_iff]
    intro hr
    have hkr : k ∈ r := (h.mem k).2 ⟨by omega, hr⟩
    have := hmin (k : Int) (h.rd.symm.subset (List.mem_map.2 ⟨k, hkr, rfl⟩))
    omega
  · have h1 : (r.map Int.ofNat).Perm ((r.erase b).map Int.ofNat ++ [(b : Int)]) := by
      have := (List.perm_cons_erase hb).map Int.ofNat
      rw [List.map_cons] at this
      exact this.trans (List.perm_append_comm (l₁ := [(b : Int)]))
    exact (List.perm_append_right_iff [(b : Int)]).1 ((hp.symm.trans h.rd).trans h1)
  · rw [List.Nodup.mem_erase_iff h.nodup, h.mem]
    simp
    constructor
    · rintro ⟨a, b, c⟩; exact ⟨b, c, a⟩
    · rintro ⟨a, b, c⟩; exact ⟨c, a, b⟩
theorem count_take_lt {l : List Nat} {q : Nat} (hq : q < l.length) : (l.take q).count (l.getD q 0) + 1 ≤ l.count (l.getD q 0) := by
  have h2 := take_one l 0 q hq
  generalize l.getD q 0 = k at h2 ⊢
  have h1 : l.count k = (l.take (q + 1) ++ l.drop (q + 1)).count k := by rw [List.take_append_drop]
  rw [h2, List.count_append, List.count_append] at h1
  have : [k].count k = 1 := by simp
  omega
/-- One that hung on what was told. -/
theorem KD.fine {P : PackD} {out : List Nat} {b q : Nat} {wt : Nat → Nat} {bh : Nat → List Nat} {l : List Int} {r : List Nat} (h : KD P out b q wt bh l r) (hb : b ∉ out) (hq : q < (bh b).length) :
    (bh b).getD q 0 < P.n ∧ P.now ((bh b).getD q 0) = true ∧ 1 ≤ wt ((bh b).getD q 0) ∧ wt ((bh b).getD q 0) ≤ (deps P ((bh b).getD q 0)).length ∧ b ∈ deps P ((bh b).getD q 0) := by
  have hc := count_take_lt hq
  have hbh := h.hb ((bh b).getD q 0) b
  generalize hk : (bh b).getD q 0 = k at hc hbh ⊢
  have hkn : k < P.n := by
    by_cases e : k < P.n
    · exact e
    · rw [if_neg e] at hbh; omega
  rw [if_pos hkn] at hbh
  have hkw : P.now k = true := by
    by_cases e : P.now k = true
    · exact e
    · unfold depN at hbh; rw [if_neg e] at hbh; simp at hbh; omega
  have hdn : depN P k = deps P k := by unfold depN; rw [if_pos hkw]
  rw [hdn] at hbh
  have hw := h.hw k hkn hkw
  have hrs := rem_snoc P out b k hb
  have hrl := rem_le P out k
  refine ⟨hkn, hkw, by omega, by omega, ?_⟩
  rw [← List.count_pos_iff]; omega
theorem KD.step {P : PackD} {out : List Nat} {b q k : Nat} {wt : Nat → Nat} {bh : Nat → List Nat} {l l' : List Int} {r : List Nat} (h : KD P out b q wt bh l r) (hb : b ∉ out) (hcl : Closed P out) (hrb : readyN P out b = true) (hq : q < (bh b).length) (hk : (bh b).getD q 0 = k)
    (hl : l'.Perm (if wt k = 1 then l ++ [Int.ofNat k] else l)) : ∃ r', KD P out b (q + 1) (upd wt k (wt k - 1)) bh l' r' := by
  obtain ⟨f1, f2, f3, f4, f5⟩ := h.fine hb hq
  rw [hk] at f1 f2 f3 f4 f5
  have htk := take_one (bh b) 0 q hq
  rw [hk] at htk
  have hcnt : ∀ j, ((bh b).take (q + 1)).count j = ((bh b).take q).count j + if j = k then 1 else 0 := by
    intro j
    rw [htk, List.count_append]
    by_cases e : j = k
    · subst e; simp
    · rw [if_neg e]; simp [List.count_cons]; exact fun e2 => e e2.symm
  have hwt : ∀ j, j < P.n → P.now j = true → upd wt k (wt k - 1) j + ((bh b).take (q + 1)).count j = rem P out j := by
    intro j hj hn
    have h0 := h.hw j hj hn
    rw [hcnt]
    by_cases e : j = k
    · subst e; rw [upd_same, if_pos rfl]; omega
    · rw [upd_other _ _ _ e, if_neg e]; omega
  have hkr : k ∉ r := by
    intro hm
    rcases (h.mem k).1 hm with ⟨_, h1, _⟩ | ⟨_, _, h1⟩
    · obtain ⟨_, _, h2⟩ := readyN_iff.1 h1
      exact hb (h2 b f5)
    · omega
  have hkb : k ≠ b := by
    intro e
    rw [e] at f5
    exact hb ((readyN_iff.1 hrb).2.2 b f5)
  have hmem : ∀ x, x ≠ k → ((x < P.n ∧ x ∈ (bh b).take (q + 1) ∧ upd wt k (wt k - 1) x = 0) ↔ (x < P.n ∧ x ∈ (bh b).take q ∧ wt x = 0)) := by
    intro x hx
    rw [upd_other _ _ _ hx, htk]
    simp [hx]
  by_cases h1 : wt k = 1
  · rw [if_pos h1] at hl
    refine ⟨r ++ [k], hwt, h.hb, h.len, ?_, nodup_snoc h.nodup hkr, fun x => ?_⟩
    · rw [List.map_append]; exact hl.trans (h.rd.append_right _)
    · by_cases e : x = k
      · subst e
        simp only [List.mem_append, List.mem_singleton, or_true, true_iff]
        exact .inr ⟨f1, by rw [htk]; simp, by rw [upd_same]; omega⟩
      · rw [List.mem_append, h.mem x, hmem x e]
        simp [e]
  · rw [if_neg h1] at hl
    refine ⟨r, hwt, h.hb, h.len, hl.trans h.rd, h.nodup, fun x => ?_⟩
    by_cases e : x = k
    · subst e
      constructor
      · intro hm; exact absurd hm hkr
      · rintro (⟨a1, a2, _⟩ | ⟨_, _, a3⟩)
        · exact absurd ((readyN_iff.1 a2).2.2 b f5) hb
        · rw [upd_same] at a3; omega
    · rw [h.mem x, hmem x e]
theorem KD.done {P : PackD} {out : List Nat} {b : Nat} {wt : Nat → Nat} {bh : Nat → List Nat} {l : List Int} {r : List Nat} (h : KD P out b (bh b).length wt bh l r) (hb : b ∉ out) (hcl : Closed P out) (hrb : readyN P out b = true) : KC P (out ++ [b]) wt bh l r := by
  have hw : ∀ j, j < P.n → P.now j = true → wt j = rem P (out ++ [b]) j := by
    intro j hj hn
    have h0 := h.hw j hj hn
    rw [List.take_length, h.hb j b, if_pos hj] at h0
    have : depN P j = deps P j := by unfold depN; rw [if_pos hn]
    rw [this] at h0
    have := rem_snoc P out b j hb
    omega
  refine ⟨hw, h.hb, h.len, h.rd, h.nodup, fun x => ?_⟩
  rw [h.mem x, List.take_length]
  constructor
  · rintro (⟨h1, h2, h3⟩ | ⟨h1, h2, h3⟩)
    · refine ⟨h1, readyN_iff.2 ?_⟩
      obtain ⟨a1, a2, a3⟩ := readyN_iff.1 h2
      exact ⟨a1, by simp [a2, h3], fun k hk => List.mem_append_left _ (a3 k hk)⟩
    · have hc := List.count_pos_iff.2 h2
      rw [h.hb x b, if_pos h1] at hc
      have hn : P.now x = true := by
        by_cases e : P.now x = true
        · exact e
        · unfold depN at hc; rw [if_neg e] at hc; simp at hc
      have hd : depN P x = deps P x := by unfold depN; rw [if_pos hn]
      rw [hd, List.count_pos_iff] at hc
      refine ⟨h1, ready_rem.2 ⟨hn, ?_, by rw [← hw x h1 hn]; exact h3⟩⟩
      intro hx
      rcases List.mem_append.1 hx with hx | hx
      · exact hb (hcl x hx b hc)
      · simp at hx; subst hx
        exact hb ((readyN_iff.1 hrb).2.2 x hc)
  · rintro ⟨h1, h2⟩
    obtain ⟨a1, a2, a3⟩ := ready_rem.1 h2
    have hx : x ∉ out ∧ x ≠ b := by simpa using a2
    by_cases e : rem P out x = 0
    · exact .inl ⟨h1, ready_rem.2 ⟨a1, hx.1, e⟩, hx.2⟩
    · refine .inr ⟨h1, ?_, by rw [hw x h1 a1]; exact a3⟩
      have hrs := rem_snoc P out b x hb
      rw [← List.count_pos_iff, h.hb x b, if_pos h1]
      unfold depN; rw [if_pos a1]; omega
theorem KC.stop {P : PackD} {out : List Nat} {wt : Nat → Nat} {bh : Nat → List Nat} {r : List Nat} (h : KC P out wt bh [] r) : pick P out = none := by
  have hr : r = [] := by
    have := h.rd.length_eq
    simp at this
    exact List.eq_nil_of_length_eq_zero this.symm
  refine pick_no (fun k hk => ?_)
  rw [Bool.eq_false_iff]
  intro hc
  have := (h.mem k).2 ⟨hk, hc⟩
  rw [hr] at this; cases this
end Go.Proofs.Ytholafodachjnaa

/- O4 -/
/- The memory of pack.Order: what waits, who waits, the heap. -/
namespace Go.Proofs.Ytholafodachjnaa
open Go.RowKit Go.Shelf Go.Maps
set_option linter.unusedVariables false
set_option linter.unusedSimpArgs false

theorem own_of_block {w w' : World} {base e size n : Nat} {v : Value} {xs : List Value} (h : w.ownsRow base e size v n xs) (hk : ∀ g, v.ownBlock = some g → w'.heap[g]? = w.heap[g]?) : w'.ownsRow base e size v n xs := by
  rcases h.2 with ⟨rfl, rfl⟩ | ⟨g, cap, cur, rfl, hb, hg, r⟩
  · exact ⟨h.1, .inl ⟨rfl, rfl⟩⟩
  · exact ⟨h.1, .inr ⟨g, cap, cur, rfl, hb, (hk g rfl).trans hg, r⟩⟩

structure OS (w0 : World) (P : PackV) (wb hb R : Nat) (wt : Nat → Nat) (vs : Nat → Value) (bh : Nat → List Nat) (l : List Int) (hv : Value) (wr : World) : Prop where
  box : PBox w0.heap.size w0 P wr
  l1 : w0.heap.size < wb
  l2 : w0.heap.size < hb
  l3 : wb < R
  l4 : hb < R
  l5 : wb ≠ hb
  waits : wr.rowIs wb 3 P.bs.length (fun j => .int .i64 (wt j))
  heads : wr.rowIs hb 25 P.bs.length vs
  rows : ∀ j, j < P.bs.length → wr.ownsRow (R + 1) 3 1 (vs j) (bh j).length (nums (bh j))
  apart : ∀ j k g, j < P.bs.length → k < P.bs.length → (vs j).ownBlock = some g → (vs k).ownBlock = some g → j = k
  heap : Heap wr R l hv
  far : ∀ j g, j < P.bs.length → (vs j).ownBlock = some g → hv.ownBlock ≠ some g
section
variable {w0 wr w' : World} {P : PackV} {wb hb R : Nat} {wt : Nat → Nat} {vs : Nat → Value} {bh : Nat → List Nat} {l : List Int} {hv : Value}
theorem OS.rsize (h : OS w0 P wb hb R wt vs bh l hv wr) : R < wr.heap.size := World.block_lt_of_cell? wr _ h.heap.cell
theorem OS.keep (h : OS w0 P wb hb R wt vs bh l hv wr) (hB : Below (w0.heap.size + 1) wr w') (kw : w'.heap[wb]? = wr.heap[wb]?) (kh : w'.heap[hb]? = wr.heap[hb]?) (kR : w'.heap[R]? = wr.heap[R]?)
    (kr : ∀ j g, j < P.bs.length → (vs j).ownBlock = some g → w'.heap[g]? = wr.heap[g]?) (ko : ∀ g, hv.ownBlock = some g → w'.heap[g]? = wr.heap[g]?) : OS w0 P wb hb R wt vs bh l hv w' :=
  ⟨h.box.step hB (Nat.le_refl _), h.l1, h.l2, h.l3, h.l4, h.l5, h.waits.of_block kw, h.heads.of_block kh, fun j hj => own_of_block (h.rows j hj) (fun g hg => kr j g hj hg), h.apart,
   ⟨(World.cell?_of_block (a := ⟨_, _, none⟩) kR).trans h.heap.cell, (World.frozen?_of_block (a := ⟨_, _, none⟩) kR).trans h.heap.fz, own_of_block h.heap.own ko, h.heap.heap⟩, h.far⟩
theorem OS.low (h : OS w0 P wb hb R wt vs bh l hv wr) (hB : Below wr.heap.size wr w') : OS w0 P wb hb R wt vs bh l hv w' := by
  have hR := h.rsize
  have := h.l1; have := h.l2; have := h.l3; have := h.l4
  exact h.keep (hB.mono (by omega)) (hB.block _ (by omega)) (hB.block _ (by omega)) (hB.block _ hR) (fun j g hj hg => hB.block _ ((h.rows j hj).lt g hg).2) (fun g hg => hB.block _ (h.heap.own.lt g hg).2)
/-- One row is grown, which is none of these. -/
theorem OS.grown (h : OS w0 P wb hb R wt vs bh l hv wr) {row : Option Nat} (hg : wr.grownBy w' row) (hr : ∀ k, row = some k → R < k) (hv2 : ∀ k, row = some k → hv.ownBlock ≠ some k) (hrow : ∀ j k, j < P.bs.length → row = some k → (vs j).ownBlock ≠ some k) : OS w0 P wb hb R wt vs bh l hv w' := by
  have hR := h.rsize
  have := h.l1; have := h.l2; have := h.l3; have := h.l4
  have nb : ∀ b, b ≤ R → some b ≠ row := fun b hb e => by have := hr b e.symm; omega
  exact h.keep ((Below.refl _ _).grown hg (by omega) (fun k e => by have := hr k e; omega)) (hg.block _ (by omega) (nb _ (by omega))) (hg.block _ (by omega) (nb _ (by omega))) (hg.block _ hR (nb _ (by omega)))
    (fun j g hj hjg => hg.block _ ((h.rows j hj).lt g hjg).2 (fun e => hrow j g hj e.symm hjg)) (fun g ho => hg.block _ (h.heap.own.lt g ho).2 (fun e => hv2 g e.symm ho))
theorem OS.wset (h : OS w0 P wb hb R wt vs bh l hv wr) {i x : Nat} : OS w0 P wb hb R (upd wt i x) vs bh l hv (wr.setCell ⟨wb, i, none⟩ (.int .i64 x)) := by
  have hR := h.rsize
  have h1 := h.l1; have h2 := h.l2; have h3 := h.l3; have h4 := h.l4
  have hg := grownBy_set wr wb i (.int .i64 x)
  have nb : ∀ b, b ≠ wb → some b ≠ some wb := fun b hb e => hb (by injection e)
  have hk : ∀ b, b < wr.heap.size → b ≠ wb → (wr.setCell ⟨wb, i, none⟩ (.int .i64 x)).heap[b]? = wr.heap[b]? := fun b hl hne => hg.block b hl (nb b hne)
  refine ⟨h.box.step ((Below.refl _ _).setCell (by simp only; omega) _) (Nat.le_refl _), h1, h2, h3, h4, h.l5, ?_, h.heads.of_block (hk _ (by omega) h.l5.symm), fun j hj => own_of_block (h.rows j hj) (fun g hg => ?_), h.apart,
   ⟨(World.cell?_of_block (a := ⟨_, _, none⟩) (hk R hR (by omega))).trans h.heap.cell, (World.frozen?_of_block (a := ⟨_, _, none⟩) (hk R hR (by omega))).trans h.heap.fz, own_of_block h.heap.own (fun g hg => ?_), h.heap.heap⟩, h.far⟩
  · refine (h.waits.set i (.int .i64 x)).congr (fun j hj => ?_)
    by_cases e : j = i
    · subst e; rw [if_pos rfl, upd_same]
    · rw [if_neg e, upd_other _ _ _ e]
  · have := (h.rows j hj).lt g hg; exact hk g this.2 (by omega)
  · have := h.heap.own.lt g hg; exact hk g this.2 (by omega)
/-- The heap has been written. -/
theorem OS.heaped (h : OS w0 P wb hb R wt vs bh l hv wr) {l' : List Int} {hv' : Value} (hw : Wrote wr w' R hv.ownBlock hv'.ownBlock) (hh : Heap w' R l' hv') : OS w0 P wb hb R wt vs bh l' hv' w' := by
  have hR := h.rsize
  have h1 := h.l1; have h2 := h.l2; have h3 := h.l3; have h4 := h.l4
  have no : ∀ b, b ≤ R → some b ≠ hv.ownBlock := fun b hb e => by have := (h.heap.own.lt b e.symm).1; omega
  refine ⟨h.box.step (hw.below (B := w0.heap.size + 1) (by omega) (fun b e => by have := (h.heap.own.lt b e).1; omega) (by omega)) (Nat.le_refl _), h1, h2, h3, h4, h.l5,
    h.waits.of_block (hw.block _ (by omega) (by omega) (no _ (by omega))), h.heads.of_block (hw.block _ (by omega) (by omega) (no _ (by omega))), fun j hj => own_of_block (h.rows j hj) (fun g hg => ?_), h.apart, hh, fun j g hj hjg e => ?_⟩
  · have := (h.rows j hj).lt g hg
    exact hw.block g this.2 (by omega) (fun e => h.far j g hj hg e.symm)
  · rcases hw.at_ g e with e2 | e2
    · exact h.far j g hj hjg e2
    · have := ((h.rows j hj).lt g hjg).2; omega
/-- One more waits for block k. -/
theorem OS.app (h : OS w0 P wb hb R wt vs bh l hv wr) {k i g c : Nat} {w9 : World} (hk : k < P.bs.length) (hg : wr.grownBy w9 (vs k).ownBlock) (ho : w9.ownsRow (R + 1) 3 1 (.slice (some ⟨g, 0, none⟩) ((bh k).length + 1) c) ((bh k).length + 1) (nums (bh k) ++ [Value.int .i64 i]))
    (hat : (vs k).ownBlock = some g ∨ g = wr.heap.size + 1) : OS w0 P wb hb R wt (upd vs k (.slice (some ⟨g, 0, none⟩) ((bh k).length + 1) c)) (upd bh k (bh k ++ [i])) l hv (w9.setCell ⟨hb, k, none⟩ (.slice (some ⟨g, 0, none⟩) ((bh k).length + 1) c)) := by
  have hR := h.rsize
  have h1 := h.l1; have h2 := h.l2; have h3 := h.l3; have h4 := h.l4
  have hs := hg.size
  have hgl := (ho.lt g rfl).1
  have nb : ∀ b, b ≤ R → some b ≠ (vs k).ownBlock := fun b hb e => by have := ((h.rows k hk).lt b e.symm).1; omega
  have hset := grownBy_set w9 hb k (.slice (some ⟨g, 0, none⟩) ((bh k).length + 1) c)
  have keep : ∀ b, b < wr.heap.size → b ≠ hb → some b ≠ (vs k).ownBlock → (w9.setCell ⟨hb, k, none⟩ (.slice (some ⟨g, 0, none⟩) ((bh k).length + 1) c)).heap[b]? = wr.heap[b]? := fun b hl hne hn =>
    (hset.block b (by omega) (fun e => hne (by injection e))).trans (hg.block b hl hn)
  have hB : Below (w0.heap.size + 1) wr (w9.setCell ⟨hb, k, none⟩ (.slice (some ⟨g, 0, none⟩) ((bh k).length + 1) c)) := ((Below.refl _ _).grown hg (by omega) (fun b e => by have := ((h.rows k hk).lt b e).1; omega)).setCell (by simp only; omega) _
  refine ⟨h.box.step hB (Nat.le_refl _), h1, h2, h3, h4, h.l5, h.waits.of_block (keep _ (by omega) h.l5 (nb _ (by omega))), ?_, fun j hj => ?_, fun j m b hj hm e1 e2 => ?_,
    ⟨(World.cell?_of_block (a := ⟨_, _, none⟩) (keep R hR (by omega) (nb _ (Nat.le_refl _)))).trans h.heap.cell, (World.frozen?_of_block (a := ⟨_, _, none⟩) (keep R hR (by omega) (nb _ (Nat.le_refl _)))).trans h.heap.fz, own_of_block h.heap.own (fun b hb => ?_), h.heap.heap⟩, fun j b hj hjb e => ?_⟩
  · refine ((h.heads.of_block (hg.block hb (by omega) (nb _ (by omega)))).set k _).congr (fun j hj => ?_)
    by_cases e : j = k
    · subst e; rw [if_pos rfl, upd_same]
    · rw [if_neg e, upd_other _ _ _ e]
  · by_cases e : j = k
    · subst e
      rw [upd_same, upd_same, nums_snoc, List.length_append]
      exact ho.kept hset (.inr (by intro e; simp only [Value.ownBlock] at e; injection e with e; omega))
    · rw [upd_other _ _ _ e, upd_other _ _ _ e]
      refine own_of_block (h.rows j hj) (fun b hb => ?_)
      have hl := (h.rows j hj).lt b hb
      exact keep b hl.2 (by omega) (fun e2 => e (h.apart j k b hj hk hb e2.symm))
  · by_cases ej : j = k
    · by_cases em : m = k
      · omega
      · exfalso
        subst ej
        rw [upd_same] at e1
        rw [upd_other _ _ _ em] at e2
        simp only [Value.ownBlock] at e1
        injection e1 with e1
        subst e1
        rcases hat with e3 | e3
        · exact em (h.apart m j _ hm hj e2 e3)
        · have := ((h.rows m hm).lt _ e2).2; omega
    · by_cases em : m = k
      · exfalso
        subst em
        rw [upd_same] at e2
        rw [upd_other _ _ _ ej] at e1
        simp only [Value.ownBlock] at e2
        injection e2 with e2
        subst e2
        rcases hat with e3 | e3
        · exact ej (h.apart j m _ hj hm e1 e3)
        · have := ((h.rows j hj).lt _ e1).2; omega
      · rw [upd_other _ _ _ ej] at e1
        rw [upd_other _ _ _ em] at e2
        exact h.apart j m b hj hm e1 e2
  · have hl := h.heap.own.lt b hb
    exact keep b hl.2 (by omega) (fun e => h.far k b hk e.symm hb)
  · by_cases ej : j = k
    · subst ej
      rw [upd_same] at hjb
      simp only [Value.ownBlock] at hjb
      injection hjb with hjb
      subst hjb
      rcases hat with e3 | e3
      · exact h.far j _ hj e3 e
      · have := (h.heap.own.lt _ e).2; omega
    · rw [upd_other _ _ _ ej] at hjb
      exact h.far j b hj hjb e

/-- .. and what has been told, in a row of its own. -/
structure OT (w0 : World) (P : PackV) (wb hb R : Nat) (wt : Nat → Nat) (vs : Nat → Value) (bh : Nat → List Nat) (l : List Int) (hv : Value) (out : List Nat) (ov : Value) (wr : World) : Prop where
  os : OS w0 P wb hb R wt vs bh l hv wr
  own : wr.ownsRow (R + 1) 3 1 ov out.length (nums out)
  far1 : ∀ j g, j < P.bs.length → (vs j).ownBlock = some g → ov.ownBlock ≠ some g
  far2 : ∀ g, hv.ownBlock = some g → ov.ownBlock ≠ some g
variable {out : List Nat} {ov : Value}
theorem OT.wset (h : OT w0 P wb hb R wt vs bh l hv out ov wr) {i x : Nat} : OT w0 P wb hb R (upd wt i x) vs bh l hv out ov (wr.setCell ⟨wb, i, none⟩ (.int .i64 x)) := by
  have h3 := h.os.l3
  exact ⟨h.os.wset, h.own.kept (grownBy_set _ _ _ _) (.inr (fun e => by have := (h.own.lt wb e).1; omega)), h.far1, h.far2⟩
theorem OT.heaped (h : OT w0 P wb hb R wt vs bh l hv out ov wr) {l' : List Int} {hv' : Value} (hw : Wrote wr w' R hv.ownBlock hv'.ownBlock) (hh : Heap w' R l' hv') : OT w0 P wb hb R wt vs bh l' hv' out ov w' := by
  refine ⟨h.os.heaped hw hh, own_of_block h.own (fun g hg => ?_), h.far1, fun g hg e => ?_⟩
  · have := h.own.lt g hg
    exact hw.block g this.2 (by omega) (fun e => h.far2 g e.symm hg)
  · rcases hw.at_ g hg with e2 | e2
    · exact h.far2 g e2 e
    · have := (h.own.lt g e).2; omega
theorem OT.told (h : OT w0 P wb hb R wt vs bh l hv out ov wr) {b g c : Nat} (hg : wr.grownBy w' ov.ownBlock) (ho : w'.ownsRow (R + 1) 3 1 (.slice (some ⟨g, 0, none⟩) (out.length + 1) c) (out.length + 1) (nums out ++ [Value.int .i64 b])) (hat : ov.ownBlock = some g ∨ g = wr.heap.size + 1) :
    OT w0 P wb hb R wt vs bh l hv (out ++ [b]) (.slice (some ⟨g, 0, none⟩) (out.length + 1) c) w' := by
  refine ⟨h.os.grown hg (fun k e => by have := (h.own.lt k e).1; omega) (fun k e e2 => h.far2 k e2 e) (fun j k hj e e2 => h.far1 j k hj e2 e), by rw [nums_snoc, List.length_append]; exact ho, fun j k hj e1 e2 => ?_, fun k e1 e2 => ?_⟩
  · simp only [Value.ownBlock] at e2
    injection e2 with e2
    subst e2
    rcases hat with e3 | e3
    · exact h.far1 j _ hj e1 e3
    · have := ((h.os.rows j hj).lt _ e1).2; omega
  · simp only [Value.ownBlock] at e2
    injection e2 with e2
    subst e2
    rcases hat with e3 | e3
    · exact h.far2 _ e1 e3
    · have := (h.os.heap.own.lt _ e1).2; omega
theorem OS.told0 (h : OS w0 P wb hb R wt vs bh l hv wr) : OT w0 P wb hb R wt vs bh l hv [] (.slice none 0 0) wr :=
  ⟨h, World.ownsRow_nil _ _ _ _, fun j g hj _ => by simp [Value.ownBlock], fun g _ => by simp [Value.ownBlock]⟩
end
end Go.Proofs.Ytholafodachjnaa
