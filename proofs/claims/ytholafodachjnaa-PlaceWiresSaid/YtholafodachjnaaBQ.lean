/- O5 -/
import Derived.Test.YtholafodachjnaaBP
import Derived.Test.YtholafodachjnaaAX
namespace Go.Proofs.Ytholafodachjnaa
open Go.RowKit Go.Shelf Go.Maps
set_option linter.unusedVariables false
set_option linter.unusedSimpArgs false
theorem info24 : (Try.prog.info? 25).map (fun i => (i.zero, i.size, i.bytes)) = some (some (.slice none 0 0), 1, 24) := by kernel_rfl
def LA (w0 : World) (P : PackV) (wb hb R : Nat) (D : PackD) (i : Nat) (wr : World) : Prop := ∃ wt vs bh l hv, OS w0 P wb hb R wt vs bh l hv wr ∧ KA D i wt bh l
def LB (w0 : World) (P : PackV) (wb hb R : Nat) (D : PackD) (i q : Nat) (wr : World) : Prop := ∃ wt vs bh l hv, OS w0 P wb hb R wt vs bh l hv wr ∧ KB D i q wt bh l
theorem depsTo_len (P : PackD) (i q : Nat) : (depsTo P i q).length ≤ q := by
  unfold depsTo
  rw [List.length_map]
  exact Nat.le_trans (List.length_filter_le _ _) (by rw [List.length_take]; omega)

set_option maxRecDepth 100000 in
set_option maxHeartbeats 8000000 in
theorem orderL1 (Q : Exit → Act → World → Prop) (hpan : ∀ c (d : Option Tmp) v a w, Q (.panic c) (a.put d v) w → Q (.panic c) a w) (w0 w : World) (P : PackV) (D : PackD) (n : Nat) (hn : n ≤ 500) (hP : Hid (PackAt w0 P)) (hPn : Hid (P.bs.length = n)) (hDn : Hid (D.n = n)) (hDk : Hid (∀ b, D.blk b = (P.bs.getD b default).data)) (ins : Int) (hi0 : 0 ≤ ins) (hi1 : ins ≤ 100) (hins : Hid (P.ins = ins)) (hDi : Hid (D.ins = ins)) (hNow : Hid (∀ i, nowTo D (i + 1) = nowTo D i + if (P.bs.getD i default).ff then 0 else 1)) (hInW : Hid (∀ b, b < n → (∀ x ∈ (P.bs.getD b default).ins, 0 ≤ x ∧ x < ins + n) ∧ (P.bs.getD b default).ins.length ≤ 4)) (ba : Option Addr) (bc : Nat) (hba : Hid (P.ba = ba)) (hbc : Hid (P.bc = bc)) (h wb hb R : Nat) (hh0 : Hid (w0.heap.size = h)) (hst : Hid (LA w0 P wb hb R D 0 w))
    (s0 s2 s3 s8 s9 s10 s11 s12 s13 s14 s15 s16 s17 s18 s19 s20 s21 s22 s23 s24 s25 s26 s27 s28 s32 s33 s34 s35 s36 s37 s38 s39 s40 s41 s42 s43 s44 s45 s46 s47 s48 s49 s50 s51 s52 s53 s54 s55 s56 s57 s58 s59 s60 s61 s62 s63 s64 s65 s66 s67 s68 s69 s70 s71 s72 s73 s74 s75 s76 s77 s78 s79 s80 s81 s82 s83 s84 s85 s86 s87 s88 s89 s90 s91 s92 s93 s94 s95 s96 s97 s98 s99 s100 s101 s102 s103 s104 s105 s106 s107 s108 s109 s110 s111 s112 s113 s114 s115 s116 s117 s118 s119 s120 s121 s122 s123 s124 s125 s126 s127 s128 : Value)
    (hexit : ∀ (r8 r9 r11 r12 r31 r32 r33 r34 r35 r36 r37 r38 r39 r40 r41 r42 r43 r44 r45 r46 r47 r48 r49 r50 r51 r52 r53 r54 r55 r56 r57 r58 r59 r60 r61 r62 r63 r64 r65 r66 r67 r68 r69 r70 r71 r72 r73 r74 r75 r76 r77 r78 r79 r80 r81 r82 r83 r84 r85 r86 r87 r88 : Value) (w' : World), Hid (LA w0 P wb hb R D n w') → Q .normal { tmps := #[s0, .pointer (some ⟨h, 0, none⟩), s2, s3, .slice (some ⟨wb, 0, none⟩) n n, .slice (some ⟨hb, 0, none⟩) n n, .int .i64 (nowTo D n), .pointer (some ⟨R, 0, none⟩), r8, r9, s10, r11, r12, s13, s14, s15, s16, s17, s18, s19, s20, s21, s22, s23, s24, s25, s26, s27, s28, .slice ba n bc, .int .i64 (n : Int), r31, r32, r33, r34, r35, r36, r37, r38, r39, r40, r41, r42, r43, r44, r45, r46, r47, r48, r49, r50, r51, r52, r53, r54, r55, r56, r57, r58, r59, r60, r61, r62, r63, r64, r65, r66, r67, r68, r69, r70, r71, r72, r73, r74, r75, r76, r77, r78, r79, r80, r81, r82, r83, r84, r85, r86, r87, r88, s89, s90, s91, s92, s93, s94, s95, s96, s97, s98, s99, s100, s101, s102, s103, s104, s105, s106, s107, s108, s109, s110, s111, s112, s113, s114, s115, s116, s117, s118, s119, s120, s121, s122, s123, s124, s125, s126, s127, s128], defers := [] } w') :
    ((Try.f48.body.bind (loopAt 7)).getD .skip).wp Try.prog (Exit.inBlock 0 Q) { tmps := #[s0, .pointer (some ⟨h, 0, none⟩), s2, s3, .slice (some ⟨wb, 0, none⟩) n n, .slice (some ⟨hb, 0, none⟩) n n, .int .i64 0, .pointer (some ⟨R, 0, none⟩), s8, s9, s10, s11, s12, s13, s14, s15, s16, s17, s18, s19, s20, s21, s22, s23, s24, s25, s26, s27, s28, .slice ba n bc, .int .i64 (n : Int), .int .i64 0, s32, s33, s34, s35, s36, s37, s38, s39, s40, s41, s42, s43, s44, s45, s46, s47, s48, s49, s50, s51, s52, s53, s54, s55, s56, s57, s58, s59, s60, s61, s62, s63, s64, s65, s66, s67, s68, s69, s70, s71, s72, s73, s74, s75, s76, s77, s78, s79, s80, s81, s82, s83, s84, s85, s86, s87, s88, s89, s90, s91, s92, s93, s94, s95, s96, s97, s98, s99, s100, s101, s102, s103, s104, s105, s106, s107, s108, s109, s110, s111, s112, s113, s114, s115, s116, s117, s118, s119, s120, s121, s122, s123, s124, s125, s126, s127, s128], defers := [] } w := by
  conv => arg 2; whnf
  dsimp only
  obtain ⟨i3, hi3, hz0, hz1, hz2⟩ := info_parts info3
  go_loopw [6, 31] (fun mv iv wr => ∃ i : Nat, i ≤ n ∧ iv = .int .i64 i ∧ mv = .int .i64 (nowTo D i) ∧ Hid (LA w0 P wb hb R D i wr)) (fun _ iv _ => n - (intOf iv).toNat)
  case atStart => exact ⟨0, by omega, rfl, rfl, hst⟩
  case round =>
    obtain ⟨i, hi, rfl, rfl, hh⟩ := hrel
    have hnl := nowTo_le D i
    by_cases hlt : i < n
    · obtain ⟨wt, vs, bh, l, hv, hos, hka⟩ := hh.out
      have hn := hPn.out
      obtain ⟨b, off, hLa0, hbb, d0, d1, d2, d3⟩ := (hP.out.below hos.box.below (Nat.le_refl _)).blk i (by omega)
      have hEach := (hP.out.below hos.box.below (Nat.le_refl _)).each _ (getD_mem P.bs default (by omega : i < P.bs.length))
      have hIn := hInW.out i hlt
      have hns := hNow.out i
      have hblk := hDk.out i
      rw [hba.out] at hLa0
      obtain ⟨L, hLe⟩ : ∃ L, L = P.bs.getD i default := ⟨_, rfl⟩
      rw [← hLe] at d0 d1 d2 d3 hEach hIn hns hblk
      obtain ⟨La, Lc, Li, Lt, Lf, Ln⟩ := L
      dsimp only at d0 d1 d2 d3 hEach hIn hns hblk
      subst hLa0
      obtain ⟨W2, hW2⟩ : ∃ W2, W2 = wr.alloc (Obj.cells #[Value.slice La Li.length Lc, Value.int .i64 Lt, Value.bool Lf, Value.bool Ln] 46) := ⟨_, rfl⟩
      have hb2 : Below wr.heap.size wr W2 := by rw [hW2]; exact (Below.refl _ _).alloc (Nat.le_refl _) _
      have hos2 := hos.low hb2
      have e0 : W2.cell? ⟨wr.heap.size, 0, none⟩ = some (.slice La Li.length Lc) := by rw [hW2]; simp
      have e2 : W2.cell? ⟨wr.heap.size, 2, none⟩ = some (.bool Lf) := by rw [hW2]; simp
      have HW2 := Lib.hid hW2
      have HNs := Lib.hid hns
      have HLe := Lib.hid hLe
      have HBk := Lib.hid hblk
      have hnow : D.now i = !Lf := by unfold PackD.now; rw [hblk]
      have HNw := Lib.hid hnow
      have HKA := Lib.hid hka
      have HOS := Lib.hid hos2
      have HSqB := Lib.hid (hEach.1)
      have HBB := Lib.hid hb2
      have HIn := Lib.hid hIn.1
      have hl4 := hIn.2
      have hR := hos.rsize
      have hlw0 : w0.heap.size < wr.heap.size := by have := hos.l1; have := hos.l3; omega
      obtain ⟨nn, hnn⟩ : ∃ n, n = nowTo D i := ⟨_, rfl⟩
      rw [← hnn] at HNs hnl ⊢
      clear hos hka hns hblk hnow hEach hIn hLe hn hb2 hW2 hos2 hh hnn
      cases Lf
      · have HLB0 : Hid (LB w0 P wb hb R D i 0 W2) := Lib.hid ⟨wt, vs, bh, l, hv, HOS.out, HKA.out.start⟩
        have x0 := HOS.out.box.c0
        rw [hins.out, hh0.out] at x0
        clear HKA
        go_wp2_with fail
        rw [← HW2.out]
        go_wp2_with fail
        go_loopw [43] (fun qv wq => ∃ q : Nat, q ≤ Li.length ∧ qv = .int .i64 q ∧ Hid (LB w0 P wb hb R D i q wq)) (fun qv _ => Li.length - (intOf qv).toNat)
        case atStart => exact ⟨0, by omega, rfl, HLB0⟩
        case round =>
          obtain ⟨q, hq, rfl, hqh⟩ := hrel
          obtain ⟨wt, vs, bh, l, hv, hos, hkb⟩ := hqh.out
          by_cases hlq : q < Li.length
          · have hEq := ((hP.out.below hos.box.below (Nat.le_refl _)).each _ (getD_mem P.bs default (by have := hPn.out; omega : i < P.bs.length))).1
            rw [← HLe.out] at hEq
            dsimp only at hEq
            obtain ⟨b3, off3, hLa, hb3, hc3⟩ := hEq.at q hlq
            have x2 := hc3 q hlq
            unfold ints at x2
            have hxin := HIn.out _ (getD_mem Li 0 hlq)
            have hx0 := hos.box.c0
            have hx1 := hos.box.c1
            rw [hins.out, hh0.out] at hx0
            rw [hba.out, hPn.out, hbc.out, hh0.out] at hx1
            obtain ⟨x, hx⟩ : ∃ x, x = Li.getD q 0 := ⟨_, rfl⟩
            rw [← hx] at x2 hxin
            have HX : Hid ((D.blk i).ins.getD q 0 = x) := Lib.hid (by rw [HBk.out]; exact hx.symm)
            have hql : q < (D.blk i).ins.length := by rw [HBk.out]; exact hlq
            have HQl := Lib.hid hql
            have HKB := Lib.hid hkb
            have HOS2 := Lib.hid hos
            clear hx hc3 hEq hql hos hkb hqh x0
            subst hLa
            by_cases hxd : ins ≤ x
            · obtain ⟨k, hk⟩ : ∃ k : Nat, x = ins + (k : Int) := ⟨(x - ins).toNat, by omega⟩
              subst hk
              have hkn : k < n := by omega
              have hks : ins + (k : Int) - ins = k := by omega
              obtain ⟨q1, off1, hba1, _, _, _, f2, _⟩ := (hP.out.below HOS2.out.box.below (Nat.le_refl _)).blk k (by have := hPn.out; omega)
              have hdep : depOf D (ins + (k : Int)) = !(P.bs.getD k default).ff := by
                unfold depOf PackD.now
                rw [hDi.out, hks, Int.toNat_natCast, hDk.out, decide_eq_true (by omega)]; simp
              rw [hba.out] at hba1
              injection hba1 with hba1
              injection hba1 with hba1 hba2
              subst hba1 hba2
              obtain ⟨kf, hkf⟩ : ∃ f, f = (P.bs.getD k default).ff := ⟨_, rfl⟩
              rw [← hkf] at f2 hdep
              have HDep := Lib.hid hdep
              have hk0 : decide ((0 : Int) ≤ (k : Int)) = true := by simp
              clear hdep hkf
              cases kf
              · have hwl := HOS2.out.waits.cell (i := i) (by have := hPn.out; omega)
                have hwf := HOS2.out.waits.frozen i
                obtain ⟨m, hm⟩ : ∃ m, m = wt i := ⟨_, rfl⟩
                have hm4 : m ≤ 4 := by rw [hm, HKB.out.hw, if_pos rfl]; have := depsTo_len D i q; omega
                rw [← hm] at hwl
                have hos3 := HOS2.out.wset (i := i) (x := m + 1)
                have hhd := hos3.heads.cell (i := k) (by have := hPn.out; omega)
                have hhf := hos3.heads.frozen k
                have hhd0 := HOS2.out.heads.cell (i := k) (by have := hPn.out; omega)
                have hhf0 := HOS2.out.heads.frozen k
                have hown := hos3.rows k (by have := hPn.out; omega)
                obtain ⟨vk, hvk⟩ : ∃ v, v = vs k := ⟨_, rfl⟩
                rw [← hvk] at hhd hhd0 hown
                have HHd := Lib.hid hhd
                have HHf := Lib.hid hhf
                obtain ⟨bk, hbk⟩ : ∃ v, v = bh k := ⟨_, rfl⟩
                rw [← hbk] at hown
                have hbl : bk.length ≤ 2100 := by rw [hbk]; have := HKB.out.len k; omega
                have hl3 := hos3.l3
                have hl4' := hos3.l4
                have hRs := HOS2.out.rsize
                have HM := Lib.hid hm
                have HVk := Lib.hid hvk
                have HBh := Lib.hid hbk
                have HOS3 := Lib.hid hos3
                have HOwn := Lib.hid hown
                have hne : hb ≠ wb := fun e => hos3.l5 e.symm
                have hne2 : wb ≠ hb := hos3.l5
                clear hos3 hown hm hvk hbk hhd hhf
                go_wp2_with (at_builtin; refine wpList_append_lies _ rfl _ _ _ rfl (R + 1) 3 i3 (.int .i64 0) 1 8 Try.underlying25 hi3 hz0 hz1 hz2 rfl (by decide) vk bk.length (nums bk) rfl (HOwn.out.alloc _) ⟨wr.heap.size, 0, none⟩ 1 1 [.int .i64 i] rfl rfl (one_new (by rw [← set_size wr wb i (.int .i64 ((m : Int) + 1))]; exact cell_newW _ _ _)) (by simp [Value.oneCell']) (by omega) (by unfold maxLen; omega) (by omega) (by simp; omega) (wr.heap.size + 1) (by simp) ?_)
                intro gB cB w9 ho9 hg9 hat9 hlt9
                have hgr9 : (wr.setCell ⟨wb, i, none⟩ (.int .i64 ((m : Int) + 1))).grownBy w9 vk.ownBlock := ggrown (World.grownBy_alloc _ _ _) hg9
                have hnb : some hb ≠ vk.ownBlock := fun e => by have := (HOwn.out.lt hb e.symm).1; omega
                have k9 := hgr9.block hb (by rw [set_size]; omega) hnb
                have y1 : w9.cell? ⟨hb, k, none⟩ = some vk := (World.cell?_of_block (a := ⟨_, _, none⟩) k9).trans HHd.out
                have yf : w9.frozen? ⟨hb, k, none⟩ = false := (World.frozen?_of_block (a := ⟨_, _, none⟩) k9).trans HHf.out
                have HAp : Hid (LB w0 P wb hb R D i (q + 1) (w9.setCell ⟨hb, k, none⟩ (.slice (some ⟨gB, 0, none⟩) (bk.length + 1) cB))) := by
                  have hkp : k < P.bs.length := by have := hPn.out; omega
                  have h1 := HOS3.out.app (k := k) (i := i) (g := gB) (c := cB) (w9 := w9) hkp (by rw [← HVk.out]; exact hgr9) (by rw [← HBh.out]; exact ho9) (by rw [← HVk.out, set_size]; exact hat9)
                  rw [← HBh.out] at h1
                  have h2 := HKB.out.add (x := k) HQl.out (by rw [HX.out]; exact HDep.out) (by rw [HX.out, hDi.out, hks]; simp)
                  rw [← HBh.out, ← HM.out] at h2
                  exact Lib.hid ⟨_, _, _, l, hv, h1, h2⟩
                clear ho9 hg9 hat9 hlt9 hgr9 hnb k9 hhd0 hhf0
                go_wp2_with fail
                go_roundw
                case rel => exact ⟨q + 1, by omega, by go_num, HAp⟩
                case measure => simp [intOf]; omega
              · go_wp2_with fail
                go_roundw
                case rel => exact ⟨q + 1, by omega, by go_num, Lib.hid ⟨wt, vs, bh, l, hv, HOS2.out, HKB.out.skip HQl.out (by rw [HX.out]; exact HDep.out)⟩⟩
                case measure => simp [intOf]; omega
            · have hdep : depOf D x = false := by unfold depOf; rw [hDi.out, decide_eq_false hxd]; rfl
              have HDep := Lib.hid hdep
              obtain ⟨d, hd⟩ : ∃ d, x - ins = d := ⟨_, rfl⟩
              have hd0 : decide (0 ≤ d) = false := by simp; omega
              clear hdep
              go_wp2_with fail
              go_roundw
              case rel => exact ⟨q + 1, by omega, by go_num, Lib.hid ⟨wt, vs, bh, l, hv, HOS2.out, HKB.out.skip HQl.out (by rw [HX.out]; exact HDep.out)⟩⟩
              case measure => simp [intOf]; omega
          · obtain rfl : q = Li.length := by omega
            have hwl := hos.waits.cell (i := i) (by have := hPn.out; omega)
            obtain ⟨m, hm⟩ : ∃ m, m = wt i := ⟨_, rfl⟩
            rw [← hm] at hwl
            have HM := Lib.hid hm
            have HOS2 := Lib.hid hos
            have HKB := Lib.hid hkb
            have HL4 : Hid ((D.blk i).ins.length ≤ 4) := Lib.hid (by rw [HBk.out]; exact hl4)
            have HQl : Hid ((D.blk i).ins.length = Li.length) := Lib.hid (by rw [HBk.out])
            have hll : l.length ≤ 500 := by have := hkb.llen; omega
            clear hm hos hkb hqh x0
            by_cases hm0 : m = 0
            · subst hm0
              go_wp2_with fail
              refine Calls.mono (push58 wr R l hv (i : Int) HOS2.out.heap (by omega)) ?_
              rintro e w5 ⟨rfl, l', hv', hp, hhp, hwr⟩
              have HN : Hid (LA w0 P wb hb R D (i + 1) w5) := Lib.hid ⟨_, _, _, l', hv', HOS2.out.heaped hwr hhp, by
                have h1 := HKB.out
                rw [← HQl.out] at h1
                exact h1.done HNw.out HL4.out (by rw [if_pos HM.out.symm]; exact hp)⟩
              clear hp hhp hwr
              go_wp2_with fail
              go_roundw
              case rel => exact ⟨i + 1, by omega, by go_num, by rw [HNs.out]; go_num, HN⟩
              case measure => simp [intOf]; omega
            · have hmb : ((m : Int) == 0) = false := by simpa using hm0
              have HN : Hid (LA w0 P wb hb R D (i + 1) wr) := Lib.hid ⟨_, _, _, l, hv, HOS2.out, by
                have h1 := HKB.out
                rw [← HQl.out] at h1
                exact h1.done HNw.out HL4.out (by rw [if_neg (fun e => hm0 (by rw [HM.out]; exact e))])⟩
              clear hm0
              go_wp2_with fail
              go_roundw
              case rel => exact ⟨i + 1, by omega, by go_num, by rw [HNs.out]; go_num, HN⟩
              case measure => simp [intOf]; omega
      · clear HSqB
        go_wp2_with fail
        rw [← HW2.out]
        go_roundw
        case rel => exact ⟨i + 1, by omega, by go_num, by rw [HNs.out]; rfl, Lib.hid ⟨wt, vs, bh, l, hv, HOS.out, HKA.out.skip HNw.out⟩⟩
        case measure => simp [intOf]; omega
    · obtain rfl : i = n := by omega
      go_wp2_with fail
      exact hh
end Go.Proofs.Ytholafodachjnaa

/- O6 -/
namespace Go.Proofs.Ytholafodachjnaa
open Go.RowKit Go.Shelf Go.Maps
set_option linter.unusedVariables false
set_option linter.unusedSimpArgs false
def slLen : Value → Nat
  | .slice _ k _ => k
  | _ => 0
def LC (w0 : World) (P : PackV) (wb hb R : Nat) (D : PackD) (j : Nat) (ov : Value) (wr : World) : Prop := ∃ wt vs bh l hv r, OT w0 P wb hb R wt vs bh l hv (greedy D j) ov wr ∧ KC D (greedy D j) wt bh l r ∧ (greedy D j).length = j
def LD (w0 : World) (P : PackV) (wb hb R : Nat) (D : PackD) (vs : Nat → Value) (bh : Nat → List Nat) (out : List Nat) (b q : Nat) (ov : Value) (wr : World) : Prop := ∃ wt l hv r, OT w0 P wb hb R wt vs bh l hv (out ++ [b]) ov wr ∧ KD D out b q wt bh l r
/-- What has been told at the end. -/
def LE (w0 : World) (R : Nat) (D : PackD) (ov : Value) (wr : World) : Prop := wr.ownsRow (R + 1) 3 1 ov (orderL D).length (nums (orderL D)) ∧ Below w0.heap.size w0 wr ∧ w0.heap.size < R
theorem heap_min {l : List Int} (h : IsHeap l l.length) : ∀ y ∈ l, l.getD 0 0 ≤ y := by
  intro y hy
  obtain ⟨k, hk, rfl⟩ := List.getElem_of_mem hy
  have := heap_top h k hk
  rwa [List.getD_eq_getElem?_getD (i := k), List.getElem?_eq_getElem hk] at this

set_option maxRecDepth 100000 in
set_option maxHeartbeats 8000000 in
theorem orderL3 (Q : Exit → Act → World → Prop) (hpan : ∀ c (d : Option Tmp) v a w, Q (.panic c) (a.put d v) w → Q (.panic c) a w) (w0 w : World) (P : PackV) (D : PackD) (n : Nat) (hn : n ≤ 500) (hP : Hid (PackAt w0 P)) (hPn : Hid (P.bs.length = n)) (hDn : Hid (D.n = n)) (h4 : Hid (∀ b, b < n → (D.blk b).ins.length ≤ 4)) (h wb hb R : Nat) (hst : Hid (LC w0 P wb hb R D 0 (.slice none 0 0) w))
    (s0 s2 s3 s6 s8 s9 s10 s11 s12 s14 s15 s16 s17 s18 s19 s20 s21 s22 s23 s24 s25 s26 s27 s28 s29 s30 s31 s32 s33 s34 s35 s36 s37 s38 s39 s40 s41 s42 s43 s44 s45 s46 s47 s48 s49 s50 s51 s52 s53 s54 s55 s56 s57 s58 s59 s60 s61 s62 s63 s64 s65 s66 s67 s68 s69 s70 s71 s72 s73 s74 s75 s76 s77 s78 s79 s80 s81 s82 s83 s84 s85 s86 s87 s88 s89 s90 s91 s92 s93 s94 s95 s96 s97 s98 s99 s100 s101 s102 s103 s104 s105 s106 s107 s108 s109 s110 s111 s112 s113 s114 s115 s116 s117 s118 s119 s120 s121 s122 s123 s124 s125 s126 s127 s128 : Value)
    (hexit : ∀ (r13 r14 r16 r89 r90 r91 r92 r93 r94 r95 r96 r97 r98 r99 r100 r101 r102 r103 r104 r105 r106 r107 r108 r109 r110 r111 r112 r113 r114 r115 r116 r117 r118 r119 r120 r121 r122 r123 : Value) (w' : World), Hid (LE w0 R D r13 w') → Q .normal { tmps := #[s0, .pointer (some ⟨h, 0, none⟩), s2, s3, .slice (some ⟨wb, 0, none⟩) n n, .slice (some ⟨hb, 0, none⟩) n n, s6, .pointer (some ⟨R, 0, none⟩), s8, s9, s10, s11, s12, r13, r14, s15, r16, s17, s18, s19, s20, s21, s22, s23, s24, s25, s26, s27, s28, s29, s30, s31, s32, s33, s34, s35, s36, s37, s38, s39, s40, s41, s42, s43, s44, s45, s46, s47, s48, s49, s50, s51, s52, s53, s54, s55, s56, s57, s58, s59, s60, s61, s62, s63, s64, s65, s66, s67, s68, s69, s70, s71, s72, s73, s74, s75, s76, s77, s78, s79, s80, s81, s82, s83, s84, s85, s86, s87, s88, r89, r90, r91, r92, r93, r94, r95, r96, r97, r98, r99, r100, r101, r102, r103, r104, r105, r106, r107, r108, r109, r110, r111, r112, r113, r114, r115, r116, r117, r118, r119, r120, r121, r122, r123, s124, s125, s126, s127, s128], defers := [] } w') :
    ((Try.f48.body.bind (loopAt 23)).getD .skip).wp Try.prog (Exit.inBlock 4 Q) { tmps := #[s0, .pointer (some ⟨h, 0, none⟩), s2, s3, .slice (some ⟨wb, 0, none⟩) n n, .slice (some ⟨hb, 0, none⟩) n n, s6, .pointer (some ⟨R, 0, none⟩), s8, s9, s10, s11, s12, .slice none 0 0, s14, s15, s16, s17, s18, s19, s20, s21, s22, s23, s24, s25, s26, s27, s28, s29, s30, s31, s32, s33, s34, s35, s36, s37, s38, s39, s40, s41, s42, s43, s44, s45, s46, s47, s48, s49, s50, s51, s52, s53, s54, s55, s56, s57, s58, s59, s60, s61, s62, s63, s64, s65, s66, s67, s68, s69, s70, s71, s72, s73, s74, s75, s76, s77, s78, s79, s80, s81, s82, s83, s84, s85, s86, s87, s88, s89, s90, s91, s92, s93, s94, s95, s96, s97, s98, s99, s100, s101, s102, s103, s104, s105, s106, s107, s108, s109, s110, s111, s112, s113, s114, s115, s116, s117, s118, s119, s120, s121, s122, s123, s124, s125, s126, s127, s128], defers := [] } w := by
  conv => arg 2; whnf
  dsimp only
  obtain ⟨i3, hi3, hz0, hz1, hz2⟩ := info_parts info3
  go_loopw [13] (fun ov wr => ∃ (j : Nat) (a : Option Addr) (c : Nat), j ≤ n ∧ ov = .slice a j c ∧ Hid (LC w0 P wb hb R D j (.slice a j c) wr)) (fun ov _ => n - slLen ov)
  case atStart => exact ⟨0, none, 0, by omega, rfl, hst⟩
  case round =>
    obtain ⟨j, oa, oc, hj, rfl, hh⟩ := hrel
    obtain ⟨wt, vs, bh, l, hv, r, hot, hkc, hgl⟩ := hh.out
    have hcR := hot.os.heap.cell
    have hfR := hot.os.heap.fz
    have hrl := hkc.rlen
    rw [hDn.out] at hrl
    obtain ⟨ha, hc, hhv⟩ := owns_val hot.os.heap.own
    obtain ⟨out, hout⟩ : ∃ o, o = greedy D j := ⟨_, rfl⟩
    rw [← hout] at hot hkc hgl
    have HOut := Lib.hid hout
    have HGl := Lib.hid hgl
    have HOT := Lib.hid hot
    have HKC := Lib.hid hkc
    have HHv := Lib.hid hhv
    rw [hhv] at hcR
    clear hot hkc hgl hout hhv hh
    obtain ⟨m, hm⟩ : ∃ m, m = l.length := ⟨_, rfl⟩
    rw [← hm] at hcR hrl
    have HM := Lib.hid hm
    clear hm
    by_cases hm0 : m = 0
    · subst hm0
      have HLE : Hid (LE w0 R D (.slice oa j oc) wr) := by
        have hl : l = [] := List.eq_nil_of_length_eq_zero HM.out.symm
        have hp : pick D (greedy D j) = none := by
          have h1 := HKC.out
          rw [hl, HOut.out] at h1
          exact h1.stop
        have ho : orderL D = out := by rw [HOut.out]; exact orderL_of hp (by rw [hDn.out]; exact hj)
        refine Lib.hid ⟨by rw [ho]; exact HOT.out.own, HOT.out.os.box.below, ?_⟩
        have := HOT.out.os.l1; have := HOT.out.os.l3; omega
      go_wp2_with fail
      exact HLE
    · have hmb : decide (0 < (m : Int)) = true := by simp; omega
      have hmn : decide (0 < m) = true := by simp; omega
      obtain ⟨m1, hm1⟩ : ∃ k, m = k + 1 := ⟨m - 1, by omega⟩
      have HM1 := Lib.hid hm1
      clear hm1
      obtain ⟨x, hx⟩ : ∃ x, x = l.getD 0 0 := ⟨_, rfl⟩
      have HX := Lib.hid hx
      clear hx
      have hta := fun w => run_assert w x
      go_wp2_with fail
      refine Calls.mono (pop59 wr R m1 l hv HOT.out.os.heap (by rw [← HM.out]; exact HM1.out) (by have := HM1.out; omega)) ?_
      rintro e w5 ⟨rfl, l', hv', hp, hhp, hwr, hl'⟩
      rw [← HX.out] at hp ⊢
      obtain ⟨b, hxb, hpk, hkd⟩ := HKC.out.pop hp (by rw [HX.out]; exact heap_min HOT.out.os.heap.heap)
      subst hxb
      have hps := pick_spec hpk
      have hbn : b < n := by have := hps.1; rw [hDn.out] at this; exact this
      have hbo : b ∉ out := (readyN_iff.1 hps.2.1).2.1
      have HRb := Lib.hid hps.2.1
      have HPk := Lib.hid hpk
      have HKD := Lib.hid hkd
      have HBo := Lib.hid hbo
      have HOT5 := Lib.hid (HOT.out.heaped hwr hhp)
      have hr5 := HOT5.out.os.rsize
      have hjn : j < n := by
        have h1 := (Told.add (P := D) (out := out) (b := b) (by rw [HOut.out]; exact greedy_told D j) hps.1 hps.2.1).lenN
        rw [List.length_append, HGl.out, hDn.out] at h1; simp only [List.length_singleton] at h1; omega
      have hvb : (⟨hb, b, none⟩ : Addr).block = hb := rfl
      clear hp hhp hwr hl' hpk hkd hps hbo hvb
      go_wp2_with (at_builtin; refine wpList_append_lies _ rfl _ _ _ rfl (R + 1) 3 i3 (.int .i64 0) 1 8 Try.underlying25 hi3 hz0 hz1 hz2 rfl (by decide) (.slice oa j oc) j (nums out) rfl (by have h1 := HOT5.out.own.alloc (Obj.cells #[Value.int .i64 b] 3); rw [HGl.out] at h1; exact h1) ⟨w5.heap.size, 0, none⟩ 1 1 [.int .i64 b] rfl rfl (one_new (cell_newW _ _ _)) (by simp [Value.oneCell']) (by omega) (by unfold maxLen; omega) (by omega) (by simp; omega) (w5.heap.size + 1) (by simp) ?_)
      intro gB cB w9 ho9 hg9 hat9 hlt9
      have hgr9 : w5.grownBy w9 (Value.slice oa j oc).ownBlock := ggrown (World.grownBy_alloc _ _ _) hg9
      have hot9 := HOT5.out.told (b := b) (g := gB) (c := cB) hgr9 (by rw [HGl.out]; exact ho9) hat9
      rw [HGl.out] at hot9
      have hhd := hot9.os.heads.cell (i := b) (by have := hPn.out; omega)
      obtain ⟨va, vc, hvv⟩ := owns_val (hot9.os.rows b (by have := hPn.out; omega))
      rw [hvv] at hhd
      obtain ⟨J, hJ⟩ : ∃ q, q = (bh b).length := ⟨_, rfl⟩
      rw [← hJ] at hhd
      have hJ6 : J ≤ 2100 := by have := HKD.out.len b; rw [hDn.out] at this; omega
      have HJ := Lib.hid hJ
      have HVv := Lib.hid hvv
      have HLD0 : Hid (LD w0 P wb hb R D vs bh out b 0 (.slice (some ⟨gB, 0, none⟩) (j + 1) cB) w9) := Lib.hid ⟨wt, l', hv', _, hot9, HKD.out⟩
      clear ho9 hg9 hat9 hlt9 hgr9 hot9 hvv hJ
      go_wp2_with fail
      go_loopw [104] (fun qv wr => ∃ q : Nat, q ≤ J ∧ qv = .int .i64 q ∧ Hid (LD w0 P wb hb R D vs bh out b q (.slice (some ⟨gB, 0, none⟩) (j + 1) cB) wr)) (fun qv _ => J - (intOf qv).toNat)
      case atStart => exact ⟨0, by omega, rfl, HLD0⟩
      case round =>
        obtain ⟨q, hq, rfl, hqh⟩ := hrel
        obtain ⟨wt, l, hv, r, hot, hkd⟩ := hqh.out
        by_cases hlq : q < J
        · have hfine := hkd.fine HBo.out (by rw [← HJ.out]; exact hlq)
          have hbp : b < P.bs.length := by have := hPn.out; omega
          have hrow := hot.os.rows b hbp
          have hJl := HJ.out
          have hvv := HVv.out
          have hxc : ∃ b9 o9, va = some ⟨b9, o9, none⟩ ∧ wr.cell? ⟨b9, o9 + q, none⟩ = some (.int .i64 (((bh b).getD q 0 : Nat) : Int)) := by
            rw [hvv] at hrow
            obtain ⟨g9, c9, hv9, _, _, hc9⟩ := owns_cells hrow (by omega)
            injection hv9 with hv9
            refine ⟨g9, 0, hv9, ?_⟩
            have hl9 : (nums (bh b)).length = J := by unfold nums; rw [List.length_map]; exact hJl.symm
            have := hc9 q (by rw [hl9]; exact hlq)
            rw [Nat.zero_add, this]
            unfold nums
            rw [List.getElem_map, List.getD_eq_getElem?_getD, List.getElem?_eq_getElem (by omega)]; rfl
          obtain ⟨b9, o9, hva, hx9⟩ := hxc
          obtain ⟨k, hk⟩ : ∃ k, k = (bh b).getD q 0 := ⟨_, rfl⟩
          rw [← hk] at hfine hx9
          obtain ⟨f1, f2, f3, f4, f5⟩ := hfine
          have hkn : k < n := by rw [hDn.out] at f1; exact f1
          have hd4 : wt k ≤ 4 := by
            have h1 := h4.out k hkn
            have h2 : (deps D k).length ≤ (D.blk k).ins.length := by rw [← depsTo_all]; exact depsTo_len D k _
            omega
          have hwl := hot.os.waits.cell (i := k) (by have := hPn.out; omega)
          have hwf := hot.os.waits.frozen k
          have hrl := hkd.rlen
          rw [hDn.out] at hrl
          obtain ⟨c, hc⟩ : ∃ c, c = wt k := ⟨_, rfl⟩
          rw [← hc] at hwl f3 hd4
          have hot3 := hot.wset (i := k) (x := c - 1)
          have hcc : ((c - 1 : Nat) : Int) = (c : Int) - 1 := by omega
          rw [hcc] at hot3
          have HC := Lib.hid hc
          have HOT3 := Lib.hid hot3
          have HKD2 := Lib.hid hkd
          have HK := Lib.hid hk
          have hql : q < (bh b).length := by omega
          have HQl := Lib.hid hql
          have hc0 : 0 ≤ (c : Int) - 1 := by omega
          clear hrow hJl hvv f1 f2 f4 f5 hc hcc hot hkd hot3 hk hql hqh hbp HLD0
          subst hva
          by_cases hc1 : c = 1
          · have hcb : ((c : Int) - 1 == 0) = true := by simp; omega
            have HC1 := Lib.hid hc1
            clear hc1
            go_wp2_with fail
            refine Calls.mono (push58 (wr.setCell ⟨wb, k, none⟩ (.int .i64 ((c : Int) - 1))) R l hv (k : Int) HOT3.out.os.heap (by omega)) ?_
            rintro e w7 ⟨rfl, l2, hv2, hp2, hhp2, hwr2⟩
            have HN : Hid (LD w0 P wb hb R D vs bh out b (q + 1) (.slice (some ⟨gB, 0, none⟩) (j + 1) cB) w7) := by
              obtain ⟨r', hr'⟩ := HKD2.out.step (l' := l2) HBo.out (by rw [HOut.out]; exact greedy_closed D j) HRb.out HQl.out HK.out.symm (by rw [if_pos (by rw [← HC.out]; exact HC1.out)]; exact hp2)
              refine Lib.hid ⟨_, l2, hv2, r', HOT3.out.heaped hwr2 hhp2, ?_⟩
              rw [← HC.out] at hr'; exact hr'
            clear hp2 hhp2 hwr2
            go_wp2_with fail
            go_roundw
            case rel => exact ⟨q + 1, by omega, by go_num, HN⟩
            case measure => simp [intOf]; omega
          · have hcb : ((c : Int) - 1 == 0) = false := by simp; omega
            have HC1 := Lib.hid hc1
            have HN : Hid (LD w0 P wb hb R D vs bh out b (q + 1) (.slice (some ⟨gB, 0, none⟩) (j + 1) cB) (wr.setCell ⟨wb, k, none⟩ (.int .i64 ((c : Int) - 1)))) := by
              obtain ⟨r', hr'⟩ := HKD2.out.step (l' := l) HBo.out (by rw [HOut.out]; exact greedy_closed D j) HRb.out HQl.out HK.out.symm (by rw [if_neg (by rw [← HC.out]; exact HC1.out)])
              refine Lib.hid ⟨_, l, hv, r', HOT3.out, ?_⟩
              rw [← HC.out] at hr'; exact hr'
            clear hc1
            go_wp2_with fail
            go_roundw
            case rel => exact ⟨q + 1, by omega, by go_num, HN⟩
            case measure => simp [intOf]; omega
        · obtain rfl : q = J := by omega
          have HN : Hid (LC w0 P wb hb R D (j + 1) (.slice (some ⟨gB, 0, none⟩) (j + 1) cB) wr) := by
            have hg := greedy_next (P := D) (j := j) (b := b) (by rw [← HOut.out]; exact HPk.out)
            refine Lib.hid ⟨wt, vs, bh, l, hv, r, ?_, ?_, ?_⟩
            · rw [hg, ← HOut.out]; exact hot
            · rw [hg, ← HOut.out]
              have h1 := hkd
              rw [HJ.out] at h1
              exact h1.done HBo.out (by rw [HOut.out]; exact greedy_closed D j) HRb.out
            · rw [hg, ← HOut.out, List.length_append, HGl.out]; rfl
          clear hot hkd hqh
          go_wp2_with fail
          go_roundw
          case rel => exact ⟨j + 1, _, _, by omega, rfl, HN⟩
          case measure => simp [slLen]; omega
end Go.Proofs.Ytholafodachjnaa
