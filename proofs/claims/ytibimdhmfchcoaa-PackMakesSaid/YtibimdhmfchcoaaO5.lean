import Derived.Test.YtibimdhmfchcoaaO4
import Derived.Test.YtibimdhmfchcoaaC1
namespace Go.Proofs.Ytibimdhmfchcoaa
open Go.RowKit Go.Shelf Go.Maps
set_option linter.unusedVariables false
set_option linter.unusedSimpArgs false
theorem info24 : (Try.prog.info? 24).map (fun i => (i.zero, i.size, i.bytes)) = some (some (.slice none 0 0), 1, 24) := by kernel_rfl
def LA (w0 : World) (P : PackV) (wb hb R : Nat) (D : PackD) (i : Nat) (wr : World) : Prop := ∃ wt vs bh l hv, OS w0 P wb hb R wt vs bh l hv wr ∧ KA D i wt bh l
def LB (w0 : World) (P : PackV) (wb hb R : Nat) (D : PackD) (i q : Nat) (wr : World) : Prop := ∃ wt vs bh l hv, OS w0 P wb hb R wt vs bh l hv wr ∧ KB D i q wt bh l
theorem depsTo_len (P : PackD) (i q : Nat) : (depsTo P i q).length ≤ q := by
  unfold depsTo
  rw [List.length_map]
  exact Nat.le_trans (List.length_filter_le _ _) (by rw [List.length_take]; omega)

set_option maxRecDepth 100000 in
set_option maxHeartbeats 8000000 in
theorem orderL1 (Q : Exit → Act → World → Prop) (hpan : ∀ c (d : Option Tmp) v a w, Q (.panic c) (a.put d v) w → Q (.panic c) a w) (w0 w : World) (P : PackV) (D : PackD) (n : Nat) (hn : n ≤ 500) (hP : Hid (PackAt w0 P)) (hPn : Hid (P.bs.length = n)) (hDn : Hid (D.n = n)) (hDk : Hid (∀ b, D.blk b = (P.bs.getD b default).data)) (ins : Int) (hi0 : 0 ≤ ins) (hi1 : ins ≤ 100) (hins : Hid (P.ins = ins)) (hDi : Hid (D.ins = ins)) (hNow : Hid (∀ i, nowTo D (i + 1) = nowTo D i + if (P.bs.getD i default).ff then 0 else 1)) (hInW : Hid (∀ b, b < n → (∀ x ∈ (P.bs.getD b default).ins, 0 ≤ x ∧ x < ins + n) ∧ (P.bs.getD b default).ins.length ≤ 4)) (ba : Option Addr) (bc : Nat) (hba : Hid (P.ba = ba)) (hbc : Hid (P.bc = bc)) (h wb hb R : Nat) (hh0 : Hid (w0.heap.size = h)) (hst : Hid (LA w0 P wb hb R D 0 w))
    (s0 s2 s3 s8 s9 s10 s11 s12 s13 s14 s15 s16 s17 s18 s19 s20 s21 s22 s23 s24 s25 s26 s27 s28 s32 s33 s34 s35 s36 s37 s38 s39 s40 s41 s42 s43 s44 s45 s46 s47 s48 s49 s50 s51 s52 s53 s54 s55 s56 s57 s58 s59 s60 s61 s62 s63 s64 s65 s66 s67 s68 s69 s70 s71 s72 s73 s74 s75 s76 s77 s78 s79 s80 s81 s82 s83 s84 s85 s86 s87 s88 s89 s90 s91 s92 s93 s94 s95 s96 s97 s98 s99 s100 s101 s102 s103 s104 s105 s106 s107 s108 s109 s110 s111 s112 s113 s114 s115 s116 s117 s118 s119 s120 s121 s122 s123 s124 s125 s126 s127 s128 : Value)
    (hexit : ∀ (r8 r9 r11 r12 r31 r32 r33 r34 r35 r36 r37 r38 r39 r40 r41 r42 r43 r44 r45 r46 r47 r48 r49 r50 r51 r52 r53 r54 r55 r56 r57 r58 r59 r60 r61 r62 r63 r64 r65 r66 r67 r68 r69 r70 r71 r72 r73 r74 r75 r76 r77 r78 r79 r80 r81 r82 r83 r84 r85 r86 r87 r88 : Value) (w' : World), Hid (LA w0 P wb hb R D n w') → Q .normal { tmps := #[s0, .pointer (some ⟨h, 0, none⟩), s2, s3, .slice (some ⟨wb, 0, none⟩) n n, .slice (some ⟨hb, 0, none⟩) n n, .int .i64 (nowTo D n), .pointer (some ⟨R, 0, none⟩), r8, r9, s10, r11, r12, s13, s14, s15, s16, s17, s18, s19, s20, s21, s22, s23, s24, s25, s26, s27, s28, .slice ba n bc, .int .i64 (n : Int), r31, r32, r33, r34, r35, r36, r37, r38, r39, r40, r41, r42, r43, r44, r45, r46, r47, r48, r49, r50, r51, r52, r53, r54, r55, r56, r57, r58, r59, r60, r61, r62, r63, r64, r65, r66, r67, r68, r69, r70, r71, r72, r73, r74, r75, r76, r77, r78, r79, r80, r81, r82, r83, r84, r85, r86, r87, r88, s89, s90, s91, s92, s93, s94, s95, s96, s97, s98, s99, s100, s101, s102, s103, s104, s105, s106, s107, s108, s109, s110, s111, s112, s113, s114, s115, s116, s117, s118, s119, s120, s121, s122, s123, s124, s125, s126, s127, s128], defers := [] } w') :
    ((Try.f29.body.bind (loopAt 7)).getD .skip).wp Try.prog (Exit.inBlock 0 Q) { tmps := #[s0, .pointer (some ⟨h, 0, none⟩), s2, s3, .slice (some ⟨wb, 0, none⟩) n n, .slice (some ⟨hb, 0, none⟩) n n, .int .i64 0, .pointer (some ⟨R, 0, none⟩), s8, s9, s10, s11, s12, s13, s14, s15, s16, s17, s18, s19, s20, s21, s22, s23, s24, s25, s26, s27, s28, .slice ba n bc, .int .i64 (n : Int), .int .i64 0, s32, s33, s34, s35, s36, s37, s38, s39, s40, s41, s42, s43, s44, s45, s46, s47, s48, s49, s50, s51, s52, s53, s54, s55, s56, s57, s58, s59, s60, s61, s62, s63, s64, s65, s66, s67, s68, s69, s70, s71, s72, s73, s74, s75, s76, s77, s78, s79, s80, s81, s82, s83, s84, s85, s86, s87, s88, s89, s90, s91, s92, s93, s94, s95, s96, s97, s98, s99, s100, s101, s102, s103, s104, s105, s106, s107, s108, s109, s110, s111, s112, s113, s114, s115, s116, s117, s118, s119, s120, s121, s122, s123, s124, s125, s126, s127, s128], defers := [] } w := by
  conv => arg 2; whnf
  dsimp only
  obtain ⟨i3, hi3, hz0, hz1, hz2⟩ := info_parts info3
  go_loopw [6, 31] (fun mv iv wr => ∃ i : Nat, i ≤ n ∧ iv = .int .i64 i ∧ mv = .int .i64 (nowTo D i) ∧ Hid (LA w0 P wb hb R D i wr)) (fun _ iv _ => n - (intOf iv).toNat)
  case atStart => exact ⟨0, by omega, rfl, rfl, hst⟩
  case round =>
    obtain ⟨i, hi, rfl, rfl, hh⟩ := hrel
    have hnl := nowTo_le D i
    by_cases hlt : i < n
    · obtain ⟨wt, vs, bh, l, hv, hos, hka⟩ := hh.out
      have hn := hPn.out
      obtain ⟨b, off, hLa0, hbb, d0, d1, d2, d3⟩ := (hP.out.below hos.box.below (Nat.le_refl _)).blk i (by omega)
      have hEach := (hP.out.below hos.box.below (Nat.le_refl _)).each _ (getD_mem P.bs default (by omega : i < P.bs.length))
      have hIn := hInW.out i hlt
      have hns := hNow.out i
      have hblk := hDk.out i
      rw [hba.out] at hLa0
      obtain ⟨L, hLe⟩ : ∃ L, L = P.bs.getD i default := ⟨_, rfl⟩
      rw [← hLe] at d0 d1 d2 d3 hEach hIn hns hblk
      obtain ⟨La, Lc, Li, Lt, Lf, Ln⟩ := L
      dsimp only at d0 d1 d2 d3 hEach hIn hns hblk
      subst hLa0
      obtain ⟨W2, hW2⟩ : ∃ W2, W2 = wr.alloc (Obj.cells #[Value.slice La Li.length Lc, Value.int .i64 Lt, Value.bool Lf, Value.bool Ln] 43) := ⟨_, rfl⟩
      have hb2 : Below wr.heap.size wr W2 := by rw [hW2]; exact (Below.refl _ _).alloc (Nat.le_refl _) _
      have hos2 := hos.low hb2
      have e0 : W2.cell? ⟨wr.heap.size, 0, none⟩ = some (.slice La Li.length Lc) := by rw [hW2]; simp
      have e2 : W2.cell? ⟨wr.heap.size, 2, none⟩ = some (.bool Lf) := by rw [hW2]; simp
      have HW2 := Lib.hid hW2
      have HNs := Lib.hid hns
      have HLe := Lib.hid hLe
      have HBk := Lib.hid hblk
      have hnow : D.now i = !Lf := by unfold PackD.now; rw [hblk]
      have HNw := Lib.hid hnow
      have HKA := Lib.hid hka
      have HOS := Lib.hid hos2
      have HSqB := Lib.hid (hEach.1)
      have HBB := Lib.hid hb2
      have HIn := Lib.hid hIn.1
      have hl4 := hIn.2
      have hR := hos.rsize
      have hlw0 : w0.heap.size < wr.heap.size := by have := hos.l1; have := hos.l3; omega
      obtain ⟨nn, hnn⟩ : ∃ n, n = nowTo D i := ⟨_, rfl⟩
      rw [← hnn] at HNs hnl ⊢
      clear hos hka hns hblk hnow hEach hIn hLe hn hb2 hW2 hos2 hh hnn
      cases Lf
      · have HLB0 : Hid (LB w0 P wb hb R D i 0 W2) := Lib.hid ⟨wt, vs, bh, l, hv, HOS.out, HKA.out.start⟩
        have x0 := HOS.out.box.c0
        rw [hins.out, hh0.out] at x0
        clear HKA
        go_wp2_with fail
        rw [← HW2.out]
        go_wp2_with fail
        go_loopw [43] (fun qv wq => ∃ q : Nat, q ≤ Li.length ∧ qv = .int .i64 q ∧ Hid (LB w0 P wb hb R D i q wq)) (fun qv _ => Li.length - (intOf qv).toNat)
        case atStart => exact ⟨0, by omega, rfl, HLB0⟩
        case round =>
          obtain ⟨q, hq, rfl, hqh⟩ := hrel
          obtain ⟨wt, vs, bh, l, hv, hos, hkb⟩ := hqh.out
          by_cases hlq : q < Li.length
          · have hEq := ((hP.out.below hos.box.below (Nat.le_refl _)).each _ (getD_mem P.bs default (by have := hPn.out; omega : i < P.bs.length))).1
            rw [← HLe.out] at hEq
            dsimp only at hEq
            obtain ⟨b3, off3, hLa, hb3, hc3⟩ := hEq.at q hlq
            have x2 := hc3 q hlq
            unfold ints at x2
            have hxin := HIn.out _ (getD_mem Li 0 hlq)
            have hx0 := hos.box.c0
            have hx1 := hos.box.c1
            rw [hins.out, hh0.out] at hx0
            rw [hba.out, hPn.out, hbc.out, hh0.out] at hx1
            obtain ⟨x, hx⟩ : ∃ x, x = Li.getD q 0 := ⟨_, rfl⟩
            rw [← hx] at x2 hxin
            have HX : Hid ((D.blk i).ins.getD q 0 = x) := Lib.hid (by rw [HBk.out]; exact hx.symm)
            have hql : q < (D.blk i).ins.length := by rw [HBk.out]; exact hlq
            have HQl := Lib.hid hql
            have HKB := Lib.hid hkb
            have HOS2 := Lib.hid hos
            clear hx hc3 hEq hql hos hkb hqh x0
            subst hLa
            by_cases hxd : ins ≤ x
            · obtain ⟨k, hk⟩ : ∃ k : Nat, x = ins + (k : Int) := ⟨(x - ins).toNat, by omega⟩
              subst hk
              have hkn : k < n := by omega
              have hks : ins + (k : Int) - ins = k := by omega
              obtain ⟨q1, off1, hba1, _, _, _, f2, _⟩ := (hP.out.below HOS2.out.box.below (Nat.le_refl _)).blk k (by have := hPn.out; omega)
              have hdep : depOf D (ins + (k : Int)) = !(P.bs.getD k default).ff := by
                unfold depOf PackD.now
                rw [hDi.out, hks, Int.toNat_natCast, hDk.out, decide_eq_true (by omega)]; simp
              rw [hba.out] at hba1
              injection hba1 with hba1
              injection hba1 with hba1 hba2
              subst hba1 hba2
              obtain ⟨kf, hkf⟩ : ∃ f, f = (P.bs.getD k default).ff := ⟨_, rfl⟩
              rw [← hkf] at f2 hdep
              have HDep := Lib.hid hdep
              have hk0 : decide ((0 : Int) ≤ (k : Int)) = true := by simp
              clear hdep hkf
              cases kf
              · have hwl := HOS2.out.waits.cell (i := i) (by have := hPn.out; omega)
                have hwf := HOS2.out.waits.frozen i
                obtain ⟨m, hm⟩ : ∃ m, m = wt i := ⟨_, rfl⟩
                have hm4 : m ≤ 4 := by rw [hm, HKB.out.hw, if_pos rfl]; have := depsTo_len D i q; omega
                rw [← hm] at hwl
                have hos3 := HOS2.out.wset (i := i) (x := m + 1)
                have hhd := hos3.heads.cell (i := k) (by have := hPn.out; omega)
                have hhf := hos3.heads.frozen k
                have hhd0 := HOS2.out.heads.cell (i := k) (by have := hPn.out; omega)
                have hhf0 := HOS2.out.heads.frozen k
                have hown := hos3.rows k (by have := hPn.out; omega)
                obtain ⟨vk, hvk⟩ : ∃ v, v = vs k := ⟨_, rfl⟩
                rw [← hvk] at hhd hhd0 hown
                have HHd := Lib.hid hhd
                have HHf := Lib.hid hhf
                obtain ⟨bk, hbk⟩ : ∃ v, v = bh k := ⟨_, rfl⟩
                rw [← hbk] at hown
                have hbl : bk.length ≤ 2100 := by rw [hbk]; have := HKB.out.len k; omega
                have hl3 := hos3.l3
                have hl4' := hos3.l4
                have hRs := HOS2.out.rsize
                have HM := Lib.hid hm
                have HVk := Lib.hid hvk
                have HBh := Lib.hid hbk
                have HOS3 := Lib.hid hos3
                have HOwn := Lib.hid hown
                have hne : hb ≠ wb := fun e => hos3.l5 e.symm
                have hne2 : wb ≠ hb := hos3.l5
                clear hos3 hown hm hvk hbk hhd hhf
                go_wp2_with (at_builtin; refine wpList_append_lies _ rfl _ _ _ rfl (R + 1) 3 i3 (.int .i64 0) 1 8 Try.underlying24 hi3 hz0 hz1 hz2 rfl (by decide) vk bk.length (nums bk) rfl (HOwn.out.alloc _) ⟨wr.heap.size, 0, none⟩ 1 1 [.int .i64 i] rfl rfl (one_new (by rw [← set_size wr wb i (.int .i64 ((m : Int) + 1))]; exact cell_newW _ _ _)) (by simp [Value.oneCell']) (by omega) (by unfold maxLen; omega) (by omega) (by simp; omega) (wr.heap.size + 1) (by simp) ?_)
                intro gB cB w9 ho9 hg9 hat9 hlt9
                have hgr9 : (wr.setCell ⟨wb, i, none⟩ (.int .i64 ((m : Int) + 1))).grownBy w9 vk.ownBlock := ggrown (World.grownBy_alloc _ _ _) hg9
                have hnb : some hb ≠ vk.ownBlock := fun e => by have := (HOwn.out.lt hb e.symm).1; omega
                have k9 := hgr9.block hb (by rw [set_size]; omega) hnb
                have y1 : w9.cell? ⟨hb, k, none⟩ = some vk := (World.cell?_of_block (a := ⟨_, _, none⟩) k9).trans HHd.out
                have yf : w9.frozen? ⟨hb, k, none⟩ = false := (World.frozen?_of_block (a := ⟨_, _, none⟩) k9).trans HHf.out
                have HAp : Hid (LB w0 P wb hb R D i (q + 1) (w9.setCell ⟨hb, k, none⟩ (.slice (some ⟨gB, 0, none⟩) (bk.length + 1) cB))) := by
                  have hkp : k < P.bs.length := by have := hPn.out; omega
                  have h1 := HOS3.out.app (k := k) (i := i) (g := gB) (c := cB) (w9 := w9) hkp (by rw [← HVk.out]; exact hgr9) (by rw [← HBh.out]; exact ho9) (by rw [← HVk.out, set_size]; exact hat9)
                  rw [← HBh.out] at h1
                  have h2 := HKB.out.add (x := k) HQl.out (by rw [HX.out]; exact HDep.out) (by rw [HX.out, hDi.out, hks]; simp)
                  rw [← HBh.out, ← HM.out] at h2
                  exact Lib.hid ⟨_, _, _, l, hv, h1, h2⟩
                clear ho9 hg9 hat9 hlt9 hgr9 hnb k9 hhd0 hhf0
                go_wp2_with fail
                go_roundw
                case rel => exact ⟨q + 1, by omega, by go_num, HAp⟩
                case measure => simp [intOf]; omega
              · go_wp2_with fail
                go_roundw
                case rel => exact ⟨q + 1, by omega, by go_num, Lib.hid ⟨wt, vs, bh, l, hv, HOS2.out, HKB.out.skip HQl.out (by rw [HX.out]; exact HDep.out)⟩⟩
                case measure => simp [intOf]; omega
            · have hdep : depOf D x = false := by unfold depOf; rw [hDi.out, decide_eq_false hxd]; rfl
              have HDep := Lib.hid hdep
              obtain ⟨d, hd⟩ : ∃ d, x - ins = d := ⟨_, rfl⟩
              have hd0 : decide (0 ≤ d) = false := by simp; omega
              clear hdep
              go_wp2_with fail
              go_roundw
              case rel => exact ⟨q + 1, by omega, by go_num, Lib.hid ⟨wt, vs, bh, l, hv, HOS2.out, HKB.out.skip HQl.out (by rw [HX.out]; exact HDep.out)⟩⟩
              case measure => simp [intOf]; omega
          · obtain rfl : q = Li.length := by omega
            have hwl := hos.waits.cell (i := i) (by have := hPn.out; omega)
            obtain ⟨m, hm⟩ : ∃ m, m = wt i := ⟨_, rfl⟩
            rw [← hm] at hwl
            have HM := Lib.hid hm
            have HOS2 := Lib.hid hos
            have HKB := Lib.hid hkb
            have HL4 : Hid ((D.blk i).ins.length ≤ 4) := Lib.hid (by rw [HBk.out]; exact hl4)
            have HQl : Hid ((D.blk i).ins.length = Li.length) := Lib.hid (by rw [HBk.out])
            have hll : l.length ≤ 500 := by have := hkb.llen; omega
            clear hm hos hkb hqh x0
            by_cases hm0 : m = 0
            · subst hm0
              go_wp2_with fail
              refine Calls.mono (push58 wr R l hv (i : Int) HOS2.out.heap (by omega)) ?_
              rintro e w5 ⟨rfl, l', hv', hp, hhp, hwr⟩
              have HN : Hid (LA w0 P wb hb R D (i + 1) w5) := Lib.hid ⟨_, _, _, l', hv', HOS2.out.heaped hwr hhp, by
                have h1 := HKB.out
                rw [← HQl.out] at h1
                exact h1.done HNw.out HL4.out (by rw [if_pos HM.out.symm]; exact hp)⟩
              clear hp hhp hwr
              go_wp2_with fail
              go_roundw
              case rel => exact ⟨i + 1, by omega, by go_num, by rw [HNs.out]; go_num, HN⟩
              case measure => simp [intOf]; omega
            · have hmb : ((m : Int) == 0) = false := by simpa using hm0
              have HN : Hid (LA w0 P wb hb R D (i + 1) wr) := Lib.hid ⟨_, _, _, l, hv, HOS2.out, by
                have h1 := HKB.out
                rw [← HQl.out] at h1
                exact h1.done HNw.out HL4.out (by rw [if_neg (fun e => hm0 (by rw [HM.out]; exact e))])⟩
              clear hm0
              go_wp2_with fail
              go_roundw
              case rel => exact ⟨i + 1, by omega, by go_num, by rw [HNs.out]; go_num, HN⟩
              case measure => simp [intOf]; omega
      · clear HSqB
        go_wp2_with fail
        rw [← HW2.out]
        go_roundw
        case rel => exact ⟨i + 1, by omega, by go_num, by rw [HNs.out]; rfl, Lib.hid ⟨wt, vs, bh, l, hv, HOS.out, HKA.out.skip HNw.out⟩⟩
        case measure => simp [intOf]; omega
    · obtain rfl : i = n := by omega
      go_wp2_with fail
      exact hh
end Go.Proofs.Ytibimdhmfchcoaa

