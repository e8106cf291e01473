import Derived.Test.YtibimdhmfchcoaaC4
namespace Go.Proofs.Ytibimdhmfchcoaa
open Go.RowKit Go.Shelf Go.Maps
set_option linter.unusedVariables false
set_option linter.unusedSimpArgs false
theorem lutBlks_length (N : NetV) (g : Int → Bool) (f : Int → Int) (i : Nat) : (lutBlks N g f i).length ≤ i := by
  induction i with
  | zero => simp [lutBlks]
  | succ i ih =>
    unfold lutBlks; split
    · omega
    · rw [List.length_append, List.length_singleton]; omega

set_option maxRecDepth 100000 in
set_option maxHeartbeats 8000000 in
theorem packL5 (Q : Exit → Act → World → Prop) (hpan : ∀ c (d : Option Tmp) v a w, Q (.panic c) (a.put d v) w → Q (.panic c) a w) (w0 w : World) (N : NetV) (hN : Hid (NetAt w0 N)) (hins : N.ins ≤ 100) (hins0 : 0 ≤ N.ins) (hhol : N.holds.length ≤ 100) (hluts : N.luts.length ≤ 200) (hlt4 : Hid (∀ l ∈ N.luts, l.ins.length ≤ 4)) (mb pk lo h cnt c2 xb : Nat) (f : Int → Int) (hf : Hid (∀ k, I64 (f k))) (g : Int → Bool) (pre : List BlkD) (hpre : pre.length ≤ 100) (ov : Value) (la : Option Addr) (hla : Hid (N.la = la)) (hxb : xb < lo) (hnp : xb ≠ pk) (hst : Hid (∃ bv bs, Pk w0 N mb pk lo cnt f bv ov w ∧ BMap w xb c2 g ∧ Rows lo bs bv [] ov w ∧ bs.map BlkV.data = pre ++ lutBlks N g f 0))
    (s0 s2 s3 s5 s6 s8 s9 s10 s11 s12 s13 s14 s15 s16 s17 s18 s19 s20 s21 s22 s23 s24 s25 s26 s27 s28 s29 s30 s31 s32 s33 s34 s35 s36 s37 s38 s39 s40 s41 s42 s43 s44 s45 s46 s47 s48 s49 s50 s51 s52 s53 s54 s55 s56 s57 s58 s59 s60 s61 s62 s63 s64 s65 s66 s67 s68 s69 s70 s71 s72 s73 s74 s75 s76 s77 s78 s79 s80 s81 s82 s83 s84 s85 s86 s87 s88 s89 s90 s91 s92 s93 s94 s95 s96 s97 s98 s99 s100 s101 s102 s103 s104 s105 s106 s107 s108 s109 s110 s111 s112 s113 s114 s115 s116 s117 s118 s119 s120 s121 s122 s123 s124 s125 s126 s127 s128 s129 s130 s131 s132 s133 s134 s135 s136 s137 s138 s139 s140 s141 s142 s143 s144 s145 s146 s147 s148 s149 s150 s151 s152 s153 s154 s155 s156 s157 s161 s162 s163 s164 s165 s166 s167 s168 s169 s170 s171 s172 s173 s174 s175 s176 s177 s178 s179 s180 s181 s182 s183 s184 s185 s186 s187 s188 s189 s190 s191 s192 s193 s194 s195 s196 s197 s198 s199 s200 s201 s202 s203 s204 s205 s206 s207 s208 s209 s210 s211 s212 s213 s214 s215 s216 s217 s218 s219 s220 s221 s222 s223 s224 s225 s226 s227 s228 s229 s230 s231 s232 s233 s234 s235 s236 s237 s238 s239 s240 s241 s242 s243 s244 s245 s246 s247 s248 s249 : Value)
    (hexit : ∀ (r16 r17 r160 r161 r162 r163 r164 r165 r166 r167 r168 r169 r170 r171 r172 r173 r174 r175 r176 r177 r178 r179 r180 r181 r182 r183 r184 r185 r186 r187 : Value) (w' : World), Hid (∃ bv bs, Pk w0 N mb pk lo cnt f bv ov w' ∧ BMap w' xb c2 g ∧ Rows lo bs bv [] ov w' ∧ bs.map BlkV.data = pre ++ lutBlks N g f N.luts.length) → Q .normal { tmps := #[s0, .pointer (some ⟨h, 0, none⟩), s2, s3, .pointer (some ⟨pk, 0, none⟩), s5, s6, .map (some xb), s8, s9, s10, s11, s12, s13, s14, s15, r16, r17, s18, s19, s20, s21, s22, s23, s24, s25, s26, s27, s28, s29, s30, s31, s32, s33, s34, s35, s36, s37, s38, s39, s40, s41, s42, s43, s44, s45, s46, s47, s48, s49, s50, s51, s52, s53, s54, s55, s56, s57, s58, s59, s60, s61, s62, s63, s64, s65, s66, s67, s68, s69, s70, s71, s72, s73, s74, s75, s76, s77, s78, s79, s80, s81, s82, s83, s84, s85, s86, s87, s88, s89, s90, s91, s92, s93, s94, s95, s96, s97, s98, s99, s100, s101, s102, s103, s104, s105, s106, s107, s108, s109, s110, s111, s112, s113, s114, s115, s116, s117, s118, s119, s120, s121, s122, s123, s124, s125, s126, s127, s128, s129, s130, s131, s132, s133, s134, s135, s136, s137, s138, s139, s140, s141, s142, s143, s144, s145, s146, s147, s148, s149, s150, s151, s152, s153, s154, s155, s156, s157, .slice la N.luts.length N.lc, .int .i64 (N.luts.length : Int), r160, r161, r162, r163, r164, r165, r166, r167, r168, r169, r170, r171, r172, r173, r174, r175, r176, r177, r178, r179, r180, r181, r182, r183, r184, r185, r186, r187, s188, s189, s190, s191, s192, s193, s194, s195, s196, s197, s198, s199, s200, s201, s202, s203, s204, s205, s206, s207, s208, s209, s210, s211, s212, s213, s214, s215, s216, s217, s218, s219, s220, s221, s222, s223, s224, s225, s226, s227, s228, s229, s230, s231, s232, s233, s234, s235, s236, s237, s238, s239, s240, s241, s242, s243, s244, s245, s246, s247, s248, s249], defers := [] } w') :
    ((Try.f16.body.bind (loopAt 36)).getD .skip).wp Try.prog (Exit.inBlock 9 Q) { tmps := #[s0, .pointer (some ⟨h, 0, none⟩), s2, s3, .pointer (some ⟨pk, 0, none⟩), s5, s6, .map (some xb), s8, s9, s10, s11, s12, s13, s14, s15, s16, s17, s18, s19, s20, s21, s22, s23, s24, s25, s26, s27, s28, s29, s30, s31, s32, s33, s34, s35, s36, s37, s38, s39, s40, s41, s42, s43, s44, s45, s46, s47, s48, s49, s50, s51, s52, s53, s54, s55, s56, s57, s58, s59, s60, s61, s62, s63, s64, s65, s66, s67, s68, s69, s70, s71, s72, s73, s74, s75, s76, s77, s78, s79, s80, s81, s82, s83, s84, s85, s86, s87, s88, s89, s90, s91, s92, s93, s94, s95, s96, s97, s98, s99, s100, s101, s102, s103, s104, s105, s106, s107, s108, s109, s110, s111, s112, s113, s114, s115, s116, s117, s118, s119, s120, s121, s122, s123, s124, s125, s126, s127, s128, s129, s130, s131, s132, s133, s134, s135, s136, s137, s138, s139, s140, s141, s142, s143, s144, s145, s146, s147, s148, s149, s150, s151, s152, s153, s154, s155, s156, s157, .slice la N.luts.length N.lc, .int .i64 (N.luts.length : Int), .int .i64 0, s161, s162, s163, s164, s165, s166, s167, s168, s169, s170, s171, s172, s173, s174, s175, s176, s177, s178, s179, s180, s181, s182, s183, s184, s185, s186, s187, s188, s189, s190, s191, s192, s193, s194, s195, s196, s197, s198, s199, s200, s201, s202, s203, s204, s205, s206, s207, s208, s209, s210, s211, s212, s213, s214, s215, s216, s217, s218, s219, s220, s221, s222, s223, s224, s225, s226, s227, s228, s229, s230, s231, s232, s233, s234, s235, s236, s237, s238, s239, s240, s241, s242, s243, s244, s245, s246, s247, s248, s249], defers := [] } w := by
  conv => arg 2; whnf
  dsimp only
  obtain ⟨i4, hi, hz0, hz1, hz2⟩ := info_parts info43
  have hinsI : I64 N.ins := ⟨by omega, by omega⟩
  go_loopw [160] (fun iv wr => ∃ i : Nat, i ≤ N.luts.length ∧ iv = .int .i64 i ∧ Hid (∃ bv bs, Pk w0 N mb pk lo cnt f bv ov wr ∧ BMap wr xb c2 g ∧ Rows lo bs bv [] ov wr ∧ bs.map BlkV.data = pre ++ lutBlks N g f i)) (fun iv _ => N.luts.length - (intOf iv).toNat)
  case atStart => exact ⟨0, by omega, rfl, hst⟩
  case round =>
    obtain ⟨i, hi', rfl, hh⟩ := hrel
    by_cases hlt : i < N.luts.length
    · obtain ⟨bv, bs, hp, hx, hr, hdt⟩ := hh.out
      obtain ⟨b3, off3, hLa3, hbb3, hcs3⟩ := (hN.out.below hp.below (Nat.le_refl _)).luts.at (2 * i) (by omega)
      have e0 := hcs3 (i * 2) (by omega)
      have e1 := hcs3 (i * 2 + 1) (by omega)
      simp only [lutCell] at e0 e1
      rw [if_pos (by omega), show i * 2 / 2 = i by omega] at e0
      rw [if_neg (by omega), show (i * 2 + 1) / 2 = i by omega, ← Nat.add_assoc] at e1
      have hLm := getD_mem N.luts default hlt
      have hea := (hN.out.below hp.below (Nat.le_refl _)).each _ hLm
      have hL4 := hlt4.out _ hLm
      have hbs : lutBlks N g f (i + 1) = if g (fstN N + i) then lutBlks N g f i else lutBlks N g f i ++ [toldD f (N.luts.getD i default).ins (N.luts.getD i default).tab.toNat false false] := rfl
      obtain ⟨L, hLL⟩ : ∃ L, L = N.luts.getD i default := ⟨_, rfl⟩
      rw [← hLL] at e0 e1 hea hL4 hbs
      obtain ⟨La, Lc, Li, Lt⟩ := L
      dsimp only at e0 e1 hea hL4 hbs
      have hbl : bs.length ≤ 100 + i := by
        have h := congrArg List.length hdt
        rw [List.length_map, List.length_append] at h
        have := lutBlks_length N g f i; omega
      obtain ⟨W2, hW2⟩ : ∃ W2, W2 = wr.alloc (Obj.cells #[Value.slice La Li.length Lc, Value.int IntKind.u64 Lt] 41) := ⟨_, rfl⟩
      have hb2 : Below wr.heap.size wr W2 := by rw [hW2]; exact (Below.refl _ _).alloc (Nat.le_refl _) _
      have hsz2 : W2.heap.size = wr.heap.size + 1 := by rw [hW2]; simp
      have hlo := hp.lo'
      have hp2 := hp.low (hb2.mono hlo)
      have b0 : W2.cell? ⟨wr.heap.size, 0, none⟩ = some (Value.slice La Li.length Lc) := by rw [hW2]; simp
      have b1 : W2.cell? ⟨wr.heap.size, 1, none⟩ = some (Value.int IntKind.u64 Lt) := by rw [hW2]; simp
      have sp3 := hp2.p3
      have sp4 := hp2.p4
      have p1 := hp2.p1
      have hlp := hp2.lp
      have hfI : I64 (1 + N.ins + (N.holds.length : Int) + i) := ⟨by omega, by omega⟩
      obtain ⟨gb, hgb⟩ : ∃ b, b = g (1 + N.ins + (N.holds.length : Int) + i) := ⟨_, rfl⟩
      have hgb' : g (fstN N + i) = gb := hgb.symm
      rw [hgb'] at hbs
      have HW : Hid (∀ W, Below wr.heap.size wr W → Pk w0 N mb pk lo cnt f bv ov W ∧ BMap W xb c2 g ∧ Rows lo bs bv [] ov W) := Lib.hid (fun W hW => ⟨hp.low (hW.mono hlo), hx.below hW (by omega), hr.below hW⟩)
      have HT : Hid (∀ q, IMap (W2.drewN q) mb cnt f ∧ (W2.drewN q).cell? ⟨pk, 7, none⟩ = some (.map (some mb)) ∧ Seq (W2.drewN q) La Li.length (ints Li)) := Lib.hid (fun q => ⟨(hp2.drewN q).map, (hp2.drewN q).p7, hea.1.below (belowN hb2) (Nat.le_refl _)⟩)
      have HL : Hid (U64 Lt ∧ (∀ x ∈ Li, I64 x) ∧ Li.length ≤ 4) := Lib.hid ⟨hea.2.1, hea.2.2.1, hL4⟩
      have HLk : Hid (∀ q, (Instr.lookup 72 (.map (some xb)) (.int .i64 (1 + N.ins + (N.holds.length : Int) + i)) false).run Try.prog (W2.drewN q) = .ok (.bool gb) (W2.drewN q)) := Lib.hid (fun q => by rw [hgb]; exact (hx.below (belowN hb2) (by omega)).look _ hfI)
      have HB2 := Lib.hid hb2
      have HOv := Lib.hid hr.oown.lt
      have HOwn := Lib.hid hr.own.lt
      have HW2 := Lib.hid hW2
      have HBs := Lib.hid hbs
      have HBl := Lib.hid hbl
      have HDt := Lib.hid hdt
      have HSz := Lib.hid hsz2
      clear hsz2 hW2 hp hx hr hp2 hcs3 hb2 hbs hgb hgb' hdt hbl hh hfI hea hL4 hLm hLL
      rw [hla.out] at hLa3
      subst hLa3
      go_wp2_with fail
      try rw [← HW2.out]
      refine (first38 _ pk N.holds.length 0 N.hc N.ins _ hinsI hins hhol (by assumption) (by assumption)).mono ?_
      rintro e w7 ⟨rfl, q, rfl⟩
      have hlk := HLk.out q
      cases gb
      · go_wp2_with fail
        refine wp_region_K (S := fun w' => w'.cell? ⟨pk, 1, none⟩ = some bv ∧ w'.cell? ⟨wr.heap.size, 0, none⟩ = some (Value.slice La Li.length Lc) ∧ w'.cell? ⟨wr.heap.size, 1, none⟩ = some (Value.int IntKind.u64 Lt)) 15 (by kernel_rfl) (⟨p1, b0, b1⟩) (fun hHeld => ?_)
        refine wpAnyK_take (i := 0) (v := ?_) (by simp only [List.getElem?_toArray, List.getElem?_cons_succ, List.getElem?_cons_zero]; rfl) (by kernel_rfl) (by kernel_rfl) (by kernel_rfl) (by kernel_rfl) (by intro _ _ _ h; exact hpan _ _ _ _ _ h) (Or.inl ⟨by rfl, ?_⟩) (by assumption) ?_
        rotate_left
        · intro w hSw; (try dsimp only at hSw); go_simp; try with_reducible rfl
        try simp only [Act.put, List.setIfInBounds_toArray, List.set_cons_zero, List.set_cons_succ]
        refine wpAnyK_take (i := 1) (v := ?_) (by simp only [List.getElem?_toArray, List.getElem?_cons_succ, List.getElem?_cons_zero]; rfl) (by kernel_rfl) (by kernel_rfl) (by kernel_rfl) (by kernel_rfl) (by intro _ _ _ h; exact hpan _ _ _ _ _ h) (Or.inl ⟨by rfl, ?_⟩) (by assumption) ?_
        rotate_left
        · intro w hSw; (try dsimp only at hSw); go_simp; try with_reducible rfl
        try simp only [Act.put, List.setIfInBounds_toArray, List.set_cons_zero, List.set_cons_succ]
        refine wpAnyK_take (i := 2) (v := ?_) (by simp only [List.getElem?_toArray, List.getElem?_cons_succ, List.getElem?_cons_zero]; rfl) (by kernel_rfl) (by kernel_rfl) (by kernel_rfl) (by kernel_rfl) (by intro _ _ _ h; exact hpan _ _ _ _ _ h) (Or.inl ⟨by rfl, ?_⟩) (by assumption) ?_
        rotate_left
        · intro w hSw; (try dsimp only at hSw); go_simp; try with_reducible rfl
        try simp only [Act.put, List.setIfInBounds_toArray, List.set_cons_zero, List.set_cons_succ]
        refine wpAnyK_take (i := 3) (v := ?_) (by simp only [List.getElem?_toArray, List.getElem?_cons_succ, List.getElem?_cons_zero]; rfl) (by kernel_rfl) (by kernel_rfl) (by kernel_rfl) (by kernel_rfl) (by intro _ _ _ h; exact hpan _ _ _ _ _ h) (Or.inl ⟨by rfl, ?_⟩) (by assumption) ?_
        rotate_left
        · intro w hSw; (try dsimp only at hSw); go_simp; try with_reducible rfl
        try simp only [Act.put, List.setIfInBounds_toArray, List.set_cons_zero, List.set_cons_succ]
        refine wpAnyK_take (i := 4) (v := ?_) (by simp only [List.getElem?_toArray, List.getElem?_cons_succ, List.getElem?_cons_zero]; rfl) (by kernel_rfl) (by kernel_rfl) (by kernel_rfl) (by kernel_rfl) (by intro _ _ _ h; exact hpan _ _ _ _ _ h) (Or.inl ⟨by rfl, ?_⟩) (by assumption) ?_
        rotate_left
        · intro w hSw; (try dsimp only at hSw); go_simp; try with_reducible rfl
        try simp only [Act.put, List.setIfInBounds_toArray, List.set_cons_zero, List.set_cons_succ]
        refine wpAnyK_take (i := 5) (v := ?_) (by simp only [List.getElem?_toArray, List.getElem?_cons_succ, List.getElem?_cons_zero]; rfl) (by kernel_rfl) (by kernel_rfl) (by kernel_rfl) (by kernel_rfl) (by intro _ _ _ h; exact hpan _ _ _ _ _ h) (Or.inl ⟨by rfl, ?_⟩) (by assumption) ?_
        rotate_left
        · intro w hSw; (try dsimp only at hSw); go_simp; try with_reducible rfl
        try simp only [Act.put, List.setIfInBounds_toArray, List.set_cons_zero, List.set_cons_succ]
        refine wpAnyK_take (i := 6) (v := ?_) (by simp only [List.getElem?_toArray, List.getElem?_cons_succ, List.getElem?_cons_zero]; rfl) (by kernel_rfl) (by kernel_rfl) (by kernel_rfl) (by kernel_rfl) (by intro _ _ _ h; exact hpan _ _ _ _ _ h) (Or.inl ⟨by rfl, ?_⟩) (by assumption) ?_
        rotate_left
        · intro w hSw; (try dsimp only at hSw); go_simp; try with_reducible rfl
        try simp only [Act.put, List.setIfInBounds_toArray, List.set_cons_zero, List.set_cons_succ]
        refine wpAnyK_take (i := 7) (v := ?_) (by simp only [List.getElem?_toArray, List.getElem?_cons_succ, List.getElem?_cons_zero]; rfl) (by kernel_rfl) (by kernel_rfl) (by kernel_rfl) (by kernel_rfl) (by intro _ _ _ h; exact hpan _ _ _ _ _ h) (Or.inl ⟨by rfl, ?_⟩) (by assumption) ?_
        rotate_left
        · intro w hSw; (try dsimp only at hSw); go_simp; try with_reducible rfl
        try simp only [Act.put, List.setIfInBounds_toArray, List.set_cons_zero, List.set_cons_succ]
        refine wpAnyK_take (i := 8) (v := ?_) (by simp only [List.getElem?_toArray, List.getElem?_cons_succ, List.getElem?_cons_zero]; rfl) (by kernel_rfl) (by kernel_rfl) (by kernel_rfl) (by kernel_rfl) (by intro _ _ _ h; exact hpan _ _ _ _ _ h) (Or.inl ⟨by rfl, ?_⟩) (by assumption) ?_
        rotate_left
        · intro w hSw; (try dsimp only at hSw); go_simp; try with_reducible rfl
        try simp only [Act.put, List.setIfInBounds_toArray, List.set_cons_zero, List.set_cons_succ]
        refine wpAnyK_ready (rs := [9]) (by kernel_rfl) (by simp) ?_
        refine AllReadyK.cons (o := _) (by simp only [List.getElem?_toArray, List.getElem?_cons_succ, List.getElem?_cons_zero]; rfl) (fun K hK => ?_) AllReadyK.nil
        go_simp
        go_at_call 39
        refine (told _ pk mb cnt f (HT.out _).1 hf.out (HT.out _).2.1 La Lc Li Lt HL.out.1 HL.out.2.1 (HT.out _).2.2 HL.out.2.2 false false).mono ?_
        rintro e W5 ⟨B, hBd, rfl, hbo, hb7⟩
        obtain ⟨ba, bc, bi, bt, bf, bn⟩ := B
        have hB7' : Below W2.heap.size W2 W5 := (belowN (Below.refl _ _)).trans hb7
        have hB9 : Below wr.heap.size wr W5 := HB2.out.trans (hB7'.mono (by have := HSz.out; omega))
        have c7 : ∀ {b i : Nat} {v : Value}, W2.cell? ⟨b, i, none⟩ = some v → W5.cell? ⟨b, i, none⟩ = some v := fun h => (hB7'.cell (p := ⟨_, _, none⟩) (World.block_lt_of_cell? W2 _ h)).trans h
        have HBd := Lib.hid hBd
        have hHB : Pk w0 N mb pk lo cnt f bv ov W5 ∧ BMap W5 xb c2 g ∧ Rows lo bs bv [] ov W5 ∧ InAt lo bv ov W5 ⟨ba, bc, bi, bt, bf, bn⟩ := by
          have hsz := HSz.out
          obtain ⟨k1, k2, k3⟩ := HW.out _ hB9
          refine ⟨k1, k2, k3, ?_⟩
          rcases Nat.eq_zero_or_pos bi.length with h0 | h0
          · exact .inl h0
          · obtain ⟨gg, cap, hv, hg1, hg2, _, hcc⟩ := owns_shape hbo h0
            injection hv with hv1 hv2 hv3
            have hg1 : W2.heap.size ≤ gg := hg1
            exact .inr ⟨gg, 0, hv1, by omega, hg2, fun e => by have := HOwn.out _ e; omega, fun e => by have := HOv.out _ e; omega, fun i hi => by rw [Nat.zero_add]; exact hcc i hi⟩
        have HB := Lib.hid hHB
        have HB9 := Lib.hid hB9
        have r1 := c7 p1
        have r2 := c7 b0
        have r3 := c7 b1
        clear hbo hBd hHB hB9 hB7' hb7 c7
        go_simp
        refine hK.out _ _ (fun _ => by exact ⟨r1, r2, r3⟩) (fun hH => ?_)
        have hHeld := hH (by decide)
        clear hK K hH
        try simp only [Act.put, List.setIfInBounds_toArray, List.set_cons_zero, List.set_cons_succ]
        refine wpAnyK_ready (rs := [10]) (by kernel_rfl) (by simp) ?_
        refine AllReadyK.cons (o := _) (by simp only [List.getElem?_toArray, List.getElem?_cons_succ, List.getElem?_cons_zero]; rfl) (fun K hK => ?_) AllReadyK.nil
        go_simp

        refine hK.out _ _ (fun _ => by exact ⟨cell_alloc _ r1, cell_alloc _ r2, cell_alloc _ r3⟩) (fun hH => ?_)
        have hHeld := hH (by decide)
        clear hK K hH
        try simp only [Act.put, List.setIfInBounds_toArray, List.set_cons_zero, List.set_cons_succ]
        refine wpAnyK_ready (rs := [11]) (by kernel_rfl) (by simp) ?_
        refine AllReadyK.cons (o := _) (by simp only [List.getElem?_toArray, List.getElem?_cons_succ, List.getElem?_cons_zero]; rfl) (fun K hK => ?_) AllReadyK.nil
        rw [if_pos (by rfl)]
        have hoB8 : (W5.alloc (Obj.cells #[Value.slice ba bi.length bc, Value.int IntKind.i64 bt, Value.bool bf, Value.bool bn] 43)).ownsRow lo 43 4 bv bs.length (bs.flatMap BlkV.cells) := HB.out.2.2.1.own.alloc _
        have hbl9 : bs.length ≤ 300 := by have := HBl.out; omega
        refine wp_append_lies _ (.tmp 177) (.tmp 182) 29 rfl lo 43 i4 (.agg #[.slice none 0 0, .int .i64 0, .bool false, .bool false]) 4 40 Try.underlying29 hi hz0 hz1 hz2 rfl (by decide) bv bs.length (bs.flatMap BlkV.cells) rfl hoB8 ⟨W5.heap.size, 0, none⟩ 1 1 [Value.slice ba bi.length bc, Value.int IntKind.i64 bt, Value.bool bf, Value.bool bn] rfl rfl (four_new (cell_new4 W5 _ _ _ _ _).1 (cell_new4 W5 _ _ _ _ _).2.1 (cell_new4 W5 _ _ _ _ _).2.2.1 (cell_new4 W5 _ _ _ _ _).2.2.2) (by simp [Value.oneCell']) (by omega) (by unfold maxLen; omega) (by omega) (by have := HB.out.1.lo'; simp; omega) (W5.heap.size + 1) (by simp) ?_
        intro gB cB w9 hoB9 hg9 hat9 hlt9
        have hgr9 : W5.grownBy w9 bv.ownBlock := ggrown (World.grownBy_alloc _ _ _) hg9
        have k9 : ∀ {b i : Nat} {v : Value}, (b < lo ∨ wr.heap.size ≤ b) → W5.cell? ⟨b, i, none⟩ = some v → w9.cell? ⟨b, i, none⟩ = some v := fun {b i v} hl h => (World.cell?_of_block (a := ⟨b, i, none⟩) (hgr9.block _ (World.block_lt_of_cell? W5 _ h) (fun e => by have := HOwn.out b e.symm; omega))).trans h
        have y1 := k9 (.inl HB.out.1.lp) r1
        have yf : w9.frozen? ⟨pk, 1, none⟩ = false := (World.frozen?_of_block (a := ⟨_, _, none⟩) (hgr9.block _ (World.block_lt_of_cell? W5 _ r1) (by intro e; have := HOwn.out pk e.symm; have := HB.out.1.lp; omega))).trans (HB.out.1.fz 1)
        refine hK.out _ _ (fun _ => by exact ⟨y1, k9 (.inr (Nat.le_refl _)) r2, k9 (.inr (Nat.le_refl _)) r3⟩) (fun hH => ?_)
        have hHeld := hH (by decide)
        clear hK K hH
        try simp only [Act.put, List.setIfInBounds_toArray, List.set_cons_zero, List.set_cons_succ]
        refine wpAnyK_ready (rs := [12]) (by kernel_rfl) (by simp) ?_
        refine AllReadyK.cons (o := _) (by simp only [List.getElem?_toArray, List.getElem?_cons_succ, List.getElem?_cons_zero]; rfl) (fun K hK => ?_) AllReadyK.nil
        go_simp

        refine hK.out _ _ (fun _ => by exact ⟨y1, k9 (.inr (Nat.le_refl _)) r2, k9 (.inr (Nat.le_refl _)) r3⟩) (fun hH => ?_)
        have hHeld := hH (by decide)
        clear hK K hH
        try simp only [Act.put, List.setIfInBounds_toArray, List.set_cons_zero, List.set_cons_succ]
        refine wpAnyK_ready (rs := [13]) (by kernel_rfl) (by simp) ?_
        refine AllReadyK.cons (o := _) (by simp only [List.getElem?_toArray, List.getElem?_cons_succ, List.getElem?_cons_zero]; rfl) (fun K hK => ?_) AllReadyK.nil
        go_simp

        refine hK.out _ _ (fun _ => by exact ⟨y1, k9 (.inr (Nat.le_refl _)) r2, k9 (.inr (Nat.le_refl _)) r3⟩) (fun hH => ?_)
        have hHeld := hH (by decide)
        clear hK K hH
        try simp only [Act.put, List.setIfInBounds_toArray, List.set_cons_zero, List.set_cons_succ]
        refine wpAnyK_ready (rs := [14]) (by kernel_rfl) (by simp) ?_
        refine AllReadyK.cons (o := _) (by simp only [List.getElem?_toArray, List.getElem?_cons_succ, List.getElem?_cons_zero]; rfl) (fun K hK => ?_) AllReadyK.nil
        go_simp

        refine hK.out _ _ (fun _ => by exact ⟨y1, k9 (.inr (Nat.le_refl _)) r2, k9 (.inr (Nat.le_refl _)) r3⟩) (fun hH => ?_)
        have hHeld := hH (by decide)
        clear hK K hH
        try simp only [Act.put, List.setIfInBounds_toArray, List.set_cons_zero, List.set_cons_succ]
        refine wpAnyK_ready (rs := [15]) (by kernel_rfl) (by simp) ?_
        refine AllReadyK.cons (o := _) (by simp only [List.getElem?_toArray, List.getElem?_cons_succ, List.getElem?_cons_zero]; rfl) (fun K hK => ?_) AllReadyK.nil
        go_simp

        refine hK.out _ _ (fun h => absurd rfl h) (fun _ => ?_)
        clear hK K
        try simp only [Act.put, List.setIfInBounds_toArray, List.set_cons_zero, List.set_cons_succ]
        refine wpAnyK_done (by kernel_rfl) ?_ _
        go_wp2
        go_roundw
        case rel =>
          refine ⟨i + 1, by omega, by go_num, Lib.hid ⟨.slice (some ⟨gB, 0, none⟩) (bs.length + 1) cB, bs ++ [⟨ba, bc, bi, bt, bf, bn⟩], ?_, ?_, ?_, ?_⟩⟩
          · exact (HB.out.1.grown hgr9 (fun k e => (HOwn.out k e).1)).set1 _
          · exact (HB.out.2.1.kept hgr9 (by intro e; have := HOwn.out _ e.symm; omega)).kept (grownBy_set _ pk 1 _) (by intro e; injection e with e; exact hnp e)
          · exact (HB.out.2.2.1.addB (b := ⟨ba, bc, bi, bt, bf, bn⟩) HB.out.2.2.2 hgr9 rfl hat9 (by omega) hlt9 hoB9).grown (grownBy_set _ pk 1 _) (fun k e => by injection e with e; have := HB.out.1.lp; omega)
          · rw [List.map_append, HBs.out, HDt.out, if_neg (by simp), List.append_assoc, ← HBd.out]; rfl
        case measure => simp [intOf]; omega
      · go_wp2
        go_roundw
        case rel =>
          refine ⟨i + 1, by omega, by go_num, Lib.hid ⟨bv, bs, ?_⟩⟩
          obtain ⟨k1, k2, k3⟩ := HW.out (W2.drewN q) (belowN HB2.out)
          exact ⟨k1, k2, k3, by rw [HDt.out, HBs.out]; rfl⟩
        case measure => simp [intOf]; omega
    · obtain rfl : i = N.luts.length := by omega
      go_wp2
      exact hh
end Go.Proofs.Ytibimdhmfchcoaa

