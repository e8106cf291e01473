import Derived.Test.YtibimdhmfchcoaaBC
namespace Go.Proofs.Ytibimdhmfchcoaa
open Go.RowKit Go.Shelf Go.Maps
set_option linter.unusedVariables false
set_option linter.unusedSimpArgs false
theorem far {W : World} {b i c j : Nat} {u v : Value} (h : W.cell? ⟨c, j, none⟩ = some v) (hne : c ≠ b) : (W.setCell ⟨b, i, none⟩ u).cell? ⟨c, j, none⟩ = some v := (cell?_set_far hne).trans h
theorem four_new {w : World} {q : Nat} {a b c d : Value} (h0 : w.cell? ⟨q, 0, none⟩ = some a) (h1 : w.cell? ⟨q, 1, none⟩ = some b) (h2 : w.cell? ⟨q, 2, none⟩ = some c) (h3 : w.cell? ⟨q, 3, none⟩ = some d) : ∀ j u, [a, b, c, d][j]? = some u → w.cell? (Addr.add ⟨q, 0, none⟩ j) = some u := by
  intro j u hj
  match j, hj with
  | 0, hj => simp at hj; subst hj; rw [Addr.add_lit]; exact h0
  | 1, hj => simp at hj; subst hj; rw [Addr.add_lit]; exact h1
  | 2, hj => simp at hj; subst hj; rw [Addr.add_lit]; exact h2
  | 3, hj => simp at hj; subst hj; rw [Addr.add_lit]; exact h3
  | j + 4, hj => simp at hj
theorem cell_new4 (X : World) (a b c d : Value) (t : TypeId) : (X.alloc (Obj.cells #[a, b, c, d] t)).cell? ⟨X.heap.size, 0, none⟩ = some a ∧ (X.alloc (Obj.cells #[a, b, c, d] t)).cell? ⟨X.heap.size, 1, none⟩ = some b ∧ (X.alloc (Obj.cells #[a, b, c, d] t)).cell? ⟨X.heap.size, 2, none⟩ = some c ∧ (X.alloc (Obj.cells #[a, b, c, d] t)).cell? ⟨X.heap.size, 3, none⟩ = some d := by
  refine ⟨?_, ?_, ?_, ?_⟩ <;> simp
theorem info43 : (Try.prog.info? 43).map (fun i => (i.zero, i.size, i.bytes)) = some (some (.agg #[.slice none 0 0, .int .i64 0, .bool false, .bool false]), 4, 40) := by kernel_rfl

set_option maxRecDepth 100000 in
set_option maxHeartbeats 8000000 in
theorem packL4 (Q : Exit → Act → World → Prop) (hpan : ∀ c (d : Option Tmp) v a w, Q (.panic c) (a.put d v) w → Q (.panic c) a w) (w0 w : World) (N : NetV) (hN : Hid (NetAt w0 N)) (hins : N.ins ≤ 100) (hins0 : 0 ≤ N.ins) (hhol : N.holds.length ≤ 100) (hluts : N.luts.length ≤ 200) (hlt4 : Hid (∀ l ∈ N.luts, l.ins.length ≤ 4)) (mb pk lo h cnt c2 xb : Nat) (f : Int → Int) (hf : Hid (∀ k, I64 (f k))) (g : Int → Bool) (hg : Hid (∀ x, g x = true → fstN N ≤ x)) (hdd : Hid (∀ h ∈ N.holds, 0 ≤ h.d ∧ h.d < fstN N + N.luts.length)) (ov : Value) (ha la : Option Addr) (hha : Hid (N.ha = ha)) (hla : Hid (N.la = la)) (hh0 : Hid (w0.heap.size = h)) (hxb : xb < lo) (hnp : xb ≠ pk) (hst : Hid (∃ bv bs, Pk w0 N mb pk lo cnt f bv ov w ∧ BMap w xb c2 g ∧ Rows lo bs bv [] ov w ∧ bs.map BlkV.data = holdBlks N g f 0))
    (s0 s2 s3 s5 s6 s8 s9 s10 s11 s12 s13 s14 s15 s16 s17 s18 s19 s20 s21 s22 s23 s24 s25 s26 s27 s28 s29 s30 s31 s32 s33 s34 s35 s36 s37 s38 s39 s40 s41 s42 s43 s44 s45 s46 s47 s48 s49 s50 s51 s52 s53 s54 s55 s56 s57 s58 s59 s60 s61 s62 s63 s64 s65 s66 s67 s68 s69 s70 s71 s72 s73 s74 s75 s76 s77 s78 s79 s80 s81 s82 s83 s84 s85 s86 s87 s88 s89 s90 s91 s92 s93 s94 s95 s96 s97 s98 s99 s100 s101 s102 s103 s107 s108 s109 s110 s111 s112 s113 s114 s115 s116 s117 s118 s119 s120 s121 s122 s123 s124 s125 s126 s127 s128 s129 s130 s131 s132 s133 s134 s135 s136 s137 s138 s139 s140 s141 s142 s143 s144 s145 s146 s147 s148 s149 s150 s151 s152 s153 s154 s155 s156 s157 s158 s159 s160 s161 s162 s163 s164 s165 s166 s167 s168 s169 s170 s171 s172 s173 s174 s175 s176 s177 s178 s179 s180 s181 s182 s183 s184 s185 s186 s187 s188 s189 s190 s191 s192 s193 s194 s195 s196 s197 s198 s199 s200 s201 s202 s203 s204 s205 s206 s207 s208 s209 s210 s211 s212 s213 s214 s215 s216 s217 s218 s219 s220 s221 s222 s223 s224 s225 s226 s227 s228 s229 s230 s231 s232 s233 s234 s235 s236 s237 s238 s239 s240 s241 s242 s243 s244 s245 s246 s247 s248 s249 : Value)
    (hexit : ∀ (r14 r15 r106 r107 r108 r109 r110 r111 r112 r113 r114 r115 r116 r117 r118 r119 r120 r121 r122 r123 r124 r125 r126 r127 r128 r129 r130 r131 r132 r133 r134 r135 r136 r137 r138 r139 r140 r141 r142 r143 r144 r145 r146 r147 r148 r149 r150 r151 r152 r153 r154 r155 r156 : Value) (w' : World), Hid (∃ bv bs, Pk w0 N mb pk lo cnt f bv ov w' ∧ BMap w' xb c2 g ∧ Rows lo bs bv [] ov w' ∧ bs.map BlkV.data = holdBlks N g f N.holds.length) → Q .normal { tmps := #[s0, .pointer (some ⟨h, 0, none⟩), s2, s3, .pointer (some ⟨pk, 0, none⟩), s5, s6, .map (some xb), s8, s9, s10, s11, s12, s13, r14, r15, s16, s17, s18, s19, s20, s21, s22, s23, s24, s25, s26, s27, s28, s29, s30, s31, s32, s33, s34, s35, s36, s37, s38, s39, s40, s41, s42, s43, s44, s45, s46, s47, s48, s49, s50, s51, s52, s53, s54, s55, s56, s57, s58, s59, s60, s61, s62, s63, s64, s65, s66, s67, s68, s69, s70, s71, s72, s73, s74, s75, s76, s77, s78, s79, s80, s81, s82, s83, s84, s85, s86, s87, s88, s89, s90, s91, s92, s93, s94, s95, s96, s97, s98, s99, s100, s101, s102, s103, .slice ha N.holds.length N.hc, .int .i64 (N.holds.length : Int), r106, r107, r108, r109, r110, r111, r112, r113, r114, r115, r116, r117, r118, r119, r120, r121, r122, r123, r124, r125, r126, r127, r128, r129, r130, r131, r132, r133, r134, r135, r136, r137, r138, r139, r140, r141, r142, r143, r144, r145, r146, r147, r148, r149, r150, r151, r152, r153, r154, r155, r156, s157, s158, s159, s160, s161, s162, s163, s164, s165, s166, s167, s168, s169, s170, s171, s172, s173, s174, s175, s176, s177, s178, s179, s180, s181, s182, s183, s184, s185, s186, s187, s188, s189, s190, s191, s192, s193, s194, s195, s196, s197, s198, s199, s200, s201, s202, s203, s204, s205, s206, s207, s208, s209, s210, s211, s212, s213, s214, s215, s216, s217, s218, s219, s220, s221, s222, s223, s224, s225, s226, s227, s228, s229, s230, s231, s232, s233, s234, s235, s236, s237, s238, s239, s240, s241, s242, s243, s244, s245, s246, s247, s248, s249], defers := [] } w') :
    ((Try.f16.body.bind (loopAt 26)).getD .skip).wp Try.prog (Exit.inBlock 6 Q) { tmps := #[s0, .pointer (some ⟨h, 0, none⟩), s2, s3, .pointer (some ⟨pk, 0, none⟩), s5, s6, .map (some xb), s8, s9, s10, s11, s12, s13, s14, s15, s16, s17, s18, s19, s20, s21, s22, s23, s24, s25, s26, s27, s28, s29, s30, s31, s32, s33, s34, s35, s36, s37, s38, s39, s40, s41, s42, s43, s44, s45, s46, s47, s48, s49, s50, s51, s52, s53, s54, s55, s56, s57, s58, s59, s60, s61, s62, s63, s64, s65, s66, s67, s68, s69, s70, s71, s72, s73, s74, s75, s76, s77, s78, s79, s80, s81, s82, s83, s84, s85, s86, s87, s88, s89, s90, s91, s92, s93, s94, s95, s96, s97, s98, s99, s100, s101, s102, s103, .slice ha N.holds.length N.hc, .int .i64 (N.holds.length : Int), .int .i64 0, s107, s108, s109, s110, s111, s112, s113, s114, s115, s116, s117, s118, s119, s120, s121, s122, s123, s124, s125, s126, s127, s128, s129, s130, s131, s132, s133, s134, s135, s136, s137, s138, s139, s140, s141, s142, s143, s144, s145, s146, s147, s148, s149, s150, s151, s152, s153, s154, s155, s156, s157, s158, s159, s160, s161, s162, s163, s164, s165, s166, s167, s168, s169, s170, s171, s172, s173, s174, s175, s176, s177, s178, s179, s180, s181, s182, s183, s184, s185, s186, s187, s188, s189, s190, s191, s192, s193, s194, s195, s196, s197, s198, s199, s200, s201, s202, s203, s204, s205, s206, s207, s208, s209, s210, s211, s212, s213, s214, s215, s216, s217, s218, s219, s220, s221, s222, s223, s224, s225, s226, s227, s228, s229, s230, s231, s232, s233, s234, s235, s236, s237, s238, s239, s240, s241, s242, s243, s244, s245, s246, s247, s248, s249], defers := [] } w := by
  conv => arg 2; whnf
  dsimp only
  obtain ⟨i4, hi, hz0, hz1, hz2⟩ := info_parts info43
  go_loopw [106] (fun iv wr => ∃ j : Nat, j ≤ N.holds.length ∧ iv = .int .i64 j ∧ Hid (∃ bv bs, Pk w0 N mb pk lo cnt f bv ov wr ∧ BMap wr xb c2 g ∧ Rows lo bs bv [] ov wr ∧ bs.map BlkV.data = holdBlks N g f j)) (fun iv _ => N.holds.length - (intOf iv).toNat)
  case atStart => exact ⟨0, by omega, rfl, hst⟩
  case round =>
    obtain ⟨j, hj, rfl, hh⟩ := hrel
    by_cases hlt : j < N.holds.length
    · obtain ⟨bv, bs, hp, hx, hr, hdt⟩ := hh.out
      obtain ⟨b, off, hLa0, hbb, hcs⟩ := (hN.out.below hp.below (Nat.le_refl _)).holds.at (2 * j) (by omega)
      have d0 := hcs (j * 2) (by omega)
      have d1 := hcs (j * 2 + 1) (by omega)
      simp only [holdCell] at d0 d1
      rw [if_pos (by omega), show j * 2 / 2 = j by omega] at d0
      rw [if_neg (by omega), show (j * 2 + 1) / 2 = j by omega, ← Nat.add_assoc] at d1
      have hxI := hN.out.holdsR _ (getD_mem N.holds default hlt)
      have hxU := hdd.out _ (getD_mem N.holds default hlt)
      have hbs := holdBlks_succ N g f j hlt
      obtain ⟨hd, hhd⟩ : ∃ z, z = N.holds.getD j default := ⟨_, rfl⟩
      rw [← hhd] at d0 d1 hxI hxU hbs
      obtain ⟨x, xi⟩ := hd
      dsimp only at d0 d1 hxI hxU
      rw [← hdt] at hbs
      have hbl : bs.length = j := by
        have h := congrArg List.length hdt
        rw [List.length_map, holdBlks, List.length_map, List.length_take] at h; omega
      obtain ⟨W2, hW2⟩ : ∃ W2, W2 = (wr.alloc (Obj.cells #[Value.int IntKind.i64 x, Value.bool xi] 63)).alloc (Obj.cells #[Value.slice none 0 0, Value.int IntKind.i64 0, Value.bool true, Value.bool xi] 43) := ⟨_, rfl⟩
      have hb2 : Below wr.heap.size wr W2 := by rw [hW2]; exact ((Below.refl _ _).alloc (Nat.le_refl _) _).alloc (by simp) _
      have hsz2 : W2.heap.size = wr.heap.size + 2 := by rw [hW2]; simp
      have hlo := hp.lo'
      have hp2 := hp.low (hb2.mono hlo)
      have hx2 := hx.below hb2 (by omega)
      have hr2 := hr.below hb2
      have hown := hr.own.lt
      have q0 : W2.cell? ⟨wr.heap.size, 0, none⟩ = some (.int .i64 x) := by rw [hW2]; simp
      have c0 : W2.cell? ⟨wr.heap.size + 1, 0, none⟩ = some (Value.slice none 0 0) := by rw [hW2]; simp
      have c1 : W2.cell? ⟨wr.heap.size + 1, 1, none⟩ = some (Value.int IntKind.i64 0) := by rw [hW2]; simp
      have c2' : W2.cell? ⟨wr.heap.size + 1, 2, none⟩ = some (Value.bool true) := by rw [hW2]; simp
      have c3 : W2.cell? ⟨wr.heap.size + 1, 3, none⟩ = some (Value.bool xi) := by rw [hW2]; simp
      have fz : ∀ i, W2.frozen? ⟨wr.heap.size + 1, i, none⟩ = false := by intro i; rw [hW2]; simp
      obtain ⟨gb, hgb⟩ : ∃ b, b = g x := ⟨_, rfl⟩
      have hlk := hx2.look x hxI
      rw [← hgb, hW2] at hlk
      have HX : Hid (Pk w0 N mb pk lo cnt f bv ov W2 ∧ BMap W2 xb c2 g ∧ Rows lo bs bv [] ov W2) := Lib.hid ⟨hp2, hx2, hr2⟩
      have HW : Hid (∀ W, Below wr.heap.size wr W → Pk w0 N mb pk lo cnt f bv ov W ∧ BMap W xb c2 g ∧ Rows lo bs bv [] ov W) := Lib.hid (fun W hW => ⟨hp.low (hW.mono hlo), hx.below hW (by omega), hr.below hW⟩)
      have HB2 := Lib.hid hb2
      have HOv := Lib.hid hr.oown.lt
      have HW2 := Lib.hid hW2
      have HOwn := Lib.hid hown
      have HBs := Lib.hid hbs
      have HGb := Lib.hid hgb
      have HBl := Lib.hid hbl
      have HFz := Lib.hid fz
      have HxI := Lib.hid hxI
      have hlo2 : lo ≤ W2.heap.size := by omega
      have HSz := Lib.hid hsz2
      clear hsz2 hW2 hp hx hr hp2 hx2 hr2 hcs hhd hb2 hown hbs hgb hdt hbl fz hh hxI
      rw [hha.out] at hLa0
      subst hLa0
      cases gb
      · by_cases hx0 : x = 0
        · subst hx0
          have HD : Hid ((⟨none, 0, [], 0, true, xi⟩ : BlkV).data = holdBlk N g f ⟨0, xi⟩) := Lib.hid (by unfold holdBlk; dsimp only; rw [← HGb.out]; rfl)
          have HB : Hid (Pk w0 N mb pk lo cnt f bv ov W2 ∧ BMap W2 xb c2 g ∧ Rows lo bs bv [] ov W2 ∧ InAt lo bv ov W2 ⟨none, 0, [], 0, true, xi⟩) := Lib.hid ⟨HX.out.1, HX.out.2.1, HX.out.2.2, .inl rfl⟩
          have HC := Lib.hid (And.intro (And.intro c0 c1) (And.intro c2' c3))
          have HQ := Lib.hid q0
          clear q0 c0 c1 c2' c3
          go_wp2_with fail
          rw [← HW2.out]
          obtain ⟨⟨c0, c1⟩, c2', c3⟩ := HC.out
          obtain ⟨W5, rfl⟩ : ∃ W, W = W2 := ⟨_, rfl⟩
          have p1 := HB.out.1.p1
          refine wp_region_K (S := fun w' => w'.cell? ⟨pk, 1, none⟩ = some bv ∧ w'.cell? ⟨wr.heap.size + 1, 0, none⟩ = some (Value.slice none 0 0) ∧ w'.cell? ⟨wr.heap.size + 1, 1, none⟩ = some (Value.int IntKind.i64 0) ∧ w'.cell? ⟨wr.heap.size + 1, 2, none⟩ = some (Value.bool true) ∧ w'.cell? ⟨wr.heap.size + 1, 3, none⟩ = some (Value.bool xi)) 12 (by kernel_rfl) (⟨p1, c0, c1, c2', c3⟩) (fun hHeld => ?_)
          refine wpAnyK_take (i := 0) (v := ?_) (by simp only [List.getElem?_toArray, List.getElem?_cons_succ, List.getElem?_cons_zero]; rfl) (by kernel_rfl) (by kernel_rfl) (by kernel_rfl) (by kernel_rfl) (by intro _ _ _ h; exact hpan _ _ _ _ _ h) (Or.inl ⟨by rfl, ?_⟩) (by assumption) ?_
          rotate_left
          · intro w hSw; (try dsimp only at hSw); go_simp; try with_reducible rfl
          try simp only [Act.put, List.setIfInBounds_toArray, List.set_cons_zero, List.set_cons_succ]
          refine wpAnyK_take (i := 1) (v := ?_) (by simp only [List.getElem?_toArray, List.getElem?_cons_succ, List.getElem?_cons_zero]; rfl) (by kernel_rfl) (by kernel_rfl) (by kernel_rfl) (by kernel_rfl) (by intro _ _ _ h; exact hpan _ _ _ _ _ h) (Or.inl ⟨by rfl, ?_⟩) (by assumption) ?_
          rotate_left
          · intro w hSw; (try dsimp only at hSw); go_simp; try with_reducible rfl
          try simp only [Act.put, List.setIfInBounds_toArray, List.set_cons_zero, List.set_cons_succ]
          refine wpAnyK_take (i := 2) (v := ?_) (by simp only [List.getElem?_toArray, List.getElem?_cons_succ, List.getElem?_cons_zero]; rfl) (by kernel_rfl) (by kernel_rfl) (by kernel_rfl) (by kernel_rfl) (by intro _ _ _ h; exact hpan _ _ _ _ _ h) (Or.inl ⟨by rfl, ?_⟩) (by assumption) ?_
          rotate_left
          · intro w hSw; (try dsimp only at hSw); go_simp; try with_reducible rfl
          try simp only [Act.put, List.setIfInBounds_toArray, List.set_cons_zero, List.set_cons_succ]
          refine wpAnyK_take (i := 3) (v := ?_) (by simp only [List.getElem?_toArray, List.getElem?_cons_succ, List.getElem?_cons_zero]; rfl) (by kernel_rfl) (by kernel_rfl) (by kernel_rfl) (by kernel_rfl) (by intro _ _ _ h; exact hpan _ _ _ _ _ h) (Or.inl ⟨by rfl, ?_⟩) (by assumption) ?_
          rotate_left
          · intro w hSw; (try dsimp only at hSw); go_simp; try with_reducible rfl
          try simp only [Act.put, List.setIfInBounds_toArray, List.set_cons_zero, List.set_cons_succ]
          refine wpAnyK_take (i := 4) (v := ?_) (by simp only [List.getElem?_toArray, List.getElem?_cons_succ, List.getElem?_cons_zero]; rfl) (by kernel_rfl) (by kernel_rfl) (by kernel_rfl) (by kernel_rfl) (by intro _ _ _ h; exact hpan _ _ _ _ _ h) (Or.inl ⟨by rfl, ?_⟩) (by assumption) ?_
          rotate_left
          · intro w hSw; (try dsimp only at hSw); go_simp; try with_reducible rfl
          try simp only [Act.put, List.setIfInBounds_toArray, List.set_cons_zero, List.set_cons_succ]
          refine wpAnyK_take (i := 5) (v := ?_) (by simp only [List.getElem?_toArray, List.getElem?_cons_succ, List.getElem?_cons_zero]; rfl) (by kernel_rfl) (by kernel_rfl) (by kernel_rfl) (by kernel_rfl) (by intro _ _ _ h; exact hpan _ _ _ _ _ h) (Or.inl ⟨by rfl, ?_⟩) (by assumption) ?_
          rotate_left
          · intro w hSw; (try dsimp only at hSw); go_simp; try with_reducible rfl
          try simp only [Act.put, List.setIfInBounds_toArray, List.set_cons_zero, List.set_cons_succ]
          refine wpAnyK_take (i := 6) (v := ?_) (by simp only [List.getElem?_toArray, List.getElem?_cons_succ, List.getElem?_cons_zero]; rfl) (by kernel_rfl) (by kernel_rfl) (by kernel_rfl) (by kernel_rfl) (by intro _ _ _ h; exact hpan _ _ _ _ _ h) (Or.inl ⟨by rfl, ?_⟩) (by assumption) ?_
          rotate_left
          · intro w hSw; (try dsimp only at hSw); go_simp; try with_reducible rfl
          try simp only [Act.put, List.setIfInBounds_toArray, List.set_cons_zero, List.set_cons_succ]
          refine wpAnyK_ready (rs := [7]) (by kernel_rfl) (by simp) ?_
          refine AllReadyK.cons (o := _) (by simp only [List.getElem?_toArray, List.getElem?_cons_succ, List.getElem?_cons_zero]; rfl) (fun K hK => ?_) AllReadyK.nil
          go_simp

          refine hK.out _ _ (fun _ => by exact ⟨cell_alloc _ p1, cell_alloc _ c0, cell_alloc _ c1, cell_alloc _ c2', cell_alloc _ c3⟩) (fun hH => ?_)
          have hHeld := hH (by decide)
          clear hK K hH
          try simp only [Act.put, List.setIfInBounds_toArray, List.set_cons_zero, List.set_cons_succ]
          refine wpAnyK_ready (rs := [8]) (by kernel_rfl) (by simp) ?_
          refine AllReadyK.cons (o := _) (by simp only [List.getElem?_toArray, List.getElem?_cons_succ, List.getElem?_cons_zero]; rfl) (fun K hK => ?_) AllReadyK.nil
          rw [if_pos (by rfl)]
          have hoB8 : (W5.drew.alloc (Obj.cells #[Value.slice none 0 0, Value.int IntKind.i64 0, Value.bool true, Value.bool xi] 43)).ownsRow lo 43 4 bv bs.length (bs.flatMap BlkV.cells) := (own_drewN (k := 1) HB.out.2.2.1.own).alloc _
          have hbl9 : bs.length ≤ 100 := by rw [HBl.out]; omega
          refine wp_append_lies _ (.tmp 149) (.tmp 151) 29 rfl lo 43 i4 (.agg #[.slice none 0 0, .int .i64 0, .bool false, .bool false]) 4 40 Try.underlying29 hi hz0 hz1 hz2 rfl (by decide) bv bs.length (bs.flatMap BlkV.cells) rfl hoB8 ⟨W5.heap.size, 0, none⟩ 1 1 [Value.slice none 0 0, Value.int IntKind.i64 0, Value.bool true, Value.bool xi] rfl rfl (four_new (cell_new4 W5.drew _ _ _ _ _).1 (cell_new4 W5.drew _ _ _ _ _).2.1 (cell_new4 W5.drew _ _ _ _ _).2.2.1 (cell_new4 W5.drew _ _ _ _ _).2.2.2) (by simp [Value.oneCell']) (by omega) (by unfold maxLen; omega) (by omega) (by have := HB.out.1.lo'; simp; omega) (W5.heap.size + 1) (by simp) ?_
          intro gB cB w9 hoB9 hg9 hat9 hlt9
          have hgr9 : W5.grownBy w9 bv.ownBlock := ggrown (grownBy_drew _ _) (ggrown (World.grownBy_alloc _ _ _) hg9)
          have k9 : ∀ {b i : Nat} {v : Value}, (b < lo ∨ wr.heap.size ≤ b) → W5.cell? ⟨b, i, none⟩ = some v → w9.cell? ⟨b, i, none⟩ = some v := fun {b i v} hl h => (World.cell?_of_block (a := ⟨b, i, none⟩) (hgr9.block _ (World.block_lt_of_cell? W5 _ h) (fun e => by have := HOwn.out b e.symm; omega))).trans h
          have y1 := k9 (.inl HB.out.1.lp) p1
          have yf : w9.frozen? ⟨pk, 1, none⟩ = false := (World.frozen?_of_block (a := ⟨_, _, none⟩) (hgr9.block _ (World.block_lt_of_cell? W5 _ p1) (by intro e; have := HOwn.out pk e.symm; have := HB.out.1.lp; omega))).trans (HB.out.1.fz 1)
          refine hK.out _ _ (fun _ => by exact ⟨y1, k9 (.inr (by omega)) c0, k9 (.inr (by omega)) c1, k9 (.inr (by omega)) c2', k9 (.inr (by omega)) c3⟩) (fun hH => ?_)
          have hHeld := hH (by decide)
          clear hK K hH
          try simp only [Act.put, List.setIfInBounds_toArray, List.set_cons_zero, List.set_cons_succ]
          refine wpAnyK_ready (rs := [9]) (by kernel_rfl) (by simp) ?_
          refine AllReadyK.cons (o := _) (by simp only [List.getElem?_toArray, List.getElem?_cons_succ, List.getElem?_cons_zero]; rfl) (fun K hK => ?_) AllReadyK.nil
          go_simp

          refine hK.out _ _ (fun _ => by exact ⟨y1, k9 (.inr (by omega)) c0, k9 (.inr (by omega)) c1, k9 (.inr (by omega)) c2', k9 (.inr (by omega)) c3⟩) (fun hH => ?_)
          have hHeld := hH (by decide)
          clear hK K hH
          try simp only [Act.put, List.setIfInBounds_toArray, List.set_cons_zero, List.set_cons_succ]
          refine wpAnyK_ready (rs := [10]) (by kernel_rfl) (by simp) ?_
          refine AllReadyK.cons (o := _) (by simp only [List.getElem?_toArray, List.getElem?_cons_succ, List.getElem?_cons_zero]; rfl) (fun K hK => ?_) AllReadyK.nil
          go_simp

          refine hK.out _ _ (fun _ => by exact ⟨y1, k9 (.inr (by omega)) c0, k9 (.inr (by omega)) c1, k9 (.inr (by omega)) c2', k9 (.inr (by omega)) c3⟩) (fun hH => ?_)
          have hHeld := hH (by decide)
          clear hK K hH
          try simp only [Act.put, List.setIfInBounds_toArray, List.set_cons_zero, List.set_cons_succ]
          refine wpAnyK_take (i := 11) (v := ?_) (by simp only [List.getElem?_toArray, List.getElem?_cons_succ, List.getElem?_cons_zero]; rfl) (by kernel_rfl) (by kernel_rfl) (by kernel_rfl) (by kernel_rfl) (by intro _ _ _ h; exact hpan _ _ _ _ _ h) (Or.inl ⟨by rfl, ?_⟩) (by assumption) ?_
          rotate_left
          · intro w hSw; (try dsimp only at hSw); go_simp; try with_reducible rfl
          try simp only [Act.put, List.setIfInBounds_toArray, List.set_cons_zero, List.set_cons_succ]
          refine wpAnyK_ready (rs := [12]) (by kernel_rfl) (by simp) ?_
          refine AllReadyK.cons (o := _) (by simp only [List.getElem?_toArray, List.getElem?_cons_succ, List.getElem?_cons_zero]; rfl) (fun K hK => ?_) AllReadyK.nil
          go_simp

          refine hK.out _ _ (fun h => absurd rfl h) (fun _ => ?_)
          clear hK K
          try simp only [Act.put, List.setIfInBounds_toArray, List.set_cons_zero, List.set_cons_succ]
          refine wpAnyK_done (by kernel_rfl) ?_ _
          go_wp2
          go_roundw
          case rel =>
            refine ⟨j + 1, by omega, by go_num, Lib.hid ⟨.slice (some ⟨gB, 0, none⟩) (bs.length + 1) cB, bs ++ [⟨none, 0, [], 0, true, xi⟩], ?_, ?_, ?_, ?_⟩⟩
            · exact (HB.out.1.grown hgr9 (fun k e => (HOwn.out k e).1)).set1 _
            · exact (HB.out.2.1.kept hgr9 (by intro e; have := HOwn.out _ e.symm; omega)).kept (grownBy_set _ pk 1 _) (by intro e; injection e with e; exact hnp e)
            · exact (HB.out.2.2.1.addB (b := ⟨none, 0, [], 0, true, xi⟩) HB.out.2.2.2 hgr9 rfl hat9 (by omega) hlt9 hoB9).grown (grownBy_set _ pk 1 _) (fun k e => by injection e with e; have := HB.out.1.lp; omega)
            · rw [List.map_append, HBs.out, ← HD.out]; rfl
          case measure => simp [intOf]; omega
        · have hx0b : (x != 0) = true := by simpa using hx0
          obtain ⟨fx, hfx⟩ : ∃ z, z = f x := ⟨_, rfl⟩
          have HFx := Lib.hid hfx
          have HD : Hid ((⟨some ⟨W2.heap.size, 0, none⟩, 1, [fx], 2, true, xi⟩ : BlkV).data = holdBlk N g f ⟨x, xi⟩) := Lib.hid (by unfold holdBlk; dsimp only; rw [← HGb.out, if_neg (by simp), if_neg hx0, ← hfx])
          have HLk : Hid (∀ W, Below lo W2 W → (Instr.lookup 68 (.map (some mb)) (.int .i64 x) false).run Try.prog W = .ok (.int .i64 fx) W) := Lib.hid (fun W hW => by rw [hfx]; exact (HX.out.1.map.below hW HX.out.1.lm).look x HxI.out)
          have hlp := HX.out.1.lp
          have hlm := HX.out.1.lm
          have p7 := HX.out.1.p7
          have HC := Lib.hid (And.intro (And.intro c0 c1) (And.intro c2' c3))
          have HQ := Lib.hid q0
          clear hfx q0 c0 c1 c2' c3
          go_wp2_with fail
          rw [← HW2.out]
          obtain ⟨⟨c0, c1⟩, c2', c3⟩ := HC.out
          have q0 := HQ.out
          refine wp_region_held_drew (S := fun w' => w'.cell? ⟨pk, 7, none⟩ = some (.map (some mb)) ∧ w'.cell? ⟨wr.heap.size, 0, none⟩ = some (.int .i64 x) ∧ (Instr.lookup 68 (.map (some mb)) (.int .i64 x) false).run Try.prog w' = .ok (.int .i64 fx) w') (by kernel_rfl) (⟨p7, q0, HLk.out _ (Below.refl _ _).drew⟩) (fun hHeld => ?_)
          refine wpAnyH_take (i := 0) (v := ?_) (by simp only [List.getElem?_toArray, List.getElem?_cons_succ, List.getElem?_cons_zero]; rfl) (by kernel_rfl) (by kernel_rfl) (by kernel_rfl) (by intro _ _ _ h; exact hpan _ _ _ _ _ h) (Or.inl ⟨by rfl, ?_⟩) (by assumption) ?_
          rotate_left
          · intro w hSw; (try dsimp only at hSw); go_simp; try with_reducible rfl
          try simp only [Act.put, List.setIfInBounds_toArray, List.set_cons_zero, List.set_cons_succ]
          refine wpAnyH_take (i := 1) (v := ?_) (by simp only [List.getElem?_toArray, List.getElem?_cons_succ, List.getElem?_cons_zero]; rfl) (by kernel_rfl) (by kernel_rfl) (by kernel_rfl) (by intro _ _ _ h; exact hpan _ _ _ _ _ h) (Or.inl ⟨by rfl, ?_⟩) (by assumption) ?_
          rotate_left
          · intro w hSw; (try dsimp only at hSw); go_simp; try with_reducible rfl
          try simp only [Act.put, List.setIfInBounds_toArray, List.set_cons_zero, List.set_cons_succ]
          refine wpAnyH_take (i := 2) (v := ?_) (by simp only [List.getElem?_toArray, List.getElem?_cons_succ, List.getElem?_cons_zero]; rfl) (by kernel_rfl) (by kernel_rfl) (by kernel_rfl) (by intro _ _ _ h; exact hpan _ _ _ _ _ h) (Or.inl ⟨by rfl, ?_⟩) (by assumption) ?_
          rotate_left
          · intro w hSw; (try dsimp only at hSw); go_simp; try with_reducible rfl
          try simp only [Act.put, List.setIfInBounds_toArray, List.set_cons_zero, List.set_cons_succ]
          refine wpAnyH_take (i := 3) (v := ?_) (by simp only [List.getElem?_toArray, List.getElem?_cons_succ, List.getElem?_cons_zero]; rfl) (by kernel_rfl) (by kernel_rfl) (by kernel_rfl) (by intro _ _ _ h; exact hpan _ _ _ _ _ h) (Or.inl ⟨by rfl, ?_⟩) (by assumption) ?_
          rotate_left
          · intro w hSw; (try dsimp only at hSw); go_simp; try with_reducible rfl
          try simp only [Act.put, List.setIfInBounds_toArray, List.set_cons_zero, List.set_cons_succ]
          refine wpAnyH_take (i := 4) (v := ?_) (by simp only [List.getElem?_toArray, List.getElem?_cons_succ, List.getElem?_cons_zero]; rfl) (by kernel_rfl) (by kernel_rfl) (by kernel_rfl) (by intro _ _ _ h; exact hpan _ _ _ _ _ h) (Or.inl ⟨by rfl, ?_⟩) (by assumption) ?_
          rotate_left
          · intro w hSw; (try dsimp only at hSw); go_simp; try with_reducible rfl
          try simp only [Act.put, List.setIfInBounds_toArray, List.set_cons_zero, List.set_cons_succ]
          refine wpAnyH_take (i := 5) (v := ?_) (by simp only [List.getElem?_toArray, List.getElem?_cons_succ, List.getElem?_cons_zero]; rfl) (by kernel_rfl) (by kernel_rfl) (by kernel_rfl) (by intro _ _ _ h; exact hpan _ _ _ _ _ h) (Or.inl ⟨by rfl, ?_⟩) (by assumption) ?_
          rotate_left
          · intro w hSw; (try dsimp only at hSw); go_simp; try with_reducible rfl
          try simp only [Act.put, List.setIfInBounds_toArray, List.set_cons_zero, List.set_cons_succ]
          refine wpAnyH_take (i := 6) (v := ?_) (by simp only [List.getElem?_toArray, List.getElem?_cons_succ, List.getElem?_cons_zero]; rfl) (by kernel_rfl) (by kernel_rfl) (by kernel_rfl) (by intro _ _ _ h; exact hpan _ _ _ _ _ h) (Or.inl ⟨by rfl, ?_⟩) (by assumption) ?_
          rotate_left
          · intro w hSw; (try dsimp only at hSw); go_simp; first | with_reducible rfl | (simp only [hSw.2.2]; rfl) | (simp [hSw.2.2]; rfl)
          try simp only [Act.put, List.setIfInBounds_toArray, List.set_cons_zero, List.set_cons_succ]
          refine wpAnyH_ready (rs := [7]) (by kernel_rfl) (by simp) ?_
          refine AllReadyH.cons (o := _) (by simp only [List.getElem?_toArray, List.getElem?_cons_succ, List.getElem?_cons_zero]; rfl) (fun K hK => ?_) AllReadyH.nil
          go_simp
          generalize hw7 : (W2.alloc (Obj.cells #[Value.int IntKind.i64 fx] 3)).drew = w7
          have hB7 : Below lo W2 w7 := by rw [← hw7]; exact ((Below.refl _ _).alloc hlo2 _).drew
          have hB7' : Below W2.heap.size W2 w7 := by rw [← hw7]; exact ((Below.refl _ _).alloc (Nat.le_refl _) _).drew
          have n7 : w7.cell? ⟨W2.heap.size, 0, none⟩ = some (.int .i64 fx) := by rw [← hw7]; exact cell_newW W2 _ _
          have z7 : W2.heap.size < w7.heap.size := World.block_lt_of_cell? w7 _ n7
          have c7 : ∀ {b i : Nat} {v : Value}, W2.cell? ⟨b, i, none⟩ = some v → w7.cell? ⟨b, i, none⟩ = some v := fun h => (hB7'.cell (p := ⟨_, _, none⟩) (World.block_lt_of_cell? W2 _ h)).trans h
          have a0 := c7 c0
          have a1 := c7 c1
          have fz7 : ∀ i, w7.frozen? ⟨wr.heap.size + 1, i, none⟩ = false := fun i => (hB7'.frozen (p := ⟨_, _, none⟩) (by have := HSz.out; simp only; omega)).trans (HFz.out i)
          have af0 := fz7 0
          clear hw7
          refine hK.out _ _ (by exact ⟨c7 p7, c7 q0, HLk.out _ hB7⟩) (fun hHeld => ?_)
          clear hK K
          try simp only [Act.put, List.setIfInBounds_toArray, List.set_cons_zero, List.set_cons_succ]
          refine wpAnyH_take (i := 8) (v := ?_) (by simp only [List.getElem?_toArray, List.getElem?_cons_succ, List.getElem?_cons_zero]; rfl) (by kernel_rfl) (by kernel_rfl) (by kernel_rfl) (by intro _ _ _ h; exact hpan _ _ _ _ _ h) (Or.inl ⟨by rfl, ?_⟩) (by assumption) ?_
          rotate_left
          · intro w hSw; (try dsimp only at hSw); go_simp; try with_reducible rfl
          try simp only [Act.put, List.setIfInBounds_toArray, List.set_cons_zero, List.set_cons_succ]
          refine wpAnyH_ready (rs := [9]) (by kernel_rfl) (by simp) ?_
          refine AllReadyH.cons (o := _) (by simp only [List.getElem?_toArray, List.getElem?_cons_succ, List.getElem?_cons_zero]; rfl) (fun K hK => ?_) AllReadyH.nil
          go_simp
          generalize hw9 : w7.setCell ⟨wr.heap.size + 1, 0, none⟩ (Value.slice (some ⟨W2.heap.size, 0, none⟩) 1 1) = w8
          have hG8 : w7.grownBy w8 (some (wr.heap.size + 1)) := by rw [← hw9]; exact grownBy_set _ _ _ _
          have g0 : w8.cell? ⟨wr.heap.size + 1, 0, none⟩ = some (Value.slice (some ⟨W2.heap.size, 0, none⟩) 1 1) := by rw [← hw9]; exact cell?_set_own a0
          have g1 := set_keep (i := 0) (u := Value.slice (some ⟨W2.heap.size, 0, none⟩) 1 1) a1 (by decide)
          have g2 := set_keep (i := 0) (u := Value.slice (some ⟨W2.heap.size, 0, none⟩) 1 1) (c7 c2') (by decide)
          have g3 := set_keep (i := 0) (u := Value.slice (some ⟨W2.heap.size, 0, none⟩) 1 1) (c7 c3) (by decide)
          rw [hw9] at g1 g2 g3
          have af1 : w8.frozen? ⟨wr.heap.size + 1, 1, none⟩ = false := by rw [← hw9, set_frozen]; exact fz7 1
          have c8 : ∀ {b i : Nat} {v : Value}, b ≠ wr.heap.size + 1 → w7.cell? ⟨b, i, none⟩ = some v → w8.cell? ⟨b, i, none⟩ = some v := fun hne h => by rw [← hw9]; exact far h hne
          clear hw9
          refine hK.out _ _ (by exact ⟨c8 (by omega) (c7 p7), c8 (by omega) (c7 q0), HLk.out _ (hB7.grown hG8 (by omega) (fun k e => by injection e with e; omega))⟩) (fun hHeld => ?_)
          clear hK K
          try simp only [Act.put, List.setIfInBounds_toArray, List.set_cons_zero, List.set_cons_succ]
          refine wpAnyH_take (i := 10) (v := ?_) (by simp only [List.getElem?_toArray, List.getElem?_cons_succ, List.getElem?_cons_zero]; rfl) (by kernel_rfl) (by kernel_rfl) (by kernel_rfl) (by intro _ _ _ h; exact hpan _ _ _ _ _ h) (Or.inl ⟨by rfl, ?_⟩) (by assumption) ?_
          rotate_left
          · intro w hSw; (try dsimp only at hSw); go_simp; try with_reducible rfl
          try simp only [Act.put, List.setIfInBounds_toArray, List.set_cons_zero, List.set_cons_succ]
          refine wpAnyH_ready (rs := [11]) (by kernel_rfl) (by simp) ?_
          refine AllReadyH.cons (o := _) (by simp only [List.getElem?_toArray, List.getElem?_cons_succ, List.getElem?_cons_zero]; rfl) (fun K hK => ?_) AllReadyH.nil
          go_simp
          generalize hw11 : w8.setCell ⟨wr.heap.size + 1, 1, none⟩ (Value.int IntKind.i64 2) = w9
          have hG9 : w8.grownBy w9 (some (wr.heap.size + 1)) := by rw [← hw11]; exact grownBy_set _ _ _ _
          have j1 : w9.cell? ⟨wr.heap.size + 1, 1, none⟩ = some (Value.int IntKind.i64 2) := by rw [← hw11]; exact cell?_set_own g1
          have j0 := set_keep (i := 1) (u := Value.int IntKind.i64 2) g0 (by decide)
          have j2 := set_keep (i := 1) (u := Value.int IntKind.i64 2) g2 (by decide)
          have j3 := set_keep (i := 1) (u := Value.int IntKind.i64 2) g3 (by decide)
          rw [hw11] at j0 j2 j3
          have c9 : ∀ {b i : Nat} {v : Value}, b ≠ wr.heap.size + 1 → w8.cell? ⟨b, i, none⟩ = some v → w9.cell? ⟨b, i, none⟩ = some v := fun hne h => by rw [← hw11]; exact far h hne
          have hG := ggrown hG8 hG9
          clear hw11
          refine hK.out _ _ (by exact ⟨c9 (by omega) (c8 (by omega) (c7 p7)), c9 (by omega) (c8 (by omega) (c7 q0)), HLk.out _ (hB7.grown hG (by omega) (fun k e => by injection e with e; omega))⟩) (fun hHeld => ?_)
          clear hK K
          try simp only [Act.put, List.setIfInBounds_toArray, List.set_cons_zero, List.set_cons_succ]
          refine wpAnyH_done (by kernel_rfl) ?_ _
          have HB : Hid (Pk w0 N mb pk lo cnt f bv ov w9 ∧ BMap w9 xb c2 g ∧ Rows lo bs bv [] ov w9 ∧ InAt lo bv ov w9 ⟨some ⟨W2.heap.size, 0, none⟩, 1, [fx], 2, true, xi⟩) := by
            have hsz := HSz.out
            have hB9 := (HB2.out.trans (hB7'.mono (by omega))).grown hG (by omega) (fun k e => by injection e with e; omega)
            obtain ⟨k1, k2, k3⟩ := HW.out _ hB9
            refine Lib.hid ⟨k1, k2, k3, .inr ⟨W2.heap.size, 0, rfl, by omega, by have := hG.size; omega, fun e => by have := HOwn.out _ e; omega, fun e => by have := HOv.out _ e; omega, fun i hi => ?_⟩⟩
            obtain rfl : i = 0 := by simp at hi; exact hi
            exact c9 (by omega) (c8 (by omega) n7)
          have hs9 : W2.heap.size < w9.heap.size := by have := hG.size; omega
          have c0 := j0
          have c1 := j1
          have c2' := j2
          have c3 := j3
          clear j0 j1 j2 j3 g0 g1 g2 g3 a0 a1 af0 af1 c7 c8 c9 n7 hG hG8 hG9 hB7 hB7' fz7 q0 p7
          go_wp2_with fail
          obtain ⟨W5, rfl⟩ : ∃ W, W = w9 := ⟨_, rfl⟩
          have p1 := HB.out.1.p1
          refine wp_region_K (S := fun w' => w'.cell? ⟨pk, 1, none⟩ = some bv ∧ w'.cell? ⟨wr.heap.size + 1, 0, none⟩ = some (Value.slice (some ⟨W2.heap.size, 0, none⟩) 1 1) ∧ w'.cell? ⟨wr.heap.size + 1, 1, none⟩ = some (Value.int IntKind.i64 2) ∧ w'.cell? ⟨wr.heap.size + 1, 2, none⟩ = some (Value.bool true) ∧ w'.cell? ⟨wr.heap.size + 1, 3, none⟩ = some (Value.bool xi)) 12 (by kernel_rfl) (⟨p1, c0, c1, c2', c3⟩) (fun hHeld => ?_)
          refine wpAnyK_take (i := 0) (v := ?_) (by simp only [List.getElem?_toArray, List.getElem?_cons_succ, List.getElem?_cons_zero]; rfl) (by kernel_rfl) (by kernel_rfl) (by kernel_rfl) (by kernel_rfl) (by intro _ _ _ h; exact hpan _ _ _ _ _ h) (Or.inl ⟨by rfl, ?_⟩) (by assumption) ?_
          rotate_left
          · intro w hSw; (try dsimp only at hSw); go_simp; try with_reducible rfl
          try simp only [Act.put, List.setIfInBounds_toArray, List.set_cons_zero, List.set_cons_succ]
          refine wpAnyK_take (i := 1) (v := ?_) (by simp only [List.getElem?_toArray, List.getElem?_cons_succ, List.getElem?_cons_zero]; rfl) (by kernel_rfl) (by kernel_rfl) (by kernel_rfl) (by kernel_rfl) (by intro _ _ _ h; exact hpan _ _ _ _ _ h) (Or.inl ⟨by rfl, ?_⟩) (by assumption) ?_
          rotate_left
          · intro w hSw; (try dsimp only at hSw); go_simp; try with_reducible rfl
          try simp only [Act.put, List.setIfInBounds_toArray, List.set_cons_zero, List.set_cons_succ]
          refine wpAnyK_take (i := 2) (v := ?_) (by simp only [List.getElem?_toArray, List.getElem?_cons_succ, List.getElem?_cons_zero]; rfl) (by kernel_rfl) (by kernel_rfl) (by kernel_rfl) (by kernel_rfl) (by intro _ _ _ h; exact hpan _ _ _ _ _ h) (Or.inl ⟨by rfl, ?_⟩) (by assumption) ?_
          rotate_left
          · intro w hSw; (try dsimp only at hSw); go_simp; try with_reducible rfl
          try simp only [Act.put, List.setIfInBounds_toArray, List.set_cons_zero, List.set_cons_succ]
          refine wpAnyK_take (i := 3) (v := ?_) (by simp only [List.getElem?_toArray, List.getElem?_cons_succ, List.getElem?_cons_zero]; rfl) (by kernel_rfl) (by kernel_rfl) (by kernel_rfl) (by kernel_rfl) (by intro _ _ _ h; exact hpan _ _ _ _ _ h) (Or.inl ⟨by rfl, ?_⟩) (by assumption) ?_
          rotate_left
          · intro w hSw; (try dsimp only at hSw); go_simp; try with_reducible rfl
          try simp only [Act.put, List.setIfInBounds_toArray, List.set_cons_zero, List.set_cons_succ]
          refine wpAnyK_take (i := 4) (v := ?_) (by simp only [List.getElem?_toArray, List.getElem?_cons_succ, List.getElem?_cons_zero]; rfl) (by kernel_rfl) (by kernel_rfl) (by kernel_rfl) (by kernel_rfl) (by intro _ _ _ h; exact hpan _ _ _ _ _ h) (Or.inl ⟨by rfl, ?_⟩) (by assumption) ?_
          rotate_left
          · intro w hSw; (try dsimp only at hSw); go_simp; try with_reducible rfl
          try simp only [Act.put, List.setIfInBounds_toArray, List.set_cons_zero, List.set_cons_succ]
          refine wpAnyK_take (i := 5) (v := ?_) (by simp only [List.getElem?_toArray, List.getElem?_cons_succ, List.getElem?_cons_zero]; rfl) (by kernel_rfl) (by kernel_rfl) (by kernel_rfl) (by kernel_rfl) (by intro _ _ _ h; exact hpan _ _ _ _ _ h) (Or.inl ⟨by rfl, ?_⟩) (by assumption) ?_
          rotate_left
          · intro w hSw; (try dsimp only at hSw); go_simp; try with_reducible rfl
          try simp only [Act.put, List.setIfInBounds_toArray, List.set_cons_zero, List.set_cons_succ]
          refine wpAnyK_take (i := 6) (v := ?_) (by simp only [List.getElem?_toArray, List.getElem?_cons_succ, List.getElem?_cons_zero]; rfl) (by kernel_rfl) (by kernel_rfl) (by kernel_rfl) (by kernel_rfl) (by intro _ _ _ h; exact hpan _ _ _ _ _ h) (Or.inl ⟨by rfl, ?_⟩) (by assumption) ?_
          rotate_left
          · intro w hSw; (try dsimp only at hSw); go_simp; try with_reducible rfl
          try simp only [Act.put, List.setIfInBounds_toArray, List.set_cons_zero, List.set_cons_succ]
          refine wpAnyK_ready (rs := [7]) (by kernel_rfl) (by simp) ?_
          refine AllReadyK.cons (o := _) (by simp only [List.getElem?_toArray, List.getElem?_cons_succ, List.getElem?_cons_zero]; rfl) (fun K hK => ?_) AllReadyK.nil
          go_simp

          refine hK.out _ _ (fun _ => by exact ⟨cell_alloc _ p1, cell_alloc _ c0, cell_alloc _ c1, cell_alloc _ c2', cell_alloc _ c3⟩) (fun hH => ?_)
          have hHeld := hH (by decide)
          clear hK K hH
          try simp only [Act.put, List.setIfInBounds_toArray, List.set_cons_zero, List.set_cons_succ]
          refine wpAnyK_ready (rs := [8]) (by kernel_rfl) (by simp) ?_
          refine AllReadyK.cons (o := _) (by simp only [List.getElem?_toArray, List.getElem?_cons_succ, List.getElem?_cons_zero]; rfl) (fun K hK => ?_) AllReadyK.nil
          rw [if_pos (by rfl)]
          have hoB8 : (W5.drew.alloc (Obj.cells #[Value.slice (some ⟨W2.heap.size, 0, none⟩) 1 1, Value.int IntKind.i64 2, Value.bool true, Value.bool xi] 43)).ownsRow lo 43 4 bv bs.length (bs.flatMap BlkV.cells) := (own_drewN (k := 1) HB.out.2.2.1.own).alloc _
          have hbl9 : bs.length ≤ 100 := by rw [HBl.out]; omega
          refine wp_append_lies _ (.tmp 149) (.tmp 151) 29 rfl lo 43 i4 (.agg #[.slice none 0 0, .int .i64 0, .bool false, .bool false]) 4 40 Try.underlying29 hi hz0 hz1 hz2 rfl (by decide) bv bs.length (bs.flatMap BlkV.cells) rfl hoB8 ⟨W5.heap.size, 0, none⟩ 1 1 [Value.slice (some ⟨W2.heap.size, 0, none⟩) 1 1, Value.int IntKind.i64 2, Value.bool true, Value.bool xi] rfl rfl (four_new (cell_new4 W5.drew _ _ _ _ _).1 (cell_new4 W5.drew _ _ _ _ _).2.1 (cell_new4 W5.drew _ _ _ _ _).2.2.1 (cell_new4 W5.drew _ _ _ _ _).2.2.2) (by simp [Value.oneCell']) (by omega) (by unfold maxLen; omega) (by omega) (by have := HB.out.1.lo'; simp; omega) (W5.heap.size + 1) (by simp) ?_
          intro gB cB w9 hoB9 hg9 hat9 hlt9
          have hgr9 : W5.grownBy w9 bv.ownBlock := ggrown (grownBy_drew _ _) (ggrown (World.grownBy_alloc _ _ _) hg9)
          have k9 : ∀ {b i : Nat} {v : Value}, (b < lo ∨ wr.heap.size ≤ b) → W5.cell? ⟨b, i, none⟩ = some v → w9.cell? ⟨b, i, none⟩ = some v := fun {b i v} hl h => (World.cell?_of_block (a := ⟨b, i, none⟩) (hgr9.block _ (World.block_lt_of_cell? W5 _ h) (fun e => by have := HOwn.out b e.symm; omega))).trans h
          have y1 := k9 (.inl HB.out.1.lp) p1
          have yf : w9.frozen? ⟨pk, 1, none⟩ = false := (World.frozen?_of_block (a := ⟨_, _, none⟩) (hgr9.block _ (World.block_lt_of_cell? W5 _ p1) (by intro e; have := HOwn.out pk e.symm; have := HB.out.1.lp; omega))).trans (HB.out.1.fz 1)
          refine hK.out _ _ (fun _ => by exact ⟨y1, k9 (.inr (by omega)) c0, k9 (.inr (by omega)) c1, k9 (.inr (by omega)) c2', k9 (.inr (by omega)) c3⟩) (fun hH => ?_)
          have hHeld := hH (by decide)
          clear hK K hH
          try simp only [Act.put, List.setIfInBounds_toArray, List.set_cons_zero, List.set_cons_succ]
          refine wpAnyK_ready (rs := [9]) (by kernel_rfl) (by simp) ?_
          refine AllReadyK.cons (o := _) (by simp only [List.getElem?_toArray, List.getElem?_cons_succ, List.getElem?_cons_zero]; rfl) (fun K hK => ?_) AllReadyK.nil
          go_simp

          refine hK.out _ _ (fun _ => by exact ⟨y1, k9 (.inr (by omega)) c0, k9 (.inr (by omega)) c1, k9 (.inr (by omega)) c2', k9 (.inr (by omega)) c3⟩) (fun hH => ?_)
          have hHeld := hH (by decide)
          clear hK K hH
          try simp only [Act.put, List.setIfInBounds_toArray, List.set_cons_zero, List.set_cons_succ]
          refine wpAnyK_ready (rs := [10]) (by kernel_rfl) (by simp) ?_
          refine AllReadyK.cons (o := _) (by simp only [List.getElem?_toArray, List.getElem?_cons_succ, List.getElem?_cons_zero]; rfl) (fun K hK => ?_) AllReadyK.nil
          go_simp

          refine hK.out _ _ (fun _ => by exact ⟨y1, k9 (.inr (by omega)) c0, k9 (.inr (by omega)) c1, k9 (.inr (by omega)) c2', k9 (.inr (by omega)) c3⟩) (fun hH => ?_)
          have hHeld := hH (by decide)
          clear hK K hH
          try simp only [Act.put, List.setIfInBounds_toArray, List.set_cons_zero, List.set_cons_succ]
          refine wpAnyK_take (i := 11) (v := ?_) (by simp only [List.getElem?_toArray, List.getElem?_cons_succ, List.getElem?_cons_zero]; rfl) (by kernel_rfl) (by kernel_rfl) (by kernel_rfl) (by kernel_rfl) (by intro _ _ _ h; exact hpan _ _ _ _ _ h) (Or.inl ⟨by rfl, ?_⟩) (by assumption) ?_
          rotate_left
          · intro w hSw; (try dsimp only at hSw); go_simp; try with_reducible rfl
          try simp only [Act.put, List.setIfInBounds_toArray, List.set_cons_zero, List.set_cons_succ]
          refine wpAnyK_ready (rs := [12]) (by kernel_rfl) (by simp) ?_
          refine AllReadyK.cons (o := _) (by simp only [List.getElem?_toArray, List.getElem?_cons_succ, List.getElem?_cons_zero]; rfl) (fun K hK => ?_) AllReadyK.nil
          go_simp

          refine hK.out _ _ (fun h => absurd rfl h) (fun _ => ?_)
          clear hK K
          try simp only [Act.put, List.setIfInBounds_toArray, List.set_cons_zero, List.set_cons_succ]
          refine wpAnyK_done (by kernel_rfl) ?_ _
          go_wp2
          go_roundw
          case rel =>
            refine ⟨j + 1, by omega, by go_num, Lib.hid ⟨.slice (some ⟨gB, 0, none⟩) (bs.length + 1) cB, bs ++ [⟨some ⟨W2.heap.size, 0, none⟩, 1, [fx], 2, true, xi⟩], ?_, ?_, ?_, ?_⟩⟩
            · exact (HB.out.1.grown hgr9 (fun k e => (HOwn.out k e).1)).set1 _
            · exact (HB.out.2.1.kept hgr9 (by intro e; have := HOwn.out _ e.symm; omega)).kept (grownBy_set _ pk 1 _) (by intro e; injection e with e; exact hnp e)
            · exact (HB.out.2.2.1.addB (b := ⟨some ⟨W2.heap.size, 0, none⟩, 1, [fx], 2, true, xi⟩) HB.out.2.2.2 hgr9 rfl hat9 (by omega) hlt9 hoB9).grown (grownBy_set _ pk 1 _) (fun k e => by injection e with e; have := HB.out.1.lp; omega)
            · rw [List.map_append, HBs.out, ← HD.out]; rfl
          case measure => simp [intOf]; omega
      · have hgx := hg.out x HGb.out.symm
        obtain ⟨k, hk⟩ : ∃ k : Nat, x = 1 + N.ins + (N.holds.length : Int) + k := ⟨(x - fstN N).toNat, by unfold fstN at hgx ⊢; omega⟩
        have hkl : k < N.luts.length := by unfold fstN at hxU; omega
        obtain ⟨b3, off3, hLa3, hbb3, hcs3⟩ := (hN.out.below HX.out.1.below (Nat.le_refl _)).luts.at (2 * k) (by omega)
        have e0 := hcs3 (k * 2) (by omega)
        have e1 := hcs3 (k * 2 + 1) (by omega)
        simp only [lutCell] at e0 e1
        rw [if_pos (by omega), show k * 2 / 2 = k by omega] at e0
        rw [if_neg (by omega), show (k * 2 + 1) / 2 = k by omega, ← Nat.add_assoc] at e1
        have hLm := getD_mem N.luts default hkl
        have hea := (hN.out.below HX.out.1.below (Nat.le_refl _)).each _ hLm
        have hL4 := hlt4.out _ hLm
        have HBlk : Hid (holdBlk N g f ⟨x, xi⟩ = toldD f (N.luts.getD k default).ins (N.luts.getD k default).tab.toNat true xi) := Lib.hid (by unfold holdBlk; dsimp only; rw [← HGb.out, if_pos rfl, show (x - fstN N).toNat = k by unfold fstN; omega])
        obtain ⟨L, hLL⟩ : ∃ L, L = N.luts.getD k default := ⟨_, rfl⟩
        rw [← hLL] at e0 e1 hea hL4 HBlk
        obtain ⟨La, Lc, Li, Lt⟩ := L
        dsimp only at e0 e1 hea hL4 HBlk
        have n2 := HX.out.1.n2
        have sp3 := HX.out.1.p3
        have sp4 := HX.out.1.p4
        have hlp := HX.out.1.lp
        rw [hh0.out, hla.out] at n2
        rw [hla.out] at hLa3
        subst hLa3
        have hinsI : I64 N.ins := ⟨by omega, by omega⟩
        have HT : Hid (∀ q, IMap (W2.drewN q) mb cnt f ∧ (W2.drewN q).cell? ⟨pk, 7, none⟩ = some (.map (some mb)) ∧ Seq (W2.drewN q) La Li.length (ints Li)) := Lib.hid (fun q => ⟨(HX.out.1.drewN q).map, (HX.out.1.drewN q).p7, hea.1.below (belowN (Below.refl _ _)) (Nat.le_refl _)⟩)
        have HL : Hid (U64 Lt ∧ (∀ x ∈ Li, I64 x) ∧ Li.length ≤ 4) := Lib.hid ⟨hea.2.1, hea.2.2.1, hL4⟩
        have HSub : Hid (IntKind.i64.wrap (x - (1 + N.ins + (N.holds.length : Int))) = k) := Lib.hid (by rw [show x - (1 + N.ins + (N.holds.length : Int)) = (k : Int) by omega]; exact Lib.wrap_i64_small k (by omega))
        have HK := Lib.hid hk
        have HC := Lib.hid (And.intro (And.intro c0 c1) (And.intro c2' c3))
        have HQ := Lib.hid q0
        clear hea hL4 hLm hLL hcs3 hk hgx q0 c0 c1 c2' c3
        go_wp2_with fail
        rw [← HW2.out]
        obtain ⟨⟨c0, c1⟩, c2', c3⟩ := HC.out
        have q0 := HQ.out
        refine wp_region_K (S := fun w' => w'.cell? ⟨wr.heap.size, 0, none⟩ = some (.int .i64 x) ∧ w'.cell? ⟨wr.heap.size + 1, 0, none⟩ = some (Value.slice none 0 0) ∧ w'.cell? ⟨wr.heap.size + 1, 1, none⟩ = some (Value.int IntKind.i64 0) ∧ w'.cell? ⟨wr.heap.size + 1, 2, none⟩ = some (Value.bool true) ∧ w'.cell? ⟨wr.heap.size + 1, 3, none⟩ = some (Value.bool xi) ∧ w'.cell? ⟨h, 2, none⟩ = some (.slice (some ⟨b3, off3, none⟩) N.luts.length N.lc) ∧ w'.cell? ⟨b3, off3 + k * 2, none⟩ = some (.slice La Li.length Lc) ∧ w'.cell? ⟨b3, off3 + k * 2 + 1, none⟩ = some (.int .u64 Lt)) 12 (by kernel_rfl) (⟨q0, c0, c1, c2', c3, n2, e0, e1⟩) (fun hHeld => ?_)
        refine wpAnyK_take (i := 0) (v := ?_) (by simp only [List.getElem?_toArray, List.getElem?_cons_succ, List.getElem?_cons_zero]; rfl) (by kernel_rfl) (by kernel_rfl) (by kernel_rfl) (by kernel_rfl) (by intro _ _ _ h; exact hpan _ _ _ _ _ h) (Or.inl ⟨by rfl, ?_⟩) (by assumption) ?_
        rotate_left
        · intro w hSw; (try dsimp only at hSw); go_simp; try with_reducible rfl
        try simp only [Act.put, List.setIfInBounds_toArray, List.set_cons_zero, List.set_cons_succ]
        refine wpAnyK_take (i := 1) (v := ?_) (by simp only [List.getElem?_toArray, List.getElem?_cons_succ, List.getElem?_cons_zero]; rfl) (by kernel_rfl) (by kernel_rfl) (by kernel_rfl) (by kernel_rfl) (by intro _ _ _ h; exact hpan _ _ _ _ _ h) (Or.inl ⟨by rfl, ?_⟩) (by assumption) ?_
        rotate_left
        · intro w hSw; (try dsimp only at hSw); go_simp; try with_reducible rfl
        try simp only [Act.put, List.setIfInBounds_toArray, List.set_cons_zero, List.set_cons_succ]
        refine wpAnyK_take (i := 2) (v := ?_) (by simp only [List.getElem?_toArray, List.getElem?_cons_succ, List.getElem?_cons_zero]; rfl) (by kernel_rfl) (by kernel_rfl) (by kernel_rfl) (by kernel_rfl) (by intro _ _ _ h; exact hpan _ _ _ _ _ h) (Or.inl ⟨by rfl, ?_⟩) (by assumption) ?_
        rotate_left
        · intro w hSw; (try dsimp only at hSw); go_simp; try with_reducible rfl
        try simp only [Act.put, List.setIfInBounds_toArray, List.set_cons_zero, List.set_cons_succ]
        refine wpAnyK_take (i := 3) (v := ?_) (by simp only [List.getElem?_toArray, List.getElem?_cons_succ, List.getElem?_cons_zero]; rfl) (by kernel_rfl) (by kernel_rfl) (by kernel_rfl) (by kernel_rfl) (by intro _ _ _ h; exact hpan _ _ _ _ _ h) (Or.inl ⟨by rfl, ?_⟩) (by assumption) ?_
        rotate_left
        · intro w hSw; (try dsimp only at hSw); go_simp; try with_reducible rfl
        try simp only [Act.put, List.setIfInBounds_toArray, List.set_cons_zero, List.set_cons_succ]
        refine wpAnyK_take (i := 4) (v := ?_) (by simp only [List.getElem?_toArray, List.getElem?_cons_succ, List.getElem?_cons_zero]; rfl) (by kernel_rfl) (by kernel_rfl) (by kernel_rfl) (by kernel_rfl) (by intro _ _ _ h; exact hpan _ _ _ _ _ h) (Or.inl ⟨by rfl, ?_⟩) (by assumption) ?_
        rotate_left
        · intro w hSw; (try dsimp only at hSw); go_simp; try with_reducible rfl
        try simp only [Act.put, List.setIfInBounds_toArray, List.set_cons_zero, List.set_cons_succ]
        refine wpAnyK_take (i := 5) (v := ?_) (by simp only [List.getElem?_toArray, List.getElem?_cons_succ, List.getElem?_cons_zero]; rfl) (by kernel_rfl) (by kernel_rfl) (by kernel_rfl) (by kernel_rfl) (by intro _ _ _ h; exact hpan _ _ _ _ _ h) (Or.inl ⟨by rfl, ?_⟩) (by assumption) ?_
        rotate_left
        · intro w hSw; (try dsimp only at hSw); go_simp; try with_reducible rfl
        try simp only [Act.put, List.setIfInBounds_toArray, List.set_cons_zero, List.set_cons_succ]
        refine wpAnyK_take (i := 6) (v := ?_) (by simp only [List.getElem?_toArray, List.getElem?_cons_succ, List.getElem?_cons_zero]; rfl) (by kernel_rfl) (by kernel_rfl) (by kernel_rfl) (by kernel_rfl) (by intro _ _ _ h; exact hpan _ _ _ _ _ h) (Or.inl ⟨by rfl, ?_⟩) (by assumption) ?_
        rotate_left
        · intro w hSw; (try dsimp only at hSw); go_simp; try with_reducible rfl
        try simp only [Act.put, List.setIfInBounds_toArray, List.set_cons_zero, List.set_cons_succ]
        refine wpAnyK_ready (rs := [7]) (by kernel_rfl) (by simp) ?_
        refine AllReadyK.cons (o := _) (by simp only [List.getElem?_toArray, List.getElem?_cons_succ, List.getElem?_cons_zero]; rfl) (fun K hK => ?_) AllReadyK.nil
        go_simp
        go_at_call 38
        refine (first38 _ pk N.holds.length 0 N.hc N.ins _ hinsI hins hhol (by assumption) (by assumption)).mono ?_
        rintro e w7 ⟨rfl, q, rfl⟩
        go_simp
        refine hK.out _ _ (fun _ => by exact ⟨q0, c0, c1, c2', c3, n2, e0, e1⟩) (fun hH => ?_)
        have hHeld := hH (by decide)
        clear hK K hH
        try simp only [Act.put, List.setIfInBounds_toArray, List.set_cons_zero, List.set_cons_succ]
        refine wpAnyK_take (i := 8) (v := ?_) (by simp only [List.getElem?_toArray, List.getElem?_cons_succ, List.getElem?_cons_zero]; rfl) (by kernel_rfl) (by kernel_rfl) (by kernel_rfl) (by kernel_rfl) (by intro _ _ _ h; exact hpan _ _ _ _ _ h) (Or.inl ⟨by rfl, ?_⟩) (by assumption) ?_
        rotate_left
        · intro w hSw; (try dsimp only at hSw); go_simp; rw [HSub.out]
        try simp only [Act.put, List.setIfInBounds_toArray, List.set_cons_zero, List.set_cons_succ]
        refine wpAnyK_take (i := 9) (v := ?_) (by simp only [List.getElem?_toArray, List.getElem?_cons_succ, List.getElem?_cons_zero]; rfl) (by kernel_rfl) (by kernel_rfl) (by kernel_rfl) (by kernel_rfl) (by intro _ _ _ h; exact hpan _ _ _ _ _ h) (Or.inl ⟨by rfl, ?_⟩) (by assumption) ?_
        rotate_left
        · intro w hSw; (try dsimp only at hSw); go_simp; first | with_reducible rfl | rw [if_pos (by omega)]
        try simp only [Act.put, List.setIfInBounds_toArray, List.set_cons_zero, List.set_cons_succ]
        refine wpAnyK_take (i := 10) (v := ?_) (by simp only [List.getElem?_toArray, List.getElem?_cons_succ, List.getElem?_cons_zero]; rfl) (by kernel_rfl) (by kernel_rfl) (by kernel_rfl) (by kernel_rfl) (by intro _ _ _ h; exact hpan _ _ _ _ _ h) (Or.inl ⟨by rfl, ?_⟩) (by assumption) ?_
        rotate_left
        · intro w hSw; (try dsimp only at hSw); go_simp; try with_reducible rfl
        try simp only [Act.put, List.setIfInBounds_toArray, List.set_cons_zero, List.set_cons_succ]
        refine wpAnyK_ready (rs := [11]) (by kernel_rfl) (by simp) ?_
        refine AllReadyK.cons (o := _) (by simp only [List.getElem?_toArray, List.getElem?_cons_succ, List.getElem?_cons_zero]; rfl) (fun K hK => ?_) AllReadyK.nil
        go_simp
        go_at_call 39
        refine (told _ pk mb cnt f (HT.out _).1 hf.out (HT.out _).2.1 La Lc Li Lt HL.out.1 HL.out.2.1 (HT.out _).2.2 HL.out.2.2 true xi).mono ?_
        rintro e w7 ⟨B, hBd, rfl, hbo, hb7⟩
        obtain ⟨ba, bc, bi, bt, bf, bn⟩ := B
        have hB7' : Below W2.heap.size W2 w7 := (belowN (Below.refl _ _)).trans hb7
        have c7 : ∀ {b i : Nat} {v : Value}, W2.cell? ⟨b, i, none⟩ = some v → w7.cell? ⟨b, i, none⟩ = some v := fun h => (hB7'.cell (p := ⟨_, _, none⟩) (World.block_lt_of_cell? W2 _ h)).trans h
        have a0 := c7 c0
        have a1 := c7 c1
        have a2 := c7 c2'
        have a3 := c7 c3
        have fz7 : ∀ i, w7.frozen? ⟨wr.heap.size + 1, i, none⟩ = false := fun i => (hB7'.frozen (p := ⟨_, _, none⟩) (by have := HSz.out; simp only; omega)).trans (HFz.out i)
        have HBo := Lib.hid hbo
        have HBd := Lib.hid hBd
        have f0 := fz7 0
        have f1 := fz7 1
        have f2 := fz7 2
        have f3 := fz7 3
        clear hbo hBd
        go_simp
        refine hK.out _ _ (fun _ => by exact ⟨c7 q0, a0, a1, a2, a3, c7 n2, c7 e0, c7 e1⟩) (fun hH => ?_)
        have hHeld := hH (by decide)
        clear hK K hH
        try simp only [Act.put, List.setIfInBounds_toArray, List.set_cons_zero, List.set_cons_succ]
        refine wpAnyK_ready (rs := [12]) (by kernel_rfl) (by simp) ?_
        refine AllReadyK.cons (o := _) (by simp only [List.getElem?_toArray, List.getElem?_cons_succ, List.getElem?_cons_zero]; rfl) (fun K hK => ?_) AllReadyK.nil
        go_simp

        refine hK.out _ _ (fun h => absurd rfl h) (fun _ => ?_)
        clear hK K
        try simp only [Act.put, List.setIfInBounds_toArray, List.set_cons_zero, List.set_cons_succ]
        refine wpAnyK_done (by kernel_rfl) ?_ _
        generalize hw9 : (((w7.setCell ⟨wr.heap.size + 1, 0, none⟩ (Value.slice ba bi.length bc)).setCell ⟨wr.heap.size + 1, 1, none⟩ (Value.int IntKind.i64 bt)).setCell ⟨wr.heap.size + 1, 2, none⟩ (Value.bool bf)).setCell ⟨wr.heap.size + 1, 3, none⟩ (Value.bool bn) = w9
        have hG : w7.grownBy w9 (some (wr.heap.size + 1)) := by rw [← hw9]; exact ggrown (ggrown (ggrown (grownBy_set _ _ _ _) (grownBy_set _ _ _ _)) (grownBy_set _ _ _ _)) (grownBy_set _ _ _ _)
        have j0 : w9.cell? ⟨wr.heap.size + 1, 0, none⟩ = some (Value.slice ba bi.length bc) := by rw [← hw9]; exact set_keep (set_keep (set_keep (cell?_set_own a0) (by decide)) (by decide)) (by decide)
        have j1 : w9.cell? ⟨wr.heap.size + 1, 1, none⟩ = some (Value.int IntKind.i64 bt) := by rw [← hw9]; exact set_keep (set_keep (cell?_set_own (set_keep a1 (by decide))) (by decide)) (by decide)
        have j2 : w9.cell? ⟨wr.heap.size + 1, 2, none⟩ = some (Value.bool bf) := by rw [← hw9]; exact set_keep (cell?_set_own (set_keep (set_keep a2 (by decide)) (by decide))) (by decide)
        have j3 : w9.cell? ⟨wr.heap.size + 1, 3, none⟩ = some (Value.bool bn) := by rw [← hw9]; exact cell?_set_own (set_keep (set_keep (set_keep a3 (by decide)) (by decide)) (by decide))
        clear hw9
        have HD : Hid ((⟨ba, bc, bi, bt, bf, bn⟩ : BlkV).data = holdBlk N g f ⟨x, xi⟩) := Lib.hid (by rw [HBlk.out]; exact HBd.out)
        have hB7s := hB7'.size
        have HB : Hid (Pk w0 N mb pk lo cnt f bv ov w9 ∧ BMap w9 xb c2 g ∧ Rows lo bs bv [] ov w9 ∧ InAt lo bv ov w9 ⟨ba, bc, bi, bt, bf, bn⟩) := by
          have hsz := HSz.out
          have hB9 := (HB2.out.trans (hB7'.mono (by omega))).grown hG (by omega) (fun k e => by injection e with e; omega)
          obtain ⟨k1, k2, k3⟩ := HW.out _ hB9
          refine Lib.hid ⟨k1, k2, k3, ?_⟩
          rcases Nat.eq_zero_or_pos bi.length with h0 | h0
          · exact .inl h0
          · obtain ⟨gg, cap, hv, hg1, hg2, _, hcc⟩ := owns_shape HBo.out h0
            injection hv with hv1 hv2 hv3
            have hg1 : W2.heap.size ≤ gg := hg1
            exact .inr ⟨gg, 0, hv1, by omega, by have := hG.size; omega, fun e => by have := HOwn.out _ e; omega, fun e => by have := HOv.out _ e; omega, fun i hi => (World.cell?_of_block (a := ⟨_, _, none⟩) (hG.block _ (by simp only; omega) (by intro e; injection e with e; simp only at e; omega))).trans (by rw [Nat.zero_add]; exact hcc i hi)⟩
        have hs9 : W2.heap.size ≤ w9.heap.size := by have := hG.size; omega
        have c0 := j0
        have c1 := j1
        have c2' := j2
        have c3 := j3
        clear j0 j1 j2 j3 a0 a1 a2 a3 f0 f1 f2 f3 c7 hG hB7' fz7 q0 e0 e1 n2 sp3 sp4
        go_wp2_with fail
        obtain ⟨W5, rfl⟩ : ∃ W, W = w9 := ⟨_, rfl⟩
        have p1 := HB.out.1.p1
        refine wp_region_K (S := fun w' => w'.cell? ⟨pk, 1, none⟩ = some bv ∧ w'.cell? ⟨wr.heap.size + 1, 0, none⟩ = some (Value.slice ba bi.length bc) ∧ w'.cell? ⟨wr.heap.size + 1, 1, none⟩ = some (Value.int IntKind.i64 bt) ∧ w'.cell? ⟨wr.heap.size + 1, 2, none⟩ = some (Value.bool bf) ∧ w'.cell? ⟨wr.heap.size + 1, 3, none⟩ = some (Value.bool bn)) 12 (by kernel_rfl) (⟨p1, c0, c1, c2', c3⟩) (fun hHeld => ?_)
        refine wpAnyK_take (i := 0) (v := ?_) (by simp only [List.getElem?_toArray, List.getElem?_cons_succ, List.getElem?_cons_zero]; rfl) (by kernel_rfl) (by kernel_rfl) (by kernel_rfl) (by kernel_rfl) (by intro _ _ _ h; exact hpan _ _ _ _ _ h) (Or.inl ⟨by rfl, ?_⟩) (by assumption) ?_
        rotate_left
        · intro w hSw; (try dsimp only at hSw); go_simp; try with_reducible rfl
        try simp only [Act.put, List.setIfInBounds_toArray, List.set_cons_zero, List.set_cons_succ]
        refine wpAnyK_take (i := 1) (v := ?_) (by simp only [List.getElem?_toArray, List.getElem?_cons_succ, List.getElem?_cons_zero]; rfl) (by kernel_rfl) (by kernel_rfl) (by kernel_rfl) (by kernel_rfl) (by intro _ _ _ h; exact hpan _ _ _ _ _ h) (Or.inl ⟨by rfl, ?_⟩) (by assumption) ?_
        rotate_left
        · intro w hSw; (try dsimp only at hSw); go_simp; try with_reducible rfl
        try simp only [Act.put, List.setIfInBounds_toArray, List.set_cons_zero, List.set_cons_succ]
        refine wpAnyK_take (i := 2) (v := ?_) (by simp only [List.getElem?_toArray, List.getElem?_cons_succ, List.getElem?_cons_zero]; rfl) (by kernel_rfl) (by kernel_rfl) (by kernel_rfl) (by kernel_rfl) (by intro _ _ _ h; exact hpan _ _ _ _ _ h) (Or.inl ⟨by rfl, ?_⟩) (by assumption) ?_
        rotate_left
        · intro w hSw; (try dsimp only at hSw); go_simp; try with_reducible rfl
        try simp only [Act.put, List.setIfInBounds_toArray, List.set_cons_zero, List.set_cons_succ]
        refine wpAnyK_take (i := 3) (v := ?_) (by simp only [List.getElem?_toArray, List.getElem?_cons_succ, List.getElem?_cons_zero]; rfl) (by kernel_rfl) (by kernel_rfl) (by kernel_rfl) (by kernel_rfl) (by intro _ _ _ h; exact hpan _ _ _ _ _ h) (Or.inl ⟨by rfl, ?_⟩) (by assumption) ?_
        rotate_left
        · intro w hSw; (try dsimp only at hSw); go_simp; try with_reducible rfl
        try simp only [Act.put, List.setIfInBounds_toArray, List.set_cons_zero, List.set_cons_succ]
        refine wpAnyK_take (i := 4) (v := ?_) (by simp only [List.getElem?_toArray, List.getElem?_cons_succ, List.getElem?_cons_zero]; rfl) (by kernel_rfl) (by kernel_rfl) (by kernel_rfl) (by kernel_rfl) (by intro _ _ _ h; exact hpan _ _ _ _ _ h) (Or.inl ⟨by rfl, ?_⟩) (by assumption) ?_
        rotate_left
        · intro w hSw; (try dsimp only at hSw); go_simp; try with_reducible rfl
        try simp only [Act.put, List.setIfInBounds_toArray, List.set_cons_zero, List.set_cons_succ]
        refine wpAnyK_take (i := 5) (v := ?_) (by simp only [List.getElem?_toArray, List.getElem?_cons_succ, List.getElem?_cons_zero]; rfl) (by kernel_rfl) (by kernel_rfl) (by kernel_rfl) (by kernel_rfl) (by intro _ _ _ h; exact hpan _ _ _ _ _ h) (Or.inl ⟨by rfl, ?_⟩) (by assumption) ?_
        rotate_left
        · intro w hSw; (try dsimp only at hSw); go_simp; try with_reducible rfl
        try simp only [Act.put, List.setIfInBounds_toArray, List.set_cons_zero, List.set_cons_succ]
        refine wpAnyK_take (i := 6) (v := ?_) (by simp only [List.getElem?_toArray, List.getElem?_cons_succ, List.getElem?_cons_zero]; rfl) (by kernel_rfl) (by kernel_rfl) (by kernel_rfl) (by kernel_rfl) (by intro _ _ _ h; exact hpan _ _ _ _ _ h) (Or.inl ⟨by rfl, ?_⟩) (by assumption) ?_
        rotate_left
        · intro w hSw; (try dsimp only at hSw); go_simp; try with_reducible rfl
        try simp only [Act.put, List.setIfInBounds_toArray, List.set_cons_zero, List.set_cons_succ]
        refine wpAnyK_ready (rs := [7]) (by kernel_rfl) (by simp) ?_
        refine AllReadyK.cons (o := _) (by simp only [List.getElem?_toArray, List.getElem?_cons_succ, List.getElem?_cons_zero]; rfl) (fun K hK => ?_) AllReadyK.nil
        go_simp

        refine hK.out _ _ (fun _ => by exact ⟨cell_alloc _ p1, cell_alloc _ c0, cell_alloc _ c1, cell_alloc _ c2', cell_alloc _ c3⟩) (fun hH => ?_)
        have hHeld := hH (by decide)
        clear hK K hH
        try simp only [Act.put, List.setIfInBounds_toArray, List.set_cons_zero, List.set_cons_succ]
        refine wpAnyK_ready (rs := [8]) (by kernel_rfl) (by simp) ?_
        refine AllReadyK.cons (o := _) (by simp only [List.getElem?_toArray, List.getElem?_cons_succ, List.getElem?_cons_zero]; rfl) (fun K hK => ?_) AllReadyK.nil
        rw [if_pos (by rfl)]
        have hoB8 : (W5.drew.alloc (Obj.cells #[Value.slice ba bi.length bc, Value.int IntKind.i64 bt, Value.bool bf, Value.bool bn] 43)).ownsRow lo 43 4 bv bs.length (bs.flatMap BlkV.cells) := (own_drewN (k := 1) HB.out.2.2.1.own).alloc _
        have hbl9 : bs.length ≤ 100 := by rw [HBl.out]; omega
        refine wp_append_lies _ (.tmp 149) (.tmp 151) 29 rfl lo 43 i4 (.agg #[.slice none 0 0, .int .i64 0, .bool false, .bool false]) 4 40 Try.underlying29 hi hz0 hz1 hz2 rfl (by decide) bv bs.length (bs.flatMap BlkV.cells) rfl hoB8 ⟨W5.heap.size, 0, none⟩ 1 1 [Value.slice ba bi.length bc, Value.int IntKind.i64 bt, Value.bool bf, Value.bool bn] rfl rfl (four_new (cell_new4 W5.drew _ _ _ _ _).1 (cell_new4 W5.drew _ _ _ _ _).2.1 (cell_new4 W5.drew _ _ _ _ _).2.2.1 (cell_new4 W5.drew _ _ _ _ _).2.2.2) (by simp [Value.oneCell']) (by omega) (by unfold maxLen; omega) (by omega) (by have := HB.out.1.lo'; simp; omega) (W5.heap.size + 1) (by simp) ?_
        intro gB cB w9 hoB9 hg9 hat9 hlt9
        have hgr9 : W5.grownBy w9 bv.ownBlock := ggrown (grownBy_drew _ _) (ggrown (World.grownBy_alloc _ _ _) hg9)
        have k9 : ∀ {b i : Nat} {v : Value}, (b < lo ∨ wr.heap.size ≤ b) → W5.cell? ⟨b, i, none⟩ = some v → w9.cell? ⟨b, i, none⟩ = some v := fun {b i v} hl h => (World.cell?_of_block (a := ⟨b, i, none⟩) (hgr9.block _ (World.block_lt_of_cell? W5 _ h) (fun e => by have := HOwn.out b e.symm; omega))).trans h
        have y1 := k9 (.inl HB.out.1.lp) p1
        have yf : w9.frozen? ⟨pk, 1, none⟩ = false := (World.frozen?_of_block (a := ⟨_, _, none⟩) (hgr9.block _ (World.block_lt_of_cell? W5 _ p1) (by intro e; have := HOwn.out pk e.symm; have := HB.out.1.lp; omega))).trans (HB.out.1.fz 1)
        refine hK.out _ _ (fun _ => by exact ⟨y1, k9 (.inr (by omega)) c0, k9 (.inr (by omega)) c1, k9 (.inr (by omega)) c2', k9 (.inr (by omega)) c3⟩) (fun hH => ?_)
        have hHeld := hH (by decide)
        clear hK K hH
        try simp only [Act.put, List.setIfInBounds_toArray, List.set_cons_zero, List.set_cons_succ]
        refine wpAnyK_ready (rs := [9]) (by kernel_rfl) (by simp) ?_
        refine AllReadyK.cons (o := _) (by simp only [List.getElem?_toArray, List.getElem?_cons_succ, List.getElem?_cons_zero]; rfl) (fun K hK => ?_) AllReadyK.nil
        go_simp

        refine hK.out _ _ (fun _ => by exact ⟨y1, k9 (.inr (by omega)) c0, k9 (.inr (by omega)) c1, k9 (.inr (by omega)) c2', k9 (.inr (by omega)) c3⟩) (fun hH => ?_)
        have hHeld := hH (by decide)
        clear hK K hH
        try simp only [Act.put, List.setIfInBounds_toArray, List.set_cons_zero, List.set_cons_succ]
        refine wpAnyK_ready (rs := [10]) (by kernel_rfl) (by simp) ?_
        refine AllReadyK.cons (o := _) (by simp only [List.getElem?_toArray, List.getElem?_cons_succ, List.getElem?_cons_zero]; rfl) (fun K hK => ?_) AllReadyK.nil
        go_simp

        refine hK.out _ _ (fun _ => by exact ⟨y1, k9 (.inr (by omega)) c0, k9 (.inr (by omega)) c1, k9 (.inr (by omega)) c2', k9 (.inr (by omega)) c3⟩) (fun hH => ?_)
        have hHeld := hH (by decide)
        clear hK K hH
        try simp only [Act.put, List.setIfInBounds_toArray, List.set_cons_zero, List.set_cons_succ]
        refine wpAnyK_take (i := 11) (v := ?_) (by simp only [List.getElem?_toArray, List.getElem?_cons_succ, List.getElem?_cons_zero]; rfl) (by kernel_rfl) (by kernel_rfl) (by kernel_rfl) (by kernel_rfl) (by intro _ _ _ h; exact hpan _ _ _ _ _ h) (Or.inl ⟨by rfl, ?_⟩) (by assumption) ?_
        rotate_left
        · intro w hSw; (try dsimp only at hSw); go_simp; try with_reducible rfl
        try simp only [Act.put, List.setIfInBounds_toArray, List.set_cons_zero, List.set_cons_succ]
        refine wpAnyK_ready (rs := [12]) (by kernel_rfl) (by simp) ?_
        refine AllReadyK.cons (o := _) (by simp only [List.getElem?_toArray, List.getElem?_cons_succ, List.getElem?_cons_zero]; rfl) (fun K hK => ?_) AllReadyK.nil
        go_simp

        refine hK.out _ _ (fun h => absurd rfl h) (fun _ => ?_)
        clear hK K
        try simp only [Act.put, List.setIfInBounds_toArray, List.set_cons_zero, List.set_cons_succ]
        refine wpAnyK_done (by kernel_rfl) ?_ _
        go_wp2
        go_roundw
        case rel =>
          refine ⟨j + 1, by omega, by go_num, Lib.hid ⟨.slice (some ⟨gB, 0, none⟩) (bs.length + 1) cB, bs ++ [⟨ba, bc, bi, bt, bf, bn⟩], ?_, ?_, ?_, ?_⟩⟩
          · exact (HB.out.1.grown hgr9 (fun k e => (HOwn.out k e).1)).set1 _
          · exact (HB.out.2.1.kept hgr9 (by intro e; have := HOwn.out _ e.symm; omega)).kept (grownBy_set _ pk 1 _) (by intro e; injection e with e; exact hnp e)
          · exact (HB.out.2.2.1.addB (b := ⟨ba, bc, bi, bt, bf, bn⟩) HB.out.2.2.2 hgr9 rfl hat9 (by omega) hlt9 hoB9).grown (grownBy_set _ pk 1 _) (fun k e => by injection e with e; have := HB.out.1.lp; omega)
          · rw [List.map_append, HBs.out, ← HD.out]; rfl
        case measure => simp [intOf]; omega
    · obtain rfl : j = N.holds.length := by omega
      go_wp2
      exact hh
end Go.Proofs.Ytibimdhmfchcoaa

