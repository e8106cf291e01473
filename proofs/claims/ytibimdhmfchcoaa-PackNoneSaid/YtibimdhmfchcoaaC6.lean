import Derived.Test.YtibimdhmfchcoaaBC
namespace Go.Proofs.Ytibimdhmfchcoaa
open Go.RowKit Go.Shelf Go.Maps
set_option linter.unusedVariables false
set_option linter.unusedSimpArgs false

set_option maxRecDepth 100000 in
set_option maxHeartbeats 8000000 in
theorem packL6 (Q : Exit → Act → World → Prop) (hpan : ∀ c (d : Option Tmp) v a w, Q (.panic c) (a.put d v) w → Q (.panic c) a w) (w0 w : World) (N : NetV) (hN : Hid (NetAt w0 N)) (houts : N.outs.length ≤ 100) (mb pk lo h cnt : Nat) (f : Int → Int) (bv : Value) (bs : List BlkV) (oa : Option Addr) (hoa : Hid (N.oa = oa)) (hst : Hid (∃ ov os, Pk w0 N mb pk lo cnt f bv ov w ∧ Rows lo bs bv os ov w ∧ os = (N.outs.take 0).map f))
    (s0 s2 s3 s5 s6 s7 s8 s9 s10 s11 s12 s13 s14 s15 s16 s17 s18 s19 s20 s21 s22 s23 s24 s25 s26 s27 s28 s29 s30 s31 s32 s33 s34 s35 s36 s37 s38 s39 s40 s41 s42 s43 s44 s45 s46 s47 s48 s49 s50 s51 s52 s53 s54 s55 s56 s57 s58 s59 s60 s61 s62 s63 s64 s65 s66 s67 s68 s69 s70 s71 s72 s73 s74 s75 s76 s77 s78 s79 s80 s81 s82 s83 s84 s85 s86 s87 s88 s89 s90 s91 s92 s93 s94 s95 s96 s97 s98 s99 s100 s101 s102 s103 s104 s105 s106 s107 s108 s109 s110 s111 s112 s113 s114 s115 s116 s117 s118 s119 s120 s121 s122 s123 s124 s125 s126 s127 s128 s129 s130 s131 s132 s133 s134 s135 s136 s137 s138 s139 s140 s141 s142 s143 s144 s145 s146 s147 s148 s149 s150 s151 s152 s153 s154 s155 s156 s157 s158 s159 s160 s161 s162 s163 s164 s165 s166 s167 s168 s169 s170 s171 s172 s173 s174 s175 s176 s177 s178 s179 s180 s181 s182 s183 s184 s185 s186 s187 s188 s189 s190 s191 s192 s193 s194 s195 s196 s197 s198 s199 s200 s201 s202 s203 s204 s205 s206 s207 s208 s212 s213 s214 s215 s216 s217 s218 s219 s220 s221 s222 s223 s224 s225 s226 s227 s228 s229 s230 s231 s232 s233 s234 s235 s236 s237 s238 s239 s240 s241 s242 s243 s244 s245 s246 s247 s248 s249 : Value)
    (hexit : ∀ (r19 r211 r212 r213 r214 r215 r216 r217 r218 r219 r220 r221 r222 r223 r224 r225 r226 r227 r228 r229 r230 r231 r232 : Value) (w' : World), Hid (∃ ov os, Pk w0 N mb pk lo cnt f bv ov w' ∧ Rows lo bs bv os ov w' ∧ os = (N.outs.take N.outs.length).map f) → Q .normal { tmps := #[s0, .pointer (some ⟨h, 0, none⟩), s2, s3, .pointer (some ⟨pk, 0, none⟩), s5, s6, s7, s8, s9, s10, s11, s12, s13, s14, s15, s16, s17, s18, r19, s20, s21, s22, s23, s24, s25, s26, s27, s28, s29, s30, s31, s32, s33, s34, s35, s36, s37, s38, s39, s40, s41, s42, s43, s44, s45, s46, s47, s48, s49, s50, s51, s52, s53, s54, s55, s56, s57, s58, s59, s60, s61, s62, s63, s64, s65, s66, s67, s68, s69, s70, s71, s72, s73, s74, s75, s76, s77, s78, s79, s80, s81, s82, s83, s84, s85, s86, s87, s88, s89, s90, s91, s92, s93, s94, s95, s96, s97, s98, s99, s100, s101, s102, s103, s104, s105, s106, s107, s108, s109, s110, s111, s112, s113, s114, s115, s116, s117, s118, s119, s120, s121, s122, s123, s124, s125, s126, s127, s128, s129, s130, s131, s132, s133, s134, s135, s136, s137, s138, s139, s140, s141, s142, s143, s144, s145, s146, s147, s148, s149, s150, s151, s152, s153, s154, s155, s156, s157, s158, s159, s160, s161, s162, s163, s164, s165, s166, s167, s168, s169, s170, s171, s172, s173, s174, s175, s176, s177, s178, s179, s180, s181, s182, s183, s184, s185, s186, s187, s188, s189, s190, s191, s192, s193, s194, s195, s196, s197, s198, s199, s200, s201, s202, s203, s204, s205, s206, s207, s208, .slice oa N.outs.length N.oc, .int .i64 (N.outs.length : Int), r211, r212, r213, r214, r215, r216, r217, r218, r219, r220, r221, r222, r223, r224, r225, r226, r227, r228, r229, r230, r231, r232, s233, s234, s235, s236, s237, s238, s239, s240, s241, s242, s243, s244, s245, s246, s247, s248, s249], defers := [] } w') :
    ((Try.f16.body.bind (loopAt 45)).getD .skip).wp Try.prog (Exit.inBlock 11 Q) { tmps := #[s0, .pointer (some ⟨h, 0, none⟩), s2, s3, .pointer (some ⟨pk, 0, none⟩), s5, s6, s7, s8, s9, s10, s11, s12, s13, s14, s15, s16, s17, s18, s19, s20, s21, s22, s23, s24, s25, s26, s27, s28, s29, s30, s31, s32, s33, s34, s35, s36, s37, s38, s39, s40, s41, s42, s43, s44, s45, s46, s47, s48, s49, s50, s51, s52, s53, s54, s55, s56, s57, s58, s59, s60, s61, s62, s63, s64, s65, s66, s67, s68, s69, s70, s71, s72, s73, s74, s75, s76, s77, s78, s79, s80, s81, s82, s83, s84, s85, s86, s87, s88, s89, s90, s91, s92, s93, s94, s95, s96, s97, s98, s99, s100, s101, s102, s103, s104, s105, s106, s107, s108, s109, s110, s111, s112, s113, s114, s115, s116, s117, s118, s119, s120, s121, s122, s123, s124, s125, s126, s127, s128, s129, s130, s131, s132, s133, s134, s135, s136, s137, s138, s139, s140, s141, s142, s143, s144, s145, s146, s147, s148, s149, s150, s151, s152, s153, s154, s155, s156, s157, s158, s159, s160, s161, s162, s163, s164, s165, s166, s167, s168, s169, s170, s171, s172, s173, s174, s175, s176, s177, s178, s179, s180, s181, s182, s183, s184, s185, s186, s187, s188, s189, s190, s191, s192, s193, s194, s195, s196, s197, s198, s199, s200, s201, s202, s203, s204, s205, s206, s207, s208, .slice oa N.outs.length N.oc, .int .i64 (N.outs.length : Int), .int .i64 0, s212, s213, s214, s215, s216, s217, s218, s219, s220, s221, s222, s223, s224, s225, s226, s227, s228, s229, s230, s231, s232, s233, s234, s235, s236, s237, s238, s239, s240, s241, s242, s243, s244, s245, s246, s247, s248, s249], defers := [] } w := by
  conv => arg 2; whnf
  dsimp only
  obtain ⟨i3, hi, hz0, hz1, hz2⟩ := info_parts info3
  go_loopw [211] (fun iv wr => ∃ j : Nat, j ≤ N.outs.length ∧ iv = .int .i64 j ∧ Hid (∃ ov os, Pk w0 N mb pk lo cnt f bv ov wr ∧ Rows lo bs bv os ov wr ∧ os = (N.outs.take j).map f)) (fun iv _ => N.outs.length - (intOf iv).toNat)
  case atStart => exact ⟨0, by omega, rfl, hst⟩
  case round =>
    obtain ⟨j, hj, rfl, hh⟩ := hrel
    by_cases hlt : j < N.outs.length
    · obtain ⟨ov, os, hp, hr, hos⟩ := hh.out
      obtain ⟨b3, off3, hOa, hbb3, hcs3⟩ := (hN.out.below hp.below (Nat.le_refl _)).outs.at j hlt
      have e0 := hcs3 j hlt
      unfold ints at e0
      have hxI := hN.out.outsR _ (getD_mem N.outs 0 hlt)
      have hos2 : (N.outs.take (j + 1)).map f = (N.outs.take j).map f ++ [f (N.outs.getD j 0)] := by rw [take_one N.outs 0 j hlt, List.map_append]; rfl
      obtain ⟨x, hx⟩ : ∃ z, z = N.outs.getD j 0 := ⟨_, rfl⟩
      rw [← hx] at e0 hxI hos2
      obtain ⟨fx, hfx⟩ : ∃ z, z = f x := ⟨_, rfl⟩
      rw [← hfx] at hos2
      rw [← hos] at hos2
      have hol : os.length = j := by rw [hos, List.length_map, List.length_take]; omega
      have hlo := hp.lo'
      have hlp := hp.lp
      have p2 := hp.p2
      have p7 := hp.p7
      have HP := Lib.hid hp
      have HR := Lib.hid hr
      have HLk : Hid (∀ W, Below lo wr W → (Instr.lookup 68 (.map (some mb)) (.int .i64 x) false).run Try.prog W = .ok (.int .i64 fx) W) := Lib.hid (fun W hW => by rw [hfx]; exact (hp.map.below hW hp.lm).look x hxI)
      have HOs2 := Lib.hid hos2
      have HOl := Lib.hid hol
      have HOown := Lib.hid hr.oown.lt
      clear hp hr hos hos2 hol hcs3 hx hfx hxI hh
      rw [hoa.out] at hOa
      subst hOa
      go_wp2_with fail
      refine wp_region_K (S := fun w' => w'.cell? ⟨pk, 2, none⟩ = some ov ∧ w'.cell? ⟨pk, 7, none⟩ = some (.map (some mb)) ∧ (Instr.lookup 68 (.map (some mb)) (.int .i64 x) false).run Try.prog w' = .ok (.int .i64 fx) w') 17 (by kernel_rfl) (⟨p2, p7, HLk.out _ (Below.refl _ _).drew⟩) (fun hHeld => ?_)
      refine wpAnyK_take (i := 0) (v := ?_) (by simp only [List.getElem?_toArray, List.getElem?_cons_succ, List.getElem?_cons_zero]; rfl) (by kernel_rfl) (by kernel_rfl) (by kernel_rfl) (by kernel_rfl) (by intro _ _ _ h; exact hpan _ _ _ _ _ h) (Or.inl ⟨by rfl, ?_⟩) (by assumption) ?_
      rotate_left
      · intro w hSw; (try dsimp only at hSw); go_simp; try with_reducible rfl
      try simp only [Act.put, List.setIfInBounds_toArray, List.set_cons_zero, List.set_cons_succ]
      refine wpAnyK_take (i := 1) (v := ?_) (by simp only [List.getElem?_toArray, List.getElem?_cons_succ, List.getElem?_cons_zero]; rfl) (by kernel_rfl) (by kernel_rfl) (by kernel_rfl) (by kernel_rfl) (by intro _ _ _ h; exact hpan _ _ _ _ _ h) (Or.inl ⟨by rfl, ?_⟩) (by assumption) ?_
      rotate_left
      · intro w hSw; (try dsimp only at hSw); go_simp; try with_reducible rfl
      try simp only [Act.put, List.setIfInBounds_toArray, List.set_cons_zero, List.set_cons_succ]
      refine wpAnyK_take (i := 2) (v := ?_) (by simp only [List.getElem?_toArray, List.getElem?_cons_succ, List.getElem?_cons_zero]; rfl) (by kernel_rfl) (by kernel_rfl) (by kernel_rfl) (by kernel_rfl) (by intro _ _ _ h; exact hpan _ _ _ _ _ h) (Or.inl ⟨by rfl, ?_⟩) (by assumption) ?_
      rotate_left
      · intro w hSw; (try dsimp only at hSw); go_simp; try with_reducible rfl
      try simp only [Act.put, List.setIfInBounds_toArray, List.set_cons_zero, List.set_cons_succ]
      refine wpAnyK_take (i := 3) (v := ?_) (by simp only [List.getElem?_toArray, List.getElem?_cons_succ, List.getElem?_cons_zero]; rfl) (by kernel_rfl) (by kernel_rfl) (by kernel_rfl) (by kernel_rfl) (by intro _ _ _ h; exact hpan _ _ _ _ _ h) (Or.inl ⟨by rfl, ?_⟩) (by assumption) ?_
      rotate_left
      · intro w hSw; (try dsimp only at hSw); go_simp; try with_reducible rfl
      try simp only [Act.put, List.setIfInBounds_toArray, List.set_cons_zero, List.set_cons_succ]
      refine wpAnyK_take (i := 4) (v := ?_) (by simp only [List.getElem?_toArray, List.getElem?_cons_succ, List.getElem?_cons_zero]; rfl) (by kernel_rfl) (by kernel_rfl) (by kernel_rfl) (by kernel_rfl) (by intro _ _ _ h; exact hpan _ _ _ _ _ h) (Or.inl ⟨by rfl, ?_⟩) (by assumption) ?_
      rotate_left
      · intro w hSw; (try dsimp only at hSw); go_simp; try with_reducible rfl
      try simp only [Act.put, List.setIfInBounds_toArray, List.set_cons_zero, List.set_cons_succ]
      refine wpAnyK_take (i := 5) (v := ?_) (by simp only [List.getElem?_toArray, List.getElem?_cons_succ, List.getElem?_cons_zero]; rfl) (by kernel_rfl) (by kernel_rfl) (by kernel_rfl) (by kernel_rfl) (by intro _ _ _ h; exact hpan _ _ _ _ _ h) (Or.inl ⟨by rfl, ?_⟩) (by assumption) ?_
      rotate_left
      · intro w hSw; (try dsimp only at hSw); go_simp; try with_reducible rfl
      try simp only [Act.put, List.setIfInBounds_toArray, List.set_cons_zero, List.set_cons_succ]
      refine wpAnyK_take (i := 6) (v := ?_) (by simp only [List.getElem?_toArray, List.getElem?_cons_succ, List.getElem?_cons_zero]; rfl) (by kernel_rfl) (by kernel_rfl) (by kernel_rfl) (by kernel_rfl) (by intro _ _ _ h; exact hpan _ _ _ _ _ h) (Or.inl ⟨by rfl, ?_⟩) (by assumption) ?_
      rotate_left
      · intro w hSw; (try dsimp only at hSw); go_simp; try with_reducible rfl
      try simp only [Act.put, List.setIfInBounds_toArray, List.set_cons_zero, List.set_cons_succ]
      refine wpAnyK_take (i := 7) (v := ?_) (by simp only [List.getElem?_toArray, List.getElem?_cons_succ, List.getElem?_cons_zero]; rfl) (by kernel_rfl) (by kernel_rfl) (by kernel_rfl) (by kernel_rfl) (by intro _ _ _ h; exact hpan _ _ _ _ _ h) (Or.inl ⟨by rfl, ?_⟩) (by assumption) ?_
      rotate_left
      · intro w hSw; (try dsimp only at hSw); go_simp; try with_reducible rfl
      try simp only [Act.put, List.setIfInBounds_toArray, List.set_cons_zero, List.set_cons_succ]
      refine wpAnyK_take (i := 8) (v := ?_) (by simp only [List.getElem?_toArray, List.getElem?_cons_succ, List.getElem?_cons_zero]; rfl) (by kernel_rfl) (by kernel_rfl) (by kernel_rfl) (by kernel_rfl) (by intro _ _ _ h; exact hpan _ _ _ _ _ h) (Or.inl ⟨by rfl, ?_⟩) (by assumption) ?_
      rotate_left
      · intro w hSw; (try dsimp only at hSw); go_simp; try with_reducible rfl
      try simp only [Act.put, List.setIfInBounds_toArray, List.set_cons_zero, List.set_cons_succ]
      refine wpAnyK_take (i := 9) (v := ?_) (by simp only [List.getElem?_toArray, List.getElem?_cons_succ, List.getElem?_cons_zero]; rfl) (by kernel_rfl) (by kernel_rfl) (by kernel_rfl) (by kernel_rfl) (by intro _ _ _ h; exact hpan _ _ _ _ _ h) (Or.inl ⟨by rfl, ?_⟩) (by assumption) ?_
      rotate_left
      · intro w hSw; (try dsimp only at hSw); go_simp; try with_reducible rfl
      try simp only [Act.put, List.setIfInBounds_toArray, List.set_cons_zero, List.set_cons_succ]
      refine wpAnyK_take (i := 10) (v := ?_) (by simp only [List.getElem?_toArray, List.getElem?_cons_succ, List.getElem?_cons_zero]; rfl) (by kernel_rfl) (by kernel_rfl) (by kernel_rfl) (by kernel_rfl) (by intro _ _ _ h; exact hpan _ _ _ _ _ h) (Or.inl ⟨by rfl, ?_⟩) (by assumption) ?_
      rotate_left
      · intro w hSw; (try dsimp only at hSw); go_simp; try with_reducible rfl
      try simp only [Act.put, List.setIfInBounds_toArray, List.set_cons_zero, List.set_cons_succ]
      refine wpAnyK_take (i := 11) (v := ?_) (by simp only [List.getElem?_toArray, List.getElem?_cons_succ, List.getElem?_cons_zero]; rfl) (by kernel_rfl) (by kernel_rfl) (by kernel_rfl) (by kernel_rfl) (by intro _ _ _ h; exact hpan _ _ _ _ _ h) (Or.inl ⟨by rfl, ?_⟩) (by assumption) ?_
      rotate_left
      · intro w hSw; (try dsimp only at hSw); go_simp; first | with_reducible rfl | (simp only [hSw.2.2]; rfl) | (simp [hSw.2.2]; rfl)
      try simp only [Act.put, List.setIfInBounds_toArray, List.set_cons_zero, List.set_cons_succ]
      refine wpAnyK_ready (rs := [12]) (by kernel_rfl) (by simp) ?_
      refine AllReadyK.cons (o := _) (by simp only [List.getElem?_toArray, List.getElem?_cons_succ, List.getElem?_cons_zero]; rfl) (fun K hK => ?_) AllReadyK.nil
      go_simp
      have hB8 : Below lo wr (wr.drew.alloc (Obj.cells #[Value.int IntKind.i64 fx] 3)) := (Below.refl _ _).drew.alloc hlo _
      refine hK.out _ _ (fun _ => by exact ⟨cell_alloc _ p2, cell_alloc _ p7, HLk.out _ hB8⟩) (fun hH => ?_)
      have hHeld := hH (by decide)
      clear hK K hH
      try simp only [Act.put, List.setIfInBounds_toArray, List.set_cons_zero, List.set_cons_succ]
      refine wpAnyK_ready (rs := [13]) (by kernel_rfl) (by simp) ?_
      refine AllReadyK.cons (o := _) (by simp only [List.getElem?_toArray, List.getElem?_cons_succ, List.getElem?_cons_zero]; rfl) (fun K hK => ?_) AllReadyK.nil
      rw [if_pos (by rfl)]
      have hoB8 : (wr.drew.alloc (Obj.cells #[Value.int IntKind.i64 fx] 3)).ownsRow lo 3 1 ov os.length (os.map (Value.int .i64)) := (own_drewN (k := 1) HR.out.oown).alloc _
      have hbl9 : os.length ≤ 100 := by have := HOl.out; omega
      refine wp_append_lies _ (.tmp 220) (.tmp 227) 24 rfl lo 3 i3 (.int .i64 0) 1 8 Try.underlying24 hi hz0 hz1 hz2 rfl (by decide) ov os.length (os.map (Value.int .i64)) rfl hoB8 ⟨wr.heap.size, 0, none⟩ 1 1 [.int .i64 fx] rfl rfl (one_new (cell_newW wr.drew _ _)) (by simp [Value.oneCell']) (by omega) (by unfold maxLen; omega) (by omega) (by simp; omega) (wr.heap.size + 1) (by simp) ?_
      intro gB cB w9 hoB9 hg9 hat9 hlt9
      have hgr9 : wr.grownBy w9 ov.ownBlock := ggrown (grownBy_drew _ _) (ggrown (World.grownBy_alloc _ _ _) hg9)
      have hb9 : Below lo wr w9 := (Below.refl _ _).grown hgr9 (by omega) (fun k e => (HOown.out k e).1)
      have y1 := (hb9.cell (p := ⟨pk, 2, none⟩) (by simp only; omega)).trans p2
      have y7 := (hb9.cell (p := ⟨pk, 7, none⟩) (by simp only; omega)).trans p7
      have yf : w9.frozen? ⟨pk, 2, none⟩ = false := (hb9.frozen (p := ⟨_, _, none⟩) (by simp only; omega)).trans (HP.out.fz 2)
      refine hK.out _ _ (fun _ => by exact ⟨y1, y7, HLk.out _ hb9⟩) (fun hH => ?_)
      have hHeld := hH (by decide)
      clear hK K hH
      try simp only [Act.put, List.setIfInBounds_toArray, List.set_cons_zero, List.set_cons_succ]
      refine wpAnyK_ready (rs := [14]) (by kernel_rfl) (by simp) ?_
      refine AllReadyK.cons (o := _) (by simp only [List.getElem?_toArray, List.getElem?_cons_succ, List.getElem?_cons_zero]; rfl) (fun K hK => ?_) AllReadyK.nil
      go_simp

      refine hK.out _ _ (fun _ => by exact ⟨y1, y7, HLk.out _ hb9⟩) (fun hH => ?_)
      have hHeld := hH (by decide)
      clear hK K hH
      try simp only [Act.put, List.setIfInBounds_toArray, List.set_cons_zero, List.set_cons_succ]
      refine wpAnyK_ready (rs := [15]) (by kernel_rfl) (by simp) ?_
      refine AllReadyK.cons (o := _) (by simp only [List.getElem?_toArray, List.getElem?_cons_succ, List.getElem?_cons_zero]; rfl) (fun K hK => ?_) AllReadyK.nil
      go_simp

      refine hK.out _ _ (fun _ => by exact ⟨y1, y7, HLk.out _ hb9⟩) (fun hH => ?_)
      have hHeld := hH (by decide)
      clear hK K hH
      try simp only [Act.put, List.setIfInBounds_toArray, List.set_cons_zero, List.set_cons_succ]
      refine wpAnyK_ready (rs := [16]) (by kernel_rfl) (by simp) ?_
      refine AllReadyK.cons (o := _) (by simp only [List.getElem?_toArray, List.getElem?_cons_succ, List.getElem?_cons_zero]; rfl) (fun K hK => ?_) AllReadyK.nil
      go_simp

      refine hK.out _ _ (fun _ => by exact ⟨y1, y7, HLk.out _ hb9⟩) (fun hH => ?_)
      have hHeld := hH (by decide)
      clear hK K hH
      try simp only [Act.put, List.setIfInBounds_toArray, List.set_cons_zero, List.set_cons_succ]
      refine wpAnyK_ready (rs := [17]) (by kernel_rfl) (by simp) ?_
      refine AllReadyK.cons (o := _) (by simp only [List.getElem?_toArray, List.getElem?_cons_succ, List.getElem?_cons_zero]; rfl) (fun K hK => ?_) AllReadyK.nil
      go_simp

      refine hK.out _ _ (fun h => absurd rfl h) (fun _ => ?_)
      clear hK K
      try simp only [Act.put, List.setIfInBounds_toArray, List.set_cons_zero, List.set_cons_succ]
      refine wpAnyK_done (by kernel_rfl) ?_ _
      go_wp2
      go_roundw
      case rel =>
        refine ⟨j + 1, by omega, by go_num, Lib.hid ⟨.slice (some ⟨gB, 0, none⟩) (os.length + 1) cB, os ++ [fx], ?_, ?_, ?_⟩⟩
        · exact (HP.out.low hb9).set2 _
        · exact (HR.out.addO hgr9 rfl hat9 (by omega) hlt9 hoB9).grown (grownBy_set _ pk 2 _) (fun k e => by injection e with e; omega)
        · rw [HOs2.out]
      case measure => simp [intOf]; omega
    · obtain rfl : j = N.outs.length := by omega
      go_wp2
      exact hh
end Go.Proofs.Ytibimdhmfchcoaa

