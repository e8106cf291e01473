import Derived.Test.YtkcilpkcjhnkaaaT43
import Derived.Test.YtkcilpkcjhnkaaaT36
namespace Go.Proofs.Ytkcilpkcjhnkaaa
open Go.RowKit Go.Shelf Go.Maps
set_option linter.unusedVariables false
set_option linter.unusedSimpArgs false
attribute [local go_sem] Oper.semAt_some

/-- Does a code begin with that region? -/
def atRegion (k : Nat) : Code → Bool
  | .region id _ _ => id == k
  | .seq a _ => atRegion k a
  | _ => false
/-- The loop whose body begins with that region. -/
def loopAt (k : Nat) : Code → Option Code
  | .loop c => if atRegion k c then some (.loop c) else loopAt k c
  | .seq a b => match loopAt k a with
    | some c => some c
    | none => loopAt k b
  | .block _ c => loopAt k c
  | .scope c => loopAt k c
  | .cond _ a b => match loopAt k a with
    | some c => some c
    | none => loopAt k b
  | .rangeFunc _ _ a b => match loopAt k a with
    | some c => some c
    | none => loopAt k b
  | _ => none

theorem noDefer_spec {ops : Array Oper} (h : (ops.all fun o => match o.op with | .defer _ => false | _ => true) = true) : ∀ (i : Nat) (o : Oper), ops[i]? = some o → ∀ c, o.op ≠ .defer c := by
  intro i o ho c hc
  have hi := (Array.getElem?_eq_some_iff.1 ho)
  obtain ⟨hlt, he⟩ := hi
  have := Array.all_eq_true.1 h i hlt
  rw [he] at this
  simp [hc] at this

theorem MapIs.kept {w w' : World} {mb cnt : Nat} {M : Need} {row : Option Nat} (h : MapIs w mb cnt M) (hg : w.grownBy w' row) (hne : some mb ≠ row) : MapIs w' mb cnt M := by
  obtain ⟨D, h1, h2⟩ := h
  exact ⟨D, h1.kept hg hne, h2⟩
theorem MapIs.mono {w : World} {mb cnt cnt' : Nat} {M : Need} (h : MapIs w mb cnt M) (hc : cnt ≤ cnt') : MapIs w mb cnt' M := by
  obtain ⟨D, h1, h2⟩ := h
  exact ⟨D, h1.mono hc, h2⟩
theorem MapIs.drew {w : World} {mb cnt : Nat} {M : Need} (h : MapIs w mb cnt M) : MapIs w.drew mb cnt M := by
  obtain ⟨D, h1, h2⟩ := h
  exact ⟨D, h1.drew, h2⟩
theorem MapIs.look {w : World} {mb cnt : Nat} {M : Need} (h : MapIs w mb cnt M) {node : Nat} {nv : Int} (hkey : keyOf Try.prog 3 (.int .i64 (node : Int)) = some (.int .i64 (node : Int))) (hn : M.getD node none = some nv) :
    (Instr.lookup 60 (.map (some mb)) (.int .i64 (node : Int)) false).run Try.prog w = .ok (.int .i64 nv) w := by
  obtain ⟨D, ho, ha⟩ := h
  obtain ⟨c2, hrun, hat2, _⟩ := ho.lookup_int (t := 60) law3 Try.underlying60 Try.underlying3 (zero3 _) hkey
  obtain rfl : c2 = nv := by
    have := hat2.symm.trans (ha.at_ node nv hn); injection this with this; injection this
  exact hrun

set_option maxRecDepth 100000 in
set_option maxHeartbeats 4000000 in
/-- A table's inputs are asked for. -/
theorem slack_inner (l : Nat) (Q : Exit → Act → World → Prop) (hnl : ∀ a w, ¬ Q .outgrown a w) (hpan : ∀ c a w, ¬ Q (.panic c) a w) (W w : World) (Bc mb cb coff x n0 cc node ml lc : Nat) (la : Option Addr) (cx nv : Int) (L : List Int) (M1 : Need) (C0 : Nat)
    (hC0 : C0 ≤ 50000) (hBc : Bc < W.heap.size) (hBcm : Bc ≠ mb) (hcb : cb < W.heap.size) (hcbm : cb ≠ mb) (hmb : mb + 2 < W.heap.size) (hx0 : x < n0) (hn0 : n0 ≤ 300) (hnode : node < M1.length) (hlen : M1.length ≤ 1000)
    (hcx : 0 ≤ cx ∧ cx ≤ 1048576) (hnv : -2199023255552 ≤ nv ∧ nv ≤ 2199023255552) (hml6 : ml ≤ 6)
    (g4 : W.cell? ⟨Bc, 0, none⟩ = some (.slice (some ⟨cb, coff, none⟩) n0 cc)) (gc : W.cell? ⟨cb, coff + x, none⟩ = some (.int .i64 cx))
    (g6 : W.cell? ⟨mb + 1, 0, none⟩ = some (.map (some mb))) (g7 : W.cell? ⟨mb + 1 + 1, 0, none⟩ = some (.func (.func 38) #[] #[.pointer (some ⟨mb + 1, 0, none⟩)]))
    (HMl : Hid (ml = L.length)) (HLS : Hid (Seq W la ml (ints L))) (HApart : Hid (∀ b off, 0 < ml → la = some ⟨b, off, none⟩ → b ≠ mb)) (HRng : Hid (∀ k ∈ L, 0 ≤ k ∧ k.toNat < node)) (HKne : Hid (∀ k ∈ L, k.toNat ≠ node)) (HNv : Hid (M1.getD node none = some nv))
    (hStart : Hid (MapIs w mb C0 M1 ∧ W.grownBy w (some mb)))
    (hexit : ∀ a' w', MapIs w' mb (C0 + ml) (askIns M1 L node cx) → W.grownBy w' (some mb) → Q .normal a' w')
    (s0 s1 s2 s3 s5 s6 s7 s8 s9 s12 s13 s15 s17 s18 s19 s20 s21 s22 s23 s24 s25 s26 s27 s28 s29 s30 s31 s32 s33 s34 s35 s36 s37 s38 s39 s40 s41 s42 s43 s44 s45 s46 s47 s48 s49 s50 s51 s52 s53 s54 s55 s56 s57 s58 s59 s60 s61 s62 s63 s64 s65 s66 s67 s68 s69 s70 s71 s72 s73 s74 s78 s79 s80 s81 s82 s83 s84 s85 s86 s87 s88 s89 s90 s91 s92 s93 s94 s95 s96 s97 s98 s99 s100 s101 s102 s103 s104 s105 s106 s107 s108 s109 s110 s111 s112 s113 s114 s115 s116 s117 s118 s119 s120 : Value) :
    ((Try.f21.body.bind (loopAt 21)).getD .skip).wpIn (Fence.wide.inRound l) 3 Try.prog (Exit.inBlock 4 (Exit.inBlock 3 Q)) { tmps := #[s0, s1, s2, s3, .pointer (some ⟨Bc, 0, none⟩), s5, s6, s7, s8, s9, .pointer (some ⟨mb + 1, 0, none⟩), .pointer (some ⟨mb + 1 + 1, 0, none⟩), s12, s13, .int .i64 (x : Int), s15, .int .i64 (node : Int), s17, s18, s19, s20, s21, s22, s23, s24, s25, s26, s27, s28, s29, s30, s31, s32, s33, s34, s35, s36, s37, s38, s39, s40, s41, s42, s43, s44, s45, s46, s47, s48, s49, s50, s51, s52, s53, s54, s55, s56, s57, s58, s59, s60, s61, s62, s63, s64, s65, s66, s67, s68, s69, s70, s71, s72, s73, s74, .slice la ml lc, .int .i64 (ml : Int), .int .i64 0, s78, s79, s80, s81, s82, s83, s84, s85, s86, s87, s88, s89, s90, s91, s92, s93, s94, s95, s96, s97, s98, s99, s100, s101, s102, s103, s104, s105, s106, s107, s108, s109, s110, s111, s112, s113, s114, s115, s116, s117, s118, s119, s120], defers := [] } w := by
  have hkey : keyOf Try.prog 3 (.int .i64 (node : Int)) = some (.int .i64 (node : Int)) := keyOf_int_mk Try.underlying3 (wfI (by omega))
  conv => arg 4; whnf
  dsimp only

  gi_loopw [77] (fun qv wq => ∃ q : Nat, q ≤ ml ∧ qv = .int .i64 q ∧ Hid (MapIs wq mb (C0 + q) (askIns M1 (L.take q) node cx) ∧ W.grownBy wq (some mb))) (fun qv _ => ml - (intOf qv).toNat)
  case atStart => exact ⟨0, by omega, rfl, hStart.out⟩
  case round =>
    obtain ⟨q, hq, rfl, hi_⟩ := hrel
    by_cases hlq : q < ml
    · have hi2 := hi_.out
      have kc : ∀ b i, b < W.heap.size → b ≠ mb → wr.cell? ⟨b, i, none⟩ = W.cell? ⟨b, i, none⟩ := fun b i h1 h2 => World.cell?_of_block (hi2.2.block b h1 (by simp; omega))
      have z4 := (kc _ 0 (by omega) (by omega)).trans g4
      have z6 := (kc _ 0 (by omega) (by omega)).trans g6
      have z7 := (kc _ 0 (by omega) (by omega)).trans g7
      have zc := (kc _ (coff + x) (by omega) (by omega)).trans gc
      obtain ⟨b3, off3, hLa, hb3, hc3⟩ := HLS.out.at q hlq
      have x0 := (kc b3 (off3 + q) hb3 (HApart.out b3 off3 (by omega) hLa)).trans (hc3 q hlq)
      subst hLa
      unfold ints at x0
      have hx := HRng.out _ (getD_mem L 0 (show q < L.length by rw [← HMl.out]; exact hlq))
      have hstep := askIns_take M1 L node cx q (by rw [← HMl.out]; exact hlq)
      have hnq := askIns_node M1 L node cx nv HNv.out HKne.out q (by rw [← HMl.out]; exact hq)
      have hno : needOf (askIns M1 (L.take q) node cx) node = nv := by rw [needOf, hnq]; rfl
      rw [hno] at hstep
      obtain ⟨xk, hxk⟩ : ∃ y, y = L.getD q 0 := ⟨_, rfl⟩
      rw [← hxk] at x0 hx hstep
      obtain ⟨xn, hxn0⟩ := Int.eq_ofNat_of_zero_le hx.1
      subst hxn0
      rw [Int.toNat_natCast] at hx
      have hxnode : xn ≠ node := by omega
      have hlMq : (askIns M1 (L.take q) node cx).length = M1.length := askIns_length _ _ _ _
      have hxnM : xn < (askIns M1 (L.take q) node cx).length := by rw [hlMq]; omega
      have hwrap : IntKind.i64.wrap (nv - cx) = nv - cx := IntWalk.i64_in _ (by omega)
      have hszr := hi2.2.size
      have HNq := Lib.hid hnq
      have HMi := Lib.hid hi2.1
      have HGi := Lib.hid hi2.2
      have HStep := Lib.hid hstep
      have HS0 : Hid ((Instr.lookup 60 (.map (some mb)) (.int .i64 (node : Int)) false).run Try.prog wr.drew = .ok (.int .i64 nv) wr.drew) := Lib.hid (hi2.1.drew.look hkey hnq)
      clear kc hc3 hno hstep hxk hnq hi2 hlMq
      gi_wp2_with fail
      refine wpIn_region_round (S := fun w' => w'.cell? ⟨mb + 1 + 1, 0, none⟩ = some (.func (.func 38) #[] #[.pointer (some ⟨mb + 1, 0, none⟩)]) ∧ w'.cell? ⟨mb + 1, 0, none⟩ = some (.map (some mb)) ∧ w'.cell? ⟨Bc, 0, none⟩ = some (.slice (some ⟨cb, coff, none⟩) n0 cc) ∧ w'.cell? ⟨cb, coff + x, none⟩ = some (.int .i64 cx) ∧ (Instr.lookup 60 (.map (some mb)) (.int .i64 (node : Int)) false).run Try.prog w' = .ok (.int .i64 nv) w') (by kernel_rfl) (by rintro ⟨a9, w9, h9⟩; exact hnl _ _ h9) (noDefer_spec (by kernel_rfl)) (⟨z7, z6, z4, zc, HS0.out⟩) (fun hHeld => ?_)
      refine wpAnyH_take (i := 0) (v := ?_) (by simp only [List.getElem?_toArray, List.getElem?_cons_succ, List.getElem?_cons_zero]; rfl) (by kernel_rfl) (by kernel_rfl) (by kernel_rfl) (by intro _ _ _ h; exact (hpan _ _ _ h).elim) (Or.inl ⟨by rfl, ?_⟩) (by assumption) ?_
      rotate_left
      · intro w hSw; (try dsimp only at hSw); go_simp; try with_reducible rfl
      try simp only [Act.put, List.setIfInBounds_toArray, List.set_cons_zero, List.set_cons_succ]
      refine wpAnyH_take (i := 1) (v := ?_) (by simp only [List.getElem?_toArray, List.getElem?_cons_succ, List.getElem?_cons_zero]; rfl) (by kernel_rfl) (by kernel_rfl) (by kernel_rfl) (by intro _ _ _ h; exact (hpan _ _ _ h).elim) (Or.inl ⟨by rfl, ?_⟩) (by assumption) ?_
      rotate_left
      · intro w hSw; (try dsimp only at hSw); go_simp; try with_reducible rfl
      try simp only [Act.put, List.setIfInBounds_toArray, List.set_cons_zero, List.set_cons_succ]
      refine wpAnyH_take (i := 2) (v := ?_) (by simp only [List.getElem?_toArray, List.getElem?_cons_succ, List.getElem?_cons_zero]; rfl) (by kernel_rfl) (by kernel_rfl) (by kernel_rfl) (by intro _ _ _ h; exact (hpan _ _ _ h).elim) (Or.inl ⟨by rfl, ?_⟩) (by assumption) ?_
      rotate_left
      · intro w hSw; (try dsimp only at hSw); go_simp; try with_reducible rfl
      try simp only [Act.put, List.setIfInBounds_toArray, List.set_cons_zero, List.set_cons_succ]
      refine wpAnyH_take (i := 3) (v := ?_) (by simp only [List.getElem?_toArray, List.getElem?_cons_succ, List.getElem?_cons_zero]; rfl) (by kernel_rfl) (by kernel_rfl) (by kernel_rfl) (by intro _ _ _ h; exact (hpan _ _ _ h).elim) (Or.inl ⟨by rfl, ?_⟩) (by assumption) ?_
      rotate_left
      · intro w hSw; (try dsimp only at hSw); go_simp; try with_reducible rfl
      try simp only [Act.put, List.setIfInBounds_toArray, List.set_cons_zero, List.set_cons_succ]
      refine wpAnyH_take (i := 4) (v := ?_) (by simp only [List.getElem?_toArray, List.getElem?_cons_succ, List.getElem?_cons_zero]; rfl) (by kernel_rfl) (by kernel_rfl) (by kernel_rfl) (by intro _ _ _ h; exact (hpan _ _ _ h).elim) (Or.inl ⟨by rfl, ?_⟩) (by assumption) ?_
      rotate_left
      · intro w hSw; (try dsimp only at hSw); go_simp; first | with_reducible rfl | (simp only [hSw.2.2.2.2]; rfl) | (simp [hSw.2.2.2.2]; rfl)
      try simp only [Act.put, List.setIfInBounds_toArray, List.set_cons_zero, List.set_cons_succ]
      refine wpAnyH_take (i := 5) (v := ?_) (by simp only [List.getElem?_toArray, List.getElem?_cons_succ, List.getElem?_cons_zero]; rfl) (by kernel_rfl) (by kernel_rfl) (by kernel_rfl) (by intro _ _ _ h; exact (hpan _ _ _ h).elim) (Or.inl ⟨by rfl, ?_⟩) (by assumption) ?_
      rotate_left
      · intro w hSw; (try dsimp only at hSw); go_simp; try with_reducible rfl
      try simp only [Act.put, List.setIfInBounds_toArray, List.set_cons_zero, List.set_cons_succ]
      refine wpAnyH_take (i := 6) (v := ?_) (by simp only [List.getElem?_toArray, List.getElem?_cons_succ, List.getElem?_cons_zero]; rfl) (by kernel_rfl) (by kernel_rfl) (by kernel_rfl) (by intro _ _ _ h; exact (hpan _ _ _ h).elim) (Or.inl ⟨by rfl, ?_⟩) (by assumption) ?_
      rotate_left
      · intro w hSw; (try dsimp only at hSw); go_simp; try with_reducible rfl
      try simp only [Act.put, List.setIfInBounds_toArray, List.set_cons_zero, List.set_cons_succ]
      refine wpAnyH_take (i := 7) (v := ?_) (by simp only [List.getElem?_toArray, List.getElem?_cons_succ, List.getElem?_cons_zero]; rfl) (by kernel_rfl) (by kernel_rfl) (by kernel_rfl) (by intro _ _ _ h; exact (hpan _ _ _ h).elim) (Or.inl ⟨by rfl, ?_⟩) (by assumption) ?_
      rotate_left
      · intro w hSw; (try dsimp only at hSw); go_simp; first | with_reducible rfl | rw [if_pos (by omega)]
      try simp only [Act.put, List.setIfInBounds_toArray, List.set_cons_zero, List.set_cons_succ]
      refine wpAnyH_take (i := 8) (v := ?_) (by simp only [List.getElem?_toArray, List.getElem?_cons_succ, List.getElem?_cons_zero]; rfl) (by kernel_rfl) (by kernel_rfl) (by kernel_rfl) (by intro _ _ _ h; exact (hpan _ _ _ h).elim) (Or.inl ⟨by rfl, ?_⟩) (by assumption) ?_
      rotate_left
      · intro w hSw; (try dsimp only at hSw); go_simp; try with_reducible rfl
      try simp only [Act.put, List.setIfInBounds_toArray, List.set_cons_zero, List.set_cons_succ]
      refine wpAnyH_take (i := 9) (v := ?_) (by simp only [List.getElem?_toArray, List.getElem?_cons_succ, List.getElem?_cons_zero]; rfl) (by kernel_rfl) (by kernel_rfl) (by kernel_rfl) (by intro _ _ _ h; exact (hpan _ _ _ h).elim) (Or.inl ⟨by rfl, ?_⟩) (by assumption) ?_
      rotate_left
      · intro w hSw; (try dsimp only at hSw); go_simp; try with_reducible rfl
      try simp only [Act.put, List.setIfInBounds_toArray, List.set_cons_zero, List.set_cons_succ]
      refine wpAnyH_ready (rs := [10]) (by kernel_rfl) (by simp) ?_
      refine AllReadyH.cons (o := _) (by simp only [List.getElem?_toArray, List.getElem?_cons_succ, List.getElem?_cons_zero]; rfl) (fun K hK => ?_) AllReadyH.nil
      go_simp
      go_at_call 38
      refine (callsIn_wide.1 (ask_in Fence.wide 4 trivial rfl _ (mb + 1) mb (C0 + q) (askIns M1 (L.take q) node cx) (HMi.out.drew) (by assumption) xn hxnM (by omega) (nv - cx) (by omega) (by omega))).mono ?_
      rintro e w7 ⟨⟨v7, rfl⟩, h7, u7⟩
      go_simp
      have k7 : ∀ b i, b < wr.heap.size → b ≠ mb → w7.cell? ⟨b, i, none⟩ = wr.cell? ⟨b, i, none⟩ := fun b i h1 h2 => World.cell?_of_block (w := wr) (u7.block b h1 (by simp; omega))
      have HS7 : Hid ((Instr.lookup 60 (.map (some mb)) (.int .i64 (node : Int)) false).run Try.prog w7 = .ok (.int .i64 nv) w7) := Lib.hid (h7.look hkey (by rw [askM_other _ _ _ _ (by rw [Int.toNat_natCast]; omega)]; exact HNq.out))
      refine hK.out _ _ (by exact ⟨(k7 _ _ (by omega) (by omega)).trans z7, (k7 _ _ (by omega) (by omega)).trans z6, (k7 _ _ (by omega) (by omega)).trans z4, (k7 _ _ (by omega) (by omega)).trans zc, HS7.out⟩) (fun hHeld => ?_)
      clear hK K
      try simp only [Act.put, List.setIfInBounds_toArray, List.set_cons_zero, List.set_cons_succ]
      refine wpAnyH_done (by kernel_rfl) ?_ _
      gi_wp2
      go_roundw
      case rel => exact ⟨q + 1, by omega, by go_num, Lib.hid ⟨by rw [HStep.out]; exact h7.mono (by omega), grownBy_trans HGi.out (grownBy_trans (grownBy_drew _ _) u7)⟩⟩
      case measure => simp [intOf]; omega

    · obtain rfl : q = ml := by omega
      have h1 := hi_.out
      rw [List.take_of_length_le (by rw [← HMl.out]; exact Nat.le_refl _)] at h1
      have H1 := Lib.hid h1
      clear h1
      gi_wp2
      exact hexit _ _ H1.out.1 H1.out.2
end Go.Proofs.Ytkcilpkcjhnkaaa
