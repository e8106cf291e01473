import Derived.Test.YtkcilpkcjhnkaaaT26
import Derived.Test.YtkcilpkcjhnkaaaT22
namespace Go.Proofs.Ytkcilpkcjhnkaaa
open Go.RowKit Go.Shelf
set_option linter.unusedVariables false
set_option linter.unusedSimpArgs false
attribute [local go_sem] Oper.semAt_some

/-- The row of bits that came, the last one first. -/
def rowF (pre : List (Int × Bool)) : Nat := pre.foldl (fun r x => 2 * r + (if x.2 then 1 else 0)) 0
theorem rowF_snoc (pre : List (Int × Bool)) (x : Int × Bool) : rowF (pre ++ [x]) = 2 * rowF pre + (if x.2 then 1 else 0) := by simp [rowF]

/-- The row of a list of bits, the first one the lowest. -/
def rowB : List Bool → Nat
  | [] => 0
  | x :: l => 2 * rowB l + (if x then 1 else 0)

theorem rowB_lt (l : List Bool) : rowB l < 2 ^ l.length := by
  induction l with
  | nil => simp [rowB]
  | cons x l ih => simp only [rowB, List.length_cons, Nat.pow_succ]; split <;> omega

theorem rowF_upto (zs : List Bool) (k : Nat) (hk : k ≤ zs.length) : rowF (upto (fun j => ((zs.length : Int) - 1 - j, zs.getD (zs.length - 1 - j) false)) k) = rowB (zs.drop (zs.length - k)) := by
  induction k with
  | zero => simp [upto, rowF, rowB]
  | succ k ih =>
    rw [upto_succ, rowF_snoc, ih (by omega)]
    have h : zs.drop (zs.length - (k + 1)) = zs.getD (zs.length - 1 - k) false :: zs.drop (zs.length - k) := by
      rw [List.drop_eq_getElem_cons (by omega)]
      congr 1
      · have e : zs.length - (k + 1) = zs.length - 1 - k := by omega
        simp [List.getD, e, List.getElem?_eq_getElem (show zs.length - 1 - k < zs.length by omega)]
      · congr 1; omega
    rw [h, rowB]

theorem rowF_all (zs : List Bool) : rowF (upto (fun j => ((zs.length : Int) - 1 - j, zs.getD (zs.length - 1 - j) false)) zs.length) = rowB zs := by
  rw [rowF_upto zs _ (Nat.le_refl _), Nat.sub_self, List.drop_zero]

theorem KpB.setCell (n₀ Bs : Nat) (W : World) (b i : Nat) (v : Value) (hb : n₀ ≤ b) (h : Bs ≠ b) : KpB n₀ Bs W (W.setCell ⟨b, i, none⟩ v) :=
  ⟨(Below.refl _ _).setCell (p := ⟨b, i, none⟩) hb _, heap_setCell_other _ _ _ _ h⟩

set_option maxRecDepth 100000 in
set_option maxHeartbeats 2000000 in
theorem bit_in (n : Nat) (hn : 3 ≤ n) (w : World) (tab : Int) (hU : U64 tab) (a : Option Addr) (len cap : Nat) (zs : List Bool) (hlen : zs.length = len) (h6 : len ≤ 6) (S : Seq w a len (bools zs)) :
    CallsIn Fence.wide n Try.prog 68 #[.int .u64 tab, .slice a len cap] w fun e w' => e = .returned (.bool (tab.toNat.testBit (rowB zs))) ∧ Below w.heap.size w w' := by
  have h1 : 1 ≤ n := by omega
  have HU := Lib.hid hU
  have HS := Lib.hid S
  have HL := Lib.hid hlen
  have hro : Fence.wide.round = none := rfl
  have hR64 : rowB zs < 64 := by
    have h := rowB_lt zs
    have : (2 : Nat) ^ zs.length ≤ 2 ^ 6 := Nat.pow_le_pow_right (by omega) (by rw [hlen]; exact h6)
    omega
  have hb := bit_shr tab hU (rowB zs)
  obtain ⟨R0, hRR⟩ : ∃ r, r = rowB zs := ⟨_, rfl⟩
  rw [← hRR] at hR64 hb ⊢
  obtain ⟨B0, hBB⟩ : ∃ b, b = tab.toNat.testBit R0 := ⟨_, rfl⟩
  rw [← hBB] at hb ⊢
  have HRR0 := Lib.hid hRR
  have HBit := Lib.hid hb
  clear hU S hlen hb hRR hBB
  refine callsIn_of_wp_marks Try.func68 rfl trivial ?_ hro
  simp only [Try.ntmps68, List.size_toArray, List.length_cons, List.length_nil, Nat.reduceAdd, Nat.reduceSub, Array.replicate_succ, Array.replicate_zero, List.push_toArray, List.append_toArray, List.nil_append, List.cons_append]
  gi_wp2_with (refine ⟨trivial, ?_⟩; gi_at_call 72; refine (bwd_in Fence.wide (n - 1) trivial hro _ _ _ _).mono ?_; rintro e w' ⟨rfl, rfl⟩)
  have bS := Boxed.new w 3 (.int .i64 0)
  have bN := Boxed.new (w.alloc (.cells #[.int .i64 0] 3)) 39 (.slice a len cap)
  rw [World.size_alloc] at bN
  have hB0 : Below w.heap.size w ((w.alloc (.cells #[.int .i64 0] 3)).alloc (.cells #[.slice a len cap] 39)) := ((Below.refl _ w).alloc (Nat.le_refl _) _).alloc (by simp) _
  refine wpIn_rangeFunc_ownG hro h1 (gf := 73) (lb := #[.pointer (some ⟨w.heap.size + 1, 0, none⟩)]) rfl trivial (enters_of Try.func73 (by kernel_rfl) rfl)
    (encs := fun x : Int × Bool => #[.int .i64 x.1, .bool x.2]) (Kp := KpB w.heap.size (w.heap.size + 1)) (S := fun ys => ys = upto (fun j => ((len : Int) - 1 - j, zs.getD (len - 1 - j) false)) len) (Sp := fun _ => True) (N := len)
    (w0 := (w.alloc (.cells #[.int .i64 0] 3)).alloc (.cells #[.slice a len cap] 39))
    (fun l J Jx W hW _ _ hY h0 => bwd1_in Fence.wide (n - 1) trivial hro (by omega) l (w.heap.size + 1) w.heap.size a len cap zs (by omega) J Jx hY W ((hW.cell (p := ⟨_, _, none⟩) (by simp)).trans bN.cell) (fun W' hW' => HS.out.below ((hB0.trans (hW.mono (by simp; omega))).trans hW') (Nat.le_refl _)) h0)
    KpB.trans (KpB.put (by simp; omega) (by simp)) (Below.refl _ _) (by intro _; rfl)
    (fun pre W => ((W.cell? ⟨w.heap.size, 0, none⟩ = some (.int .i64 (rowF pre : Nat)) ∧ W.frozen? ⟨w.heap.size, 0, none⟩ = false) ∧ rowF pre < 2 ^ pre.length) ∧ Below w.heap.size w W)
    (fun _ _ _ => False)
    (OwnFrom.and (Own.from (fun s A B row hs hg hr => ⟨⟨cell_kept hs.1.1 hg hr, (frozen_kept hs.1.1 hg hr).trans hs.1.2⟩, hs.2⟩) _) (ownFrom_below (Nat.le_refl _) (by simp; omega)))
    (fun _ _ _ _ _ hs _ _ => hs)
    ⟨⟨⟨(bS.alloc _).cell, (bS.alloc _).frozen⟩, by simp [rowF]⟩, hB0⟩
    (fun x => { tmps := #[.int .u64 tab, .slice a len cap, undef, undef, .bool false, .pointer (some ⟨w.heap.size, 0, none⟩), undef, .bool x.2, .slice a len cap, .func (.func 73) #[] #[.pointer (some ⟨w.heap.size + 1, 0, none⟩)], .int .i64 x.1, .bool x.2, undef, undef, undef, undef, undef, undef, undef, undef, undef, undef], defers := [] }) ?assign ?body ?done ?stop
  case assign =>
    intro l x W K hK
    gi_wp2
    exact hK
  case body =>
    rintro l pre x W ⟨⟨⟨hc, hf⟩, hr⟩, hB⟩ hpre
    obtain ⟨i, x⟩ := x
    have hs := rowF_snoc pre (i, x)
    obtain ⟨r, hrr⟩ : ∃ r, r = rowF pre := ⟨_, rfl⟩
    rw [← hrr] at hs hr hc
    have hr64 : r < 64 := by
      have : (2 : Nat) ^ pre.length ≤ 2 ^ 6 := Nat.pow_le_pow_right (by omega) (by omega)
      omega
    have HS2 := Lib.hid hs
    have HRR := Lib.hid hrr
    have HR := Lib.hid hr
    have hsh : IntKind.i64.wrap ((r : Int) * 2) = ((2 * r : Nat) : Int) := by rw [IntWalk.i64_in _ (by omega)]; omega
    have hsh' : IntKind.i64.wrap (((2 * r : Nat) : Int) + 1) = ((2 * r + 1 : Nat) : Int) := by rw [IntWalk.i64_in _ (by omega)]; omega
    clear hs hrr hr
    cases x
    · gi_wp2
      refine ⟨(KeepsOthers.setCell _ _ _).from _, KpB.setCell _ _ _ _ _ _ (Nat.le_refl _) (by omega), ⟨⟨?_, by rw [World.frozen?_setCell]; exact hf⟩, ?_⟩, hB.setCell (p := ⟨w.heap.size, 0, none⟩) (Nat.le_refl _) _⟩
      · rw [HS2.out, World.cell?_setCell_same' _ _ _ (by rw [hc]; rfl)]; simp
      · have := HR.out
        rw [HS2.out, List.length_append, List.length_singleton, Nat.pow_succ]; simp; omega
    · gi_wp2
      refine ⟨((KeepsOthers.setCell _ _ _).trans (KeepsOthers.setCell _ _ _)).from _, (KpB.setCell _ _ _ _ _ _ (Nat.le_refl _) (by omega)).trans (KpB.setCell _ _ _ _ _ _ (Nat.le_refl _) (by omega)), ⟨⟨?_, by rw [World.frozen?_setCell, World.frozen?_setCell]; exact hf⟩, ?_⟩, (hB.setCell (p := ⟨w.heap.size, 0, none⟩) (Nat.le_refl _) _).setCell (p := ⟨w.heap.size, 0, none⟩) (Nat.le_refl _) _⟩
      · rw [HS2.out, World.cell?_setCell_same' _ _ _ (by rw [World.cell?_setCell_same' _ _ _ (by rw [hc]; rfl)]; rfl)]; simp
      · have := HR.out
        rw [HS2.out, List.length_append, List.length_singleton, Nat.pow_succ]; simp; omega
  case done =>
    rintro D ys W hD rfl ⟨⟨⟨hc, _⟩, hr⟩, hB⟩ hK
    rw [← HL.out, rowF_all, ← HRR0.out] at hc
    have hmin : min R0 64 = R0 := by omega
    have HMin := Lib.hid hmin
    clear hmin hr
    gi_wp2
    refine ⟨by simp, .inl ⟨_, _, rfl, run_takeDeferred hK, ?_⟩⟩
    refine ⟨_, results_tmp rfl _ _ _, ?_, hB.trans (belowK_b (w := w) (Nat.le_refl _) W D _ _ (by simp at hD; omega) hK rfl rfl)⟩
    show Ending.returned (.bool (bits BinOp.and IntKind.u64 (tab / 2 ^ R0) 1 == 1)) = _
    rw [HBit.out]
  case stop =>
    rintro D c pre W _ _ h _
    exact h.elim

theorem bit (w : World) (tab : Int) (hU : U64 tab) (a : Option Addr) (len cap : Nat) (zs : List Bool) (hlen : zs.length = len) (h6 : len ≤ 6) (S : Seq w a len (bools zs)) :
    Calls Try.prog 68 #[.int .u64 tab, .slice a len cap] w fun e w' => e = .returned (.bool (tab.toNat.testBit (rowB zs))) ∧ Below w.heap.size w w' :=
  (bit_in 3 (Nat.le_refl _) w tab hU a len cap zs hlen h6 S).calls (fun k => room_wide k)
end Go.Proofs.Ytkcilpkcjhnkaaa
