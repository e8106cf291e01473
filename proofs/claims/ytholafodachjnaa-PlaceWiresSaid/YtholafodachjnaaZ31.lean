/- A list's chunks of two, as an iterator (slices.Chunk). -/
import Derived.Test.YtholafodachjnaaZ30
namespace Go.Proofs.Ytholafodachjnaa
open Go.RowKit Go.Shelf
set_option linter.unusedVariables false
set_option linter.unusedSimpArgs false
attribute [local go_sem] Oper.semAt_some

/-- A chunk's number. -/
abbrev Ch (len : Nat) := { j : Nat // 2 * j < len }
def chLen (len j : Nat) : Nat := min 2 (len - 2 * j)
abbrev chunkV (b off len : Nat) (j : Nat) : Value := .slice (some ⟨b, off + 2 * j, none⟩) (chLen len j) (chLen len j)
set_option maxRecDepth 100000 in
set_option maxHeartbeats 4000000 in
theorem chunk59_in (n : Nat) (hn : 1 ≤ n) (l Bs Bn n₀ X b off len cap : Nat) (a : Option Addr) (ha : 0 < len → a = some ⟨b, off, none⟩) (hBs : Bs < n₀ ∧ Bs ≠ X) (hBn : Bn < n₀ ∧ Bn ≠ X) (hl : len ≤ 100000) (hlc : len ≤ cap) (J Jx : List (Ch len) → World → Prop)
    (hY : ∀ pre x W, J pre W → pre.length < (len + 1) / 2 → YieldAt Fence.wide (n - 1) Try.prog l #[chunkV b off len x.1] W fun e W' =>
      (e = .returned (.bool true) ∧ J (pre ++ [x]) W' ∧ KpX n₀ X W W') ∨ (e = .returned (.bool false) ∧ Jx (pre ++ [x]) W'))
    (W : World) (c1 : W.cell? ⟨Bs, 0, none⟩ = some (.slice a len cap)) (c2 : W.cell? ⟨Bn, 0, none⟩ = some (.int .i64 2)) (h0 : J [] W) (hJd : ∀ s W, J s W → J s W.drew) :
    CallsIn Fence.wide n Try.prog 59 #[.func (.yield l) #[] #[], .pointer (some ⟨Bs, 0, none⟩), .pointer (some ⟨Bn, 0, none⟩)] W fun e W' => (∃ v, e = .returned v) ∧
      ((∃ ys : List (Ch len), ys.map (fun x => x.1) = List.range ((len + 1) / 2) ∧ J ys W') ∨ (∃ pre : List (Ch len), pre.map (fun x => x.1) = List.range pre.length ∧ Jx pre W')) := by
  have hro : Fence.wide.round = none := rfl
  have M3 := @run_min2 Try.prog
  refine callsIn_of_wp Try.func59 rfl trivial ?_ hro
  simp only [Try.ntmps59, List.size_toArray, List.length_cons, List.length_nil, Nat.reduceAdd, Nat.reduceSub, Array.replicate_succ, Array.replicate_zero, List.push_toArray, List.append_toArray, List.nil_append, List.cons_append]
  gi_wp2
  gi_loopw [4, 5] (fun iv _ wr => ∃ (k q : Nat) (pre : List (Ch len)), iv = .int .i64 (q : Int) ∧ q = 2 * k ∧ k ≤ (len + 1) / 2 ∧ pre.map (fun x => x.1) = List.range k ∧ J pre wr ∧ KpX n₀ X W wr) (fun iv _ _ => len + 1 - (intOf iv).toNat)
  case atStart => exact ⟨0, 0, [], rfl, rfl, Nat.zero_le _, rfl, h0, KpX.refl _ _ _⟩
  case round =>
    obtain ⟨k, q, pre, rfl, hq, hk, hpre, hJs, hkp⟩ := hrel
    have d1 := (hkp.cell (i := 0) hBs.1 hBs.2).trans c1
    have d2 := (hkp.cell (i := 0) hBn.1 hBn.2).trans c2
    have HPre := Lib.hid hpre
    have HKp := Lib.hid hkp
    have HQ := Lib.hid hq
    clear hpre hkp hq
    by_cases hlt : q < len
    · obtain rfl := ha (by omega)
      have hcq : ¬ cap = q := by omega
      obtain ⟨en, hen⟩ : ∃ e, e = chLen len k := ⟨_, rfl⟩
      have hen2 : min (2 : Int) ((len - q : Nat) : Int) = (en : Int) := by rw [hen]; unfold chLen; have := HQ.out; omega
      have HEn := Lib.hid hen
      have hle : en ≤ len - q := by rw [hen]; unfold chLen; have := HQ.out; omega
      clear hen
      gi_wp2
      refine wpIn_region_wide (S := fun w' => w'.cell? ⟨Bs, 0, none⟩ = some (.slice (some ⟨b, off, none⟩) len cap) ∧ w'.cell? ⟨Bn, 0, none⟩ = some (.int .i64 2)) (by kernel_rfl) (by rintro ⟨a9, w9, ⟨v9, hv9⟩, h9⟩; cases hv9) (⟨d1, d2⟩) (fun hHeld => ?_)
      refine wpAnyH_take (i := 0) (v := ?_) (by simp only [List.getElem?_toArray, List.getElem?_cons_succ, List.getElem?_cons_zero]; rfl) (by kernel_rfl) (by kernel_rfl) (by kernel_rfl) (by intro _ _ _ h; exact h) (Or.inl ⟨by rfl, ?_⟩) (by assumption) ?_
      rotate_left
      · intro w hSw; (try dsimp only at hSw); go_simp; try with_reducible rfl
      try simp only [Act.put, List.setIfInBounds_toArray, List.set_cons_zero, List.set_cons_succ]
      refine wpAnyH_take (i := 1) (v := ?_) (by simp only [List.getElem?_toArray, List.getElem?_cons_succ, List.getElem?_cons_zero]; rfl) (by kernel_rfl) (by kernel_rfl) (by kernel_rfl) (by intro _ _ _ h; exact h) (Or.inl ⟨by rfl, ?_⟩) (by assumption) ?_
      rotate_left
      · intro w hSw; (try dsimp only at hSw); go_simp; try with_reducible rfl
      try simp only [Act.put, List.setIfInBounds_toArray, List.set_cons_zero, List.set_cons_succ]
      refine wpAnyH_take (i := 2) (v := ?_) (by simp only [List.getElem?_toArray, List.getElem?_cons_succ, List.getElem?_cons_zero]; rfl) (by kernel_rfl) (by kernel_rfl) (by kernel_rfl) (by intro _ _ _ h; exact h) (Or.inl ⟨by rfl, ?_⟩) (by assumption) ?_
      rotate_left
      · intro w hSw; (try dsimp only at hSw); go_simp; try with_reducible rfl
      try simp only [Act.put, List.setIfInBounds_toArray, List.set_cons_zero, List.set_cons_succ]
      refine wpAnyH_take (i := 3) (v := ?_) (by simp only [List.getElem?_toArray, List.getElem?_cons_succ, List.getElem?_cons_zero]; rfl) (by kernel_rfl) (by kernel_rfl) (by kernel_rfl) (by intro _ _ _ h; exact h) (Or.inl ⟨by rfl, ?_⟩) (by assumption) ?_
      rotate_left
      · intro w hSw; (try dsimp only at hSw); go_simp; first | with_reducible rfl | rw [if_pos (by omega)]
      try simp only [Act.put, List.setIfInBounds_toArray, List.set_cons_zero, List.set_cons_succ]
      refine wpAnyH_take (i := 4) (v := ?_) (by simp only [List.getElem?_toArray, List.getElem?_cons_succ, List.getElem?_cons_zero]; rfl) (by kernel_rfl) (by kernel_rfl) (by kernel_rfl) (by intro _ _ _ h; exact h) (Or.inl ⟨by rfl, ?_⟩) (by assumption) ?_
      rotate_left
      · intro w hSw; (try dsimp only at hSw); go_simp; try with_reducible rfl
      try simp only [Act.put, List.setIfInBounds_toArray, List.set_cons_zero, List.set_cons_succ]
      refine wpAnyH_take (i := 5) (v := ?_) (by simp only [List.getElem?_toArray, List.getElem?_cons_succ, List.getElem?_cons_zero]; rfl) (by kernel_rfl) (by kernel_rfl) (by kernel_rfl) (by intro _ _ _ h; exact h) (Or.inl ⟨by rfl, ?_⟩) (by assumption) ?_
      rotate_left
      · intro w hSw; (try dsimp only at hSw); go_simp; try with_reducible rfl
      try simp only [Act.put, List.setIfInBounds_toArray, List.set_cons_zero, List.set_cons_succ]
      refine wpAnyH_take (i := 6) (v := ?_) (by simp only [List.getElem?_toArray, List.getElem?_cons_succ, List.getElem?_cons_zero]; rfl) (by kernel_rfl) (by kernel_rfl) (by kernel_rfl) (by intro _ _ _ h; exact h) (Or.inl ⟨by rfl, ?_⟩) (by assumption) ?_
      rotate_left
      · intro w hSw; (try dsimp only at hSw); go_simp; try with_reducible rfl
      try simp only [Act.put, List.setIfInBounds_toArray, List.set_cons_zero, List.set_cons_succ]
      refine wpAnyH_done (by kernel_rfl) ?_ _
      (try simp only [Exit.then])
      obtain ⟨s, hs⟩ : ∃ s, s = q + en := ⟨_, rfl⟩
      have hkl : 2 * k < len := by have := HQ.out; omega
      have hpl : pre.length = k := by have := congrArg List.length HPre.out; simpa using this
      obtain ⟨fn, tmps, assign, body, hy, hR⟩ := hY pre ⟨k, hkl⟩ wr.drew (hJd _ _ hJs) (by rw [hpl]; omega)
      have hen1 : 0 < en := by have := HEn.out; unfold chLen at this; omega
      have F2 : s - q = en := by omega
      have hsq : ¬ s = q := by omega
      have hqs : q ≤ s := by omega
      have hsc : s ≤ cap := by omega
      have hs9 : (q : Int) + (en : Int) = (s : Int) := by omega
      have F1 : Hid (wrap64 ((q : Int) + (en : Int)) = (s : Int)) := Lib.hid (by rw [hs9]; exact wrap64s (by omega) (by omega))
      have hpm : (pre ++ [(⟨k, hkl⟩ : Ch len)]).map (fun x => x.1) = List.range (k + 1) := by rw [List.map_append, HPre.out, List.range_succ]; rfl
      have hpm2 : (pre ++ [(⟨k, hkl⟩ : Ch len)]).map (fun x => x.1) = List.range (pre ++ [(⟨k, hkl⟩ : Ch len)]).length := by rw [hpm, List.length_append, hpl]; rfl
      have HPm := Lib.hid hpm
      have HPm2 := Lib.hid hpm2
      have HK1 : Hid (k + 1 ≤ (len + 1) / 2) := Lib.hid (by omega)
      have HQ2 : Hid (q + 2 = 2 * (k + 1) ∧ q < len) := Lib.hid (by have := HQ.out; omega)
      unfold chunkV at hy
      dsimp only at hy
      rw [← HEn.out, ← HQ.out] at hy
      have HKd := Lib.hid (HKp.out.drew)
      have F1' := F1.out
      clear hs hpl hen2 hle hs9 hpm hpm2
      gi_wp2
      refine hR.mono ?_
      rintro e W3 (⟨rfl, hJ3, hk3⟩ | ⟨rfl, hJx3⟩)
      · have d3 : W3.cell? ⟨Bn, 0, none⟩ = some (.int .i64 2) := (hk3.cell (i := 0) hBn.1 hBn.2).trans d2
        have HK3 := Lib.hid (HKd.out.trans hk3)
        clear F1' hk3
        gi_wp2
        go_roundw
        case rel => exact ⟨k + 1, q + 2, _, by go_num, HQ2.out.1, HK1.out, HPm.out, hJ3, HK3.out⟩
        case measure => simp [intOf]; have := HQ2.out; omega
      · clear F1'
        gi_wp2
        refine bodyPost_ret (results_none rfl _ _ _) rfl ?_
        exact ⟨⟨_, rfl⟩, .inr ⟨_, HPm2.out, hJx3⟩⟩
    · gi_wp2
      go_end0
      exact ⟨⟨_, rfl⟩, .inl ⟨pre, by rw [HPre.out, show k = (len + 1) / 2 by have := HQ.out; omega], hJs⟩⟩
set_option maxHeartbeats 1000000 in
theorem chunk45_in (n : Nat) (a : Option Addr) (len cap : Nat) (w : World) :
    CallsIn Fence.wide n Try.prog 45 #[.slice a len cap, .int .i64 2] w fun e w' => e = .returned (.func (.func 59) #[] #[.pointer (some ⟨w.heap.size, 0, none⟩), .pointer (some ⟨w.heap.size + 1, 0, none⟩)]) ∧ w' = (w.alloc (.cells #[.slice a len cap] 25)).alloc (.cells #[.int .i64 2] 3) := by
  refine callsIn_of_wp Try.func45 rfl trivial ?_ rfl
  simp only [Try.ntmps45, List.size_toArray, List.length_cons, List.length_nil, Nat.reduceAdd, Nat.reduceSub, Array.replicate_succ, Array.replicate_zero, List.push_toArray, List.append_toArray, List.nil_append, List.cons_append]
  gi_wp2
  go_ret
  exact ⟨rfl, rfl⟩
/-- Where all is behind k changes. -/
def mOf (a : ArchV) (ds : List Int) (k : Nat) : Int := ds.getD (2 * k) 0 % (tilesL a + padsL a)
def nOf (a : ArchV) (ds : List Int) (k : Nat) : Int := if mOf a ds k < tilesL a then ds.getD (2 * k + 1) 0 % tilesL a else tilesL a + ds.getD (2 * k + 1) 0 % padsL a
def placeTo (a : ArchV) (D : PackD) (ds : List Int) (S : SpotD) : Nat → SpotD
  | 0 => S
  | k + 1 => betterD a D (placeTo a D ds S k) (mOf a ds k) (nOf a ds k)
theorem two_of (a : ArchV) (ds : List Int) (k : Nat) (hw : 1 ≤ a.w ∧ a.w ≤ 16) (hh : 1 ≤ a.h ∧ a.h ≤ 16) : TwoOk a (mOf a ds k) (nOf a ds k) := by
  have ht : 1 ≤ tilesL a := by unfold tilesL; exact Int.mul_le_mul hw.1 hh.1 (by omega) (by omega)
  have hp : 1 ≤ padsL a := by unfold padsL; omega
  have m1 := Int.emod_nonneg (ds.getD (2 * k) 0) (by omega : tilesL a + padsL a ≠ 0)
  have m2 := Int.emod_lt_of_pos (ds.getD (2 * k) 0) (by omega : 0 < tilesL a + padsL a)
  have n1 := Int.emod_nonneg (ds.getD (2 * k + 1) 0) (by omega : tilesL a ≠ 0)
  have n2 := Int.emod_lt_of_pos (ds.getD (2 * k + 1) 0) (by omega : 0 < tilesL a)
  have q1 := Int.emod_nonneg (ds.getD (2 * k + 1) 0) (by omega : padsL a ≠ 0)
  have q2 := Int.emod_lt_of_pos (ds.getD (2 * k + 1) 0) (by omega : 0 < padsL a)
  have hm : mOf a ds k = ds.getD (2 * k) 0 % (tilesL a + padsL a) := rfl
  have hn : nOf a ds k = if mOf a ds k < tilesL a then ds.getD (2 * k + 1) 0 % tilesL a else tilesL a + ds.getD (2 * k + 1) 0 % padsL a := rfl
  refine ⟨by omega, ?_, ?_⟩
  · rw [hn]; split <;> omega
  · rw [hn]; split <;> omega
theorem placeTo_right {a : ArchV} {D : PackD} {S : SpotD} (ds : List Int) (h : RightAll a D S) : ∀ k, RightAll a D (placeTo a D ds S k)
  | 0 => h
  | k + 1 => (placeTo_right ds h k).better (two_of a ds k h.p.w h.p.h)
theorem placeTo_cost (a : ArchV) (D : PackD) (ds : List Int) (S : SpotD) (k : Nat) : ∀ j, costL a D (placeTo a D ds S (k + j)) ≤ costL a D (placeTo a D ds S k)
  | 0 => Int.le_refl _
  | j + 1 => Int.le_trans (better_cost a D _ _ _) (placeTo_cost a D ds S k j)
theorem placeTo_len (a : ArchV) (D : PackD) (ds : List Int) (S : SpotD) : ∀ k, (placeTo a D ds S k).bs.length = S.bs.length ∧ (placeTo a D ds S k).is.length = S.is.length ∧ (placeTo a D ds S k).os.length = S.os.length
  | 0 => ⟨rfl, rfl, rfl⟩
  | k + 1 => by
    have h1 := placeTo_len a D ds S k
    have h2 := better_len a D (placeTo a D ds S k) (mOf a ds k) (nOf a ds k)
    exact ⟨h2.1.trans h1.1, h2.2.1.trans h1.2.1, h2.2.2.trans h1.2.2⟩
theorem fromL_nodup (f n : Nat) : (fromL f n).Nodup := by
  unfold fromL
  rw [List.Nodup, List.pairwise_map]
  exact List.Pairwise.imp (fun {x y} h e => h (by omega)) List.nodup_range
theorem fromL_app (n m : Nat) : fromL 0 n ++ fromL n m = fromL 0 (n + m) := by
  unfold fromL
  rw [List.range_add, List.map_append, List.map_map]
  congr 1
  exact List.map_congr_left fun i _ => by simp
theorem first_right {a : ArchV} {P : PackV} (hb : belowE a P = 0) (hr : roomB a P = true) : RightAll a P.data (firstD P) := by
  have hp := rightP_of hb
  unfold roomB at hr
  simp only [Bool.and_eq_true, decide_eq_true_eq] at hr
  have hi := hp.i0
  unfold tilesL padsL at hr
  have hn : ((P.ins.toNat : Nat) : Int) = P.ins := by dsimp only at hi; omega
  refine ⟨hp, ⟨?_, ?_, ?_, ?_, ?_, ?_⟩, fromL_nodup _ _, ?_⟩
  · show P.ins = _; unfold firstD; rw [fromL_len]; exact hn.symm
  · unfold firstD; rw [fromL_len]; simp
  · unfold firstD; rw [fromL_len]
  · intro x hx
    have := fromL_mem hx
    omega
  · intro x hx
    have := fromL_mem hx
    omega
  · intro x hx
    have := fromL_mem hx
    omega
  · unfold firstD
    dsimp only
    rw [fromL_app]
    exact fromL_nodup _ _
def placeO (a : ArchV) (P : PackV) (ds : List Int) : SpotD := if errF a P = 0 then placeTo a P.data ds (firstD P) (ds.length / 2) else ⟨[], [], []⟩
def PlaceOut (a : ArchV) (P : PackV) (ds : List Int) (w : World) (e : Ending) (w' : World) : Prop :=
  ∃ R : SpotV, e = .returned (.tuple #[R.val, .int .i64 (errF a P)]) ∧ R.data = placeO a P ds ∧ SpotNew w.heap.size noSpots R w' ∧ Below w.heap.size w w'
theorem errF_ok {a : ArchV} {P : PackV} : errF a P = 0 ↔ belowE a P = 0 ∧ roomB a P = true := by
  unfold errF
  constructor
  · intro h
    split at h
    · rename_i h1
      split at h
      · rename_i h2; exact ⟨h1, h2⟩
      · cases h
    · rename_i h1; exact absurd h h1
  · rintro ⟨h1, h2⟩
    rw [if_pos h1, if_pos h2]
end Go.Proofs.Ytholafodachjnaa
