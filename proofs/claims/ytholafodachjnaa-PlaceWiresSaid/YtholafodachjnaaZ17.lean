/- Where a tile and a pad stand, as the document tells. -/
import Derived.BigRegion
import Derived.Test.YtholafodachjnaaZ16
namespace Go.Proofs.Ytholafodachjnaa
open Go.RowKit Go.Shelf
set_option linter.unusedVariables false
set_option linter.unusedSimpArgs false

abbrev pairVal (x y : Int) : Value := .agg #[.int .i64 x, .int .i64 y]
theorem results_pair {fn : Func} (hfn : fn.results = #[.cell 4 94]) {tmps : Array Value} {w : World} {b : Nat} {x y : Int} (h2 : tmps[4]?.getD undef = .pointer (some ⟨b, 0, none⟩))
    (h0 : w.cell? ⟨b, 0, none⟩ = some (.int .i64 x)) (h1 : w.cell? ⟨b, 1, none⟩ = some (.int .i64 y)) : (results fn tmps).run Try.prog w = .ok (pairVal x y) w := by
  simp [results, hfn, go_sem, h2, h0, h1]
theorem pair_end {fn : Func} (hfn : fn.results = #[.cell 4 94]) {a : Act} {w W : World} {o : Obj} {x y : Int} (h2 : a.tmps[4]?.getD undef = .pointer (some ⟨w.heap.size + 1, 0, none⟩)) (hd : a.defers = [])
    (hW : W = (w.alloc o).alloc (.cells #[.int .i64 x, .int .i64 y] 94) ∨ W = ((w.alloc o).alloc (.cells #[.int .i64 x, .int .i64 y] 94)).drew) :
    bodyPost Try.prog fn (fun e w' => e = .returned (pairVal x y) ∧ Below w.heap.size w w') .ret a W := by
  have hs : w.heap.size + 1 = (w.alloc o).heap.size := by simp
  have hb : Below w.heap.size w ((w.alloc o).alloc (.cells #[.int .i64 x, .int .i64 y] 94)) := ((Below.refl _ _).alloc (Nat.le_refl _) _).alloc (by simp) _
  have k0 : ((w.alloc o).alloc (.cells #[.int .i64 x, .int .i64 y] 94)).cell? ⟨w.heap.size + 1, 0, none⟩ = some (.int .i64 x) := by rw [hs]; simp
  have k1 : ((w.alloc o).alloc (.cells #[.int .i64 x, .int .i64 y] 94)).cell? ⟨w.heap.size + 1, 1, none⟩ = some (.int .i64 y) := by rw [hs]; simp
  rcases hW with rfl | rfl
  · exact bodyPost_ret (results_pair hfn h2 k0 k1) hd ⟨rfl, hb⟩
  · exact bodyPost_ret (results_pair hfn h2 k0 k1) hd ⟨rfl, hb.drew⟩
set_option maxRecDepth 100000 in
set_option maxHeartbeats 2000000 in
theorem tile65 (w : World) (a : ArchV) (n : Int) (hw : 1 ≤ a.w ∧ a.w ≤ 16) (hn : 0 ≤ n ∧ n ≤ 1000) :
    Calls Try.prog 65 #[a.val, .int .i64 n] w fun e w' => e = .returned (pairVal (tileX a n) (tileY a n)) ∧ Below w.heap.size w w' := by
  obtain ⟨aw, ah, at_⟩ := a
  unfold tileX tileY ArchV.val
  dsimp only at hw ⊢
  have hd0 : (aw == 0) = false := by simp; omega
  have hd1 : ¬ aw = 0 := by omega
  obtain ⟨r, hr0⟩ : ∃ r, r = n.tmod aw := ⟨_, rfl⟩
  obtain ⟨q, hq0⟩ : ∃ q, q = n.tdiv aw := ⟨_, rfl⟩
  have hrm : n.tmod aw = r := hr0.symm
  have hqd : n.tdiv aw = q := hq0.symm
  have er : n % aw = r := by rw [hr0, Int.tmod_eq_emod_of_nonneg hn.1]
  have eq_ : n / aw = q := by rw [hq0, Int.tdiv_eq_ediv_of_nonneg hn.1]
  have br : 0 ≤ r ∧ r < aw := by rw [← er]; exact ⟨Int.emod_nonneg _ hd1, Int.emod_lt_of_pos _ (by omega)⟩
  have bq : 0 ≤ q ∧ q ≤ 1000 := by
    rw [← eq_]
    exact ⟨Int.ediv_nonneg hn.1 (by omega), Int.le_trans (Int.ediv_le_self _ hn.1) hn.2⟩
  have E1 : wrap64 (2 * r) = 2 * r := wrap64s (by omega) (by omega)
  have E2 : wrap64 (2 * r + 1) = 2 * r + 1 := wrap64s (by omega) (by omega)
  have E3 : wrap64 (2 * q) = 2 * q := wrap64s (by omega) (by omega)
  have E4 : wrap64 (2 * q + 1) = 2 * q + 1 := wrap64s (by omega) (by omega)
  have E5 : wrap64 q = q := wrap64s (by omega) (by omega)
  rw [er, eq_]
  clear hw hn hr0 hq0 er eq_ br bq
  go_enter Try.func65, Try.ntmps65
  go_wp2_with fail
  go_region
  all_goals (try go_wp2)
  all_goals (try simp only [Exit.inBlock, Exit.then])
  all_goals exact pair_end rfl rfl rfl (Or.inr rfl)
set_option maxRecDepth 100000 in
set_option maxHeartbeats 4000000 in
theorem pad64 (w : World) (a : ArchV) (n : Int) (hw : 1 ≤ a.w ∧ a.w ≤ 16) (hh : 1 ≤ a.h ∧ a.h ≤ 16) (hn : 0 ≤ n ∧ n < 2 * a.w + 2 * a.h) :
    Calls Try.prog 64 #[a.val, .int .i64 n] w fun e w' => e = .returned (pairVal (padX a n) (padY a n)) ∧ Below w.heap.size w w' := by
  obtain ⟨aw, ah, at_⟩ := a
  unfold padX padY ArchV.val
  dsimp only at hw hh hn ⊢
  have E1 : wrap64 (2 * aw) = 2 * aw := wrap64s (by omega) (by omega)
  have E2 : wrap64 (2 * ah) = 2 * ah := wrap64s (by omega) (by omega)
  have E3 : wrap64 (2 * aw + ah) = 2 * aw + ah := wrap64s (by omega) (by omega)
  by_cases c1 : n < aw
  · have d1 : decide (n < aw) = true := by simpa using c1
    have F1 : wrap64 (2 * n) = 2 * n := wrap64s (by omega) (by omega)
    have F2 : wrap64 (2 * n + 1) = 2 * n + 1 := wrap64s (by omega) (by omega)
    simp only [if_pos c1]
    clear c1 hw hh hn
    go_enter Try.func64, Try.ntmps64
    go_wp2_with fail
    (try simp only [Exit.inBlock, Exit.then])
    exact pair_end rfl rfl rfl (Or.inl rfl)
  have d1 : decide (n < aw) = false := by simpa using c1
  by_cases c2 : n < 2 * aw
  · have d2 : decide (n < 2 * aw) = true := by simpa using c2
    have F0 : wrap64 (n - aw) = n - aw := wrap64s (by omega) (by omega)
    have F1 : wrap64 (2 * (n - aw)) = 2 * (n - aw) := wrap64s (by omega) (by omega)
    have F2 : wrap64 (2 * (n - aw) + 1) = 2 * (n - aw) + 1 := wrap64s (by omega) (by omega)
    simp only [if_neg c1, if_pos c2]
    clear c1 c2 hw hh hn
    go_enter Try.func64, Try.ntmps64
    go_wp2_with fail
    (try simp only [Exit.inBlock, Exit.then])
    exact pair_end rfl rfl rfl (Or.inl rfl)
  have d2 : decide (n < 2 * aw) = false := by simpa using c2
  by_cases c3 : n < 2 * aw + ah
  · have d3 : decide (n < 2 * aw + ah) = true := by simpa using c3
    have F0 : wrap64 (n - 2 * aw) = n - 2 * aw := wrap64s (by omega) (by omega)
    have F1 : wrap64 (2 * (n - 2 * aw)) = 2 * (n - 2 * aw) := wrap64s (by omega) (by omega)
    have F2 : wrap64 (2 * (n - 2 * aw) + 1) = 2 * (n - 2 * aw) + 1 := wrap64s (by omega) (by omega)
    simp only [if_neg c1, if_neg c2, if_pos c3]
    clear c1 c2 c3 hw hh hn
    go_enter Try.func64, Try.ntmps64
    go_wp2_with fail
    (try simp only [Exit.inBlock, Exit.then])
    exact pair_end rfl rfl rfl (Or.inl rfl)
  have d3 : decide (n < 2 * aw + ah) = false := by simpa using c3
  have F0 : wrap64 (n - 2 * aw) = n - 2 * aw := wrap64s (by omega) (by omega)
  have F3 : wrap64 (n - 2 * aw - ah) = n - 2 * aw - ah := wrap64s (by omega) (by omega)
  have F1 : wrap64 (2 * (n - 2 * aw - ah)) = 2 * (n - 2 * aw - ah) := wrap64s (by omega) (by omega)
  have F2 : wrap64 (2 * (n - 2 * aw - ah) + 1) = 2 * (n - 2 * aw - ah) + 1 := wrap64s (by omega) (by omega)
  simp only [if_neg c1, if_neg c2, if_neg c3]
  clear c1 c2 c3 hw hh hn
  go_enter Try.func64, Try.ntmps64
  go_wp2_with fail
  (try simp only [Exit.inBlock, Exit.then])
  exact pair_end rfl rfl rfl (Or.inl rfl)
end Go.Proofs.Ytholafodachjnaa
