/- An event more (Push), as the document tells. -/
import Derived.Test.YtbhbebidkeejbaaQ11
namespace Go.Proofs.Ytbhbebidkeejbaa
open Go.RowKit Go.Shelf
set_option linter.unusedVariables false
set_option linter.unusedSimpArgs false

theorem results_push12 {tmps : Array Value} {w : World} {b : Nat} {s : Value} {x y z E : Int} (h2 : tmps[10]?.getD undef = .pointer (some ⟨b, 0, none⟩)) (h3 : tmps[11]?.getD undef = .int .i64 E)
    (h0 : w.cell? ⟨b, 0, none⟩ = some s) (h1 : w.cell? ⟨b, 1, none⟩ = some (.int .i64 x)) (h4 : w.cell? ⟨b, 2, none⟩ = some (.int .i64 y)) (h5 : w.cell? ⟨b, 3, none⟩ = some (.int .i64 z)) :
    (results Try.f12 tmps).run Try.prog w = .ok (.tuple #[.agg #[s, .int .i64 x, .int .i64 y, .int .i64 z], .int .i64 E]) w := by
  simp [results, go_sem, h2, h3, h0, h1, h4, h5]
set_option maxRecDepth 100000 in
set_option maxHeartbeats 8000000 in
theorem push12 (w : World) (a : Option Addr) (n c : Nat) (now delta next : Int) (l : List EvV) (hn : l.length = n) (h : LAt w a l) (h9 : n ≤ 1000) (hc : n ≤ c) (hN : I64 next) (t d sig v : Int) (ht : I64 t) (hd : I64 d) (hsi : I64 sig) (hv : U64 v) :
    Calls Try.prog 12 #[.agg #[.slice a n c, .int .i64 now, .int .i64 delta, .int .i64 next], .int .i64 t, .int .i64 d, .int .i64 sig, .int .u64 v] w (Pushed w now delta next l t d sig v) := by
  have HLA := Lib.hid h
  have HN := Lib.hid hn
  obtain ⟨H, hH⟩ : ∃ h, h = w.heap.size := ⟨_, rfl⟩
  obtain ⟨w1, hw1⟩ : ∃ W, W = (w.alloc (.cells #[.slice a n c, .int .i64 now, .int .i64 delta, .int .i64 next] 24)).alloc (.cells #[.slice none 0 0, .int .i64 0, .int .i64 0, .int .i64 0] 24) := ⟨_, rfl⟩
  have HX1 : Hid (Below w.heap.size w w1) := Lib.hid (by rw [hw1]; exact ((Below.refl _ _).alloc (Nat.le_refl _) _).alloc (by simp) _)
  have hs1 : w1.heap.size = H + 2 := by rw [hw1, hH]; simp
  have k0 : w1.cell? ⟨H, 0, none⟩ = some (.slice a n c) := by rw [hw1, hH]; exact cell_alloc _ (by simp)
  have k1 : w1.cell? ⟨H, 1, none⟩ = some (.int .i64 now) := by rw [hw1, hH]; exact cell_alloc _ (by simp)
  have k2 : w1.cell? ⟨H, 2, none⟩ = some (.int .i64 delta) := by rw [hw1, hH]; exact cell_alloc _ (by simp)
  have k3 : w1.cell? ⟨H, 3, none⟩ = some (.int .i64 next) := by rw [hw1, hH]; exact cell_alloc _ (by simp)
  have z0 : w1.cell? ⟨H + 1, 0, none⟩ = some (.slice none 0 0) := by rw [hw1, hH]; simp
  have z1 : w1.cell? ⟨H + 1, 1, none⟩ = some (.int .i64 0) := by rw [hw1, hH]; simp
  have z2 : w1.cell? ⟨H + 1, 2, none⟩ = some (.int .i64 0) := by rw [hw1, hH]; simp
  have z3 : w1.cell? ⟨H + 1, 3, none⟩ = some (.int .i64 0) := by rw [hw1, hH]; simp
  have zf : ∀ i, w1.frozen? ⟨H + 1, i, none⟩ = false := by intro i; rw [hw1, hH]; simp
  have HK := Lib.hid (And.intro k0 (And.intro k1 (And.intro k2 k3)))
  have HZ := Lib.hid (And.intro z0 (And.intro z1 (And.intro z2 (And.intro z3 zf))))
  have HS1 := Lib.hid hs1
  have HW1 := Lib.hid hw1
  have HHH := Lib.hid hH
  have C14 := check14 w1 a n c now delta next l hn (h.below HX1.out (Nat.le_refl _)) h9
  have hcc := check_cases now delta next l
  obtain ⟨E, hE⟩ : ∃ E, E = checkE now delta next l := ⟨_, rfl⟩
  rw [← hE] at C14 hcc
  have HE := Lib.hid hE
  have HC14 := Lib.hid C14
  have HC := Lib.hid hc
  clear hc h hn hH hw1 hs1 k0 k1 k2 k3 z0 z1 z2 z3 zf C14 hE
  go_enter Try.func12, Try.ntmps12
  go_wp2_with fail
  rw [← HW1.out, ← HHH.out]
  refine Calls.mono HC14.out ?_
  rintro e w2 ⟨rfl, hb2⟩
  have hlt : H + 1 < w1.heap.size := by have := HS1.out; omega
  have cl : ∀ {j : Nat} {u : Value}, w1.cell? ⟨H, j, none⟩ = some u → w2.cell? ⟨H, j, none⟩ = some u := fun h => (hb2.cell (p := ⟨_, _, none⟩) (by simp only; omega)).trans h
  have cz : ∀ {j : Nat} {u : Value}, w1.cell? ⟨H + 1, j, none⟩ = some u → w2.cell? ⟨H + 1, j, none⟩ = some u := fun h => (hb2.cell (p := ⟨_, _, none⟩) hlt).trans h
  have k0 := cl HK.out.1
  have k1 := cl HK.out.2.1
  have k2 := cl HK.out.2.2.1
  have k3 := cl HK.out.2.2.2
  have z0 := cz HZ.out.1
  have z1 := cz HZ.out.2.1
  have z2 := cz HZ.out.2.2.1
  have z3 := cz HZ.out.2.2.2.1
  have zf : ∀ i, w2.frozen? ⟨H + 1, i, none⟩ = false := fun i => (hb2.frozen (p := ⟨_, _, none⟩) hlt).trans (HZ.out.2.2.2.2 i)
  have HZf := Lib.hid zf
  have f0 := zf 0
  have f1 := zf 1
  have f2 := zf 2
  have f3 := zf 3
  have HX2 := Lib.hid (HX1.out.trans (hb2.mono HX1.out.size))
  have HHw : Hid (w.heap.size = H) := Lib.hid HHH.out.symm
  clear hb2 cl cz zf hlt
  rcases hcc with hc | hc
  · subst hc
    have HEr : Hid (∀ x, x = (if lowB [d, sig] || decide (4611686018427387904 ≤ next) then 1 else if goneB now delta t d then 140 else 0) → pushE now delta next l t d sig = x) := Lib.hid (fun x hx => by unfold pushE; rw [← HE.out, if_pos rfl, hx])
    have hso := check_sorted (now := now) (delta := delta) (next := next) (l := l) HE.out.symm
    have HSo := Lib.hid hso.2.2
    have HNx0 : Hid (0 ≤ next) := Lib.hid (by have := hso.1; unfold lowB at this; simp at this; omega)
    clear hso
    by_cases c0 : d < 0
    · have d0 : decide (d < 0) = true := by simpa using c0
      have HPE := Lib.hid (HEr.out 1 (by unfold lowB; rw [List.any_cons, d0, Bool.true_or, Bool.true_or]; rfl))
      clear c0
      go_wp2_with fail
      refine bodyPost_ret (results_push12 (b := H + 1) rfl rfl (set_keep (set_keep (set_keep (cell?_set_own z0) (by decide)) (by decide)) (by decide)) (set_keep (set_keep (cell?_set_own (set_keep z1 (by decide))) (by decide)) (by decide)) (set_keep (cell?_set_own (set_keep (set_keep z2 (by decide)) (by decide))) (by decide)) (cell?_set_own (set_keep (set_keep (set_keep z3 (by decide)) (by decide)) (by decide)))) rfl (pushed_err (HPE.out) (by omega) ?_)
      refine (((HX2.out.setCell (by have := HHw.out; simp only; omega) _).setCell (by have := HHw.out; simp only; omega) _).setCell (by have := HHw.out; simp only; omega) _).setCell (by have := HHw.out; simp only; omega) _
    have d0 : decide (d < 0) = false := by simpa using c0
    by_cases c1 : sig < 0
    · have d1 : decide (sig < 0) = true := by simpa using c1
      have HPE := Lib.hid (HEr.out 1 (by unfold lowB; rw [List.any_cons, List.any_cons, d1, Bool.true_or, Bool.or_true, Bool.true_or]; rfl))
      clear c0 c1
      go_wp2_with fail
      refine bodyPost_ret (results_push12 (b := H + 1) rfl rfl (set_keep (set_keep (set_keep (cell?_set_own z0) (by decide)) (by decide)) (by decide)) (set_keep (set_keep (cell?_set_own (set_keep z1 (by decide))) (by decide)) (by decide)) (set_keep (cell?_set_own (set_keep (set_keep z2 (by decide)) (by decide))) (by decide)) (cell?_set_own (set_keep (set_keep (set_keep z3 (by decide)) (by decide)) (by decide)))) rfl (pushed_err (HPE.out) (by omega) ?_)
      refine (((HX2.out.setCell (by have := HHw.out; simp only; omega) _).setCell (by have := HHw.out; simp only; omega) _).setCell (by have := HHw.out; simp only; omega) _).setCell (by have := HHw.out; simp only; omega) _
    have d1 : decide (sig < 0) = false := by simpa using c1
    have HLw : Hid (lowB [d, sig] = false) := Lib.hid (by unfold lowB; rw [List.any_cons, List.any_cons, d0, d1]; rfl)
    by_cases hnx : 4611686018427387904 ≤ next
    · have hnb : decide (4611686018427387904 ≤ next) = true := by simpa using hnx
      have HPE := Lib.hid (HEr.out 1 (by rw [hnb, Bool.or_true]; rfl))
      clear hnx c0 c1
      go_wp2_with fail
      refine bodyPost_ret (results_push12 (b := H + 1) rfl rfl (set_keep (set_keep (set_keep (cell?_set_own z0) (by decide)) (by decide)) (by decide)) (set_keep (set_keep (cell?_set_own (set_keep z1 (by decide))) (by decide)) (by decide)) (set_keep (cell?_set_own (set_keep (set_keep z2 (by decide)) (by decide))) (by decide)) (cell?_set_own (set_keep (set_keep (set_keep z3 (by decide)) (by decide)) (by decide)))) rfl (pushed_err (HPE.out) (by omega) ?_)
      refine (((HX2.out.setCell (by have := HHw.out; simp only; omega) _).setCell (by have := HHw.out; simp only; omega) _).setCell (by have := HHw.out; simp only; omega) _).setCell (by have := HHw.out; simp only; omega) _
    have hnb : decide (4611686018427387904 ≤ next) = false := by simpa using hnx
    have HNx := Lib.hid hnb
    have HWr : Hid (wrap64 (next + 1) = next + 1) := Lib.hid (by
      have h0 := HNx0.out
      rw [show next + 1 = ((next.toNat + 1 : Nat) : Int) by omega]
      rw [← IntWalk.i64_left]; exact Lib.wrap_i64_small _ (by omega))
    obtain ⟨gb, hgb⟩ : ∃ g, g = goneB now delta t d := ⟨_, rfl⟩
    have HGb := Lib.hid hgb
    clear hgb c0 c1 hnx
    go_wp2_with fail
    refine Calls.mono (gone33 _ a n c now delta next t d) ?_
    rintro e w7 ⟨rfl, hb7⟩
    rw [← HGb.out]
    have hlt' : H + 1 < w2.heap.size := World.block_lt_of_cell? w2 _ z0
    have k0 := (hb7.cell (p := ⟨H, 0, none⟩) (by simp only; omega)).trans k0
    have k1 := (hb7.cell (p := ⟨H, 1, none⟩) (by simp only; omega)).trans k1
    have k2 := (hb7.cell (p := ⟨H, 2, none⟩) (by simp only; omega)).trans k2
    have k3 := (hb7.cell (p := ⟨H, 3, none⟩) (by simp only; omega)).trans k3
    have z0 := (hb7.cell (p := ⟨H + 1, 0, none⟩) hlt').trans z0
    have z1 := (hb7.cell (p := ⟨H + 1, 1, none⟩) hlt').trans z1
    have z2 := (hb7.cell (p := ⟨H + 1, 2, none⟩) hlt').trans z2
    have z3 := (hb7.cell (p := ⟨H + 1, 3, none⟩) hlt').trans z3
    have f0 := (hb7.frozen (p := ⟨H + 1, 0, none⟩) hlt').trans f0
    have f1 := (hb7.frozen (p := ⟨H + 1, 1, none⟩) hlt').trans f1
    have f2 := (hb7.frozen (p := ⟨H + 1, 2, none⟩) hlt').trans f2
    have f3 := (hb7.frozen (p := ⟨H + 1, 3, none⟩) hlt').trans f3
    have HX7 := Lib.hid (HX2.out.trans (hb7.mono HX2.out.size))
    clear hb7 hlt'
    cases gb
    · have HPE : Hid (pushE now delta next l t d sig = 0) := Lib.hid (HEr.out 0 (by rw [HLw.out, HNx.out, ← HGb.out]; rfl))
      have hlen : decide ((65536 : Int) ≤ (n : Int)) = false := by simp; omega
      have hlen2 : decide (65536 ≤ n) = false := by simp; omega
      obtain ⟨w8, hw8⟩ : ∃ W, W = (w7.alloc (Obj.cells #[Value.int .i64 t, Value.int .i64 d, Value.int .i64 next, Value.int .i64 sig, Value.int .u64 v] 35)).alloc (Obj.cells #[Value.slice none 0 0, Value.int .i64 now, Value.int .i64 delta, Value.int .i64 (next + 1)] 24) := ⟨_, rfl⟩
      obtain ⟨b8, hb8⟩ : ∃ b, b = w7.heap.size := ⟨_, rfl⟩
      have x0 : w8.cell? ⟨b8, 0, none⟩ = some (.int .i64 t) := by rw [hw8, hb8]; exact cell_alloc _ (by simp)
      have x1 : w8.cell? ⟨b8, 1, none⟩ = some (.int .i64 d) := by rw [hw8, hb8]; exact cell_alloc _ (by simp)
      have x2 : w8.cell? ⟨b8, 2, none⟩ = some (.int .i64 next) := by rw [hw8, hb8]; exact cell_alloc _ (by simp)
      have x3 : w8.cell? ⟨b8, 3, none⟩ = some (.int .i64 sig) := by rw [hw8, hb8]; exact cell_alloc _ (by simp)
      have x4 : w8.cell? ⟨b8, 4, none⟩ = some (.int .u64 v) := by rw [hw8, hb8]; exact cell_alloc _ (by simp)
      have o0 : w8.cell? ⟨b8 + 1, 0, none⟩ = some (.slice none 0 0) := by rw [hw8, hb8]; simp
      have o1 : w8.cell? ⟨b8 + 1, 1, none⟩ = some (.int .i64 now) := by rw [hw8, hb8]; simp
      have o2 : w8.cell? ⟨b8 + 1, 2, none⟩ = some (.int .i64 delta) := by rw [hw8, hb8]; simp
      have o3 : w8.cell? ⟨b8 + 1, 3, none⟩ = some (.int .i64 (next + 1)) := by rw [hw8, hb8]; simp
      have g0 : w8.frozen? ⟨b8 + 1, 0, none⟩ = false := by rw [hw8, hb8]; simp
      have hB8 : Below w7.heap.size w7 w8 := by rw [hw8]; exact ((Below.refl _ _).alloc (Nat.le_refl _) _).alloc (by simp) _
      have HW8 := Lib.hid hw8
      have HB8e := Lib.hid hb8
      have HB8g : Hid (H + 1 < b8) := Lib.hid (by rw [hb8]; exact World.block_lt_of_cell? w7 _ z0)
      have HX := Lib.hid (And.intro x0 (And.intro x1 (And.intro x2 (And.intro x3 x4))))
      have HO := Lib.hid (And.intro o0 (And.intro o1 (And.intro o2 (And.intro o3 g0))))
      have HB8 := Lib.hid hB8
      have ka1 : (w7.alloc (Obj.cells #[Value.int .i64 t, Value.int .i64 d, Value.int .i64 next, Value.int .i64 sig, Value.int .u64 v] 35)).cell? ⟨H, 1, none⟩ = some (.int .i64 now) := cell_alloc _ k1
      have ka2 : (w7.alloc (Obj.cells #[Value.int .i64 t, Value.int .i64 d, Value.int .i64 next, Value.int .i64 sig, Value.int .u64 v] 35)).cell? ⟨H, 2, none⟩ = some (.int .i64 delta) := cell_alloc _ k2
      have ka3 : (w7.alloc (Obj.cells #[Value.int .i64 t, Value.int .i64 d, Value.int .i64 next, Value.int .i64 sig, Value.int .u64 v] 35)).cell? ⟨H, 3, none⟩ = some (.int .i64 next) := cell_alloc _ k3
      clear hw8 hb8 x0 x1 x2 x3 x4 o0 o1 o2 o3 g0 hB8
      go_wp2_with fail
      clear ka1 ka2 ka3
      rw [HWr.out, ← HW8.out, ← HB8e.out]
      obtain ⟨x0, x1, x2, x3, x4⟩ := HX.out
      have hb8 := HB8.out
      have hlt' : H + 1 < w7.heap.size := World.block_lt_of_cell? w7 _ z0
      have k0 := (hb8.cell (p := ⟨H, 0, none⟩) (by simp only; omega)).trans k0
      have k1 := (hb8.cell (p := ⟨H, 1, none⟩) (by simp only; omega)).trans k1
      have k2 := (hb8.cell (p := ⟨H, 2, none⟩) (by simp only; omega)).trans k2
      have k3 := (hb8.cell (p := ⟨H, 3, none⟩) (by simp only; omega)).trans k3
      have z0 := (hb8.cell (p := ⟨H + 1, 0, none⟩) hlt').trans z0
      have z1 := (hb8.cell (p := ⟨H + 1, 1, none⟩) hlt').trans z1
      have z2 := (hb8.cell (p := ⟨H + 1, 2, none⟩) hlt').trans z2
      have z3 := (hb8.cell (p := ⟨H + 1, 3, none⟩) hlt').trans z3
      have f0 := (hb8.frozen (p := ⟨H + 1, 0, none⟩) hlt').trans f0
      have f1 := (hb8.frozen (p := ⟨H + 1, 1, none⟩) hlt').trans f1
      have f2 := (hb8.frozen (p := ⟨H + 1, 2, none⟩) hlt').trans f2
      have f3 := (hb8.frozen (p := ⟨H + 1, 3, none⟩) hlt').trans f3
      have HX8 := Lib.hid (HX7.out.trans (hb8.mono HX7.out.size))
      have HZ8 := Lib.hid (And.intro z0 (And.intro z1 (And.intro z2 (And.intro z3 (And.intro f0 (And.intro f1 (And.intro f2 f3)))))))
      have HHb8 : Hid (H < w8.heap.size) := Lib.hid (World.block_lt_of_cell? w8 _ k0)
      have Hb8l : Hid (b8 + 1 < w8.heap.size) := Lib.hid (World.block_lt_of_cell? w8 _ HO.out.1)
      clear hb8 hlt' k1 k2 k3 z0 z1 z2 z3 f0 f1 f2 f3
      go_loopw [15] (fun iv wr => ∃ k : Nat, k ≤ n ∧ iv = .int .i64 k ∧ Hid (Below w8.heap.size w8 wr ∧ ∀ j, j < k → ltW (l.getD j default).when ⟨t, d, next⟩)) (fun iv _ => n - (intOf iv).toNat)
      case atStart => exact ⟨0, by omega, rfl, Lib.hid ⟨Below.refl _ _, fun j hj => by omega⟩⟩
      case round =>
        obtain ⟨k, hk, rfl, hh⟩ := hrel
        have HRr := Lib.hid hh.out.1
        have HAll := Lib.hid hh.out.2
        have cl : ∀ {b j : Nat} {u : Value}, w8.cell? ⟨b, j, none⟩ = some u → wr.cell? ⟨b, j, none⟩ = some u := fun h => (hh.out.1.cell (p := ⟨_, _, none⟩) (World.block_lt_of_cell? w8 _ h)).trans h
        have r0 := cl k0
        have x0 := cl x0
        have x1 := cl x1
        have x2 := cl x2
        have x3 := cl x3
        have x4 := cl x4
        clear k0 cl
        have hbw : Below w.heap.size w wr := HX8.out.trans (HRr.out.mono HX8.out.size)
        have HBw := Lib.hid hbw
        by_cases hlt : k < n
        · obtain ⟨b, off, ha, hbb, e0, e1, e2, e3, e4⟩ := (HLA.out.below hbw (Nat.le_refl _)).ev k (by rw [HN.out]; exact hlt)
          obtain ⟨x, hx⟩ : ∃ x, x = l.getD k default := ⟨_, rfl⟩
          rw [← hx] at e0 e1 e2 e3 e4
          obtain ⟨xt, xd, xn, xs, xv⟩ := x
          dsimp only at e0 e1 e2 e3 e4
          obtain ⟨ab, hab⟩ : ∃ a, a = aheadB ⟨xt, xd, xn, xs, xv⟩ ⟨t, d, next, sig, v⟩ := ⟨_, rfl⟩
          have HAb := Lib.hid hab
          have HHx := Lib.hid hx
          clear hbw hh hab hx hbb
          subst ha
          go_wp2_with fail
          refine wp_region_held_drew (S := fun w' => w'.cell? ⟨H, 0, none⟩ = some (.slice (some ⟨b, off, none⟩) n c) ∧ w'.cell? ⟨b, off + k * 5, none⟩ = some (.int .i64 xt) ∧ w'.cell? ⟨b, off + k * 5 + 1, none⟩ = some (.int .i64 xd) ∧ w'.cell? ⟨b, off + k * 5 + 2, none⟩ = some (.int .i64 xn) ∧ w'.cell? ⟨b, off + k * 5 + 3, none⟩ = some (.int .i64 xs) ∧ w'.cell? ⟨b, off + k * 5 + 4, none⟩ = some (.int .u64 xv) ∧ w'.cell? ⟨b8, 0, none⟩ = some (.int .i64 t) ∧ w'.cell? ⟨b8, 1, none⟩ = some (.int .i64 d) ∧ w'.cell? ⟨b8, 2, none⟩ = some (.int .i64 next) ∧ w'.cell? ⟨b8, 3, none⟩ = some (.int .i64 sig) ∧ w'.cell? ⟨b8, 4, none⟩ = some (.int .u64 v)) (by kernel_rfl) (⟨r0, e0, e1, e2, e3, e4, x0, x1, x2, x3, x4⟩) (fun hHeld => ?_)
          refine wpAnyH_take (i := 0) (v := ?_) (by simp only [List.getElem?_toArray, List.getElem?_cons_succ, List.getElem?_cons_zero]; rfl) (by kernel_rfl) (by kernel_rfl) (by kernel_rfl) (by intro _ _ _ h; exact h) (Or.inl ⟨by rfl, ?_⟩) (by assumption) ?_
          rotate_left
          · intro w hSw; (try dsimp only at hSw); go_simp; try with_reducible rfl
          try simp only [Act.put, List.setIfInBounds_toArray, List.set_cons_zero, List.set_cons_succ]
          refine wpAnyH_take (i := 1) (v := ?_) (by simp only [List.getElem?_toArray, List.getElem?_cons_succ, List.getElem?_cons_zero]; rfl) (by kernel_rfl) (by kernel_rfl) (by kernel_rfl) (by intro _ _ _ h; exact h) (Or.inl ⟨by rfl, ?_⟩) (by assumption) ?_
          rotate_left
          · intro w hSw; (try dsimp only at hSw); go_simp; try with_reducible rfl
          try simp only [Act.put, List.setIfInBounds_toArray, List.set_cons_zero, List.set_cons_succ]
          refine wpAnyH_take (i := 2) (v := ?_) (by simp only [List.getElem?_toArray, List.getElem?_cons_succ, List.getElem?_cons_zero]; rfl) (by kernel_rfl) (by kernel_rfl) (by kernel_rfl) (by intro _ _ _ h; exact h) (Or.inl ⟨by rfl, ?_⟩) (by assumption) ?_
          rotate_left
          · intro w hSw; (try dsimp only at hSw); go_simp; try with_reducible rfl
          try simp only [Act.put, List.setIfInBounds_toArray, List.set_cons_zero, List.set_cons_succ]
          refine wpAnyH_take (i := 3) (v := ?_) (by simp only [List.getElem?_toArray, List.getElem?_cons_succ, List.getElem?_cons_zero]; rfl) (by kernel_rfl) (by kernel_rfl) (by kernel_rfl) (by intro _ _ _ h; exact h) (Or.inl ⟨by rfl, ?_⟩) (by assumption) ?_
          rotate_left
          · intro w hSw; (try dsimp only at hSw); go_simp; try with_reducible rfl
          try simp only [Act.put, List.setIfInBounds_toArray, List.set_cons_zero, List.set_cons_succ]
          refine wpAnyH_take (i := 4) (v := ?_) (by simp only [List.getElem?_toArray, List.getElem?_cons_succ, List.getElem?_cons_zero]; rfl) (by kernel_rfl) (by kernel_rfl) (by kernel_rfl) (by intro _ _ _ h; exact h) (Or.inl ⟨by rfl, ?_⟩) (by assumption) ?_
          rotate_left
          · intro w hSw; (try dsimp only at hSw); go_simp; try with_reducible rfl
          try simp only [Act.put, List.setIfInBounds_toArray, List.set_cons_zero, List.set_cons_succ]
          refine wpAnyH_take (i := 5) (v := ?_) (by simp only [List.getElem?_toArray, List.getElem?_cons_succ, List.getElem?_cons_zero]; rfl) (by kernel_rfl) (by kernel_rfl) (by kernel_rfl) (by intro _ _ _ h; exact h) (Or.inl ⟨by rfl, ?_⟩) (by assumption) ?_
          rotate_left
          · intro w hSw; (try dsimp only at hSw); go_simp; try with_reducible rfl
          try simp only [Act.put, List.setIfInBounds_toArray, List.set_cons_zero, List.set_cons_succ]
          refine wpAnyH_take (i := 6) (v := ?_) (by simp only [List.getElem?_toArray, List.getElem?_cons_succ, List.getElem?_cons_zero]; rfl) (by kernel_rfl) (by kernel_rfl) (by kernel_rfl) (by intro _ _ _ h; exact h) (Or.inl ⟨by rfl, ?_⟩) (by assumption) ?_
          rotate_left
          · intro w hSw; (try dsimp only at hSw); go_simp; try with_reducible rfl
          try simp only [Act.put, List.setIfInBounds_toArray, List.set_cons_zero, List.set_cons_succ]
          refine wpAnyH_take (i := 7) (v := ?_) (by simp only [List.getElem?_toArray, List.getElem?_cons_succ, List.getElem?_cons_zero]; rfl) (by kernel_rfl) (by kernel_rfl) (by kernel_rfl) (by intro _ _ _ h; exact h) (Or.inl ⟨by rfl, ?_⟩) (by assumption) ?_
          rotate_left
          · intro w hSw; (try dsimp only at hSw); go_simp; try with_reducible rfl
          try simp only [Act.put, List.setIfInBounds_toArray, List.set_cons_zero, List.set_cons_succ]
          refine wpAnyH_take (i := 8) (v := ?_) (by simp only [List.getElem?_toArray, List.getElem?_cons_succ, List.getElem?_cons_zero]; rfl) (by kernel_rfl) (by kernel_rfl) (by kernel_rfl) (by intro _ _ _ h; exact h) (Or.inl ⟨by rfl, ?_⟩) (by assumption) ?_
          rotate_left
          · intro w hSw; (try dsimp only at hSw); go_simp; try with_reducible rfl
          try simp only [Act.put, List.setIfInBounds_toArray, List.set_cons_zero, List.set_cons_succ]
          refine wpAnyH_take (i := 9) (v := ?_) (by simp only [List.getElem?_toArray, List.getElem?_cons_succ, List.getElem?_cons_zero]; rfl) (by kernel_rfl) (by kernel_rfl) (by kernel_rfl) (by intro _ _ _ h; exact h) (Or.inl ⟨by rfl, ?_⟩) (by assumption) ?_
          rotate_left
          · intro w hSw; (try dsimp only at hSw); go_simp; first | with_reducible rfl | rw [if_pos (by omega)]
          try simp only [Act.put, List.setIfInBounds_toArray, List.set_cons_zero, List.set_cons_succ]
          refine wpAnyH_take (i := 10) (v := ?_) (by simp only [List.getElem?_toArray, List.getElem?_cons_succ, List.getElem?_cons_zero]; rfl) (by kernel_rfl) (by kernel_rfl) (by kernel_rfl) (by intro _ _ _ h; exact h) (Or.inl ⟨by rfl, ?_⟩) (by assumption) ?_
          rotate_left
          · intro w hSw; (try dsimp only at hSw); go_simp; try with_reducible rfl
          try simp only [Act.put, List.setIfInBounds_toArray, List.set_cons_zero, List.set_cons_succ]
          refine wpAnyH_take (i := 11) (v := ?_) (by simp only [List.getElem?_toArray, List.getElem?_cons_succ, List.getElem?_cons_zero]; rfl) (by kernel_rfl) (by kernel_rfl) (by kernel_rfl) (by intro _ _ _ h; exact h) (Or.inl ⟨by rfl, ?_⟩) (by assumption) ?_
          rotate_left
          · intro w hSw; (try dsimp only at hSw); go_simp; try with_reducible rfl
          try simp only [Act.put, List.setIfInBounds_toArray, List.set_cons_zero, List.set_cons_succ]
          refine wpAnyH_ready (rs := [12]) (by kernel_rfl) (by simp) ?_
          refine AllReadyH.cons (o := _) (by simp only [List.getElem?_toArray, List.getElem?_cons_succ, List.getElem?_cons_zero]; rfl) (fun K hK => ?_) AllReadyH.nil
          go_simp
          go_at_call 24
          refine Calls.mono (ahead24 wr.drew ⟨xt, xd, xn, xs, xv⟩ ⟨t, d, next, sig, v⟩) ?_
          rintro e ws ⟨rfl, hbc⟩
          rw [← HAb.out]
          have hkc : ∀ {b o : Nat} {v : Value}, wr.cell? ⟨b, o, none⟩ = some v → ws.cell? ⟨b, o, none⟩ = some v := fun h => (hbc.cell (p := ⟨_, _, none⟩) (World.block_lt_of_cell? wr _ h)).trans h
          have HBc : Hid (Below wr.heap.size wr ws) := Lib.hid ((Below.refl _ _).drew.trans hbc)
          clear hbc
          go_simp
          refine hK.out _ _ (by exact ⟨hkc r0, hkc e0, hkc e1, hkc e2, hkc e3, hkc e4, hkc x0, hkc x1, hkc x2, hkc x3, hkc x4⟩) (fun hHeld => ?_)
          clear hK K
          try simp only [Act.put, List.setIfInBounds_toArray, List.set_cons_zero, List.set_cons_succ]
          refine wpAnyH_take (i := 13) (v := ?_) (by simp only [List.getElem?_toArray, List.getElem?_cons_succ, List.getElem?_cons_zero]; rfl) (by kernel_rfl) (by kernel_rfl) (by kernel_rfl) (by intro _ _ _ h; exact h) (Or.inl ⟨by rfl, ?_⟩) (by assumption) ?_
          rotate_left
          · intro w hSw; (try dsimp only at hSw); go_simp; try with_reducible rfl
          try simp only [Act.put, List.setIfInBounds_toArray, List.set_cons_zero, List.set_cons_succ]
          refine wpAnyH_done (by kernel_rfl) ?_ _
          cases ab
          · have HLt : Hid (¬ ltW (l.getD k default).when ⟨t, d, next⟩) := Lib.hid (fun h => by
              have := (aheadB_iff (l.getD k default) ⟨t, d, next, sig, v⟩).2 h
              rw [← HHx.out, ← HAb.out] at this; cases this)
            have HPo : Hid (posL l ⟨t, d, next⟩ = k) := Lib.hid (posL_of l _ k (by rw [HN.out]; omega) (fun j hj => HAll.out j hj) (fun _ => HLt.out))
            have HBs := Lib.hid (HRr.out.trans (HBc.out.mono HRr.out.size))
            have y := And.intro (hkc r0) (And.intro (hkc x0) (And.intro (hkc x1) (And.intro (hkc x2) (And.intro (hkc x3) (hkc x4)))))
            clear r0 x0 x1 x2 x3 x4 e0 e1 e2 e3 e4 hkc
            obtain ⟨r0, x0, x1, x2, x3, x4⟩ := y
            have hwb := World.block_lt_of_cell? ws _ x0
            have HKP : Hid (∀ W, Below ws.heap.size ws W → W.cell? ⟨H, 0, none⟩ = some (.slice (some ⟨b, off, none⟩) n c) ∧ W.cell? ⟨b8, 0, none⟩ = some (.int .i64 t) ∧ W.cell? ⟨b8, 1, none⟩ = some (.int .i64 d) ∧ W.cell? ⟨b8, 2, none⟩ = some (.int .i64 next) ∧ W.cell? ⟨b8, 3, none⟩ = some (.int .i64 sig) ∧ W.cell? ⟨b8, 4, none⟩ = some (.int .u64 v)) := Lib.hid (fun W hW => by
              have cl : ∀ {b j : Nat} {u : Value}, ws.cell? ⟨b, j, none⟩ = some u → W.cell? ⟨b, j, none⟩ = some u := fun h => (hW.cell (p := ⟨_, _, none⟩) (World.block_lt_of_cell? ws _ h)).trans h
              exact ⟨cl r0, cl x0, cl x1, cl x2, cl x3, cl x4⟩)
            have HKO : Hid (∀ W, Below ws.heap.size ws W → W.cell? ⟨b8 + 1, 0, none⟩ = some (.slice none 0 0) ∧ W.frozen? ⟨b8 + 1, 0, none⟩ = false ∧ W.cell? ⟨b8 + 1, 1, none⟩ = some (.int .i64 now) ∧ W.cell? ⟨b8 + 1, 2, none⟩ = some (.int .i64 delta) ∧ W.cell? ⟨b8 + 1, 3, none⟩ = some (.int .i64 (next + 1)) ∧
                W.cell? ⟨H + 1, 0, none⟩ = some (.slice none 0 0) ∧ W.cell? ⟨H + 1, 1, none⟩ = some (.int .i64 0) ∧ W.cell? ⟨H + 1, 2, none⟩ = some (.int .i64 0) ∧ W.cell? ⟨H + 1, 3, none⟩ = some (.int .i64 0) ∧ W.frozen? ⟨H + 1, 0, none⟩ = false ∧ W.frozen? ⟨H + 1, 1, none⟩ = false ∧ W.frozen? ⟨H + 1, 2, none⟩ = false ∧ W.frozen? ⟨H + 1, 3, none⟩ = false) := Lib.hid (fun W hW => by
              have hb : Below w8.heap.size w8 W := HBs.out.trans (hW.mono HBs.out.size)
              have cl : ∀ {b j : Nat} {u : Value}, w8.cell? ⟨b, j, none⟩ = some u → W.cell? ⟨b, j, none⟩ = some u := fun h => (hb.cell (p := ⟨_, _, none⟩) (World.block_lt_of_cell? w8 _ h)).trans h
              have fl : ∀ {b j : Nat} {u : Bool}, b < w8.heap.size → w8.frozen? ⟨b, j, none⟩ = u → W.frozen? ⟨b, j, none⟩ = u := fun hl h => (hb.frozen (p := ⟨_, _, none⟩) hl).trans h
              obtain ⟨o0, o1, o2, o3, g0⟩ := HO.out
              obtain ⟨z0, z1, z2, z3, f0, f1, f2, f3⟩ := HZ8.out
              have hz := World.block_lt_of_cell? w8 _ z0
              exact ⟨cl o0, fl Hb8l.out g0, cl o1, cl o2, cl o3, cl z0, cl z1, cl z2, cl z3, fl hz f0, fl hz f1, fl hz f2, fl hz f3⟩)
            have HLW : Hid (∀ W, Below ws.heap.size ws W → LAt W (some ⟨b, off, none⟩) l) := Lib.hid (fun W hW => HLA.out.below (HX8.out.trans ((HBs.out.trans (hW.mono HBs.out.size)).mono HX8.out.size)) (Nat.le_refl _))
            have hkc : k ≤ c := Nat.le_trans hk HC.out
            have hck : ¬ c = k := by have := HC.out; omega
            clear hwb
            go_wp2_with fail
            refine wp_region_K (S := fun w' => w'.cell? ⟨H, 0, none⟩ = some (.slice (some ⟨b, off, none⟩) n c) ∧ w'.cell? ⟨b8, 0, none⟩ = some (.int .i64 t) ∧ w'.cell? ⟨b8, 1, none⟩ = some (.int .i64 d) ∧ w'.cell? ⟨b8, 2, none⟩ = some (.int .i64 next) ∧ w'.cell? ⟨b8, 3, none⟩ = some (.int .i64 sig) ∧ w'.cell? ⟨b8, 4, none⟩ = some (.int .u64 v)) 15 (by kernel_rfl) (HKP.out _ (Below.refl _ _).drew) (fun hHeld => ?_)
            refine wpAnyK_take (i := 1) (v := ?_) (by simp only [List.getElem?_toArray, List.getElem?_cons_succ, List.getElem?_cons_zero]; rfl) (by kernel_rfl) (by kernel_rfl) (by kernel_rfl) (by kernel_rfl) (by intro _ _ _ h; exact h) (Or.inl ⟨by rfl, ?_⟩) (by assumption) ?_
            rotate_left
            · intro w hSw; (try dsimp only at hSw); go_simp; try with_reducible rfl
            try simp only [Act.put, List.setIfInBounds_toArray, List.set_cons_zero, List.set_cons_succ]
            refine wpAnyK_take (i := 2) (v := ?_) (by simp only [List.getElem?_toArray, List.getElem?_cons_succ, List.getElem?_cons_zero]; rfl) (by kernel_rfl) (by kernel_rfl) (by kernel_rfl) (by kernel_rfl) (by intro _ _ _ h; exact h) (Or.inl ⟨by rfl, ?_⟩) (by assumption) ?_
            rotate_left
            · intro w hSw; (try dsimp only at hSw); go_simp; try with_reducible rfl
            try simp only [Act.put, List.setIfInBounds_toArray, List.set_cons_zero, List.set_cons_succ]
            refine wpAnyK_take (i := 3) (v := ?_) (by simp only [List.getElem?_toArray, List.getElem?_cons_succ, List.getElem?_cons_zero]; rfl) (by kernel_rfl) (by kernel_rfl) (by kernel_rfl) (by kernel_rfl) (by intro _ _ _ h; exact h) (Or.inl ⟨by rfl, ?_⟩) (by assumption) ?_
            rotate_left
            · intro w hSw; (try dsimp only at hSw); go_simp; try with_reducible rfl
            try simp only [Act.put, List.setIfInBounds_toArray, List.set_cons_zero, List.set_cons_succ]
            refine wpAnyK_take (i := 4) (v := ?_) (by simp only [List.getElem?_toArray, List.getElem?_cons_succ, List.getElem?_cons_zero]; rfl) (by kernel_rfl) (by kernel_rfl) (by kernel_rfl) (by kernel_rfl) (by intro _ _ _ h; exact h) (Or.inl ⟨by rfl, ?_⟩) (by assumption) ?_
            rotate_left
            · intro w hSw; (try dsimp only at hSw); go_simp; first | with_reducible rfl | rw [if_pos (by omega)]
            try simp only [Act.put, List.setIfInBounds_toArray, List.set_cons_zero, List.set_cons_succ]
            refine wpAnyK_take (i := 6) (v := ?_) (by simp only [List.getElem?_toArray, List.getElem?_cons_succ, List.getElem?_cons_zero]; rfl) (by kernel_rfl) (by kernel_rfl) (by kernel_rfl) (by kernel_rfl) (by intro _ _ _ h; exact h) (Or.inl ⟨by rfl, ?_⟩) (by assumption) ?_
            rotate_left
            · intro w hSw; (try dsimp only at hSw); go_simp; try with_reducible rfl
            try simp only [Act.put, List.setIfInBounds_toArray, List.set_cons_zero, List.set_cons_succ]
            refine wpAnyK_take (i := 9) (v := ?_) (by simp only [List.getElem?_toArray, List.getElem?_cons_succ, List.getElem?_cons_zero]; rfl) (by kernel_rfl) (by kernel_rfl) (by kernel_rfl) (by kernel_rfl) (by intro _ _ _ h; exact h) (Or.inl ⟨by rfl, ?_⟩) (by assumption) ?_
            rotate_left
            · intro w hSw; (try dsimp only at hSw); go_simp; try with_reducible rfl
            try simp only [Act.put, List.setIfInBounds_toArray, List.set_cons_zero, List.set_cons_succ]
            refine wpAnyK_take (i := 10) (v := ?_) (by simp only [List.getElem?_toArray, List.getElem?_cons_succ, List.getElem?_cons_zero]; rfl) (by kernel_rfl) (by kernel_rfl) (by kernel_rfl) (by kernel_rfl) (by intro _ _ _ h; exact h) (Or.inl ⟨by rfl, ?_⟩) (by assumption) ?_
            rotate_left
            · intro w hSw; (try dsimp only at hSw); go_simp; try with_reducible rfl
            try simp only [Act.put, List.setIfInBounds_toArray, List.set_cons_zero, List.set_cons_succ]
            refine wpAnyK_take (i := 11) (v := ?_) (by simp only [List.getElem?_toArray, List.getElem?_cons_succ, List.getElem?_cons_zero]; rfl) (by kernel_rfl) (by kernel_rfl) (by kernel_rfl) (by kernel_rfl) (by intro _ _ _ h; exact h) (Or.inl ⟨by rfl, ?_⟩) (by assumption) ?_
            rotate_left
            · intro w hSw; (try dsimp only at hSw); go_simp; try with_reducible rfl
            try simp only [Act.put, List.setIfInBounds_toArray, List.set_cons_zero, List.set_cons_succ]
            refine wpAnyK_take (i := 12) (v := ?_) (by simp only [List.getElem?_toArray, List.getElem?_cons_succ, List.getElem?_cons_zero]; rfl) (by kernel_rfl) (by kernel_rfl) (by kernel_rfl) (by kernel_rfl) (by intro _ _ _ h; exact h) (Or.inl ⟨by rfl, ?_⟩) (by assumption) ?_
            rotate_left
            · intro w hSw; (try dsimp only at hSw); go_simp; first | with_reducible rfl | rw [if_pos (by omega)]
            try simp only [Act.put, List.setIfInBounds_toArray, List.set_cons_zero, List.set_cons_succ]
            refine wpAnyK_ready (rs := [0, 7]) (by kernel_rfl) (by simp) ?_
            refine AllReadyK.cons (o := _) (by simp only [List.getElem?_toArray, List.getElem?_cons_succ, List.getElem?_cons_zero]; rfl) (fun K hK => ?_) (AllReadyK.cons (o := _) (by simp only [List.getElem?_toArray, List.getElem?_cons_succ, List.getElem?_cons_zero]; rfl) (fun K hK => ?_) AllReadyK.nil)
            · go_simp

              refine hK.out _ _ (fun _ => by exact HKP.out _ ((Below.refl _ _).drew.alloc (Nat.le_refl _) _)) (fun hH => ?_)
              have hHeld := hH (by decide)
              clear hK K hH
              try simp only [Act.put, List.setIfInBounds_toArray, List.set_cons_zero, List.set_cons_succ]
              refine wpAnyK_ready (rs := [5, 7]) (by kernel_rfl) (by simp) ?_
              refine AllReadyK.cons (o := _) (by simp only [List.getElem?_toArray, List.getElem?_cons_succ, List.getElem?_cons_zero]; rfl) (fun K hK => ?_) (AllReadyK.cons (o := _) (by simp only [List.getElem?_toArray, List.getElem?_cons_succ, List.getElem?_cons_zero]; rfl) (fun K hK => ?_) AllReadyK.nil)
              · rw [if_pos (by rfl)]
                have hlp : LAt (ws.drew.alloc (Obj.cells #[] 35)) (some ⟨b, off, none⟩) l := HLW.out _ ((Below.refl _ _).drew.alloc (Nat.le_refl _) _)
                have hrow : (ws.drew.alloc (Obj.cells #[] 35)).ownsRow ws.heap.size 35 5 (.slice (some ⟨ws.heap.size, 0, none⟩) 0 0) 0 [] := (World.ownsRow_lit (base := ws.heap.size) (size := 5) ws.drew #[] 0 (Nat.le_refl _) (Nat.zero_le _) rfl)
                refine wp_append5 (w := (ws.drew.alloc (Obj.cells #[] 35))) (.tmp 75) (.tmp 79) rfl ws.heap.size (.slice (some ⟨ws.heap.size, 0, none⟩) 0 0) 0 [] rfl hrow _ k c ((l.take k).flatMap EvV.cells) rfl (by rw [flat5_length, List.length_take, HN.out, Nat.min_eq_left hk, Nat.mul_comm]) (hlp.front_none k (by rw [HN.out]; exact hk)) (hlp.front k (by rw [HN.out]; exact hk)) (flat5_one _) (by omega) (by simp <;> omega) ?_
                clear hlp
                intro va wa ho hg
                have HOa : Hid (wa.ownsRow ws.heap.size 35 5 va k ((l.take k).flatMap EvV.cells)) := Lib.hid (by simpa using ho)
                have HBa : Hid (Below ws.heap.size ws wa) := Lib.hid (((Below.refl _ _).drew.alloc (Nat.le_refl _) _).grown hg (by simp <;> omega) (fun k e => (hrow.lt k e).1))
                clear ho hg hrow
                refine hK.out _ _ (fun _ => by exact HKP.out _ HBa.out) (fun hH => ?_)
                have hHeld := hH (by decide)
                clear hK K hH
                try simp only [Act.put, List.setIfInBounds_toArray, List.set_cons_zero, List.set_cons_succ]
                refine wpAnyK_ready (rs := [7]) (by kernel_rfl) (by simp) ?_
                refine AllReadyK.cons (o := _) (by simp only [List.getElem?_toArray, List.getElem?_cons_succ, List.getElem?_cons_zero]; rfl) (fun K hK => ?_) AllReadyK.nil
                go_simp

                refine hK.out _ _ (fun _ => by exact HKP.out _ (HBa.out.alloc HBa.out.size _)) (fun hH => ?_)
                have hHeld := hH (by decide)
                clear hK K hH
                try simp only [Act.put, List.setIfInBounds_toArray, List.set_cons_zero, List.set_cons_succ]
                refine wpAnyK_ready (rs := [8]) (by kernel_rfl) (by simp) ?_
                refine AllReadyK.cons (o := _) (by simp only [List.getElem?_toArray, List.getElem?_cons_succ, List.getElem?_cons_zero]; rfl) (fun K hK => ?_) AllReadyK.nil
                rw [if_pos (by rfl)]
                refine wp_append5 (w := (wa.alloc (Obj.cells #[Value.int .i64 t, Value.int .i64 d, Value.int .i64 next, Value.int .i64 sig, Value.int .u64 v] 35))) (.tmp 80) (.tmp 82) rfl ws.heap.size va k _ rfl (HOa.out.alloc _) (some ⟨wa.heap.size, 0, none⟩) 1 1 (EvV.cells ⟨t, d, next, sig, v⟩) rfl rfl (by intro h; cases h) (ev_cells_at (alloc_top wa _)) (cells_one _) (by omega) (by have := HBa.out.size; simp; omega) ?_
                intro vb wb ho hg
                have HOb := Lib.hid ho
                have HBb : Hid (Below ws.heap.size ws wb) := Lib.hid ((HBa.out.alloc HBa.out.size _).grown hg (by have := HBa.out.size; simp; omega) (fun k e => (HOa.out.lt k e).1))
                clear ho hg
                refine hK.out _ _ (fun _ => by exact HKP.out _ HBb.out) (fun hH => ?_)
                have hHeld := hH (by decide)
                clear hK K hH
                try simp only [Act.put, List.setIfInBounds_toArray, List.set_cons_zero, List.set_cons_succ]
                refine wpAnyK_ready (rs := [13]) (by kernel_rfl) (by simp) ?_
                refine AllReadyK.cons (o := _) (by simp only [List.getElem?_toArray, List.getElem?_cons_succ, List.getElem?_cons_zero]; rfl) (fun K hK => ?_) AllReadyK.nil
                rw [if_pos (by rfl)]
                refine wp_append5 (w := wb) (.tmp 83) (.tmp 87) rfl ws.heap.size vb (k + 1) _ rfl HOb.out (some ⟨b, off + k * 5, none⟩) (n - k) (c - k) ((l.drop k).flatMap EvV.cells) rfl (by rw [flat5_length, List.length_drop, HN.out, Nat.mul_comm]) (by intro h; cases h) (fun ad had j u hj => by injection had with had; subst had; exact (HLW.out wb HBb.out).back k (by rw [HN.out]; exact hk) j u hj) (flat5_one _) (by omega) HBb.out.size ?_
                intro vc wc ho hg
                have HBc2 : Hid (Below ws.heap.size ws wc) := Lib.hid (HBb.out.grown hg HBb.out.size (fun k e => (HOb.out.lt k e).1))
                have hoc : wc.ownsRow ws.heap.size 35 5 vc (n + 1) ((insL l k ⟨t, d, next, sig, v⟩).flatMap EvV.cells) := by
                  rw [flat_ins l k ⟨t, d, next, sig, v⟩ (by rw [HN.out]; exact hk), ← flat_take l k (by rw [HN.out]; exact hk), ← flat_drop l k (by rw [HN.out]; exact hk)]
                  rw [show n + 1 = k + 1 + (n - k) by omega]; exact ho
                clear ho hg
                obtain ⟨g, cap, rfl, hgcap, hgb⟩ := own_form hoc (Nat.succ_pos _)
                have HGc := Lib.hid (And.intro hgcap hgb)
                clear hgcap hgb
                have HOc := Lib.hid hoc
                clear hoc
                have o0 : wc.cell? ⟨b8 + 1, 0, none⟩ = some (.slice none 0 0) := (HKO.out _ HBc2.out).1
                have g0 : wc.frozen? ⟨b8 + 1, 0, none⟩ = false := (HKO.out _ HBc2.out).2.1
                refine hK.out _ _ (fun _ => by exact HKP.out _ HBc2.out) (fun hH => ?_)
                have hHeld := hH (by decide)
                clear hK K hH
                try simp only [Act.put, List.setIfInBounds_toArray, List.set_cons_zero, List.set_cons_succ]
                refine wpAnyK_take (i := 14) (v := ?_) (by simp only [List.getElem?_toArray, List.getElem?_cons_succ, List.getElem?_cons_zero]; rfl) (by kernel_rfl) (by kernel_rfl) (by kernel_rfl) (by kernel_rfl) (by intro _ _ _ h; exact h) (Or.inl ⟨by rfl, ?_⟩) (by assumption) ?_
                rotate_left
                · intro w hSw; (try dsimp only at hSw); go_simp; try with_reducible rfl
                try simp only [Act.put, List.setIfInBounds_toArray, List.set_cons_zero, List.set_cons_succ]
                refine wpAnyK_ready (rs := [15]) (by kernel_rfl) (by simp) ?_
                refine AllReadyK.cons (o := _) (by simp only [List.getElem?_toArray, List.getElem?_cons_succ, List.getElem?_cons_zero]; rfl) (fun K hK => ?_) AllReadyK.nil
                go_simp

                refine hK.out _ _ (fun h => absurd rfl h) (fun _ => ?_)
                clear hK K
                try simp only [Act.put, List.setIfInBounds_toArray, List.set_cons_zero, List.set_cons_succ]
                refine wpAnyK_done (by kernel_rfl) ?_ _
                clear o0 g0
                obtain ⟨o0, g0, o1, o2, o3, z0, z1, z2, z3, f0, f1, f2, f3⟩ := HKO.out _ HBc2.out
                have hne1 : ¬ (H + 1 = b8 + 1) := by have := HB8g.out; omega
                have hne2 : ¬ (b8 + 1 = H + 1) := by have := HB8g.out; omega
                have Hb8s := World.block_lt_of_cell? ws _ (HKO.out _ (Below.refl _ _)).1
                have hg1 : g ≠ b8 + 1 := by have := HGc.out.2; simp only at Hb8s; omega
                have hg2 : g ≠ H + 1 := by have := HGc.out.2; have := HB8g.out; simp only at Hb8s; omega
                have HG := Lib.hid (And.intro hg1 hg2)
                clear hg1 hg2 Hb8s
                go_wp2_with fail
                have z0' := far (c := H + 1) (j := 0) (b := b8 + 1) (i := 0) (u := Value.slice (some ⟨g, 0, none⟩) (n + 1) cap) z0 hne1
                have z1' := far (c := H + 1) (j := 1) (b := b8 + 1) (i := 0) (u := Value.slice (some ⟨g, 0, none⟩) (n + 1) cap) z1 hne1
                have z2' := far (c := H + 1) (j := 2) (b := b8 + 1) (i := 0) (u := Value.slice (some ⟨g, 0, none⟩) (n + 1) cap) z2 hne1
                have z3' := far (c := H + 1) (j := 3) (b := b8 + 1) (i := 0) (u := Value.slice (some ⟨g, 0, none⟩) (n + 1) cap) z3 hne1
                refine bodyPost_ret (results_push12 (b := H + 1) rfl rfl (set_keep (set_keep (set_keep (cell?_set_own z0') (by decide)) (by decide)) (by decide)) (set_keep (set_keep (cell?_set_own (set_keep z1' (by decide))) (by decide)) (by decide)) (set_keep (cell?_set_own (set_keep (set_keep z2' (by decide)) (by decide))) (by decide)) (cell?_set_own (set_keep (set_keep (set_keep z3' (by decide)) (by decide)) (by decide)))) rfl ?_
                unfold Pushed
                rw [HPE.out, if_pos rfl]
                have hpo : pushL l ⟨t, d, next, sig, v⟩ = insL l k ⟨t, d, next, sig, v⟩ := by unfold pushL; rw [HPo.out]
                have hll : (pushL l ⟨t, d, next, sig, v⟩).length = n + 1 := by rw [hpo, insL_length _ _ _ (by rw [HN.out]; exact hk), HN.out]
                refine ⟨some ⟨g, 0, none⟩, cap, by rw [hll], by rw [hll]; exact HGc.out.1, (fun p hp => by injection hp with hp; rw [← hp]; have := (HX8.out.trans (HBs.out.mono HX8.out.size)).size; have := HGc.out.2; simp only; omega), ⟨?_, fun e he => ?_⟩, ?_⟩
                · refine seq5_of fun j u hj => ?_
                  rw [hpo] at hj
                  have hjc : wc.cell? ⟨g, j, none⟩ = some u := (HOc.out.cellAt j (by have := (List.getElem?_eq_some_iff.1 hj).1; have := HOc.out.1; omega)).trans hj
                  exact far (far (far (far (far hjc HG.out.1) HG.out.2) HG.out.2) HG.out.2) HG.out.2
                · rw [hpo] at he
                  unfold insL at he
                  rcases List.mem_append.1 he with he | he
                  · exact HLA.out.each e (List.mem_of_mem_take he)
                  · rcases List.mem_cons.1 he with rfl | he
                    · exact ⟨ht, hd, hN, hsi, hv⟩
                    · exact HLA.out.each e (List.mem_of_mem_drop he)
                · have hbs : Below w.heap.size w ws := HX8.out.trans (HBs.out.mono HX8.out.size)
                  refine (((((hbs.trans (HBc2.out.mono hbs.size)).setCell ?_ _).setCell ?_ _).setCell ?_ _).setCell ?_ _).setCell ?_ _
                  all_goals (have := HHw.out; have := HB8g.out; simp only; omega)
              · go_simp

                refine hK.out _ _ (fun _ => by exact HKP.out _ (((Below.refl _ _).drew.alloc (Nat.le_refl _) _).alloc (by simp) _)) (fun hH => ?_)
                have hHeld := hH (by decide)
                clear hK K hH
                try simp only [Act.put, List.setIfInBounds_toArray, List.set_cons_zero, List.set_cons_succ]
                refine wpAnyK_ready (rs := [5]) (by kernel_rfl) (by simp) ?_
                refine AllReadyK.cons (o := _) (by simp only [List.getElem?_toArray, List.getElem?_cons_succ, List.getElem?_cons_zero]; rfl) (fun K hK => ?_) AllReadyK.nil
                rw [if_pos (by rfl)]
                have hxp : ((ws.drew.alloc (Obj.cells #[] 35)).alloc (Obj.cells #[Value.int .i64 t, Value.int .i64 d, Value.int .i64 next, Value.int .i64 sig, Value.int .u64 v] 35)).heap[ws.heap.size + 1]? = some (.cells (EvV.cells ⟨t, d, next, sig, v⟩).toArray 35 (0, 0)) := by
                  have e1 : (ws.drew.alloc (Obj.cells #[] 35)).heap.size = ws.heap.size + 1 := by simp
                  rw [← e1]; exact alloc_top _ _
                have hlp : LAt ((ws.drew.alloc (Obj.cells #[] 35)).alloc (Obj.cells #[Value.int .i64 t, Value.int .i64 d, Value.int .i64 next, Value.int .i64 sig, Value.int .u64 v] 35)) (some ⟨b, off, none⟩) l := HLW.out _ (((Below.refl _ _).drew.alloc (Nat.le_refl _) _).alloc (by simp) _)
                have hrow : ((ws.drew.alloc (Obj.cells #[] 35)).alloc (Obj.cells #[Value.int .i64 t, Value.int .i64 d, Value.int .i64 next, Value.int .i64 sig, Value.int .u64 v] 35)).ownsRow ws.heap.size 35 5 (.slice (some ⟨ws.heap.size, 0, none⟩) 0 0) 0 [] := ((World.ownsRow_lit (base := ws.heap.size) (size := 5) ws.drew #[] 0 (Nat.le_refl _) (Nat.zero_le _) rfl).alloc _)
                refine wp_append5 (w := ((ws.drew.alloc (Obj.cells #[] 35)).alloc (Obj.cells #[Value.int .i64 t, Value.int .i64 d, Value.int .i64 next, Value.int .i64 sig, Value.int .u64 v] 35))) (.tmp 75) (.tmp 79) rfl ws.heap.size (.slice (some ⟨ws.heap.size, 0, none⟩) 0 0) 0 [] rfl hrow _ k c ((l.take k).flatMap EvV.cells) rfl (by rw [flat5_length, List.length_take, HN.out, Nat.min_eq_left hk, Nat.mul_comm]) (hlp.front_none k (by rw [HN.out]; exact hk)) (hlp.front k (by rw [HN.out]; exact hk)) (flat5_one _) (by omega) (by simp <;> omega) ?_
                clear hlp
                intro va wa ho hg
                have hxa := (hg.block (ws.heap.size + 1) (by simp) (by simp [Value.ownBlock])).trans hxp
                clear hxp
                have HOa : Hid (wa.ownsRow ws.heap.size 35 5 va k ((l.take k).flatMap EvV.cells)) := Lib.hid (by simpa using ho)
                have HBa : Hid (Below ws.heap.size ws wa) := Lib.hid ((((Below.refl _ _).drew.alloc (Nat.le_refl _) _).alloc (by simp) _).grown hg (by simp <;> omega) (fun k e => (hrow.lt k e).1))
                clear ho hg hrow
                refine hK.out _ _ (fun _ => by exact HKP.out _ HBa.out) (fun hH => ?_)
                have hHeld := hH (by decide)
                clear hK K hH
                try simp only [Act.put, List.setIfInBounds_toArray, List.set_cons_zero, List.set_cons_succ]
                refine wpAnyK_ready (rs := [8]) (by kernel_rfl) (by simp) ?_
                refine AllReadyK.cons (o := _) (by simp only [List.getElem?_toArray, List.getElem?_cons_succ, List.getElem?_cons_zero]; rfl) (fun K hK => ?_) AllReadyK.nil
                rw [if_pos (by rfl)]
                refine wp_append5 (w := wa) (.tmp 80) (.tmp 82) rfl ws.heap.size va k _ rfl HOa.out (some ⟨(ws.heap.size + 1), 0, none⟩) 1 1 (EvV.cells ⟨t, d, next, sig, v⟩) rfl rfl (by intro h; cases h) (ev_cells_at hxa) (cells_one _) (by omega) HBa.out.size ?_
                intro vb wb ho hg
                have HOb := Lib.hid ho
                have HBb : Hid (Below ws.heap.size ws wb) := Lib.hid (HBa.out.grown hg HBa.out.size (fun k e => (HOa.out.lt k e).1))
                clear ho hg
                refine hK.out _ _ (fun _ => by exact HKP.out _ HBb.out) (fun hH => ?_)
                have hHeld := hH (by decide)
                clear hK K hH
                try simp only [Act.put, List.setIfInBounds_toArray, List.set_cons_zero, List.set_cons_succ]
                refine wpAnyK_ready (rs := [13]) (by kernel_rfl) (by simp) ?_
                refine AllReadyK.cons (o := _) (by simp only [List.getElem?_toArray, List.getElem?_cons_succ, List.getElem?_cons_zero]; rfl) (fun K hK => ?_) AllReadyK.nil
                rw [if_pos (by rfl)]
                refine wp_append5 (w := wb) (.tmp 83) (.tmp 87) rfl ws.heap.size vb (k + 1) _ rfl HOb.out (some ⟨b, off + k * 5, none⟩) (n - k) (c - k) ((l.drop k).flatMap EvV.cells) rfl (by rw [flat5_length, List.length_drop, HN.out, Nat.mul_comm]) (by intro h; cases h) (fun ad had j u hj => by injection had with had; subst had; exact (HLW.out wb HBb.out).back k (by rw [HN.out]; exact hk) j u hj) (flat5_one _) (by omega) HBb.out.size ?_
                intro vc wc ho hg
                have HBc2 : Hid (Below ws.heap.size ws wc) := Lib.hid (HBb.out.grown hg HBb.out.size (fun k e => (HOb.out.lt k e).1))
                have hoc : wc.ownsRow ws.heap.size 35 5 vc (n + 1) ((insL l k ⟨t, d, next, sig, v⟩).flatMap EvV.cells) := by
                  rw [flat_ins l k ⟨t, d, next, sig, v⟩ (by rw [HN.out]; exact hk), ← flat_take l k (by rw [HN.out]; exact hk), ← flat_drop l k (by rw [HN.out]; exact hk)]
                  rw [show n + 1 = k + 1 + (n - k) by omega]; exact ho
                clear ho hg
                obtain ⟨g, cap, rfl, hgcap, hgb⟩ := own_form hoc (Nat.succ_pos _)
                have HGc := Lib.hid (And.intro hgcap hgb)
                clear hgcap hgb
                have HOc := Lib.hid hoc
                clear hoc
                have o0 : wc.cell? ⟨b8 + 1, 0, none⟩ = some (.slice none 0 0) := (HKO.out _ HBc2.out).1
                have g0 : wc.frozen? ⟨b8 + 1, 0, none⟩ = false := (HKO.out _ HBc2.out).2.1
                refine hK.out _ _ (fun _ => by exact HKP.out _ HBc2.out) (fun hH => ?_)
                have hHeld := hH (by decide)
                clear hK K hH
                try simp only [Act.put, List.setIfInBounds_toArray, List.set_cons_zero, List.set_cons_succ]
                refine wpAnyK_take (i := 14) (v := ?_) (by simp only [List.getElem?_toArray, List.getElem?_cons_succ, List.getElem?_cons_zero]; rfl) (by kernel_rfl) (by kernel_rfl) (by kernel_rfl) (by kernel_rfl) (by intro _ _ _ h; exact h) (Or.inl ⟨by rfl, ?_⟩) (by assumption) ?_
                rotate_left
                · intro w hSw; (try dsimp only at hSw); go_simp; try with_reducible rfl
                try simp only [Act.put, List.setIfInBounds_toArray, List.set_cons_zero, List.set_cons_succ]
                refine wpAnyK_ready (rs := [15]) (by kernel_rfl) (by simp) ?_
                refine AllReadyK.cons (o := _) (by simp only [List.getElem?_toArray, List.getElem?_cons_succ, List.getElem?_cons_zero]; rfl) (fun K hK => ?_) AllReadyK.nil
                go_simp

                refine hK.out _ _ (fun h => absurd rfl h) (fun _ => ?_)
                clear hK K
                try simp only [Act.put, List.setIfInBounds_toArray, List.set_cons_zero, List.set_cons_succ]
                refine wpAnyK_done (by kernel_rfl) ?_ _
                clear o0 g0
                obtain ⟨o0, g0, o1, o2, o3, z0, z1, z2, z3, f0, f1, f2, f3⟩ := HKO.out _ HBc2.out
                have hne1 : ¬ (H + 1 = b8 + 1) := by have := HB8g.out; omega
                have hne2 : ¬ (b8 + 1 = H + 1) := by have := HB8g.out; omega
                have Hb8s := World.block_lt_of_cell? ws _ (HKO.out _ (Below.refl _ _)).1
                have hg1 : g ≠ b8 + 1 := by have := HGc.out.2; simp only at Hb8s; omega
                have hg2 : g ≠ H + 1 := by have := HGc.out.2; have := HB8g.out; simp only at Hb8s; omega
                have HG := Lib.hid (And.intro hg1 hg2)
                clear hg1 hg2 Hb8s
                go_wp2_with fail
                have z0' := far (c := H + 1) (j := 0) (b := b8 + 1) (i := 0) (u := Value.slice (some ⟨g, 0, none⟩) (n + 1) cap) z0 hne1
                have z1' := far (c := H + 1) (j := 1) (b := b8 + 1) (i := 0) (u := Value.slice (some ⟨g, 0, none⟩) (n + 1) cap) z1 hne1
                have z2' := far (c := H + 1) (j := 2) (b := b8 + 1) (i := 0) (u := Value.slice (some ⟨g, 0, none⟩) (n + 1) cap) z2 hne1
                have z3' := far (c := H + 1) (j := 3) (b := b8 + 1) (i := 0) (u := Value.slice (some ⟨g, 0, none⟩) (n + 1) cap) z3 hne1
                refine bodyPost_ret (results_push12 (b := H + 1) rfl rfl (set_keep (set_keep (set_keep (cell?_set_own z0') (by decide)) (by decide)) (by decide)) (set_keep (set_keep (cell?_set_own (set_keep z1' (by decide))) (by decide)) (by decide)) (set_keep (cell?_set_own (set_keep (set_keep z2' (by decide)) (by decide))) (by decide)) (cell?_set_own (set_keep (set_keep (set_keep z3' (by decide)) (by decide)) (by decide)))) rfl ?_
                unfold Pushed
                rw [HPE.out, if_pos rfl]
                have hpo : pushL l ⟨t, d, next, sig, v⟩ = insL l k ⟨t, d, next, sig, v⟩ := by unfold pushL; rw [HPo.out]
                have hll : (pushL l ⟨t, d, next, sig, v⟩).length = n + 1 := by rw [hpo, insL_length _ _ _ (by rw [HN.out]; exact hk), HN.out]
                refine ⟨some ⟨g, 0, none⟩, cap, by rw [hll], by rw [hll]; exact HGc.out.1, (fun p hp => by injection hp with hp; rw [← hp]; have := (HX8.out.trans (HBs.out.mono HX8.out.size)).size; have := HGc.out.2; simp only; omega), ⟨?_, fun e he => ?_⟩, ?_⟩
                · refine seq5_of fun j u hj => ?_
                  rw [hpo] at hj
                  have hjc : wc.cell? ⟨g, j, none⟩ = some u := (HOc.out.cellAt j (by have := (List.getElem?_eq_some_iff.1 hj).1; have := HOc.out.1; omega)).trans hj
                  exact far (far (far (far (far hjc HG.out.1) HG.out.2) HG.out.2) HG.out.2) HG.out.2
                · rw [hpo] at he
                  unfold insL at he
                  rcases List.mem_append.1 he with he | he
                  · exact HLA.out.each e (List.mem_of_mem_take he)
                  · rcases List.mem_cons.1 he with rfl | he
                    · exact ⟨ht, hd, hN, hsi, hv⟩
                    · exact HLA.out.each e (List.mem_of_mem_drop he)
                · have hbs : Below w.heap.size w ws := HX8.out.trans (HBs.out.mono HX8.out.size)
                  refine (((((hbs.trans (HBc2.out.mono hbs.size)).setCell ?_ _).setCell ?_ _).setCell ?_ _).setCell ?_ _).setCell ?_ _
                  all_goals (have := HHw.out; have := HB8g.out; simp only; omega)
            · go_simp

              refine hK.out _ _ (fun _ => by exact HKP.out _ ((Below.refl _ _).drew.alloc (Nat.le_refl _) _)) (fun hH => ?_)
              have hHeld := hH (by decide)
              clear hK K hH
              try simp only [Act.put, List.setIfInBounds_toArray, List.set_cons_zero, List.set_cons_succ]
              refine wpAnyK_ready (rs := [0]) (by kernel_rfl) (by simp) ?_
              refine AllReadyK.cons (o := _) (by simp only [List.getElem?_toArray, List.getElem?_cons_succ, List.getElem?_cons_zero]; rfl) (fun K hK => ?_) AllReadyK.nil
              go_simp

              refine hK.out _ _ (fun _ => by exact HKP.out _ (((Below.refl _ _).drew.alloc (Nat.le_refl _) _).alloc (by simp) _)) (fun hH => ?_)
              have hHeld := hH (by decide)
              clear hK K hH
              try simp only [Act.put, List.setIfInBounds_toArray, List.set_cons_zero, List.set_cons_succ]
              refine wpAnyK_ready (rs := [5]) (by kernel_rfl) (by simp) ?_
              refine AllReadyK.cons (o := _) (by simp only [List.getElem?_toArray, List.getElem?_cons_succ, List.getElem?_cons_zero]; rfl) (fun K hK => ?_) AllReadyK.nil
              rw [if_pos (by rfl)]
              have hxp : ((ws.drew.alloc (Obj.cells #[Value.int .i64 t, Value.int .i64 d, Value.int .i64 next, Value.int .i64 sig, Value.int .u64 v] 35)).alloc (Obj.cells #[] 35)).heap[ws.heap.size]? = some (.cells (EvV.cells ⟨t, d, next, sig, v⟩).toArray 35 (0, 0)) := (Below.heap_alloc _ _ _ (by simp)).trans (alloc_top ws.drew _)
              have hlp : LAt ((ws.drew.alloc (Obj.cells #[Value.int .i64 t, Value.int .i64 d, Value.int .i64 next, Value.int .i64 sig, Value.int .u64 v] 35)).alloc (Obj.cells #[] 35)) (some ⟨b, off, none⟩) l := HLW.out _ (((Below.refl _ _).drew.alloc (Nat.le_refl _) _).alloc (by simp) _)
              have hrow : ((ws.drew.alloc (Obj.cells #[Value.int .i64 t, Value.int .i64 d, Value.int .i64 next, Value.int .i64 sig, Value.int .u64 v] 35)).alloc (Obj.cells #[] 35)).ownsRow ws.heap.size 35 5 (.slice (some ⟨ws.heap.size + 1, 0, none⟩) 0 0) 0 [] := (by rw [show ws.heap.size + 1 = (ws.drew.alloc (Obj.cells #[Value.int .i64 t, Value.int .i64 d, Value.int .i64 next, Value.int .i64 sig, Value.int .u64 v] 35)).heap.size by simp]; exact World.ownsRow_lit (base := ws.heap.size) (size := 5) (ws.drew.alloc (Obj.cells #[Value.int .i64 t, Value.int .i64 d, Value.int .i64 next, Value.int .i64 sig, Value.int .u64 v] 35)) #[] 0 (by simp) (Nat.zero_le _) rfl)
              refine wp_append5 (w := ((ws.drew.alloc (Obj.cells #[Value.int .i64 t, Value.int .i64 d, Value.int .i64 next, Value.int .i64 sig, Value.int .u64 v] 35)).alloc (Obj.cells #[] 35))) (.tmp 75) (.tmp 79) rfl ws.heap.size (.slice (some ⟨ws.heap.size + 1, 0, none⟩) 0 0) 0 [] rfl hrow _ k c ((l.take k).flatMap EvV.cells) rfl (by rw [flat5_length, List.length_take, HN.out, Nat.min_eq_left hk, Nat.mul_comm]) (hlp.front_none k (by rw [HN.out]; exact hk)) (hlp.front k (by rw [HN.out]; exact hk)) (flat5_one _) (by omega) (by simp <;> omega) ?_
              clear hlp
              intro va wa ho hg
              have hxa := (hg.block ws.heap.size (by simp <;> omega) (by simp [Value.ownBlock])).trans hxp
              clear hxp
              have HOa : Hid (wa.ownsRow ws.heap.size 35 5 va k ((l.take k).flatMap EvV.cells)) := Lib.hid (by simpa using ho)
              have HBa : Hid (Below ws.heap.size ws wa) := Lib.hid ((((Below.refl _ _).drew.alloc (Nat.le_refl _) _).alloc (by simp) _).grown hg (by simp <;> omega) (fun k e => (hrow.lt k e).1))
              clear ho hg hrow
              refine hK.out _ _ (fun _ => by exact HKP.out _ HBa.out) (fun hH => ?_)
              have hHeld := hH (by decide)
              clear hK K hH
              try simp only [Act.put, List.setIfInBounds_toArray, List.set_cons_zero, List.set_cons_succ]
              refine wpAnyK_ready (rs := [8]) (by kernel_rfl) (by simp) ?_
              refine AllReadyK.cons (o := _) (by simp only [List.getElem?_toArray, List.getElem?_cons_succ, List.getElem?_cons_zero]; rfl) (fun K hK => ?_) AllReadyK.nil
              rw [if_pos (by rfl)]
              refine wp_append5 (w := wa) (.tmp 80) (.tmp 82) rfl ws.heap.size va k _ rfl HOa.out (some ⟨ws.heap.size, 0, none⟩) 1 1 (EvV.cells ⟨t, d, next, sig, v⟩) rfl rfl (by intro h; cases h) (ev_cells_at hxa) (cells_one _) (by omega) HBa.out.size ?_
              intro vb wb ho hg
              have HOb := Lib.hid ho
              have HBb : Hid (Below ws.heap.size ws wb) := Lib.hid (HBa.out.grown hg HBa.out.size (fun k e => (HOa.out.lt k e).1))
              clear ho hg
              refine hK.out _ _ (fun _ => by exact HKP.out _ HBb.out) (fun hH => ?_)
              have hHeld := hH (by decide)
              clear hK K hH
              try simp only [Act.put, List.setIfInBounds_toArray, List.set_cons_zero, List.set_cons_succ]
              refine wpAnyK_ready (rs := [13]) (by kernel_rfl) (by simp) ?_
              refine AllReadyK.cons (o := _) (by simp only [List.getElem?_toArray, List.getElem?_cons_succ, List.getElem?_cons_zero]; rfl) (fun K hK => ?_) AllReadyK.nil
              rw [if_pos (by rfl)]
              refine wp_append5 (w := wb) (.tmp 83) (.tmp 87) rfl ws.heap.size vb (k + 1) _ rfl HOb.out (some ⟨b, off + k * 5, none⟩) (n - k) (c - k) ((l.drop k).flatMap EvV.cells) rfl (by rw [flat5_length, List.length_drop, HN.out, Nat.mul_comm]) (by intro h; cases h) (fun ad had j u hj => by injection had with had; subst had; exact (HLW.out wb HBb.out).back k (by rw [HN.out]; exact hk) j u hj) (flat5_one _) (by omega) HBb.out.size ?_
              intro vc wc ho hg
              have HBc2 : Hid (Below ws.heap.size ws wc) := Lib.hid (HBb.out.grown hg HBb.out.size (fun k e => (HOb.out.lt k e).1))
              have hoc : wc.ownsRow ws.heap.size 35 5 vc (n + 1) ((insL l k ⟨t, d, next, sig, v⟩).flatMap EvV.cells) := by
                rw [flat_ins l k ⟨t, d, next, sig, v⟩ (by rw [HN.out]; exact hk), ← flat_take l k (by rw [HN.out]; exact hk), ← flat_drop l k (by rw [HN.out]; exact hk)]
                rw [show n + 1 = k + 1 + (n - k) by omega]; exact ho
              clear ho hg
              obtain ⟨g, cap, rfl, hgcap, hgb⟩ := own_form hoc (Nat.succ_pos _)
              have HGc := Lib.hid (And.intro hgcap hgb)
              clear hgcap hgb
              have HOc := Lib.hid hoc
              clear hoc
              have o0 : wc.cell? ⟨b8 + 1, 0, none⟩ = some (.slice none 0 0) := (HKO.out _ HBc2.out).1
              have g0 : wc.frozen? ⟨b8 + 1, 0, none⟩ = false := (HKO.out _ HBc2.out).2.1
              refine hK.out _ _ (fun _ => by exact HKP.out _ HBc2.out) (fun hH => ?_)
              have hHeld := hH (by decide)
              clear hK K hH
              try simp only [Act.put, List.setIfInBounds_toArray, List.set_cons_zero, List.set_cons_succ]
              refine wpAnyK_take (i := 14) (v := ?_) (by simp only [List.getElem?_toArray, List.getElem?_cons_succ, List.getElem?_cons_zero]; rfl) (by kernel_rfl) (by kernel_rfl) (by kernel_rfl) (by kernel_rfl) (by intro _ _ _ h; exact h) (Or.inl ⟨by rfl, ?_⟩) (by assumption) ?_
              rotate_left
              · intro w hSw; (try dsimp only at hSw); go_simp; try with_reducible rfl
              try simp only [Act.put, List.setIfInBounds_toArray, List.set_cons_zero, List.set_cons_succ]
              refine wpAnyK_ready (rs := [15]) (by kernel_rfl) (by simp) ?_
              refine AllReadyK.cons (o := _) (by simp only [List.getElem?_toArray, List.getElem?_cons_succ, List.getElem?_cons_zero]; rfl) (fun K hK => ?_) AllReadyK.nil
              go_simp

              refine hK.out _ _ (fun h => absurd rfl h) (fun _ => ?_)
              clear hK K
              try simp only [Act.put, List.setIfInBounds_toArray, List.set_cons_zero, List.set_cons_succ]
              refine wpAnyK_done (by kernel_rfl) ?_ _
              clear o0 g0
              obtain ⟨o0, g0, o1, o2, o3, z0, z1, z2, z3, f0, f1, f2, f3⟩ := HKO.out _ HBc2.out
              have hne1 : ¬ (H + 1 = b8 + 1) := by have := HB8g.out; omega
              have hne2 : ¬ (b8 + 1 = H + 1) := by have := HB8g.out; omega
              have Hb8s := World.block_lt_of_cell? ws _ (HKO.out _ (Below.refl _ _)).1
              have hg1 : g ≠ b8 + 1 := by have := HGc.out.2; simp only at Hb8s; omega
              have hg2 : g ≠ H + 1 := by have := HGc.out.2; have := HB8g.out; simp only at Hb8s; omega
              have HG := Lib.hid (And.intro hg1 hg2)
              clear hg1 hg2 Hb8s
              go_wp2_with fail
              have z0' := far (c := H + 1) (j := 0) (b := b8 + 1) (i := 0) (u := Value.slice (some ⟨g, 0, none⟩) (n + 1) cap) z0 hne1
              have z1' := far (c := H + 1) (j := 1) (b := b8 + 1) (i := 0) (u := Value.slice (some ⟨g, 0, none⟩) (n + 1) cap) z1 hne1
              have z2' := far (c := H + 1) (j := 2) (b := b8 + 1) (i := 0) (u := Value.slice (some ⟨g, 0, none⟩) (n + 1) cap) z2 hne1
              have z3' := far (c := H + 1) (j := 3) (b := b8 + 1) (i := 0) (u := Value.slice (some ⟨g, 0, none⟩) (n + 1) cap) z3 hne1
              refine bodyPost_ret (results_push12 (b := H + 1) rfl rfl (set_keep (set_keep (set_keep (cell?_set_own z0') (by decide)) (by decide)) (by decide)) (set_keep (set_keep (cell?_set_own (set_keep z1' (by decide))) (by decide)) (by decide)) (set_keep (cell?_set_own (set_keep (set_keep z2' (by decide)) (by decide))) (by decide)) (cell?_set_own (set_keep (set_keep (set_keep z3' (by decide)) (by decide)) (by decide)))) rfl ?_
              unfold Pushed
              rw [HPE.out, if_pos rfl]
              have hpo : pushL l ⟨t, d, next, sig, v⟩ = insL l k ⟨t, d, next, sig, v⟩ := by unfold pushL; rw [HPo.out]
              have hll : (pushL l ⟨t, d, next, sig, v⟩).length = n + 1 := by rw [hpo, insL_length _ _ _ (by rw [HN.out]; exact hk), HN.out]
              refine ⟨some ⟨g, 0, none⟩, cap, by rw [hll], by rw [hll]; exact HGc.out.1, (fun p hp => by injection hp with hp; rw [← hp]; have := (HX8.out.trans (HBs.out.mono HX8.out.size)).size; have := HGc.out.2; simp only; omega), ⟨?_, fun e he => ?_⟩, ?_⟩
              · refine seq5_of fun j u hj => ?_
                rw [hpo] at hj
                have hjc : wc.cell? ⟨g, j, none⟩ = some u := (HOc.out.cellAt j (by have := (List.getElem?_eq_some_iff.1 hj).1; have := HOc.out.1; omega)).trans hj
                exact far (far (far (far (far hjc HG.out.1) HG.out.2) HG.out.2) HG.out.2) HG.out.2
              · rw [hpo] at he
                unfold insL at he
                rcases List.mem_append.1 he with he | he
                · exact HLA.out.each e (List.mem_of_mem_take he)
                · rcases List.mem_cons.1 he with rfl | he
                  · exact ⟨ht, hd, hN, hsi, hv⟩
                  · exact HLA.out.each e (List.mem_of_mem_drop he)
              · have hbs : Below w.heap.size w ws := HX8.out.trans (HBs.out.mono HX8.out.size)
                refine (((((hbs.trans (HBc2.out.mono hbs.size)).setCell ?_ _).setCell ?_ _).setCell ?_ _).setCell ?_ _).setCell ?_ _
                all_goals (have := HHw.out; have := HB8g.out; simp only; omega)
          · have HLt : Hid (ltW (l.getD k default).when ⟨t, d, next⟩) := Lib.hid ((aheadB_iff (l.getD k default) ⟨t, d, next, sig, v⟩).1 (by rw [← HHx.out, ← HAb.out]))
            go_wp2_with fail
            go_roundw
            case rel => exact ⟨k + 1, by omega, by go_num, Lib.hid ⟨HRr.out.trans (HBc.out.mono HRr.out.size), fun j hj => by
              by_cases e : j = k
              · rw [e]; exact HLt.out
              · exact HAll.out j (by omega)⟩⟩
            case measure => simp [intOf]; omega
        · obtain rfl : k = n := by omega
          clear hbw hh
          go_wp2_with fail
          refine wp_region_held_drew (S := fun w' => w'.cell? ⟨H, 0, none⟩ = some (.slice a k c)) (by kernel_rfl) (r0) (fun hHeld => ?_)
          refine wpAnyH_take (i := 0) (v := ?_) (by simp only [List.getElem?_toArray, List.getElem?_cons_succ, List.getElem?_cons_zero]; rfl) (by kernel_rfl) (by kernel_rfl) (by kernel_rfl) (by intro _ _ _ h; exact h) (Or.inl ⟨by rfl, ?_⟩) (by assumption) ?_
          rotate_left
          · intro w hSw; (try dsimp only at hSw); go_simp; try with_reducible rfl
          try simp only [Act.put, List.setIfInBounds_toArray, List.set_cons_zero, List.set_cons_succ]
          refine wpAnyH_take (i := 1) (v := ?_) (by simp only [List.getElem?_toArray, List.getElem?_cons_succ, List.getElem?_cons_zero]; rfl) (by kernel_rfl) (by kernel_rfl) (by kernel_rfl) (by intro _ _ _ h; exact h) (Or.inl ⟨by rfl, ?_⟩) (by assumption) ?_
          rotate_left
          · intro w hSw; (try dsimp only at hSw); go_simp; try with_reducible rfl
          try simp only [Act.put, List.setIfInBounds_toArray, List.set_cons_zero, List.set_cons_succ]
          refine wpAnyH_take (i := 2) (v := ?_) (by simp only [List.getElem?_toArray, List.getElem?_cons_succ, List.getElem?_cons_zero]; rfl) (by kernel_rfl) (by kernel_rfl) (by kernel_rfl) (by intro _ _ _ h; exact h) (Or.inl ⟨by rfl, ?_⟩) (by assumption) ?_
          rotate_left
          · intro w hSw; (try dsimp only at hSw); go_simp; try with_reducible rfl
          try simp only [Act.put, List.setIfInBounds_toArray, List.set_cons_zero, List.set_cons_succ]
          refine wpAnyH_take (i := 3) (v := ?_) (by simp only [List.getElem?_toArray, List.getElem?_cons_succ, List.getElem?_cons_zero]; rfl) (by kernel_rfl) (by kernel_rfl) (by kernel_rfl) (by intro _ _ _ h; exact h) (Or.inl ⟨by rfl, ?_⟩) (by assumption) ?_
          rotate_left
          · intro w hSw; (try dsimp only at hSw); go_simp; try with_reducible rfl
          try simp only [Act.put, List.setIfInBounds_toArray, List.set_cons_zero, List.set_cons_succ]
          refine wpAnyH_take (i := 4) (v := ?_) (by simp only [List.getElem?_toArray, List.getElem?_cons_succ, List.getElem?_cons_zero]; rfl) (by kernel_rfl) (by kernel_rfl) (by kernel_rfl) (by intro _ _ _ h; exact h) (Or.inl ⟨by rfl, ?_⟩) (by assumption) ?_
          rotate_left
          · intro w hSw; (try dsimp only at hSw); go_simp; try with_reducible rfl
          try simp only [Act.put, List.setIfInBounds_toArray, List.set_cons_zero, List.set_cons_succ]
          refine wpAnyH_take (i := 5) (v := ?_) (by simp only [List.getElem?_toArray, List.getElem?_cons_succ, List.getElem?_cons_zero]; rfl) (by kernel_rfl) (by kernel_rfl) (by kernel_rfl) (by intro _ _ _ h; exact h) (Or.inl ⟨by rfl, ?_⟩) (by assumption) ?_
          rotate_left
          · intro w hSw; (try dsimp only at hSw); go_simp; try with_reducible rfl
          try simp only [Act.put, List.setIfInBounds_toArray, List.set_cons_zero, List.set_cons_succ]
          refine wpAnyH_take (i := 6) (v := undef) (by simp only [List.getElem?_toArray, List.getElem?_cons_succ, List.getElem?_cons_zero]; rfl) (by kernel_rfl) (by kernel_rfl) (by kernel_rfl) (by intro _ _ _ h; exact h) (Or.inr ⟨by rfl, rfl⟩) (by assumption) ?_
          try simp only [Act.put, List.setIfInBounds_toArray, List.set_cons_zero, List.set_cons_succ]
          refine wpAnyH_take (i := 7) (v := undef) (by simp only [List.getElem?_toArray, List.getElem?_cons_succ, List.getElem?_cons_zero]; rfl) (by kernel_rfl) (by kernel_rfl) (by kernel_rfl) (by intro _ _ _ h; exact h) (Or.inr ⟨by rfl, rfl⟩) (by assumption) ?_
          try simp only [Act.put, List.setIfInBounds_toArray, List.set_cons_zero, List.set_cons_succ]
          refine wpAnyH_take (i := 8) (v := undef) (by simp only [List.getElem?_toArray, List.getElem?_cons_succ, List.getElem?_cons_zero]; rfl) (by kernel_rfl) (by kernel_rfl) (by kernel_rfl) (by intro _ _ _ h; exact h) (Or.inr ⟨by rfl, rfl⟩) (by assumption) ?_
          try simp only [Act.put, List.setIfInBounds_toArray, List.set_cons_zero, List.set_cons_succ]
          refine wpAnyH_take (i := 9) (v := undef) (by simp only [List.getElem?_toArray, List.getElem?_cons_succ, List.getElem?_cons_zero]; rfl) (by kernel_rfl) (by kernel_rfl) (by kernel_rfl) (by intro _ _ _ h; exact h) (Or.inr ⟨by rfl, rfl⟩) (by assumption) ?_
          try simp only [Act.put, List.setIfInBounds_toArray, List.set_cons_zero, List.set_cons_succ]
          refine wpAnyH_take (i := 10) (v := undef) (by simp only [List.getElem?_toArray, List.getElem?_cons_succ, List.getElem?_cons_zero]; rfl) (by kernel_rfl) (by kernel_rfl) (by kernel_rfl) (by intro _ _ _ h; exact h) (Or.inr ⟨by rfl, rfl⟩) (by assumption) ?_
          try simp only [Act.put, List.setIfInBounds_toArray, List.set_cons_zero, List.set_cons_succ]
          refine wpAnyH_take (i := 11) (v := undef) (by simp only [List.getElem?_toArray, List.getElem?_cons_succ, List.getElem?_cons_zero]; rfl) (by kernel_rfl) (by kernel_rfl) (by kernel_rfl) (by intro _ _ _ h; exact h) (Or.inr ⟨by rfl, rfl⟩) (by assumption) ?_
          try simp only [Act.put, List.setIfInBounds_toArray, List.set_cons_zero, List.set_cons_succ]
          refine wpAnyH_take (i := 12) (v := undef) (by simp only [List.getElem?_toArray, List.getElem?_cons_succ, List.getElem?_cons_zero]; rfl) (by kernel_rfl) (by kernel_rfl) (by kernel_rfl) (by intro _ _ _ h; exact h) (Or.inr ⟨by rfl, rfl⟩) (by assumption) ?_
          try simp only [Act.put, List.setIfInBounds_toArray, List.set_cons_zero, List.set_cons_succ]
          refine wpAnyH_take (i := 13) (v := ?_) (by simp only [List.getElem?_toArray, List.getElem?_cons_succ, List.getElem?_cons_zero]; rfl) (by kernel_rfl) (by kernel_rfl) (by kernel_rfl) (by intro _ _ _ h; exact h) (Or.inl ⟨by rfl, ?_⟩) (by assumption) ?_
          rotate_left
          · intro w hSw; (try dsimp only at hSw); go_simp; try with_reducible rfl
          try simp only [Act.put, List.setIfInBounds_toArray, List.set_cons_zero, List.set_cons_succ]
          refine wpAnyH_done (by kernel_rfl) ?_ _
          have HBs : Hid (Below w8.heap.size w8 wr.drew) := Lib.hid (HRr.out.trans ((Below.refl _ _).drew.mono HRr.out.size))
          have HPo : Hid (posL l ⟨t, d, next⟩ = k) := Lib.hid (posL_of l _ k (by rw [HN.out]; omega) (fun j hj => HAll.out j hj) (fun h => by rw [HN.out] at h; omega))
          have y : wr.drew.cell? ⟨H, 0, none⟩ = some (.slice a k c) ∧ wr.drew.cell? ⟨b8, 0, none⟩ = some (.int .i64 t) ∧ wr.drew.cell? ⟨b8, 1, none⟩ = some (.int .i64 d) ∧ wr.drew.cell? ⟨b8, 2, none⟩ = some (.int .i64 next) ∧ wr.drew.cell? ⟨b8, 3, none⟩ = some (.int .i64 sig) ∧ wr.drew.cell? ⟨b8, 4, none⟩ = some (.int .u64 v) := ⟨r0, x0, x1, x2, x3, x4⟩
          generalize wr.drew = ws at *
          clear r0 x0 x1 x2 x3 x4
          obtain ⟨r0, x0, x1, x2, x3, x4⟩ := y
          have hwb := World.block_lt_of_cell? ws _ x0
          have HKP : Hid (∀ W, Below ws.heap.size ws W → W.cell? ⟨H, 0, none⟩ = some (.slice a k c) ∧ W.cell? ⟨b8, 0, none⟩ = some (.int .i64 t) ∧ W.cell? ⟨b8, 1, none⟩ = some (.int .i64 d) ∧ W.cell? ⟨b8, 2, none⟩ = some (.int .i64 next) ∧ W.cell? ⟨b8, 3, none⟩ = some (.int .i64 sig) ∧ W.cell? ⟨b8, 4, none⟩ = some (.int .u64 v)) := Lib.hid (fun W hW => by
            have cl : ∀ {b j : Nat} {u : Value}, ws.cell? ⟨b, j, none⟩ = some u → W.cell? ⟨b, j, none⟩ = some u := fun h => (hW.cell (p := ⟨_, _, none⟩) (World.block_lt_of_cell? ws _ h)).trans h
            exact ⟨cl r0, cl x0, cl x1, cl x2, cl x3, cl x4⟩)
          have HKO : Hid (∀ W, Below ws.heap.size ws W → W.cell? ⟨b8 + 1, 0, none⟩ = some (.slice none 0 0) ∧ W.frozen? ⟨b8 + 1, 0, none⟩ = false ∧ W.cell? ⟨b8 + 1, 1, none⟩ = some (.int .i64 now) ∧ W.cell? ⟨b8 + 1, 2, none⟩ = some (.int .i64 delta) ∧ W.cell? ⟨b8 + 1, 3, none⟩ = some (.int .i64 (next + 1)) ∧
              W.cell? ⟨H + 1, 0, none⟩ = some (.slice none 0 0) ∧ W.cell? ⟨H + 1, 1, none⟩ = some (.int .i64 0) ∧ W.cell? ⟨H + 1, 2, none⟩ = some (.int .i64 0) ∧ W.cell? ⟨H + 1, 3, none⟩ = some (.int .i64 0) ∧ W.frozen? ⟨H + 1, 0, none⟩ = false ∧ W.frozen? ⟨H + 1, 1, none⟩ = false ∧ W.frozen? ⟨H + 1, 2, none⟩ = false ∧ W.frozen? ⟨H + 1, 3, none⟩ = false) := Lib.hid (fun W hW => by
            have hb : Below w8.heap.size w8 W := HBs.out.trans (hW.mono HBs.out.size)
            have cl : ∀ {b j : Nat} {u : Value}, w8.cell? ⟨b, j, none⟩ = some u → W.cell? ⟨b, j, none⟩ = some u := fun h => (hb.cell (p := ⟨_, _, none⟩) (World.block_lt_of_cell? w8 _ h)).trans h
            have fl : ∀ {b j : Nat} {u : Bool}, b < w8.heap.size → w8.frozen? ⟨b, j, none⟩ = u → W.frozen? ⟨b, j, none⟩ = u := fun hl h => (hb.frozen (p := ⟨_, _, none⟩) hl).trans h
            obtain ⟨o0, o1, o2, o3, g0⟩ := HO.out
            obtain ⟨z0, z1, z2, z3, f0, f1, f2, f3⟩ := HZ8.out
            have hz := World.block_lt_of_cell? w8 _ z0
            exact ⟨cl o0, fl Hb8l.out g0, cl o1, cl o2, cl o3, cl z0, cl z1, cl z2, cl z3, fl hz f0, fl hz f1, fl hz f2, fl hz f3⟩)
          have HLW : Hid (∀ W, Below ws.heap.size ws W → LAt W a l) := Lib.hid (fun W hW => HLA.out.below (HX8.out.trans ((HBs.out.trans (hW.mono HBs.out.size)).mono HX8.out.size)) (Nat.le_refl _))
          have hkc : k ≤ c := Nat.le_trans hk HC.out
          obtain ⟨oa2, hoa2⟩ : ∃ o, (if c = k then a else Option.map (fun x => x.add (k * 5)) a) = o := ⟨_, rfl⟩
          have HOa2 := Lib.hid hoa2
          clear hoa2
          clear hwb
          go_wp2_with fail
          refine wp_region_K (S := fun w' => w'.cell? ⟨H, 0, none⟩ = some (.slice a k c) ∧ w'.cell? ⟨b8, 0, none⟩ = some (.int .i64 t) ∧ w'.cell? ⟨b8, 1, none⟩ = some (.int .i64 d) ∧ w'.cell? ⟨b8, 2, none⟩ = some (.int .i64 next) ∧ w'.cell? ⟨b8, 3, none⟩ = some (.int .i64 sig) ∧ w'.cell? ⟨b8, 4, none⟩ = some (.int .u64 v)) 15 (by kernel_rfl) (HKP.out _ (Below.refl _ _).drew) (fun hHeld => ?_)
          refine wpAnyK_take (i := 1) (v := ?_) (by simp only [List.getElem?_toArray, List.getElem?_cons_succ, List.getElem?_cons_zero]; rfl) (by kernel_rfl) (by kernel_rfl) (by kernel_rfl) (by kernel_rfl) (by intro _ _ _ h; exact h) (Or.inl ⟨by rfl, ?_⟩) (by assumption) ?_
          rotate_left
          · intro w hSw; (try dsimp only at hSw); go_simp; try with_reducible rfl
          try simp only [Act.put, List.setIfInBounds_toArray, List.set_cons_zero, List.set_cons_succ]
          refine wpAnyK_take (i := 2) (v := ?_) (by simp only [List.getElem?_toArray, List.getElem?_cons_succ, List.getElem?_cons_zero]; rfl) (by kernel_rfl) (by kernel_rfl) (by kernel_rfl) (by kernel_rfl) (by intro _ _ _ h; exact h) (Or.inl ⟨by rfl, ?_⟩) (by assumption) ?_
          rotate_left
          · intro w hSw; (try dsimp only at hSw); go_simp; try with_reducible rfl
          try simp only [Act.put, List.setIfInBounds_toArray, List.set_cons_zero, List.set_cons_succ]
          refine wpAnyK_take (i := 3) (v := ?_) (by simp only [List.getElem?_toArray, List.getElem?_cons_succ, List.getElem?_cons_zero]; rfl) (by kernel_rfl) (by kernel_rfl) (by kernel_rfl) (by kernel_rfl) (by intro _ _ _ h; exact h) (Or.inl ⟨by rfl, ?_⟩) (by assumption) ?_
          rotate_left
          · intro w hSw; (try dsimp only at hSw); go_simp; try with_reducible rfl
          try simp only [Act.put, List.setIfInBounds_toArray, List.set_cons_zero, List.set_cons_succ]
          refine wpAnyK_take (i := 4) (v := ?_) (by simp only [List.getElem?_toArray, List.getElem?_cons_succ, List.getElem?_cons_zero]; rfl) (by kernel_rfl) (by kernel_rfl) (by kernel_rfl) (by kernel_rfl) (by intro _ _ _ h; exact h) (Or.inl ⟨by rfl, ?_⟩) (by assumption) ?_
          rotate_left
          · intro w hSw; (try dsimp only at hSw); go_simp; first | with_reducible rfl | rw [if_pos (by omega)]
          try simp only [Act.put, List.setIfInBounds_toArray, List.set_cons_zero, List.set_cons_succ]
          refine wpAnyK_take (i := 6) (v := ?_) (by simp only [List.getElem?_toArray, List.getElem?_cons_succ, List.getElem?_cons_zero]; rfl) (by kernel_rfl) (by kernel_rfl) (by kernel_rfl) (by kernel_rfl) (by intro _ _ _ h; exact h) (Or.inl ⟨by rfl, ?_⟩) (by assumption) ?_
          rotate_left
          · intro w hSw; (try dsimp only at hSw); go_simp; try with_reducible rfl
          try simp only [Act.put, List.setIfInBounds_toArray, List.set_cons_zero, List.set_cons_succ]
          refine wpAnyK_take (i := 9) (v := ?_) (by simp only [List.getElem?_toArray, List.getElem?_cons_succ, List.getElem?_cons_zero]; rfl) (by kernel_rfl) (by kernel_rfl) (by kernel_rfl) (by kernel_rfl) (by intro _ _ _ h; exact h) (Or.inl ⟨by rfl, ?_⟩) (by assumption) ?_
          rotate_left
          · intro w hSw; (try dsimp only at hSw); go_simp; try with_reducible rfl
          try simp only [Act.put, List.setIfInBounds_toArray, List.set_cons_zero, List.set_cons_succ]
          refine wpAnyK_take (i := 10) (v := ?_) (by simp only [List.getElem?_toArray, List.getElem?_cons_succ, List.getElem?_cons_zero]; rfl) (by kernel_rfl) (by kernel_rfl) (by kernel_rfl) (by kernel_rfl) (by intro _ _ _ h; exact h) (Or.inl ⟨by rfl, ?_⟩) (by assumption) ?_
          rotate_left
          · intro w hSw; (try dsimp only at hSw); go_simp; try with_reducible rfl
          try simp only [Act.put, List.setIfInBounds_toArray, List.set_cons_zero, List.set_cons_succ]
          refine wpAnyK_take (i := 11) (v := ?_) (by simp only [List.getElem?_toArray, List.getElem?_cons_succ, List.getElem?_cons_zero]; rfl) (by kernel_rfl) (by kernel_rfl) (by kernel_rfl) (by kernel_rfl) (by intro _ _ _ h; exact h) (Or.inl ⟨by rfl, ?_⟩) (by assumption) ?_
          rotate_left
          · intro w hSw; (try dsimp only at hSw); go_simp; try with_reducible rfl
          try simp only [Act.put, List.setIfInBounds_toArray, List.set_cons_zero, List.set_cons_succ]
          refine wpAnyK_take (i := 12) (v := ?_) (by simp only [List.getElem?_toArray, List.getElem?_cons_succ, List.getElem?_cons_zero]; rfl) (by kernel_rfl) (by kernel_rfl) (by kernel_rfl) (by kernel_rfl) (by intro _ _ _ h; exact h) (Or.inl ⟨by rfl, ?_⟩) (by assumption) ?_
          rotate_left
          · intro w hSw; (try dsimp only at hSw); go_simp; rw [HOa2.out]
          try simp only [Act.put, List.setIfInBounds_toArray, List.set_cons_zero, List.set_cons_succ]
          refine wpAnyK_ready (rs := [0, 7]) (by kernel_rfl) (by simp) ?_
          refine AllReadyK.cons (o := _) (by simp only [List.getElem?_toArray, List.getElem?_cons_succ, List.getElem?_cons_zero]; rfl) (fun K hK => ?_) (AllReadyK.cons (o := _) (by simp only [List.getElem?_toArray, List.getElem?_cons_succ, List.getElem?_cons_zero]; rfl) (fun K hK => ?_) AllReadyK.nil)
          · go_simp

            refine hK.out _ _ (fun _ => by exact HKP.out _ ((Below.refl _ _).drew.alloc (Nat.le_refl _) _)) (fun hH => ?_)
            have hHeld := hH (by decide)
            clear hK K hH
            try simp only [Act.put, List.setIfInBounds_toArray, List.set_cons_zero, List.set_cons_succ]
            refine wpAnyK_ready (rs := [5, 7]) (by kernel_rfl) (by simp) ?_
            refine AllReadyK.cons (o := _) (by simp only [List.getElem?_toArray, List.getElem?_cons_succ, List.getElem?_cons_zero]; rfl) (fun K hK => ?_) (AllReadyK.cons (o := _) (by simp only [List.getElem?_toArray, List.getElem?_cons_succ, List.getElem?_cons_zero]; rfl) (fun K hK => ?_) AllReadyK.nil)
            · rw [if_pos (by rfl)]
              have hlp : LAt (ws.drew.alloc (Obj.cells #[] 35)) a l := HLW.out _ ((Below.refl _ _).drew.alloc (Nat.le_refl _) _)
              have hrow : (ws.drew.alloc (Obj.cells #[] 35)).ownsRow ws.heap.size 35 5 (.slice (some ⟨ws.heap.size, 0, none⟩) 0 0) 0 [] := (World.ownsRow_lit (base := ws.heap.size) (size := 5) ws.drew #[] 0 (Nat.le_refl _) (Nat.zero_le _) rfl)
              refine wp_append5 (w := (ws.drew.alloc (Obj.cells #[] 35))) (.tmp 75) (.tmp 79) rfl ws.heap.size (.slice (some ⟨ws.heap.size, 0, none⟩) 0 0) 0 [] rfl hrow _ k c ((l.take k).flatMap EvV.cells) rfl (by rw [flat5_length, List.length_take, HN.out, Nat.min_eq_left hk, Nat.mul_comm]) (hlp.front_none k (by rw [HN.out]; exact hk)) (hlp.front k (by rw [HN.out]; exact hk)) (flat5_one _) (by omega) (by simp <;> omega) ?_
              clear hlp
              intro va wa ho hg
              have HOa : Hid (wa.ownsRow ws.heap.size 35 5 va k ((l.take k).flatMap EvV.cells)) := Lib.hid (by simpa using ho)
              have HBa : Hid (Below ws.heap.size ws wa) := Lib.hid (((Below.refl _ _).drew.alloc (Nat.le_refl _) _).grown hg (by simp <;> omega) (fun k e => (hrow.lt k e).1))
              clear ho hg hrow
              refine hK.out _ _ (fun _ => by exact HKP.out _ HBa.out) (fun hH => ?_)
              have hHeld := hH (by decide)
              clear hK K hH
              try simp only [Act.put, List.setIfInBounds_toArray, List.set_cons_zero, List.set_cons_succ]
              refine wpAnyK_ready (rs := [7]) (by kernel_rfl) (by simp) ?_
              refine AllReadyK.cons (o := _) (by simp only [List.getElem?_toArray, List.getElem?_cons_succ, List.getElem?_cons_zero]; rfl) (fun K hK => ?_) AllReadyK.nil
              go_simp

              refine hK.out _ _ (fun _ => by exact HKP.out _ (HBa.out.alloc HBa.out.size _)) (fun hH => ?_)
              have hHeld := hH (by decide)
              clear hK K hH
              try simp only [Act.put, List.setIfInBounds_toArray, List.set_cons_zero, List.set_cons_succ]
              refine wpAnyK_ready (rs := [8]) (by kernel_rfl) (by simp) ?_
              refine AllReadyK.cons (o := _) (by simp only [List.getElem?_toArray, List.getElem?_cons_succ, List.getElem?_cons_zero]; rfl) (fun K hK => ?_) AllReadyK.nil
              rw [if_pos (by rfl)]
              refine wp_append5 (w := (wa.alloc (Obj.cells #[Value.int .i64 t, Value.int .i64 d, Value.int .i64 next, Value.int .i64 sig, Value.int .u64 v] 35))) (.tmp 80) (.tmp 82) rfl ws.heap.size va k _ rfl (HOa.out.alloc _) (some ⟨wa.heap.size, 0, none⟩) 1 1 (EvV.cells ⟨t, d, next, sig, v⟩) rfl rfl (by intro h; cases h) (ev_cells_at (alloc_top wa _)) (cells_one _) (by omega) (by have := HBa.out.size; simp; omega) ?_
              intro vb wb ho hg
              have HOb := Lib.hid ho
              have HBb : Hid (Below ws.heap.size ws wb) := Lib.hid ((HBa.out.alloc HBa.out.size _).grown hg (by have := HBa.out.size; simp; omega) (fun k e => (HOa.out.lt k e).1))
              clear ho hg
              refine hK.out _ _ (fun _ => by exact HKP.out _ HBb.out) (fun hH => ?_)
              have hHeld := hH (by decide)
              clear hK K hH
              try simp only [Act.put, List.setIfInBounds_toArray, List.set_cons_zero, List.set_cons_succ]
              refine wpAnyK_ready (rs := [13]) (by kernel_rfl) (by simp) ?_
              refine AllReadyK.cons (o := _) (by simp only [List.getElem?_toArray, List.getElem?_cons_succ, List.getElem?_cons_zero]; rfl) (fun K hK => ?_) AllReadyK.nil
              rw [if_pos (by rfl)]
              refine wp_append5 (w := wb) (.tmp 83) (.tmp 87) rfl ws.heap.size vb (k + 1) _ rfl HOb.out oa2 0 (c - k) [] rfl rfl (fun _ => rfl) (fun ad had j u hj => by simp at hj) (by intro u hu; cases hu) (by omega) HBb.out.size ?_
              intro vc wc ho hg
              have HBc2 : Hid (Below ws.heap.size ws wc) := Lib.hid (HBb.out.grown hg HBb.out.size (fun k e => (HOb.out.lt k e).1))
              have hoc : wc.ownsRow ws.heap.size 35 5 vc (k + 1) ((insL l k ⟨t, d, next, sig, v⟩).flatMap EvV.cells) := by
                rw [flat_ins l k ⟨t, d, next, sig, v⟩ (by rw [HN.out]; exact hk), ← flat_take l k (by rw [HN.out]; exact hk), ← flat_drop l k (by rw [HN.out]; exact hk)]
                rw [List.drop_of_length_le (by rw [HN.out]; exact Nat.le_refl _)]; exact ho
              clear ho hg
              obtain ⟨g, cap, rfl, hgcap, hgb⟩ := own_form hoc (Nat.succ_pos _)
              have HGc := Lib.hid (And.intro hgcap hgb)
              clear hgcap hgb
              have HOc := Lib.hid hoc
              clear hoc
              have o0 : wc.cell? ⟨b8 + 1, 0, none⟩ = some (.slice none 0 0) := (HKO.out _ HBc2.out).1
              have g0 : wc.frozen? ⟨b8 + 1, 0, none⟩ = false := (HKO.out _ HBc2.out).2.1
              refine hK.out _ _ (fun _ => by exact HKP.out _ HBc2.out) (fun hH => ?_)
              have hHeld := hH (by decide)
              clear hK K hH
              try simp only [Act.put, List.setIfInBounds_toArray, List.set_cons_zero, List.set_cons_succ]
              refine wpAnyK_take (i := 14) (v := ?_) (by simp only [List.getElem?_toArray, List.getElem?_cons_succ, List.getElem?_cons_zero]; rfl) (by kernel_rfl) (by kernel_rfl) (by kernel_rfl) (by kernel_rfl) (by intro _ _ _ h; exact h) (Or.inl ⟨by rfl, ?_⟩) (by assumption) ?_
              rotate_left
              · intro w hSw; (try dsimp only at hSw); go_simp; try with_reducible rfl
              try simp only [Act.put, List.setIfInBounds_toArray, List.set_cons_zero, List.set_cons_succ]
              refine wpAnyK_ready (rs := [15]) (by kernel_rfl) (by simp) ?_
              refine AllReadyK.cons (o := _) (by simp only [List.getElem?_toArray, List.getElem?_cons_succ, List.getElem?_cons_zero]; rfl) (fun K hK => ?_) AllReadyK.nil
              go_simp

              refine hK.out _ _ (fun h => absurd rfl h) (fun _ => ?_)
              clear hK K
              try simp only [Act.put, List.setIfInBounds_toArray, List.set_cons_zero, List.set_cons_succ]
              refine wpAnyK_done (by kernel_rfl) ?_ _
              clear o0 g0
              obtain ⟨o0, g0, o1, o2, o3, z0, z1, z2, z3, f0, f1, f2, f3⟩ := HKO.out _ HBc2.out
              have hne1 : ¬ (H + 1 = b8 + 1) := by have := HB8g.out; omega
              have hne2 : ¬ (b8 + 1 = H + 1) := by have := HB8g.out; omega
              have Hb8s := World.block_lt_of_cell? ws _ (HKO.out _ (Below.refl _ _)).1
              have hg1 : g ≠ b8 + 1 := by have := HGc.out.2; simp only at Hb8s; omega
              have hg2 : g ≠ H + 1 := by have := HGc.out.2; have := HB8g.out; simp only at Hb8s; omega
              have HG := Lib.hid (And.intro hg1 hg2)
              clear hg1 hg2 Hb8s
              go_wp2_with fail
              have z0' := far (c := H + 1) (j := 0) (b := b8 + 1) (i := 0) (u := Value.slice (some ⟨g, 0, none⟩) (k + 1) cap) z0 hne1
              have z1' := far (c := H + 1) (j := 1) (b := b8 + 1) (i := 0) (u := Value.slice (some ⟨g, 0, none⟩) (k + 1) cap) z1 hne1
              have z2' := far (c := H + 1) (j := 2) (b := b8 + 1) (i := 0) (u := Value.slice (some ⟨g, 0, none⟩) (k + 1) cap) z2 hne1
              have z3' := far (c := H + 1) (j := 3) (b := b8 + 1) (i := 0) (u := Value.slice (some ⟨g, 0, none⟩) (k + 1) cap) z3 hne1
              refine bodyPost_ret (results_push12 (b := H + 1) rfl rfl (set_keep (set_keep (set_keep (cell?_set_own z0') (by decide)) (by decide)) (by decide)) (set_keep (set_keep (cell?_set_own (set_keep z1' (by decide))) (by decide)) (by decide)) (set_keep (cell?_set_own (set_keep (set_keep z2' (by decide)) (by decide))) (by decide)) (cell?_set_own (set_keep (set_keep (set_keep z3' (by decide)) (by decide)) (by decide)))) rfl ?_
              unfold Pushed
              rw [HPE.out, if_pos rfl]
              have hpo : pushL l ⟨t, d, next, sig, v⟩ = insL l k ⟨t, d, next, sig, v⟩ := by unfold pushL; rw [HPo.out]
              have hll : (pushL l ⟨t, d, next, sig, v⟩).length = k + 1 := by rw [hpo, insL_length _ _ _ (by rw [HN.out]; exact hk), HN.out]
              refine ⟨some ⟨g, 0, none⟩, cap, by rw [hll], by rw [hll]; exact HGc.out.1, (fun p hp => by injection hp with hp; rw [← hp]; have := (HX8.out.trans (HBs.out.mono HX8.out.size)).size; have := HGc.out.2; simp only; omega), ⟨?_, fun e he => ?_⟩, ?_⟩
              · refine seq5_of fun j u hj => ?_
                rw [hpo] at hj
                have hjc : wc.cell? ⟨g, j, none⟩ = some u := (HOc.out.cellAt j (by have := (List.getElem?_eq_some_iff.1 hj).1; have := HOc.out.1; omega)).trans hj
                exact far (far (far (far (far hjc HG.out.1) HG.out.2) HG.out.2) HG.out.2) HG.out.2
              · rw [hpo] at he
                unfold insL at he
                rcases List.mem_append.1 he with he | he
                · exact HLA.out.each e (List.mem_of_mem_take he)
                · rcases List.mem_cons.1 he with rfl | he
                  · exact ⟨ht, hd, hN, hsi, hv⟩
                  · exact HLA.out.each e (List.mem_of_mem_drop he)
              · have hbs : Below w.heap.size w ws := HX8.out.trans (HBs.out.mono HX8.out.size)
                refine (((((hbs.trans (HBc2.out.mono hbs.size)).setCell ?_ _).setCell ?_ _).setCell ?_ _).setCell ?_ _).setCell ?_ _
                all_goals (have := HHw.out; have := HB8g.out; simp only; omega)
            · go_simp

              refine hK.out _ _ (fun _ => by exact HKP.out _ (((Below.refl _ _).drew.alloc (Nat.le_refl _) _).alloc (by simp) _)) (fun hH => ?_)
              have hHeld := hH (by decide)
              clear hK K hH
              try simp only [Act.put, List.setIfInBounds_toArray, List.set_cons_zero, List.set_cons_succ]
              refine wpAnyK_ready (rs := [5]) (by kernel_rfl) (by simp) ?_
              refine AllReadyK.cons (o := _) (by simp only [List.getElem?_toArray, List.getElem?_cons_succ, List.getElem?_cons_zero]; rfl) (fun K hK => ?_) AllReadyK.nil
              rw [if_pos (by rfl)]
              have hxp : ((ws.drew.alloc (Obj.cells #[] 35)).alloc (Obj.cells #[Value.int .i64 t, Value.int .i64 d, Value.int .i64 next, Value.int .i64 sig, Value.int .u64 v] 35)).heap[ws.heap.size + 1]? = some (.cells (EvV.cells ⟨t, d, next, sig, v⟩).toArray 35 (0, 0)) := by
                have e1 : (ws.drew.alloc (Obj.cells #[] 35)).heap.size = ws.heap.size + 1 := by simp
                rw [← e1]; exact alloc_top _ _
              have hlp : LAt ((ws.drew.alloc (Obj.cells #[] 35)).alloc (Obj.cells #[Value.int .i64 t, Value.int .i64 d, Value.int .i64 next, Value.int .i64 sig, Value.int .u64 v] 35)) a l := HLW.out _ (((Below.refl _ _).drew.alloc (Nat.le_refl _) _).alloc (by simp) _)
              have hrow : ((ws.drew.alloc (Obj.cells #[] 35)).alloc (Obj.cells #[Value.int .i64 t, Value.int .i64 d, Value.int .i64 next, Value.int .i64 sig, Value.int .u64 v] 35)).ownsRow ws.heap.size 35 5 (.slice (some ⟨ws.heap.size, 0, none⟩) 0 0) 0 [] := ((World.ownsRow_lit (base := ws.heap.size) (size := 5) ws.drew #[] 0 (Nat.le_refl _) (Nat.zero_le _) rfl).alloc _)
              refine wp_append5 (w := ((ws.drew.alloc (Obj.cells #[] 35)).alloc (Obj.cells #[Value.int .i64 t, Value.int .i64 d, Value.int .i64 next, Value.int .i64 sig, Value.int .u64 v] 35))) (.tmp 75) (.tmp 79) rfl ws.heap.size (.slice (some ⟨ws.heap.size, 0, none⟩) 0 0) 0 [] rfl hrow _ k c ((l.take k).flatMap EvV.cells) rfl (by rw [flat5_length, List.length_take, HN.out, Nat.min_eq_left hk, Nat.mul_comm]) (hlp.front_none k (by rw [HN.out]; exact hk)) (hlp.front k (by rw [HN.out]; exact hk)) (flat5_one _) (by omega) (by simp <;> omega) ?_
              clear hlp
              intro va wa ho hg
              have hxa := (hg.block (ws.heap.size + 1) (by simp) (by simp [Value.ownBlock])).trans hxp
              clear hxp
              have HOa : Hid (wa.ownsRow ws.heap.size 35 5 va k ((l.take k).flatMap EvV.cells)) := Lib.hid (by simpa using ho)
              have HBa : Hid (Below ws.heap.size ws wa) := Lib.hid ((((Below.refl _ _).drew.alloc (Nat.le_refl _) _).alloc (by simp) _).grown hg (by simp <;> omega) (fun k e => (hrow.lt k e).1))
              clear ho hg hrow
              refine hK.out _ _ (fun _ => by exact HKP.out _ HBa.out) (fun hH => ?_)
              have hHeld := hH (by decide)
              clear hK K hH
              try simp only [Act.put, List.setIfInBounds_toArray, List.set_cons_zero, List.set_cons_succ]
              refine wpAnyK_ready (rs := [8]) (by kernel_rfl) (by simp) ?_
              refine AllReadyK.cons (o := _) (by simp only [List.getElem?_toArray, List.getElem?_cons_succ, List.getElem?_cons_zero]; rfl) (fun K hK => ?_) AllReadyK.nil
              rw [if_pos (by rfl)]
              refine wp_append5 (w := wa) (.tmp 80) (.tmp 82) rfl ws.heap.size va k _ rfl HOa.out (some ⟨(ws.heap.size + 1), 0, none⟩) 1 1 (EvV.cells ⟨t, d, next, sig, v⟩) rfl rfl (by intro h; cases h) (ev_cells_at hxa) (cells_one _) (by omega) HBa.out.size ?_
              intro vb wb ho hg
              have HOb := Lib.hid ho
              have HBb : Hid (Below ws.heap.size ws wb) := Lib.hid (HBa.out.grown hg HBa.out.size (fun k e => (HOa.out.lt k e).1))
              clear ho hg
              refine hK.out _ _ (fun _ => by exact HKP.out _ HBb.out) (fun hH => ?_)
              have hHeld := hH (by decide)
              clear hK K hH
              try simp only [Act.put, List.setIfInBounds_toArray, List.set_cons_zero, List.set_cons_succ]
              refine wpAnyK_ready (rs := [13]) (by kernel_rfl) (by simp) ?_
              refine AllReadyK.cons (o := _) (by simp only [List.getElem?_toArray, List.getElem?_cons_succ, List.getElem?_cons_zero]; rfl) (fun K hK => ?_) AllReadyK.nil
              rw [if_pos (by rfl)]
              refine wp_append5 (w := wb) (.tmp 83) (.tmp 87) rfl ws.heap.size vb (k + 1) _ rfl HOb.out oa2 0 (c - k) [] rfl rfl (fun _ => rfl) (fun ad had j u hj => by simp at hj) (by intro u hu; cases hu) (by omega) HBb.out.size ?_
              intro vc wc ho hg
              have HBc2 : Hid (Below ws.heap.size ws wc) := Lib.hid (HBb.out.grown hg HBb.out.size (fun k e => (HOb.out.lt k e).1))
              have hoc : wc.ownsRow ws.heap.size 35 5 vc (k + 1) ((insL l k ⟨t, d, next, sig, v⟩).flatMap EvV.cells) := by
                rw [flat_ins l k ⟨t, d, next, sig, v⟩ (by rw [HN.out]; exact hk), ← flat_take l k (by rw [HN.out]; exact hk), ← flat_drop l k (by rw [HN.out]; exact hk)]
                rw [List.drop_of_length_le (by rw [HN.out]; exact Nat.le_refl _)]; exact ho
              clear ho hg
              obtain ⟨g, cap, rfl, hgcap, hgb⟩ := own_form hoc (Nat.succ_pos _)
              have HGc := Lib.hid (And.intro hgcap hgb)
              clear hgcap hgb
              have HOc := Lib.hid hoc
              clear hoc
              have o0 : wc.cell? ⟨b8 + 1, 0, none⟩ = some (.slice none 0 0) := (HKO.out _ HBc2.out).1
              have g0 : wc.frozen? ⟨b8 + 1, 0, none⟩ = false := (HKO.out _ HBc2.out).2.1
              refine hK.out _ _ (fun _ => by exact HKP.out _ HBc2.out) (fun hH => ?_)
              have hHeld := hH (by decide)
              clear hK K hH
              try simp only [Act.put, List.setIfInBounds_toArray, List.set_cons_zero, List.set_cons_succ]
              refine wpAnyK_take (i := 14) (v := ?_) (by simp only [List.getElem?_toArray, List.getElem?_cons_succ, List.getElem?_cons_zero]; rfl) (by kernel_rfl) (by kernel_rfl) (by kernel_rfl) (by kernel_rfl) (by intro _ _ _ h; exact h) (Or.inl ⟨by rfl, ?_⟩) (by assumption) ?_
              rotate_left
              · intro w hSw; (try dsimp only at hSw); go_simp; try with_reducible rfl
              try simp only [Act.put, List.setIfInBounds_toArray, List.set_cons_zero, List.set_cons_succ]
              refine wpAnyK_ready (rs := [15]) (by kernel_rfl) (by simp) ?_
              refine AllReadyK.cons (o := _) (by simp only [List.getElem?_toArray, List.getElem?_cons_succ, List.getElem?_cons_zero]; rfl) (fun K hK => ?_) AllReadyK.nil
              go_simp

              refine hK.out _ _ (fun h => absurd rfl h) (fun _ => ?_)
              clear hK K
              try simp only [Act.put, List.setIfInBounds_toArray, List.set_cons_zero, List.set_cons_succ]
              refine wpAnyK_done (by kernel_rfl) ?_ _
              clear o0 g0
              obtain ⟨o0, g0, o1, o2, o3, z0, z1, z2, z3, f0, f1, f2, f3⟩ := HKO.out _ HBc2.out
              have hne1 : ¬ (H + 1 = b8 + 1) := by have := HB8g.out; omega
              have hne2 : ¬ (b8 + 1 = H + 1) := by have := HB8g.out; omega
              have Hb8s := World.block_lt_of_cell? ws _ (HKO.out _ (Below.refl _ _)).1
              have hg1 : g ≠ b8 + 1 := by have := HGc.out.2; simp only at Hb8s; omega
              have hg2 : g ≠ H + 1 := by have := HGc.out.2; have := HB8g.out; simp only at Hb8s; omega
              have HG := Lib.hid (And.intro hg1 hg2)
              clear hg1 hg2 Hb8s
              go_wp2_with fail
              have z0' := far (c := H + 1) (j := 0) (b := b8 + 1) (i := 0) (u := Value.slice (some ⟨g, 0, none⟩) (k + 1) cap) z0 hne1
              have z1' := far (c := H + 1) (j := 1) (b := b8 + 1) (i := 0) (u := Value.slice (some ⟨g, 0, none⟩) (k + 1) cap) z1 hne1
              have z2' := far (c := H + 1) (j := 2) (b := b8 + 1) (i := 0) (u := Value.slice (some ⟨g, 0, none⟩) (k + 1) cap) z2 hne1
              have z3' := far (c := H + 1) (j := 3) (b := b8 + 1) (i := 0) (u := Value.slice (some ⟨g, 0, none⟩) (k + 1) cap) z3 hne1
              refine bodyPost_ret (results_push12 (b := H + 1) rfl rfl (set_keep (set_keep (set_keep (cell?_set_own z0') (by decide)) (by decide)) (by decide)) (set_keep (set_keep (cell?_set_own (set_keep z1' (by decide))) (by decide)) (by decide)) (set_keep (cell?_set_own (set_keep (set_keep z2' (by decide)) (by decide))) (by decide)) (cell?_set_own (set_keep (set_keep (set_keep z3' (by decide)) (by decide)) (by decide)))) rfl ?_
              unfold Pushed
              rw [HPE.out, if_pos rfl]
              have hpo : pushL l ⟨t, d, next, sig, v⟩ = insL l k ⟨t, d, next, sig, v⟩ := by unfold pushL; rw [HPo.out]
              have hll : (pushL l ⟨t, d, next, sig, v⟩).length = k + 1 := by rw [hpo, insL_length _ _ _ (by rw [HN.out]; exact hk), HN.out]
              refine ⟨some ⟨g, 0, none⟩, cap, by rw [hll], by rw [hll]; exact HGc.out.1, (fun p hp => by injection hp with hp; rw [← hp]; have := (HX8.out.trans (HBs.out.mono HX8.out.size)).size; have := HGc.out.2; simp only; omega), ⟨?_, fun e he => ?_⟩, ?_⟩
              · refine seq5_of fun j u hj => ?_
                rw [hpo] at hj
                have hjc : wc.cell? ⟨g, j, none⟩ = some u := (HOc.out.cellAt j (by have := (List.getElem?_eq_some_iff.1 hj).1; have := HOc.out.1; omega)).trans hj
                exact far (far (far (far (far hjc HG.out.1) HG.out.2) HG.out.2) HG.out.2) HG.out.2
              · rw [hpo] at he
                unfold insL at he
                rcases List.mem_append.1 he with he | he
                · exact HLA.out.each e (List.mem_of_mem_take he)
                · rcases List.mem_cons.1 he with rfl | he
                  · exact ⟨ht, hd, hN, hsi, hv⟩
                  · exact HLA.out.each e (List.mem_of_mem_drop he)
              · have hbs : Below w.heap.size w ws := HX8.out.trans (HBs.out.mono HX8.out.size)
                refine (((((hbs.trans (HBc2.out.mono hbs.size)).setCell ?_ _).setCell ?_ _).setCell ?_ _).setCell ?_ _).setCell ?_ _
                all_goals (have := HHw.out; have := HB8g.out; simp only; omega)
          · go_simp

            refine hK.out _ _ (fun _ => by exact HKP.out _ ((Below.refl _ _).drew.alloc (Nat.le_refl _) _)) (fun hH => ?_)
            have hHeld := hH (by decide)
            clear hK K hH
            try simp only [Act.put, List.setIfInBounds_toArray, List.set_cons_zero, List.set_cons_succ]
            refine wpAnyK_ready (rs := [0]) (by kernel_rfl) (by simp) ?_
            refine AllReadyK.cons (o := _) (by simp only [List.getElem?_toArray, List.getElem?_cons_succ, List.getElem?_cons_zero]; rfl) (fun K hK => ?_) AllReadyK.nil
            go_simp

            refine hK.out _ _ (fun _ => by exact HKP.out _ (((Below.refl _ _).drew.alloc (Nat.le_refl _) _).alloc (by simp) _)) (fun hH => ?_)
            have hHeld := hH (by decide)
            clear hK K hH
            try simp only [Act.put, List.setIfInBounds_toArray, List.set_cons_zero, List.set_cons_succ]
            refine wpAnyK_ready (rs := [5]) (by kernel_rfl) (by simp) ?_
            refine AllReadyK.cons (o := _) (by simp only [List.getElem?_toArray, List.getElem?_cons_succ, List.getElem?_cons_zero]; rfl) (fun K hK => ?_) AllReadyK.nil
            rw [if_pos (by rfl)]
            have hxp : ((ws.drew.alloc (Obj.cells #[Value.int .i64 t, Value.int .i64 d, Value.int .i64 next, Value.int .i64 sig, Value.int .u64 v] 35)).alloc (Obj.cells #[] 35)).heap[ws.heap.size]? = some (.cells (EvV.cells ⟨t, d, next, sig, v⟩).toArray 35 (0, 0)) := (Below.heap_alloc _ _ _ (by simp)).trans (alloc_top ws.drew _)
            have hlp : LAt ((ws.drew.alloc (Obj.cells #[Value.int .i64 t, Value.int .i64 d, Value.int .i64 next, Value.int .i64 sig, Value.int .u64 v] 35)).alloc (Obj.cells #[] 35)) a l := HLW.out _ (((Below.refl _ _).drew.alloc (Nat.le_refl _) _).alloc (by simp) _)
            have hrow : ((ws.drew.alloc (Obj.cells #[Value.int .i64 t, Value.int .i64 d, Value.int .i64 next, Value.int .i64 sig, Value.int .u64 v] 35)).alloc (Obj.cells #[] 35)).ownsRow ws.heap.size 35 5 (.slice (some ⟨ws.heap.size + 1, 0, none⟩) 0 0) 0 [] := (by rw [show ws.heap.size + 1 = (ws.drew.alloc (Obj.cells #[Value.int .i64 t, Value.int .i64 d, Value.int .i64 next, Value.int .i64 sig, Value.int .u64 v] 35)).heap.size by simp]; exact World.ownsRow_lit (base := ws.heap.size) (size := 5) (ws.drew.alloc (Obj.cells #[Value.int .i64 t, Value.int .i64 d, Value.int .i64 next, Value.int .i64 sig, Value.int .u64 v] 35)) #[] 0 (by simp) (Nat.zero_le _) rfl)
            refine wp_append5 (w := ((ws.drew.alloc (Obj.cells #[Value.int .i64 t, Value.int .i64 d, Value.int .i64 next, Value.int .i64 sig, Value.int .u64 v] 35)).alloc (Obj.cells #[] 35))) (.tmp 75) (.tmp 79) rfl ws.heap.size (.slice (some ⟨ws.heap.size + 1, 0, none⟩) 0 0) 0 [] rfl hrow _ k c ((l.take k).flatMap EvV.cells) rfl (by rw [flat5_length, List.length_take, HN.out, Nat.min_eq_left hk, Nat.mul_comm]) (hlp.front_none k (by rw [HN.out]; exact hk)) (hlp.front k (by rw [HN.out]; exact hk)) (flat5_one _) (by omega) (by simp <;> omega) ?_
            clear hlp
            intro va wa ho hg
            have hxa := (hg.block ws.heap.size (by simp <;> omega) (by simp [Value.ownBlock])).trans hxp
            clear hxp
            have HOa : Hid (wa.ownsRow ws.heap.size 35 5 va k ((l.take k).flatMap EvV.cells)) := Lib.hid (by simpa using ho)
            have HBa : Hid (Below ws.heap.size ws wa) := Lib.hid ((((Below.refl _ _).drew.alloc (Nat.le_refl _) _).alloc (by simp) _).grown hg (by simp <;> omega) (fun k e => (hrow.lt k e).1))
            clear ho hg hrow
            refine hK.out _ _ (fun _ => by exact HKP.out _ HBa.out) (fun hH => ?_)
            have hHeld := hH (by decide)
            clear hK K hH
            try simp only [Act.put, List.setIfInBounds_toArray, List.set_cons_zero, List.set_cons_succ]
            refine wpAnyK_ready (rs := [8]) (by kernel_rfl) (by simp) ?_
            refine AllReadyK.cons (o := _) (by simp only [List.getElem?_toArray, List.getElem?_cons_succ, List.getElem?_cons_zero]; rfl) (fun K hK => ?_) AllReadyK.nil
            rw [if_pos (by rfl)]
            refine wp_append5 (w := wa) (.tmp 80) (.tmp 82) rfl ws.heap.size va k _ rfl HOa.out (some ⟨ws.heap.size, 0, none⟩) 1 1 (EvV.cells ⟨t, d, next, sig, v⟩) rfl rfl (by intro h; cases h) (ev_cells_at hxa) (cells_one _) (by omega) HBa.out.size ?_
            intro vb wb ho hg
            have HOb := Lib.hid ho
            have HBb : Hid (Below ws.heap.size ws wb) := Lib.hid (HBa.out.grown hg HBa.out.size (fun k e => (HOa.out.lt k e).1))
            clear ho hg
            refine hK.out _ _ (fun _ => by exact HKP.out _ HBb.out) (fun hH => ?_)
            have hHeld := hH (by decide)
            clear hK K hH
            try simp only [Act.put, List.setIfInBounds_toArray, List.set_cons_zero, List.set_cons_succ]
            refine wpAnyK_ready (rs := [13]) (by kernel_rfl) (by simp) ?_
            refine AllReadyK.cons (o := _) (by simp only [List.getElem?_toArray, List.getElem?_cons_succ, List.getElem?_cons_zero]; rfl) (fun K hK => ?_) AllReadyK.nil
            rw [if_pos (by rfl)]
            refine wp_append5 (w := wb) (.tmp 83) (.tmp 87) rfl ws.heap.size vb (k + 1) _ rfl HOb.out oa2 0 (c - k) [] rfl rfl (fun _ => rfl) (fun ad had j u hj => by simp at hj) (by intro u hu; cases hu) (by omega) HBb.out.size ?_
            intro vc wc ho hg
            have HBc2 : Hid (Below ws.heap.size ws wc) := Lib.hid (HBb.out.grown hg HBb.out.size (fun k e => (HOb.out.lt k e).1))
            have hoc : wc.ownsRow ws.heap.size 35 5 vc (k + 1) ((insL l k ⟨t, d, next, sig, v⟩).flatMap EvV.cells) := by
              rw [flat_ins l k ⟨t, d, next, sig, v⟩ (by rw [HN.out]; exact hk), ← flat_take l k (by rw [HN.out]; exact hk), ← flat_drop l k (by rw [HN.out]; exact hk)]
              rw [List.drop_of_length_le (by rw [HN.out]; exact Nat.le_refl _)]; exact ho
            clear ho hg
            obtain ⟨g, cap, rfl, hgcap, hgb⟩ := own_form hoc (Nat.succ_pos _)
            have HGc := Lib.hid (And.intro hgcap hgb)
            clear hgcap hgb
            have HOc := Lib.hid hoc
            clear hoc
            have o0 : wc.cell? ⟨b8 + 1, 0, none⟩ = some (.slice none 0 0) := (HKO.out _ HBc2.out).1
            have g0 : wc.frozen? ⟨b8 + 1, 0, none⟩ = false := (HKO.out _ HBc2.out).2.1
            refine hK.out _ _ (fun _ => by exact HKP.out _ HBc2.out) (fun hH => ?_)
            have hHeld := hH (by decide)
            clear hK K hH
            try simp only [Act.put, List.setIfInBounds_toArray, List.set_cons_zero, List.set_cons_succ]
            refine wpAnyK_take (i := 14) (v := ?_) (by simp only [List.getElem?_toArray, List.getElem?_cons_succ, List.getElem?_cons_zero]; rfl) (by kernel_rfl) (by kernel_rfl) (by kernel_rfl) (by kernel_rfl) (by intro _ _ _ h; exact h) (Or.inl ⟨by rfl, ?_⟩) (by assumption) ?_
            rotate_left
            · intro w hSw; (try dsimp only at hSw); go_simp; try with_reducible rfl
            try simp only [Act.put, List.setIfInBounds_toArray, List.set_cons_zero, List.set_cons_succ]
            refine wpAnyK_ready (rs := [15]) (by kernel_rfl) (by simp) ?_
            refine AllReadyK.cons (o := _) (by simp only [List.getElem?_toArray, List.getElem?_cons_succ, List.getElem?_cons_zero]; rfl) (fun K hK => ?_) AllReadyK.nil
            go_simp

            refine hK.out _ _ (fun h => absurd rfl h) (fun _ => ?_)
            clear hK K
            try simp only [Act.put, List.setIfInBounds_toArray, List.set_cons_zero, List.set_cons_succ]
            refine wpAnyK_done (by kernel_rfl) ?_ _
            clear o0 g0
            obtain ⟨o0, g0, o1, o2, o3, z0, z1, z2, z3, f0, f1, f2, f3⟩ := HKO.out _ HBc2.out
            have hne1 : ¬ (H + 1 = b8 + 1) := by have := HB8g.out; omega
            have hne2 : ¬ (b8 + 1 = H + 1) := by have := HB8g.out; omega
            have Hb8s := World.block_lt_of_cell? ws _ (HKO.out _ (Below.refl _ _)).1
            have hg1 : g ≠ b8 + 1 := by have := HGc.out.2; simp only at Hb8s; omega
            have hg2 : g ≠ H + 1 := by have := HGc.out.2; have := HB8g.out; simp only at Hb8s; omega
            have HG := Lib.hid (And.intro hg1 hg2)
            clear hg1 hg2 Hb8s
            go_wp2_with fail
            have z0' := far (c := H + 1) (j := 0) (b := b8 + 1) (i := 0) (u := Value.slice (some ⟨g, 0, none⟩) (k + 1) cap) z0 hne1
            have z1' := far (c := H + 1) (j := 1) (b := b8 + 1) (i := 0) (u := Value.slice (some ⟨g, 0, none⟩) (k + 1) cap) z1 hne1
            have z2' := far (c := H + 1) (j := 2) (b := b8 + 1) (i := 0) (u := Value.slice (some ⟨g, 0, none⟩) (k + 1) cap) z2 hne1
            have z3' := far (c := H + 1) (j := 3) (b := b8 + 1) (i := 0) (u := Value.slice (some ⟨g, 0, none⟩) (k + 1) cap) z3 hne1
            refine bodyPost_ret (results_push12 (b := H + 1) rfl rfl (set_keep (set_keep (set_keep (cell?_set_own z0') (by decide)) (by decide)) (by decide)) (set_keep (set_keep (cell?_set_own (set_keep z1' (by decide))) (by decide)) (by decide)) (set_keep (cell?_set_own (set_keep (set_keep z2' (by decide)) (by decide))) (by decide)) (cell?_set_own (set_keep (set_keep (set_keep z3' (by decide)) (by decide)) (by decide)))) rfl ?_
            unfold Pushed
            rw [HPE.out, if_pos rfl]
            have hpo : pushL l ⟨t, d, next, sig, v⟩ = insL l k ⟨t, d, next, sig, v⟩ := by unfold pushL; rw [HPo.out]
            have hll : (pushL l ⟨t, d, next, sig, v⟩).length = k + 1 := by rw [hpo, insL_length _ _ _ (by rw [HN.out]; exact hk), HN.out]
            refine ⟨some ⟨g, 0, none⟩, cap, by rw [hll], by rw [hll]; exact HGc.out.1, (fun p hp => by injection hp with hp; rw [← hp]; have := (HX8.out.trans (HBs.out.mono HX8.out.size)).size; have := HGc.out.2; simp only; omega), ⟨?_, fun e he => ?_⟩, ?_⟩
            · refine seq5_of fun j u hj => ?_
              rw [hpo] at hj
              have hjc : wc.cell? ⟨g, j, none⟩ = some u := (HOc.out.cellAt j (by have := (List.getElem?_eq_some_iff.1 hj).1; have := HOc.out.1; omega)).trans hj
              exact far (far (far (far (far hjc HG.out.1) HG.out.2) HG.out.2) HG.out.2) HG.out.2
            · rw [hpo] at he
              unfold insL at he
              rcases List.mem_append.1 he with he | he
              · exact HLA.out.each e (List.mem_of_mem_take he)
              · rcases List.mem_cons.1 he with rfl | he
                · exact ⟨ht, hd, hN, hsi, hv⟩
                · exact HLA.out.each e (List.mem_of_mem_drop he)
            · have hbs : Below w.heap.size w ws := HX8.out.trans (HBs.out.mono HX8.out.size)
              refine (((((hbs.trans (HBc2.out.mono hbs.size)).setCell ?_ _).setCell ?_ _).setCell ?_ _).setCell ?_ _).setCell ?_ _
              all_goals (have := HHw.out; have := HB8g.out; simp only; omega)
    · have HPE := Lib.hid (HEr.out 140 (by rw [HLw.out, HNx.out, ← HGb.out]; rfl))
      go_wp2_with fail
      refine bodyPost_ret (results_push12 (b := H + 1) rfl rfl (set_keep (set_keep (set_keep (cell?_set_own z0) (by decide)) (by decide)) (by decide)) (set_keep (set_keep (cell?_set_own (set_keep z1 (by decide))) (by decide)) (by decide)) (set_keep (cell?_set_own (set_keep (set_keep z2 (by decide)) (by decide))) (by decide)) (cell?_set_own (set_keep (set_keep (set_keep z3 (by decide)) (by decide)) (by decide)))) rfl (pushed_err (HPE.out) (by omega) ?_)
      refine (((HX7.out.setCell (by have := HHw.out; simp only; omega) _).setCell (by have := HHw.out; simp only; omega) _).setCell (by have := HHw.out; simp only; omega) _).setCell (by have := HHw.out; simp only; omega) _
  · subst hc
    have HEr : Hid (pushE now delta next l t d sig = 1) := Lib.hid (by unfold pushE; rw [← HE.out, if_neg (by omega)])
    go_wp2_with fail
    refine bodyPost_ret (results_push12 (b := H + 1) rfl rfl (set_keep (set_keep (set_keep (cell?_set_own z0) (by decide)) (by decide)) (by decide)) (set_keep (set_keep (cell?_set_own (set_keep z1 (by decide))) (by decide)) (by decide)) (set_keep (cell?_set_own (set_keep (set_keep z2 (by decide)) (by decide))) (by decide)) (cell?_set_own (set_keep (set_keep (set_keep z3 (by decide)) (by decide)) (by decide)))) rfl (pushed_err (HEr.out) (by omega) ?_)
    refine (((HX2.out.setCell (by have := HHw.out; simp only; omega) _).setCell (by have := HHw.out; simp only; omega) _).setCell (by have := HHw.out; simp only; omega) _).setCell (by have := HHw.out; simp only; omega) _
end Go.Proofs.Ytbhbebidkeejbaa
