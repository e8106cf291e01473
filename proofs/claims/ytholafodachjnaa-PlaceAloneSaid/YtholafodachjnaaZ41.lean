/- How many pads a fabric has (fabric.Pads). -/
import Derived.Deep.WholeRow
import Derived.Test.YtholafodachjnaaZ37
namespace Go.Proofs.Ytholafodachjnaa
open Go.RowKit Go.Shelf
set_option linter.unusedVariables false
set_option linter.unusedSimpArgs false

theorem oper_val {P : Program} {o : Oper} {a : Act} {w : World} {v : Value} {K : Act → World → Prop} {Q : Exit → Act → World → Prop} (h : (execOp a.eval o).run P w = .ok (.value v) w) (hK : K (a.put o.dst v) w) : Oper.wp P o a w K Q := by
  unfold Oper.wp
  rw [h]
  exact hK
theorem oper_do {P : Program} {o : Oper} {a : Act} {w w' : World} {K : Act → World → Prop} {Q : Exit → Act → World → Prop} (h : (execOp a.eval o).run P w = .ok .skip w') (hK : K (a.put o.dst undef) w') : Oper.wp P o a w K Q := by
  unfold Oper.wp
  rw [h]
  exact hK
theorem results_grid {fn : Func} (hfn : fn.results = #[.cell 2 72]) {tmps : Array Value} {W : World} {c : Array Value} (hc : c.size = 20) {b : Nat} (hb : b = W.heap.size) (h2 : tmps[2]?.getD undef = .pointer (some ⟨b, 0, none⟩)) :
    (results fn tmps).run Try.prog (W.alloc (.cells c 72)) = .ok (.agg c) (W.alloc (.cells c 72)) := by
  subst hb
  have h : (Try.prog.info? 72).map (·.size) = some 20 := by kernel_rfl
  have hl := run_loadVar_new (P := Try.prog) W 72 c 5 71 Try.underlying72 (by rw [hc]; exact h)
  unfold results
  rw [hfn]
  simp [Sem.run_bind, Sem.run_pure, Result.andThen, asAddr, h2, hl]
set_option maxRecDepth 100000 in
set_option maxHeartbeats 4000000 in
theorem grids49 (w : World) (x y z : Int) (h1 : 1 ≤ x ∧ x ≤ 16) (h2 : 1 ≤ y ∧ y ≤ 16) : Calls Try.prog 49 #[.agg #[.int .i64 x, .int .i64 y, .int .i64 z]] w fun e w' =>
    e = .returned (.agg #[.int .i64 1, .int .i64 x, .int .i64 y, .int .i64 1, .int .i64 2, .int .i64 x, .int .i64 y, .int .i64 4, .int .i64 3, .int .i64 (2 * x + 2 * y), .int .i64 1, .int .i64 1, .int .i64 4, .int .i64 x, .int .i64 (y + 1), .int .i64 z, .int .i64 5, .int .i64 (x + 1), .int .i64 y, .int .i64 z]) ∧ Below w.heap.size w w' := by
  have HF : Hid (wrap64 (2 * x) = 2 * x ∧ wrap64 (2 * y) = 2 * y ∧ wrap64 (2 * x + 2 * y) = 2 * x + 2 * y ∧ wrap64 (y + 1) = y + 1 ∧ wrap64 (x + 1) = x + 1) := Lib.hid ⟨wrap64s (by omega) (by omega), wrap64s (by omega) (by omega), wrap64s (by omega) (by omega), wrap64s (by omega) (by omega), wrap64s (by omega) (by omega)⟩
  have hst : ((do Instr.storeAt 72 (.pointer (some ⟨w.heap.size + 1, 0, none⟩)) (.agg #[.int .i64 1, .int .i64 x, .int .i64 y, .int .i64 1, .int .i64 2, .int .i64 x, .int .i64 y, .int .i64 4, .int .i64 3, .int .i64 (2 * x + 2 * y), .int .i64 1, .int .i64 1, .int .i64 4, .int .i64 x, .int .i64 (y + 1), .int .i64 z, .int .i64 5, .int .i64 (x + 1), .int .i64 y, .int .i64 z]); pure Next.skip) : Sem Next).run Try.prog ((w.alloc (.cells #[.int .i64 x, .int .i64 y, .int .i64 z] 23)).alloc (.cells #[.int .i64 0, .int .i64 0, .int .i64 0, .int .i64 0, .int .i64 0, .int .i64 0, .int .i64 0, .int .i64 0, .int .i64 0, .int .i64 0, .int .i64 0, .int .i64 0, .int .i64 0, .int .i64 0, .int .i64 0, .int .i64 0, .int .i64 0, .int .i64 0, .int .i64 0, .int .i64 0] 72)) = .ok .skip ((w.alloc (.cells #[.int .i64 x, .int .i64 y, .int .i64 z] 23)).alloc (.cells #[.int .i64 1, .int .i64 x, .int .i64 y, .int .i64 1, .int .i64 2, .int .i64 x, .int .i64 y, .int .i64 4, .int .i64 3, .int .i64 (2 * x + 2 * y), .int .i64 1, .int .i64 1, .int .i64 4, .int .i64 x, .int .i64 (y + 1), .int .i64 z, .int .i64 5, .int .i64 (x + 1), .int .i64 y, .int .i64 z] 72)) := by
    have hsz : (w.alloc (.cells #[.int .i64 x, .int .i64 y, .int .i64 z] 23)).heap.size = w.heap.size + 1 := by simp
    have h := run_storeAt_new (P := Try.prog) (w.alloc (.cells #[.int .i64 x, .int .i64 y, .int .i64 z] 23)) 72 #[.int .i64 0, .int .i64 0, .int .i64 0, .int .i64 0, .int .i64 0, .int .i64 0, .int .i64 0, .int .i64 0, .int .i64 0, .int .i64 0, .int .i64 0, .int .i64 0, .int .i64 0, .int .i64 0, .int .i64 0, .int .i64 0, .int .i64 0, .int .i64 0, .int .i64 0, .int .i64 0] #[.int .i64 1, .int .i64 x, .int .i64 y, .int .i64 1, .int .i64 2, .int .i64 x, .int .i64 y, .int .i64 4, .int .i64 3, .int .i64 (2 * x + 2 * y), .int .i64 1, .int .i64 1, .int .i64 4, .int .i64 x, .int .i64 (y + 1), .int .i64 z, .int .i64 5, .int .i64 (x + 1), .int .i64 y, .int .i64 z] (by kernel_rfl) rfl (by simp [Value.oneCell'])
    rw [hsz] at h
    rw [Sem.run_bind, h]
    rfl
  have HST := Lib.hid hst
  clear hst
  obtain ⟨F1, F2, F3, F4, F5⟩ := HF.out
  clear h1 h2
  go_enter Try.func49, Try.ntmps49
  go_upto_region 1 with fail
  iterate 104 (first | go_values | go_skip | go_guarded | go_step | go_upon)
  refine oper_val (v := .agg #[.int .i64 1, .int .i64 x, .int .i64 y, .int .i64 1, .int .i64 2, .int .i64 x, .int .i64 y, .int .i64 4, .int .i64 3, .int .i64 (2 * x + 2 * y), .int .i64 1, .int .i64 1, .int .i64 4, .int .i64 x, .int .i64 (y + 1), .int .i64 z, .int .i64 5, .int .i64 (x + 1), .int .i64 y, .int .i64 z]) (by kernel_rfl) ?_
  iterate 2 (first | go_values | go_skip | go_guarded | go_step | go_upon)
  refine oper_do HST.out ?_
  go_wp2_with fail
  (try simp only [Exit.inBlock, Exit.then])
  refine bodyPost_ret (results_grid rfl rfl (b := w.heap.size + 1) (by simp) rfl) rfl ?_
  exact ⟨rfl, ((Below.refl _ _).alloc (Nat.le_refl _) _).alloc (by simp) _⟩
set_option maxRecDepth 100000 in
set_option maxHeartbeats 4000000 in
theorem pads26 (w : World) (a : ArchV) (h : archE a = 0) : Calls Try.prog 26 #[a.val] w fun e w' => e = .returned (.int .i64 (padsL a)) ∧ Below w.heap.size w w' := by
  have C24 : Hid (∀ W, Calls Try.prog 24 #[a.val] W fun e w' => e = .returned (.int .i64 0) ∧ Below W.heap.size W w') := Lib.hid fun W => by
    have := fabric24 W a
    rw [h] at this
    exact this
  obtain ⟨h1, h2, -⟩ := archE_ok.1 h
  obtain ⟨x, y, z⟩ := a
  dsimp only at h1 h2
  have C49 := Lib.hid (fun W => grids49 W x y z h1 h2)
  clear h h1 h2
  unfold ArchV.val at C24
  unfold ArchV.val padsL
  dsimp only at C24 ⊢
  obtain ⟨w1, hw1⟩ : ∃ W, W = w.alloc (.cells #[.int .i64 x, .int .i64 y, .int .i64 z] 23) := ⟨_, rfl⟩
  have hb1 : Below w.heap.size w w1 := by rw [hw1]; exact (Below.refl _ _).alloc (Nat.le_refl _) _
  obtain ⟨H, hH⟩ : ∃ x, x = w.heap.size := ⟨_, rfl⟩
  have hr : w1.rowIs H 23 3 (fun i => ([.int .i64 x, .int .i64 y, .int .i64 z] : List Value).getD i undef) := by rw [hw1, hH]; exact rowL_alloc w 23 [.int .i64 x, .int .i64 y, .int .i64 z]
  have HR := Lib.hid hr
  have HB := Lib.hid hb1
  have HH := Lib.hid hH
  clear hr hb1 hH
  go_enter Try.func26, Try.ntmps26
  go_wp2_with fail
  rw [← hw1, ← HH.out]
  clear hw1
  refine Calls.mono (C24.out w1) ?_
  rintro e w2 ⟨rfl, hb⟩
  have HB2 := Lib.hid hb
  have hr2 := HR.out.of_block (hb.block H HR.out.lt)
  have c0 : w2.cell? ⟨H, 0, none⟩ = some (.int .i64 x) := hr2.cell (by omega)
  have c1 : w2.cell? ⟨H, 1, none⟩ = some (.int .i64 y) := hr2.cell (by omega)
  have c2 : w2.cell? ⟨H, 2, none⟩ = some (.int .i64 z) := hr2.cell (by omega)
  clear hr2 hb
  go_wp2_with fail
  refine Calls.mono (C49.out w2) ?_
  rintro e w3 ⟨rfl, hb⟩
  have HB3 := Lib.hid (HB2.out.trans (hb.mono HB2.out.size))
  clear c0 c1 c2 hb
  have hix : ∀ W, (Instr.index 72 (.agg #[.int .i64 1, .int .i64 x, .int .i64 y, .int .i64 1, .int .i64 2, .int .i64 x, .int .i64 y, .int .i64 4, .int .i64 3, .int .i64 (2 * x + 2 * y), .int .i64 1, .int .i64 1, .int .i64 4, .int .i64 x, .int .i64 (y + 1), .int .i64 z, .int .i64 5, .int .i64 (x + 1), .int .i64 y, .int .i64 z]) (.int .i64 2)).run Try.prog W = .ok (.agg #[.int .i64 3, .int .i64 (2 * x + 2 * y), .int .i64 1, .int .i64 1]) W := fun W => by rfl
  have hfi : ∀ W, (Instr.field 71 (.agg #[.int .i64 3, .int .i64 (2 * x + 2 * y), .int .i64 1, .int .i64 1]) 1).run Try.prog W = .ok (.int .i64 (2 * x + 2 * y)) W := fun W => by rfl
  go_wp2_with fail
  go_ret
  exact ⟨rfl, HB.out.trans (HB3.out.mono HB.out.size)⟩
end Go.Proofs.Ytholafodachjnaa
