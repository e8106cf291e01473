import Derived.Test.YtibimdhmfchcoaaH2
namespace Go.Proofs.Ytibimdhmfchcoaa
open Go.RowKit Go.Shelf Go.Maps
set_option linter.unusedVariables false
set_option linter.unusedSimpArgs false

theorem own_short {w : World} {base e g n k c : Nat} {xs : List Value} (h : w.ownsRow base e 1 (.slice (some ⟨g, 0, none⟩) n c) n xs) (hk : k ≤ n) : w.ownsRow base e 1 (.slice (some ⟨g, 0, none⟩) k c) k (xs.take k) := by
  have hl := h.1
  rcases h.2 with ⟨hv, _⟩ | ⟨g', cap, cur, hv, hb, hg, hnc, hcm, hcs, htake⟩
  · cases hv
  · injection hv with h1 h2 h3
    injection h1 with h1
    injection h1 with h1
    subst h1 h3
    refine ⟨by rw [List.length_take]; omega, .inr ⟨g, c, cur, rfl, hb, hg, by omega, hcm, hcs, ?_⟩⟩
    rw [← htake, List.take_take, Nat.mul_one, Nat.mul_one, Nat.min_eq_left (by omega)]

set_option maxRecDepth 100000 in
set_option maxHeartbeats 2000000 in
theorem pop97 (w : World) (R g n c : Nat) (x : Int) (hR : w.cell? ⟨R, 0, none⟩ = some (.slice (some ⟨g, 0, none⟩) (n + 1) c)) (hf : w.frozen? ⟨R, 0, none⟩ = false) (hx : w.cell? ⟨g, n, none⟩ = some (.int .i64 x)) (hc : n + 1 ≤ c) (hc2 : c ≤ maxLen) (hn : n ≤ 65536) :
    Calls Try.prog 97 #[.pointer (some ⟨R, 0, none⟩)] w fun e w' => e = .returned (.iface 3 (.int .i64 x)) ∧ w' = w.setCell ⟨R, 0, none⟩ (.slice (some ⟨g, 0, none⟩) n c) := by
  unfold maxLen at hc2
  have h1 : ¬ c = 0 := by omega
  go_enter Try.func97, Try.ntmps97
  go_wp2
  go_ret
  exact ⟨rfl, rfl⟩

theorem run_assert (w : World) (x : Int) : Sem.run Try.prog (Instr.typeAssert (.iface 3 (.int .i64 x)) 20 3 false) w = .ok (.int .i64 x) w := by kernel_rfl

/-- What a call has written: in block R, and in one row. -/
def PushPost (w : World) (base R : Nat) (v : Value) (l : List Int) (x : Int) (e : Ending) (w' : World) : Prop :=
  ∃ g c w9, e = .returned (.tuple #[]) ∧ w.grownBy w9 v.ownBlock ∧ w' = w9.setCell ⟨R, 0, none⟩ (.slice (some ⟨g, 0, none⟩) (l.length + 1) c) ∧ RowAt w9 base g (l.length + 1) c (l ++ [x]) ∧ (v.ownBlock = some g ∨ g = w.heap.size + 1) ∧ g < w9.heap.size

set_option maxRecDepth 100000 in
set_option maxHeartbeats 2000000 in
theorem push98 (w : World) (base R : Nat) (v : Value) (l : List Int) (x : Int) (hR : w.cell? ⟨R, 0, none⟩ = some v) (hf : w.frozen? ⟨R, 0, none⟩ = false) (hown : w.ownsRow base 3 1 v l.length (l.map (Value.int .i64))) (hne : some R ≠ v.ownBlock) (hb : base ≤ w.heap.size) (hl : l.length ≤ 65536) :
    Calls Try.prog 98 #[.pointer (some ⟨R, 0, none⟩), .iface 3 (.int .i64 x)] w (PushPost w base R v l x) := by
  obtain ⟨i3, hi, hz0, hz1, hz2⟩ := info_parts info3
  have hRs : R < w.heap.size := World.block_lt_of_cell? w _ hR
  have HOwn := hown
  go_enter Try.func98, Try.ntmps98
  go_wp2_with fail
  refine wp_region_K (S := fun w' => w'.cell? ⟨R, 0, none⟩ = some v) 9 (by kernel_rfl) (hR) (fun hHeld => ?_)
  refine wpAnyK_take (i := 0) (v := ?_) (by simp only [List.getElem?_toArray, List.getElem?_cons_succ, List.getElem?_cons_zero]; rfl) (by kernel_rfl) (by kernel_rfl) (by kernel_rfl) (by kernel_rfl) (by intro _ _ _ h; exact h) (Or.inl ⟨by rfl, ?_⟩) (by assumption) ?_
  rotate_left
  · intro w hSw; (try dsimp only at hSw); go_simp; try with_reducible rfl
  try simp only [Act.put, List.setIfInBounds_toArray, List.set_cons_zero, List.set_cons_succ]
  refine wpAnyK_take (i := 1) (v := ?_) (by simp only [List.getElem?_toArray, List.getElem?_cons_succ, List.getElem?_cons_zero]; rfl) (by kernel_rfl) (by kernel_rfl) (by kernel_rfl) (by kernel_rfl) (by intro _ _ _ h; exact h) (Or.inl ⟨by rfl, ?_⟩) (by assumption) ?_
  rotate_left
  · intro w hSw; (try dsimp only at hSw); go_simp; try with_reducible rfl
  try simp only [Act.put, List.setIfInBounds_toArray, List.set_cons_zero, List.set_cons_succ]
  refine wpAnyK_take (i := 2) (v := ?_) (by simp only [List.getElem?_toArray, List.getElem?_cons_succ, List.getElem?_cons_zero]; rfl) (by kernel_rfl) (by kernel_rfl) (by kernel_rfl) (by kernel_rfl) (by intro _ _ _ h; exact h) (Or.inl ⟨by rfl, ?_⟩) (by assumption) ?_
  rotate_left
  · intro w hSw; (try dsimp only at hSw); go_simp; try with_reducible rfl
  try simp only [Act.put, List.setIfInBounds_toArray, List.set_cons_zero, List.set_cons_succ]
  refine wpAnyK_take (i := 3) (v := ?_) (by simp only [List.getElem?_toArray, List.getElem?_cons_succ, List.getElem?_cons_zero]; rfl) (by kernel_rfl) (by kernel_rfl) (by kernel_rfl) (by kernel_rfl) (by intro _ _ _ h; exact h) (Or.inl ⟨by rfl, ?_⟩) (by assumption) ?_
  rotate_left
  · intro w hSw; (try dsimp only at hSw); go_simp; try with_reducible rfl
  try simp only [Act.put, List.setIfInBounds_toArray, List.set_cons_zero, List.set_cons_succ]
  refine wpAnyK_take (i := 4) (v := ?_) (by simp only [List.getElem?_toArray, List.getElem?_cons_succ, List.getElem?_cons_zero]; rfl) (by kernel_rfl) (by kernel_rfl) (by kernel_rfl) (by kernel_rfl) (by intro _ _ _ h; exact h) (Or.inl ⟨by rfl, ?_⟩) (by assumption) ?_
  rotate_left
  · intro w hSw; (try dsimp only at hSw); go_simp; try with_reducible rfl
  try simp only [Act.put, List.setIfInBounds_toArray, List.set_cons_zero, List.set_cons_succ]
  refine wpAnyK_take (i := 5) (v := ?_) (by simp only [List.getElem?_toArray, List.getElem?_cons_succ, List.getElem?_cons_zero]; rfl) (by kernel_rfl) (by kernel_rfl) (by kernel_rfl) (by kernel_rfl) (by intro _ _ _ h; exact h) (Or.inl ⟨by rfl, ?_⟩) (by assumption) ?_
  rotate_left
  · intro w hSw; (try dsimp only at hSw); go_simp; rw [run_assert]; rfl
  try simp only [Act.put, List.setIfInBounds_toArray, List.set_cons_zero, List.set_cons_succ]
  refine wpAnyK_ready (rs := [6]) (by kernel_rfl) (by simp) ?_
  refine AllReadyK.cons (o := _) (by simp only [List.getElem?_toArray, List.getElem?_cons_succ, List.getElem?_cons_zero]; rfl) (fun K hK => ?_) AllReadyK.nil
  go_simp

  refine hK.out _ _ (fun _ => by exact cell_alloc _ hR) (fun hH => ?_)
  have hHeld := hH (by decide)
  clear hK K hH
  try simp only [Act.put, List.setIfInBounds_toArray, List.set_cons_zero, List.set_cons_succ]
  refine wpAnyK_ready (rs := [7]) (by kernel_rfl) (by simp) ?_
  refine AllReadyK.cons (o := _) (by simp only [List.getElem?_toArray, List.getElem?_cons_succ, List.getElem?_cons_zero]; rfl) (fun K hK => ?_) AllReadyK.nil
  rw [if_pos (by rfl)]
  have ho8 : (w.drew.alloc (Obj.cells #[Value.int IntKind.i64 x] 3)).ownsRow base 3 1 v l.length (l.map (Value.int .i64)) := (own_drewN (k := 1) hown).alloc _
  refine wp_append_lies _ (.tmp 7) (.tmp 10) 93 rfl base 3 i3 (.int .i64 0) 1 8 Try.underlying93 hi hz0 hz1 hz2 rfl (by decide) v l.length (l.map (Value.int .i64)) rfl ho8 ⟨w.heap.size, 0, none⟩ 1 1 [.int .i64 x] rfl rfl (one_new (cell_newW w.drew _ _)) (by simp [Value.oneCell']) (by omega) (by unfold maxLen; omega) (by omega) (by simp; omega) (w.heap.size + 1) (by simp) ?_
  intro gB cB w9 ho9 hg9 hat9 hlt9
  have hgr9 : w.grownBy w9 v.ownBlock := ggrown (grownBy_drew _ _) (ggrown (World.grownBy_alloc _ _ _) hg9)
  have y1 : w9.cell? ⟨R, 0, none⟩ = some v := (World.cell?_of_block (a := ⟨_, _, none⟩) (hgr9.block _ hRs hne)).trans hR
  have yf : w9.frozen? ⟨R, 0, none⟩ = false := (World.frozen?_of_block (a := ⟨_, _, none⟩) (hgr9.block _ hRs hne)).trans hf
  refine hK.out _ _ (fun _ => by exact y1) (fun hH => ?_)
  have hHeld := hH (by decide)
  clear hK K hH
  try simp only [Act.put, List.setIfInBounds_toArray, List.set_cons_zero, List.set_cons_succ]
  refine wpAnyK_ready (rs := [8]) (by kernel_rfl) (by simp) ?_
  refine AllReadyK.cons (o := _) (by simp only [List.getElem?_toArray, List.getElem?_cons_succ, List.getElem?_cons_zero]; rfl) (fun K hK => ?_) AllReadyK.nil
  go_simp

  refine hK.out _ _ (fun _ => by exact y1) (fun hH => ?_)
  have hHeld := hH (by decide)
  clear hK K hH
  try simp only [Act.put, List.setIfInBounds_toArray, List.set_cons_zero, List.set_cons_succ]
  refine wpAnyK_ready (rs := [9]) (by kernel_rfl) (by simp) ?_
  refine AllReadyK.cons (o := _) (by simp only [List.getElem?_toArray, List.getElem?_cons_succ, List.getElem?_cons_zero]; rfl) (fun K hK => ?_) AllReadyK.nil
  go_simp

  refine hK.out _ _ (fun h => absurd rfl h) (fun _ => ?_)
  clear hK K
  try simp only [Act.put, List.setIfInBounds_toArray, List.set_cons_zero, List.set_cons_succ]
  refine wpAnyK_done (by kernel_rfl) ?_ _
  go_wp2
  go_end0
  exact ⟨gB, cB, w9, rfl, hgr9, rfl, ⟨by simp, by simpa using ho9⟩, hat9, hlt9⟩
end Go.Proofs.Ytibimdhmfchcoaa
