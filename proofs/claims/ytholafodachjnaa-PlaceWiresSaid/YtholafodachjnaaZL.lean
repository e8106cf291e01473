import Derived.Test.YtholafodachjnaaZ32
import Derived.Deep.CutRange
/- Z33 -/
/- The chapter's example: one block. -/
namespace Go.Proofs.Ytholafodachjnaa
open Go.RowKit Go.Shelf
set_option linter.unusedVariables false
set_option linter.unusedSimpArgs false

abbrev oneV (h : Nat) : PackV := ⟨1, some ⟨h + 1 + 1, 0, none⟩, 1, [⟨some ⟨h + 1, 0, none⟩, 1, [0], 1, false, false⟩], some ⟨h + 1 + 1 + 1, 0, none⟩, 1, [1]⟩
theorem results_pack {fn : Func} (hfn : fn.results = #[.cell 0 27]) {tmps : Array Value} {w : World} {b : Nat} {x y z : Value} (h2 : tmps[0]?.getD undef = .pointer (some ⟨b, 0, none⟩))
    (h0 : w.cell? ⟨b, 0, none⟩ = some x) (h1 : w.cell? ⟨b, 1, none⟩ = some y) (h3 : w.cell? ⟨b, 2, none⟩ = some z) : (results fn tmps).run Try.prog w = .ok (.agg #[x, y, z]) w := by
  simp [results, hfn, go_sem, h2, h0, h1, h3]
set_option maxRecDepth 100000 in
set_option maxHeartbeats 4000000 in
theorem one27 (w : World) : Calls Try.prog 27 #[] w fun e w' => e = .returned (oneV w.heap.size).val ∧ PackAt w' (oneV w.heap.size) ∧ Below w.heap.size w w' := by
  obtain ⟨H, hH⟩ : ∃ h, h = w.heap.size := ⟨_, rfl⟩
  obtain ⟨w1, hw1⟩ : ∃ W, W = w.alloc (.cells #[.int .i64 1, .slice (some ⟨H + 1 + 1, 0, none⟩) 1 1, .slice (some ⟨H + 1 + 1 + 1, 0, none⟩) 1 1] 27) := ⟨_, rfl⟩
  obtain ⟨w2, hw2⟩ : ∃ W, W = w1.alloc (.cells #[.int .i64 0] 3) := ⟨_, rfl⟩
  obtain ⟨w3, hw3⟩ : ∃ W, W = w2.alloc (.cells #[.slice (some ⟨H + 1, 0, none⟩) 1 1, .int .i64 1, .bool false, .bool false] 46) := ⟨_, rfl⟩
  obtain ⟨w4, hw4⟩ : ∃ W, W = w3.alloc (.cells #[.int .i64 1] 3) := ⟨_, rfl⟩
  have s1 : w1.heap.size = H + 1 := by rw [hw1, hH]; simp
  have s2 : w2.heap.size = H + 1 + 1 := by rw [hw2, ← s1]; simp
  have s3 : w3.heap.size = H + 1 + 1 + 1 := by rw [hw3, ← s2]; simp
  have r1 : w4.rowIs H 27 3 (fun i => ([.int .i64 1, .slice (some ⟨H + 1 + 1, 0, none⟩) 1 1, .slice (some ⟨H + 1 + 1 + 1, 0, none⟩) 1 1] : List Value).getD i undef) := by
    have h := rowL_alloc w 27 [.int .i64 1, .slice (some ⟨H + 1 + 1, 0, none⟩) 1 1, .slice (some ⟨H + 1 + 1 + 1, 0, none⟩) 1 1]
    rw [← hH] at h
    rw [hw4, hw3, hw2, hw1]
    exact ((h.alloc _).alloc _).alloc _
  have r2 : w4.rowIs (H + 1) 3 1 (fun i => ([.int .i64 0] : List Value).getD i undef) := by
    have h := rowL_alloc w1 3 [.int .i64 0]
    rw [s1] at h
    rw [hw4, hw3, hw2]
    exact (h.alloc _).alloc _
  have r3 : w4.rowIs (H + 1 + 1) 46 4 (fun i => ([.slice (some ⟨H + 1, 0, none⟩) 1 1, .int .i64 1, .bool false, .bool false] : List Value).getD i undef) := by
    have h := rowL_alloc w2 46 [.slice (some ⟨H + 1, 0, none⟩) 1 1, .int .i64 1, .bool false, .bool false]
    rw [s2] at h
    rw [hw4, hw3]
    exact h.alloc _
  have r4 : w4.rowIs (H + 1 + 1 + 1) 3 1 (fun i => ([.int .i64 1] : List Value).getD i undef) := by
    have h := rowL_alloc w3 3 [.int .i64 1]
    rw [s3] at h
    rw [hw4]
    exact h
  have hb : Below w.heap.size w w4 := by
    rw [hw4, hw3, hw2, hw1]
    exact ((((Below.refl _ _).alloc (Nat.le_refl _) _).alloc (by simp) _).alloc (by simp <;> omega) _).alloc (by simp <;> omega) _
  have hp : PackAt w4 (oneV H) := by
    refine ⟨(by show I64 (1 : Int); unfold I64; omega), .inr ⟨H + 1 + 1, 0, rfl, fun i hi => ?_⟩, .inr ⟨H + 1 + 1 + 1, 0, rfl, fun i hi => ?_⟩, fun b hb => ?_, fun x hx => ?_, (by show (1 : Nat) ≤ _; omega), (by show (1 : Nat) ≤ _; omega)⟩
    · rw [Nat.zero_add, r3.cell (by simpa using hi)]
      have hi4 : i < 4 := by simpa using hi
      match i, hi4 with
      | 0, _ => rfl
      | 1, _ => rfl
      | 2, _ => rfl
      | 3, _ => rfl
    · have hi1 : i < 1 := by simpa using hi
      obtain rfl : i = 0 := by omega
      rw [Nat.zero_add, r4.cell (by omega)]
      rfl
    · rw [List.mem_singleton] at hb
      subst hb
      refine ⟨.inr ⟨H + 1, 0, rfl, fun i hi => ?_⟩, fun x hx => ?_, (by show I64 (1 : Int); unfold I64; omega), (by show (1 : Nat) ≤ _; omega)⟩
      · have hi1 : i < 1 := by simpa using hi
        obtain rfl : i = 0 := by omega
        rw [Nat.zero_add, r2.cell (by omega)]
        rfl
      · rw [List.mem_singleton] at hx
        subst hx
        exact i64_of (by decide) (by decide)
    · rw [List.mem_singleton] at hx
      subst hx
      exact i64_of (by decide) (by decide)
  have HR := Lib.hid r1
  have HP := Lib.hid hp
  have HBl := Lib.hid hb
  have HW1 := Lib.hid hw1
  have HW2 := Lib.hid hw2
  have HW3 := Lib.hid hw3
  have HW4 := Lib.hid hw4
  have HHH := Lib.hid hH
  clear s1 s2 s3 r1 r2 r3 r4 hb hp hw1 hw2 hw3 hw4 hH
  go_enter Try.func27, Try.ntmps27
  go_wp2_with fail
  rw [← HHH.out]
  rw [← HW1.out]
  rw [← HW2.out]
  rw [← HW3.out]
  rw [← HW4.out]
  (try simp only [Exit.inBlock, Exit.then])
  refine bodyPost_ret (results_pack (b := H) rfl rfl (HR.out.cell (i := 0) (by omega)) (HR.out.cell (i := 1) (by omega)) (HR.out.cell (i := 2) (by omega))) rfl ?_
  exact ⟨rfl, HP.out, by rw [HHH.out]; exact HBl.out⟩
end Go.Proofs.Ytholafodachjnaa

/- L2 -/
/- The chapter's example in plain words: what is told of it. -/
namespace Go.Proofs.Ytholafodachjnaa
set_option linter.unusedVariables false

def oneA : ArchV := ⟨2, 1, 1⟩
def oneD : PackD := ⟨1, [⟨[0], 1, false, false⟩], [1]⟩
theorem one_data (h : Nat) : (oneV h).data = oneD := rfl
theorem one_order : orderE oneD = 0 := by decide +kernel
theorem one_below (h : Nat) : belowE oneA (oneV h) = 0 := by
  unfold belowE
  rw [one_data, one_order]
  decide +kernel
theorem one_cost1 : costL oneA oneD ⟨[0], [0], [1]⟩ = 4 := by decide +kernel
theorem one_cost2 : costL oneA oneD ⟨[1], [0], [2]⟩ = 6 := by decide +kernel
theorem one_room (h : Nat) : roomB oneA (oneV h) = true := by kernel_rfl
theorem one_err (h : Nat) : errF oneA (oneV h) = 0 := errF_ok.2 ⟨one_below h, one_room h⟩
theorem one_first (h : Nat) : firstO oneA (oneV h) = ⟨[0], [0], [1]⟩ := by
  unfold firstO
  rw [if_pos (one_err h)]
  rfl
theorem one_place (h : Nat) : placeO oneA (oneV h) [] = ⟨[0], [0], [1]⟩ := by
  unfold placeO
  rw [if_pos (one_err h)]
  rfl
theorem one_right {h : Nat} {S : SpotV} (hs : spotsB oneA (oneV h) S = true) : checkE oneA (oneV h) S = 0 := by
  unfold checkE
  rw [if_pos (one_below h), hs, if_pos rfl]
theorem one_check1 {h : Nat} {S : SpotV} (hs : S.data = ⟨[0], [0], [1]⟩) : checkE oneA (oneV h) S = 0 := by
  obtain ⟨ba, bc, bs, ia, ic, is, oa, oc, os⟩ := S
  injection hs with h1 h2 h3
  dsimp only at h1 h2 h3
  subst h1 h2 h3
  exact one_right (by kernel_rfl)
theorem one_check2 {h : Nat} {S : SpotV} (hs : S.data = ⟨[1], [0], [2]⟩) : checkE oneA (oneV h) S = 0 := by
  obtain ⟨ba, bc, bs, ia, ic, is, oa, oc, os⟩ := S
  injection hs with h1 h2 h3
  dsimp only at h1 h2 h3
  subst h1 h2 h3
  exact one_right (by kernel_rfl)
theorem one_check0 (h : Nat) : checkE oneA (oneV h) noSpots = 1 := by
  have hs : spotsB oneA (oneV h) noSpots = false := by kernel_rfl
  unfold checkE
  rw [if_pos (one_below h), hs]
  rfl
theorem one_two : twoB oneA 1 0 = true := by decide +kernel
theorem one_turn : turnD oneA ⟨[1], [0], [2]⟩ 1 0 = ⟨[0], [0], [2]⟩ := by kernel_rfl
theorem one_cost3 : costL oneA oneD ⟨[0], [0], [2]⟩ = 2 := by decide +kernel
end Go.Proofs.Ytholafodachjnaa

/- Z34 -/
/- What is told of the chapter's example. -/
namespace Go.Proofs.Ytholafodachjnaa
open Go.RowKit Go.Shelf
set_option linter.unusedVariables false
set_option linter.unusedSimpArgs false

theorem one_few (h : Nat) : FewP (oneV h) := ⟨(by show (1 : Int) ≤ 100; omega), (by show (1 : Nat) ≤ 500; omega), (by show (1 : Nat) ≤ 500; omega), fun b hb => by
  rw [List.mem_singleton] at hb
  subst hb
  show (1 : Nat) ≤ _
  omega⟩
theorem data_few {S : SpotV} {x y z : Int} (h : S.data = ⟨[x], [y], [z]⟩) : FewS S := by
  obtain ⟨ba, bc, bs, ia, ic, is, oa, oc, os⟩ := S
  injection h with h1 h2 h3
  dsimp only at h1 h2 h3
  subst h1 h2 h3
  exact ⟨(by show (1 : Nat) ≤ 1000; omega), (by show (1 : Nat) ≤ 1000; omega), (by show (1 : Nat) ≤ 1000; omega)⟩
theorem live1 (W : World) (h : Nat) (hP : PackAt W (oneV h)) : Calls Try.prog 17 #[oneA.val, (oneV h).val] W fun e w' => ∃ R : SpotV, e = .returned (.tuple #[R.val, .int .i64 0]) ∧ R.data = ⟨[0], [0], [1]⟩ ∧ SpotNew W.heap.size noSpots R w' ∧ Below W.heap.size W w' := by
  refine Calls.mono (first17 W oneA (oneV h) hP (one_few h)) ?_
  rintro e w' ⟨R, he, h1, h2, h3⟩
  rw [one_err] at he
  rw [one_first] at h1
  exact ⟨R, he, h1, h2, h3⟩
theorem live2 (W : World) (h : Nat) (S : SpotV) (hP : PackAt W (oneV h)) (hS : SpotAt W S) (hd : S.data = ⟨[0], [0], [1]⟩) : Calls Try.prog 13 #[oneA.val, (oneV h).val, S.val] W fun e w' => e = .returned (.tuple #[.int .i64 4, .int .i64 0]) ∧ Below W.heap.size W w' := by
  have hc := one_check1 (h := h) hd
  have hv : costV oneA (oneV h) S = 4 := by unfold costV; rw [if_pos hc, one_data, hd]; exact one_cost1
  have := cost13 W oneA (oneV h) S hP (one_few h) hS (data_few hd)
  rw [hv, hc] at this
  exact this
theorem live3 (W : World) (h : Nat) (S : SpotV) (hP : PackAt W (oneV h)) (hS : SpotAt W S) (hd : S.data = ⟨[1], [0], [2]⟩) : Calls Try.prog 13 #[oneA.val, (oneV h).val, S.val] W fun e w' => e = .returned (.tuple #[.int .i64 6, .int .i64 0]) ∧ Below W.heap.size W w' := by
  have hc := one_check2 (h := h) hd
  have hv : costV oneA (oneV h) S = 6 := by unfold costV; rw [if_pos hc, one_data, hd]; exact one_cost2
  have := cost13 W oneA (oneV h) S hP (one_few h) hS (data_few hd)
  rw [hv, hc] at this
  exact this
theorem live4 (W : World) (h : Nat) (S : SpotV) (hP : PackAt W (oneV h)) (hS : SpotAt W S) (hd : S.data = ⟨[1], [0], [2]⟩) : Calls Try.prog 19 #[oneA.val, (oneV h).val, S.val, .int .i64 1, .int .i64 0] W fun e w' => ∃ R : SpotV, e = .returned (.tuple #[R.val, .bool true, .int .i64 0]) ∧ R.data = ⟨[0], [0], [2]⟩ ∧ SpotNew W.heap.size S R w' ∧ Below W.heap.size W w' := by
  have hc := one_check2 (h := h) hd
  have he : errB oneA (oneV h) S 1 0 = 0 := errB_ok.2 ⟨hc, twoB_iff.1 one_two⟩
  have hb : betterB oneA (oneV h).data S.data 1 0 = true := by
    unfold betterB
    rw [one_data, hd, one_turn, one_cost3, one_cost2]
    decide
  refine Calls.mono (better19 W oneA (oneV h) S hP (one_few h) hS (data_few hd) 1 0 (i64_of (by decide) (by decide)) (i64_of (by decide) (by decide))) ?_
  rintro e w' ⟨R, h0, h1, h2, h3⟩
  unfold okB at h0
  unfold outD at h1
  rw [he, if_pos rfl, hb] at h0
  rw [he, if_pos rfl] at h1
  unfold betterD at h1
  rw [if_pos hb, hd, one_turn] at h1
  exact ⟨R, h0, h1, h2, h3⟩
theorem live5 (W : World) (h : Nat) (hP : PackAt W (oneV h)) : Calls Try.prog 22 #[oneA.val, (oneV h).val, .slice none 0 0] W fun e w' => ∃ R : SpotV, e = .returned (.tuple #[R.val, .int .i64 0]) ∧ R.data = ⟨[0], [0], [1]⟩ ∧ SpotNew W.heap.size noSpots R w' ∧ Below W.heap.size W w' := by
  refine Calls.mono (place22 W oneA (oneV h) hP (one_few h) none 0 0 [] rfl (by omega) (by omega) (.inl rfl)) ?_
  rintro e w' ⟨R, he, h1, h2, h3⟩
  rw [one_err] at he
  rw [one_place] at h1
  exact ⟨R, he, h1, h2, h3⟩
theorem live6 (W : World) (h : Nat) (S : SpotV) (hP : PackAt W (oneV h)) (hS : SpotAt W S) (hd : S.data = ⟨[0], [0], [1]⟩) : Calls Try.prog 15 #[oneA.val, (oneV h).val, S.val] W fun e w' => e = .returned (.int .i64 0) ∧ Below W.heap.size W w' := by
  have := check15 W oneA (oneV h) S hP (one_few h) hS (data_few hd)
  rw [one_check1 hd] at this
  exact this
theorem live7 (W : World) (h : Nat) (hP : PackAt W (oneV h)) : Calls Try.prog 15 #[oneA.val, (oneV h).val, noSpots.val] W fun e w' => e = .returned (.int .i64 1) ∧ Below W.heap.size W w' := by
  have := check15 W oneA (oneV h) noSpots hP (one_few h) ⟨.inl rfl, .inl rfl, .inl rfl, fun _ h => (by cases h), fun _ h => (by cases h), fun _ h => (by cases h)⟩ ⟨(by show (0 : Nat) ≤ 1000; omega), (by show (0 : Nat) ≤ 1000; omega), (by show (0 : Nat) ≤ 1000; omega)⟩
  rw [one_check0] at this
  exact this
end Go.Proofs.Ytholafodachjnaa

/- Z35 -/
/- What a box of spots is, and the example's calls in one form. -/
namespace Go.Proofs.Ytholafodachjnaa
open Go.RowKit Go.Shelf
set_option linter.unusedVariables false
set_option linter.unusedSimpArgs false

theorem own_grownS {w W : World} {base n r m : Nat} {ty : TypeId} {v : Value} {l : List Value} {f : Nat → Value} (hty : ty ≠ 3) (h : w.ownsRow base 3 1 v n l) (hg : w.grownBy W (some r)) (hx : w.rowIs r ty m f) : W.ownsRow base 3 1 v n l := by
  refine ⟨h.1, ?_⟩
  rcases h.2 with h0 | ⟨g, cap, cur, hv, hb, hgg, h1, h2, h3, h4⟩
  · exact .inl h0
  · refine .inr ⟨g, cap, cur, hv, hb, ?_, h1, h2, h3, h4⟩
    rw [hg.block g (Array.getElem?_eq_some_iff.1 hgg).1 (fun e => by
      injection e with e
      subst e
      obtain ⟨c, hc, _⟩ := hx
      rw [hgg] at hc
      injection hc with hc
      injection hc with _ hc
      exact hty hc.symm)]
    exact hgg
theorem SpotNew.grownS {base r m : Nat} {S R : SpotV} {W W' : World} {f : Nat → Value} (h : SpotNew base S R W) (hg : W.grownBy W' (some r)) (hx : W.rowIs r 29 m f) : SpotNew base S R W' :=
  ⟨h.b.imp id (fun x => own_grownS (by decide) x hg hx), h.i.imp id (fun x => own_grownS (by decide) x hg hx), h.o.imp id (fun x => own_grownS (by decide) x hg hx), h.bR, h.iR, h.oR⟩
theorem noAt (W : World) : SpotAt W noSpots := ⟨.inl rfl, .inl rfl, .inl rfl, fun _ h => (by cases h), fun _ h => (by cases h), fun _ h => (by cases h)⟩
theorem SpotNew.anew {base : Nat} {R : SpotV} {W : World} (h : SpotNew base noSpots R W) : SpotAt W R := h.spots (noAt W)
abbrev sp (ba : Option Addr) (bc : Nat) (ia : Option Addr) (ic : Nat) (oa : Option Addr) (oc : Nat) (x y z : Int) : SpotV := ⟨ba, bc, [x], ia, ic, [y], oa, oc, [z]⟩
theorem sp_of {R : SpotV} {x y z : Int} (h : R.data = ⟨[x], [y], [z]⟩) : ∃ ba bc ia ic oa oc, R = sp ba bc ia ic oa oc x y z := by
  obtain ⟨ba, bc, bs, ia, ic, is, oa, oc, os⟩ := R
  injection h with h1 h2 h3
  dsimp only at h1 h2 h3
  subst h1 h2 h3
  exact ⟨ba, bc, ia, ic, oa, oc, rfl⟩
/-- The example's pack lies here. -/
def PK (W : World) (v : Value) : Prop := ∃ h, v = (oneV h).val ∧ PackAt W (oneV h)
theorem PK.below {w w' : World} {B : Nat} {v : Value} (h : PK w v) (hb : Below B w w') (hB : w.heap.size ≤ B) : PK w' v := by
  obtain ⟨h, h1, h2⟩ := h
  exact ⟨h, h1, h2.below hb hB⟩
theorem lv0 (W : World) : Calls Try.prog 27 #[] W fun e w' => ∃ v, e = .returned v ∧ PK w' v ∧ Below W.heap.size W w' := by
  refine Calls.mono (one27 W) ?_
  rintro e w' ⟨h1, h2, h3⟩
  exact ⟨_, h1, ⟨_, rfl, h2⟩, h3⟩
theorem lv1 (W : World) (v : Value) (hP : PK W v) : Calls Try.prog 17 #[.agg #[.int .i64 2, .int .i64 1, .int .i64 1], v] W fun e w' => ∃ ba bc ia ic oa oc, e = .returned (.tuple #[.agg #[.slice ba 1 bc, .slice ia 1 ic, .slice oa 1 oc], .int .i64 0]) ∧ SpotNew W.heap.size noSpots (sp ba bc ia ic oa oc 0 0 1) w' ∧ Below W.heap.size W w' := by
  obtain ⟨h, rfl, hP⟩ := hP
  refine Calls.mono (live1 W h hP) ?_
  rintro e w' ⟨R, h1, h2, h3, h4⟩
  obtain ⟨ba, bc, ia, ic, oa, oc, rfl⟩ := sp_of h2
  exact ⟨ba, bc, ia, ic, oa, oc, h1, h3, h4⟩
theorem lv2 (W : World) (v : Value) (hP : PK W v) (ba : Option Addr) (bc : Nat) (ia : Option Addr) (ic : Nat) (oa : Option Addr) (oc : Nat) (hS : SpotAt W (sp ba bc ia ic oa oc 0 0 1)) : Calls Try.prog 13 #[.agg #[.int .i64 2, .int .i64 1, .int .i64 1], v, .agg #[.slice ba 1 bc, .slice ia 1 ic, .slice oa 1 oc]] W fun e w' => e = .returned (.tuple #[.int .i64 4, .int .i64 0]) ∧ Below W.heap.size W w' := by
  obtain ⟨h, rfl, hP⟩ := hP
  exact live2 W h (sp ba bc ia ic oa oc 0 0 1) hP hS rfl
theorem lv3 (W : World) (v : Value) (hP : PK W v) (ba : Option Addr) (bc : Nat) (ia : Option Addr) (ic : Nat) (oa : Option Addr) (oc : Nat) (hS : SpotAt W (sp ba bc ia ic oa oc 1 0 2)) : Calls Try.prog 13 #[.agg #[.int .i64 2, .int .i64 1, .int .i64 1], v, .agg #[.slice ba 1 bc, .slice ia 1 ic, .slice oa 1 oc]] W fun e w' => e = .returned (.tuple #[.int .i64 6, .int .i64 0]) ∧ Below W.heap.size W w' := by
  obtain ⟨h, rfl, hP⟩ := hP
  exact live3 W h (sp ba bc ia ic oa oc 1 0 2) hP hS rfl
theorem lv4 (W : World) (v : Value) (hP : PK W v) (ba : Option Addr) (bc : Nat) (ia : Option Addr) (ic : Nat) (oa : Option Addr) (oc : Nat) (hS : SpotAt W (sp ba bc ia ic oa oc 1 0 2)) : Calls Try.prog 19 #[.agg #[.int .i64 2, .int .i64 1, .int .i64 1], v, .agg #[.slice ba 1 bc, .slice ia 1 ic, .slice oa 1 oc], .int .i64 1, .int .i64 0] W fun e w' => ∃ rba rbc ria ric roa roc, e = .returned (.tuple #[.agg #[.slice rba 1 rbc, .slice ria 1 ric, .slice roa 1 roc], .bool true, .int .i64 0]) ∧ SpotNew W.heap.size (sp ba bc ia ic oa oc 1 0 2) (sp rba rbc ria ric roa roc 0 0 2) w' ∧ Below W.heap.size W w' := by
  obtain ⟨h, rfl, hP⟩ := hP
  refine Calls.mono (live4 W h (sp ba bc ia ic oa oc 1 0 2) hP hS rfl) ?_
  rintro e w' ⟨R, h1, h2, h3, h4⟩
  obtain ⟨rba, rbc, ria, ric, roa, roc, rfl⟩ := sp_of h2
  exact ⟨rba, rbc, ria, ric, roa, roc, h1, h3, h4⟩
theorem lv5 (W : World) (v : Value) (hP : PK W v) : Calls Try.prog 22 #[.agg #[.int .i64 2, .int .i64 1, .int .i64 1], v, .slice none 0 0] W fun e w' => ∃ ba bc ia ic oa oc, e = .returned (.tuple #[.agg #[.slice ba 1 bc, .slice ia 1 ic, .slice oa 1 oc], .int .i64 0]) ∧ SpotNew W.heap.size noSpots (sp ba bc ia ic oa oc 0 0 1) w' ∧ Below W.heap.size W w' := by
  obtain ⟨h, rfl, hP⟩ := hP
  refine Calls.mono (live5 W h hP) ?_
  rintro e w' ⟨R, h1, h2, h3, h4⟩
  obtain ⟨ba, bc, ia, ic, oa, oc, rfl⟩ := sp_of h2
  exact ⟨ba, bc, ia, ic, oa, oc, h1, h3, h4⟩
theorem lv6 (W : World) (v : Value) (hP : PK W v) (ba : Option Addr) (bc : Nat) (ia : Option Addr) (ic : Nat) (oa : Option Addr) (oc : Nat) (hS : SpotAt W (sp ba bc ia ic oa oc 0 0 1)) : Calls Try.prog 15 #[.agg #[.int .i64 2, .int .i64 1, .int .i64 1], v, .agg #[.slice ba 1 bc, .slice ia 1 ic, .slice oa 1 oc]] W fun e w' => e = .returned (.int .i64 0) ∧ Below W.heap.size W w' := by
  obtain ⟨h, rfl, hP⟩ := hP
  exact live6 W h (sp ba bc ia ic oa oc 0 0 1) hP hS rfl
theorem lv7 (W : World) (v : Value) (hP : PK W v) : Calls Try.prog 15 #[.agg #[.int .i64 2, .int .i64 1, .int .i64 1], v, .agg #[.slice none 0 0, .slice none 0 0, .slice none 0 0]] W fun e w' => e = .returned (.int .i64 1) ∧ Below W.heap.size W w' := by
  obtain ⟨h, rfl, hP⟩ := hP
  exact live7 W h hP
theorem lv8 (W : World) (ba : Option Addr) (bc : Nat) (ia : Option Addr) (ic : Nat) (oa : Option Addr) (oc : Nat) (rba : Option Addr) (rbc : Nat) (ria : Option Addr) (ric : Nat) (roa : Option Addr) (roc : Nat) (hS : SpotAt W (sp ba bc ia ic oa oc 0 0 1)) (hR : SpotAt W (sp rba rbc ria ric roa roc 0 0 1)) : Calls Try.prog 21 #[.agg #[.slice rba 1 rbc, .slice ria 1 ric, .slice roa 1 roc], .agg #[.slice ba 1 bc, .slice ia 1 ic, .slice oa 1 oc]] W fun e w' => e = .returned (.bool true) ∧ Below W.heap.size W w' :=
  same21 W (sp rba rbc ria ric roa roc 0 0 1) (sp ba bc ia ic oa oc 0 0 1) hR hS rfl rfl rfl (by show (1 : Nat) ≤ 1000; omega) (by show (1 : Nat) ≤ 1000; omega) (by show (1 : Nat) ≤ 1000; omega)
/-- A box of spots behind what lay at 'base'. -/
structure SB (base W : World) (B : Nat) (ba : Option Addr) (bc : Nat) (ia : Option Addr) (ic : Nat) (oa : Option Addr) (oc : Nat) (x y z : Int) : Prop where
  below : Below base.heap.size base W
  row : W.rowIs B 29 3 (fun i => ([.slice ba 1 bc, .slice ia 1 ic, .slice oa 1 oc] : List Value).getD i undef)
  at_ : SpotAt W (sp ba bc ia ic oa oc x y z)
theorem SB.cells {base W : World} {B : Nat} {ba : Option Addr} {bc : Nat} {ia : Option Addr} {ic : Nat} {oa : Option Addr} {oc : Nat} {x y z : Int} (h : SB base W B ba bc ia ic oa oc x y z) : ∀ V, Below W.heap.size W V → (V.cell? ⟨B, 0, none⟩ = some (.slice ba 1 bc) ∧ V.cell? ⟨B, 1, none⟩ = some (.slice ia 1 ic) ∧ V.cell? ⟨B, 2, none⟩ = some (.slice oa 1 oc)) := fun V hV => by
  have r := h.row.of_block (hV.block B h.row.lt)
  exact ⟨r.cell (by omega), r.cell (by omega), r.cell (by omega)⟩
theorem one_cell {W : World} {a : Option Addr} {x : Int} (h : Seq W a ([x] : List Int).length (ints [x])) : ∃ b k, a = some ⟨b, k, none⟩ ∧ b < W.heap.size ∧ W.cell? ⟨b, k, none⟩ = some (.int .i64 x) := by
  obtain ⟨b, off, h1, h2, h3⟩ := h.at 0 (by show 0 < 1; omega)
  exact ⟨b, off, h1, h2, h3 0 (by show 0 < 1; omega)⟩
theorem SB.lists {base W : World} {B : Nat} {ba : Option Addr} {bc : Nat} {ia : Option Addr} {ic : Nat} {oa : Option Addr} {oc : Nat} {x y z : Int} (h : SB base W B ba bc ia ic oa oc x y z) : ∃ b1 k1 b2 k2 b3 k3, ba = some ⟨b1, k1, none⟩ ∧ ia = some ⟨b2, k2, none⟩ ∧ oa = some ⟨b3, k3, none⟩ ∧
    ∀ V, Below W.heap.size W V → (V.cell? ⟨b1, k1, none⟩ = some (.int .i64 x) ∧ V.cell? ⟨b2, k2, none⟩ = some (.int .i64 y) ∧ V.cell? ⟨b3, k3, none⟩ = some (.int .i64 z)) := by
  obtain ⟨b1, k1, e1, l1, c1⟩ := one_cell h.at_.b
  obtain ⟨b2, k2, e2, l2, c2⟩ := one_cell h.at_.i
  obtain ⟨b3, k3, e3, l3, c3⟩ := one_cell h.at_.o
  exact ⟨b1, k1, b2, k2, b3, k3, e1, e2, e3, fun V hV => ⟨(hV.cell (p := ⟨b1, k1, none⟩) l1).trans c1, (hV.cell (p := ⟨b2, k2, none⟩) l2).trans c2, (hV.cell (p := ⟨b3, k3, none⟩) l3).trans c3⟩⟩
theorem SB.later {base W V : World} {B : Nat} {ba : Option Addr} {bc : Nat} {ia : Option Addr} {ic : Nat} {oa : Option Addr} {oc : Nat} {x y z : Int} (h : SB base W B ba bc ia ic oa oc x y z) (hV : Below W.heap.size W V) : SB base V B ba bc ia ic oa oc x y z :=
  ⟨h.below.trans (hV.mono h.below.size), h.row.of_block (hV.block B h.row.lt), h.at_.below hV (Nat.le_refl _)⟩
end Go.Proofs.Ytholafodachjnaa
