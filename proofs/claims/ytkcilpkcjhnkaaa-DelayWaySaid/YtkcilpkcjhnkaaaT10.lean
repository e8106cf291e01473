import Derived.Test.YtkcilpkcjhnkaaaT9
namespace Go.Proofs.Ytkcilpkcjhnkaaa
open Go.RowKit

theorem set_mid (P Z : List Int) (m m' : Int) (n : Nat) (h : n = P.length) : ((P ++ m :: Z).map (Value.int .i64)).set n (.int .i64 m') = (P ++ m' :: Z).map (Value.int .i64) := by
  subst h
  simp

theorem getD_left (P Z : List Int) (n : Nat) (h : n < P.length) : (P ++ Z).getD n 0 = P.getD n 0 := by
  simp [List.getD, List.getElem?_append_left h]

theorem getD_mid (P Z : List Int) (m : Int) (n : Nat) (h : n = P.length) : (P ++ m :: Z).getD n 0 = m := by
  subst h
  simp [List.getD]

theorem costBad (w : World) (a : Option Addr) (n c : Nat) (cost : List Int) (hlen : cost.length = n) (hn : n ≤ 300) (S : Seq w a n (ints cost)) :
    Calls Try.prog 32 #[.slice a n c, .func (.func 31) #[] #[]] w fun e w' => e = .returned (.bool (cost.any fun x => !(decide (0 ≤ x) && decide (x ≤ 1048576)))) ∧ w = w' :=
  containsFunc w a n c cost hlen S (by omega) 31 (enters_of Try.func31 (by kernel_rfl) rfl) #[] _ (fun x _ => bad w x)

theorem arrive_bad (w : World) (N : NetV) (h : NetAt w N) (f : Few N) (a : Option Addr) (n c : Nat) (cost : List Int) (hlen : cost.length = n) (hn : n ≤ 300) (S : Seq w a n (ints cost)) (ok : ¬ CostOk N cost) :
    Calls Try.prog 15 #[N.val, .slice a n c] w (NewInts w [] 1) := by
  have HBX := Lib.hid (Box.start w N)
  have C := check (w.alloc N.obj) N (h.below HBX.out.below (Nat.le_refl _)) f 6 (by omega)
  have D := fun W (hW : Below w.heap.size w W) => costBad W a n c cost hlen hn (S.below hW (Nat.le_refl _))
  obtain ⟨cb, hcb⟩ : ∃ cb, cb = cost.any fun x => !(decide (0 ≤ x) && decide (x ≤ 1048576)) := ⟨_, rfl⟩
  rw [← hcb] at D
  have HD := Lib.hid D
  have HCb := Lib.hid hcb
  have HOk := Lib.hid ok
  have HLen := Lib.hid hlen
  have hf2 := f.luts
  clear D hcb S ok hlen h f
  rcases chk_cases N 6 with ⟨hc, nok⟩ | ⟨hc, nok⟩
  · rw [hc] at C
    have HC := Lib.hid C
    have HNk := Lib.hid nok
    clear C nok hc
    by_cases hnl : n = N.luts.length
    · have hnl' : ((n : Int) != N.luts.length) = false := by rw [bne_eq_false_iff_eq]; omega
      have HN := Lib.hid hnl
      clear hnl
      obtain rfl : cb = true := by
        rw [HCb.out]
        cases hx : cost.any fun x => !(decide (0 ≤ x) && decide (x ≤ 1048576))
        · exfalso
          rw [List.any_eq_false] at hx
          refine HOk.out ⟨HNk.out, by rw [HLen.out, HN.out], fun x hm => ?_⟩
          have := hx x hm
          simp at this
          omega
        · rfl
      go_enter Try.func15, Try.ntmps15
      go_wp2_with fail
      refine HC.out.mono ?_
      rintro e w1 ⟨rfl, hb1⟩
      have hbx := HBX.out.step hb1 (by simp)
      have c2 := hbx.c2
      have HBx := Lib.hid hbx
      clear hbx
      go_wp2_with fail
      refine (HD.out _ HBx.out.below).mono ?_
      rintro e w2 ⟨rfl, rfl⟩
      go_wp2
      go_ret2
      exact ⟨_, rfl, World.ownsRow_nil _ _ _ _, HBx.out.below⟩
    · have hnl' : ((n : Int) != N.luts.length) = true := by rw [bne_iff_ne]; omega
      have HN := Lib.hid hnl
      clear hnl
      go_enter Try.func15, Try.ntmps15
      go_wp2_with fail
      refine HC.out.mono ?_
      rintro e w1 ⟨rfl, hb1⟩
      have hbx := HBX.out.step hb1 (by simp)
      have c2 := hbx.c2
      have HBx := Lib.hid hbx
      clear hbx
      go_wp2
      go_ret2
      exact ⟨_, rfl, World.ownsRow_nil _ _ _ _, HBx.out.below⟩
  · rw [hc] at C
    have HC := Lib.hid C
    clear C
    go_enter Try.func15, Try.ntmps15
    go_wp2_with fail
    refine HC.out.mono ?_
    rintro e w1 ⟨rfl, hb1⟩
    have HBx := Lib.hid (HBX.out.step hb1 (by simp))
    go_wp2
    go_ret2
    exact ⟨_, rfl, World.ownsRow_nil _ _ _ _, HBx.out.below⟩
end Go.Proofs.Ytkcilpkcjhnkaaa
