/- No two alike (alone), by a map. -/
import Derived.Test.YtholafodachjnaaZ3
namespace Go.Proofs.Ytholafodachjnaa
open Go.RowKit Go.Shelf Go.Maps
set_option linter.unusedVariables false
set_option linter.unusedSimpArgs false

theorem BMap.same {w : World} {mb cnt : Nat} {g g' : Int → Bool} (h : BMap w mb cnt g) (hg : ∀ x, g x = g' x) : BMap w mb cnt g' := by
  have : g = g' := funext hg
  rw [← this]; exact h
def seenB (l : List Int) (i : Nat) (x : Int) : Bool := (List.range i).any (fun k => l.getD k 0 == x)
theorem seen_next (l : List Int) (i : Nat) (y : Int) : seenB l (i + 1) y = (if y = l.getD i 0 then true else seenB l i y) := by
  unfold seenB
  rw [List.range_succ, List.any_append]
  by_cases h : y = l.getD i 0
  · rw [if_pos h]; simp [h]
  · rw [if_neg h]
    have : (l.getD i 0 == y) = false := by simpa using fun e => h e.symm
    simp only [List.any_cons, List.any_nil, this, Bool.or_false]
set_option maxRecDepth 100000 in
set_option maxHeartbeats 2000000 in
theorem alone32 (w : World) (a : Option Addr) (n c : Nat) (l : List Int) (most : Int) (hn : l.length = n) (ha : Seq w a n (ints l)) (hr64 : ∀ x ∈ l, I64 x) (h9 : n ≤ 100000) :
    Calls Try.prog 32 #[.slice a n c, .int .i64 most] w fun e w' => e = .returned (.bool (aloneB l most)) ∧ Below w.heap.size w w' := by
  have HA := Lib.hid ha
  have HN := Lib.hid hn
  have H64 := Lib.hid hr64
  obtain ⟨r, hr⟩ : ∃ r, r = aloneB l most := ⟨_, rfl⟩
  have HR := Lib.hid hr
  rw [← hr]
  obtain ⟨mb, hmb⟩ : ∃ m, m = w.heap.size := ⟨_, rfl⟩
  have HMb := Lib.hid hmb
  have HM0 := Lib.hid (BMap.made w)
  clear ha hn hr hr64 hmb
  have hmm := @run_makeMap Try.prog
  go_enter Try.func32, Try.ntmps32
  go_wp2_with fail
  (try rw [← HMb.out])
  go_loopg [11] n (fun g iv wr => ∃ i : Nat, g + i = n ∧ iv = .int .i64 i ∧ Hid (Below w.heap.size w wr ∧ BMap wr mb i (seenB l i) ∧ ∀ j, j < i → badA l most j = false))
  case atStart => exact ⟨0, by omega, rfl, Lib.hid ⟨(Below.refl _ _).alloc (Nat.le_refl _) _, by rw [HMb.out]; exact HM0.out, fun j hj => by omega⟩⟩
  case round =>
    obtain ⟨i, hgi, rfl, hh⟩ := hrel
    have HB := Lib.hid hh.out.1
    have HBm := Lib.hid hh.out.2.1
    have HAll := Lib.hid hh.out.2.2
    clear hh
    by_cases hlt : i < n
    · obtain ⟨b, o, rfl, -, hc⟩ := (HA.out.below HB.out (Nat.le_refl _)).at i hlt
      have d0 := hc i hlt
      unfold ints at d0
      have hx64 : I64 (l.getD i 0) := H64.out _ (by
        have : i < l.length := by rw [HN.out]; exact hlt
        simp [List.getD, List.getElem?_eq_getElem this])
      have hbad : badA l most i = (decide (l.getD i 0 < 0) || decide (most ≤ l.getD i 0) || seenB l i (l.getD i 0)) := rfl
      have hnx := fun y => seen_next l i y
      obtain ⟨x, hx⟩ : ∃ x, x = l.getD i 0 := ⟨_, rfl⟩
      rw [← hx] at d0 hbad hx64 hnx
      have hlook := HBm.out.look x hx64
      obtain ⟨w5, hput, hm5, hg5⟩ := HBm.out.put x true hx64 (by omega)
      obtain ⟨gb, hgb⟩ : ∃ g, g = seenB l i x := ⟨_, rfl⟩
      rw [← hgb] at hbad hlook
      have HBad := Lib.hid hbad
      have HNx := Lib.hid hnx
      have HM5 := Lib.hid hm5
      have HG5 := Lib.hid hg5
      clear hc hbad hx hx64 hnx hgb hm5 hg5
      by_cases h1 : x < 0
      · have e1 : decide (x < 0) = true := by simpa using h1
        have HF : Hid (r = false) := Lib.hid (HR.out.trans (aloneB_bad (by rw [HN.out]; exact hlt) (by rw [HBad.out, e1]; rfl)))
        clear h1
        go_wp2_with fail
        go_ret
        exact ⟨by rw [HF.out]; rfl, HB.out⟩
      have e1 : decide (x < 0) = false := by simpa using h1
      by_cases h2 : most ≤ x
      · have e2 : decide (most ≤ x) = true := by simpa using h2
        have HF : Hid (r = false) := Lib.hid (HR.out.trans (aloneB_bad (by rw [HN.out]; exact hlt) (by rw [HBad.out, e1, e2]; rfl)))
        clear h1 h2
        go_wp2_with fail
        go_ret
        exact ⟨by rw [HF.out]; rfl, HB.out⟩
      have e2 : decide (most ≤ x) = false := by simpa using h2
      have HE := Lib.hid (And.intro e1 e2)
      clear h1 h2
      cases gb
      · have HF : Hid (badA l most i = false) := Lib.hid (by rw [HBad.out, HE.out.1, HE.out.2]; rfl)
        go_wp2_with fail
        go_roundg (n - (i + 1))
        case measure => omega
        case rel => exact ⟨i + 1, by omega, by go_num, Lib.hid ⟨HB.out.grown HG5.out HB.out.size (fun k e => by injection e with e; rw [← e, HMb.out]; exact Nat.le_refl _), HM5.out.same (fun y => (HNx.out y).symm), fun j hj => by
          by_cases e : j = i
          · rw [e]; exact HF.out
          · exact HAll.out j (by omega)⟩⟩
      · have HF : Hid (r = false) := Lib.hid (HR.out.trans (aloneB_bad (by rw [HN.out]; exact hlt) (by rw [HBad.out, HE.out.1, HE.out.2]; rfl)))
        go_wp2_with fail
        go_ret
        exact ⟨by rw [HF.out]; rfl, HB.out⟩
    · have hin : i = n := by omega
      have HF : Hid (r = true) := Lib.hid (HR.out.trans (aloneB_ok (fun j hj => HAll.out j (by rw [HN.out] at hj; omega))))
      go_wp2_with fail
      go_ret
      exact ⟨by rw [HF.out]; rfl, HB.out⟩
end Go.Proofs.Ytholafodachjnaa
