/- How far places reach. -/
import Derived.Test.YtholafodachjnaaZ17
namespace Go.Proofs.Ytholafodachjnaa
open Go.RowKit Go.Shelf
set_option linter.unusedVariables false
set_option linter.unusedSimpArgs false

abbrev Pt := Int × Int
def pairCell (l : List Pt) (j : Nat) : Value := if j % 2 = 0 then .int .i64 (l.getD (j / 2) (0, 0)).1 else .int .i64 (l.getD (j / 2) (0, 0)).2
/-- A place's part: the first, or the second. -/
def co (k : Nat) (z : Pt) : Int := if k = 0 then z.1 else z.2
theorem pairCell_at (l : List Pt) (i k : Nat) (hk : k < 2) : pairCell l (i * 2 + k) = .int .i64 (co k (l.getD i (0, 0))) := by
  unfold pairCell co
  rcases (by omega : k = 0 ∨ k = 1) with rfl | rfl
  · rw [if_pos (by omega), if_pos rfl, show (i * 2 + 0) / 2 = i by omega]
  · rw [if_neg (by omega), if_neg (by omega), show (i * 2 + 1) / 2 = i by omega]
def reachTo (l : List Pt) : Nat → Int
  | 0 => 0
  | k + 1 => reachTo l k + reachL (l.map (co k))
theorem reachTo_two (l : List Pt) : reachTo l 2 = reachL (l.map fun z => z.1) + reachL (l.map fun z => z.2) := by
  simp only [reachTo]
  have e0 : (co 0 : Pt → Int) = fun z => z.1 := rfl
  have e1 : (co 1 : Pt → Int) = fun z => z.2 := rfl
  rw [e0, e1, Int.zero_add]
def PtIn (l : List Pt) : Prop := ∀ z ∈ l, (0 ≤ z.1 ∧ z.1 ≤ 32) ∧ 0 ≤ z.2 ∧ z.2 ≤ 32
theorem PtIn.co {l : List Pt} (h : PtIn l) (k : Nat) : ∀ x ∈ l.map (co k), 0 ≤ x ∧ x ≤ 32 := fun x hx => by
  obtain ⟨z, hz, rfl⟩ := List.mem_map.1 hx
  have := h z hz
  unfold Proofs.Ytholafodachjnaa.co
  split
  · exact this.1
  · exact this.2
theorem reachTo_in {l : List Pt} (h : PtIn l) : ∀ k, 0 ≤ reachTo l k ∧ reachTo l k ≤ 32 * k
  | 0 => by simp [reachTo]
  | k + 1 => by
    have h1 := reachTo_in h k
    have h2 := reachL_in (h.co k)
    simp only [reachTo]
    omega
/-- The first i of a list, and the first one once more, have these ends. -/
def HeadEnds (l : List Pt) (k i : Nat) (lo hi : Int) : Prop := Ends (co k (l.getD 0 (0, 0)) :: (l.take i).map (co k)) lo hi
theorem HeadEnds.zero (l : List Pt) (k : Nat) : HeadEnds l k 0 (co k (l.getD 0 (0, 0))) (co k (l.getD 0 (0, 0))) := by
  unfold HeadEnds
  exact Ends.one _
theorem HeadEnds.succ {l : List Pt} {k i : Nat} {lo hi : Int} (h : HeadEnds l k i lo hi) (hi' : i < l.length) : HeadEnds l k (i + 1) (min lo (co k (l.getD i (0, 0)))) (max hi (co k (l.getD i (0, 0)))) := by
  unfold HeadEnds at h ⊢
  have := h.snoc (co k (l.getD i (0, 0)))
  rw [List.take_add_one, List.getElem?_eq_getElem hi', List.map_append]
  have e : l.getD i (0, 0) = l[i] := by simp [List.getD, List.getElem?_eq_getElem hi']
  rw [e] at this ⊢
  exact this
theorem HeadEnds.all {l : List Pt} {k : Nat} {lo hi : Int} (h : HeadEnds l k l.length lo hi) (hl : 0 < l.length) : reachL (l.map (co k)) = hi - lo := by
  have h2 : Ends (l.map (co k)) lo hi := by
    unfold HeadEnds at h
    rw [List.take_length] at h
    have hm : co k (l.getD 0 (0, 0)) ∈ l.map (co k) := List.mem_map.2 ⟨_, by
      have e : l.getD 0 (0, 0) = l[0] := by simp [List.getD, List.getElem?_eq_getElem hl]
      rw [e]; exact List.getElem_mem hl, rfl⟩
    have hs : ∀ x, x ∈ co k (l.getD 0 (0, 0)) :: l.map (co k) ↔ x ∈ l.map (co k) := fun x => by
      rw [List.mem_cons]
      constructor
      · rintro (rfl | h)
        · exact hm
        · exact h
      · exact Or.inr
    exact ⟨(hs _).1 h.lo, (hs _).1 h.hi, fun x hx => h.all x ((hs _).2 hx)⟩
  exact reachL_ends h2
theorem HeadEnds.in_ {l : List Pt} {k i : Nat} {lo hi : Int} (h : HeadEnds l k i lo hi) (hp : PtIn l) (hl : 0 < l.length) : (0 ≤ lo ∧ lo ≤ 32) ∧ 0 ≤ hi ∧ hi ≤ 32 := by
  have key : ∀ x ∈ co k (l.getD 0 (0, 0)) :: (l.take i).map (co k), 0 ≤ x ∧ x ≤ 32 := fun x hx => by
    refine hp.co k x ?_
    rw [List.mem_cons] at hx
    rcases hx with rfl | hx
    · refine List.mem_map.2 ⟨_, ?_, rfl⟩
      have e : l.getD 0 (0, 0) = l[0] := by simp [List.getD, List.getElem?_eq_getElem hl]
      rw [e]; exact List.getElem_mem hl
    · obtain ⟨z, hz, rfl⟩ := List.mem_map.1 hx
      exact List.mem_map.2 ⟨z, List.mem_of_mem_take hz, rfl⟩
  exact ⟨key _ h.lo, key _ h.hi⟩
set_option maxRecDepth 100000 in
set_option maxHeartbeats 4000000 in
theorem reach52 (w : World) (a : Option Addr) (n c : Nat) (l : List Pt) (hl : l.length = n) (h0 : 0 < n) (hn : n ≤ 100000) (hs : Seq w a (2 * n) (pairCell l)) (hp : PtIn l) :
    Calls Try.prog 52 #[.slice a n c] w fun e w' => e = .returned (.int .i64 (reachL (l.map fun z => z.1) + reachL (l.map fun z => z.2))) ∧ w = w' := by
  rw [← reachTo_two]
  obtain ⟨b, off, rfl, hb, hc⟩ := hs.at 0 (by omega)
  have HC : Hid (∀ i k, i < n → k < 2 → w.cell? ⟨b, off + i * 2 + k, none⟩ = some (.int .i64 (co k (l.getD i (0, 0))))) := Lib.hid fun i k hi hk => by
    have := hc (i * 2 + k) (by omega)
    rw [pairCell_at l i k hk] at this
    rwa [Nat.add_assoc]
  have HP := Lib.hid hp
  have HL := Lib.hid hl
  have hn0 : decide ((0 : Int) < (n : Int)) = true := by simp; omega
  have M3 := @run_min2 Try.prog
  have M2 := @run_maxB Try.prog
  clear hs hb hc hp hl
  go_enter Try.func52, Try.ntmps52
  go_wp2_with fail
  go_loopw [3, 4, 5, 6, 7] (fun nv kv lo hi iv wr => ∃ (k : Nat) (m : Int), k ≤ 2 ∧ kv = .int .i64 k ∧ nv = .int .i64 m ∧ w = wr ∧ Hid (m = reachTo l k)) (fun _ kv _ _ _ _ => 2 - (intOf kv).toNat)
  case atStart => exact ⟨0, 0, by omega, rfl, rfl, rfl, Lib.hid rfl⟩
  case round =>
    obtain ⟨k, m, hk, rfl, rfl, rfl, hh⟩ := hrel
    by_cases hlt : k < 2
    · have e0 := HC.out 0 k h0 hlt
      obtain ⟨z0, hz0⟩ : ∃ z, z = co k (l.getD 0 (0, 0)) := ⟨_, rfl⟩
      rw [← hz0, Nat.zero_mul, Nat.add_zero] at e0
      have HE0 := HeadEnds.zero l k
      rw [← hz0] at HE0
      have HE := Lib.hid HE0
      clear HE0 hz0
      go_wp2_with fail
      go_loopw [5, 6, 7] (fun lo hi iv wr => ∃ (i : Nat) (x y : Int), i ≤ n ∧ iv = .int .i64 i ∧ lo = .int .i64 x ∧ hi = .int .i64 y ∧ w = wr ∧ Hid (HeadEnds l k i x y)) (fun _ _ iv _ => n - (intOf iv).toNat)
      case atStart => exact ⟨0, z0, z0, by omega, (by first | rfl | trivial), (by first | rfl | trivial), (by first | rfl | trivial), (by first | rfl | trivial), HE⟩
      case round =>
        obtain ⟨i, x, y, hi, rfl, rfl, rfl, rfl, hx⟩ := hrel
        by_cases hin : i < n
        · have e1 := HC.out i k hin hlt
          have HN := Lib.hid (hx.out.succ (by rw [HL.out]; exact hin))
          obtain ⟨z1, hz1⟩ : ∃ z, z = co k (l.getD i (0, 0)) := ⟨_, rfl⟩
          rw [← hz1] at e1 HN
          clear hz1 hx
          go_wp2_with fail
          go_roundw
          case rel => exact ⟨i + 1, _, _, by omega, by go_num, (by first | rfl | trivial), (by first | rfl | trivial), (by first | rfl | trivial), HN⟩
          case measure => simp [intOf]; omega
        · obtain rfl : i = n := by omega
          have hin' := hx.out.in_ HP.out (by rw [HL.out]; exact h0)
          have hsum : m + y - x = reachTo l (k + 1) := by
            have := hx.out
            rw [← HL.out] at this
            have := this.all (by rw [HL.out]; exact h0)
            simp only [reachTo]
            rw [this, hh.out]
            omega
          have hm := reachTo_in HP.out k
          rw [← hh.out] at hm
          have HR := Lib.hid hsum
          have F1 : wrap64 (m + y) = m + y := wrap64s (by omega) (by omega)
          have F2 : wrap64 (m + y - x) = m + y - x := wrap64s (by have := reachTo_in HP.out (k + 1); omega) (by omega)
          clear hx hh hin' hsum hm
          go_wp2_with fail
          go_roundw
          case rel => exact ⟨k + 1, m + y - x, by omega, by go_num, (by first | rfl | trivial | (go_simp; done)), (by first | rfl | trivial), HR⟩
          case measure => simp [intOf]; omega
    · obtain rfl : k = 2 := by omega
      go_wp2_with fail
      go_ret
      exact ⟨by rw [hh.out]; rfl, rfl⟩
end Go.Proofs.Ytholafodachjnaa
