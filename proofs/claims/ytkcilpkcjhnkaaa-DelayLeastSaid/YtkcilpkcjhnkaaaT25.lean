import Derived.Test.YtkcilpkcjhnkaaaT24
import Derived.Test.YtkcilpkcjhnkaaaT21
namespace Go.Proofs.Ytkcilpkcjhnkaaa
open Go.RowKit

open Classical in
/-- The number of steps in which values come to rest (if they do). -/
noncomputable def restS (N : NetV) (now : List Bool) : Nat := if h : ∃ s, Rest N now s then h.choose else 0

theorem Rest.eq {N : NetV} {now : List Bool} {s : Nat} (h : Rest N now s) : restS N now = s := by
  have hx : ∃ s, Rest N now s := ⟨s, h⟩
  unfold restS
  rw [dif_pos hx]
  exact hx.choose_spec.unique h

open Classical in
noncomputable def waitO (N : NetV) (was inn st : List Bool) : List Bool :=
  if WaitOk N was.length inn.length st.length then iterV N (now0 N was inn st) (restS N (now0 N was inn st)) else []
open Classical in
noncomputable def waitS (N : NetV) (was inn st : List Bool) : Nat :=
  if WaitOk N was.length inn.length st.length then restS N (now0 N was inn st) else 0
open Classical in
noncomputable def waitE (N : NetV) (was inn st : List Bool) : Int := if WaitOk N was.length inn.length st.length then 0 else 1

theorem newWait_of {w : World} {N : NetV} {was inn st : List Bool} {e : Ending} {w' : World} (ok : WaitOk N was.length inn.length st.length)
    (h : ∃ s : Nat, Rest N (now0 N was inn st) s ∧ s ≤ N.luts.length ∧ NewWait w (iterV N (now0 N was inn st) s) s 0 e w') :
    NewWait w (waitO N was inn st) (waitS N was inn st) (waitE N was inn st) e w' := by
  obtain ⟨s, r, _, h⟩ := h
  rw [waitO, if_pos ok, waitS, if_pos ok, waitE, if_pos ok, r.eq]
  exact h

section
variable (w : World) (N : NetV) (h : NetAt w N) (f : Few N) (a0 a1 a2 : Option Addr) (c0 c1 c2 : Nat) (was inn st : List Bool) (S0 : Seq w a0 was.length (bools was)) (S1 : Seq w a1 inn.length (bools inn)) (S2 : Seq w a2 st.length (bools st))
    (b0 : was.length ≤ 500) (b1 : inn.length ≤ 300) (b2 : st.length ≤ 300) (hc0 : was.length ≤ c0) (hc1 : c0 ≤ 9223372036854775807)
include h f S0 S1 S2 b0 b1 b2 hc0 hc1
theorem wait : Calls Try.prog 23 #[N.val, .slice a0 was.length c0, .slice a1 inn.length c1, .slice a2 st.length c2] w (NewWait w (waitO N was inn st) (waitS N was inn st) (waitE N was inn st)) := by
  by_cases ok : WaitOk N was.length inn.length st.length
  · exact (wait_ok w N h f a0 a1 a2 c0 c1 c2 was inn st S0 S1 S2 b0 b1 b2 hc0 hc1 ok).mono fun e w' k => newWait_of ok k
  · rw [waitO, if_neg ok, waitS, if_neg ok, waitE, if_neg ok]
    exact wait_bad w N h f a0 a1 a2 _ c0 _ c1 _ c2 b0 b1 b2 ok

theorem waitR : Calls Try.prog 24 #[N.val, .slice a0 was.length c0, .slice a1 inn.length c1, .slice a2 st.length c2] w (NewWait w (waitO N was inn st) (waitS N was inn st) (waitE N was inn st)) := by
  by_cases ok : WaitOk N was.length inn.length st.length
  · exact (waitR_ok w N h f a0 a1 a2 c0 c1 c2 was inn st S0 S1 S2 b0 b1 b2 hc0 hc1 ok).mono fun e w' k => newWait_of ok k
  · rw [waitO, if_neg ok, waitS, if_neg ok, waitE, if_neg ok]
    exact waitR_bad w N h f a0 a1 a2 _ c0 _ c1 _ c2 b0 b1 b2 ok
end

/-- When it ends, it has come to rest, in no more steps than there are tables. -/
theorem WaitOk.rests {N : NetV} {was inn st : List Bool} (ok : WaitOk N was.length inn.length st.length) : Rest N (now0 N was inn st) (restS N (now0 N was inn st)) ∧ restS N (now0 N was inn st) ≤ N.luts.length := by
  have hin : ∀ i, i < N.luts.length → ∀ k ∈ (N.luts.getD i default).ins, 0 ≤ k ∧ k.toNat < firstN N + i := fun i hi k hk => by
    have := (ok.net.lut i hi).ins k hk
    have := firstN_eq ok.net.ins0
    omega
  have hr := rest_at hin (now0 N was inn st) (now0_length N was inn st ok)
  have hex : ∃ s, s ≤ N.luts.length ∧ Rest N (now0 N was inn st) s := by
    have key : ∀ n, (∀ t, t < n → stepV N (iterV N (now0 N was inn st) t) ≠ iterV N (now0 N was inn st) t) ∨ ∃ s, s < n ∧ Rest N (now0 N was inn st) s := by
      intro n
      induction n with
      | zero => exact .inl fun t h => by omega
      | succ n ih =>
        rcases ih with ih | ⟨s, hs, r⟩
        · by_cases hn : stepV N (iterV N (now0 N was inn st) n) = iterV N (now0 N was inn st) n
          · exact .inr ⟨n, by omega, hn, ih⟩
          · refine .inl fun t ht => ?_
            rcases Nat.lt_or_ge t n with h | h
            · exact ih t h
            · obtain rfl : t = n := by omega
              exact hn
        · exact .inr ⟨s, by omega, r⟩
    rcases key (N.luts.length + 1) with h | ⟨s, hs, r⟩
    · exact absurd (hr N.luts.length (Nat.le_refl _)) (h _ (by omega))
    · exact ⟨s, by omega, r⟩
  obtain ⟨s, hs, r⟩ := hex
  rw [r.eq]
  exact ⟨r, hs⟩

theorem waitO_length (N : NetV) (was inn st : List Bool) (f : Few N) : (waitO N was inn st).length ≤ 401 := by
  unfold waitO
  split
  · rename_i ok
    have h1 := f.ins
    have h2 := f.holds
    have h3 := f.luts
    have hin : ∀ i, i < N.luts.length → ∀ k ∈ (N.luts.getD i default).ins, 0 ≤ k ∧ k.toNat < firstN N + i := fun i hi k hk => by
      have := (ok.net.lut i hi).ins k hk
      have := firstN_eq ok.net.ins0
      omega
    have hl := iterV_length (N := N) (now := now0 N was inn st) hin (now0_length N was inn st ok) (restS N (now0 N was inn st))
    rw [hl, firstN]; omega
  · simp
end Go.Proofs.Ytkcilpkcjhnkaaa
