/- What a net tells and keeps, once (lutmap.Eval). -/
import Derived.Test.YtibimdhmfchcoaaS5
namespace Go.Proofs.Ytibimdhmfchcoaa
open Go.RowKit Go.Shelf Go.Maps
set_option linter.unusedVariables false
set_option linter.unusedSimpArgs false

set_option maxRecDepth 100000 in
set_option maxHeartbeats 8000000 in
theorem eval21 (w : World) (N : NetV) (hN : NetAt w N) (hf : Few N) (hok : NetOk N 6) (a1 a2 : Option Addr) (c1 c2 : Nat) (inn st : List Bool) (S1 : Seq w a1 inn.length (bools inn)) (S2 : Seq w a2 st.length (bools st))
    (h2 : (inn.length : Int) = N.ins) (h3 : st.length = N.holds.length) :
    Calls Try.prog 21 #[N.val, .slice a1 inn.length c1, .slice a2 st.length c2] w fun e w' => ∃ p1 d1 p2 d2, e = .returned (.tuple #[.slice p1 (netOut N (netV N inn st)).length d1, .slice p2 (netNext N (netV N inn st)).length d2, .int .i64 0]) ∧
      Wir w' w.heap.size p1 (netOut N (netV N inn st)).length (fun j => (netOut N (netV N inn st)).getD j false) ∧ Below w.heap.size w w' := by
  have HX := Lib.hid (Box.start w N)
  have hi1 := hf.ins
  have hh1 := hf.holds
  have C53 := fun W (hW : Below w.heap.size w W) => nodes W N (hN.below hW (Nat.le_refl _)) hf a1 a2 c1 c2 inn st (S1.below hW (Nat.le_refl _)) (S2.below hW (Nat.le_refl _)) (by omega) (by omega)
  have hE : nodesE N inn st = 0 := by unfold nodesE; rw [if_pos ⟨hok, h2, h3⟩]
  rw [hE] at C53
  have C54 := fun W (hW : Below w.heap.size w W) => played W N (hN.below hW (Nat.le_refl _)) hf hok a1 a2 c1 c2 inn st (S1.below hW (Nat.le_refl _)) (S2.below hW (Nat.le_refl _)) h2 h3
  obtain ⟨V, hV⟩ : ∃ v, v = netV N inn st := ⟨_, rfl⟩
  obtain ⟨Z, hZ⟩ : ∃ v, v = nodesO N inn st := ⟨_, rfl⟩
  rw [← hV] at C54 ⊢
  rw [← hZ] at C53
  obtain ⟨n1, hn1⟩ : ∃ n, n = inn.length := ⟨_, rfl⟩
  obtain ⟨n2, hn2⟩ : ∃ n, n = st.length := ⟨_, rfl⟩
  rw [← hn1, ← hn2] at C53 C54 ⊢
  have HC53 := Lib.hid C53
  have HC54 := Lib.hid C54
  clear C53 C54 hV hZ hn1 hn2 h2 h3 S1 S2 hN hE
  go_enter Try.func21, Try.ntmps21
  go_wp2_with fail
  refine Calls.mono (HC53.out _ HX.out.below) ?_
  rintro e w2 ⟨v, rfl, how, hb2⟩
  obtain ⟨va, vc, rfl⟩ := owns_val how
  have hx := HX.out.step hb2 (by simp)
  have b0 := hx.c0
  have b1 := hx.c1
  have b2 := hx.c2
  have b3 := hx.c3
  have HX2 := Lib.hid hx
  clear how hb2 hx
  go_wp2_with fail
  refine Calls.mono (HC54.out _ HX2.out.below) ?_
  rintro e w3 ⟨p1, d1, p2, d2, rfl, t1, t2, hb3⟩
  have HT1 := Lib.hid t1
  have hs1 := HX2.out.below.size
  have HB3 := Lib.hid (HX2.out.below.trans (hb3.mono hs1))
  clear t1 t2 hb3
  go_wp2_with fail
  go_ret3
  exact ⟨p1, d1, p2, d2, rfl, HT1.out.base hs1, HB3.out⟩
end Go.Proofs.Ytibimdhmfchcoaa
