/- PlaceMore, walked. -/
import Derived.Deep.CutRange
import Derived.Laws.Bits128
import Derived.Test.YtholafodachjnaaZ42
namespace Go.Proofs.Ytholafodachjnaa
open Go.RowKit Go.Shelf
set_option linter.unusedVariables false
set_option linter.unusedSimpArgs false

theorem i64_and16 (n : Int) : bits .and .i64 n 65535 = n % 65536 := by
  have h127 : (BitVec.ofInt 64 65535).toNat = 2 ^ 16 - 1 := by decide
  have key : (BitVec.ofInt 64 n &&& BitVec.ofInt 64 65535).toNat = (n % ((2 ^ 64 : Nat) : Int)).toNat % 2 ^ 16 := by
    rw [BitVec.toNat_and, BitVec.toNat_ofInt, h127, Nat.and_two_pow_sub_one_eq_mod]
  show IntKind.i64.wrap ((BitVec.ofInt 64 n &&& BitVec.ofInt 64 65535).toNat : Nat) = n % 65536
  rw [key, IntKind.wrap_i64]
  omega
/-- Where the draws are cut. -/
theorem cut_of (k : Int) (n : Nat) (h : n ≤ 60) : ∃ kk j t : Nat, bits .and .i64 k 65535 = (kk : Int) ∧ (kk : Int).tmod ((n : Int) / 2 + 1) = (j : Int) ∧ wrap64 (2 * (j : Int)) = (t : Int) ∧ t = 2 * j ∧ j ≤ n / 2 := by
  have hk := i64_and16 k
  have h0 : 0 ≤ k % 65536 := Int.emod_nonneg _ (by decide)
  have hlt := Nat.mod_lt (k % 65536).toNat (show 0 < n / 2 + 1 by omega)
  refine ⟨(k % 65536).toNat, (k % 65536).toNat % (n / 2 + 1), 2 * ((k % 65536).toNat % (n / 2 + 1)), by rw [hk]; omega, ?_, ?_, rfl, by omega⟩
  · rw [Int.tmod_eq_emod_of_nonneg (by omega)]
    have : ((n : Int) / 2 + 1) = ((n / 2 + 1 : Nat) : Int) := by omega
    rw [this]
    rfl
  · rw [wrap64s (by omega) (by omega)]
    omega
theorem PlaceOut.okN {a : ArchV} {P : PackV} {ds : List Int} {w w' : World} {e : Ending} (h : PlaceOut a P ds w e w') (he : errF a P = 0) : ∃ ba bc bs ia ic is oa oc os, e = .returned (.tuple #[.agg #[.slice ba P.bs.length bc, .slice ia P.ins.toNat ic, .slice oa P.os.length oc], .int .i64 0]) ∧ SpotV.data ⟨ba, bc, bs, ia, ic, is, oa, oc, os⟩ = placeO a P ds ∧ SpotNew w.heap.size noSpots ⟨ba, bc, bs, ia, ic, is, oa, oc, os⟩ w' ∧ (bs.length = P.bs.length ∧ is.length = P.ins.toNat ∧ os.length = P.os.length) ∧ Below w.heap.size w w' := by
  obtain ⟨⟨ba, bc, bs, ia, ic, is, oa, oc, os⟩, h0, h1, h2, h3⟩ := h
  have hl := place_len (ds := ds) he
  rw [← h1] at hl
  obtain ⟨l1, l2, l3⟩ := hl
  dsimp only at l1 l2 l3
  rw [he] at h0
  refine ⟨ba, bc, bs, ia, ic, is, oa, oc, os, ?_, h1, h2, ⟨l1, l2, l3⟩, h3⟩
  rw [h0, ← l1, ← l2, ← l3]
set_option maxRecDepth 100000 in
set_option maxHeartbeats 8000000 in
theorem placeMore (w : World) (a : ArchV) (ha : ArchR a) (P : PackV) (hP : PackAt w P) (da : Option Addr) (n cap : Nat) (ds : List Int) (hn : ds.length = n) (hd : Seq w da n (ints ds)) (hr : ∀ x ∈ ds, I64 x) (hl9 : n ≤ 9223372036854775807) (hcap : n ≤ cap) (k : Int) (hk : I64 k) :
    Calls Try.prog 7 #[a.val, P.val, .slice da n cap, .int .i64 k] w fun e w' => e = .returned (.bool true) ∧ Below w.heap.size w w' := by
  have CF : Hid (∀ W, Calls Try.prog 12 #[a.val, P.val, .agg #[.slice none 0 0, .slice none 0 0, .slice none 0 0]] W fun e w' => e = .returned (.bool (fewA a P noSpots)) ∧ Below W.heap.size W w') := Lib.hid fun W => few12 W a P noSpots
  have HL : Hid (∀ W, Calls Try.prog 11 #[] W fun e w' => e = .returned (.bool true) ∧ Below W.heap.size W w') := Lib.hid live11
  have CPy : Hid (fewA a P noSpots = true → n ≤ 60 → errF a P = 0 → ∀ W, Below w.heap.size w W → Calls Try.prog 22 #[a.val, P.val, .slice da n cap] W fun e w' => ∃ ba bc bs ia ic is oa oc os, e = .returned (.tuple #[.agg #[.slice ba P.bs.length bc, .slice ia P.ins.toNat ic, .slice oa P.os.length oc], .int .i64 0]) ∧ SpotV.data ⟨ba, bc, bs, ia, ic, is, oa, oc, os⟩ = placeO a P ds ∧ SpotAt w' ⟨ba, bc, bs, ia, ic, is, oa, oc, os⟩ ∧ (bs.length = P.bs.length ∧ is.length = P.ins.toNat ∧ os.length = P.os.length) ∧ Below W.heap.size W w') :=
    Lib.hid fun h h6 he W hW => Calls.mono (place22 W a P (hP.below hW (Nat.le_refl _)) (fewA_ok hP h).1 da n cap ds hn (by omega) hcap (hd.below hW (Nat.le_refl _))) fun e w' k => k.ok he
  have CPn : Hid (fewA a P noSpots = true → n ≤ 60 → ¬ errF a P = 0 → ∀ W, Below w.heap.size w W → Calls Try.prog 22 #[a.val, P.val, .slice da n cap] W fun e w' => ∃ ba bc ia ic oa oc, e = .returned (.tuple #[.agg #[.slice ba 0 bc, .slice ia 0 ic, .slice oa 0 oc], .int .i64 (errF a P)]) ∧ SpotAt w' ⟨ba, bc, [], ia, ic, [], oa, oc, []⟩ ∧ Below W.heap.size W w') :=
    Lib.hid fun h h6 he W hW => Calls.mono (place22 W a P (hP.below hW (Nat.le_refl _)) (fewA_ok hP h).1 da n cap ds hn (by omega) hcap (hd.below hW (Nat.le_refl _))) fun e w' k => k.no he
  have hpre : ∀ j, j ≤ n / 2 → (ds.take (2 * j)).length = 2 * j := fun j hj => by rw [List.length_take]; omega
  have hseq : ∀ j, j ≤ n / 2 → Seq w da (2 * j) (ints (ds.take (2 * j))) := fun j hj => by
    rcases hd with h | ⟨b, off, h1, h2⟩
    · exact .inl (by omega)
    · refine .inr ⟨b, off, h1, fun i hi => ?_⟩
      rw [h2 i (by omega)]
      unfold ints
      simp [List.getD, List.getElem?_take, hi]
  have CTy : Hid (fewA a P noSpots = true → n ≤ 60 → errF a P = 0 → ∀ t j, t = 2 * j → j ≤ n / 2 → ∀ W, Below w.heap.size w W → Calls Try.prog 22 #[a.val, P.val, .slice da t cap] W fun e w' => ∃ ba bc bs ia ic is oa oc os, e = .returned (.tuple #[.agg #[.slice ba P.bs.length bc, .slice ia P.ins.toNat ic, .slice oa P.os.length oc], .int .i64 0]) ∧ SpotV.data ⟨ba, bc, bs, ia, ic, is, oa, oc, os⟩ = placeO a P (ds.take (2 * j)) ∧ SpotNew W.heap.size noSpots ⟨ba, bc, bs, ia, ic, is, oa, oc, os⟩ w' ∧ (bs.length = P.bs.length ∧ is.length = P.ins.toNat ∧ os.length = P.os.length) ∧ Below W.heap.size W w') :=
    Lib.hid fun h h6 he t j ht hj W hW => by
      subst ht
      exact Calls.mono (place22 W a P (hP.below hW (Nat.le_refl _)) (fewA_ok hP h).1 da (2 * j) cap (ds.take (2 * j)) (hpre j hj) (by omega) (by omega) ((hseq j hj).below hW (Nat.le_refl _))) fun e w' k => k.okN he
  have CTn : Hid (fewA a P noSpots = true → n ≤ 60 → ¬ errF a P = 0 → ∀ t j, t = 2 * j → j ≤ n / 2 → ∀ W, Below w.heap.size w W → Calls Try.prog 22 #[a.val, P.val, .slice da t cap] W fun e w' => ∃ ba bc ia ic oa oc, e = .returned (.tuple #[.agg #[.slice ba 0 bc, .slice ia 0 ic, .slice oa 0 oc], .int .i64 (errF a P)]) ∧ SpotAt w' ⟨ba, bc, [], ia, ic, [], oa, oc, []⟩ ∧ Below W.heap.size W w') :=
    Lib.hid fun h h6 he t j ht hj W hW => by
      subst ht
      exact Calls.mono (place22 W a P (hP.below hW (Nat.le_refl _)) (fewA_ok hP h).1 da (2 * j) cap (ds.take (2 * j)) (hpre j hj) (by omega) (by omega) ((hseq j hj).below hW (Nat.le_refl _))) fun e w' k => k.no he
  have CR : Hid (fewA a P noSpots = true → errF a P = 0 → ∀ W ba bc bs ia ic is oa oc os, ∀ (D : Int × SpotD) (cR : Int), D.1 = costL a P.data D.2 → (∃ ks, D.2 = placeO a P ks) → cR = D.1 → Below w.heap.size w W → SpotAt W ⟨ba, bc, bs, ia, ic, is, oa, oc, os⟩ → SpotV.data ⟨ba, bc, bs, ia, ic, is, oa, oc, os⟩ = D.2 → (bs.length = P.bs.length ∧ is.length = P.ins.toNat ∧ os.length = P.os.length) → Calls Try.prog 13 #[a.val, P.val, .agg #[.slice ba P.bs.length bc, .slice ia P.ins.toNat ic, .slice oa P.os.length oc]] W fun e w' => e = .returned (.tuple #[.int .i64 cR, .int .i64 0]) ∧ Below W.heap.size W w') := Lib.hid fun h he W ba bc bs ia ic is oa oc os D cR hD hks hc hW hR hdt hl => by
    obtain ⟨ks, hks⟩ := hks
    rw [hks] at hdt hD
    obtain ⟨p1, p2⟩ := place_cost he hdt
    have hf := (fewA_ok hP h).1
    have q1 := cost_at W a P ⟨ba, bc, bs, ia, ic, is, oa, oc, os⟩ (hP.below hW (Nat.le_refl _)) hf hR ⟨by have := hf.bs; have := hl.1; dsimp only; omega, by have := hf.ins; have := hl.2.1; dsimp only; omega, by have := hf.os; have := hl.2.2; dsimp only; omega⟩ _ _ _ hl.1 hl.2.1 hl.2.2
    rw [p1, p2, ← hD, ← hc] at q1
    exact q1
  have HLe : Hid (errF a P = 0 → ∀ j, j ≤ n / 2 → costL a P.data (placeO a P ds) ≤ costL a P.data (placeO a P (ds.take (2 * j)))) := Lib.hid fun he j hj => place_le2 (by rw [hn]; exact hj) he
  obtain ⟨fB, hfB⟩ : ∃ b, b = fewA a P noSpots := ⟨_, rfl⟩
  obtain ⟨er, her⟩ : ∃ b, b = errF a P := ⟨_, rfl⟩
  obtain ⟨D, hD⟩ : ∃ b, b = placeO a P ds := ⟨_, rfl⟩
  obtain ⟨DJ, hDJ⟩ : ∃ b : Nat → SpotD, b = fun j => placeO a P (ds.take (2 * j)) := ⟨_, rfl⟩
  obtain ⟨cp, hcp⟩ : ∃ b, b = costL a P.data D := ⟨_, rfl⟩
  obtain ⟨cj, hcj⟩ : ∃ b : Nat → Int, b = fun j => costL a P.data (DJ j) := ⟨_, rfl⟩
  have HLe2 : Hid (er = 0 → ∀ j, j ≤ n / 2 → cp ≤ cj j) := Lib.hid (by rw [her, hcp, hcj, hD, hDJ]; exact HLe.out)
  have CRd : Hid (fB = true → er = 0 → ∀ W ba bc bs ia ic is oa oc os, Below w.heap.size w W → SpotAt W ⟨ba, bc, bs, ia, ic, is, oa, oc, os⟩ → SpotV.data ⟨ba, bc, bs, ia, ic, is, oa, oc, os⟩ = D → (bs.length = P.bs.length ∧ is.length = P.ins.toNat ∧ os.length = P.os.length) → Calls Try.prog 13 #[a.val, P.val, .agg #[.slice ba P.bs.length bc, .slice ia P.ins.toNat ic, .slice oa P.os.length oc]] W fun e w' => e = .returned (.tuple #[.int .i64 cp, .int .i64 0]) ∧ Below W.heap.size W w') :=
    Lib.hid fun h he W ba bc bs ia ic is oa oc os hW hR hdt hl => CR.out (by rw [← hfB]; exact h) (by rw [← her]; exact he) W ba bc bs ia ic is oa oc os (cp, D) cp hcp ⟨ds, hD⟩ rfl hW hR hdt hl
  have CRj : Hid (fB = true → er = 0 → ∀ j W ba bc bs ia ic is oa oc os, Below w.heap.size w W → SpotAt W ⟨ba, bc, bs, ia, ic, is, oa, oc, os⟩ → SpotV.data ⟨ba, bc, bs, ia, ic, is, oa, oc, os⟩ = DJ j → (bs.length = P.bs.length ∧ is.length = P.ins.toNat ∧ os.length = P.os.length) → Calls Try.prog 13 #[a.val, P.val, .agg #[.slice ba P.bs.length bc, .slice ia P.ins.toNat ic, .slice oa P.os.length oc]] W fun e w' => e = .returned (.tuple #[.int .i64 (cj j), .int .i64 0]) ∧ Below W.heap.size W w') :=
    Lib.hid fun h he j W ba bc bs ia ic is oa oc os hW hR hdt hl => CR.out (by rw [← hfB]; exact h) (by rw [← her]; exact he) W ba bc bs ia ic is oa oc os (cj j, DJ j) (cj j) (by rw [hcj]) ⟨ds.take (2 * j), by rw [hDJ]⟩ rfl hW hR hdt hl
  have CTy2 : Hid (fB = true → n ≤ 60 → er = 0 → ∀ t j, t = 2 * j → j ≤ n / 2 → ∀ W, Below w.heap.size w W → Calls Try.prog 22 #[a.val, P.val, .slice da t cap] W fun e w' => ∃ ba bc bs ia ic is oa oc os, e = .returned (.tuple #[.agg #[.slice ba P.bs.length bc, .slice ia P.ins.toNat ic, .slice oa P.os.length oc], .int .i64 0]) ∧ SpotV.data ⟨ba, bc, bs, ia, ic, is, oa, oc, os⟩ = DJ j ∧ SpotNew W.heap.size noSpots ⟨ba, bc, bs, ia, ic, is, oa, oc, os⟩ w' ∧ (bs.length = P.bs.length ∧ is.length = P.ins.toNat ∧ os.length = P.os.length) ∧ Below W.heap.size W w') := Lib.hid (by rw [hfB, her, hDJ]; exact CTy.out)
  rw [← hfB] at CF CPy CPn CTn
  rw [← her] at CPy CPn CTn
  rw [← hD] at CPy
  clear hfB her hP ha hr hd hpre hseq CTy CR HLe hD hDJ hcp hcj hn
  obtain ⟨aw, ah, at_⟩ := a
  obtain ⟨pi, pa, pc, pb, qa, qc, qb⟩ := P
  (try unfold ArchV.val at CF)
  (try unfold PackV.val at CF)
  (try unfold ArchV.val at CPy)
  (try unfold PackV.val at CPy)
  (try unfold ArchV.val at CPn)
  (try unfold PackV.val at CPn)
  (try unfold ArchV.val at CTn)
  (try unfold PackV.val at CTn)
  (try unfold ArchV.val at CTy2)
  (try unfold PackV.val at CTy2)
  (try unfold ArchV.val at CRd)
  (try unfold PackV.val at CRd)
  (try unfold ArchV.val at CRj)
  (try unfold PackV.val at CRj)
  unfold ArchV.val PackV.val
  (try dsimp only at CF CPy CPn CTn CTy2 CRd CRj)
  (try dsimp only)
  obtain ⟨nb, hnb⟩ : ∃ n, n = pb.length := ⟨_, rfl⟩
  (try rw [← hnb] at CF)
  (try rw [← hnb] at CPy)
  (try rw [← hnb] at CPn)
  (try rw [← hnb] at CTn)
  (try rw [← hnb] at CTy2)
  (try rw [← hnb] at CRd)
  (try rw [← hnb] at CRj)
  (try rw [← hnb])
  obtain ⟨no, hno⟩ : ∃ n, n = qb.length := ⟨_, rfl⟩
  (try rw [← hno] at CF)
  (try rw [← hno] at CPy)
  (try rw [← hno] at CPn)
  (try rw [← hno] at CTn)
  (try rw [← hno] at CTy2)
  (try rw [← hno] at CRd)
  (try rw [← hno] at CRj)
  (try rw [← hno])
  obtain ⟨ni, hni⟩ : ∃ n, n = pi.toNat := ⟨_, rfl⟩
  rw [← hni] at CPy CTy2 CRd CRj
  clear hnb hno hni
  obtain ⟨H, hH⟩ : ∃ h, h = w.heap.size := ⟨_, rfl⟩
  obtain ⟨w1, hw1⟩ : ∃ W, W = ((w.alloc (.cells #[.int .i64 aw, .int .i64 ah, .int .i64 at_] 23)).alloc (.cells #[.int .i64 pi, .slice pa nb pc, .slice qa no qc] 27)) := ⟨_, rfl⟩
  obtain ⟨H1, hH1⟩ : ∃ x, x = H + 1 := ⟨_, rfl⟩
  have hs1 : w1.heap.size = H + 2 := by rw [hw1, hH]; simp
  have hX1 : Below w.heap.size w w1 := by rw [hw1]; exact ((Below.refl _ _).alloc (Nat.le_refl _) _).alloc (by simp <;> omega) _
  have hrw0 : w1.rowIs (H) 23 3 (fun i => ([.int .i64 aw, .int .i64 ah, .int .i64 at_] : List Value).getD i undef) := by rw [hw1, hH]; exact ((rowL_alloc w 23 [.int .i64 aw, .int .i64 ah, .int .i64 at_]).alloc (.cells #[.int .i64 pi, .slice pa nb pc, .slice qa no qc] 27))
  have hrw1 : w1.rowIs (H1) 27 3 (fun i => ([.int .i64 pi, .slice pa nb pc, .slice qa no qc] : List Value).getD i undef) := by
    have h := (rowL_alloc (w.alloc (.cells #[.int .i64 aw, .int .i64 ah, .int .i64 at_] 23)) 27 [.int .i64 pi, .slice pa nb pc, .slice qa no qc])
    have hsz : (w.alloc (.cells #[.int .i64 aw, .int .i64 ah, .int .i64 at_] 23)).heap.size = H1 := by rw [hH1, hH]; simp
    rw [hsz] at h
    rw [hw1]
    exact h
  have HK : Hid (∀ W, Below w1.heap.size w1 W → W.cell? ⟨H, 0, none⟩ = some (.int .i64 aw) ∧ W.cell? ⟨H, 1, none⟩ = some (.int .i64 ah) ∧ W.cell? ⟨H, 2, none⟩ = some (.int .i64 at_) ∧ W.cell? ⟨H1, 0, none⟩ = some (.int .i64 pi) ∧ W.cell? ⟨H1, 1, none⟩ = some (.slice pa nb pc) ∧ W.cell? ⟨H1, 2, none⟩ = some (.slice qa no qc)) := Lib.hid fun W hW => by
    have h0 := hrw0.of_block (hW.block H (by omega))
    have h1 := hrw1.of_block (hW.block H1 (by omega))
    exact ⟨h0.cell (by omega), h0.cell (by omega), h0.cell (by omega), h1.cell (by omega), h1.cell (by omega), h1.cell (by omega)⟩
  have HSz : Hid (w1.heap.size = H + 2 ∧ H = w.heap.size) := Lib.hid ⟨hs1, hH⟩
  have HXW : Hid (∀ W, Below w1.heap.size w1 W → Below w.heap.size w W) := Lib.hid fun W hW => hX1.trans (hW.mono (by omega))
  have HW1 := Lib.hid hw1
  have HHH := Lib.hid hH
  have HHH1 := Lib.hid hH1
  clear hw1 hX1 hs1 hH hrw0 hrw1 hH1
  go_enter Try.func7, Try.ntmps7
  go_wp2_with fail
  rw [← HW1.out]
  (try rw [← HHH.out])
  (try rw [← HHH1.out])
  refine Calls.mono (HL.out w1) ?_
  rintro e w2 ⟨rfl, hb⟩
  have HBw2 : Hid (Below w1.heap.size w1 w2) := Lib.hid (((Below.refl w1.heap.size w1)).trans (hb.mono ((Below.refl w1.heap.size w1)).size))
  have HVw2 : Hid (Below w1.heap.size w1 w2) := Lib.hid (((Below.refl w1.heap.size w1)).trans (hb.mono ((Below.refl w1.heap.size w1)).size))
  clear hb
  obtain ⟨a0, a1, a2, p0, p1, p2⟩ := HK.out w2 HVw2.out
  go_wp2_with fail
  clear a0 a1 a2 p0 p1 p2
  refine Calls.mono (CF.out w2) ?_
  rintro e w3 ⟨rfl, hb⟩
  have HBw3 : Hid (Below w1.heap.size w1 w3) := Lib.hid ((HBw2.out).trans (hb.mono (HBw2.out).size))
  have HVw3 : Hid (Below w1.heap.size w1 w3) := Lib.hid ((HVw2.out).trans (hb.mono (HVw2.out).size))
  clear hb
  cases hf : fB with
  | false =>
    subst hf
    go_wp2_with fail
    go_ret
    exact ⟨rfl, HXW.out _ HBw3.out⟩
  | true =>
    subst hf
    obtain ⟨a0, a1, a2, p0, p1, p2⟩ := HK.out w3 HVw3.out
    by_cases h60 : n ≤ 60
    rotate_left
    · have d1 : decide ((n : Int) > 60) = true := by rw [decide_eq_true_eq]; omega
      go_wp2_with fail
      go_ret
      exact ⟨rfl, HXW.out _ HBw3.out⟩
    have d1 : decide ((n : Int) > 60) = false := by rw [decide_eq_false_iff_not]; omega
    have H60 := Lib.hid h60
    go_upto_region 4 with fail
    clear d1
    obtain ⟨kk, j, t, k1, k2, k3, htj, hjn⟩ := cut_of k n h60
    have htn : t ≤ n := by omega
    have HTJ := Lib.hid htj
    have HJN := Lib.hid hjn
    have htc : t ≤ cap := by omega
    have HK3 := Lib.hid k3
    clear h60 htj hjn htn k3
    go_upto_region 5 with fail
    clear k1 k2
    clear a0 a1 a2 p0 p1 p2
    have HK5 : Hid (∀ W, Below w3.heap.size w3 W → W.cell? ⟨H, 0, none⟩ = some (.int .i64 aw) ∧ W.cell? ⟨H, 1, none⟩ = some (.int .i64 ah) ∧ W.cell? ⟨H, 2, none⟩ = some (.int .i64 at_) ∧ W.cell? ⟨H1, 0, none⟩ = some (.int .i64 pi) ∧ W.cell? ⟨H1, 1, none⟩ = some (.slice pa nb pc) ∧ W.cell? ⟨H1, 2, none⟩ = some (.slice qa no qc)) := Lib.hid fun W hW => HK.out W (HBw3.out.trans (hW.mono HBw3.out.size))
    by_cases hE : er = 0
    · subst hE
      go_cut [11, 12] from 39 to 47 (fun p q wx => ∃ B rba rbc rbs ria ric ris roa roc ros, p = .pointer (some ⟨B, 0, none⟩) ∧ q = .int .i64 0 ∧ Hid (Below w3.heap.size w3 wx ∧ wx.rowIs (B) 29 3 (fun i => ([.slice rba nb rbc, .slice ria ni ric, .slice roa no roc] : List Value).getD i undef) ∧ SpotAt wx ⟨rba, rbc, rbs, ria, ric, ris, roa, roc, ros⟩ ∧ SpotV.data ⟨rba, rbc, rbs, ria, ric, ris, roa, roc, ros⟩ = DJ j ∧ (rbs.length = nb ∧ ris.length = ni ∧ ros.length = no)))
      case first =>
        refine wp_region_held_drew (S := fun w' => w'.cell? ⟨H, 0, none⟩ = some (.int .i64 aw) ∧ w'.cell? ⟨H, 1, none⟩ = some (.int .i64 ah) ∧ w'.cell? ⟨H, 2, none⟩ = some (.int .i64 at_) ∧ w'.cell? ⟨H1, 0, none⟩ = some (.int .i64 pi) ∧ w'.cell? ⟨H1, 1, none⟩ = some (.slice pa nb pc) ∧ w'.cell? ⟨H1, 2, none⟩ = some (.slice qa no qc)) (by kernel_rfl) (HK5.out _ (Below.refl _ _).drew) (fun hHeld => ?_)
        obtain ⟨v6, hv6⟩ : ∃ W, W = w3.drew := ⟨_, rfl⟩
        have hb6 : Below w3.heap.size w3 v6 := by rw [hv6]; exact (Below.refl _ _).drew
        rw [← hv6] at hHeld ⊢
        have HBv6 := Lib.hid hb6
        clear hb6 hv6
        refine wpAnyH_take (i := 0) (v := ?_) (by simp only [List.getElem?_toArray, List.getElem?_cons_succ, List.getElem?_cons_zero]; rfl) (by kernel_rfl) (by kernel_rfl) (by kernel_rfl) (by intro _ _ _ h; exact h) (Or.inl ⟨by rfl, ?_⟩) (by assumption) ?_
        rotate_left
        · intro w hSw; (try dsimp only at hSw); go_simp; try with_reducible rfl
        try simp only [Act.put, List.setIfInBounds_toArray, List.set_cons_zero, List.set_cons_succ]
        refine wpAnyH_take (i := 1) (v := ?_) (by simp only [List.getElem?_toArray, List.getElem?_cons_succ, List.getElem?_cons_zero]; rfl) (by kernel_rfl) (by kernel_rfl) (by kernel_rfl) (by intro _ _ _ h; exact h) (Or.inl ⟨by rfl, ?_⟩) (by assumption) ?_
        rotate_left
        · intro w hSw; (try dsimp only at hSw); go_simp; try with_reducible rfl
        try simp only [Act.put, List.setIfInBounds_toArray, List.set_cons_zero, List.set_cons_succ]
        refine wpAnyH_take (i := 2) (v := ?_) (by simp only [List.getElem?_toArray, List.getElem?_cons_succ, List.getElem?_cons_zero]; rfl) (by kernel_rfl) (by kernel_rfl) (by kernel_rfl) (by intro _ _ _ h; exact h) (Or.inl ⟨by rfl, ?_⟩) (by assumption) ?_
        rotate_left
        · intro w hSw; (try dsimp only at hSw); go_simp; try with_reducible rfl
        try simp only [Act.put, List.setIfInBounds_toArray, List.set_cons_zero, List.set_cons_succ]
        refine wpAnyH_take (i := 3) (v := ?_) (by simp only [List.getElem?_toArray, List.getElem?_cons_succ, List.getElem?_cons_zero]; rfl) (by kernel_rfl) (by kernel_rfl) (by kernel_rfl) (by intro _ _ _ h; exact h) (Or.inl ⟨by rfl, ?_⟩) (by assumption) ?_
        rotate_left
        · intro w hSw; (try dsimp only at hSw); go_simp; try with_reducible rfl
        try simp only [Act.put, List.setIfInBounds_toArray, List.set_cons_zero, List.set_cons_succ]
        refine wpAnyH_take (i := 4) (v := ?_) (by simp only [List.getElem?_toArray, List.getElem?_cons_succ, List.getElem?_cons_zero]; rfl) (by kernel_rfl) (by kernel_rfl) (by kernel_rfl) (by intro _ _ _ h; exact h) (Or.inl ⟨by rfl, ?_⟩) (by assumption) ?_
        rotate_left
        · intro w hSw; (try dsimp only at hSw); go_simp; rw [HK3.out]; simp only [Int.toNat_natCast]; rw [if_pos (by omega)]
        try simp only [Act.put, List.setIfInBounds_toArray, List.set_cons_zero, List.set_cons_succ]
        refine wpAnyH_ready (rs := [5, 9]) (by kernel_rfl) (by simp) ?_
        refine AllReadyH.cons (o := _) (by simp only [List.getElem?_toArray, List.getElem?_cons_succ, List.getElem?_cons_zero]; rfl) (fun K hK => ?_) (AllReadyH.cons (o := _) (by simp only [List.getElem?_toArray, List.getElem?_cons_succ, List.getElem?_cons_zero]; rfl) (fun K hK => ?_) AllReadyH.nil)
        · go_simp
          go_at_call 22
          refine Calls.mono (CTy2.out (by trivial) H60.out (by trivial) t j HTJ.out HJN.out v6 (HXW.out _ (HBw3.out.trans ((HBv6.out).mono HBw3.out.size)))) ?_
          rintro e v7 ⟨rba, rbc, rbs, ria, ric, ris, roa, roc, ros, rfl, hd7, hn7, hl7, hb7⟩
          have HBv7 := Lib.hid ((HBv6.out).trans (hb7.mono (HBv6.out).size))
          have HD := Lib.hid hd7
          have HL5 := Lib.hid hl7
          have HN7 := Lib.hid hn7
          clear hd7 hl7 hn7
          clear hb7
          go_simp
          refine hK.out _ _ (by exact HK5.out _ HBv7.out) (fun hHeld => ?_)
          clear hK K
          try simp only [Act.put, List.setIfInBounds_toArray, List.set_cons_zero, List.set_cons_succ]
          refine wpAnyH_take (i := 6) (v := ?_) (by simp only [List.getElem?_toArray, List.getElem?_cons_succ, List.getElem?_cons_zero]; rfl) (by kernel_rfl) (by kernel_rfl) (by kernel_rfl) (by intro _ _ _ h; exact h) (Or.inl ⟨by rfl, ?_⟩) (by assumption) ?_
          rotate_left
          · intro w hSw; (try dsimp only at hSw); go_simp; try with_reducible rfl
          try simp only [Act.put, List.setIfInBounds_toArray, List.set_cons_zero, List.set_cons_succ]
          refine wpAnyH_take (i := 7) (v := ?_) (by simp only [List.getElem?_toArray, List.getElem?_cons_succ, List.getElem?_cons_zero]; rfl) (by kernel_rfl) (by kernel_rfl) (by kernel_rfl) (by intro _ _ _ h; exact h) (Or.inl ⟨by rfl, ?_⟩) (by assumption) ?_
          rotate_left
          · intro w hSw; (try dsimp only at hSw); go_simp; try with_reducible rfl
          try simp only [Act.put, List.setIfInBounds_toArray, List.set_cons_zero, List.set_cons_succ]
          refine wpAnyH_take (i := 8) (v := ?_) (by simp only [List.getElem?_toArray, List.getElem?_cons_succ, List.getElem?_cons_zero]; rfl) (by kernel_rfl) (by kernel_rfl) (by kernel_rfl) (by intro _ _ _ h; exact h) (Or.inl ⟨by rfl, ?_⟩) (by assumption) ?_
          rotate_left
          · intro w hSw; (try dsimp only at hSw); go_simp; try with_reducible rfl
          try simp only [Act.put, List.setIfInBounds_toArray, List.set_cons_zero, List.set_cons_succ]
          refine wpAnyH_ready (rs := [9]) (by kernel_rfl) (by simp) ?_
          refine AllReadyH.cons (o := _) (by simp only [List.getElem?_toArray, List.getElem?_cons_succ, List.getElem?_cons_zero]; rfl) (fun K hK => ?_) AllReadyH.nil
          go_simp
          obtain ⟨B11, hB11⟩ : ∃ x, x = v7.heap.size := ⟨_, rfl⟩
          obtain ⟨v8, hv8⟩ : ∃ W, W = v7.alloc (.cells #[.slice none 0 0, .slice none 0 0, .slice none 0 0] 29) := ⟨_, rfl⟩
          have hb8 : Below v7.heap.size v7 v8 := by rw [hv8]; exact (Below.refl v7.heap.size v7).alloc (Nat.le_refl _) (.cells #[.slice none 0 0, .slice none 0 0, .slice none 0 0] 29)
          have HBv8 := Lib.hid ((HBv7.out).trans (hb8.mono (HBv7.out).size))
          have FB118 : Hid (v8.rowIs B11 29 3 (fun i => ([.slice none 0 0, .slice none 0 0, .slice none 0 0] : List Value).getD i undef)) := Lib.hid (by rw [hv8, hB11]; exact rowL_alloc v7 29 [.slice none 0 0, .slice none 0 0, .slice none 0 0])
          have GEB11 : Hid (w3.heap.size ≤ B11) := Lib.hid (by rw [hB11]; exact (HBv7.out).size)
          have FN8 := Lib.hid ((HN7.out).below hb8)
          (try rw [← hv8])
          (try rw [← hB11])
          clear hb8 hv8 hB11
          refine hK.out _ _ (by exact HK5.out _ HBv8.out) (fun hHeld => ?_)
          clear hK K
          try simp only [Act.put, List.setIfInBounds_toArray, List.set_cons_zero, List.set_cons_succ]
          refine wpAnyH_ready (rs := [10]) (by kernel_rfl) (by simp) ?_
          refine AllReadyH.cons (o := _) (by simp only [List.getElem?_toArray, List.getElem?_cons_succ, List.getElem?_cons_zero]; rfl) (fun K hK => ?_) AllReadyH.nil
          have zc0 := (FB118.out).cell (i := 0) (by omega)
          have zf0 := (FB118.out).frozen 0
          have zc1 := (FB118.out).cell (i := 1) (by omega)
          have zf1 := (FB118.out).frozen 1
          have zc2 := (FB118.out).cell (i := 2) (by omega)
          have zf2 := (FB118.out).frozen 2
          (try dsimp only [List.getD_cons_zero, List.getD_cons_succ] at zc0 zc1 zc2)
          go_simp
          obtain ⟨v9, hv9⟩ : ∃ W, W = (((v8.setCell ⟨B11, 0, none⟩ (.slice rba nb rbc)).setCell ⟨B11, 1, none⟩ (.slice ria ni ric)).setCell ⟨B11, 2, none⟩ (.slice roa no roc)) := ⟨_, rfl⟩
          have hg9 : v8.grownBy v9 (some B11) := by rw [hv9]; exact grown_put3 (World.grownBy.refl _ _)
          have HBv9 := Lib.hid (below_grown (HBv8.out) hg9 GEB11.out (HBv8.out).size)
          have FB119 : Hid (v9.rowIs B11 29 3 (fun i => ([.slice rba nb rbc, .slice ria ni ric, .slice roa no roc] : List Value).getD i undef)) := Lib.hid (by rw [hv9]; exact put3_row (FB118.out))
          have FN9 := Lib.hid ((FN8.out).grownS hg9 (FB118.out))
          (try rw [← hv9])
          clear hg9 hv9 zc0 zf0 zc1 zf1 zc2 zf2
          refine hK.out _ _ (by exact HK5.out _ HBv9.out) (fun hHeld => ?_)
          clear hK K
          try simp only [Act.put, List.setIfInBounds_toArray, List.set_cons_zero, List.set_cons_succ]
          refine wpAnyH_take (i := 11) (v := ?_) (by simp only [List.getElem?_toArray, List.getElem?_cons_succ, List.getElem?_cons_zero]; rfl) (by kernel_rfl) (by kernel_rfl) (by kernel_rfl) (by intro _ _ _ h; exact h) (Or.inl ⟨by rfl, ?_⟩) (by assumption) ?_
          rotate_left
          · intro w hSw; (try dsimp only at hSw); go_simp; try with_reducible rfl
          try simp only [Act.put, List.setIfInBounds_toArray, List.set_cons_zero, List.set_cons_succ]
          refine wpAnyH_done (by kernel_rfl) ?_ _
          go_wp2_with fail
          go_meet
          exact ⟨B11, rba, rbc, rbs, ria, ric, ris, roa, roc, ros, rfl, rfl, Lib.hid ⟨HBv9.out, FB119.out, (FN9.out).anew, HD.out, HL5.out⟩⟩
        · go_simp
          obtain ⟨B11, hB11⟩ : ∃ x, x = v6.heap.size := ⟨_, rfl⟩
          obtain ⟨v10, hv10⟩ : ∃ W, W = v6.alloc (.cells #[.slice none 0 0, .slice none 0 0, .slice none 0 0] 29) := ⟨_, rfl⟩
          have hb10 : Below v6.heap.size v6 v10 := by rw [hv10]; exact (Below.refl v6.heap.size v6).alloc (Nat.le_refl _) (.cells #[.slice none 0 0, .slice none 0 0, .slice none 0 0] 29)
          have HBv10 := Lib.hid ((HBv6.out).trans (hb10.mono (HBv6.out).size))
          have FB1110 : Hid (v10.rowIs B11 29 3 (fun i => ([.slice none 0 0, .slice none 0 0, .slice none 0 0] : List Value).getD i undef)) := Lib.hid (by rw [hv10, hB11]; exact rowL_alloc v6 29 [.slice none 0 0, .slice none 0 0, .slice none 0 0])
          have GEB11 : Hid (w3.heap.size ≤ B11) := Lib.hid (by rw [hB11]; exact (HBv6.out).size)
          (try rw [← hv10])
          (try rw [← hB11])
          clear hb10 hv10 hB11
          refine hK.out _ _ (by exact HK5.out _ HBv10.out) (fun hHeld => ?_)
          clear hK K
          try simp only [Act.put, List.setIfInBounds_toArray, List.set_cons_zero, List.set_cons_succ]
          refine wpAnyH_ready (rs := [5]) (by kernel_rfl) (by simp) ?_
          refine AllReadyH.cons (o := _) (by simp only [List.getElem?_toArray, List.getElem?_cons_succ, List.getElem?_cons_zero]; rfl) (fun K hK => ?_) AllReadyH.nil
          go_simp
          go_at_call 22
          refine Calls.mono (CTy2.out (by trivial) H60.out (by trivial) t j HTJ.out HJN.out v10 (HXW.out _ (HBw3.out.trans ((HBv10.out).mono HBw3.out.size)))) ?_
          rintro e v11 ⟨rba, rbc, rbs, ria, ric, ris, roa, roc, ros, rfl, hd11, hn11, hl11, hb11⟩
          have HBv11 := Lib.hid ((HBv10.out).trans (hb11.mono (HBv10.out).size))
          have FB1111 := Lib.hid ((FB1110.out).of_block (hb11.block B11 (FB1110.out).lt))
          have HD := Lib.hid hd11
          have HL5 := Lib.hid hl11
          have HN11 := Lib.hid hn11
          clear hd11 hl11 hn11
          clear hb11
          go_simp
          refine hK.out _ _ (by exact HK5.out _ HBv11.out) (fun hHeld => ?_)
          clear hK K
          try simp only [Act.put, List.setIfInBounds_toArray, List.set_cons_zero, List.set_cons_succ]
          refine wpAnyH_take (i := 6) (v := ?_) (by simp only [List.getElem?_toArray, List.getElem?_cons_succ, List.getElem?_cons_zero]; rfl) (by kernel_rfl) (by kernel_rfl) (by kernel_rfl) (by intro _ _ _ h; exact h) (Or.inl ⟨by rfl, ?_⟩) (by assumption) ?_
          rotate_left
          · intro w hSw; (try dsimp only at hSw); go_simp; try with_reducible rfl
          try simp only [Act.put, List.setIfInBounds_toArray, List.set_cons_zero, List.set_cons_succ]
          refine wpAnyH_take (i := 7) (v := ?_) (by simp only [List.getElem?_toArray, List.getElem?_cons_succ, List.getElem?_cons_zero]; rfl) (by kernel_rfl) (by kernel_rfl) (by kernel_rfl) (by intro _ _ _ h; exact h) (Or.inl ⟨by rfl, ?_⟩) (by assumption) ?_
          rotate_left
          · intro w hSw; (try dsimp only at hSw); go_simp; try with_reducible rfl
          try simp only [Act.put, List.setIfInBounds_toArray, List.set_cons_zero, List.set_cons_succ]
          refine wpAnyH_take (i := 8) (v := ?_) (by simp only [List.getElem?_toArray, List.getElem?_cons_succ, List.getElem?_cons_zero]; rfl) (by kernel_rfl) (by kernel_rfl) (by kernel_rfl) (by intro _ _ _ h; exact h) (Or.inl ⟨by rfl, ?_⟩) (by assumption) ?_
          rotate_left
          · intro w hSw; (try dsimp only at hSw); go_simp; try with_reducible rfl
          try simp only [Act.put, List.setIfInBounds_toArray, List.set_cons_zero, List.set_cons_succ]
          refine wpAnyH_ready (rs := [10]) (by kernel_rfl) (by simp) ?_
          refine AllReadyH.cons (o := _) (by simp only [List.getElem?_toArray, List.getElem?_cons_succ, List.getElem?_cons_zero]; rfl) (fun K hK => ?_) AllReadyH.nil
          have zc0 := (FB1111.out).cell (i := 0) (by omega)
          have zf0 := (FB1111.out).frozen 0
          have zc1 := (FB1111.out).cell (i := 1) (by omega)
          have zf1 := (FB1111.out).frozen 1
          have zc2 := (FB1111.out).cell (i := 2) (by omega)
          have zf2 := (FB1111.out).frozen 2
          (try dsimp only [List.getD_cons_zero, List.getD_cons_succ] at zc0 zc1 zc2)
          go_simp
          obtain ⟨v12, hv12⟩ : ∃ W, W = (((v11.setCell ⟨B11, 0, none⟩ (.slice rba nb rbc)).setCell ⟨B11, 1, none⟩ (.slice ria ni ric)).setCell ⟨B11, 2, none⟩ (.slice roa no roc)) := ⟨_, rfl⟩
          have hg12 : v11.grownBy v12 (some B11) := by rw [hv12]; exact grown_put3 (World.grownBy.refl _ _)
          have HBv12 := Lib.hid (below_grown (HBv11.out) hg12 GEB11.out (HBv11.out).size)
          have FB1112 : Hid (v12.rowIs B11 29 3 (fun i => ([.slice rba nb rbc, .slice ria ni ric, .slice roa no roc] : List Value).getD i undef)) := Lib.hid (by rw [hv12]; exact put3_row (FB1111.out))
          have FN12 := Lib.hid ((HN11.out).grownS hg12 (FB1111.out))
          (try rw [← hv12])
          clear hg12 hv12 zc0 zf0 zc1 zf1 zc2 zf2
          refine hK.out _ _ (by exact HK5.out _ HBv12.out) (fun hHeld => ?_)
          clear hK K
          try simp only [Act.put, List.setIfInBounds_toArray, List.set_cons_zero, List.set_cons_succ]
          refine wpAnyH_take (i := 11) (v := ?_) (by simp only [List.getElem?_toArray, List.getElem?_cons_succ, List.getElem?_cons_zero]; rfl) (by kernel_rfl) (by kernel_rfl) (by kernel_rfl) (by intro _ _ _ h; exact h) (Or.inl ⟨by rfl, ?_⟩) (by assumption) ?_
          rotate_left
          · intro w hSw; (try dsimp only at hSw); go_simp; try with_reducible rfl
          try simp only [Act.put, List.setIfInBounds_toArray, List.set_cons_zero, List.set_cons_succ]
          refine wpAnyH_done (by kernel_rfl) ?_ _
          go_wp2_with fail
          go_meet
          exact ⟨B11, rba, rbc, rbs, ria, ric, ris, roa, roc, ros, rfl, rfl, Lib.hid ⟨HBv12.out, FB1112.out, (FN12.out).anew, HD.out, HL5.out⟩⟩
      case rest =>
        obtain ⟨B11, rba, rbc, rbs, ria, ric, ris, roa, roc, ros, rfl, rfl, HC⟩ := hcut
        obtain ⟨w5, hw5⟩ : ∃ W, W = wc := ⟨_, rfl⟩
        subst hw5
        have HBw5 : Hid (Below w1.heap.size w1 w5) := Lib.hid (HBw3.out.trans (HC.out.1.mono HBw3.out.size))
        have HKw5 : Hid (∀ W, Below w5.heap.size w5 W → W.cell? ⟨H, 0, none⟩ = some (.int .i64 aw) ∧ W.cell? ⟨H, 1, none⟩ = some (.int .i64 ah) ∧ W.cell? ⟨H, 2, none⟩ = some (.int .i64 at_) ∧ W.cell? ⟨H1, 0, none⟩ = some (.int .i64 pi) ∧ W.cell? ⟨H1, 1, none⟩ = some (.slice pa nb pc) ∧ W.cell? ⟨H1, 2, none⟩ = some (.slice qa no qc) ∧ W.cell? ⟨B11, 0, none⟩ = some (.slice rba nb rbc) ∧ W.cell? ⟨B11, 1, none⟩ = some (.slice ria ni ric) ∧ W.cell? ⟨B11, 2, none⟩ = some (.slice roa no roc)) := Lib.hid fun W hW => by
          obtain ⟨a0, a1, a2, p0, p1, p2⟩ := HK.out W (HBw5.out.trans (hW.mono HBw5.out.size))
          have hr := HC.out.2.1
          have h := hr.of_block (hW.block B11 hr.lt)
          exact ⟨a0, a1, a2, p0, p1, p2, h.cell (by omega), h.cell (by omega), h.cell (by omega)⟩
        obtain ⟨a0, a1, a2, p0, p1, p2, x0, x1, x2⟩ := HKw5.out w5 (Below.refl w5.heap.size w5)
        go_wp2_with fail
        clear a0 a1 a2 p0 p1 p2 x0 x1 x2
        refine Calls.mono (CPy.out (by trivial) H60.out (by trivial) w5 (HXW.out _ HBw5.out)) ?_
        rintro e w6 ⟨qba, qbc, qbs, qia, qic, qis, qoa, qoc, qos, rfl, hD2, hQ, hl2, hb⟩
        have HBw6 : Hid (Below w1.heap.size w1 w6) := Lib.hid ((HBw5.out).trans (hb.mono (HBw5.out).size))
        have HVw6 : Hid (Below w5.heap.size w5 w6) := Lib.hid (((Below.refl w5.heap.size w5)).trans (hb.mono ((Below.refl w5.heap.size w5)).size))
        clear hb
        obtain ⟨B13, hB13⟩ : ∃ x, x = w6.heap.size := ⟨_, rfl⟩
        obtain ⟨w7, hw7⟩ : ∃ W, W = w6.alloc (.cells #[.slice qba nb qbc, .slice qia ni qic, .slice qoa no qoc] 29) := ⟨_, rfl⟩
        have hvw7 : Below w6.heap.size w6 w7 := by rw [hw7]; exact (Below.refl _ _).alloc (Nat.le_refl _) _
        have HBw7 : Hid (Below w1.heap.size w1 w7) := Lib.hid ((HBw6.out).trans (hvw7.mono (HBw6.out).size))
        have HUw7 := Lib.hid hvw7
        have hrw7 : w7.rowIs (B13) 29 3 (fun i => ([.slice qba nb qbc, .slice qia ni qic, .slice qoa no qoc] : List Value).getD i undef) := by rw [hw7, hB13]; exact rowL_alloc w6 29 [.slice qba nb qbc, .slice qia ni qic, .slice qoa no qoc]
        have HKw7 : Hid (∀ W, Below w7.heap.size w7 W → W.cell? ⟨H, 0, none⟩ = some (.int .i64 aw) ∧ W.cell? ⟨H, 1, none⟩ = some (.int .i64 ah) ∧ W.cell? ⟨H, 2, none⟩ = some (.int .i64 at_) ∧ W.cell? ⟨H1, 0, none⟩ = some (.int .i64 pi) ∧ W.cell? ⟨H1, 1, none⟩ = some (.slice pa nb pc) ∧ W.cell? ⟨H1, 2, none⟩ = some (.slice qa no qc) ∧ W.cell? ⟨B11, 0, none⟩ = some (.slice rba nb rbc) ∧ W.cell? ⟨B11, 1, none⟩ = some (.slice ria ni ric) ∧ W.cell? ⟨B11, 2, none⟩ = some (.slice roa no roc) ∧ W.cell? ⟨B13, 0, none⟩ = some (.slice qba nb qbc) ∧ W.cell? ⟨B13, 1, none⟩ = some (.slice qia ni qic) ∧ W.cell? ⟨B13, 2, none⟩ = some (.slice qoa no qoc)) := Lib.hid fun W hW => by
          obtain ⟨a0, a1, a2, p0, p1, p2, x0, x1, x2⟩ := HKw5.out W ((HVw6.out).trans ((hvw7.trans (hW.mono hvw7.size)).mono (HVw6.out).size))
          have h := hrw7.of_block (hW.block B13 hrw7.lt)
          exact ⟨a0, a1, a2, p0, p1, p2, x0, x1, x2, h.cell (by omega), h.cell (by omega), h.cell (by omega)⟩
        have hk := HKw7.out w7 (Below.refl _ _)
        clear hvw7 hrw7
        rw [hw7, hB13] at hk
        obtain ⟨a0, a1, a2, p0, p1, p2, x0, x1, x2, y0, y1, y2⟩ := hk
        have HQ7 := Lib.hid (hQ.below HUw7.out (Nat.le_refl _))
        have HD2 := Lib.hid hD2
        have HL2 := Lib.hid hl2
        clear hQ hD2 hl2
        go_wp2_with fail
        clear a0 a1 a2 p0 p1 p2 x0 x1 x2 y0 y1 y2
        rw [← hw7]
        (try rw [← hB13])
        clear hw7 hB13
        have HR7 := Lib.hid ((HC.out.2.2.1.below HVw6.out (Nat.le_refl _)).below HUw7.out (Nat.le_refl _))
        refine Calls.mono (CRj.out (by trivial) (by trivial) j w7 rba rbc rbs ria ric ris roa roc ros (HXW.out _ HBw7.out) HR7.out HC.out.2.2.2.1 HC.out.2.2.2.2) ?_
        rintro e w8 ⟨rfl, hb⟩
        have HBw8 : Hid (Below w1.heap.size w1 w8) := Lib.hid ((HBw7.out).trans (hb.mono (HBw7.out).size))
        have HVw8 : Hid (Below w7.heap.size w7 w8) := Lib.hid (((Below.refl w7.heap.size w7)).trans (hb.mono ((Below.refl w7.heap.size w7)).size))
        clear hb
        obtain ⟨a0, a1, a2, p0, p1, p2, x0, x1, x2, y0, y1, y2⟩ := HKw7.out w8 HVw8.out
        go_wp2_with fail
        clear a0 a1 a2 p0 p1 p2 x0 x1 x2 y0 y1 y2
        refine Calls.mono (CRd.out (by trivial) (by trivial) w8 qba qbc qbs qia qic qis qoa qoc qos (HXW.out _ HBw8.out) (HQ7.out.below HVw8.out (Nat.le_refl _)) HD2.out HL2.out) ?_
        rintro e w9 ⟨rfl, hb⟩
        have HBw9 : Hid (Below w1.heap.size w1 w9) := Lib.hid ((HBw8.out).trans (hb.mono (HBw8.out).size))
        have HVw9 : Hid (Below w7.heap.size w7 w9) := Lib.hid ((HVw8.out).trans (hb.mono (HVw8.out).size))
        clear hb
        have hle := HLe2.out (by trivial) j HJN.out
        have d2 : decide (cp ≤ cj j) = true := by rw [decide_eq_true_eq]; exact hle
        clear hle
        go_wp2_with fail
        go_ret
        exact ⟨rfl, HXW.out _ HBw9.out⟩
    · have HE := Lib.hid hE
      have d2 : (er != 0) = true := by simpa using hE
      have d3 : (er == 0) = false := by simpa using hE
      clear hE
      go_cut [11, 12] from 39 to 47 (fun p q wx => ∃ B rba rbc ria ric roa roc, p = .pointer (some ⟨B, 0, none⟩) ∧ q = .int .i64 er ∧ Hid (Below w3.heap.size w3 wx ∧ wx.rowIs (B) 29 3 (fun i => ([.slice rba 0 rbc, .slice ria 0 ric, .slice roa 0 roc] : List Value).getD i undef)))
      case first =>
        refine wp_region_held_drew (S := fun w' => w'.cell? ⟨H, 0, none⟩ = some (.int .i64 aw) ∧ w'.cell? ⟨H, 1, none⟩ = some (.int .i64 ah) ∧ w'.cell? ⟨H, 2, none⟩ = some (.int .i64 at_) ∧ w'.cell? ⟨H1, 0, none⟩ = some (.int .i64 pi) ∧ w'.cell? ⟨H1, 1, none⟩ = some (.slice pa nb pc) ∧ w'.cell? ⟨H1, 2, none⟩ = some (.slice qa no qc)) (by kernel_rfl) (HK5.out _ (Below.refl _ _).drew) (fun hHeld => ?_)
        obtain ⟨v13, hv13⟩ : ∃ W, W = w3.drew := ⟨_, rfl⟩
        have hb13 : Below w3.heap.size w3 v13 := by rw [hv13]; exact (Below.refl _ _).drew
        rw [← hv13] at hHeld ⊢
        have HBv13 := Lib.hid hb13
        clear hb13 hv13
        refine wpAnyH_take (i := 0) (v := ?_) (by simp only [List.getElem?_toArray, List.getElem?_cons_succ, List.getElem?_cons_zero]; rfl) (by kernel_rfl) (by kernel_rfl) (by kernel_rfl) (by intro _ _ _ h; exact h) (Or.inl ⟨by rfl, ?_⟩) (by assumption) ?_
        rotate_left
        · intro w hSw; (try dsimp only at hSw); go_simp; try with_reducible rfl
        try simp only [Act.put, List.setIfInBounds_toArray, List.set_cons_zero, List.set_cons_succ]
        refine wpAnyH_take (i := 1) (v := ?_) (by simp only [List.getElem?_toArray, List.getElem?_cons_succ, List.getElem?_cons_zero]; rfl) (by kernel_rfl) (by kernel_rfl) (by kernel_rfl) (by intro _ _ _ h; exact h) (Or.inl ⟨by rfl, ?_⟩) (by assumption) ?_
        rotate_left
        · intro w hSw; (try dsimp only at hSw); go_simp; try with_reducible rfl
        try simp only [Act.put, List.setIfInBounds_toArray, List.set_cons_zero, List.set_cons_succ]
        refine wpAnyH_take (i := 2) (v := ?_) (by simp only [List.getElem?_toArray, List.getElem?_cons_succ, List.getElem?_cons_zero]; rfl) (by kernel_rfl) (by kernel_rfl) (by kernel_rfl) (by intro _ _ _ h; exact h) (Or.inl ⟨by rfl, ?_⟩) (by assumption) ?_
        rotate_left
        · intro w hSw; (try dsimp only at hSw); go_simp; try with_reducible rfl
        try simp only [Act.put, List.setIfInBounds_toArray, List.set_cons_zero, List.set_cons_succ]
        refine wpAnyH_take (i := 3) (v := ?_) (by simp only [List.getElem?_toArray, List.getElem?_cons_succ, List.getElem?_cons_zero]; rfl) (by kernel_rfl) (by kernel_rfl) (by kernel_rfl) (by intro _ _ _ h; exact h) (Or.inl ⟨by rfl, ?_⟩) (by assumption) ?_
        rotate_left
        · intro w hSw; (try dsimp only at hSw); go_simp; try with_reducible rfl
        try simp only [Act.put, List.setIfInBounds_toArray, List.set_cons_zero, List.set_cons_succ]
        refine wpAnyH_take (i := 4) (v := ?_) (by simp only [List.getElem?_toArray, List.getElem?_cons_succ, List.getElem?_cons_zero]; rfl) (by kernel_rfl) (by kernel_rfl) (by kernel_rfl) (by intro _ _ _ h; exact h) (Or.inl ⟨by rfl, ?_⟩) (by assumption) ?_
        rotate_left
        · intro w hSw; (try dsimp only at hSw); go_simp; rw [HK3.out]; simp only [Int.toNat_natCast]; rw [if_pos (by omega)]
        try simp only [Act.put, List.setIfInBounds_toArray, List.set_cons_zero, List.set_cons_succ]
        refine wpAnyH_ready (rs := [5, 9]) (by kernel_rfl) (by simp) ?_
        refine AllReadyH.cons (o := _) (by simp only [List.getElem?_toArray, List.getElem?_cons_succ, List.getElem?_cons_zero]; rfl) (fun K hK => ?_) (AllReadyH.cons (o := _) (by simp only [List.getElem?_toArray, List.getElem?_cons_succ, List.getElem?_cons_zero]; rfl) (fun K hK => ?_) AllReadyH.nil)
        · go_simp
          go_at_call 22
          refine Calls.mono (CTn.out (by trivial) H60.out HE.out t j HTJ.out HJN.out v13 (HXW.out _ (HBw3.out.trans ((HBv13.out).mono HBw3.out.size)))) ?_
          rintro e v14 ⟨rba, rbc, ria, ric, roa, roc, rfl, hn14, hb14⟩
          have HBv14 := Lib.hid ((HBv13.out).trans (hb14.mono (HBv13.out).size))
          clear hn14
          clear hb14
          go_simp
          refine hK.out _ _ (by exact HK5.out _ HBv14.out) (fun hHeld => ?_)
          clear hK K
          try simp only [Act.put, List.setIfInBounds_toArray, List.set_cons_zero, List.set_cons_succ]
          refine wpAnyH_take (i := 6) (v := ?_) (by simp only [List.getElem?_toArray, List.getElem?_cons_succ, List.getElem?_cons_zero]; rfl) (by kernel_rfl) (by kernel_rfl) (by kernel_rfl) (by intro _ _ _ h; exact h) (Or.inl ⟨by rfl, ?_⟩) (by assumption) ?_
          rotate_left
          · intro w hSw; (try dsimp only at hSw); go_simp; try with_reducible rfl
          try simp only [Act.put, List.setIfInBounds_toArray, List.set_cons_zero, List.set_cons_succ]
          refine wpAnyH_take (i := 7) (v := ?_) (by simp only [List.getElem?_toArray, List.getElem?_cons_succ, List.getElem?_cons_zero]; rfl) (by kernel_rfl) (by kernel_rfl) (by kernel_rfl) (by intro _ _ _ h; exact h) (Or.inl ⟨by rfl, ?_⟩) (by assumption) ?_
          rotate_left
          · intro w hSw; (try dsimp only at hSw); go_simp; try with_reducible rfl
          try simp only [Act.put, List.setIfInBounds_toArray, List.set_cons_zero, List.set_cons_succ]
          refine wpAnyH_take (i := 8) (v := ?_) (by simp only [List.getElem?_toArray, List.getElem?_cons_succ, List.getElem?_cons_zero]; rfl) (by kernel_rfl) (by kernel_rfl) (by kernel_rfl) (by intro _ _ _ h; exact h) (Or.inl ⟨by rfl, ?_⟩) (by assumption) ?_
          rotate_left
          · intro w hSw; (try dsimp only at hSw); go_simp; try with_reducible rfl
          try simp only [Act.put, List.setIfInBounds_toArray, List.set_cons_zero, List.set_cons_succ]
          refine wpAnyH_ready (rs := [9]) (by kernel_rfl) (by simp) ?_
          refine AllReadyH.cons (o := _) (by simp only [List.getElem?_toArray, List.getElem?_cons_succ, List.getElem?_cons_zero]; rfl) (fun K hK => ?_) AllReadyH.nil
          go_simp
          obtain ⟨B11, hB11⟩ : ∃ x, x = v14.heap.size := ⟨_, rfl⟩
          obtain ⟨v15, hv15⟩ : ∃ W, W = v14.alloc (.cells #[.slice none 0 0, .slice none 0 0, .slice none 0 0] 29) := ⟨_, rfl⟩
          have hb15 : Below v14.heap.size v14 v15 := by rw [hv15]; exact (Below.refl v14.heap.size v14).alloc (Nat.le_refl _) (.cells #[.slice none 0 0, .slice none 0 0, .slice none 0 0] 29)
          have HBv15 := Lib.hid ((HBv14.out).trans (hb15.mono (HBv14.out).size))
          have FB1115 : Hid (v15.rowIs B11 29 3 (fun i => ([.slice none 0 0, .slice none 0 0, .slice none 0 0] : List Value).getD i undef)) := Lib.hid (by rw [hv15, hB11]; exact rowL_alloc v14 29 [.slice none 0 0, .slice none 0 0, .slice none 0 0])
          have GEB11 : Hid (w3.heap.size ≤ B11) := Lib.hid (by rw [hB11]; exact (HBv14.out).size)
          (try rw [← hv15])
          (try rw [← hB11])
          clear hb15 hv15 hB11
          refine hK.out _ _ (by exact HK5.out _ HBv15.out) (fun hHeld => ?_)
          clear hK K
          try simp only [Act.put, List.setIfInBounds_toArray, List.set_cons_zero, List.set_cons_succ]
          refine wpAnyH_ready (rs := [10]) (by kernel_rfl) (by simp) ?_
          refine AllReadyH.cons (o := _) (by simp only [List.getElem?_toArray, List.getElem?_cons_succ, List.getElem?_cons_zero]; rfl) (fun K hK => ?_) AllReadyH.nil
          have zc0 := (FB1115.out).cell (i := 0) (by omega)
          have zf0 := (FB1115.out).frozen 0
          have zc1 := (FB1115.out).cell (i := 1) (by omega)
          have zf1 := (FB1115.out).frozen 1
          have zc2 := (FB1115.out).cell (i := 2) (by omega)
          have zf2 := (FB1115.out).frozen 2
          (try dsimp only [List.getD_cons_zero, List.getD_cons_succ] at zc0 zc1 zc2)
          go_simp
          obtain ⟨v16, hv16⟩ : ∃ W, W = (((v15.setCell ⟨B11, 0, none⟩ (.slice rba 0 rbc)).setCell ⟨B11, 1, none⟩ (.slice ria 0 ric)).setCell ⟨B11, 2, none⟩ (.slice roa 0 roc)) := ⟨_, rfl⟩
          have hg16 : v15.grownBy v16 (some B11) := by rw [hv16]; exact grown_put3 (World.grownBy.refl _ _)
          have HBv16 := Lib.hid (below_grown (HBv15.out) hg16 GEB11.out (HBv15.out).size)
          have FB1116 : Hid (v16.rowIs B11 29 3 (fun i => ([.slice rba 0 rbc, .slice ria 0 ric, .slice roa 0 roc] : List Value).getD i undef)) := Lib.hid (by rw [hv16]; exact put3_row (FB1115.out))
          (try rw [← hv16])
          clear hg16 hv16 zc0 zf0 zc1 zf1 zc2 zf2
          refine hK.out _ _ (by exact HK5.out _ HBv16.out) (fun hHeld => ?_)
          clear hK K
          try simp only [Act.put, List.setIfInBounds_toArray, List.set_cons_zero, List.set_cons_succ]
          refine wpAnyH_take (i := 11) (v := ?_) (by simp only [List.getElem?_toArray, List.getElem?_cons_succ, List.getElem?_cons_zero]; rfl) (by kernel_rfl) (by kernel_rfl) (by kernel_rfl) (by intro _ _ _ h; exact h) (Or.inl ⟨by rfl, ?_⟩) (by assumption) ?_
          rotate_left
          · intro w hSw; (try dsimp only at hSw); go_simp; try with_reducible rfl
          try simp only [Act.put, List.setIfInBounds_toArray, List.set_cons_zero, List.set_cons_succ]
          refine wpAnyH_done (by kernel_rfl) ?_ _
          go_wp2_with fail
          go_meet
          exact ⟨B11, rba, rbc, ria, ric, roa, roc, rfl, rfl, Lib.hid ⟨HBv16.out, FB1116.out⟩⟩
        · go_simp
          obtain ⟨B11, hB11⟩ : ∃ x, x = v13.heap.size := ⟨_, rfl⟩
          obtain ⟨v17, hv17⟩ : ∃ W, W = v13.alloc (.cells #[.slice none 0 0, .slice none 0 0, .slice none 0 0] 29) := ⟨_, rfl⟩
          have hb17 : Below v13.heap.size v13 v17 := by rw [hv17]; exact (Below.refl v13.heap.size v13).alloc (Nat.le_refl _) (.cells #[.slice none 0 0, .slice none 0 0, .slice none 0 0] 29)
          have HBv17 := Lib.hid ((HBv13.out).trans (hb17.mono (HBv13.out).size))
          have FB1117 : Hid (v17.rowIs B11 29 3 (fun i => ([.slice none 0 0, .slice none 0 0, .slice none 0 0] : List Value).getD i undef)) := Lib.hid (by rw [hv17, hB11]; exact rowL_alloc v13 29 [.slice none 0 0, .slice none 0 0, .slice none 0 0])
          have GEB11 : Hid (w3.heap.size ≤ B11) := Lib.hid (by rw [hB11]; exact (HBv13.out).size)
          (try rw [← hv17])
          (try rw [← hB11])
          clear hb17 hv17 hB11
          refine hK.out _ _ (by exact HK5.out _ HBv17.out) (fun hHeld => ?_)
          clear hK K
          try simp only [Act.put, List.setIfInBounds_toArray, List.set_cons_zero, List.set_cons_succ]
          refine wpAnyH_ready (rs := [5]) (by kernel_rfl) (by simp) ?_
          refine AllReadyH.cons (o := _) (by simp only [List.getElem?_toArray, List.getElem?_cons_succ, List.getElem?_cons_zero]; rfl) (fun K hK => ?_) AllReadyH.nil
          go_simp
          go_at_call 22
          refine Calls.mono (CTn.out (by trivial) H60.out HE.out t j HTJ.out HJN.out v17 (HXW.out _ (HBw3.out.trans ((HBv17.out).mono HBw3.out.size)))) ?_
          rintro e v18 ⟨rba, rbc, ria, ric, roa, roc, rfl, hn18, hb18⟩
          have HBv18 := Lib.hid ((HBv17.out).trans (hb18.mono (HBv17.out).size))
          have FB1118 := Lib.hid ((FB1117.out).of_block (hb18.block B11 (FB1117.out).lt))
          clear hn18
          clear hb18
          go_simp
          refine hK.out _ _ (by exact HK5.out _ HBv18.out) (fun hHeld => ?_)
          clear hK K
          try simp only [Act.put, List.setIfInBounds_toArray, List.set_cons_zero, List.set_cons_succ]
          refine wpAnyH_take (i := 6) (v := ?_) (by simp only [List.getElem?_toArray, List.getElem?_cons_succ, List.getElem?_cons_zero]; rfl) (by kernel_rfl) (by kernel_rfl) (by kernel_rfl) (by intro _ _ _ h; exact h) (Or.inl ⟨by rfl, ?_⟩) (by assumption) ?_
          rotate_left
          · intro w hSw; (try dsimp only at hSw); go_simp; try with_reducible rfl
          try simp only [Act.put, List.setIfInBounds_toArray, List.set_cons_zero, List.set_cons_succ]
          refine wpAnyH_take (i := 7) (v := ?_) (by simp only [List.getElem?_toArray, List.getElem?_cons_succ, List.getElem?_cons_zero]; rfl) (by kernel_rfl) (by kernel_rfl) (by kernel_rfl) (by intro _ _ _ h; exact h) (Or.inl ⟨by rfl, ?_⟩) (by assumption) ?_
          rotate_left
          · intro w hSw; (try dsimp only at hSw); go_simp; try with_reducible rfl
          try simp only [Act.put, List.setIfInBounds_toArray, List.set_cons_zero, List.set_cons_succ]
          refine wpAnyH_take (i := 8) (v := ?_) (by simp only [List.getElem?_toArray, List.getElem?_cons_succ, List.getElem?_cons_zero]; rfl) (by kernel_rfl) (by kernel_rfl) (by kernel_rfl) (by intro _ _ _ h; exact h) (Or.inl ⟨by rfl, ?_⟩) (by assumption) ?_
          rotate_left
          · intro w hSw; (try dsimp only at hSw); go_simp; try with_reducible rfl
          try simp only [Act.put, List.setIfInBounds_toArray, List.set_cons_zero, List.set_cons_succ]
          refine wpAnyH_ready (rs := [10]) (by kernel_rfl) (by simp) ?_
          refine AllReadyH.cons (o := _) (by simp only [List.getElem?_toArray, List.getElem?_cons_succ, List.getElem?_cons_zero]; rfl) (fun K hK => ?_) AllReadyH.nil
          have zc0 := (FB1118.out).cell (i := 0) (by omega)
          have zf0 := (FB1118.out).frozen 0
          have zc1 := (FB1118.out).cell (i := 1) (by omega)
          have zf1 := (FB1118.out).frozen 1
          have zc2 := (FB1118.out).cell (i := 2) (by omega)
          have zf2 := (FB1118.out).frozen 2
          (try dsimp only [List.getD_cons_zero, List.getD_cons_succ] at zc0 zc1 zc2)
          go_simp
          obtain ⟨v19, hv19⟩ : ∃ W, W = (((v18.setCell ⟨B11, 0, none⟩ (.slice rba 0 rbc)).setCell ⟨B11, 1, none⟩ (.slice ria 0 ric)).setCell ⟨B11, 2, none⟩ (.slice roa 0 roc)) := ⟨_, rfl⟩
          have hg19 : v18.grownBy v19 (some B11) := by rw [hv19]; exact grown_put3 (World.grownBy.refl _ _)
          have HBv19 := Lib.hid (below_grown (HBv18.out) hg19 GEB11.out (HBv18.out).size)
          have FB1119 : Hid (v19.rowIs B11 29 3 (fun i => ([.slice rba 0 rbc, .slice ria 0 ric, .slice roa 0 roc] : List Value).getD i undef)) := Lib.hid (by rw [hv19]; exact put3_row (FB1118.out))
          (try rw [← hv19])
          clear hg19 hv19 zc0 zf0 zc1 zf1 zc2 zf2
          refine hK.out _ _ (by exact HK5.out _ HBv19.out) (fun hHeld => ?_)
          clear hK K
          try simp only [Act.put, List.setIfInBounds_toArray, List.set_cons_zero, List.set_cons_succ]
          refine wpAnyH_take (i := 11) (v := ?_) (by simp only [List.getElem?_toArray, List.getElem?_cons_succ, List.getElem?_cons_zero]; rfl) (by kernel_rfl) (by kernel_rfl) (by kernel_rfl) (by intro _ _ _ h; exact h) (Or.inl ⟨by rfl, ?_⟩) (by assumption) ?_
          rotate_left
          · intro w hSw; (try dsimp only at hSw); go_simp; try with_reducible rfl
          try simp only [Act.put, List.setIfInBounds_toArray, List.set_cons_zero, List.set_cons_succ]
          refine wpAnyH_done (by kernel_rfl) ?_ _
          go_wp2_with fail
          go_meet
          exact ⟨B11, rba, rbc, ria, ric, roa, roc, rfl, rfl, Lib.hid ⟨HBv19.out, FB1119.out⟩⟩
      case rest =>
        obtain ⟨B11, rba, rbc, ria, ric, roa, roc, rfl, rfl, HC⟩ := hcut
        obtain ⟨w5, hw5⟩ : ∃ W, W = wc := ⟨_, rfl⟩
        subst hw5
        have HBw5 : Hid (Below w1.heap.size w1 w5) := Lib.hid (HBw3.out.trans (HC.out.1.mono HBw3.out.size))
        have HKw5 : Hid (∀ W, Below w5.heap.size w5 W → W.cell? ⟨H, 0, none⟩ = some (.int .i64 aw) ∧ W.cell? ⟨H, 1, none⟩ = some (.int .i64 ah) ∧ W.cell? ⟨H, 2, none⟩ = some (.int .i64 at_) ∧ W.cell? ⟨H1, 0, none⟩ = some (.int .i64 pi) ∧ W.cell? ⟨H1, 1, none⟩ = some (.slice pa nb pc) ∧ W.cell? ⟨H1, 2, none⟩ = some (.slice qa no qc) ∧ W.cell? ⟨B11, 0, none⟩ = some (.slice rba 0 rbc) ∧ W.cell? ⟨B11, 1, none⟩ = some (.slice ria 0 ric) ∧ W.cell? ⟨B11, 2, none⟩ = some (.slice roa 0 roc)) := Lib.hid fun W hW => by
          obtain ⟨a0, a1, a2, p0, p1, p2⟩ := HK.out W (HBw5.out.trans (hW.mono HBw5.out.size))
          have hr := HC.out.2
          have h := hr.of_block (hW.block B11 hr.lt)
          exact ⟨a0, a1, a2, p0, p1, p2, h.cell (by omega), h.cell (by omega), h.cell (by omega)⟩
        obtain ⟨a0, a1, a2, p0, p1, p2, x0, x1, x2⟩ := HKw5.out w5 (Below.refl w5.heap.size w5)
        go_wp2_with fail
        clear a0 a1 a2 p0 p1 p2 x0 x1 x2
        refine Calls.mono (CPn.out (by trivial) H60.out HE.out w5 (HXW.out _ HBw5.out)) ?_
        rintro e w6 ⟨qba, qbc, qia, qic, qoa, qoc, rfl, hQ, hb⟩
        have HBw6 : Hid (Below w1.heap.size w1 w6) := Lib.hid ((HBw5.out).trans (hb.mono (HBw5.out).size))
        have HVw6 : Hid (Below w5.heap.size w5 w6) := Lib.hid (((Below.refl w5.heap.size w5)).trans (hb.mono ((Below.refl w5.heap.size w5)).size))
        clear hb
        clear hQ
        obtain ⟨B13, hB13⟩ : ∃ x, x = w6.heap.size := ⟨_, rfl⟩
        obtain ⟨w7, hw7⟩ : ∃ W, W = w6.alloc (.cells #[.slice qba 0 qbc, .slice qia 0 qic, .slice qoa 0 qoc] 29) := ⟨_, rfl⟩
        have hvw7 : Below w6.heap.size w6 w7 := by rw [hw7]; exact (Below.refl _ _).alloc (Nat.le_refl _) _
        have HBw7 : Hid (Below w1.heap.size w1 w7) := Lib.hid ((HBw6.out).trans (hvw7.mono (HBw6.out).size))
        have HUw7 := Lib.hid hvw7
        have hrw7 : w7.rowIs (B13) 29 3 (fun i => ([.slice qba 0 qbc, .slice qia 0 qic, .slice qoa 0 qoc] : List Value).getD i undef) := by rw [hw7, hB13]; exact rowL_alloc w6 29 [.slice qba 0 qbc, .slice qia 0 qic, .slice qoa 0 qoc]
        have HKw7 : Hid (∀ W, Below w7.heap.size w7 W → W.cell? ⟨H, 0, none⟩ = some (.int .i64 aw) ∧ W.cell? ⟨H, 1, none⟩ = some (.int .i64 ah) ∧ W.cell? ⟨H, 2, none⟩ = some (.int .i64 at_) ∧ W.cell? ⟨H1, 0, none⟩ = some (.int .i64 pi) ∧ W.cell? ⟨H1, 1, none⟩ = some (.slice pa nb pc) ∧ W.cell? ⟨H1, 2, none⟩ = some (.slice qa no qc) ∧ W.cell? ⟨B11, 0, none⟩ = some (.slice rba 0 rbc) ∧ W.cell? ⟨B11, 1, none⟩ = some (.slice ria 0 ric) ∧ W.cell? ⟨B11, 2, none⟩ = some (.slice roa 0 roc) ∧ W.cell? ⟨B13, 0, none⟩ = some (.slice qba 0 qbc) ∧ W.cell? ⟨B13, 1, none⟩ = some (.slice qia 0 qic) ∧ W.cell? ⟨B13, 2, none⟩ = some (.slice qoa 0 qoc)) := Lib.hid fun W hW => by
          obtain ⟨a0, a1, a2, p0, p1, p2, x0, x1, x2⟩ := HKw5.out W ((HVw6.out).trans ((hvw7.trans (hW.mono hvw7.size)).mono (HVw6.out).size))
          have h := hrw7.of_block (hW.block B13 hrw7.lt)
          exact ⟨a0, a1, a2, p0, p1, p2, x0, x1, x2, h.cell (by omega), h.cell (by omega), h.cell (by omega)⟩
        have hk := HKw7.out w7 (Below.refl _ _)
        clear hvw7 hrw7
        rw [hw7, hB13] at hk
        obtain ⟨a0, a1, a2, p0, p1, p2, x0, x1, x2, y0, y1, y2⟩ := hk
        go_wp2_with fail
        rw [← hw7]
        go_ret
        exact ⟨rfl, HXW.out _ HBw7.out⟩
end Go.Proofs.Ytholafodachjnaa
