/- Where all is in the end, as the document tells it (Place). -/
import Derived.Deep.CutRange
import Derived.Test.YtholafodachjnaaZ43
import Derived.Test.YtholafodachjnaaZ32
import Derived.Test.YtholafodachjnaaZL
namespace Go.Proofs.Ytholafodachjnaa
open Go.RowKit Go.Shelf
set_option linter.unusedVariables false
set_option linter.unusedSimpArgs false

theorem KpX.belowX {B n₀ X : Nat} {w W0 W : World} (h : KpX n₀ X W0 W) (h0 : Below B w W0) (hB : B ≤ X) (hn : B ≤ n₀) : Below B w W :=
  h0.trans ⟨h.os, h.tape, h.output, h.size, fun k hk => h.block k (by omega) (by omega)⟩
/-- Between two rounds: the spots' box, and what else lies as it lay. -/
structure PlR (base n₀ X : Nat) (W0 : World) (S : SpotD) (W : World) : Prop where
  kp : KpX n₀ X W0 W
  st : ∃ R : SpotV, R.data = S ∧ W.rowIs X 29 3 (fun i => ([Value.slice R.ba R.bs.length R.bc, Value.slice R.ia R.is.length R.ic, Value.slice R.oa R.os.length R.oc] : List Value).getD i undef) ∧ SpotNew base noSpots R W
theorem f23_results : Try.f23.results = #[.cell 6 29, .tmp 7] := rfl
theorem place_end {R : Ending → World → Prop} {a : Act} {W : World} {b : Nat} {f : Nat → Value} {v0 v1 v2 : Value} {e : Int} {W' : World} (hrow : W.rowIs b 29 3 f)
    (h6 : a.tmps[6]?.getD undef = .pointer (some ⟨b, 0, none⟩)) (h8 : a.tmps[7]?.getD undef = .int .i64 e) (hd : a.defers = []) (hW : W' = (((W.setCell ⟨b, 0, none⟩ (v0)).setCell ⟨b, 1, none⟩ (v1)).setCell ⟨b, 2, none⟩ (v2)))
    (hR : R (.returned (.tuple #[.agg #[v0, v1, v2], .int .i64 e])) W') : bodyPost Try.prog Try.f23 R .ret a W' := by
  subst hW
  exact bodyPost_ret (results_place f23_results h6 h8 (put3_row hrow)) hd hR
set_option maxRecDepth 100000 in
set_option maxHeartbeats 16000000 in
theorem place23 (w : World) (a : ArchV) (P : PackV) (hP : PackAt w P) (hf : FewP P) (da : Option Addr) (n cap : Nat) (ds : List Int) (hl : ds.length = n) (hn : n ≤ 1000) (hnc : n ≤ cap) (hd : Seq w da n (ints ds)) :
    Calls Try.prog 23 #[a.val, P.val, .slice da n cap] w fun e w' => PlaceOut a P ds w e w' := by
  have HF1 : Hid (∀ W, Below w.heap.size w W → Calls Try.prog 18 #[a.val, P.val] W fun e w' => FirstOut a P W e w') := Lib.hid fun W hW => first18 W a P (hP.below hW (Nat.le_refl _)) hf
  have HR0 : Hid (errF a P = 0 → RightAll a P.data (firstD P)) := Lib.hid fun h => by
    obtain ⟨h1, h2⟩ := errF_ok.1 h
    exact first_right h1 h2
  have HB : Hid (∀ W S m k, Below w.heap.size w W → SpotAt W S → RightAll a P.data S.data → TwoOk a m k → Calls Try.prog 42 #[a.val, P.val, S.val, .int .i64 m, .int .i64 k] W fun e w' => ∃ R : SpotV, e = .returned (.tuple #[R.val, .bool (betterB a P.data S.data m k), .int .i64 0]) ∧ R.data = betterD a P.data S.data m k ∧ SpotNew W.heap.size S R w' ∧ Below W.heap.size W w') := Lib.hid fun W S m k hW hS hr hmk => by
    obtain ⟨k1, k2, k3⟩ := right_few hf hr
    exact better42 W a P S (hP.below hW (Nat.le_refl _)) hS hr k1 k2 k3 m k hmk
  have HTi : Hid ((1 ≤ a.w ∧ a.w ≤ 16) → (1 ≤ a.h ∧ a.h ≤ 16) → ∀ W, Calls Try.prog 36 #[a.val] W fun e w' => e = .returned (.int .i64 (tilesL a)) ∧ Below W.heap.size W w') := Lib.hid fun hw hh W => tiles36 W a (by omega) (by omega)
  have HPd : Hid ((1 ≤ a.w ∧ a.w ≤ 16) → (1 ≤ a.h ∧ a.h ≤ 16) → ∀ W, Calls Try.prog 38 #[a.val] W fun e w' => e = .returned (.int .i64 (padsL a)) ∧ Below W.heap.size W w') := Lib.hid fun hw hh W => pads38 W a (by omega) (by omega)
  have HOn0 : Hid (∀ {F : Int} {w'}, errF a P = F → ¬ F = 0 → Below w.heap.size w w' → PlaceOut a P ds w (.returned (.tuple #[zeroSpots, .int .i64 F])) w') := Lib.hid fun h1 h2 h3 => ⟨noSpots, by rw [h1]; rfl, by unfold placeO; rw [h1, if_neg h2], SpotNew.none _ _ _, h3⟩
  have HOy0 : Hid (∀ {R : SpotV} {w'}, errF a P = 0 → R.data = placeTo a P.data ds (firstD P) (ds.length / 2) → SpotNew w.heap.size noSpots R w' → Below w.heap.size w w' → PlaceOut a P ds w (.returned (.tuple #[R.val, .int .i64 0])) w') := Lib.hid fun h1 h2 h3 h4 => ⟨_, by rw [h1], by unfold placeO; rw [h1, if_pos rfl]; exact h2, h3, h4⟩
  have HFo : Hid (∀ W e w', FirstOut a P W e w' → ∃ R : SpotV, e = .returned (.tuple #[R.val, .int .i64 (errF a P)]) ∧ R.data = firstO a P ∧ SpotNew W.heap.size noSpots R w' ∧ Below W.heap.size W w') := Lib.hid fun W e w' h => h
  have HD := Lib.hid hd
  obtain ⟨G, hG⟩ : ∃ G, G = fun e w' => PlaceOut a P ds w e w' := ⟨_, rfl⟩
  obtain ⟨er, her⟩ : ∃ F, F = errF a P := ⟨_, rfl⟩
  obtain ⟨PT, hPT⟩ : ∃ F : Nat → SpotD, F = placeTo a P.data ds (firstD P) := ⟨_, rfl⟩
  have HPs : Hid (∀ k, PT (k + 1) = betterD a P.data (PT k) (mOf a ds k) (nOf a ds k)) := Lib.hid fun k => by rw [hPT]; rfl
  have HPr : Hid (er = 0 → ∀ k, RightAll a P.data (PT k) ∧ TwoOk a (mOf a ds k) (nOf a ds k)) := Lib.hid fun h k => by
    have h0 := HR0.out (by rw [← her]; exact h)
    rw [hPT]
    exact ⟨placeTo_right ds h0 k, two_of a ds k h0.p.w h0.p.h⟩
  have HP0 : Hid (er = 0 → firstO a P = PT 0 ∧ (1 ≤ a.w ∧ a.w ≤ 16) ∧ 1 ≤ a.h ∧ a.h ≤ 16) := Lib.hid fun h => by
    have h0 := HR0.out (by rw [← her]; exact h)
    refine ⟨?_, h0.p.w, h0.p.h⟩
    unfold firstO
    rw [← her, if_pos h, hPT]
    rfl
  have HOn : Hid (∀ {F : Int} {w'}, er = F → ¬ F = 0 → Below w.heap.size w w' → G (.returned (.tuple #[zeroSpots, .int .i64 F])) w') := Lib.hid (by rw [hG, her]; exact HOn0.out)
  have HOy : Hid (∀ {R : SpotV} {w'}, er = 0 → R.data = PT (n / 2) → SpotNew w.heap.size noSpots R w' → Below w.heap.size w w' → G (.returned (.tuple #[R.val, .int .i64 0])) w') := Lib.hid (by rw [hG, her, hPT, ← hl]; exact HOy0.out)
  rw [← hG]
  rw [← her] at HFo
  have HN9 : Hid (n ≤ 1000 ∧ n ≤ cap) := Lib.hid ⟨hn, hnc⟩
  obtain ⟨mo, hmo⟩ : ∃ F : Nat → Int, F = mOf a ds := ⟨_, rfl⟩
  obtain ⟨no_, hno_⟩ : ∃ F : Nat → Int, F = nOf a ds := ⟨_, rfl⟩
  have HMN : Hid (∀ k, mo k = ds.getD (2 * k) 0 % (tilesL a + padsL a) ∧ (mo k < tilesL a → no_ k = ds.getD (2 * k + 1) 0 % tilesL a) ∧ (¬ mo k < tilesL a → no_ k = tilesL a + ds.getD (2 * k + 1) 0 % padsL a)) := Lib.hid fun k => by
    rw [hmo, hno_]
    refine ⟨rfl, fun h => ?_, fun h => ?_⟩
    · unfold nOf; rw [if_pos h]
    · unfold nOf; rw [if_neg h]
  rw [← hmo, ← hno_] at HPs HPr
  clear HOn0 HOy0 HR0 her hPT hP hf hG hd hl hn hnc hmo hno_
  obtain ⟨aw, ah, at_⟩ := a
  obtain ⟨pi, pa, pc, pb, qa, qc, qb⟩ := P
  obtain ⟨A, hA⟩ : ∃ A : ArchV, A = ⟨aw, ah, at_⟩ := ⟨_, rfl⟩
  obtain ⟨PP, hPP⟩ : ∃ A : PackV, A = ⟨pi, pa, pc, pb, qa, qc, qb⟩ := ⟨_, rfl⟩
  rw [← hA, ← hPP] at HPs HPr HFo HP0
  unfold ArchV.val PackV.val at HF1
  unfold ArchV.val PackV.val SpotV.val at HB
  unfold ArchV.val at HTi HPd
  unfold ArchV.val PackV.val
  dsimp only at HF1 HB HTi HPd ⊢
  obtain ⟨nb, hnb⟩ : ∃ n, n = pb.length := ⟨_, rfl⟩
  obtain ⟨no, hno⟩ : ∃ n, n = qb.length := ⟨_, rfl⟩
  rw [← hnb, ← hno] at HF1 HB ⊢
  rw [← hA, ← hPP] at HF1 HB
  rw [← hA] at HTi HPd HMN
  have HAe := Lib.hid hA
  clear hnb hno hA hPP
  obtain ⟨H, hH⟩ : ∃ h, h = w.heap.size := ⟨_, rfl⟩
  obtain ⟨w1, hw1⟩ : ∃ W, W = ((w.alloc (.cells #[.int .i64 aw, .int .i64 ah, .int .i64 at_] 23)).alloc (.cells #[.int .i64 pi, .slice pa nb pc, .slice qa no qc] 27)).alloc (.cells #[.slice none 0 0, .slice none 0 0, .slice none 0 0] 29) := ⟨_, rfl⟩
  have hX1 : Below w.heap.size w w1 := by rw [hw1]; exact (((Below.refl _ _).alloc (Nat.le_refl _) _).alloc (by simp) _).alloc (by simp <;> omega) _
  have hs1 : w1.heap.size = H + 3 := by rw [hw1, hH]; simp
  obtain ⟨H1, hH1⟩ : ∃ x, x = H + 1 := ⟨_, rfl⟩
  obtain ⟨B1, hB1⟩ : ∃ x, x = H1 + 1 := ⟨_, rfl⟩
  have hrw0 : w1.rowIs (H) 23 3 (fun i => ([.int .i64 aw, .int .i64 ah, .int .i64 at_] : List Value).getD i undef) := by
    rw [hw1, hH]
    exact ((rowL_alloc w 23 [.int .i64 aw, .int .i64 ah, .int .i64 at_]).alloc _).alloc _
  have hrw1 : w1.rowIs (H1) 27 3 (fun i => ([.int .i64 pi, .slice pa nb pc, .slice qa no qc] : List Value).getD i undef) := by
    have h := (rowL_alloc (w.alloc (.cells #[.int .i64 aw, .int .i64 ah, .int .i64 at_] 23)) 27 [.int .i64 pi, .slice pa nb pc, .slice qa no qc]).alloc (.cells #[.slice none 0 0, .slice none 0 0, .slice none 0 0] 29)
    rw [hw1]
    have hsz : (w.alloc (.cells #[.int .i64 aw, .int .i64 ah, .int .i64 at_] 23)).heap.size = H1 := by rw [hH1, hH]; simp
    rw [hsz] at h
    exact h
  have hrw3 : w1.rowIs (B1) 29 3 (fun i => ([.slice none 0 0, .slice none 0 0, .slice none 0 0] : List Value).getD i undef) := by
    have h := rowL_alloc ((w.alloc (.cells #[.int .i64 aw, .int .i64 ah, .int .i64 at_] 23)).alloc (.cells #[.int .i64 pi, .slice pa nb pc, .slice qa no qc] 27)) 29 [.slice none 0 0, .slice none 0 0, .slice none 0 0]
    rw [hw1]
    have hsz : ((w.alloc (.cells #[.int .i64 aw, .int .i64 ah, .int .i64 at_] 23)).alloc (.cells #[.int .i64 pi, .slice pa nb pc, .slice qa no qc] 27)).heap.size = B1 := by rw [hB1, hH1, hH]; simp
    rw [hsz] at h
    exact h
  have HX1 := Lib.hid hX1
  have HW3r : Hid (∀ W, Below w1.heap.size w1 W → W.rowIs (B1) 29 3 (fun i => ([.slice none 0 0, .slice none 0 0, .slice none 0 0] : List Value).getD i undef)) := Lib.hid fun W hW => hrw3.of_block (hW.block B1 (by omega))
  have HK : Hid (∀ W, Below B1 w1 W → W.cell? ⟨H, 0, none⟩ = some (.int .i64 aw) ∧ W.cell? ⟨H, 1, none⟩ = some (.int .i64 ah) ∧ W.cell? ⟨H, 2, none⟩ = some (.int .i64 at_) ∧ W.cell? ⟨H1, 0, none⟩ = some (.int .i64 pi) ∧ W.cell? ⟨H1, 1, none⟩ = some (.slice pa nb pc) ∧ W.cell? ⟨H1, 2, none⟩ = some (.slice qa no qc)) := Lib.hid fun W hW => by
    have h0 := hrw0.of_block (hW.block H (by omega))
    have h1 := hrw1.of_block (hW.block H1 (by omega))
    exact ⟨h0.cell (by omega), h0.cell (by omega), h0.cell (by omega), h1.cell (by omega), h1.cell (by omega), h1.cell (by omega)⟩
  have HSz : Hid (w1.heap.size = H + 3 ∧ B1 = H + 2 ∧ H = w.heap.size) := Lib.hid ⟨hs1, by omega, hH⟩
  have HXW : Hid (∀ W, Below B1 w1 W → Below w.heap.size w W) := Lib.hid fun W hW => hX1.trans (hW.mono (by omega))
  have HBw : Hid (∀ W, Below w1.heap.size w1 W → Below B1 w1 W) := Lib.hid fun W hW => hW.mono (by omega)
  have HW1 := Lib.hid hw1
  have HHH := Lib.hid hH
  have HHH1 := Lib.hid hH1
  have HBB := Lib.hid hB1
  clear hw1 hX1 hs1 hrw0 hrw1 hrw3 hH hH1 hB1
  go_enter Try.func23, Try.ntmps23
  go_wp2_with fail
  rw [← HW1.out]
  (try rw [← HHH.out])
  rw [← HHH1.out]
  rw [← HBB.out]
  refine Calls.mono (HF1.out w1 HX1.out) ?_
  rintro e w2 hfo
  obtain ⟨⟨rba, rbc, rbs, ria, ric, ris, roa, roc, ros⟩, rfl, hdat, hnew, hb2⟩ := HFo.out _ _ _ hfo
  clear hfo
  have HBx := Lib.hid hb2
  have HDat := Lib.hid hdat
  have HNew := Lib.hid hnew
  clear hb2 hdat hnew
  dsimp only
  by_cases hE : er = 0
  · subst hE
    obtain ⟨hF0, hw0, hh0⟩ := HP0.out (by trivial)
    obtain ⟨X, hX⟩ : ∃ x, x = w2.heap.size := ⟨_, rfl⟩
    obtain ⟨w3, hw3⟩ : ∃ W, W = w2.alloc (.cells #[.slice rba rbs.length rbc, .slice ria ris.length ric, .slice roa ros.length roc] 29) := ⟨_, rfl⟩
    have hs3 : w3.heap.size = X + 1 := by rw [hw3, hX]; simp
    have hr3 : w3.rowIs X 29 3 (fun i => ([.slice rba rbs.length rbc, .slice ria ris.length ric, .slice roa ros.length roc] : List Value).getD i undef) := by rw [hw3, hX]; exact rowL_alloc w2 29 [.slice rba rbs.length rbc, .slice ria ris.length ric, .slice roa ros.length roc]
    have hb23 : Below w2.heap.size w2 w3 := by rw [hw3]; exact (Below.refl _ _).alloc (Nat.le_refl _) _
    have HB3 : Hid (Below w1.heap.size w1 w3) := Lib.hid (HBx.out.trans (hb23.mono HBx.out.size))
    have HX3 : Hid (w3.heap.size = X + 1 ∧ w1.heap.size ≤ X) := Lib.hid ⟨hs3, by rw [hX]; exact HBx.out.size⟩
    have HNew3 := Lib.hid (HNew.out.below hb23)
    have HR3 := Lib.hid hr3
    have HD0 := Lib.hid (HDat.out.trans hF0)
    have hw1_ := hw0
    have hh1_ := hh0
    rw [HAe.out] at hw1_ hh1_
    have CT := Lib.hid (HTi.out hw1_ hh1_)
    have CP := Lib.hid (HPd.out hw1_ hh1_)
    clear hw1_ hh1_
    obtain ⟨tt, htt⟩ : ∃ x, x = tilesL A := ⟨_, rfl⟩
    obtain ⟨pd, hpd⟩ : ∃ x, x = padsL A := ⟨_, rfl⟩
    have htp : 1 ≤ tt ∧ tt ≤ 256 ∧ 1 ≤ pd ∧ pd ≤ 64 := by
      have h256 : A.w * A.h ≤ 16 * 16 := Int.mul_le_mul hw0.2 hh0.2 (by omega) (by omega)
      have h1' : 1 * 1 ≤ A.w * A.h := Int.mul_le_mul hw0.1 hh0.1 (by omega) (by omega)
      unfold tilesL at htt
      unfold padsL at hpd
      omega
    rw [← htt] at CT HMN
    rw [← hpd] at CP HMN
    have HTP : Hid (1 ≤ tt ∧ tt ≤ 256 ∧ 1 ≤ pd ∧ pd ≤ 64 ∧ IntKind.i64.wrap (tt + pd) = tt + pd) := Lib.hid ⟨htp.1, htp.2.1, htp.2.2.1, htp.2.2.2, wrapSmall (by omega) (by omega)⟩
    have hk3 := HK.out w3 (HBw.out w3 HB3.out)
    rw [hw3] at hk3
    obtain ⟨a0, a1, a2, p0, p1, p2⟩ := hk3
    clear hs3 hr3 hb23 htt hpd htp hw0 hh0 hF0
    go_wp2_with fail
    rw [← hw3]
    rw [← hX]
    clear hw3 hX a0 a1 a2 p0 p1 p2
    refine Calls.mono (CT.out w3) ?_
    rintro e w4 ⟨rfl, hb4⟩
    have HB4 : Hid (Below w3.heap.size w3 w4) := Lib.hid hb4
    have HB4w : Hid (Below w1.heap.size w1 w4) := Lib.hid (HB3.out.trans (hb4.mono HB3.out.size))
    clear hb4
    obtain ⟨a0, a1, a2, p0, p1, p2⟩ := HK.out w4 (HBw.out w4 HB4w.out)
    go_wp2_with fail
    clear a0 a1 a2 p0 p1 p2
    have HX4 : Hid (X < w4.heap.size ∧ w1.heap.size ≤ X ∧ w1.heap.size ≤ w4.heap.size) := Lib.hid ⟨by have := HX3.out; have := HB4.out.size; omega, HX3.out.2, by have := HX3.out; have := HB4.out.size; omega⟩
    have HSt0 : Hid (PlR w1.heap.size w4.heap.size X w4 (PT 0) w4) := Lib.hid ⟨KpX.refl _ _ _, ⟨rba, rbc, rbs, ria, ric, ris, roa, roc, ros⟩, HD0.out, HR3.out.of_block (HB4.out.block X (by have := HX3.out; omega)), (HNew3.out.below HB4.out).weak (Nat.le_refl _)⟩
    go_loopg [11] (n / 2) (fun g iv wr => ∃ k q : Nat, g + k = n / 2 ∧ q = 2 * k ∧ iv = .int .i64 (q : Int) ∧ Hid (PlR w1.heap.size w4.heap.size X w4 (PT k) wr))
    case atStart => exact ⟨0, 0, by omega, rfl, rfl, HSt0⟩
    case round =>
      obtain ⟨k, q, hgk, hq, rfl, hst⟩ := hrel
      obtain ⟨hkp, ⟨qba, qbc, qbs, qia, qic, qis, qoa, qoc, qos⟩, hRd, hRx, hRn⟩ := hst.out
      clear hst
      have HKp := Lib.hid hkp
      have HRd := Lib.hid hRd
      have HRx := Lib.hid hRx
      have HRn := Lib.hid hRn
      have HQ := Lib.hid hq
      have HG := Lib.hid hgk
      have HBr : Hid (Below w1.heap.size w1 wr) := Lib.hid (hkp.belowX HB4w.out HX4.out.2.1 HX4.out.2.2)
      clear hkp hRd hRx hRn
      obtain ⟨s, hs⟩ : ∃ x, x = q + 1 := ⟨_, rfl⟩
      have HF1' : Hid (wrap64 ((q : Int) + 1) = (s : Int) ∧ IntKind.i64.wrap ((q : Int) + 1) = (s : Int) ∧ wrap64 ((q : Int) + 2) = ((q + 2 : Nat) : Int)) := Lib.hid ⟨by rw [wrap64s (by omega) (by have := HN9.out; omega)]; omega, by rw [wrapSmall (by omega) (by have := HN9.out; omega)]; omega, by rw [wrap64s (by omega) (by have := HN9.out; omega)]; omega⟩
      have F1 := HF1'.out.1
      have HS := Lib.hid hs
      clear hq hs hgk
      by_cases hlt : s < n
      · obtain ⟨b, off, rfl, hbl, hcs⟩ := HD.out.at s hlt
        have hBw : Below w.heap.size w wr := HXW.out _ (HBw.out _ HBr.out)
        obtain ⟨x0, hx0⟩ : ∃ x, x = ds.getD q 0 := ⟨_, rfl⟩
        obtain ⟨x1, hx1⟩ : ∃ x, x = ds.getD s 0 := ⟨_, rfl⟩
        have hqn : q < n := by have := HS.out; omega
        have e0 : w.cell? ⟨b, off + q, none⟩ = some (.int .i64 x0) := by rw [hx0]; exact hcs q hqn
        have e1 : w.cell? ⟨b, off + s, none⟩ = some (.int .i64 x1) := by rw [hx1]; exact hcs s hlt
        have HKR : Hid (∀ W, Below wr.heap.size wr W → (W.cell? ⟨H, 0, none⟩ = some (.int .i64 aw) ∧ W.cell? ⟨H, 1, none⟩ = some (.int .i64 ah) ∧ W.cell? ⟨H, 2, none⟩ = some (.int .i64 at_)) ∧ (W.cell? ⟨H1, 0, none⟩ = some (.int .i64 pi) ∧ W.cell? ⟨H1, 1, none⟩ = some (.slice pa nb pc) ∧ W.cell? ⟨H1, 2, none⟩ = some (.slice qa no qc)) ∧ (W.cell? ⟨X, 0, none⟩ = some (.slice qba qbs.length qbc) ∧ W.cell? ⟨X, 1, none⟩ = some (.slice qia qis.length qic) ∧ W.cell? ⟨X, 2, none⟩ = some (.slice qoa qos.length qoc)) ∧ W.cell? ⟨b, off + q, none⟩ = some (.int .i64 x0) ∧ W.cell? ⟨b, off + s, none⟩ = some (.int .i64 x1)) := Lib.hid fun W hW => by
          obtain ⟨q0, q1, q2, q3, q4, q5⟩ := HK.out W (HBw.out W (HBr.out.trans (hW.mono HBr.out.size)))
          have h := HRx.out.of_block (hW.block X HRx.out.lt)
          have hw := hBw.trans (hW.mono hBw.size)
          exact ⟨⟨q0, q1, q2⟩, ⟨q3, q4, q5⟩, ⟨h.cell (by omega), h.cell (by omega), h.cell (by omega)⟩, (hw.cell (p := ⟨b, off + q, none⟩) hbl).trans e0, (hw.cell (p := ⟨b, off + s, none⟩) hbl).trans e1⟩
        obtain ⟨hm0, hmy, hmn⟩ := HMN.out k
        rw [← HQ.out, ← hx0] at hm0
        rw [← HQ.out, ← HS.out, ← hx1] at hmy hmn
        obtain ⟨mm, hmm⟩ : ∃ x, x = mo k := ⟨_, rfl⟩
        obtain ⟨nn, hnn⟩ : ∃ x, x = no_ k := ⟨_, rfl⟩
        obtain ⟨n1, hn1⟩ : ∃ x, x = x1 % tt := ⟨_, rfl⟩
        obtain ⟨n2, hn2⟩ : ∃ x, x = x1 % pd := ⟨_, rfl⟩
        rw [← hmm] at hm0 hmy hmn
        rw [← hnn] at hmy hmn
        rw [← hn1] at hmy
        rw [← hn2] at hmn
        have CM1 : Hid (∀ V, Calls Try.prog 47 #[.int .i64 x0, .int .i64 (tt + pd)] V fun e w' => e = .returned (.int .i64 mm) ∧ Below V.heap.size V w') := Lib.hid fun V => by
          rw [hm0]
          exact Calls.mono (mod47 V x0 (tt + pd) (by have := HTP.out; omega) (by have := HTP.out; omega)) (by rintro e w' ⟨h, rfl⟩; exact ⟨h, Below.refl _ _⟩)
        have CM2 : Hid (∀ V, Calls Try.prog 47 #[.int .i64 x1, .int .i64 tt] V fun e w' => e = .returned (.int .i64 n1) ∧ Below V.heap.size V w') := Lib.hid fun V => by
          rw [hn1]
          exact Calls.mono (mod47 V x1 tt (by have := HTP.out; omega) (by have := HTP.out; omega)) (by rintro e w' ⟨h, rfl⟩; exact ⟨h, Below.refl _ _⟩)
        have CM3 : Hid (∀ V, Calls Try.prog 47 #[.int .i64 x1, .int .i64 pd] V fun e w' => e = .returned (.int .i64 n2) ∧ Below V.heap.size V w') := Lib.hid fun V => by
          rw [hn2]
          exact Calls.mono (mod47 V x1 pd (by have := HTP.out; omega) (by have := HTP.out; omega)) (by rintro e w' ⟨h, rfl⟩; exact ⟨h, Below.refl _ _⟩)
        have HN2 : Hid (IntKind.i64.wrap (tt + n2) = tt + n2) := Lib.hid (by
          have h1 := HTP.out
          have h2 := Int.emod_nonneg x1 (show pd ≠ 0 by omega)
          have h3 := Int.emod_lt_of_pos x1 (show 0 < pd by omega)
          exact wrapSmall (by omega) (by omega))
        have HMy := Lib.hid hmy
        have HMn := Lib.hid hmn
        have CB : Hid (∀ V nn', Below wr.heap.size wr V → nn' = nn → Calls Try.prog 42 #[.agg #[.int .i64 aw, .int .i64 ah, .int .i64 at_], .agg #[.int .i64 pi, .slice pa nb pc, .slice qa no qc], .agg #[.slice qba qbs.length qbc, .slice qia qis.length qic, .slice qoa qos.length qoc], .int .i64 mm, .int .i64 nn'] V fun e w' => ∃ R : SpotV, ∃ bo : Bool, e = .returned (.tuple #[R.val, .bool bo, .int .i64 0]) ∧ R.data = PT (k + 1) ∧ SpotNew V.heap.size ⟨qba, qbc, qbs, qia, qic, qis, qoa, qoc, qos⟩ R w' ∧ Below V.heap.size V w') := Lib.hid fun V nn' hV hnn' => by
          subst hnn'
          have hq : SpotV.data ⟨qba, qbc, qbs, qia, qic, qis, qoa, qoc, qos⟩ = PT k := HRd.out
          have g1 := (HPr.out (by trivial) k).1
          rw [← hq] at g1
          have g2 := (HPr.out (by trivial) k).2
          rw [← hmm, ← hnn] at g2
          have h0 := HB.out V ⟨qba, qbc, qbs, qia, qic, qis, qoa, qoc, qos⟩ mm nn' (hBw.trans (hV.mono hBw.size)) (HRn.out.below hV).anew g1 g2
          refine Calls.mono h0 ?_
          rintro e w' ⟨R, h1, h2, h3, h4⟩
          refine ⟨R, _, h1, ?_, h3, h4⟩
          have h5 := HPs.out k
          rw [← hmm, ← hnn, ← hq] at h5
          exact h2.trans h5.symm
        have HBL := Lib.hid (And.intro hbl hBw)
        clear hbl hcs hBw hx0 hx1 e0 e1 hm0 hmy hmn hmm hnn hn1 hn2
        obtain ⟨⟨a0, a1, a2⟩, ⟨p0, p1, p2⟩, ⟨x0_, x1_, x2_⟩, c0, c1⟩ := HKR.out wr (Below.refl _ _)
        go_upto_region 8 with fail
        clear F1
        clear a0 a1 a2 p0 p1 p2 x0_ x1_ x2_ c0 c1
        refine wp_region_held_drew (S := fun w' => (w'.cell? ⟨H, 0, none⟩ = some (.int .i64 aw) ∧ w'.cell? ⟨H, 1, none⟩ = some (.int .i64 ah) ∧ w'.cell? ⟨H, 2, none⟩ = some (.int .i64 at_)) ∧ (w'.cell? ⟨H1, 0, none⟩ = some (.int .i64 pi) ∧ w'.cell? ⟨H1, 1, none⟩ = some (.slice pa nb pc) ∧ w'.cell? ⟨H1, 2, none⟩ = some (.slice qa no qc)) ∧ (w'.cell? ⟨X, 0, none⟩ = some (.slice qba qbs.length qbc) ∧ w'.cell? ⟨X, 1, none⟩ = some (.slice qia qis.length qic) ∧ w'.cell? ⟨X, 2, none⟩ = some (.slice qoa qos.length qoc)) ∧ w'.cell? ⟨b, off + q, none⟩ = some (.int .i64 x0) ∧ w'.cell? ⟨b, off + s, none⟩ = some (.int .i64 x1)) (by kernel_rfl) (HKR.out _ (Below.refl _ _).drew) (fun hHeld => ?_)
        obtain ⟨v1, hv1⟩ : ∃ W, W = wr.drew := ⟨_, rfl⟩
        have hb1 : Below wr.heap.size wr v1 := by rw [hv1]; exact (Below.refl _ _).drew
        rw [← hv1] at hHeld ⊢
        have HBv1 := Lib.hid hb1
        clear hb1 hv1
        refine wpAnyH_take (i := 0) (v := ?_) (by simp only [List.getElem?_toArray, List.getElem?_cons_succ, List.getElem?_cons_zero]; rfl) (by kernel_rfl) (by kernel_rfl) (by kernel_rfl) (by intro _ _ _ h; exact h) (Or.inl ⟨by rfl, ?_⟩) (by assumption) ?_
        rotate_left
        · intro w hSw; (try dsimp only at hSw); go_simp; try with_reducible rfl
        try simp only [Act.put, List.setIfInBounds_toArray, List.set_cons_zero, List.set_cons_succ]
        refine wpAnyH_take (i := 1) (v := ?_) (by simp only [List.getElem?_toArray, List.getElem?_cons_succ, List.getElem?_cons_zero]; rfl) (by kernel_rfl) (by kernel_rfl) (by kernel_rfl) (by intro _ _ _ h; exact h) (Or.inl ⟨by rfl, ?_⟩) (by assumption) ?_
        rotate_left
        · intro w hSw; (try dsimp only at hSw); go_simp; try with_reducible rfl
        try simp only [Act.put, List.setIfInBounds_toArray, List.set_cons_zero, List.set_cons_succ]
        refine wpAnyH_take (i := 2) (v := ?_) (by simp only [List.getElem?_toArray, List.getElem?_cons_succ, List.getElem?_cons_zero]; rfl) (by kernel_rfl) (by kernel_rfl) (by kernel_rfl) (by intro _ _ _ h; exact h) (Or.inl ⟨by rfl, ?_⟩) (by assumption) ?_
        rotate_left
        · intro w hSw; (try dsimp only at hSw); go_simp; first | with_reducible rfl | rw [if_pos (by omega)]
        try simp only [Act.put, List.setIfInBounds_toArray, List.set_cons_zero, List.set_cons_succ]
        refine wpAnyH_take (i := 3) (v := ?_) (by simp only [List.getElem?_toArray, List.getElem?_cons_succ, List.getElem?_cons_zero]; rfl) (by kernel_rfl) (by kernel_rfl) (by kernel_rfl) (by intro _ _ _ h; exact h) (Or.inl ⟨by rfl, ?_⟩) (by assumption) ?_
        rotate_left
        · intro w hSw; (try dsimp only at hSw); go_simp; try with_reducible rfl
        try simp only [Act.put, List.setIfInBounds_toArray, List.set_cons_zero, List.set_cons_succ]
        refine wpAnyH_take (i := 4) (v := ?_) (by simp only [List.getElem?_toArray, List.getElem?_cons_succ, List.getElem?_cons_zero]; rfl) (by kernel_rfl) (by kernel_rfl) (by kernel_rfl) (by intro _ _ _ h; exact h) (Or.inl ⟨by rfl, ?_⟩) (by assumption) ?_
        rotate_left
        · intro w hSw; (try dsimp only at hSw); go_simp; try with_reducible rfl
        try simp only [Act.put, List.setIfInBounds_toArray, List.set_cons_zero, List.set_cons_succ]
        refine wpAnyH_take (i := 5) (v := ?_) (by simp only [List.getElem?_toArray, List.getElem?_cons_succ, List.getElem?_cons_zero]; rfl) (by kernel_rfl) (by kernel_rfl) (by kernel_rfl) (by intro _ _ _ h; exact h) (Or.inl ⟨by rfl, ?_⟩) (by assumption) ?_
        rotate_left
        · intro w hSw; (try dsimp only at hSw); go_simp; try with_reducible rfl
        try simp only [Act.put, List.setIfInBounds_toArray, List.set_cons_zero, List.set_cons_succ]
        refine wpAnyH_ready (rs := [6]) (by kernel_rfl) (by simp) ?_
        refine AllReadyH.cons (o := _) (by simp only [List.getElem?_toArray, List.getElem?_cons_succ, List.getElem?_cons_zero]; rfl) (fun K hK => ?_) AllReadyH.nil
        go_simp
        go_at_call 38
        refine Calls.mono (CP.out v1) ?_
        rintro e v2 ⟨rfl, hb2⟩
        have HBv2 := Lib.hid ((HBv1.out).trans (hb2.mono (HBv1.out).size))
        clear hb2
        go_simp
        refine hK.out _ _ (by exact HKR.out _ HBv2.out) (fun hHeld => ?_)
        clear hK K
        try simp only [Act.put, List.setIfInBounds_toArray, List.set_cons_zero, List.set_cons_succ]
        refine wpAnyH_take (i := 7) (v := ?_) (by simp only [List.getElem?_toArray, List.getElem?_cons_succ, List.getElem?_cons_zero]; rfl) (by kernel_rfl) (by kernel_rfl) (by kernel_rfl) (by intro _ _ _ h; exact h) (Or.inl ⟨by rfl, ?_⟩) (by assumption) ?_
        rotate_left
        · intro w hSw; (try dsimp only at hSw); go_simp; rw [HTP.out.2.2.2.2]
        try simp only [Act.put, List.setIfInBounds_toArray, List.set_cons_zero, List.set_cons_succ]
        refine wpAnyH_ready (rs := [8]) (by kernel_rfl) (by simp) ?_
        refine AllReadyH.cons (o := _) (by simp only [List.getElem?_toArray, List.getElem?_cons_succ, List.getElem?_cons_zero]; rfl) (fun K hK => ?_) AllReadyH.nil
        go_simp
        go_at_call 47
        refine Calls.mono (CM1.out v2) ?_
        rintro e v3 ⟨rfl, hb3⟩
        have HBv3 := Lib.hid ((HBv2.out).trans (hb3.mono (HBv2.out).size))
        clear hb3
        go_simp
        refine hK.out _ _ (by exact HKR.out _ HBv3.out) (fun hHeld => ?_)
        clear hK K
        try simp only [Act.put, List.setIfInBounds_toArray, List.set_cons_zero, List.set_cons_succ]
        refine wpAnyH_take (i := 9) (v := ?_) (by simp only [List.getElem?_toArray, List.getElem?_cons_succ, List.getElem?_cons_zero]; rfl) (by kernel_rfl) (by kernel_rfl) (by kernel_rfl) (by intro _ _ _ h; exact h) (Or.inl ⟨by rfl, ?_⟩) (by assumption) ?_
        rotate_left
        · intro w hSw; (try dsimp only at hSw); go_simp; try with_reducible rfl
        try simp only [Act.put, List.setIfInBounds_toArray, List.set_cons_zero, List.set_cons_succ]
        refine wpAnyH_done (by kernel_rfl) ?_ _
        have HV8 : Hid (Below wr.heap.size wr v3) := Lib.hid (HBv3.out)
        obtain ⟨v8, hv8⟩ : ∃ W, W = v3 := ⟨_, rfl⟩
        rw [← hv8] at HV8 ⊢
        clear hv8
        obtain ⟨⟨a0, a1, a2⟩, ⟨p0, p1, p2⟩, ⟨x0_, x1_, x2_⟩, c0, c1⟩ := HKR.out v8 HV8.out
        go_upto_region 9 with fail
        clear a0 a1 a2 p0 p1 p2 x0_ x1_ x2_ c0 c1
        have HK9 : Hid (∀ W, Below v8.heap.size v8 W → (W.cell? ⟨H, 0, none⟩ = some (.int .i64 aw) ∧ W.cell? ⟨H, 1, none⟩ = some (.int .i64 ah) ∧ W.cell? ⟨H, 2, none⟩ = some (.int .i64 at_)) ∧ (W.cell? ⟨H1, 0, none⟩ = some (.int .i64 pi) ∧ W.cell? ⟨H1, 1, none⟩ = some (.slice pa nb pc) ∧ W.cell? ⟨H1, 2, none⟩ = some (.slice qa no qc)) ∧ (W.cell? ⟨X, 0, none⟩ = some (.slice qba qbs.length qbc) ∧ W.cell? ⟨X, 1, none⟩ = some (.slice qia qis.length qic) ∧ W.cell? ⟨X, 2, none⟩ = some (.slice qoa qos.length qoc)) ∧ W.cell? ⟨b, off + q, none⟩ = some (.int .i64 x0) ∧ W.cell? ⟨b, off + s, none⟩ = some (.int .i64 x1)) := Lib.hid fun W hW => HKR.out W (HV8.out.trans (hW.mono HV8.out.size))
        refine wp_region_held_drew (S := fun w' => (w'.cell? ⟨H, 0, none⟩ = some (.int .i64 aw) ∧ w'.cell? ⟨H, 1, none⟩ = some (.int .i64 ah) ∧ w'.cell? ⟨H, 2, none⟩ = some (.int .i64 at_)) ∧ (w'.cell? ⟨H1, 0, none⟩ = some (.int .i64 pi) ∧ w'.cell? ⟨H1, 1, none⟩ = some (.slice pa nb pc) ∧ w'.cell? ⟨H1, 2, none⟩ = some (.slice qa no qc)) ∧ (w'.cell? ⟨X, 0, none⟩ = some (.slice qba qbs.length qbc) ∧ w'.cell? ⟨X, 1, none⟩ = some (.slice qia qis.length qic) ∧ w'.cell? ⟨X, 2, none⟩ = some (.slice qoa qos.length qoc)) ∧ w'.cell? ⟨b, off + q, none⟩ = some (.int .i64 x0) ∧ w'.cell? ⟨b, off + s, none⟩ = some (.int .i64 x1)) (by kernel_rfl) (HK9.out _ (Below.refl _ _).drew) (fun hHeld => ?_)
        obtain ⟨v4, hv4⟩ : ∃ W, W = v8.drew := ⟨_, rfl⟩
        have hb4 : Below v8.heap.size v8 v4 := by rw [hv4]; exact (Below.refl _ _).drew
        rw [← hv4] at hHeld ⊢
        have HBv4 := Lib.hid hb4
        clear hb4 hv4
        refine wpAnyH_take (i := 0) (v := ?_) (by simp only [List.getElem?_toArray, List.getElem?_cons_succ, List.getElem?_cons_zero]; rfl) (by kernel_rfl) (by kernel_rfl) (by kernel_rfl) (by intro _ _ _ h; exact h) (Or.inl ⟨by rfl, ?_⟩) (by assumption) ?_
        rotate_left
        · intro w hSw; (try dsimp only at hSw); go_simp; try with_reducible rfl
        try simp only [Act.put, List.setIfInBounds_toArray, List.set_cons_zero, List.set_cons_succ]
        refine wpAnyH_take (i := 1) (v := ?_) (by simp only [List.getElem?_toArray, List.getElem?_cons_succ, List.getElem?_cons_zero]; rfl) (by kernel_rfl) (by kernel_rfl) (by kernel_rfl) (by intro _ _ _ h; exact h) (Or.inl ⟨by rfl, ?_⟩) (by assumption) ?_
        rotate_left
        · intro w hSw; (try dsimp only at hSw); go_simp; try with_reducible rfl
        try simp only [Act.put, List.setIfInBounds_toArray, List.set_cons_zero, List.set_cons_succ]
        refine wpAnyH_take (i := 2) (v := ?_) (by simp only [List.getElem?_toArray, List.getElem?_cons_succ, List.getElem?_cons_zero]; rfl) (by kernel_rfl) (by kernel_rfl) (by kernel_rfl) (by intro _ _ _ h; exact h) (Or.inl ⟨by rfl, ?_⟩) (by assumption) ?_
        rotate_left
        · intro w hSw; (try dsimp only at hSw); go_simp; try with_reducible rfl
        try simp only [Act.put, List.setIfInBounds_toArray, List.set_cons_zero, List.set_cons_succ]
        refine wpAnyH_take (i := 3) (v := ?_) (by simp only [List.getElem?_toArray, List.getElem?_cons_succ, List.getElem?_cons_zero]; rfl) (by kernel_rfl) (by kernel_rfl) (by kernel_rfl) (by intro _ _ _ h; exact h) (Or.inl ⟨by rfl, ?_⟩) (by assumption) ?_
        rotate_left
        · intro w hSw; (try dsimp only at hSw); go_simp; rw [HF1'.out.2.1]
        try simp only [Act.put, List.setIfInBounds_toArray, List.set_cons_zero, List.set_cons_succ]
        refine wpAnyH_take (i := 4) (v := ?_) (by simp only [List.getElem?_toArray, List.getElem?_cons_succ, List.getElem?_cons_zero]; rfl) (by kernel_rfl) (by kernel_rfl) (by kernel_rfl) (by intro _ _ _ h; exact h) (Or.inl ⟨by rfl, ?_⟩) (by assumption) ?_
        rotate_left
        · intro w hSw; (try dsimp only at hSw); go_simp; first | with_reducible rfl | rw [if_pos (by omega)]
        try simp only [Act.put, List.setIfInBounds_toArray, List.set_cons_zero, List.set_cons_succ]
        refine wpAnyH_take (i := 5) (v := ?_) (by simp only [List.getElem?_toArray, List.getElem?_cons_succ, List.getElem?_cons_zero]; rfl) (by kernel_rfl) (by kernel_rfl) (by kernel_rfl) (by intro _ _ _ h; exact h) (Or.inl ⟨by rfl, ?_⟩) (by assumption) ?_
        rotate_left
        · intro w hSw; (try dsimp only at hSw); go_simp; try with_reducible rfl
        try simp only [Act.put, List.setIfInBounds_toArray, List.set_cons_zero, List.set_cons_succ]
        refine wpAnyH_take (i := 6) (v := ?_) (by simp only [List.getElem?_toArray, List.getElem?_cons_succ, List.getElem?_cons_zero]; rfl) (by kernel_rfl) (by kernel_rfl) (by kernel_rfl) (by intro _ _ _ h; exact h) (Or.inl ⟨by rfl, ?_⟩) (by assumption) ?_
        rotate_left
        · intro w hSw; (try dsimp only at hSw); go_simp; try with_reducible rfl
        try simp only [Act.put, List.setIfInBounds_toArray, List.set_cons_zero, List.set_cons_succ]
        refine wpAnyH_ready (rs := [7]) (by kernel_rfl) (by simp) ?_
        refine AllReadyH.cons (o := _) (by simp only [List.getElem?_toArray, List.getElem?_cons_succ, List.getElem?_cons_zero]; rfl) (fun K hK => ?_) AllReadyH.nil
        go_simp
        go_at_call 38
        refine Calls.mono (CP.out v4) ?_
        rintro e v5 ⟨rfl, hb5⟩
        have HBv5 := Lib.hid ((HBv4.out).trans (hb5.mono (HBv4.out).size))
        clear hb5
        go_simp
        refine hK.out _ _ (by exact HK9.out _ HBv5.out) (fun hHeld => ?_)
        clear hK K
        try simp only [Act.put, List.setIfInBounds_toArray, List.set_cons_zero, List.set_cons_succ]
        refine wpAnyH_ready (rs := [8]) (by kernel_rfl) (by simp) ?_
        refine AllReadyH.cons (o := _) (by simp only [List.getElem?_toArray, List.getElem?_cons_succ, List.getElem?_cons_zero]; rfl) (fun K hK => ?_) AllReadyH.nil
        go_simp
        go_at_call 47
        refine Calls.mono (CM3.out v5) ?_
        rintro e v6 ⟨rfl, hb6⟩
        have HBv6 := Lib.hid ((HBv5.out).trans (hb6.mono (HBv5.out).size))
        clear hb6
        go_simp
        refine hK.out _ _ (by exact HK9.out _ HBv6.out) (fun hHeld => ?_)
        clear hK K
        try simp only [Act.put, List.setIfInBounds_toArray, List.set_cons_zero, List.set_cons_succ]
        refine wpAnyH_take (i := 9) (v := ?_) (by simp only [List.getElem?_toArray, List.getElem?_cons_succ, List.getElem?_cons_zero]; rfl) (by kernel_rfl) (by kernel_rfl) (by kernel_rfl) (by intro _ _ _ h; exact h) (Or.inl ⟨by rfl, ?_⟩) (by assumption) ?_
        rotate_left
        · intro w hSw; (try dsimp only at hSw); go_simp; rw [HN2.out]
        try simp only [Act.put, List.setIfInBounds_toArray, List.set_cons_zero, List.set_cons_succ]
        refine wpAnyH_take (i := 10) (v := ?_) (by simp only [List.getElem?_toArray, List.getElem?_cons_succ, List.getElem?_cons_zero]; rfl) (by kernel_rfl) (by kernel_rfl) (by kernel_rfl) (by intro _ _ _ h; exact h) (Or.inl ⟨by rfl, ?_⟩) (by assumption) ?_
        rotate_left
        · intro w hSw; (try dsimp only at hSw); go_simp; try with_reducible rfl
        try simp only [Act.put, List.setIfInBounds_toArray, List.set_cons_zero, List.set_cons_succ]
        refine wpAnyH_done (by kernel_rfl) ?_ _
        have HV9 : Hid (Below wr.heap.size wr v6) := Lib.hid ((HV8.out).trans ((HBv6.out).mono (HV8.out).size))
        obtain ⟨v9, hv9⟩ : ∃ W, W = v6 := ⟨_, rfl⟩
        rw [← hv9] at HV9 ⊢
        clear hv9
        obtain ⟨⟨a0, a1, a2⟩, ⟨p0, p1, p2⟩, ⟨x0_, x1_, x2_⟩, c0, c1⟩ := HKR.out v9 HV9.out
        by_cases hlt2 : mm < tt
        · have d1 : decide (mm < tt) = true := by simpa using hlt2
          have HNN := Lib.hid (HMy.out hlt2)
          have F1 := HF1'.out.1
          clear hlt2
          go_wp2_with fail
          clear F1
          clear a0 a1 a2 p0 p1 p2 x0_ x1_ x2_ c0 c1
          refine Calls.mono (CM2.out v9) ?_
          rintro e v10 ⟨rfl, hb⟩
          have HV10 : Hid (Below wr.heap.size wr v10) := Lib.hid (HV9.out.trans (hb.mono HV9.out.size))
          clear hb
          obtain ⟨⟨a0, a1, a2⟩, ⟨p0, p1, p2⟩, ⟨x0_, x1_, x2_⟩, c0, c1⟩ := HKR.out v10 HV10.out
          go_wp2_with fail
          clear a0 a1 a2 p0 p1 p2 x0_ x1_ x2_ c0 c1
          refine Calls.mono (CB.out v10 n1 HV10.out HNN.out.symm) ?_
          rintro e v11 ⟨⟨sba, sbc, sbs, sia, sic, sis, soa, soc, sos⟩, bo, rfl, hSd, hSn, hb⟩
          have HV11 : Hid (Below wr.heap.size wr v11) := Lib.hid ((HV10.out).trans (hb.mono (HV10.out).size))
          have HSn : Hid (SpotNew w1.heap.size noSpots ⟨sba, sbc, sbs, sia, sic, sis, soa, soc, sos⟩ v11) := Lib.hid ((HRn.out.below HV11.out).trans hSn (by have := HX4.out; have := HKp.out.size; have := (HV10.out).size; omega))
          have HSd := Lib.hid hSd
          clear hb hSd hSn
          obtain ⟨v12, hv12⟩ : ∃ W, W = v11.alloc (.cells #[.slice sba sbs.length sbc, .slice sia sis.length sic, .slice soa sos.length soc] 29) := ⟨_, rfl⟩
          have hb12 : Below v11.heap.size v11 v12 := by rw [hv12]; exact (Below.refl _ _).alloc (Nat.le_refl _) _
          have HV12 : Hid (Below wr.heap.size wr v12) := Lib.hid (HV11.out.trans (hb12.mono HV11.out.size))
          have HSn2 := Lib.hid (HSn.out.below hb12)
          have hrx := HRx.out.of_block (HV12.out.block X HRx.out.lt)
          have HRx12 := Lib.hid hrx
          have hcz : v12.cell? ⟨X, 0, none⟩ = some (.slice qba qbs.length qbc) ∧ v12.cell? ⟨X, 1, none⟩ = some (.slice qia qis.length qic) ∧ v12.cell? ⟨X, 2, none⟩ = some (.slice qoa qos.length qoc) ∧ v12.frozen? ⟨X, 0, none⟩ = false ∧ v12.frozen? ⟨X, 1, none⟩ = false ∧ v12.frozen? ⟨X, 2, none⟩ = false := ⟨hrx.cell (by omega), hrx.cell (by omega), hrx.cell (by omega), hrx.frozen _, hrx.frozen _, hrx.frozen _⟩
          clear hb12 hrx
          rw [hv12] at hcz
          obtain ⟨z0, z1, z2, f0, f1, f2⟩ := hcz
          have F2 := HF1'.out.2.2
          go_wp2_with fail
          rw [← hv12]
          clear z0 z1 z2 f0 f1 f2 F2 hv12
          have hg : v12.grownBy (((v12.setCell ⟨X, 0, none⟩ (.slice sba sbs.length sbc)).setCell ⟨X, 1, none⟩ (.slice sia sis.length sic)).setCell ⟨X, 2, none⟩ (.slice soa sos.length soc)) (some X) := grown_put3 (World.grownBy.refl _ _)
          go_roundg (n / 2 - (k + 1))
          case measure => have := HG.out; have := HS.out; have := HQ.out; omega
          case rel => exact ⟨k + 1, q + 2, by have := HG.out; have := HS.out; have := HQ.out; omega, by have := HQ.out; omega, by first | rw [HF1'.out.2.2] | go_num, Lib.hid ⟨HKp.out.trans ((KpX.below (HV12.out.mono (by have := HKp.out.size; omega))).trans (KpX.grown hg (by have := HKp.out.size; have := HV12.out.size; omega))), ⟨sba, sbc, sbs, sia, sic, sis, soa, soc, sos⟩, HSd.out, put3_row HRx12.out, HSn2.out.grownS hg HRx12.out⟩⟩
        · have d1 : decide (mm < tt) = false := by simpa using hlt2
          have HNN := Lib.hid (HMn.out (by omega))
          clear hlt2
          go_wp2_with fail
          clear a0 a1 a2 p0 p1 p2 x0_ x1_ x2_ c0 c1
          refine Calls.mono (CB.out v9 (tt + n2) HV9.out HNN.out.symm) ?_
          rintro e v11 ⟨⟨sba, sbc, sbs, sia, sic, sis, soa, soc, sos⟩, bo, rfl, hSd, hSn, hb⟩
          have HV11 : Hid (Below wr.heap.size wr v11) := Lib.hid ((HV9.out).trans (hb.mono (HV9.out).size))
          have HSn : Hid (SpotNew w1.heap.size noSpots ⟨sba, sbc, sbs, sia, sic, sis, soa, soc, sos⟩ v11) := Lib.hid ((HRn.out.below HV11.out).trans hSn (by have := HX4.out; have := HKp.out.size; have := (HV9.out).size; omega))
          have HSd := Lib.hid hSd
          clear hb hSd hSn
          obtain ⟨v12, hv12⟩ : ∃ W, W = v11.alloc (.cells #[.slice sba sbs.length sbc, .slice sia sis.length sic, .slice soa sos.length soc] 29) := ⟨_, rfl⟩
          have hb12 : Below v11.heap.size v11 v12 := by rw [hv12]; exact (Below.refl _ _).alloc (Nat.le_refl _) _
          have HV12 : Hid (Below wr.heap.size wr v12) := Lib.hid (HV11.out.trans (hb12.mono HV11.out.size))
          have HSn2 := Lib.hid (HSn.out.below hb12)
          have hrx := HRx.out.of_block (HV12.out.block X HRx.out.lt)
          have HRx12 := Lib.hid hrx
          have hcz : v12.cell? ⟨X, 0, none⟩ = some (.slice qba qbs.length qbc) ∧ v12.cell? ⟨X, 1, none⟩ = some (.slice qia qis.length qic) ∧ v12.cell? ⟨X, 2, none⟩ = some (.slice qoa qos.length qoc) ∧ v12.frozen? ⟨X, 0, none⟩ = false ∧ v12.frozen? ⟨X, 1, none⟩ = false ∧ v12.frozen? ⟨X, 2, none⟩ = false := ⟨hrx.cell (by omega), hrx.cell (by omega), hrx.cell (by omega), hrx.frozen _, hrx.frozen _, hrx.frozen _⟩
          clear hb12 hrx
          rw [hv12] at hcz
          obtain ⟨z0, z1, z2, f0, f1, f2⟩ := hcz
          have F2 := HF1'.out.2.2
          go_wp2_with fail
          rw [← hv12]
          clear z0 z1 z2 f0 f1 f2 F2 hv12
          have hg : v12.grownBy (((v12.setCell ⟨X, 0, none⟩ (.slice sba sbs.length sbc)).setCell ⟨X, 1, none⟩ (.slice sia sis.length sic)).setCell ⟨X, 2, none⟩ (.slice soa sos.length soc)) (some X) := grown_put3 (World.grownBy.refl _ _)
          go_roundg (n / 2 - (k + 1))
          case measure => have := HG.out; have := HS.out; have := HQ.out; omega
          case rel => exact ⟨k + 1, q + 2, by have := HG.out; have := HS.out; have := HQ.out; omega, by have := HQ.out; omega, by first | rw [HF1'.out.2.2] | go_num, Lib.hid ⟨HKp.out.trans ((KpX.below (HV12.out.mono (by have := HKp.out.size; omega))).trans (KpX.grown hg (by have := HKp.out.size; have := HV12.out.size; omega))), ⟨sba, sbc, sbs, sia, sic, sis, soa, soc, sos⟩, HSd.out, put3_row HRx12.out, HSn2.out.grownS hg HRx12.out⟩⟩
      · have hk : k = n / 2 := by have := HG.out; have := HS.out; have := HQ.out; omega
        have HKn := Lib.hid hk
        have hrB := HW3r.out wr HBr.out
        have z0 : wr.cell? ⟨B1, 0, none⟩ = some (.slice none 0 0) := hrB.cell (by omega)
        have f0 := hrB.frozen 0
        have z1 : wr.cell? ⟨B1, 1, none⟩ = some (.slice none 0 0) := hrB.cell (by omega)
        have f1 := hrB.frozen 1
        have z2 : wr.cell? ⟨B1, 2, none⟩ = some (.slice none 0 0) := hrB.cell (by omega)
        have f2 := hrB.frozen 2
        have HrB := Lib.hid hrB
        have x0 : wr.cell? ⟨X, 0, none⟩ = some (.slice qba qbs.length qbc) := HRx.out.cell (by omega)
        have x1 : wr.cell? ⟨X, 1, none⟩ = some (.slice qia qis.length qic) := HRx.out.cell (by omega)
        have x2 : wr.cell? ⟨X, 2, none⟩ = some (.slice qoa qos.length qoc) := HRx.out.cell (by omega)
        clear hrB hk
        go_wp2_with fail
        (try simp only [Exit.inBlock, Exit.then])
        have key : ∀ (R : Ending → World → Prop) (a : Act) (W' : World), a.tmps[6]?.getD undef = .pointer (some ⟨B1, 0, none⟩) → a.tmps[7]?.getD undef = .int .i64 0 → a.defers = [] → W' = (((wr.setCell ⟨B1, 0, none⟩ (.slice qba qbs.length qbc)).setCell ⟨B1, 1, none⟩ (.slice qia qis.length qic)).setCell ⟨B1, 2, none⟩ (.slice qoa qos.length qoc)) → R (.returned (.tuple #[.agg #[.slice qba qbs.length qbc, .slice qia qis.length qic, .slice qoa qos.length qoc], .int .i64 0])) W' → bodyPost Try.prog Try.f23 R .ret a W' := fun R a W' q1 q2 q3 q4 q5 => @place_end R a wr B1 _ (.slice qba qbs.length qbc) (.slice qia qis.length qic) (.slice qoa qos.length qoc) 0 W' HrB.out q1 q2 q3 q4 q5
        refine key _ _ _ ?e6 ?e8 ?ed ?eW ?eR
        case e6 => rfl
        case e8 => rfl
        case ed => rfl
        case eW => rfl
        have hg := grown_put3 (b := B1) (v0 := .slice qba qbs.length qbc) (v1 := .slice qia qis.length qic) (v2 := .slice qoa qos.length qoc) (World.grownBy.refl wr (some B1))
        have hBw := HXW.out _ (HBw.out _ HBr.out)
        refine HOy.out (R := ⟨qba, qbc, qbs, qia, qic, qis, qoa, qoc, qos⟩) (by trivial) (HRd.out.trans (by rw [HKn.out])) ((HRn.out.grown hg (by have := HSz.out; omega)).weak (by have := HSz.out; omega)) ?_
        exact below_grown hBw hg (by have := HSz.out; omega) hBw.size
  · have hEb : (er == 0) = false := by simpa using hE
    have hEb2 : (er != 0) = true := by simpa using hE
    have HE := Lib.hid hE
    clear hE
    obtain ⟨w3, hw3⟩ : ∃ W, W = w2.alloc (.cells #[.slice rba rbs.length rbc, .slice ria ris.length ric, .slice roa ros.length roc] 29) := ⟨_, rfl⟩
    have HB3 : Hid (Below w1.heap.size w1 w3) := Lib.hid (by rw [hw3]; exact HBx.out.trans ((Below.refl _ _).alloc (by have := HBx.out.size; omega) _))
    have hr9 := HW3r.out w3 HB3.out
    have hcz : w3.cell? ⟨B1, 0, none⟩ = some (.slice none 0 0) ∧ w3.cell? ⟨B1, 1, none⟩ = some (.slice none 0 0) ∧ w3.cell? ⟨B1, 2, none⟩ = some (.slice none 0 0) ∧ w3.frozen? ⟨B1, 0, none⟩ = false ∧ w3.frozen? ⟨B1, 1, none⟩ = false ∧ w3.frozen? ⟨B1, 2, none⟩ = false := ⟨hr9.cell (by omega), hr9.cell (by omega), hr9.cell (by omega), hr9.frozen _, hr9.frozen _, hr9.frozen _⟩
    have HR9 := Lib.hid hr9
    have hk3 := HK.out w3 (HBw.out w3 HB3.out)
    clear hr9
    rw [hw3] at hcz hk3
    obtain ⟨z0, z1, z2, f0, f1, f2⟩ := hcz
    obtain ⟨a0, a1, a2, p0, p1, p2⟩ := hk3
    go_wp2_with fail
    rw [← hw3]
    (try simp only [Exit.inBlock, Exit.then])
    have key : ∀ (R : Ending → World → Prop) (a : Act) (W' : World), a.tmps[6]?.getD undef = .pointer (some ⟨B1, 0, none⟩) → a.tmps[7]?.getD undef = .int .i64 er → a.defers = [] → W' = (((w3.setCell ⟨B1, 0, none⟩ (.slice none 0 0)).setCell ⟨B1, 1, none⟩ (.slice none 0 0)).setCell ⟨B1, 2, none⟩ (.slice none 0 0)) → R (.returned (.tuple #[.agg #[.slice none 0 0, .slice none 0 0, .slice none 0 0], .int .i64 er])) W' → bodyPost Try.prog Try.f23 R .ret a W' := fun R a W' q1 q2 q3 q4 q5 => @place_end R a w3 B1 _ (.slice none 0 0) (.slice none 0 0) (.slice none 0 0) er W' HR9.out q1 q2 q3 q4 q5
    refine key _ _ _ ?n6 ?n8 ?nd ?nW ?nR
    case n6 => rfl
    case n8 => rfl
    case nd => rfl
    case nW => rfl
    have hg := grown_put3 (b := B1) (v0 := .slice none 0 0) (v1 := .slice none 0 0) (v2 := .slice none 0 0) (World.grownBy.refl w3 (some B1))
    exact HOn.out rfl HE.out (below_grown (HXW.out _ (HBw.out _ HB3.out)) hg (by have := HSz.out; omega) (HXW.out _ (HBw.out _ HB3.out)).size)
end Go.Proofs.Ytholafodachjnaa
