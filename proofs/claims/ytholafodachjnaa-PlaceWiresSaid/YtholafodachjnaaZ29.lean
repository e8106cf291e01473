/- Where all is at first (First). -/
import Derived.Deep.CutRange
import Derived.Test.YtholafodachjnaaZ28
namespace Go.Proofs.Ytholafodachjnaa
open Go.RowKit Go.Shelf
set_option linter.unusedVariables false
set_option linter.unusedSimpArgs false

set_option maxRecDepth 100000 in
set_option maxHeartbeats 2000000 in
theorem row39 (w : World) (f n : Nat) (hf : f ≤ 10000) (hn : n ≤ 10000) : Calls Try.prog 39 #[.int .i64 f, .int .i64 n] w fun e w' => ∃ a c, e = .returned (.slice a n c) ∧ w'.ownsRow w.heap.size 3 1 (.slice a n c) n ((fromL f n).map (Value.int .i64)) ∧ Below w.heap.size w w' := by
  obtain ⟨i3, hi, hz0, hz1, hz2⟩ := info_parts info3
  go_enter Try.func39, Try.ntmps39
  go_wp2_with fail
  go_loopw [5, 8] (fun v i wr => ∃ k : Nat, k ≤ n ∧ i = .int .i64 k ∧ Hid (Below w.heap.size w wr ∧ wr.ownsRow w.heap.size 3 1 v k ((fromL f k).map (Value.int .i64)))) (fun _ i _ => n - (intOf i).toNat)
  case atStart => exact ⟨0, by omega, rfl, Lib.hid ⟨Below.refl _ _, World.ownsRow_nil _ _ _ _⟩⟩
  case round =>
    obtain ⟨k, hk, rfl, hh⟩ := hrel
    by_cases hlt : k < n
    · have hsz := hh.out.1.size
      have hb1 : Below w.heap.size w (wr.alloc (.cells #[.int .i64 ((f : Int) + (k : Int))] 3)) := hh.out.1.alloc hsz _
      have HOw := Lib.hid (own_below hh.out.2 ((Below.refl wr.heap.size wr).alloc (Nat.le_refl _) (.cells #[.int .i64 ((f : Int) + (k : Int))] 3)))
      have HB1 := Lib.hid hb1
      have hnew : ∀ (j : Nat) (u : Value), [Value.int .i64 ((f : Int) + (k : Int))][j]? = some u → (wr.alloc (.cells #[.int .i64 ((f : Int) + (k : Int))] 3)).cell? (Addr.add ⟨wr.heap.size, 0, none⟩ j) = some u := by
        intro j u hj
        match j, hj with
        | 0, hj => simp at hj; subst hj; simp [Addr.add]
        | j + 1, hj => simp at hj
      have HNew := Lib.hid hnew
      have hs2 : w.heap.size ≤ (wr.alloc (.cells #[.int .i64 ((f : Int) + (k : Int))] 3)).heap.size := hb1.size
      have HS2 := Lib.hid hs2
      clear hb1 hnew hs2
      go_wp2_with (at_builtin; go_loud (refine wpList_append_own _ rfl _ _ 25 rfl w.heap.size 3 i3 (.int .i64 0) 1 8 Try.underlying25 hi hz0 hz1 hz2 rfl (by decide) _ _ _ rfl HOw.out ⟨wr.heap.size, 0, none⟩ 1 1 [.int .i64 ((f : Int) + (k : Int))] rfl rfl HNew.out (by intro u hu; simp at hu; subst hu; rfl) (by unfold maxLen; omega) (by omega) HS2.out ?_; intro v2 w2 ho2 hg2 hnil2))
      have hb2 : Below w.heap.size w w2 := HB1.out.grown hg2 HS2.out (fun q e => (HOw.out.lt q e).1)
      have ho3 : w2.ownsRow w.heap.size 3 1 v2 (k + 1) ((fromL f (k + 1)).map (Value.int .i64)) := by
        rw [fromL_snoc, List.map_append]
        have : (((f + k : Nat) : Int)) = (f : Int) + (k : Int) := by omega
        rw [this]; exact ho2
      have HF := Lib.hid (And.intro hb2 ho3)
      clear hb2 ho3 ho2 hg2 hnil2
      go_wp2_with fail
      go_roundw
      case rel => exact ⟨k + 1, by omega, by go_num, Lib.hid HF.out⟩
      case measure => simp [intOf]; omega
    · obtain rfl : k = n := by omega
      obtain ⟨a, c, rfl, hsq⟩ := owni_lat hh.out.2
      have HSq := Lib.hid hh.out.2
      clear hsq
      go_wp2_with fail
      go_ret
      exact ⟨a, c, rfl, HSq.out, hh.out.1⟩

theorem row39' (w : World) (F N : Int) (f n : Nat) (hF : F = (f : Int)) (hN : N = (n : Int)) (hf : f ≤ 10000) (hn : n ≤ 10000) : Calls Try.prog 39 #[.int .i64 F, .int .i64 N] w fun e w' => ∃ a c, e = .returned (.slice a n c) ∧ w'.ownsRow w.heap.size 3 1 (.slice a n c) n ((fromL f n).map (Value.int .i64)) ∧ Below w.heap.size w w' := by
  subst hF hN
  exact row39 w f n hf hn
set_option maxRecDepth 100000 in
set_option maxHeartbeats 2000000 in
theorem row40 (w : World) (f n : Nat) (hf : f ≤ 10000) (hn : n ≤ 10000) : Calls Try.prog 40 #[.int .i64 f, .int .i64 n] w fun e w' => ∃ a c, e = .returned (.slice a n c) ∧ w'.ownsRow w.heap.size 3 1 (.slice a n c) n ((fromL f n).map (Value.int .i64)) ∧ Below w.heap.size w w' := by
  obtain ⟨i3, hi, hz0, hz1, hz2⟩ := info_parts info3
  go_enter Try.func40, Try.ntmps40
  go_wp2_with fail
  go_loopw [5, 6] (fun v i wr => ∃ k : Nat, k ≤ n ∧ i = .int .i64 k ∧ Hid (Below w.heap.size w wr ∧ wr.ownsRow w.heap.size 3 1 v k ((fromL f k).map (Value.int .i64)))) (fun _ i _ => n - (intOf i).toNat)
  case atStart => exact ⟨0, by omega, rfl, Lib.hid ⟨Below.refl _ _, World.ownsRow_nil _ _ _ _⟩⟩
  case round =>
    obtain ⟨k, hk, rfl, hh⟩ := hrel
    by_cases hlt : k < n
    · have hsz := hh.out.1.size
      have hb1 : Below w.heap.size w (wr.alloc (.cells #[.int .i64 ((f : Int) + (k : Int))] 3)) := hh.out.1.alloc hsz _
      have HOw := Lib.hid (own_below hh.out.2 ((Below.refl wr.heap.size wr).alloc (Nat.le_refl _) (.cells #[.int .i64 ((f : Int) + (k : Int))] 3)))
      have HB1 := Lib.hid hb1
      have hnew : ∀ (j : Nat) (u : Value), [Value.int .i64 ((f : Int) + (k : Int))][j]? = some u → (wr.alloc (.cells #[.int .i64 ((f : Int) + (k : Int))] 3)).cell? (Addr.add ⟨wr.heap.size, 0, none⟩ j) = some u := by
        intro j u hj
        match j, hj with
        | 0, hj => simp at hj; subst hj; simp [Addr.add]
        | j + 1, hj => simp at hj
      have HNew := Lib.hid hnew
      have hs2 : w.heap.size ≤ (wr.alloc (.cells #[.int .i64 ((f : Int) + (k : Int))] 3)).heap.size := hb1.size
      have HS2 := Lib.hid hs2
      clear hb1 hnew hs2
      go_wp2_with (at_builtin; go_loud (refine wpList_append_own _ rfl _ _ 25 rfl w.heap.size 3 i3 (.int .i64 0) 1 8 Try.underlying25 hi hz0 hz1 hz2 rfl (by decide) _ _ _ rfl HOw.out ⟨wr.heap.size, 0, none⟩ 1 1 [.int .i64 ((f : Int) + (k : Int))] rfl rfl HNew.out (by intro u hu; simp at hu; subst hu; rfl) (by unfold maxLen; omega) (by omega) HS2.out ?_; intro v2 w2 ho2 hg2 hnil2))
      have hb2 : Below w.heap.size w w2 := HB1.out.grown hg2 HS2.out (fun q e => (HOw.out.lt q e).1)
      have ho3 : w2.ownsRow w.heap.size 3 1 v2 (k + 1) ((fromL f (k + 1)).map (Value.int .i64)) := by
        rw [fromL_snoc, List.map_append]
        have : (((f + k : Nat) : Int)) = (f : Int) + (k : Int) := by omega
        rw [this]; exact ho2
      have HF := Lib.hid (And.intro hb2 ho3)
      clear hb2 ho3 ho2 hg2 hnil2
      go_wp2_with fail
      go_roundw
      case rel => exact ⟨k + 1, by omega, by go_num, Lib.hid HF.out⟩
      case measure => simp [intOf]; omega
    · obtain rfl : k = n := by omega
      obtain ⟨a, c, rfl, hsq⟩ := owni_lat hh.out.2
      have HSq := Lib.hid hh.out.2
      clear hsq
      go_wp2_with fail
      go_ret
      exact ⟨a, c, rfl, HSq.out, hh.out.1⟩


theorem row40' (w : World) (F N : Int) (f n : Nat) (hF : F = (f : Int)) (hN : N = (n : Int)) (hf : f ≤ 10000) (hn : n ≤ 10000) : Calls Try.prog 40 #[.int .i64 F, .int .i64 N] w fun e w' => ∃ a c, e = .returned (.slice a n c) ∧ w'.ownsRow w.heap.size 3 1 (.slice a n c) n ((fromL f n).map (Value.int .i64)) ∧ Below w.heap.size w w' := by
  subst hF hN
  exact row40 w f n hf hn

def roomB (a : ArchV) (P : PackV) : Bool := decide ((P.bs.length : Int) ≤ tilesL a) && decide (P.ins + (P.os.length : Int) ≤ padsL a)
def errF (a : ArchV) (P : PackV) : Int := if belowE a P = 0 then (if roomB a P = true then 0 else 290) else belowE a P
def firstD (P : PackV) : SpotD := ⟨fromL 0 P.bs.length, fromL 0 P.ins.toNat, fromL P.ins.toNat P.os.length⟩
def firstO (a : ArchV) (P : PackV) : SpotD := if errF a P = 0 then firstD P else ⟨[], [], []⟩
def FirstOut (a : ArchV) (P : PackV) (w : World) (e : Ending) (w' : World) : Prop :=
  ∃ R : SpotV, e = .returned (.tuple #[R.val, .int .i64 (errF a P)]) ∧ R.data = firstO a P ∧ SpotNew w.heap.size noSpots R w' ∧ Below w.heap.size w w'
theorem results_first {fn : Func} (hfn : fn.results = #[.cell 4 29, .tmp 5]) {tmps : Array Value} {W : World} {b : Nat} {v0 v1 v2 : Value} {e : Int} (h6 : tmps[4]?.getD undef = .pointer (some ⟨b, 0, none⟩)) (h8 : tmps[5]?.getD undef = .int .i64 e)
    (hrow : W.rowIs b 29 3 (fun i => ([v0, v1, v2] : List Value).getD i undef)) : (results fn tmps).run Try.prog W = .ok (.tuple #[.agg #[v0, v1, v2], .int .i64 e]) W := by
  have c0 : W.cell? ⟨b, 0, none⟩ = some v0 := hrow.cell (i := 0) (by omega)
  have c1 : W.cell? ⟨b, 1, none⟩ = some v1 := hrow.cell (i := 1) (by omega)
  have c2 : W.cell? ⟨b, 2, none⟩ = some v2 := hrow.cell (i := 2) (by omega)
  simp [results, hfn, go_sem, h6, h8, c0, c1, c2]
theorem first_end {fn : Func} (hfn : fn.results = #[.cell 4 29, .tmp 5]) {R : Ending → World → Prop} {a : Act} {W : World} {b : Nat} {f : Nat → Value} {v0 v1 v2 : Value} {e : Int} {W' : World} (hrow : W.rowIs b 29 3 f)
    (h6 : a.tmps[4]?.getD undef = .pointer (some ⟨b, 0, none⟩)) (h8 : a.tmps[5]?.getD undef = .int .i64 e) (hd : a.defers = []) (hW : W' = (((W.setCell ⟨b, 0, none⟩ (v0)).setCell ⟨b, 1, none⟩ (v1)).setCell ⟨b, 2, none⟩ (v2)) ∨ W' = (((W.setCell ⟨b, 0, none⟩ (v0)).setCell ⟨b, 1, none⟩ (v1)).setCell ⟨b, 2, none⟩ (v2)).drew)
    (hR : R (.returned (.tuple #[.agg #[v0, v1, v2], .int .i64 e])) W') : bodyPost Try.prog fn R .ret a W' := by
  rcases hW with rfl | rfl
  · exact bodyPost_ret (results_first hfn h6 h8 (put3_row hrow)) hd hR
  · exact bodyPost_ret (results_first hfn h6 h8 (put3_row hrow).drew) hd hR
theorem f17_results : Try.f17.results = #[.cell 4 29, .tmp 5] := rfl
theorem f18_results : Try.f18.results = #[.cell 4 29, .tmp 5] := rfl
theorem fromL_mem {f n : Nat} {x : Int} (h : x ∈ fromL f n) : (f : Int) ≤ x ∧ x < ((f + n : Nat) : Int) := by
  unfold fromL at h
  obtain ⟨i, hi, rfl⟩ := List.mem_map.1 h
  rw [List.mem_range] at hi
  omega
theorem fromL_i64 (f n : Nat) (h : f + n ≤ 100000) : ∀ x ∈ fromL f n, I64 x := fun x hx => by
  have := fromL_mem hx
  exact i64_of (by omega) (by omega)
set_option maxRecDepth 100000 in
set_option maxHeartbeats 8000000 in
theorem first17 (w : World) (a : ArchV) (P : PackV) (hP : PackAt w P) (hf : FewP P) : Calls Try.prog 17 #[a.val, P.val] w fun e w' => FirstOut a P w e w' := by
  have HC : Hid (∀ W, Below w.heap.size w W → Calls Try.prog 31 #[a.val, P.val] W fun e w' => e = .returned (.int .i64 (belowE a P)) ∧ Below W.heap.size W w') := Lib.hid fun W hW => below31 W a P (hP.below hW (Nat.le_refl _)) hf
  have HR0 : Hid (belowE a P = 0 → ((1 ≤ a.w ∧ a.w ≤ 16) ∧ 1 ≤ a.h ∧ a.h ≤ 16) ∧ 0 ≤ P.ins) := Lib.hid fun h => by
    have := rightP_of h
    exact ⟨⟨this.w, this.h⟩, this.i0⟩
  have HFw : Hid (P.ins ≤ 100 ∧ P.bs.length ≤ 500 ∧ P.os.length ≤ 500) := Lib.hid ⟨hf.ins, hf.bs, hf.os⟩
  have HE2 : Hid (¬ belowE a P = 0 → errF a P = belowE a P) := Lib.hid fun h => by unfold errF; rw [if_neg h]
  have HE1 : Hid (belowE a P = 0 → ¬ ((P.bs.length : Int) ≤ a.w * a.h ∧ P.ins + (P.os.length : Int) ≤ 2 * a.w + 2 * a.h) → errF a P = 290) := Lib.hid fun h1 h2 => by
    unfold errF
    rw [if_pos h1, if_neg]
    intro h3
    unfold roomB tilesL padsL at h3
    simp only [Bool.and_eq_true, decide_eq_true_eq] at h3
    exact h2 h3
  have HE0 : Hid (belowE a P = 0 → (P.bs.length : Int) ≤ a.w * a.h → P.ins + (P.os.length : Int) ≤ 2 * a.w + 2 * a.h → errF a P = 0) := Lib.hid fun h1 h2 h3 => by
    unfold errF
    rw [if_pos h1, if_pos]
    unfold roomB tilesL padsL
    simp only [Bool.and_eq_true, decide_eq_true_eq]
    exact ⟨h2, h3⟩
  have HOn0 : Hid (∀ {F : Int} {w'}, errF a P = F → ¬ F = 0 → Below w.heap.size w w' → FirstOut a P w (.returned (.tuple #[zeroSpots, .int .i64 F])) w') := Lib.hid fun h1 h2 h3 => ⟨noSpots, by rw [h1]; rfl, by unfold firstO; rw [h1, if_neg h2], SpotNew.none _ _ _, h3⟩
  have HOy0 : Hid (∀ {R : SpotV} {w'}, errF a P = 0 → R.data = ⟨fromL 0 P.bs.length, fromL 0 P.ins.toNat, fromL P.ins.toNat P.os.length⟩ → SpotNew w.heap.size noSpots R w' → Below w.heap.size w w' → FirstOut a P w (.returned (.tuple #[R.val, .int .i64 0])) w') := Lib.hid fun h1 h2 h3 h4 => ⟨_, by rw [h1], by unfold firstO; rw [h1, if_pos rfl]; exact h2, h3, h4⟩
  obtain ⟨G, hG⟩ : ∃ G, G = fun e w' => FirstOut a P w e w' := ⟨_, rfl⟩
  obtain ⟨F, hF⟩ : ∃ F, F = belowE a P := ⟨_, rfl⟩
  obtain ⟨er, her⟩ : ∃ F, F = errF a P := ⟨_, rfl⟩
  have HOn : Hid (∀ {F : Int} {w'}, er = F → ¬ F = 0 → Below w.heap.size w w' → G (.returned (.tuple #[zeroSpots, .int .i64 F])) w') := Lib.hid (by rw [hG, her]; exact HOn0.out)
  have HOy : Hid (∀ {R : SpotV} {w'}, er = 0 → R.data = ⟨fromL 0 P.bs.length, fromL 0 P.ins.toNat, fromL P.ins.toNat P.os.length⟩ → SpotNew w.heap.size noSpots R w' → Below w.heap.size w w' → G (.returned (.tuple #[R.val, .int .i64 0])) w') := Lib.hid (by rw [hG, her]; exact HOy0.out)
  rw [← hG]
  rw [← hF] at HC HR0 HE0 HE1 HE2
  rw [← her] at HE0 HE1 HE2
  clear HOn0 HOy0 hF her hP hf hG
  obtain ⟨aw, ah, at_⟩ := a
  obtain ⟨pi, pa, pc, pb, qa, qc, qb⟩ := P
  unfold ArchV.val PackV.val at HC
  unfold ArchV.val PackV.val
  dsimp only at HC HR0 HFw HE1 HE0 HOy ⊢
  obtain ⟨m1, hm1⟩ : ∃ n, n = pb.length := ⟨_, rfl⟩
  obtain ⟨m3, hm3⟩ : ∃ n, n = qb.length := ⟨_, rfl⟩
  rw [← hm1, ← hm3] at HC HFw HE1 HE0 HOy ⊢
  clear hm1 hm3
  obtain ⟨H, hH⟩ : ∃ h, h = w.heap.size := ⟨_, rfl⟩
  obtain ⟨w1, hw1⟩ : ∃ W, W = ((w.alloc (.cells #[.int .i64 aw, .int .i64 ah, .int .i64 at_] 23)).alloc (.cells #[.int .i64 pi, .slice pa m1 pc, .slice qa m3 qc] 27)).alloc (.cells #[.slice none 0 0, .slice none 0 0, .slice none 0 0] 29) := ⟨_, rfl⟩
  have hX1 : Below w.heap.size w w1 := by rw [hw1]; exact (((Below.refl _ _).alloc (Nat.le_refl _) _).alloc (by simp) _).alloc (by simp <;> omega) _
  have hs1 : w1.heap.size = H + 3 := by rw [hw1, hH]; simp
  obtain ⟨H1, hH1⟩ : ∃ x, x = H + 1 := ⟨_, rfl⟩
  obtain ⟨B1, hB1⟩ : ∃ x, x = H1 + 1 := ⟨_, rfl⟩
  have hrw0 : w1.rowIs (H) 23 3 (fun i => ([.int .i64 aw, .int .i64 ah, .int .i64 at_] : List Value).getD i undef) := by
    rw [hw1, hH]
    exact ((rowL_alloc w 23 [.int .i64 aw, .int .i64 ah, .int .i64 at_]).alloc _).alloc _
  have hrw1 : w1.rowIs (H1) 27 3 (fun i => ([.int .i64 pi, .slice pa m1 pc, .slice qa m3 qc] : List Value).getD i undef) := by
    have h := (rowL_alloc (w.alloc (.cells #[.int .i64 aw, .int .i64 ah, .int .i64 at_] 23)) 27 [.int .i64 pi, .slice pa m1 pc, .slice qa m3 qc]).alloc (.cells #[.slice none 0 0, .slice none 0 0, .slice none 0 0] 29)
    rw [hw1]
    have hsz : (w.alloc (.cells #[.int .i64 aw, .int .i64 ah, .int .i64 at_] 23)).heap.size = H1 := by rw [hH1, hH]; simp
    rw [hsz] at h
    exact h
  have hrw3 : w1.rowIs (B1) 29 3 (fun i => ([.slice none 0 0, .slice none 0 0, .slice none 0 0] : List Value).getD i undef) := by
    have h := rowL_alloc ((w.alloc (.cells #[.int .i64 aw, .int .i64 ah, .int .i64 at_] 23)).alloc (.cells #[.int .i64 pi, .slice pa m1 pc, .slice qa m3 qc] 27)) 29 [.slice none 0 0, .slice none 0 0, .slice none 0 0]
    rw [hw1]
    have hsz : ((w.alloc (.cells #[.int .i64 aw, .int .i64 ah, .int .i64 at_] 23)).alloc (.cells #[.int .i64 pi, .slice pa m1 pc, .slice qa m3 qc] 27)).heap.size = B1 := by rw [hB1, hH1, hH]; simp
    rw [hsz] at h
    exact h
  have HX1 := Lib.hid hX1
  have HW3r : Hid (∀ W, Below w1.heap.size w1 W → W.rowIs (B1) 29 3 (fun i => ([.slice none 0 0, .slice none 0 0, .slice none 0 0] : List Value).getD i undef)) := Lib.hid fun W hW => hrw3.of_block (hW.block B1 (by omega))
  have HK : Hid (∀ W, Below B1 w1 W → W.cell? ⟨H, 0, none⟩ = some (.int .i64 aw) ∧ W.cell? ⟨H, 1, none⟩ = some (.int .i64 ah) ∧ W.cell? ⟨H, 2, none⟩ = some (.int .i64 at_) ∧ W.cell? ⟨H1, 0, none⟩ = some (.int .i64 pi) ∧ W.cell? ⟨H1, 1, none⟩ = some (.slice pa m1 pc) ∧ W.cell? ⟨H1, 2, none⟩ = some (.slice qa m3 qc)) := Lib.hid fun W hW => by
    have h0 := hrw0.of_block (hW.block H (by omega))
    have h1 := hrw1.of_block (hW.block H1 (by omega))
    exact ⟨h0.cell (by omega), h0.cell (by omega), h0.cell (by omega), h1.cell (by omega), h1.cell (by omega), h1.cell (by omega)⟩
  have HSz : Hid (w1.heap.size = H + 3 ∧ B1 = H + 2 ∧ H = w.heap.size) := Lib.hid ⟨hs1, by omega, hH⟩
  have HXW : Hid (∀ W, Below B1 w1 W → Below w.heap.size w W) := Lib.hid fun W hW => hX1.trans (hW.mono (by omega))
  have HBw : Hid (∀ W, Below w1.heap.size w1 W → Below B1 w1 W) := Lib.hid fun W hW => hW.mono (by omega)
  have HW1 := Lib.hid hw1
  have HHH := Lib.hid hH
  have HHH1 := Lib.hid hH1
  have HBB := Lib.hid hB1
  clear hw1 hX1 hs1 hrw0 hrw1 hrw3 hH hH1 hB1
  go_enter Try.func17, Try.ntmps17
  go_wp2_with fail
  rw [← HW1.out]
  (try rw [← HHH.out])
  rw [← HHH1.out]
  rw [← HBB.out]
  refine Calls.mono (HC.out w1 HX1.out) ?_
  rintro e w2 ⟨rfl, hb2⟩
  have HBx := Lib.hid hb2
  clear hb2
  obtain ⟨a0, a1, a2, p0, p1, p2⟩ := HK.out w2 (HBw.out w2 HBx.out)
  by_cases hF : F = 0
  · obtain ⟨⟨q1, q2⟩, q3⟩ := HR0.out hF
    have HE1b := Lib.hid (HE1.out hF)
    have HE0b := Lib.hid (HE0.out hF)
    subst hF
    obtain ⟨t, ht⟩ : ∃ t, t = aw * ah := ⟨_, rfl⟩
    have htl : 0 ≤ t ∧ t ≤ 256 := by
      have h256 : aw * ah ≤ 16 * 16 := Int.mul_le_mul q1.2 q2.2 (by omega) (by omega)
      have h0 : 0 ≤ aw * ah := Int.mul_nonneg (by omega) (by omega)
      omega
    rw [← ht] at HE1b HE0b
    obtain ⟨pd, hpd⟩ : ∃ t, t = 2 * aw + 2 * ah := ⟨_, rfl⟩
    rw [← hpd] at HE1b HE0b
    have hfw := HFw.out
    have F0 : wrap64 (aw * ah) = t := by rw [← ht]; exact wrap64s (by omega) (by omega)
    have F1 : wrap64 (aw + ah) = aw + ah := wrap64s (by omega) (by omega)
    have F2 : wrap64 (2 * (aw + ah)) = pd := by rw [wrap64s (by omega) (by omega)]; omega
    have F3 : wrap64 (pi + (m3 : Int)) = pi + (m3 : Int) := wrap64s (by omega) (by omega)
    clear ht hpd q1 q2 htl HE0 HE1 HE2 HR0
    by_cases h1 : (m1 : Int) ≤ t
    · have d1 : decide (t < (m1 : Int)) = false := by simpa using h1
      have d1' : decide ((m1 : Int) > t) = false := by simpa using h1
      by_cases h2 : pi + (m3 : Int) ≤ pd
      · have d2 : decide (pd < pi + (m3 : Int)) = false := by simpa using h2
        have d2' : decide (pi + (m3 : Int) > pd) = false := by simpa using h2
        have HEr := Lib.hid (HE0b.out h1 h2)
        clear h1 h2
        go_wp2_with fail
        clear a0 a1 a2 p0 p1 p2
        refine wp_region_held_drew (S := fun w' => w'.cell? ⟨H, 0, none⟩ = some (.int .i64 aw) ∧ w'.cell? ⟨H, 1, none⟩ = some (.int .i64 ah) ∧ w'.cell? ⟨H, 2, none⟩ = some (.int .i64 at_) ∧ w'.cell? ⟨H1, 0, none⟩ = some (.int .i64 pi) ∧ w'.cell? ⟨H1, 1, none⟩ = some (.slice pa m1 pc) ∧ w'.cell? ⟨H1, 2, none⟩ = some (.slice qa m3 qc)) (by kernel_rfl) (HK.out _ (HBw.out _ HBx.out.drew)) (fun hHeld => ?_)
        refine wpAnyH_take (i := 0) (v := ?_) (by simp only [List.getElem?_toArray, List.getElem?_cons_succ, List.getElem?_cons_zero]; rfl) (by kernel_rfl) (by kernel_rfl) (by kernel_rfl) (by intro _ _ _ h; exact h) (Or.inl ⟨by rfl, ?_⟩) (by assumption) ?_
        rotate_left
        · intro w hSw; (try dsimp only at hSw); go_simp; try with_reducible rfl
        try simp only [Act.put, List.setIfInBounds_toArray, List.set_cons_zero, List.set_cons_succ]
        refine wpAnyH_take (i := 1) (v := ?_) (by simp only [List.getElem?_toArray, List.getElem?_cons_succ, List.getElem?_cons_zero]; rfl) (by kernel_rfl) (by kernel_rfl) (by kernel_rfl) (by intro _ _ _ h; exact h) (Or.inl ⟨by rfl, ?_⟩) (by assumption) ?_
        rotate_left
        · intro w hSw; (try dsimp only at hSw); go_simp; try with_reducible rfl
        try simp only [Act.put, List.setIfInBounds_toArray, List.set_cons_zero, List.set_cons_succ]
        refine wpAnyH_take (i := 4) (v := ?_) (by simp only [List.getElem?_toArray, List.getElem?_cons_succ, List.getElem?_cons_zero]; rfl) (by kernel_rfl) (by kernel_rfl) (by kernel_rfl) (by intro _ _ _ h; exact h) (Or.inl ⟨by rfl, ?_⟩) (by assumption) ?_
        rotate_left
        · intro w hSw; (try dsimp only at hSw); go_simp; try with_reducible rfl
        try simp only [Act.put, List.setIfInBounds_toArray, List.set_cons_zero, List.set_cons_succ]
        refine wpAnyH_take (i := 5) (v := ?_) (by simp only [List.getElem?_toArray, List.getElem?_cons_succ, List.getElem?_cons_zero]; rfl) (by kernel_rfl) (by kernel_rfl) (by kernel_rfl) (by intro _ _ _ h; exact h) (Or.inl ⟨by rfl, ?_⟩) (by assumption) ?_
        rotate_left
        · intro w hSw; (try dsimp only at hSw); go_simp; try with_reducible rfl
        try simp only [Act.put, List.setIfInBounds_toArray, List.set_cons_zero, List.set_cons_succ]
        refine wpAnyH_take (i := 7) (v := ?_) (by simp only [List.getElem?_toArray, List.getElem?_cons_succ, List.getElem?_cons_zero]; rfl) (by kernel_rfl) (by kernel_rfl) (by kernel_rfl) (by intro _ _ _ h; exact h) (Or.inl ⟨by rfl, ?_⟩) (by assumption) ?_
        rotate_left
        · intro w hSw; (try dsimp only at hSw); go_simp; try with_reducible rfl
        try simp only [Act.put, List.setIfInBounds_toArray, List.set_cons_zero, List.set_cons_succ]
        refine wpAnyH_take (i := 8) (v := ?_) (by simp only [List.getElem?_toArray, List.getElem?_cons_succ, List.getElem?_cons_zero]; rfl) (by kernel_rfl) (by kernel_rfl) (by kernel_rfl) (by intro _ _ _ h; exact h) (Or.inl ⟨by rfl, ?_⟩) (by assumption) ?_
        rotate_left
        · intro w hSw; (try dsimp only at hSw); go_simp; try with_reducible rfl
        try simp only [Act.put, List.setIfInBounds_toArray, List.set_cons_zero, List.set_cons_succ]
        refine wpAnyH_take (i := 9) (v := ?_) (by simp only [List.getElem?_toArray, List.getElem?_cons_succ, List.getElem?_cons_zero]; rfl) (by kernel_rfl) (by kernel_rfl) (by kernel_rfl) (by intro _ _ _ h; exact h) (Or.inl ⟨by rfl, ?_⟩) (by assumption) ?_
        rotate_left
        · intro w hSw; (try dsimp only at hSw); go_simp; try with_reducible rfl
        try simp only [Act.put, List.setIfInBounds_toArray, List.set_cons_zero, List.set_cons_succ]
        refine wpAnyH_take (i := 10) (v := ?_) (by simp only [List.getElem?_toArray, List.getElem?_cons_succ, List.getElem?_cons_zero]; rfl) (by kernel_rfl) (by kernel_rfl) (by kernel_rfl) (by intro _ _ _ h; exact h) (Or.inl ⟨by rfl, ?_⟩) (by assumption) ?_
        rotate_left
        · intro w hSw; (try dsimp only at hSw); go_simp; try with_reducible rfl
        try simp only [Act.put, List.setIfInBounds_toArray, List.set_cons_zero, List.set_cons_succ]
        refine wpAnyH_take (i := 2) (v := ?_) (by simp only [List.getElem?_toArray, List.getElem?_cons_succ, List.getElem?_cons_zero]; rfl) (by kernel_rfl) (by kernel_rfl) (by kernel_rfl) (by intro _ _ _ h; exact h) (Or.inl ⟨by rfl, ?_⟩) (by assumption) ?_
        rotate_left
        · intro w hSw; (try dsimp only at hSw); go_simp; try with_reducible rfl
        try simp only [Act.put, List.setIfInBounds_toArray, List.set_cons_zero, List.set_cons_succ]
        refine wpAnyH_take (i := 11) (v := ?_) (by simp only [List.getElem?_toArray, List.getElem?_cons_succ, List.getElem?_cons_zero]; rfl) (by kernel_rfl) (by kernel_rfl) (by kernel_rfl) (by intro _ _ _ h; exact h) (Or.inl ⟨by rfl, ?_⟩) (by assumption) ?_
        rotate_left
        · intro w hSw; (try dsimp only at hSw); go_simp; try with_reducible rfl
        try simp only [Act.put, List.setIfInBounds_toArray, List.set_cons_zero, List.set_cons_succ]
        refine wpAnyH_ready (rs := [3]) (by kernel_rfl) (by simp) ?_
        refine AllReadyH.cons (o := _) (by simp only [List.getElem?_toArray, List.getElem?_cons_succ, List.getElem?_cons_zero]; rfl) (fun K hK => ?_) AllReadyH.nil
        go_simp
        go_at_call 39
        refine Calls.mono (row39' _ 0 (m1 : Int) 0 m1 (by omega) (by omega) (by omega) (by omega)) ?_
        rintro e w3 ⟨b0, d0, rfl, ho0, hb3⟩
        have HB3 : Hid (Below w1.heap.size w1 w3) := Lib.hid (HBx.out.drew.trans (hb3.mono HBx.out.drew.size))
        have HO0 := Lib.hid ho0
        have HZ3 : Hid (w2.heap.size ≤ w3.heap.size) := Lib.hid hb3.size
        clear hb3 ho0
        go_simp
        refine hK.out _ _ (by exact HK.out _ (HBw.out _ HB3.out)) (fun hHeld => ?_)
        clear hK K
        try simp only [Act.put, List.setIfInBounds_toArray, List.set_cons_zero, List.set_cons_succ]
        refine wpAnyH_ready (rs := [6]) (by kernel_rfl) (by simp) ?_
        refine AllReadyH.cons (o := _) (by simp only [List.getElem?_toArray, List.getElem?_cons_succ, List.getElem?_cons_zero]; rfl) (fun K hK => ?_) AllReadyH.nil
        go_simp
        go_at_call 39
        refine Calls.mono (row39' _ 0 pi 0 pi.toNat (by omega) (by omega) (by omega) (by omega)) ?_
        rintro e w4 ⟨b1, d1, rfl, ho1, hb4⟩
        have HB4 : Hid (Below w1.heap.size w1 w4) := Lib.hid (HB3.out.trans (hb4.mono HB3.out.size))
        have HO1 : Hid (w4.ownsRow w2.heap.size 3 1 (.slice b0 m1 d0) m1 ((fromL 0 m1).map (Value.int .i64)) ∧ w4.ownsRow w3.heap.size 3 1 (.slice b1 pi.toNat d1) pi.toNat ((fromL 0 pi.toNat).map (Value.int .i64))) := Lib.hid ⟨own_below HO0.out hb4, ho1⟩
        have HZ4 : Hid (w3.heap.size ≤ w4.heap.size) := Lib.hid hb4.size
        clear hb4 ho1
        go_simp
        refine hK.out _ _ (by exact HK.out _ (HBw.out _ HB4.out)) (fun hHeld => ?_)
        clear hK K
        try simp only [Act.put, List.setIfInBounds_toArray, List.set_cons_zero, List.set_cons_succ]
        refine wpAnyH_ready (rs := [12]) (by kernel_rfl) (by simp) ?_
        refine AllReadyH.cons (o := _) (by simp only [List.getElem?_toArray, List.getElem?_cons_succ, List.getElem?_cons_zero]; rfl) (fun K hK => ?_) AllReadyH.nil
        go_simp
        go_at_call 39
        refine Calls.mono (row39' _ pi (m3 : Int) pi.toNat m3 (by omega) (by omega) (by omega) (by omega)) ?_
        rintro e w5 ⟨b2, d2, rfl, ho2, hb5⟩
        have HB5 : Hid (Below w1.heap.size w1 w5) := Lib.hid (HB4.out.trans (hb5.mono HB4.out.size))
        have HO2 : Hid (w5.ownsRow w2.heap.size 3 1 (.slice b0 m1 d0) m1 ((fromL 0 m1).map (Value.int .i64)) ∧ w5.ownsRow w3.heap.size 3 1 (.slice b1 pi.toNat d1) pi.toNat ((fromL 0 pi.toNat).map (Value.int .i64)) ∧ w5.ownsRow w4.heap.size 3 1 (.slice b2 m3 d2) m3 ((fromL pi.toNat m3).map (Value.int .i64))) := Lib.hid ⟨own_below HO1.out.1 hb5, own_below HO1.out.2 hb5, ho2⟩
        clear hb5 ho2
        have hr9 := HW3r.out w5 HB5.out
        have z0 : w5.cell? ⟨B1, 0, none⟩ = some (.slice none 0 0) := hr9.cell (by omega)
        have f0 := hr9.frozen 0
        have z1 : w5.cell? ⟨B1, 1, none⟩ = some (.slice none 0 0) := hr9.cell (by omega)
        have f1 := hr9.frozen 1
        have z2 : w5.cell? ⟨B1, 2, none⟩ = some (.slice none 0 0) := hr9.cell (by omega)
        have f2 := hr9.frozen 2
        have HR9 := Lib.hid hr9
        clear hr9
        go_simp
        refine hK.out _ _ (by exact HK.out _ (HBw.out _ HB5.out)) (fun hHeld => ?_)
        clear hK K
        try simp only [Act.put, List.setIfInBounds_toArray, List.set_cons_zero, List.set_cons_succ]
        refine wpAnyH_take (i := 13) (v := ?_) (by simp only [List.getElem?_toArray, List.getElem?_cons_succ, List.getElem?_cons_zero]; rfl) (by kernel_rfl) (by kernel_rfl) (by kernel_rfl) (by intro _ _ _ h; exact h) (Or.inl ⟨by rfl, ?_⟩) (by assumption) ?_
        rotate_left
        · intro w hSw; (try dsimp only at hSw); go_simp; try with_reducible rfl
        try simp only [Act.put, List.setIfInBounds_toArray, List.set_cons_zero, List.set_cons_succ]
        refine wpAnyH_ready (rs := [14]) (by kernel_rfl) (by simp) ?_
        refine AllReadyH.cons (o := _) (by simp only [List.getElem?_toArray, List.getElem?_cons_succ, List.getElem?_cons_zero]; rfl) (fun K hK => ?_) AllReadyH.nil
        go_simp

        refine hK.out _ _ (by exact HK.out _ ((((HBw.out _ HB5.out).setCell (Nat.le_refl _) _).setCell (Nat.le_refl _) _).setCell (Nat.le_refl _) _)) (fun hHeld => ?_)
        clear hK K
        try simp only [Act.put, List.setIfInBounds_toArray, List.set_cons_zero, List.set_cons_succ]
        refine wpAnyH_take (i := 15) (v := ?_) (by simp only [List.getElem?_toArray, List.getElem?_cons_succ, List.getElem?_cons_zero]; rfl) (by kernel_rfl) (by kernel_rfl) (by kernel_rfl) (by intro _ _ _ h; exact h) (Or.inl ⟨by rfl, ?_⟩) (by assumption) ?_
        rotate_left
        · intro w hSw; (try dsimp only at hSw); go_simp; try with_reducible rfl
        try simp only [Act.put, List.setIfInBounds_toArray, List.set_cons_zero, List.set_cons_succ]
        refine wpAnyH_done (by kernel_rfl) ?_ _
        go_wp2_with fail
        (try simp only [Exit.inBlock, Exit.then])
        have key : ∀ (R : Ending → World → Prop) (a : Act) (W' : World), a.tmps[4]?.getD undef = .pointer (some ⟨B1, 0, none⟩) → a.tmps[5]?.getD undef = .int .i64 0 → a.defers = [] → W' = (((w5.setCell ⟨B1, 0, none⟩ (.slice b0 m1 d0)).setCell ⟨B1, 1, none⟩ (.slice b1 pi.toNat d1)).setCell ⟨B1, 2, none⟩ (.slice b2 m3 d2)) ∨ W' = (((w5.setCell ⟨B1, 0, none⟩ (.slice b0 m1 d0)).setCell ⟨B1, 1, none⟩ (.slice b1 pi.toNat d1)).setCell ⟨B1, 2, none⟩ (.slice b2 m3 d2)).drew → R (.returned (.tuple #[.agg #[.slice b0 m1 d0, .slice b1 pi.toNat d1, .slice b2 m3 d2], .int .i64 0])) W' → bodyPost Try.prog Try.f17 R .ret a W' := fun R a W' q1 q2 q3 q4 q5 => @first_end Try.f17 f17_results R a w5 B1 _ (.slice b0 m1 d0) (.slice b1 pi.toNat d1) (.slice b2 m3 d2) 0 W' HR9.out q1 q2 q3 q4 q5
        refine key _ _ _ ?h6y17 ?h8y17 ?hdy17 ?hWy17 ?hRy17
        case h6y17 => rfl
        case h8y17 => rfl
        case hdy17 => rfl
        case hWy17 => first | exact Or.inl rfl | exact Or.inr rfl
        have hg := grown_put3 (b := B1) (v0 := .slice b0 m1 d0) (v1 := .slice b1 pi.toNat d1) (v2 := .slice b2 m3 d2) (World.grownBy.refl w5 (some B1))
        have hR : SpotV.val ⟨b0, d0, fromL 0 m1, b1, d1, fromL 0 pi.toNat, b2, d2, fromL pi.toNat m3⟩ = .agg #[.slice b0 m1 d0, .slice b1 pi.toNat d1, .slice b2 m3 d2] := by unfold SpotV.val; dsimp only; rw [fromL_len, fromL_len, fromL_len]
        rw [← hR]
        refine HOy.out (R := ⟨b0, d0, fromL 0 m1, b1, d1, fromL 0 pi.toNat, b2, d2, fromL pi.toNat m3⟩) HEr.out rfl ?_ ?_
        · have e1 := HSz.out
          have e2 := HBx.out.size
          have e3 := HZ3.out
          have e4 := HZ4.out
          refine ⟨.inr ?_, .inr ?_, .inr ?_, ?_, ?_, ?_⟩
          · dsimp only
            rw [fromL_len]
            exact own_weak (own_grown HO2.out.1 (by first | exact hg | exact grown_drew hg) (by omega)) (by omega)
          · dsimp only
            rw [fromL_len]
            exact own_weak (own_grown HO2.out.2.1 (by first | exact hg | exact grown_drew hg) (by omega)) (by omega)
          · dsimp only
            rw [fromL_len]
            exact own_weak (own_grown HO2.out.2.2 (by first | exact hg | exact grown_drew hg) (by omega)) (by omega)
          · exact fromL_i64 _ _ (by omega)
          · exact fromL_i64 _ _ (by omega)
          · exact fromL_i64 _ _ (by omega)
        · first | exact below_grown (HXW.out _ (HBw.out _ HB5.out)) hg (by have := HSz.out; omega) (HXW.out _ (HBw.out _ HB5.out)).size | exact (below_grown (HXW.out _ (HBw.out _ HB5.out)) hg (by have := HSz.out; omega) (HXW.out _ (HBw.out _ HB5.out)).size).drew
      · have d2 : decide (pd < pi + (m3 : Int)) = true := by simp; omega
        have d2' : decide (pi + (m3 : Int) > pd) = true := by simp; omega
        have HEr := Lib.hid (HE1b.out (fun e => h2 e.2))
        clear h1 h2 hfw
        have hr9 := HW3r.out w2 HBx.out
        have z0 : w2.cell? ⟨B1, 0, none⟩ = some (.slice none 0 0) := hr9.cell (by omega)
        have f0 := hr9.frozen 0
        have z1 : w2.cell? ⟨B1, 1, none⟩ = some (.slice none 0 0) := hr9.cell (by omega)
        have f1 := hr9.frozen 1
        have z2 : w2.cell? ⟨B1, 2, none⟩ = some (.slice none 0 0) := hr9.cell (by omega)
        have f2 := hr9.frozen 2
        have HR9 := Lib.hid hr9
        clear hr9
        go_wp2_with fail
        (try simp only [Exit.inBlock, Exit.then])
        have key : ∀ (R : Ending → World → Prop) (a : Act) (W' : World), a.tmps[4]?.getD undef = .pointer (some ⟨B1, 0, none⟩) → a.tmps[5]?.getD undef = .int .i64 290 → a.defers = [] → W' = (((w2.setCell ⟨B1, 0, none⟩ (.slice none 0 0)).setCell ⟨B1, 1, none⟩ (.slice none 0 0)).setCell ⟨B1, 2, none⟩ (.slice none 0 0)) ∨ W' = (((w2.setCell ⟨B1, 0, none⟩ (.slice none 0 0)).setCell ⟨B1, 1, none⟩ (.slice none 0 0)).setCell ⟨B1, 2, none⟩ (.slice none 0 0)).drew → R (.returned (.tuple #[.agg #[.slice none 0 0, .slice none 0 0, .slice none 0 0], .int .i64 290])) W' → bodyPost Try.prog Try.f17 R .ret a W' := fun R a W' q1 q2 q3 q4 q5 => @first_end Try.f17 f17_results R a w2 B1 _ (.slice none 0 0) (.slice none 0 0) (.slice none 0 0) 290 W' HR9.out q1 q2 q3 q4 q5
        refine key _ _ _ ?h6a17 ?h8a17 ?hda17 ?hWa17 ?hRa17
        case h6a17 => rfl
        case h8a17 => rfl
        case hda17 => rfl
        case hWa17 => first | exact Or.inl rfl | exact Or.inr rfl
        have hg := grown_put3 (b := B1) (v0 := .slice none 0 0) (v1 := .slice none 0 0) (v2 := .slice none 0 0) (World.grownBy.refl w2 (some B1))
        exact HOn.out HEr.out (by decide) (below_grown (HXW.out _ (HBw.out _ HBx.out)) hg (by have := HSz.out; omega) (HXW.out _ (HBw.out _ HBx.out)).size)
    · have d1 : decide (t < (m1 : Int)) = true := by simp; omega
      have d1' : decide ((m1 : Int) > t) = true := by simp; omega
      have HEr := Lib.hid (HE1b.out (fun e => h1 e.1))
      clear h1 hfw
      have hr9 := HW3r.out w2 HBx.out
      have z0 : w2.cell? ⟨B1, 0, none⟩ = some (.slice none 0 0) := hr9.cell (by omega)
      have f0 := hr9.frozen 0
      have z1 : w2.cell? ⟨B1, 1, none⟩ = some (.slice none 0 0) := hr9.cell (by omega)
      have f1 := hr9.frozen 1
      have z2 : w2.cell? ⟨B1, 2, none⟩ = some (.slice none 0 0) := hr9.cell (by omega)
      have f2 := hr9.frozen 2
      have HR9 := Lib.hid hr9
      clear hr9
      go_wp2_with fail
      (try simp only [Exit.inBlock, Exit.then])
      have key : ∀ (R : Ending → World → Prop) (a : Act) (W' : World), a.tmps[4]?.getD undef = .pointer (some ⟨B1, 0, none⟩) → a.tmps[5]?.getD undef = .int .i64 290 → a.defers = [] → W' = (((w2.setCell ⟨B1, 0, none⟩ (.slice none 0 0)).setCell ⟨B1, 1, none⟩ (.slice none 0 0)).setCell ⟨B1, 2, none⟩ (.slice none 0 0)) ∨ W' = (((w2.setCell ⟨B1, 0, none⟩ (.slice none 0 0)).setCell ⟨B1, 1, none⟩ (.slice none 0 0)).setCell ⟨B1, 2, none⟩ (.slice none 0 0)).drew → R (.returned (.tuple #[.agg #[.slice none 0 0, .slice none 0 0, .slice none 0 0], .int .i64 290])) W' → bodyPost Try.prog Try.f17 R .ret a W' := fun R a W' q1 q2 q3 q4 q5 => @first_end Try.f17 f17_results R a w2 B1 _ (.slice none 0 0) (.slice none 0 0) (.slice none 0 0) 290 W' HR9.out q1 q2 q3 q4 q5
      refine key _ _ _ ?h6b17 ?h8b17 ?hdb17 ?hWb17 ?hRb17
      case h6b17 => rfl
      case h8b17 => rfl
      case hdb17 => rfl
      case hWb17 => first | exact Or.inl rfl | exact Or.inr rfl
      have hg := grown_put3 (b := B1) (v0 := .slice none 0 0) (v1 := .slice none 0 0) (v2 := .slice none 0 0) (World.grownBy.refl w2 (some B1))
      exact HOn.out HEr.out (by decide) (below_grown (HXW.out _ (HBw.out _ HBx.out)) hg (by have := HSz.out; omega) (HXW.out _ (HBw.out _ HBx.out)).size)
  · have hFb : (F == 0) = false := by simpa using hF
    have hFb2 : (F != 0) = true := by simpa using hF
    have HEr := Lib.hid (HE2.out hF)
    have HF0 := Lib.hid hF
    clear hF
    have hr9 := HW3r.out w2 HBx.out
    have z0 : w2.cell? ⟨B1, 0, none⟩ = some (.slice none 0 0) := hr9.cell (by omega)
    have f0 := hr9.frozen 0
    have z1 : w2.cell? ⟨B1, 1, none⟩ = some (.slice none 0 0) := hr9.cell (by omega)
    have f1 := hr9.frozen 1
    have z2 : w2.cell? ⟨B1, 2, none⟩ = some (.slice none 0 0) := hr9.cell (by omega)
    have f2 := hr9.frozen 2
    have HR9 := Lib.hid hr9
    clear hr9
    go_wp2_with fail
    (try simp only [Exit.inBlock, Exit.then])
    have key : ∀ (R : Ending → World → Prop) (a : Act) (W' : World), a.tmps[4]?.getD undef = .pointer (some ⟨B1, 0, none⟩) → a.tmps[5]?.getD undef = .int .i64 F → a.defers = [] → W' = (((w2.setCell ⟨B1, 0, none⟩ (.slice none 0 0)).setCell ⟨B1, 1, none⟩ (.slice none 0 0)).setCell ⟨B1, 2, none⟩ (.slice none 0 0)) ∨ W' = (((w2.setCell ⟨B1, 0, none⟩ (.slice none 0 0)).setCell ⟨B1, 1, none⟩ (.slice none 0 0)).setCell ⟨B1, 2, none⟩ (.slice none 0 0)).drew → R (.returned (.tuple #[.agg #[.slice none 0 0, .slice none 0 0, .slice none 0 0], .int .i64 F])) W' → bodyPost Try.prog Try.f17 R .ret a W' := fun R a W' q1 q2 q3 q4 q5 => @first_end Try.f17 f17_results R a w2 B1 _ (.slice none 0 0) (.slice none 0 0) (.slice none 0 0) F W' HR9.out q1 q2 q3 q4 q5
    refine key _ _ _ ?h6n17 ?h8n17 ?hdn17 ?hWn17 ?hRn17
    case h6n17 => rfl
    case h8n17 => rfl
    case hdn17 => rfl
    case hWn17 => first | exact Or.inl rfl | exact Or.inr rfl
    have hg := grown_put3 (b := B1) (v0 := .slice none 0 0) (v1 := .slice none 0 0) (v2 := .slice none 0 0) (World.grownBy.refl w2 (some B1))
    exact HOn.out HEr.out HF0.out (below_grown (HXW.out _ (HBw.out _ HBx.out)) hg (by have := HSz.out; omega) (HXW.out _ (HBw.out _ HBx.out)).size)
end Go.Proofs.Ytholafodachjnaa
