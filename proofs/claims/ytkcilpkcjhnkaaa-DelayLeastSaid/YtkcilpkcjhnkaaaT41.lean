import Derived.Test.YtkcilpkcjhnkaaaT40
import Derived.Maps.OwnIn
import Derived.Maps.OwnSet
namespace Go.Proofs.Ytkcilpkcjhnkaaa
open Go.RowKit Go.Shelf Go.Maps
set_option linter.unusedVariables false
set_option linter.unusedSimpArgs false
attribute [local go_sem] Oper.semAt_some

theorem law3 : Keyed Try.prog 3 := int_keyed Try.underlying3
theorem zero3 (w : World) : (zeroValue 3).run Try.prog w = .ok (.int .i64 0) w := by kernel_rfl

theorem wfI {x : Int} (h : -9223372036854775808 ≤ x ∧ x ≤ 9223372036854775807) : (Lit.int .i64 x).wf = true := by
  simp only [Lit.wf, Bool.and_eq_true, decide_eq_true_eq]
  exact h

/-- A map tells what is asked of each node. -/
structure Agr (D : DataW Unit) (M : Need) : Prop where
  isMap : IsMap D
  has : ∀ k : Nat, k < M.length → has D (.int .i64 (k : Int)) = (M.getD k none).isSome
  at_ : ∀ (k : Nat) v, M.getD k none = some v → D.atKey (.int .i64 (k : Int)) (.lit (.int .i64 0)) = .lit (.int .i64 v)

theorem Agr.put {D : DataW Unit} {M : Need} (h : Agr D M) (k : Nat) (t : Int) (hk : k < M.length) : Agr (D.put (.int .i64 (k : Int)) (.lit (.int .i64 t))) (M.set k (some t)) := by
  have hkl : WideAt.IsKeyLit (.int .i64 (k : Int)) := by first | trivial | simp [WideAt.IsKeyLit] | decide
  refine ⟨h.isMap.put _ _, fun j hj => ?_, fun j v hv => ?_⟩
  · rw [List.length_set] at hj
    rw [getD_setO]
    by_cases e : j = k
    · subst e; rw [if_pos ⟨rfl, hj⟩, has_put_same h.isMap hkl]; rfl
    · rw [if_neg (fun x => e x.1), has_put_other (by intro x; injection x with _ x; exact e (by omega)), h.has j hj]
  · rw [getD_setO] at hv
    by_cases e : j = k
    · subst e; rw [if_pos ⟨rfl, hk⟩] at hv; cases hv
      exact atKey_put_same h.isMap hkl _ _
    · rw [if_neg (fun x => e x.1)] at hv
      rw [atKey_put_other (by intro x; injection x with _ x; exact e (by omega))]
      exact h.at_ j v hv

/-- A map of the call's own as it lies. -/
def MapIs (w : World) (mb cnt : Nat) (M : Need) : Prop := ∃ D : DataW Unit, w.ownsMap Try.prog 3 (plainElem Try.prog 3) mb cnt D ∧ Agr D M

theorem askM_none {M : Need} {k : Nat} (t : Int) (h : M.getD k none = none) : askM M (k : Int) t = M.set k (some t) := by unfold askM; rw [Int.toNat_natCast, h]
theorem askM_some {M : Need} {k : Nat} {was : Int} (t : Int) (h : M.getD k none = some was) : askM M (k : Int) t = if t < was then M.set k (some t) else M := by unfold askM; rw [Int.toNat_natCast, h]

set_option maxRecDepth 100000 in
set_option maxHeartbeats 2000000 in
/-- delay.Slack's ask. -/
theorem ask_in (F : Fence) (n : Nat) (hF : F.fn 38) (hro : F.round = none) (w : World) (pm mb cnt : Nat) (M : Need) (hm : MapIs w mb cnt M) (hc : w.cell? ⟨pm, 0, none⟩ = some (.map (some mb))) (k : Nat) (hk : k < M.length) (hk2 : k ≤ 100000) (t : Int) (ht : -9223372036854775808 ≤ t ∧ t ≤ 9223372036854775807) (hcnt : cnt ≤ 100000) :
    CallsIn F n Try.prog 38 #[.int .i64 (k : Int), .int .i64 t, .pointer (some ⟨pm, 0, none⟩)] w fun e w' => (∃ v, e = .returned v) ∧ MapIs w' mb (cnt + 1) (askM M k t) ∧ w.grownBy w' (some mb) := by
  obtain ⟨D, hown, hD⟩ := hm
  have hkey : keyOf Try.prog 3 (.int .i64 (k : Int)) = some (.int .i64 (k : Int)) := keyOf_int_mk Try.underlying3 (wfI (by omega))
  have hhas := hD.has k hk
  have hwt := wfI ht
  have HD := Lib.hid hD
  have hput := hD.put k t hk
  have HPut := Lib.hid hput
  obtain ⟨o, ho⟩ : ∃ o, M.getD k none = o := ⟨_, rfl⟩
  rw [ho] at hhas
  cases o with
  | none =>
    simp only [Option.isSome_none] at hhas
    have hask := askM_none t ho
    have HAsk := Lib.hid hask
    clear hask ho hD hput
    refine callsIn_of_wp Try.func38 rfl hF ?_ hro
    simp only [Try.ntmps38, List.size_toArray, List.length_cons, List.length_nil, Nat.reduceAdd, Nat.reduceSub, Array.replicate_succ, Array.replicate_zero, List.push_toArray, List.append_toArray, List.nil_append, List.cons_append]
    gi_wp2_with (first
        | (gi_at_lookup; refine wpListIn_lookup_own_ok_int _ rfl _ _ 60 rfl 3 3 .i64 law3 Try.underlying60 Try.underlying3 (zero3 _) mb cnt D rfl hown _ _ rfl hkey ?_; intro c hat hwc; rw [hhas])
        | (gi_at_mapUpdate; refine wpListIn_mapUpdate_own _ rfl _ _ _ 60 rfl 3 3 law3 Try.underlying60 _ mb cnt D rfl hown (by unfold maxLen; omega) _ _ _ rfl rfl hkey _ [] (plainElem_int Try.underlying3 hwt) ?_; intro w1 hown1 hgrow1))
    go_end0
    exact ⟨⟨_, rfl⟩, ⟨_, hown1, by rw [HAsk.out]; exact HPut.out⟩, hgrow1⟩
  | some was =>
    simp only [Option.isSome_some] at hhas
    have hask := askM_some t ho
    have hatv := hD.at_ k was ho
    have HAsk := Lib.hid hask
    have HAt := Lib.hid hatv
    clear hask ho hD hput hatv
    refine callsIn_of_wp Try.func38 rfl hF ?_ hro
    simp only [Try.ntmps38, List.size_toArray, List.length_cons, List.length_nil, Nat.reduceAdd, Nat.reduceSub, Array.replicate_succ, Array.replicate_zero, List.push_toArray, List.append_toArray, List.nil_append, List.cons_append]
    by_cases hlt : t < was
    · gi_wp2_with (first
        | (gi_at_lookup; refine wpListIn_lookup_own_ok_int _ rfl _ _ 60 rfl 3 3 .i64 law3 Try.underlying60 Try.underlying3 (zero3 _) mb cnt D rfl hown _ _ rfl hkey ?_; intro c hat hwc; (obtain rfl : c = was := by have := hat.symm.trans HAt.out; injection this with this; injection this); rw [hhas])
        | (gi_at_mapUpdate; refine wpListIn_mapUpdate_own _ rfl _ _ _ 60 rfl 3 3 law3 Try.underlying60 _ mb cnt D rfl hown (by unfold maxLen; omega) _ _ _ rfl rfl hkey _ [] (plainElem_int Try.underlying3 hwt) ?_; intro w1 hown1 hgrow1))
      go_end0
      exact ⟨⟨_, rfl⟩, ⟨_, hown1, by rw [HAsk.out, if_pos hlt]; exact HPut.out⟩, hgrow1⟩
    · gi_wp2_with (gi_at_lookup; refine wpListIn_lookup_own_ok_int _ rfl _ _ 60 rfl 3 3 .i64 law3 Try.underlying60 Try.underlying3 (zero3 _) mb cnt D rfl hown _ _ rfl hkey ?_; intro c hat hwc; (obtain rfl : c = was := by have := hat.symm.trans HAt.out; injection this with this; injection this); rw [hhas])
      go_end0
      exact ⟨⟨_, rfl⟩, ⟨_, hown.mono (by omega), by rw [HAsk.out, if_neg (by omega)]; exact HD.out⟩, World.grownBy.refl _ _⟩
end Go.Proofs.Ytkcilpkcjhnkaaa
