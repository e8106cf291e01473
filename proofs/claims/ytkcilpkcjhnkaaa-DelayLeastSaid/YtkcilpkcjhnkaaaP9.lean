import Derived.Test.YtkcilpkcjhnkaaaT45
namespace Go.Proofs.Ytkcilpkcjhnkaaa
open Go.RowKit
set_option linter.unusedVariables false

/-- M' asks no less than M. -/
def Asks (M M' : Need) : Prop := ∀ k v, M.getD k none = some v → ∃ v', v' ≤ v ∧ M'.getD k none = some v'
theorem Asks.refl (M : Need) : Asks M M := fun k v h => ⟨v, Int.le_refl _, h⟩
theorem Asks.trans {A B C : Need} (h : Asks A B) (g : Asks B C) : Asks A C := fun k v hv => by
  obtain ⟨v1, h1, h2⟩ := h k v hv
  obtain ⟨v2, h3, h4⟩ := g k v1 h2
  exact ⟨v2, by omega, h4⟩

theorem askM_asks (M : Need) (k t : Int) : Asks M (askM M k t) := by
  intro j v hv
  unfold askM
  split
  · rename_i h
    by_cases e : j = k.toNat
    · subst e; rw [h] at hv; cases hv
    · exact ⟨v, Int.le_refl _, by rw [getD_setO, if_neg (fun x => e x.1)]; exact hv⟩
  · rename_i was h
    split
    · rename_i hlt
      rw [getD_setO]
      by_cases e : j = k.toNat ∧ k.toNat < M.length
      · rw [if_pos e]
        obtain ⟨rfl, _⟩ := e
        rw [h] at hv; cases hv
        exact ⟨t, by omega, rfl⟩
      · rw [if_neg e]; exact ⟨v, Int.le_refl _, hv⟩
    · exact ⟨v, Int.le_refl _, hv⟩

theorem askM_at (M : Need) (k t : Int) (hk : k.toNat < M.length) : ∃ v, v ≤ t ∧ (askM M k t).getD k.toNat none = some v := by
  unfold askM
  split
  · rw [getD_setO, if_pos ⟨rfl, hk⟩]; exact ⟨t, Int.le_refl _, rfl⟩
  · rename_i was h
    split
    · rw [getD_setO, if_pos ⟨rfl, hk⟩]; exact ⟨t, Int.le_refl _, rfl⟩
    · exact ⟨was, by omega, h⟩

theorem askAll_asks (ks : List Int) (t : Int) : ∀ M : Need, Asks M (askAll M ks t) := by
  induction ks with
  | nil => intro M; exact Asks.refl M
  | cons k ks ih => intro M; exact (askM_asks M k t).trans (ih _)

theorem askAll_at (ks : List Int) (t : Int) : ∀ M : Need, ∀ k ∈ ks, k.toNat < M.length → ∃ v, v ≤ t ∧ (askAll M ks t).getD k.toNat none = some v := by
  induction ks with
  | nil => intro M k hk; cases hk
  | cons x ks ih =>
    intro M k hk hl
    rcases List.mem_cons.1 hk with rfl | hk
    · obtain ⟨v, h1, h2⟩ := askM_at M k t hl
      obtain ⟨v', h3, h4⟩ := askAll_asks ks t (askM M k t) _ _ h2
      exact ⟨v', by omega, h4⟩
    · exact ih _ k hk (by rw [askM_length]; exact hl)

theorem askIns_asks (ks : List Int) (node : Nat) (c : Int) : ∀ M : Need, Asks M (askIns M ks node c) := by
  induction ks with
  | nil => intro M; exact Asks.refl M
  | cons k ks ih => intro M; exact (askM_asks M k _).trans (ih _)

theorem askIns_at (ks : List Int) (node : Nat) (c nv : Int) : ∀ M : Need, M.getD node none = some nv → (∀ k ∈ ks, k.toNat ≠ node ∧ k.toNat < M.length) →
    (askIns M ks node c).getD node none = some nv ∧ ∀ k ∈ ks, ∃ v, v ≤ nv - c ∧ (askIns M ks node c).getD k.toNat none = some v := by
  induction ks with
  | nil => intro M h _; exact ⟨h, fun k hk => by cases hk⟩
  | cons x ks ih =>
    intro M h hk
    have hx := hk x (by simp)
    have hn : needOf M node = nv := by rw [needOf, h]; rfl
    have h' : (askM M x (needOf M node - c)).getD node none = some nv := by rw [askM_other _ _ _ _ (Ne.symm hx.1)]; exact h
    obtain ⟨i1, i2⟩ := ih (askM M x (needOf M node - c)) h' (fun k hk' => by rw [askM_length]; exact hk k (by simp [hk']))
    refine ⟨i1, fun k hk' => ?_⟩
    rcases List.mem_cons.1 hk' with rfl | hk'
    · obtain ⟨v, h1, h2⟩ := askM_at M k (needOf M node - c) hx.2
      obtain ⟨v', h3, h4⟩ := askIns_asks ks node c _ _ _ h2
      exact ⟨v', by omega, h4⟩
    · exact i2 k hk'

theorem openM_asks (M : Need) (node : Nat) (t : Int) : Asks M (openM M node t) := by
  unfold openM
  cases h : M.getD node none with
  | none =>
    rw [if_pos (by rfl)]
    intro k v hv
    refine ⟨v, Int.le_refl _, ?_⟩
    rw [getD_setO, if_neg]
    · exact hv
    · rintro ⟨rfl, _⟩; rw [h] at hv; cases hv
  | some v => rw [if_neg (by simp)]; exact Asks.refl M

theorem openM_other (M : Need) (node : Nat) (t : Int) (j : Nat) (h : j ≠ node) : (openM M node t).getD j none = M.getD j none := by
  unfold openM
  split
  · rw [getD_setO, if_neg (fun e => h e.1)]
  · rfl
theorem openM_at (M : Need) (node : Nat) (t : Int) (h : node < M.length) : (openM M node t).getD node none = some ((M.getD node none).getD t) := by
  unfold openM
  cases e : M.getD node none with
  | none => rw [if_pos (by rfl), getD_setO, if_pos ⟨rfl, h⟩]; rfl
  | some v => rw [if_neg (by simp), e]; rfl

theorem askIns_other (ks : List Int) (node : Nat) (c : Int) (j : Nat) : ∀ M : Need, (∀ k ∈ ks, k.toNat ≠ j) → (askIns M ks node c).getD j none = M.getD j none := by
  induction ks with
  | nil => intro M _; rfl
  | cons x ks ih =>
    intro M h
    rw [show askIns M (x :: ks) node c = askIns (askM M x (needOf M node - c)) ks node c from rfl, ih _ (fun k hk => h k (by simp [hk])), askM_other _ _ _ _ (Ne.symm (h x (by simp)))]

theorem tabM_length (N : NetV) (cost : List Int) (t : Int) (M : Need) (i : Nat) : (tabM N cost t M i).length = M.length := by rw [tabM, askIns_length, openM_length]
theorem tabM_asks (N : NetV) (cost : List Int) (t : Int) (M : Need) (i : Nat) : Asks M (tabM N cost t M i) := (openM_asks _ _ _).trans (askIns_asks _ _ _ _)

theorem tabM_other {N : NetV} (ok : NetOk N 6) (cost : List Int) (t : Int) (M : Need) (i : Nat) (hi : i < N.luts.length) (j : Nat) (hj : firstN N + i < j) : (tabM N cost t M i).getD j none = M.getD j none := by
  rw [tabM, askIns_other _ _ _ _ _ (fun k hk => by have := ok.range i hi k hk; omega), openM_other _ _ _ _ (by omega)]

theorem backM_asks (N : NetV) (cost : List Int) (t : Int) (M : Need) (j : Nat) : ∀ i, j ≤ i → Asks (backM N cost t M j) (backM N cost t M i) := by
  intro i hi
  induction i with
  | zero => obtain rfl : j = 0 := by omega
            exact Asks.refl _
  | succ i ih =>
    by_cases e : j = i + 1
    · subst e; exact Asks.refl _
    · exact (ih (by omega)).trans (tabM_asks _ _ _ _ _)

theorem backM_other {N : NetV} (ok : NetOk N 6) (cost : List Int) (t : Int) (M : Need) (j : Nat) (y : Nat) : ∀ i, j ≤ i → i ≤ N.luts.length → firstN N + N.luts.length - j ≤ y → (backM N cost t M i).getD y none = (backM N cost t M j).getD y none := by
  intro i hi hl hy
  induction i with
  | zero => obtain rfl : j = 0 := by omega
            rfl
  | succ i ih =>
    by_cases e : j = i + 1
    · subst e; rfl
    · rw [← ih (by omega) (by omega), backM]
      exact tabM_other ok cost t _ _ (by omega) y (by omega)

/-- What a table asks of its inputs. -/
theorem slack_tab {N : NetV} {cost : List Int} (ok : CostOk N cost) (till : Int) (i : Nat) (hi : i < N.luts.length) :
    ∃ nv, (slackM N cost till).getD (firstN N + i) none = some nv ∧ ∀ x ∈ (N.luts.getD i default).ins, ∃ v, v ≤ nv - cost.getD i 0 ∧ (slackM N cost till).getD x.toNat none = some v := by
  unfold slackM
  obtain ⟨M0, hM0⟩ : ∃ M, M = askAll (List.replicate (firstN N + N.luts.length) none) (endsOf N) till := ⟨_, rfl⟩
  have hl : M0.length = firstN N + N.luts.length := by rw [hM0, askAll_length, List.length_replicate]
  rw [← hM0]
  obtain ⟨j, hj⟩ : ∃ j, j = N.luts.length - 1 - i := ⟨_, rfl⟩
  have hij : N.luts.length - 1 - j = i := by omega
  have hB : backM N cost till M0 (j + 1) = tabM N cost till (backM N cost till M0 j) i := by rw [backM, hij]
  have hr := ok.net.range i hi
  have hlj := backM_length N cost till M0 j
  have ho := openM_at (backM N cost till M0 j) (firstN N + i) till (by omega)
  obtain ⟨nv, hnv⟩ : ∃ v, v = ((backM N cost till M0 j).getD (firstN N + i) none).getD till := ⟨_, rfl⟩
  rw [← hnv] at ho
  obtain ⟨h1, h2⟩ := askIns_at (N.luts.getD i default).ins (firstN N + i) (cost.getD i 0) nv _ ho (fun k hk => by
    have := hr k hk
    rw [openM_length]; omega)
  rw [← tabM, ← hB] at h1 h2
  refine ⟨nv, ?_, fun x hx => ?_⟩
  · rw [backM_other ok.net cost till M0 (j + 1) _ N.luts.length (by omega) (Nat.le_refl _) (by omega)]; exact h1
  · obtain ⟨v, h3, h4⟩ := h2 x hx
    obtain ⟨v', h5, h6⟩ := backM_asks N cost till M0 (j + 1) N.luts.length (by omega) _ _ h4
    exact ⟨v', by omega, h6⟩

theorem slack_end {N : NetV} {cost : List Int} (ok : CostOk N cost) (till : Int) : ∀ x ∈ endsOf N, ∃ v, v ≤ till ∧ (slackM N cost till).getD x.toNat none = some v := by
  intro x hx
  have hr := endsOf_range ok.net x hx
  obtain ⟨v, h1, h2⟩ := askAll_at (endsOf N) till (List.replicate (firstN N + N.luts.length) none) x hx (by rw [List.length_replicate]; omega)
  obtain ⟨v', h3, h4⟩ := backM_asks N cost till (askAll (List.replicate (firstN N + N.luts.length) none) (endsOf N) till) 0 N.luts.length (by omega) _ _ h2
  exact ⟨v', by omega, h4⟩

theorem Way.slack {N : NetV} {cost : List Int} (ok : CostOk N cost) (till D : Int) {fr l : List Int} (h : Way N (arrL N cost) fr l) :
    (∀ x ∈ fr, 0 ≤ x ∧ x < ((firstN N + N.luts.length : Nat) : Int)) → (∀ x ∈ fr, ∃ v, v - (arrL N cost).getD (latestV (arrL N cost) fr).toNat 0 ≤ D ∧ (slackM N cost till).getD x.toNat none = some v) →
    ∀ k ∈ l, ∃ v, v - (arrL N cost).getD k.toNat 0 ≤ D ∧ (slackM N cost till).getD k.toNat none = some v := by
  induction h with
  | stop => intro _ _ k hk; cases hk
  | @go fr l h r ih =>
    intro hfr hv k hk
    have hmem := latestV_mem (arrL N cost) fr h
    have hm := hfr _ hmem
    have hi := insOf_range ok.net _ hm.2
    have hs := node_sum ok _ hm.1 hm.2
    obtain ⟨v, hv1, hv2⟩ := hv _ hmem
    rcases List.mem_cons.1 hk with rfl | hk
    · exact ⟨v, hv1, hv2⟩
    · refine ih (fun x hx => by have := hi x hx; omega) (fun x hx => ?_) k hk
      have hne : insOf N (latestV (arrL N cost) fr) ≠ [] := fun e => by rw [e] at hx; cases hx
      rw [if_neg hne] at hs
      have hf : (firstN N : Int) ≤ latestV (arrL N cost) fr := by
        by_cases hf : (firstN N : Int) ≤ latestV (arrL N cost) fr
        · exact hf
        · exact absurd (by rw [insOf, if_neg hf]) hne
      have hins : insOf N (latestV (arrL N cost) fr) = (N.luts.getD ((latestV (arrL N cost) fr).toNat - firstN N) default).ins := by rw [insOf, if_pos hf]
      have hck : costK N cost (latestV (arrL N cost) fr) = cost.getD ((latestV (arrL N cost) fr).toNat - firstN N) 0 := by rw [costK, if_pos hf]
      obtain ⟨nv, h1, h2⟩ := slack_tab ok till ((latestV (arrL N cost) fr).toNat - firstN N) (by omega)
      rw [show firstN N + ((latestV (arrL N cost) fr).toNat - firstN N) = (latestV (arrL N cost) fr).toNat by omega, hv2] at h1
      cases h1
      rw [← hins] at h2
      obtain ⟨v2, h3, h4⟩ := h2 x hx
      exact ⟨v2, by omega, h4⟩

theorem slack_way {N : NetV} {cost : List Int} (ok : CostOk N cost) (till : Int) : ∀ k ∈ wayOf N cost, (slackL N cost (arrL N cost) till).getD k.toNat 0 ≤ till - headT (arrL N cost) (wayOf N cost) := by
  intro k hk
  obtain ⟨hw, hl, hr⟩ := wayOf_is (cost := cost) ok.net
  have hr' := hr k hk
  have key : ∃ v, v - (arrL N cost).getD k.toNat 0 ≤ till - headT (arrL N cost) (wayOf N cost) ∧ (slackM N cost till).getD k.toNat none = some v := by
    refine hw.slack ok till _ (endsOf_range ok.net) (fun x hx => ?_) k hk
    obtain ⟨v, h1, h2⟩ := slack_end ok till x hx
    refine ⟨v, ?_, h2⟩
    have : headT (arrL N cost) (wayOf N cost) = (arrL N cost).getD (latestV (arrL N cost) (endsOf N)).toNat 0 := by
      rcases hw.inv with ⟨e, _⟩ | ⟨l', e, _⟩
      · rw [e] at hk; cases hk
      · rw [e]; rfl
    omega
  obtain ⟨v, h1, h2⟩ := key
  rw [slackL_get _ _ _ _ _ (by omega), h2]
  exact h1

/-- What is asked of each node leaves it no less than a slack. -/
def Low (a : List Int) (lo : Int) (M : Need) : Prop := ∀ k v, M.getD k none = some v → lo + a.getD k 0 ≤ v

theorem Low.ask {a : List Int} {lo : Int} {M : Need} (h : Low a lo M) (k t : Int) (ht : lo + a.getD k.toNat 0 ≤ t) : Low a lo (askM M k t) := by
  intro j v hv
  by_cases e : j = k.toNat
  · subst e
    unfold askM at hv
    split at hv
    · rw [getD_setO] at hv
      split at hv
      · cases hv; exact ht
      · exact h _ _ hv
    · split at hv
      · rw [getD_setO] at hv
        split at hv
        · cases hv; exact ht
        · exact h _ _ hv
      · exact h _ _ hv
  · rw [askM_other _ _ _ _ e] at hv; exact h _ _ hv

theorem Low.all {a : List Int} {lo t : Int} (ht : ∀ k : Nat, lo + a.getD k 0 ≤ t) (ks : List Int) : ∀ {M : Need}, Low a lo M → Low a lo (askAll M ks t) := by
  induction ks with
  | nil => intro M h; exact h
  | cons k ks ih => intro M h; exact ih (h.ask k t (ht _))

theorem Low.open {a : List Int} {lo t : Int} (ht : ∀ k : Nat, lo + a.getD k 0 ≤ t) {M : Need} (h : Low a lo M) (node : Nat) : Low a lo (openM M node t) := by
  unfold openM; split
  · intro j v hv
    rw [getD_setO] at hv
    split at hv
    · cases hv; exact ht _
    · exact h _ _ hv
  · exact h

theorem Low.ins {a : List Int} {lo c nv : Int} {node : Nat} (ks : List Int) : ∀ {M : Need}, Low a lo M → M.getD node none = some nv → (∀ k ∈ ks, k.toNat ≠ node ∧ a.getD k.toNat 0 + c ≤ a.getD node 0) → Low a lo (askIns M ks node c) := by
  induction ks with
  | nil => intro M h _ _; exact h
  | cons x ks ih =>
    intro M h hn hk
    have hx := hk x (by simp)
    have h2 : needOf M node = nv := by rw [needOf, hn]; rfl
    have h3 := h _ _ hn
    refine ih (M := askM M x (needOf M node - c)) (h.ask x _ (by omega)) ?_ (fun k hk' => hk k (by simp [hk']))
    rw [askM_other _ _ _ _ (Ne.symm hx.1)]; exact hn

theorem Low.tab {N : NetV} {cost : List Int} (ok : CostOk N cost) {lo till : Int} (ht : ∀ k : Nat, lo + (arrL N cost).getD k 0 ≤ till) {M : Need} (hl : M.length = firstN N + N.luts.length) (h : Low (arrL N cost) lo M) (i : Nat) (hi : i < N.luts.length) : Low (arrL N cost) lo (tabM N cost till M i) := by
  have ho := openM_at M (firstN N + i) till (by omega)
  refine Low.ins _ (h.open ht _) ho (fun k hk => ?_)
  have hr := ok.net.range i hi k hk
  refine ⟨by omega, ?_⟩
  rw [arrL_tab N cost i hi]
  have hm := foldl_max_mem (fun k => (arrTo N cost i).getD k.toNat 0) (N.luts.getD i default).ins 0 k hk
  have hp : (arrTo N cost i).getD k.toNat 0 = (arrL N cost).getD k.toNat 0 := by rw [arrL, arrTo_prefix N cost i N.luts.length (by omega) _ hr.2]
  simp only [hp] at hm
  unfold mostOf
  omega

theorem Low.back {N : NetV} {cost : List Int} (ok : CostOk N cost) {lo till : Int} (ht : ∀ k : Nat, lo + (arrL N cost).getD k 0 ≤ till) {M : Need} (hl : M.length = firstN N + N.luts.length) (h : Low (arrL N cost) lo M) (j : Nat) (hj : j ≤ N.luts.length) : Low (arrL N cost) lo (backM N cost till M j) := by
  induction j with
  | zero => exact h
  | succ j ih => exact Low.tab ok ht (by rw [backM_length, hl]) (ih (by omega)) _ (by omega)

theorem lastOf_ge (a : List Int) (k : Nat) : a.getD k 0 ≤ lastOf a := by
  unfold lastOf
  by_cases h : k < a.length
  · exact foldl_max_mem (fun t => t) a 0 _ (getD_mem a 0 h)
  · have := foldl_max_ge (fun t => t) a 0
    rw [show a.getD k 0 = 0 by simp [List.getD, List.getElem?_eq_none (Nat.le_of_not_lt h)]]
    exact this

theorem slack_low {N : NetV} {cost : List Int} (ok : CostOk N cost) (till : Int) (k : Nat) (hk : k < firstN N + N.luts.length) : till - lastOf (arrL N cost) ≤ (slackL N cost (arrL N cost) till).getD k 0 := by
  rw [slackL_get _ _ _ _ _ hk]
  have hge := lastOf_ge (arrL N cost)
  have hL : Low (arrL N cost) (till - lastOf (arrL N cost)) (slackM N cost till) := by
    unfold slackM
    refine Low.back ok (fun k => by have := hge k; omega) (by rw [askAll_length, List.length_replicate]) ?_ _ (Nat.le_refl _)
    refine Low.all (fun k => by have := hge k; omega) _ ?_
    intro j v hv
    by_cases h : j < firstN N + N.luts.length
    · simp [List.getD, h] at hv
    · simp [List.getD, h] at hv
  cases h : (slackM N cost till).getD k none with
  | none => have := hge k; simp only [Option.getD_none]; omega
  | some v => have := hL k v h; simp only [Option.getD_some]; omega
end Go.Proofs.Ytkcilpkcjhnkaaa
