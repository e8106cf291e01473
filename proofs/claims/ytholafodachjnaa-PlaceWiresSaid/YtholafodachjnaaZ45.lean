/- Bare blocks cost nothing; with one less that goes out all costs no more. -/
import Derived.Test.YtholafodachjnaaZ38
namespace Go.Proofs.Ytholafodachjnaa
open Go.RowKit
set_option linter.unusedVariables false
set_option linter.unusedSimpArgs false

theorem rep_getD (n k : Nat) : (List.replicate n (default : BlkV)).getD k default = default := by
  rw [List.getD_eq_getElem?_getD, List.getElem?_replicate]
  split <;> rfl
/-- Blocks of nothing. -/
abbrev bareV (i : Int) (va : Option Addr) (vc n : Nat) : PackV := ⟨i, va, vc, List.replicate n default, none, 0, []⟩
theorem bare_n (i : Int) (va : Option Addr) (vc n : Nat) : (bareV i va vc n).data.n = n := by rw [data_n]; exact List.length_replicate
theorem bare_blk (i : Int) (va : Option Addr) (vc n k : Nat) : (bareV i va vc n).data.blk k = ⟨[], 0, false, false⟩ := by
  rw [data_blk]
  show ((List.replicate n (default : BlkV)).getD k default).data = _
  rw [rep_getD]
  rfl
theorem greedy_free {P : PackD} (h : ∀ b, P.now b = true ∧ deps P b = []) : ∀ j, j ≤ P.n → greedy P j = List.range j
  | 0, _ => rfl
  | j + 1, hj => by
    have ih := greedy_free h j (by omega)
    have hp : pick P (List.range j) = some j := pick_of (by omega) (by
        unfold readyN
        rw [(h j).1, (h j).2]
        simp) (fun k hk => by
        unfold readyN
        have : (List.range j).contains k = true := by simpa using hk
        rw [this]
        simp)
    show (match pick P (greedy P j) with | none => greedy P j | some b => greedy P j ++ [b]) = _
    rw [ih, hp, List.range_succ]
theorem bare_order {i : Int} {va : Option Addr} {vc n : Nat} (h0 : 0 ≤ i) (h1 : i ≤ 1024) (h2 : n ≤ 1024) : orderE (bareV i va vc n).data = 0 := by
  have hn := bare_n i va vc n
  have hm : mayB (bareV i va vc n).data = true := by
    unfold mayB
    rw [hn]
    simp only [Bool.and_eq_true, decide_eq_true_eq, List.all_eq_true]
    refine ⟨⟨⟨h0, h1⟩, h2⟩, fun b hb => ?_, fun x hx => (by cases hx)⟩
    obtain ⟨v, hv, rfl⟩ := List.mem_map.1 hb
    have hv' : v ∈ List.replicate n (default : BlkV) := hv
    obtain rfl := (List.mem_replicate.1 hv').2
    show blkB _ ⟨[], 0, false, false⟩ = true
    unfold blkB
    simp
  have hg : orderL (bareV i va vc n).data = List.range n := by
    unfold orderL
    rw [hn]
    refine greedy_free (fun b => ⟨?_, ?_⟩) n (by rw [hn]; exact Nat.le_refl _)
    · unfold PackD.now; rw [bare_blk]; rfl
    · unfold deps; rw [bare_blk]; rfl
  unfold orderE
  rw [if_pos hm, hg, hn]
  rw [if_neg]
  have : nowTo (bareV i va vc n).data n ≤ n := by
    unfold nowTo
    have := List.length_filter_le (bareV i va vc n).data.now (List.range n)
    rwa [List.length_range] at this
  rw [List.length_range]
  omega
/-- What is at a wire stands at one place. -/
theorem reach_one {E : List Ev} {w : Int} (hne : ∃ x y, (w, x, y) ∈ E) (h : ∀ e ∈ E, ∀ e' ∈ E, e.1 = e'.1 → e = e') : reachE E w = 0 := by
  obtain ⟨x, y, hxy⟩ := hne
  have hx : reachL (xsOf E w) = x - x := reachL_ends ⟨mem_xsOf.2 ⟨y, hxy⟩, mem_xsOf.2 ⟨y, hxy⟩, fun z hz => by
    obtain ⟨y', hz'⟩ := mem_xsOf.1 hz
    have := h _ hz' _ hxy rfl
    injection this with _ h2
    injection h2 with h2 _
    omega⟩
  have hy : reachL (ysOf E w) = y - y := reachL_ends ⟨mem_ysOf.2 ⟨x, hxy⟩, mem_ysOf.2 ⟨x, hxy⟩, fun z hz => by
    obtain ⟨x', hz'⟩ := mem_ysOf.1 hz
    have := h _ hz' _ hxy rfl
    injection this with _ h2
    injection h2 with _ h2
    omega⟩
  unfold reachE
  rw [hx, hy]
  omega
theorem bare_cost {a : ArchV} {P : PackV} {S T : SpotV} {va : Option Addr} {vc n : Nat} (hc : checkE a P S = 0) (hn : n = P.bs.length) (hT : T.data = ⟨S.bs, S.is, []⟩) :
    checkE a (bareV P.ins va vc n) T = 0 ∧ costV a (bareV P.ins va vc n) T = 0 := by
  subst hn
  obtain ⟨hb, hr⟩ := checkE_ok.1 hc
  obtain ⟨ha, ho⟩ := belowE_ok hb
  have hm : mayB P.data = true := by
    unfold orderE at ho
    split at ho
    · assumption
    · cases ho
  have hlim : 0 ≤ P.ins ∧ P.ins ≤ 1024 ∧ P.bs.length ≤ 1024 := by
    unfold mayB at hm
    rw [data_n] at hm
    simp only [Bool.and_eq_true, decide_eq_true_eq] at hm
    exact ⟨hm.1.1.1, hm.1.1.2, hm.1.2⟩
  have hbe : belowE a (bareV P.ins va vc P.bs.length) = 0 := by
    unfold belowE
    rw [if_pos ha]
    exact bare_order hlim.1 hlim.2.1 hlim.2.2
  have hlen : (bareV P.ins va vc P.bs.length).data.bs.length = P.bs.length := bare_n P.ins va vc P.bs.length
  have hR : RightAll a (bareV P.ins va vc P.bs.length).data T.data := by
    rw [hT]
    exact ⟨rightP_of hbe, ⟨hr.s.i, by rw [hlen]; have := hr.s.b; simpa using this, rfl, hr.s.br, hr.s.ir, fun x hx => by cases hx⟩, hr.b, by
      show (S.is ++ []).Nodup
      rw [List.append_nil]
      exact (List.nodup_append.1 hr.io).1⟩
  have hck : checkE a (bareV P.ins va vc P.bs.length) T = 0 := checkE_ok.2 ⟨hbe, hR⟩
  refine ⟨hck, ?_⟩
  unfold costV
  rw [if_pos hck]
  have hi : P.ins = (S.is.length : Nat) := hr.s.i
  have ht : T.data.os = [] ∧ T.data.is = S.is := by rw [hT]; exact ⟨rfl, rfl⟩
  unfold costL
  refine costTo_zero _ fun w hw => reach_one (own_ev hR.s w hw) fun e he e' he' hee => ?_
  rw [mem_evs] at he he'
  have hnb : ∀ k, ((bareV P.ins va vc P.bs.length).data.blk k).ins = [] := fun k => by rw [bare_blk]
  have hpi : (bareV P.ins va vc P.bs.length).data.ins = (S.is.length : Nat) := hi
  rcases he with ⟨k, hk, rfl⟩ | ⟨k, hk, rfl⟩ | ⟨k, hk, v, hv, rfl⟩ | ⟨k, hk, rfl⟩
  · rcases he' with ⟨j, hj, rfl⟩ | ⟨j, hj, rfl⟩ | ⟨j, hj, v, hv, rfl⟩ | ⟨j, hj, rfl⟩
    · have : (k : Int) = (j : Int) := hee
      obtain rfl : k = j := by omega
      rfl
    · have : (k : Int) = (bareV P.ins va vc P.bs.length).data.ins + (j : Nat) := hee
      rw [hpi] at this
      rw [ht.2] at hk
      omega
    · rw [hnb] at hv; cases hv
    · cases hj
  · rcases he' with ⟨j, hj, rfl⟩ | ⟨j, hj, rfl⟩ | ⟨j, hj, v, hv, rfl⟩ | ⟨j, hj, rfl⟩
    · have : (bareV P.ins va vc P.bs.length).data.ins + (k : Nat) = (j : Int) := hee
      rw [hpi] at this
      rw [ht.2] at hj
      omega
    · have : (bareV P.ins va vc P.bs.length).data.ins + (k : Nat) = (bareV P.ins va vc P.bs.length).data.ins + (j : Nat) := hee
      obtain rfl : k = j := by omega
      rfl
    · rw [hnb] at hv; cases hv
    · cases hj
  · rw [hnb] at hv; cases hv
  · cases hk
/-- One less that goes out. -/
abbrev lessV (P : PackV) : PackV := ⟨P.ins, P.ba, P.bc, P.bs, P.oa, P.oc, P.os.take (P.os.length - 1)⟩
theorem greedy_outs (i : Int) (bs : List BlkD) (o o' : List Int) : ∀ j, greedy ⟨i, bs, o⟩ j = greedy ⟨i, bs, o'⟩ j
  | 0 => rfl
  | j + 1 => by
    have ih := greedy_outs i bs o o' j
    show (match pick ⟨i, bs, o⟩ (greedy ⟨i, bs, o⟩ j) with | none => greedy ⟨i, bs, o⟩ j | some b => greedy ⟨i, bs, o⟩ j ++ [b]) = (match pick ⟨i, bs, o'⟩ (greedy ⟨i, bs, o'⟩ j) with | none => greedy ⟨i, bs, o'⟩ j | some b => greedy ⟨i, bs, o'⟩ j ++ [b])
    rw [ih]
    rfl
theorem less_order {P : PackV} (h : orderE P.data = 0) : orderE (lessV P).data = 0 := by
  unfold orderE at h
  split at h
  · rename_i hm
    have hm2 : mayB (lessV P).data = true := by
      unfold mayB at hm ⊢
      simp only [Bool.and_eq_true, decide_eq_true_eq, List.all_eq_true] at hm ⊢
      exact ⟨hm.1, hm.2.1, fun x hx => hm.2.2 x (List.mem_of_mem_take hx)⟩
    unfold orderE
    rw [if_pos hm2]
    have hg : orderL (lessV P).data = orderL P.data := greedy_outs _ _ _ _ _
    rw [hg]
    exact h
  · cases h
theorem take_getD (l : List Int) (m k : Nat) (h : k < m) : (l.take m).getD k 0 = l.getD k 0 := by simp [List.getD, List.getElem?_take, h]
theorem less_cost {a : ArchV} {P : PackV} {S U : SpotV} (hc : checkE a P S = 0) (hU : U.data = ⟨S.bs, S.is, S.os.take (S.os.length - 1)⟩) : checkE a (lessV P) U = 0 ∧ costV a (lessV P) U ≤ costV a P S := by
  obtain ⟨hb, hr⟩ := checkE_ok.1 hc
  obtain ⟨ha, ho⟩ := belowE_ok hb
  have hbe : belowE a (lessV P) = 0 := by
    unfold belowE
    rw [if_pos ha]
    exact less_order ho
  have hol : S.os.length = P.os.length := hr.s.o
  have hR : RightAll a (lessV P).data U.data := by
    rw [hU]
    refine ⟨rightP_of hbe, ⟨hr.s.i, hr.s.b, ?_, hr.s.br, hr.s.ir, fun x hx => hr.s.or x (List.mem_of_mem_take hx)⟩, hr.b, ?_⟩
    · show (S.os.take (S.os.length - 1)).length = (P.os.take (P.os.length - 1)).length
      rw [List.length_take, List.length_take, hol]
    · refine List.Nodup.sublist ?_ hr.io
      exact List.Sublist.append (List.Sublist.refl _) (List.take_sublist _ _)
  have hck : checkE a (lessV P) U = 0 := checkE_ok.2 ⟨hbe, hR⟩
  refine ⟨hck, ?_⟩
  unfold costV
  rw [if_pos hck, if_pos hc]
  have hsub : ∀ e, e ∈ evs a (lessV P).data U.data → e ∈ evs a P.data S.data := fun e he => by
    rw [hU] at he
    rw [mem_evs] at he ⊢
    rcases he with h | h | h | ⟨k, hk, rfl⟩
    · exact .inl h
    · exact .inr (.inl h)
    · exact .inr (.inr (.inl h))
    · have hk2 : k < (P.os.take (P.os.length - 1)).length := hk
      rw [List.length_take] at hk2
      refine .inr (.inr (.inr ⟨k, ?_, ?_⟩))
      · show k < P.os.length
        omega
      · show padEv a ((P.os.take (P.os.length - 1)).getD k 0) ((S.os.take (S.os.length - 1)).getD k 0) = padEv a (P.os.getD k 0) (S.os.getD k 0)
        rw [take_getD _ _ _ (by omega), take_getD _ _ _ (by omega)]
  have hn : U.data.is.length + (lessV P).data.bs.length = S.data.is.length + P.data.bs.length := by rw [hU]
  unfold costL
  rw [hn]
  refine costTo_le _ fun w hw => ?_
  obtain ⟨x, y, hxy⟩ := own_ev hR.s w (by rw [hn]; exact hw)
  unfold reachE
  have h1 := reachL_sub (l := xsOf (evs a (lessV P).data U.data) w) (l' := xsOf (evs a P.data S.data) w) (fun e => by have := mem_xsOf.2 ⟨y, hxy⟩; rw [e] at this; cases this) (fun z hz => by
    obtain ⟨y', h⟩ := mem_xsOf.1 hz
    exact mem_xsOf.2 ⟨y', hsub _ h⟩)
  have h2 := reachL_sub (l := ysOf (evs a (lessV P).data U.data) w) (l' := ysOf (evs a P.data S.data) w) (fun e => by have := mem_ysOf.2 ⟨x, hxy⟩; rw [e] at this; cases this) (fun z hz => by
    obtain ⟨x', h⟩ := mem_ysOf.1 hz
    exact mem_ysOf.2 ⟨x', hsub _ h⟩)
  omega
end Go.Proofs.Ytholafodachjnaa
