import Derived.Test.YtibimdhmfchcoaaA10
namespace Go.Proofs.Ytibimdhmfchcoaa
open Go.RowKit Go.Shelf Go.Maps
set_option linter.unusedVariables false
set_option linter.unusedSimpArgs false
theorem u64_small (x : Nat) (h : x < 18446744073709551616) : IntKind.u64.wrap (x : Int) = x := by
  simp [IntKind.wrap, IntKind.bits, IntKind.signed]; omega
theorem results64 {tmps : Array Value} {w : World} {a b : Value} (h4 : tmps[4]?.getD undef = a) (h5 : tmps[5]?.getD undef = b) : (results Try.f64 tmps).run Try.prog w = .ok (.tuple #[a, b]) w := by
  simp [results, go_sem, h4, h5]
theorem wp_append_at {P : Program} {w : World} {o : Oper} {a : Act} {K : Act → World → Prop} {Q : Exit → Act → World → Prop} (s x : Operand) (t : TypeId)
    (ho : o.op = .call { callee := .builtin .append, args := #[s, x], argTypes := #[t, t] })
    (base : Nat) (e : TypeId) (i : TypeInfo) (z : Value) (size bytes : Nat) (ht : P.underlying t = some (.slice e)) (hi : P.info? e = some i) (hz : i.zero = some z)
    (hsize : i.size = size) (hby : i.bytes = bytes) (hzs : z.cells.size = size) (hsz : 0 < size)
    (v : Value) (n : Nat) (xs : List Value) (hs : a.eval s = v) (hown : w.ownsRow base e size v n xs)
    (ad : Addr) (m c : Nat) (news : List Value) (hx : a.eval x = .slice (some ad) m c) (hl : news.length = m * size) (hnews : ∀ j u, news[j]? = some u → w.cell? (ad.add j) = some u) (h1 : ∀ u ∈ news, u.oneCell' = true)
    (h63 : n + m ≤ maxLen) (hbytes : (n + m) * bytes ≤ 140737488355328) (hbase : base ≤ w.heap.size)
    (h : ∀ v' w', w'.ownsRow base e size v' (n + m) (xs ++ news) → w.grownBy w' v.ownBlock → K (a.put o.dst v') w') : o.wp P a w K Q := by
  obtain ⟨v', w', hr, h2, h3, _, _⟩ := run_append_own_at (P := P) w base t o.type e i z size bytes ht hi hz hsize hby hzs hsz v n xs hown ad m c news hl hnews h1 h63 hbytes hbase
  unfold Oper.wp execOp
  simp only [ho, resolve, invoke, builtin, Sem.run_bind, Sem.run_pure, Result.andThen_ok, List.map_toArray, List.map_cons, List.map_nil, hs, hx, hr]
  exact h v' w' h2 h3
/-- A table without its input k, of i rows of the old one. -/
def dropTo (T k : Nat) : Nat → Nat × Nat
  | 0 => (0, 0)
  | i + 1 => if i / 2 ^ k % 2 = 0 then ((dropTo T k i).1 + (T / 2 ^ i % 2) * 2 ^ (dropTo T k i).2, (dropTo T k i).2 + 1) else dropTo T k i
theorem dropTo_lt (T k i : Nat) : (dropTo T k i).1 < 2 ^ (dropTo T k i).2 ∧ (dropTo T k i).2 ≤ i := by
  induction i with
  | zero => simp [dropTo]
  | succ i ih =>
    unfold dropTo
    split
    · dsimp only
      rw [Nat.pow_succ]
      rcases Nat.mod_two_eq_zero_or_one (T / 2 ^ i) with h | h <;> rw [h] <;> omega
    · omega
def zeroAt (ins : List Int) : Nat := ins.findIdx (fun x => x == 0)
def without : Nat → List Int → Nat → List Int × Nat
  | 0, ins, T => (ins, T)
  | m + 1, ins, T => if zeroAt ins < ins.length then without m (ins.eraseIdx (zeroAt ins)) (dropTo T (zeroAt ins) (2 ^ ins.length)).1 else (ins, T)
theorem zeroAt_at (ins : List Int) (k : Nat) (hk : k < ins.length) (h0 : ins.getD k 0 = 0) (hno : ∀ j, j < k → ins.getD j 0 ≠ 0) : zeroAt ins = k := by
  unfold zeroAt
  have hk' : ins.getD k 0 = ins[k] := by simp [List.getD, List.getElem?_eq_getElem hk]
  rw [List.findIdx_eq hk]
  refine ⟨by rw [← hk', h0]; rfl, fun j hj => ?_⟩
  have := hno j hj
  simpa [List.getD, List.getElem?_eq_getElem (Nat.lt_trans hj hk)] using this
theorem zeroAt_none (ins : List Int) (hno : ∀ j, j < ins.length → ins.getD j 0 ≠ 0) : ¬ zeroAt ins < ins.length := by
  intro h
  unfold zeroAt at h
  have h2 := List.findIdx_getElem (w := h)
  have h3 := hno _ h
  rw [List.getD_eq_getElem?_getD, List.getElem?_eq_getElem h] at h3
  simp only [beq_iff_eq] at h2
  exact h3 h2
theorem without_none (m : Nat) (ins : List Int) (T : Nat) (h : ¬ zeroAt ins < ins.length) : without m ins T = (ins, T) := by
  cases m with
  | zero => rfl
  | succ m => unfold without; rw [if_neg h]


theorem without_len0 (m : Nat) (ins : List Int) (T : Nat) (h : ins.length = 0) : (without m ins T).1.length = 0 := by
  rw [without_none m ins T (by omega)]; exact h
theorem ints_one (l : List Int) : ∀ u ∈ l.map (Value.int .i64), u.oneCell' = true := by
  intro u hu
  obtain ⟨x, _, rfl⟩ := List.mem_map.1 hu
  rfl
theorem seq_news {w : World} {b off n : Nat} {l : List Int} (S : Seq w (some ⟨b, off, none⟩) n (ints l)) (hn : l.length = n) (i m : Nat) (h : i + m ≤ n) : ∀ j u, (((l.drop i).take m).map (Value.int .i64))[j]? = some u → w.cell? (Addr.add ⟨b, off + i, none⟩ j) = some u := by
  intro j u hj
  rw [Addr.add_lit]
  have hj2 : j < m := by
    rcases Nat.lt_or_ge j m with h' | h'
    · exact h'
    · rw [List.getElem?_eq_none (by simp; omega)] at hj; cases hj
  rcases S with S | ⟨b', off', he, hc⟩
  · omega
  · injection he with he; injection he with he1 he2
    subst he1; subst he2
    have := hc (i + j) (by omega)
    rw [← Nat.add_assoc] at this
    rw [this]
    simp only [List.getElem?_map, List.getElem?_take, List.getElem?_drop, if_pos hj2] at hj
    rw [List.getElem?_eq_getElem (by omega)] at hj
    simp only [Option.map_some] at hj
    rw [← hj]
    simp [ints, List.getD, List.getElem?_eq_getElem (show i + j < l.length by omega)]
set_option maxRecDepth 100000 in
set_option maxHeartbeats 8000000 in
theorem without64 (m : Nat) : ∀ (w : World) (a : Option Addr) (c : Nat) (ins : List Int) (T : Int), ins.length ≤ m → ins.length ≤ 4 → ins.length ≤ c → (∀ x ∈ ins, I64 x) → U64 T → Seq w a ins.length (ints ins) →
    Calls Try.prog 64 #[.slice a ins.length c, .int .u64 T] w (fun e w' => ∃ a' c', e = .returned (.tuple #[.slice a' (without m ins T.toNat).1.length c', .int .u64 ((without m ins T.toNat).2 : Nat)]) ∧ Seq w' a' (without m ins T.toNat).1.length (ints (without m ins T.toNat).1) ∧ ((without m ins T.toNat).1.length = 0 ∨ a' = a ∨ ∃ g off, a' = some ⟨g, off, none⟩ ∧ w.heap.size ≤ g) ∧ Below w.heap.size w w') := by
  induction m using Nat.strongRecOn with
  | ind m ih =>
    intro w a c ins T hm h4 hc hI hU S
    obtain ⟨t0, t1⟩ := hU
    have hT : T = (T.toNat : Int) := by omega
    obtain ⟨TN, hTN⟩ : ∃ t, t = T.toNat := ⟨_, rfl⟩
    rw [← hTN] at hT ⊢
    subst hT
    clear hTN
    obtain ⟨i3, hi, hz0, hz1, hz2⟩ := info_parts info3
    obtain ⟨n, hn⟩ : ∃ n, n = ins.length := ⟨_, rfl⟩
    have HN := Lib.hid hn
    have HS := Lib.hid S
    have HI := Lib.hid hI
    have IH := Lib.hid ih
    rw [← hn] at HS h4 hc hm ⊢
    clear hn S hI ih
    go_enter Try.func64, Try.ntmps64
    go_wp2
    go_loop [6, 7, 13] (fun _ _ iv => ∃ k : Nat, k ≤ n ∧ iv = .int .i64 k ∧ Hid (∀ j, j < k → ins.getD j 0 ≠ 0)) (fun _ _ iv => n - (intOf iv).toNat)
    case atStart => exact ⟨0, by omega, rfl, Lib.hid (fun j hj => by omega)⟩
    case round =>
      obtain ⟨k, hk, rfl, hh⟩ := hrel
      by_cases hlt : k < n
      · obtain ⟨b3, off3, hLa, hb3, hc3⟩ := HS.out.at k hlt
        have x0 := hc3 k hlt
        unfold ints at x0
        obtain ⟨x, hx⟩ : ∃ x, x = ins.getD k 0 := ⟨_, rfl⟩
        rw [← hx] at x0
        have HX := Lib.hid hx
        clear hx hc3
        subst hLa
        by_cases hx0 : x = 0
        · subst hx0
          have hz : Hid (zeroAt ins = k) := Lib.hid (zeroAt_at ins k (by rw [← HN.out]; exact hlt) HX.out.symm hh.out)
          have hsh := shl1 n (by omega)
          rw [Int.one_mul] at hsh
          obtain ⟨M, hMM⟩ : ∃ M, M = 2 ^ n := ⟨_, rfl⟩
          rw [← hMM] at hsh
          have HMM := Lib.hid hMM
          clear hMM
          go_wp2
          try rw [hsh]
          clear hsh
          have hU64 : TN < 18446744073709551616 := by omega
          go_loop [8, 9, 23] (fun tv av iv => ∃ i : Nat, i ≤ M ∧ iv = .int .i64 i ∧ tv = .int .u64 ((dropTo TN k i).1 : Nat) ∧ av = .int .i64 ((dropTo TN k i).2 : Nat)) (fun _ _ iv => M - (intOf iv).toNat)
          case atStart => exact ⟨0, by omega, rfl, rfl, rfl⟩
          case round =>
            obtain ⟨i, hiM, rfl, rfl, rfl⟩ := hrel
            by_cases hli : i < M
            · have hM16 : i < 16 := by
                have h24 : (2 : Nat) ^ n ≤ 2 ^ 4 := Nat.pow_le_pow_right (by omega) h4
                have := HMM.out
                omega
              have hdl := dropTo_lt TN k i
              have hst : dropTo TN k (i + 1) = if i / 2 ^ k % 2 = 0 then ((dropTo TN k i).1 + (TN / 2 ^ i % 2) * 2 ^ (dropTo TN k i).2, (dropTo TN k i).2 + 1) else dropTo TN k i := rfl
              obtain ⟨⟨tv, av⟩, hD⟩ : ∃ d, d = dropTo TN k i := ⟨_, rfl⟩
              rw [← hD] at hst hdl ⊢
              dsimp only at hst hdl ⊢
              have hbi := bit_i64 i k (by omega)
              have hbu := bit_u64 TN i hU64
              clear hD
              by_cases hb : i / 2 ^ k % 2 = 0
              · rw [if_pos hb] at hst
                have hbz : ((i : Int) / 2 ^ k % 2 == 0) = true := by rw [show (i : Int) / 2 ^ k % 2 = ((i / 2 ^ k % 2 : Nat) : Int) by push_cast; rfl, hb]; rfl
                have Hst := Lib.hid hst
                clear hst
                go_wp2
                go_round
                case rel =>
                  refine ⟨i + 1, by omega, by go_num, ?_, by rw [Hst.out]; rfl⟩
                  have h2 : (2 : Nat) ^ av ≤ 2 ^ 15 := Nat.pow_le_pow_right (by omega) (by omega)
                  have h3 : TN / 2 ^ i % 2 * 2 ^ av ≤ 1 * 2 ^ av := Nat.mul_le_mul (by omega) (Nat.le_refl _)
                  have e1 : (TN : Int) / 2 ^ i % 2 * 2 ^ av = ((TN / 2 ^ i % 2 * 2 ^ av : Nat) : Int) := by push_cast; rfl
                  rw [Hst.out, e1, u64_small _ (by omega), ← Int.natCast_add, u64_small _ (by omega)]
                case measure => simp [intOf]; omega
              · rw [if_neg hb] at hst
                have hbz : ((i : Int) / 2 ^ k % 2 == 0) = false := by rw [show (i : Int) / 2 ^ k % 2 = ((i / 2 ^ k % 2 : Nat) : Int) by push_cast; rfl, show i / 2 ^ k % 2 = 1 by omega]; rfl
                have Hst := Lib.hid hst
                clear hst
                go_wp2
                go_round
                case rel => exact ⟨i + 1, by omega, by go_num, by rw [Hst.out], by rw [Hst.out]⟩
                case measure => simp [intOf]; omega
            · obtain rfl : i = M := by omega
              obtain ⟨o2, ho2⟩ : ∃ o2, (if c = (((k + 1 : Nat) : Int)).toNat then some (⟨b3, off3, none⟩ : Addr) else some ⟨b3, off3 + (((k + 1 : Nat) : Int)).toNat, none⟩) = some ⟨b3, o2, none⟩ ∧ (n - (k + 1) = 0 ∨ o2 = off3 + (k + 1)) := by
                by_cases hck : c = k + 1
                · exact ⟨off3, by rw [if_pos (by simpa using hck)], .inl (by omega)⟩
                · exact ⟨off3 + (k + 1), by rw [if_neg (by simpa using hck)]; rfl, .inr rfl⟩
              have HAd := Lib.hid ho2.1
              have HWk : Hid (IntKind.i64.wrap ((k : Int) + 1) = ((k + 1 : Nat) : Int)) := Lib.hid (by rw [← Int.natCast_succ]; exact Lib.wrap_i64_small (k + 1) (by omega))
              have HCo : Hid (0 ≤ ((k + 1 : Nat) : Int) ∧ ((k + 1 : Nat) : Int) ≤ (n : Int)) := Lib.hid (by omega)
              have HEr : Hid (ins.take k ++ (ins.drop (k + 1)).take (n - (k + 1)) = ins.eraseIdx k) := Lib.hid (by rw [List.eraseIdx_eq_take_drop_succ, List.take_of_length_le (l := ins.drop (k + 1)) (by rw [List.length_drop, ← HN.out]; exact Nat.le_refl _)])
              have HEl : Hid ((ins.eraseIdx k).length = n - 1) := Lib.hid (by rw [List.length_eraseIdx, ← HN.out, if_pos hlt])
              have HWo : Hid (without m ins TN = without (m - 1) (ins.eraseIdx k) (dropTo TN k i).1) := Lib.hid (by
                obtain ⟨m', rfl⟩ : ∃ m', m = m' + 1 := ⟨m - 1, by omega⟩
                rw [without, if_pos (by rw [hz.out, ← HN.out]; exact hlt), hz.out, ← HN.out, ← HMM.out]; rfl)
              have HTb : Hid (U64 ((dropTo TN k i).1 : Nat)) := Lib.hid (by
                have h := dropTo_lt TN k i
                have h16 : (2 : Nat) ^ n ≤ 2 ^ 4 := Nat.pow_le_pow_right (by omega) h4
                have h2 : (2 : Nat) ^ (dropTo TN k i).2 ≤ 2 ^ 16 := Nat.pow_le_pow_right (by omega) (by have := HMM.out; omega)
                exact ⟨by omega, by omega⟩)
              have HNw : Hid (∀ W, Below w.heap.size w W → ∀ j u, (((ins.drop (k + 1)).take (n - (k + 1))).map (Value.int .i64))[j]? = some u → W.cell? (Addr.add ⟨b3, o2, none⟩ j) = some u) := Lib.hid (by
                intro W hW j u hj
                rcases ho2.2 with h0 | rfl
                · rw [h0, List.take_zero] at hj; simp at hj
                · exact seq_news (HS.out.below hW (Nat.le_refl _)) HN.out.symm (k + 1) (n - (k + 1)) (by omega) j u hj)
              clear ho2
              go_wp2_with fail
              refine wp_region_K (S := fun _ => True) 14 (by kernel_rfl) (trivial) (fun hHeld => ?_)
              refine wpAnyK_take (i := 0) (v := ?_) (by simp only [List.getElem?_toArray, List.getElem?_cons_succ, List.getElem?_cons_zero]; rfl) (by kernel_rfl) (by kernel_rfl) (by kernel_rfl) (by kernel_rfl) (by intro _ _ _ h; exact h) (Or.inl ⟨by rfl, ?_⟩) (by assumption) ?_
              rotate_left
              · intro w hSw; (try dsimp only at hSw); go_simp; try with_reducible rfl
              try simp only [Act.put, List.setIfInBounds_toArray, List.set_cons_zero, List.set_cons_succ]
              refine wpAnyK_take (i := 1) (v := ?_) (by simp only [List.getElem?_toArray, List.getElem?_cons_succ, List.getElem?_cons_zero]; rfl) (by kernel_rfl) (by kernel_rfl) (by kernel_rfl) (by kernel_rfl) (by intro _ _ _ h; exact h) (Or.inl ⟨by rfl, ?_⟩) (by assumption) ?_
              rotate_left
              · intro w hSw; (try dsimp only at hSw); go_simp; try with_reducible rfl
              try simp only [Act.put, List.setIfInBounds_toArray, List.set_cons_zero, List.set_cons_succ]
              refine wpAnyK_take (i := 2) (v := ?_) (by simp only [List.getElem?_toArray, List.getElem?_cons_succ, List.getElem?_cons_zero]; rfl) (by kernel_rfl) (by kernel_rfl) (by kernel_rfl) (by kernel_rfl) (by intro _ _ _ h; exact h) (Or.inl ⟨by rfl, ?_⟩) (by assumption) ?_
              rotate_left
              · intro w hSw; (try dsimp only at hSw); go_simp; first | with_reducible rfl | rw [if_pos (by omega)]
              try simp only [Act.put, List.setIfInBounds_toArray, List.set_cons_zero, List.set_cons_succ]
              refine wpAnyK_take (i := 4) (v := ?_) (by simp only [List.getElem?_toArray, List.getElem?_cons_succ, List.getElem?_cons_zero]; rfl) (by kernel_rfl) (by kernel_rfl) (by kernel_rfl) (by kernel_rfl) (by intro _ _ _ h; exact h) (Or.inl ⟨by rfl, ?_⟩) (by assumption) ?_
              rotate_left
              · intro w hSw; (try dsimp only at hSw); go_simp; try with_reducible rfl
              try simp only [Act.put, List.setIfInBounds_toArray, List.set_cons_zero, List.set_cons_succ]
              refine wpAnyK_take (i := 5) (v := ?_) (by simp only [List.getElem?_toArray, List.getElem?_cons_succ, List.getElem?_cons_zero]; rfl) (by kernel_rfl) (by kernel_rfl) (by kernel_rfl) (by kernel_rfl) (by intro _ _ _ h; exact h) (Or.inl ⟨by rfl, ?_⟩) (by assumption) ?_
              rotate_left
              · intro w hSw; (try dsimp only at hSw); go_simp; try with_reducible rfl
              try simp only [Act.put, List.setIfInBounds_toArray, List.set_cons_zero, List.set_cons_succ]
              refine wpAnyK_take (i := 6) (v := ?_) (by simp only [List.getElem?_toArray, List.getElem?_cons_succ, List.getElem?_cons_zero]; rfl) (by kernel_rfl) (by kernel_rfl) (by kernel_rfl) (by kernel_rfl) (by intro _ _ _ h; exact h) (Or.inl ⟨by rfl, ?_⟩) (by assumption) ?_
              rotate_left
              · intro w hSw; (try dsimp only at hSw); go_simp; try with_reducible rfl
              try simp only [Act.put, List.setIfInBounds_toArray, List.set_cons_zero, List.set_cons_succ]
              refine wpAnyK_take (i := 7) (v := ?_) (by simp only [List.getElem?_toArray, List.getElem?_cons_succ, List.getElem?_cons_zero]; rfl) (by kernel_rfl) (by kernel_rfl) (by kernel_rfl) (by kernel_rfl) (by intro _ _ _ h; exact h) (Or.inl ⟨by rfl, ?_⟩) (by assumption) ?_
              rotate_left
              · intro w hSw; (try dsimp only at hSw); go_simp; rw [HWk.out, if_pos HCo.out, HAd.out]
              try simp only [Act.put, List.setIfInBounds_toArray, List.set_cons_zero, List.set_cons_succ]
              refine wpAnyK_take (i := 9) (v := ?_) (by simp only [List.getElem?_toArray, List.getElem?_cons_succ, List.getElem?_cons_zero]; rfl) (by kernel_rfl) (by kernel_rfl) (by kernel_rfl) (by kernel_rfl) (by intro _ _ _ h; exact h) (Or.inl ⟨by rfl, ?_⟩) (by assumption) ?_
              rotate_left
              · intro w hSw; (try dsimp only at hSw); go_simp; try with_reducible rfl
              try simp only [Act.put, List.setIfInBounds_toArray, List.set_cons_zero, List.set_cons_succ]
              refine wpAnyK_ready (rs := [3]) (by kernel_rfl) (by simp) ?_
              refine AllReadyK.cons (o := _) (by simp only [List.getElem?_toArray, List.getElem?_cons_succ, List.getElem?_cons_zero]; rfl) (fun K hK => ?_) AllReadyK.nil
              rw [if_pos (by rfl)]
              refine wp_append_at (.const (.slice none 0 0)) (.tmp 44) 24 rfl w.heap.size 3 i3 (.int .i64 0) 1 8 Try.underlying24 hi hz0 hz1 hz2 rfl (by decide) (.slice none 0 0) 0 [] rfl (World.ownsRow_nil _ _ _ _) ⟨b3, off3, none⟩ k c ((ins.take k).map (Value.int .i64)) rfl (by rw [List.length_map, List.length_take, ← HN.out]; omega) (seq_news HS.out HN.out.symm 0 k (by omega)) (ints_one _) (by unfold maxLen; omega) (by omega) (Nat.le_refl _) ?_
              intro v1 w3 ho1 hg1
              have hb3' : Below w.heap.size w w3 := (Below.refl _ _).drew.grown hg1 (Nat.le_refl _) (fun k e => by cases e)
              rw [Nat.zero_add, List.nil_append] at ho1
              refine hK.out _ _ (fun _ => by exact trivial) (fun hH => ?_)
              have hHeld := hH (by decide)
              clear hK K hH
              try simp only [Act.put, List.setIfInBounds_toArray, List.set_cons_zero, List.set_cons_succ]
              refine wpAnyK_ready (rs := [8]) (by kernel_rfl) (by simp) ?_
              refine AllReadyK.cons (o := _) (by simp only [List.getElem?_toArray, List.getElem?_cons_succ, List.getElem?_cons_zero]; rfl) (fun K hK => ?_) AllReadyK.nil
              rw [if_pos (by rfl)]
              refine wp_append_at (.tmp 45) (.tmp 49) 24 rfl w.heap.size 3 i3 (.int .i64 0) 1 8 Try.underlying24 hi hz0 hz1 hz2 rfl (by decide) v1 k _ rfl ho1 ⟨b3, o2, none⟩ (n - (k + 1)) (c - (k + 1)) (((ins.drop (k + 1)).take (n - (k + 1))).map (Value.int .i64)) rfl (by rw [List.length_map, List.length_take, List.length_drop, ← HN.out]; omega) (HNw.out w3 hb3') (ints_one _) (by unfold maxLen; omega) (by omega) hb3'.size ?_
              intro v2 w4 ho2 hg2
              have hb4 : Below w.heap.size w w4 := hb3'.grown hg2 hb3'.size (fun k e => (ho1.lt k e).1)
              rw [show k + (n - (k + 1)) = (ins.eraseIdx k).length by rw [HEl.out]; omega, ← List.map_append, HEr.out] at ho2
              clear ho1 hg1 hg2
              refine hK.out _ _ (fun _ => by exact trivial) (fun hH => ?_)
              have hHeld := hH (by decide)
              clear hK K hH
              try simp only [Act.put, List.setIfInBounds_toArray, List.set_cons_zero, List.set_cons_succ]
              refine wpAnyK_ready (rs := [10]) (by kernel_rfl) (by simp) ?_
              refine AllReadyK.cons (o := _) (by simp only [List.getElem?_toArray, List.getElem?_cons_succ, List.getElem?_cons_zero]; rfl) (fun K hK => ?_) AllReadyK.nil
              go_simp
              obtain ⟨a2, c2, rfl, S2, hc2, _⟩ := owns_seq ho2
              go_at_call 64
              refine (IH.out (m - 1) (by omega) w4 a2 c2 (ins.eraseIdx k) _ (by rw [HEl.out]; omega) (by rw [HEl.out]; omega) hc2 (fun x hx => HI.out x (List.mem_of_mem_eraseIdx hx)) HTb.out S2).mono ?_
              rintro e w5 ⟨a5, c5, rfl, hS5, hA5, hb5⟩
              rw [Int.toNat_natCast] at hS5
              rw [Int.toNat_natCast] at hA5
              simp only [Int.toNat_natCast]
              obtain ⟨RR, hRR⟩ : ∃ r, r = without (m - 1) (ins.eraseIdx k) (dropTo TN k i).1 := ⟨_, rfl⟩
              rw [← hRR] at hS5 hA5 ⊢
              have HRR := Lib.hid hRR
              have HS5 := Lib.hid hS5
              have HA5 : Hid (RR.1.length = 0 ∨ a5 = some ⟨b3, off3, none⟩ ∨ ∃ g off, a5 = some ⟨g, off, none⟩ ∧ w.heap.size ≤ g) := Lib.hid (by
                rcases hA5 with h | h | ⟨g, off, h1, h2⟩
                · exact .inl h
                · subst h
                  rcases Nat.eq_zero_or_pos (ins.eraseIdx k).length with h0 | h0
                  · left; rw [hRR]; exact without_len0 _ _ _ h0
                  · obtain ⟨gg, cap, hv, hg1, _, _, _⟩ := owns_shape ho2 h0
                    injection hv with hv1 hv2 hv3
                    exact .inr (.inr ⟨gg, 0, hv1, hg1⟩)
                · exact .inr (.inr ⟨g, off, h1, Nat.le_trans hb4.size h2⟩))
              have HB5 := Lib.hid (hb4.trans (hb5.mono hb4.size))
              clear hRR hS5 hA5 hb5 S2 ho2
              go_simp
              refine hK.out _ _ (fun _ => by exact trivial) (fun hH => ?_)
              have hHeld := hH (by decide)
              clear hK K hH
              try simp only [Act.put, List.setIfInBounds_toArray, List.set_cons_zero, List.set_cons_succ]
              refine wpAnyK_take (i := 11) (v := ?_) (by simp only [List.getElem?_toArray, List.getElem?_cons_succ, List.getElem?_cons_zero]; rfl) (by kernel_rfl) (by kernel_rfl) (by kernel_rfl) (by kernel_rfl) (by intro _ _ _ h; exact h) (Or.inl ⟨by rfl, ?_⟩) (by assumption) ?_
              rotate_left
              · intro w hSw; (try dsimp only at hSw); go_simp; try with_reducible rfl
              try simp only [Act.put, List.setIfInBounds_toArray, List.set_cons_zero, List.set_cons_succ]
              refine wpAnyK_take (i := 12) (v := ?_) (by simp only [List.getElem?_toArray, List.getElem?_cons_succ, List.getElem?_cons_zero]; rfl) (by kernel_rfl) (by kernel_rfl) (by kernel_rfl) (by kernel_rfl) (by intro _ _ _ h; exact h) (Or.inl ⟨by rfl, ?_⟩) (by assumption) ?_
              rotate_left
              · intro w hSw; (try dsimp only at hSw); go_simp; try with_reducible rfl
              try simp only [Act.put, List.setIfInBounds_toArray, List.set_cons_zero, List.set_cons_succ]
              refine wpAnyK_take (i := 13) (v := ?_) (by simp only [List.getElem?_toArray, List.getElem?_cons_succ, List.getElem?_cons_zero]; rfl) (by kernel_rfl) (by kernel_rfl) (by kernel_rfl) (by kernel_rfl) (by intro _ _ _ h; exact h) (Or.inl ⟨by rfl, ?_⟩) (by assumption) ?_
              rotate_left
              · intro w hSw; (try dsimp only at hSw); go_simp; try with_reducible rfl
              try simp only [Act.put, List.setIfInBounds_toArray, List.set_cons_zero, List.set_cons_succ]
              refine wpAnyK_ready (rs := [14]) (by kernel_rfl) (by simp) ?_
              refine AllReadyK.cons (o := _) (by simp only [List.getElem?_toArray, List.getElem?_cons_succ, List.getElem?_cons_zero]; rfl) (fun K hK => ?_) AllReadyK.nil
              go_simp

              refine hK.out _ _ (fun h => absurd rfl h) (fun _ => ?_)
              clear hK K
              try simp only [Act.put, List.setIfInBounds_toArray, List.set_cons_zero, List.set_cons_succ]
              refine wpAnyK_done (by kernel_rfl) ?_ _
              go_wp2
              try simp only [Exit.inBlock, Exit.then]
              refine bodyPost_ret (results64 rfl rfl) rfl ?_
              rw [HWo.out, ← HRR.out]
              exact ⟨a5, c5, rfl, HS5.out, HA5.out, HB5.out⟩
        · have hxb : (x != 0) = true := by simpa using hx0
          go_wp2
          go_round
          case rel =>
            refine ⟨k + 1, by omega, by go_num, Lib.hid (fun j hj => ?_)⟩
            rcases Nat.lt_succ_iff_lt_or_eq.1 hj with h | rfl
            · exact hh.out j h
            · rw [← HX.out]; exact hx0
          case measure => simp [intOf]; omega
      · obtain rfl : k = n := by omega
        have hnone := zeroAt_none ins (by rw [← HN.out]; exact hh.out)
        have hw := without_none m ins TN hnone
        have HW := Lib.hid hw
        clear hw hnone
        go_wp2
        try simp only [Exit.inBlock, Exit.then]
        refine bodyPost_ret (results64 rfl rfl) rfl ?_
        rw [HW.out]
        refine ⟨a, ⟨c, ?_⟩, by show Seq w a ins.length (ints ins); rw [← HN.out]; exact HS.out, .inr (.inl rfl), Below.refl _ _⟩
        show Ending.returned (.tuple #[.slice a k c, .int .u64 (TN : Int)]) = .returned (.tuple #[.slice a ins.length c, .int .u64 (TN : Int)])
        rw [← HN.out]
end Go.Proofs.Ytibimdhmfchcoaa

