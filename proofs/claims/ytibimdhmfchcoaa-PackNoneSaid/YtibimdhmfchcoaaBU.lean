import Derived.Test.YtibimdhmfchcoaaBA
/- U64 -/
namespace Go.Proofs.Ytibimdhmfchcoaa
open Go.RowKit Go.Shelf Go.Maps
set_option linter.unusedVariables false
set_option linter.unusedSimpArgs false
theorem u64_small (x : Nat) (h : x < 18446744073709551616) : IntKind.u64.wrap (x : Int) = x := by
  simp [IntKind.wrap, IntKind.bits, IntKind.signed]; omega
theorem results64 {tmps : Array Value} {w : World} {a b : Value} (h4 : tmps[4]?.getD undef = a) (h5 : tmps[5]?.getD undef = b) : (results Try.f64 tmps).run Try.prog w = .ok (.tuple #[a, b]) w := by
  simp [results, go_sem, h4, h5]
theorem wp_append_at {P : Program} {w : World} {o : Oper} {a : Act} {K : Act → World → Prop} {Q : Exit → Act → World → Prop} (s x : Operand) (t : TypeId)
    (ho : o.op = .call { callee := .builtin .append, args := #[s, x], argTypes := #[t, t] })
    (base : Nat) (e : TypeId) (i : TypeInfo) (z : Value) (size bytes : Nat) (ht : P.underlying t = some (.slice e)) (hi : P.info? e = some i) (hz : i.zero = some z)
    (hsize : i.size = size) (hby : i.bytes = bytes) (hzs : z.cells.size = size) (hsz : 0 < size)
    (v : Value) (n : Nat) (xs : List Value) (hs : a.eval s = v) (hown : w.ownsRow base e size v n xs)
    (ad : Addr) (m c : Nat) (news : List Value) (hx : a.eval x = .slice (some ad) m c) (hl : news.length = m * size) (hnews : ∀ j u, news[j]? = some u → w.cell? (ad.add j) = some u) (h1 : ∀ u ∈ news, u.oneCell' = true)
    (h63 : n + m ≤ maxLen) (hbytes : (n + m) * bytes ≤ 140737488355328) (hbase : base ≤ w.heap.size)
    (h : ∀ v' w', w'.ownsRow base e size v' (n + m) (xs ++ news) → w.grownBy w' v.ownBlock → K (a.put o.dst v') w') : o.wp P a w K Q := by
  obtain ⟨v', w', hr, h2, h3, _, _⟩ := run_append_own_at (P := P) w base t o.type e i z size bytes ht hi hz hsize hby hzs hsz v n xs hown ad m c news hl hnews h1 h63 hbytes hbase
  unfold Oper.wp execOp
  simp only [ho, resolve, invoke, builtin, Sem.run_bind, Sem.run_pure, Result.andThen_ok, List.map_toArray, List.map_cons, List.map_nil, hs, hx, hr]
  exact h v' w' h2 h3
/-- A table without its input k, of i rows of the old one. -/
def dropTo (T k : Nat) : Nat → Nat × Nat
  | 0 => (0, 0)
  | i + 1 => if i / 2 ^ k % 2 = 0 then ((dropTo T k i).1 + (T / 2 ^ i % 2) * 2 ^ (dropTo T k i).2, (dropTo T k i).2 + 1) else dropTo T k i
theorem dropTo_lt (T k i : Nat) : (dropTo T k i).1 < 2 ^ (dropTo T k i).2 ∧ (dropTo T k i).2 ≤ i := by
  induction i with
  | zero => simp [dropTo]
  | succ i ih =>
    unfold dropTo
    split
    · dsimp only
      rw [Nat.pow_succ]
      rcases Nat.mod_two_eq_zero_or_one (T / 2 ^ i) with h | h <;> rw [h] <;> omega
    · omega
def zeroAt (ins : List Int) : Nat := ins.findIdx (fun x => x == 0)
def without : Nat → List Int → Nat → List Int × Nat
  | 0, ins, T => (ins, T)
  | m + 1, ins, T => if zeroAt ins < ins.length then without m (ins.eraseIdx (zeroAt ins)) (dropTo T (zeroAt ins) (2 ^ ins.length)).1 else (ins, T)
theorem zeroAt_at (ins : List Int) (k : Nat) (hk : k < ins.length) (h0 : ins.getD k 0 = 0) (hno : ∀ j, j < k → ins.getD j 0 ≠ 0) : zeroAt ins = k := by
  unfold zeroAt
  have hk' : ins.getD k 0 = ins[k] := by simp [List.getD, List.getElem?_eq_getElem hk]
  rw [List.findIdx_eq hk]
  refine ⟨by rw [← hk', h0]; rfl, fun j hj => ?_⟩
  have := hno j hj
  simpa [List.getD, List.getElem?_eq_getElem (Nat.lt_trans hj hk)] using this
theorem zeroAt_none (ins : List Int) (hno : ∀ j, j < ins.length → ins.getD j 0 ≠ 0) : ¬ zeroAt ins < ins.length := by
  intro h
  unfold zeroAt at h
  have h2 := List.findIdx_getElem (w := h)
  have h3 := hno _ h
  rw [List.getD_eq_getElem?_getD, List.getElem?_eq_getElem h] at h3
  simp only [beq_iff_eq] at h2
  exact h3 h2
theorem without_none (m : Nat) (ins : List Int) (T : Nat) (h : ¬ zeroAt ins < ins.length) : without m ins T = (ins, T) := by
  cases m with
  | zero => rfl
  | succ m => unfold without; rw [if_neg h]


theorem without_len0 (m : Nat) (ins : List Int) (T : Nat) (h : ins.length = 0) : (without m ins T).1.length = 0 := by
  rw [without_none m ins T (by omega)]; exact h
theorem ints_one (l : List Int) : ∀ u ∈ l.map (Value.int .i64), u.oneCell' = true := by
  intro u hu
  obtain ⟨x, _, rfl⟩ := List.mem_map.1 hu
  rfl
theorem seq_news {w : World} {b off n : Nat} {l : List Int} (S : Seq w (some ⟨b, off, none⟩) n (ints l)) (hn : l.length = n) (i m : Nat) (h : i + m ≤ n) : ∀ j u, (((l.drop i).take m).map (Value.int .i64))[j]? = some u → w.cell? (Addr.add ⟨b, off + i, none⟩ j) = some u := by
  intro j u hj
  rw [Addr.add_lit]
  have hj2 : j < m := by
    rcases Nat.lt_or_ge j m with h' | h'
    · exact h'
    · rw [List.getElem?_eq_none (by simp; omega)] at hj; cases hj
  rcases S with S | ⟨b', off', he, hc⟩
  · omega
  · injection he with he; injection he with he1 he2
    subst he1; subst he2
    have := hc (i + j) (by omega)
    rw [← Nat.add_assoc] at this
    rw [this]
    simp only [List.getElem?_map, List.getElem?_take, List.getElem?_drop, if_pos hj2] at hj
    rw [List.getElem?_eq_getElem (by omega)] at hj
    simp only [Option.map_some] at hj
    rw [← hj]
    simp [ints, List.getD, List.getElem?_eq_getElem (show i + j < l.length by omega)]
set_option maxRecDepth 100000 in
set_option maxHeartbeats 8000000 in
theorem without64 (m : Nat) : ∀ (w : World) (a : Option Addr) (c : Nat) (ins : List Int) (T : Int), ins.length ≤ m → ins.length ≤ 4 → ins.length ≤ c → (∀ x ∈ ins, I64 x) → U64 T → Seq w a ins.length (ints ins) →
    Calls Try.prog 64 #[.slice a ins.length c, .int .u64 T] w (fun e w' => ∃ a' c', e = .returned (.tuple #[.slice a' (without m ins T.toNat).1.length c', .int .u64 ((without m ins T.toNat).2 : Nat)]) ∧ Seq w' a' (without m ins T.toNat).1.length (ints (without m ins T.toNat).1) ∧ ((without m ins T.toNat).1.length = 0 ∨ a' = a ∨ ∃ g off, a' = some ⟨g, off, none⟩ ∧ w.heap.size ≤ g) ∧ Below w.heap.size w w') := by
  induction m using Nat.strongRecOn with
  | ind m ih =>
    intro w a c ins T hm h4 hc hI hU S
    obtain ⟨t0, t1⟩ := hU
    have hT : T = (T.toNat : Int) := by omega
    obtain ⟨TN, hTN⟩ : ∃ t, t = T.toNat := ⟨_, rfl⟩
    rw [← hTN] at hT ⊢
    subst hT
    clear hTN
    obtain ⟨i3, hi, hz0, hz1, hz2⟩ := info_parts info3
    obtain ⟨n, hn⟩ : ∃ n, n = ins.length := ⟨_, rfl⟩
    have HN := Lib.hid hn
    have HS := Lib.hid S
    have HI := Lib.hid hI
    have IH := Lib.hid ih
    rw [← hn] at HS h4 hc hm ⊢
    clear hn S hI ih
    go_enter Try.func64, Try.ntmps64
    go_wp2
    go_loop [6, 7, 13] (fun _ _ iv => ∃ k : Nat, k ≤ n ∧ iv = .int .i64 k ∧ Hid (∀ j, j < k → ins.getD j 0 ≠ 0)) (fun _ _ iv => n - (intOf iv).toNat)
    case atStart => exact ⟨0, by omega, rfl, Lib.hid (fun j hj => by omega)⟩
    case round =>
      obtain ⟨k, hk, rfl, hh⟩ := hrel
      by_cases hlt : k < n
      · obtain ⟨b3, off3, hLa, hb3, hc3⟩ := HS.out.at k hlt
        have x0 := hc3 k hlt
        unfold ints at x0
        obtain ⟨x, hx⟩ : ∃ x, x = ins.getD k 0 := ⟨_, rfl⟩
        rw [← hx] at x0
        have HX := Lib.hid hx
        clear hx hc3
        subst hLa
        by_cases hx0 : x = 0
        · subst hx0
          have hz : Hid (zeroAt ins = k) := Lib.hid (zeroAt_at ins k (by rw [← HN.out]; exact hlt) HX.out.symm hh.out)
          have hsh := shl1 n (by omega)
          rw [Int.one_mul] at hsh
          obtain ⟨M, hMM⟩ : ∃ M, M = 2 ^ n := ⟨_, rfl⟩
          rw [← hMM] at hsh
          have HMM := Lib.hid hMM
          clear hMM
          go_wp2
          try rw [hsh]
          clear hsh
          have hU64 : TN < 18446744073709551616 := by omega
          go_loop [8, 9, 23] (fun tv av iv => ∃ i : Nat, i ≤ M ∧ iv = .int .i64 i ∧ tv = .int .u64 ((dropTo TN k i).1 : Nat) ∧ av = .int .i64 ((dropTo TN k i).2 : Nat)) (fun _ _ iv => M - (intOf iv).toNat)
          case atStart => exact ⟨0, by omega, rfl, rfl, rfl⟩
          case round =>
            obtain ⟨i, hiM, rfl, rfl, rfl⟩ := hrel
            by_cases hli : i < M
            · have hM16 : i < 16 := by
                have h24 : (2 : Nat) ^ n ≤ 2 ^ 4 := Nat.pow_le_pow_right (by omega) h4
                have := HMM.out
                omega
              have hdl := dropTo_lt TN k i
              have hst : dropTo TN k (i + 1) = if i / 2 ^ k % 2 = 0 then ((dropTo TN k i).1 + (TN / 2 ^ i % 2) * 2 ^ (dropTo TN k i).2, (dropTo TN k i).2 + 1) else dropTo TN k i := rfl
              obtain ⟨⟨tv, av⟩, hD⟩ : ∃ d, d = dropTo TN k i := ⟨_, rfl⟩
              rw [← hD] at hst hdl ⊢
              dsimp only at hst hdl ⊢
              have hbi := bit_i64 i k (by omega)
              have hbu := bit_u64 TN i hU64
              clear hD
              by_cases hb : i / 2 ^ k % 2 = 0
              · rw [if_pos hb] at hst
                have hbz : ((i : Int) / 2 ^ k % 2 == 0) = true := by rw [show (i : Int) / 2 ^ k % 2 = ((i / 2 ^ k % 2 : Nat) : Int) by push_cast; rfl, hb]; rfl
                have Hst := Lib.hid hst
                clear hst
                go_wp2
                go_round
                case rel =>
                  refine ⟨i + 1, by omega, by go_num, ?_, by rw [Hst.out]; rfl⟩
                  have h2 : (2 : Nat) ^ av ≤ 2 ^ 15 := Nat.pow_le_pow_right (by omega) (by omega)
                  have h3 : TN / 2 ^ i % 2 * 2 ^ av ≤ 1 * 2 ^ av := Nat.mul_le_mul (by omega) (Nat.le_refl _)
                  have e1 : (TN : Int) / 2 ^ i % 2 * 2 ^ av = ((TN / 2 ^ i % 2 * 2 ^ av : Nat) : Int) := by push_cast; rfl
                  rw [Hst.out, e1, u64_small _ (by omega), ← Int.natCast_add, u64_small _ (by omega)]
                case measure => simp [intOf]; omega
              · rw [if_neg hb] at hst
                have hbz : ((i : Int) / 2 ^ k % 2 == 0) = false := by rw [show (i : Int) / 2 ^ k % 2 = ((i / 2 ^ k % 2 : Nat) : Int) by push_cast; rfl, show i / 2 ^ k % 2 = 1 by omega]; rfl
                have Hst := Lib.hid hst
                clear hst
                go_wp2
                go_round
                case rel => exact ⟨i + 1, by omega, by go_num, by rw [Hst.out], by rw [Hst.out]⟩
                case measure => simp [intOf]; omega
            · obtain rfl : i = M := by omega
              obtain ⟨o2, ho2⟩ : ∃ o2, (if c = (((k + 1 : Nat) : Int)).toNat then some (⟨b3, off3, none⟩ : Addr) else some ⟨b3, off3 + (((k + 1 : Nat) : Int)).toNat, none⟩) = some ⟨b3, o2, none⟩ ∧ (n - (k + 1) = 0 ∨ o2 = off3 + (k + 1)) := by
                by_cases hck : c = k + 1
                · exact ⟨off3, by rw [if_pos (by simpa using hck)], .inl (by omega)⟩
                · exact ⟨off3 + (k + 1), by rw [if_neg (by simpa using hck)]; rfl, .inr rfl⟩
              have HAd := Lib.hid ho2.1
              have HWk : Hid (IntKind.i64.wrap ((k : Int) + 1) = ((k + 1 : Nat) : Int)) := Lib.hid (by rw [← Int.natCast_succ]; exact Lib.wrap_i64_small (k + 1) (by omega))
              have HCo : Hid (0 ≤ ((k + 1 : Nat) : Int) ∧ ((k + 1 : Nat) : Int) ≤ (n : Int)) := Lib.hid (by omega)
              have HEr : Hid (ins.take k ++ (ins.drop (k + 1)).take (n - (k + 1)) = ins.eraseIdx k) := Lib.hid (by rw [List.eraseIdx_eq_take_drop_succ, List.take_of_length_le (l := ins.drop (k + 1)) (by rw [List.length_drop, ← HN.out]; exact Nat.le_refl _)])
              have HEl : Hid ((ins.eraseIdx k).length = n - 1) := Lib.hid (by rw [List.length_eraseIdx, ← HN.out, if_pos hlt])
              have HWo : Hid (without m ins TN = without (m - 1) (ins.eraseIdx k) (dropTo TN k i).1) := Lib.hid (by
                obtain ⟨m', rfl⟩ : ∃ m', m = m' + 1 := ⟨m - 1, by omega⟩
                rw [without, if_pos (by rw [hz.out, ← HN.out]; exact hlt), hz.out, ← HN.out, ← HMM.out]; rfl)
              have HTb : Hid (U64 ((dropTo TN k i).1 : Nat)) := Lib.hid (by
                have h := dropTo_lt TN k i
                have h16 : (2 : Nat) ^ n ≤ 2 ^ 4 := Nat.pow_le_pow_right (by omega) h4
                have h2 : (2 : Nat) ^ (dropTo TN k i).2 ≤ 2 ^ 16 := Nat.pow_le_pow_right (by omega) (by have := HMM.out; omega)
                exact ⟨by omega, by omega⟩)
              have HNw : Hid (∀ W, Below w.heap.size w W → ∀ j u, (((ins.drop (k + 1)).take (n - (k + 1))).map (Value.int .i64))[j]? = some u → W.cell? (Addr.add ⟨b3, o2, none⟩ j) = some u) := Lib.hid (by
                intro W hW j u hj
                rcases ho2.2 with h0 | rfl
                · rw [h0, List.take_zero] at hj; simp at hj
                · exact seq_news (HS.out.below hW (Nat.le_refl _)) HN.out.symm (k + 1) (n - (k + 1)) (by omega) j u hj)
              clear ho2
              go_wp2_with fail
              refine wp_region_K (S := fun _ => True) 14 (by kernel_rfl) (trivial) (fun hHeld => ?_)
              refine wpAnyK_take (i := 0) (v := ?_) (by simp only [List.getElem?_toArray, List.getElem?_cons_succ, List.getElem?_cons_zero]; rfl) (by kernel_rfl) (by kernel_rfl) (by kernel_rfl) (by kernel_rfl) (by intro _ _ _ h; exact h) (Or.inl ⟨by rfl, ?_⟩) (by assumption) ?_
              rotate_left
              · intro w hSw; (try dsimp only at hSw); go_simp; try with_reducible rfl
              try simp only [Act.put, List.setIfInBounds_toArray, List.set_cons_zero, List.set_cons_succ]
              refine wpAnyK_take (i := 1) (v := ?_) (by simp only [List.getElem?_toArray, List.getElem?_cons_succ, List.getElem?_cons_zero]; rfl) (by kernel_rfl) (by kernel_rfl) (by kernel_rfl) (by kernel_rfl) (by intro _ _ _ h; exact h) (Or.inl ⟨by rfl, ?_⟩) (by assumption) ?_
              rotate_left
              · intro w hSw; (try dsimp only at hSw); go_simp; try with_reducible rfl
              try simp only [Act.put, List.setIfInBounds_toArray, List.set_cons_zero, List.set_cons_succ]
              refine wpAnyK_take (i := 2) (v := ?_) (by simp only [List.getElem?_toArray, List.getElem?_cons_succ, List.getElem?_cons_zero]; rfl) (by kernel_rfl) (by kernel_rfl) (by kernel_rfl) (by kernel_rfl) (by intro _ _ _ h; exact h) (Or.inl ⟨by rfl, ?_⟩) (by assumption) ?_
              rotate_left
              · intro w hSw; (try dsimp only at hSw); go_simp; first | with_reducible rfl | rw [if_pos (by omega)]
              try simp only [Act.put, List.setIfInBounds_toArray, List.set_cons_zero, List.set_cons_succ]
              refine wpAnyK_take (i := 4) (v := ?_) (by simp only [List.getElem?_toArray, List.getElem?_cons_succ, List.getElem?_cons_zero]; rfl) (by kernel_rfl) (by kernel_rfl) (by kernel_rfl) (by kernel_rfl) (by intro _ _ _ h; exact h) (Or.inl ⟨by rfl, ?_⟩) (by assumption) ?_
              rotate_left
              · intro w hSw; (try dsimp only at hSw); go_simp; try with_reducible rfl
              try simp only [Act.put, List.setIfInBounds_toArray, List.set_cons_zero, List.set_cons_succ]
              refine wpAnyK_take (i := 5) (v := ?_) (by simp only [List.getElem?_toArray, List.getElem?_cons_succ, List.getElem?_cons_zero]; rfl) (by kernel_rfl) (by kernel_rfl) (by kernel_rfl) (by kernel_rfl) (by intro _ _ _ h; exact h) (Or.inl ⟨by rfl, ?_⟩) (by assumption) ?_
              rotate_left
              · intro w hSw; (try dsimp only at hSw); go_simp; try with_reducible rfl
              try simp only [Act.put, List.setIfInBounds_toArray, List.set_cons_zero, List.set_cons_succ]
              refine wpAnyK_take (i := 6) (v := ?_) (by simp only [List.getElem?_toArray, List.getElem?_cons_succ, List.getElem?_cons_zero]; rfl) (by kernel_rfl) (by kernel_rfl) (by kernel_rfl) (by kernel_rfl) (by intro _ _ _ h; exact h) (Or.inl ⟨by rfl, ?_⟩) (by assumption) ?_
              rotate_left
              · intro w hSw; (try dsimp only at hSw); go_simp; try with_reducible rfl
              try simp only [Act.put, List.setIfInBounds_toArray, List.set_cons_zero, List.set_cons_succ]
              refine wpAnyK_take (i := 7) (v := ?_) (by simp only [List.getElem?_toArray, List.getElem?_cons_succ, List.getElem?_cons_zero]; rfl) (by kernel_rfl) (by kernel_rfl) (by kernel_rfl) (by kernel_rfl) (by intro _ _ _ h; exact h) (Or.inl ⟨by rfl, ?_⟩) (by assumption) ?_
              rotate_left
              · intro w hSw; (try dsimp only at hSw); go_simp; rw [HWk.out, if_pos HCo.out, HAd.out]
              try simp only [Act.put, List.setIfInBounds_toArray, List.set_cons_zero, List.set_cons_succ]
              refine wpAnyK_take (i := 9) (v := ?_) (by simp only [List.getElem?_toArray, List.getElem?_cons_succ, List.getElem?_cons_zero]; rfl) (by kernel_rfl) (by kernel_rfl) (by kernel_rfl) (by kernel_rfl) (by intro _ _ _ h; exact h) (Or.inl ⟨by rfl, ?_⟩) (by assumption) ?_
              rotate_left
              · intro w hSw; (try dsimp only at hSw); go_simp; try with_reducible rfl
              try simp only [Act.put, List.setIfInBounds_toArray, List.set_cons_zero, List.set_cons_succ]
              refine wpAnyK_ready (rs := [3]) (by kernel_rfl) (by simp) ?_
              refine AllReadyK.cons (o := _) (by simp only [List.getElem?_toArray, List.getElem?_cons_succ, List.getElem?_cons_zero]; rfl) (fun K hK => ?_) AllReadyK.nil
              rw [if_pos (by rfl)]
              refine wp_append_at (.const (.slice none 0 0)) (.tmp 44) 24 rfl w.heap.size 3 i3 (.int .i64 0) 1 8 Try.underlying24 hi hz0 hz1 hz2 rfl (by decide) (.slice none 0 0) 0 [] rfl (World.ownsRow_nil _ _ _ _) ⟨b3, off3, none⟩ k c ((ins.take k).map (Value.int .i64)) rfl (by rw [List.length_map, List.length_take, ← HN.out]; omega) (seq_news HS.out HN.out.symm 0 k (by omega)) (ints_one _) (by unfold maxLen; omega) (by omega) (Nat.le_refl _) ?_
              intro v1 w3 ho1 hg1
              have hb3' : Below w.heap.size w w3 := (Below.refl _ _).drew.grown hg1 (Nat.le_refl _) (fun k e => by cases e)
              rw [Nat.zero_add, List.nil_append] at ho1
              refine hK.out _ _ (fun _ => by exact trivial) (fun hH => ?_)
              have hHeld := hH (by decide)
              clear hK K hH
              try simp only [Act.put, List.setIfInBounds_toArray, List.set_cons_zero, List.set_cons_succ]
              refine wpAnyK_ready (rs := [8]) (by kernel_rfl) (by simp) ?_
              refine AllReadyK.cons (o := _) (by simp only [List.getElem?_toArray, List.getElem?_cons_succ, List.getElem?_cons_zero]; rfl) (fun K hK => ?_) AllReadyK.nil
              rw [if_pos (by rfl)]
              refine wp_append_at (.tmp 45) (.tmp 49) 24 rfl w.heap.size 3 i3 (.int .i64 0) 1 8 Try.underlying24 hi hz0 hz1 hz2 rfl (by decide) v1 k _ rfl ho1 ⟨b3, o2, none⟩ (n - (k + 1)) (c - (k + 1)) (((ins.drop (k + 1)).take (n - (k + 1))).map (Value.int .i64)) rfl (by rw [List.length_map, List.length_take, List.length_drop, ← HN.out]; omega) (HNw.out w3 hb3') (ints_one _) (by unfold maxLen; omega) (by omega) hb3'.size ?_
              intro v2 w4 ho2 hg2
              have hb4 : Below w.heap.size w w4 := hb3'.grown hg2 hb3'.size (fun k e => (ho1.lt k e).1)
              rw [show k + (n - (k + 1)) = (ins.eraseIdx k).length by rw [HEl.out]; omega, ← List.map_append, HEr.out] at ho2
              clear ho1 hg1 hg2
              refine hK.out _ _ (fun _ => by exact trivial) (fun hH => ?_)
              have hHeld := hH (by decide)
              clear hK K hH
              try simp only [Act.put, List.setIfInBounds_toArray, List.set_cons_zero, List.set_cons_succ]
              refine wpAnyK_ready (rs := [10]) (by kernel_rfl) (by simp) ?_
              refine AllReadyK.cons (o := _) (by simp only [List.getElem?_toArray, List.getElem?_cons_succ, List.getElem?_cons_zero]; rfl) (fun K hK => ?_) AllReadyK.nil
              go_simp
              obtain ⟨a2, c2, rfl, S2, hc2, _⟩ := owns_seq ho2
              go_at_call 64
              refine (IH.out (m - 1) (by omega) w4 a2 c2 (ins.eraseIdx k) _ (by rw [HEl.out]; omega) (by rw [HEl.out]; omega) hc2 (fun x hx => HI.out x (List.mem_of_mem_eraseIdx hx)) HTb.out S2).mono ?_
              rintro e w5 ⟨a5, c5, rfl, hS5, hA5, hb5⟩
              rw [Int.toNat_natCast] at hS5
              rw [Int.toNat_natCast] at hA5
              simp only [Int.toNat_natCast]
              obtain ⟨RR, hRR⟩ : ∃ r, r = without (m - 1) (ins.eraseIdx k) (dropTo TN k i).1 := ⟨_, rfl⟩
              rw [← hRR] at hS5 hA5 ⊢
              have HRR := Lib.hid hRR
              have HS5 := Lib.hid hS5
              have HA5 : Hid (RR.1.length = 0 ∨ a5 = some ⟨b3, off3, none⟩ ∨ ∃ g off, a5 = some ⟨g, off, none⟩ ∧ w.heap.size ≤ g) := Lib.hid (by
                rcases hA5 with h | h | ⟨g, off, h1, h2⟩
                · exact .inl h
                · subst h
                  rcases Nat.eq_zero_or_pos (ins.eraseIdx k).length with h0 | h0
                  · left; rw [hRR]; exact without_len0 _ _ _ h0
                  · obtain ⟨gg, cap, hv, hg1, _, _, _⟩ := owns_shape ho2 h0
                    injection hv with hv1 hv2 hv3
                    exact .inr (.inr ⟨gg, 0, hv1, hg1⟩)
                · exact .inr (.inr ⟨g, off, h1, Nat.le_trans hb4.size h2⟩))
              have HB5 := Lib.hid (hb4.trans (hb5.mono hb4.size))
              clear hRR hS5 hA5 hb5 S2 ho2
              go_simp
              refine hK.out _ _ (fun _ => by exact trivial) (fun hH => ?_)
              have hHeld := hH (by decide)
              clear hK K hH
              try simp only [Act.put, List.setIfInBounds_toArray, List.set_cons_zero, List.set_cons_succ]
              refine wpAnyK_take (i := 11) (v := ?_) (by simp only [List.getElem?_toArray, List.getElem?_cons_succ, List.getElem?_cons_zero]; rfl) (by kernel_rfl) (by kernel_rfl) (by kernel_rfl) (by kernel_rfl) (by intro _ _ _ h; exact h) (Or.inl ⟨by rfl, ?_⟩) (by assumption) ?_
              rotate_left
              · intro w hSw; (try dsimp only at hSw); go_simp; try with_reducible rfl
              try simp only [Act.put, List.setIfInBounds_toArray, List.set_cons_zero, List.set_cons_succ]
              refine wpAnyK_take (i := 12) (v := ?_) (by simp only [List.getElem?_toArray, List.getElem?_cons_succ, List.getElem?_cons_zero]; rfl) (by kernel_rfl) (by kernel_rfl) (by kernel_rfl) (by kernel_rfl) (by intro _ _ _ h; exact h) (Or.inl ⟨by rfl, ?_⟩) (by assumption) ?_
              rotate_left
              · intro w hSw; (try dsimp only at hSw); go_simp; try with_reducible rfl
              try simp only [Act.put, List.setIfInBounds_toArray, List.set_cons_zero, List.set_cons_succ]
              refine wpAnyK_take (i := 13) (v := ?_) (by simp only [List.getElem?_toArray, List.getElem?_cons_succ, List.getElem?_cons_zero]; rfl) (by kernel_rfl) (by kernel_rfl) (by kernel_rfl) (by kernel_rfl) (by intro _ _ _ h; exact h) (Or.inl ⟨by rfl, ?_⟩) (by assumption) ?_
              rotate_left
              · intro w hSw; (try dsimp only at hSw); go_simp; try with_reducible rfl
              try simp only [Act.put, List.setIfInBounds_toArray, List.set_cons_zero, List.set_cons_succ]
              refine wpAnyK_ready (rs := [14]) (by kernel_rfl) (by simp) ?_
              refine AllReadyK.cons (o := _) (by simp only [List.getElem?_toArray, List.getElem?_cons_succ, List.getElem?_cons_zero]; rfl) (fun K hK => ?_) AllReadyK.nil
              go_simp

              refine hK.out _ _ (fun h => absurd rfl h) (fun _ => ?_)
              clear hK K
              try simp only [Act.put, List.setIfInBounds_toArray, List.set_cons_zero, List.set_cons_succ]
              refine wpAnyK_done (by kernel_rfl) ?_ _
              go_wp2
              try simp only [Exit.inBlock, Exit.then]
              refine bodyPost_ret (results64 rfl rfl) rfl ?_
              rw [HWo.out, ← HRR.out]
              exact ⟨a5, c5, rfl, HS5.out, HA5.out, HB5.out⟩
        · have hxb : (x != 0) = true := by simpa using hx0
          go_wp2
          go_round
          case rel =>
            refine ⟨k + 1, by omega, by go_num, Lib.hid (fun j hj => ?_)⟩
            rcases Nat.lt_succ_iff_lt_or_eq.1 hj with h | rfl
            · exact hh.out j h
            · rw [← HX.out]; exact hx0
          case measure => simp [intOf]; omega
      · obtain rfl : k = n := by omega
        have hnone := zeroAt_none ins (by rw [← HN.out]; exact hh.out)
        have hw := without_none m ins TN hnone
        have HW := Lib.hid hw
        clear hw hnone
        go_wp2
        try simp only [Exit.inBlock, Exit.then]
        refine bodyPost_ret (results64 rfl rfl) rfl ?_
        rw [HW.out]
        refine ⟨a, ⟨c, ?_⟩, by show Seq w a ins.length (ints ins); rw [← HN.out]; exact HS.out, .inr (.inl rfl), Below.refl _ _⟩
        show Ending.returned (.tuple #[.slice a k c, .int .u64 (TN : Int)]) = .returned (.tuple #[.slice a ins.length c, .int .u64 (TN : Int)])
        rw [← HN.out]
end Go.Proofs.Ytibimdhmfchcoaa

/- U42 -/
namespace Go.Proofs.Ytibimdhmfchcoaa
open Go.RowKit Go.Shelf Go.Maps
set_option linter.unusedVariables false
set_option linter.unusedSimpArgs false
theorem without_lt (m : Nat) : ∀ (ins : List Int) (T : Nat), ins.length ≤ 4 → T < 65536 → (without m ins T).2 < 65536 ∧ (without m ins T).1.length ≤ 4 := by
  induction m with
  | zero => intro ins T h4 hT; exact ⟨hT, h4⟩
  | succ m ih =>
    intro ins T h4 hT
    unfold without
    split
    · rename_i hz
      have h := dropTo_lt T (zeroAt ins) (2 ^ ins.length)
      have h16 : (2 : Nat) ^ ins.length ≤ 2 ^ 4 := Nat.pow_le_pow_right (by omega) h4
      have h2 : (2 : Nat) ^ (dropTo T (zeroAt ins) (2 ^ ins.length)).2 ≤ 2 ^ 16 := Nat.pow_le_pow_right (by omega) (by omega)
      exact ih _ _ (by rw [List.length_eraseIdx, if_pos hz]; omega) (by omega)
    · exact ⟨hT, h4⟩
theorem without_mem (m : Nat) : ∀ (ins : List Int) (T : Nat), ∀ x ∈ (without m ins T).1, x ∈ ins := by
  induction m with
  | zero => intro ins T x hx; exact hx
  | succ m ih =>
    intro ins T x hx
    unfold without at hx
    split at hx
    · exact List.mem_of_mem_eraseIdx (ih _ _ x hx)
    · exact hx
/-- What the reference makes of a table. -/
def toldR (f : Int → Int) (ins : List Int) (T : Nat) (ff init : Bool) : BlkD :=
  ⟨(without 4 ins T).1.map f, ((without 4 ins T).2 : Nat), ff, init⟩
structure T42 (B : Nat) (w : World) (ff init : Bool) (wr : World) (vI : Value) (tv : Int) (l : List Int) : Prop where
  below : Below w.heap.size w wr
  size : w.heap.size + 3 ≤ wr.heap.size
  cI : wr.cell? ⟨w.heap.size + 1, 0, none⟩ = some vI
  cT : wr.cell? ⟨w.heap.size + 1, 1, none⟩ = some (.int .i64 tv)
  cF : wr.cell? ⟨w.heap.size + 1, 2, none⟩ = some (.bool ff)
  cN : wr.cell? ⟨w.heap.size + 1, 3, none⟩ = some (.bool init)
  fz : ∀ i, wr.frozen? ⟨w.heap.size + 1, i, none⟩ = false
  res : wr.heap[w.heap.size + 2]? = some (.cells #[.slice none 0 0, .int .i64 0, .bool false, .bool false] 43)
  own : wr.ownsRow B 3 1 vI l.length (l.map (Value.int .i64))
  base : w.heap.size + 3 ≤ B
theorem T42.next {B : Nat} {w wr w9 : World} {ff init : Bool} {vI vI' : Value} {tv : Int} {l l' : List Int} (hv : T42 B w ff init wr vI tv l) (hb : Below B wr w9)
    (hI : w9.ownsRow B 3 1 vI' l'.length (l'.map (Value.int .i64))) : T42 B w ff init (w9.setCell ⟨w.heap.size + 1, 0, none⟩ vI') vI' tv l' := by
  have hsz := hv.size
  have hbb := hv.base
  have hs := hb.size
  have hg := grownBy_set w9 (w.heap.size + 1) 0 vI'
  have cl : ∀ {j : Nat} {v : Value}, wr.cell? ⟨w.heap.size + 1, j, none⟩ = some v → w9.cell? ⟨w.heap.size + 1, j, none⟩ = some v := fun h => (hb.cell (p := ⟨_, _, none⟩) (by simp only; omega)).trans h
  refine ⟨(hv.below.trans (hb.mono (by omega))).grown hg (by omega) (fun k e => by injection e with e; omega), by rw [set_size]; omega, cell?_set_own (cl hv.cI), set_keep (cl hv.cT) (by decide), set_keep (cl hv.cF) (by decide), set_keep (cl hv.cN) (by decide), ?_, ?_, ?_, hv.base⟩
  · intro i
    rw [set_frozen]
    exact (hb.frozen (p := ⟨_, _, none⟩) (by simp only; omega)).trans (hv.fz i)
  · exact (hg.block _ (by omega) (by intro e; injection e with e; omega)).trans ((hb.block _ (by omega)).trans hv.res)
  · exact hI.kept hg (.inr (fun e => by have := (hI.lt _ e).1; omega))
theorem T42.tab {B : Nat} {w wr : World} {ff init : Bool} {vI : Value} {tv : Int} {l : List Int} (hv : T42 B w ff init wr vI tv l) (tv' : Int) : T42 B w ff init (wr.setCell ⟨w.heap.size + 1, 1, none⟩ (.int .i64 tv')) vI tv' l := by
  have hsz := hv.size
  have hbb := hv.base
  have hg := grownBy_set wr (w.heap.size + 1) 1 (.int .i64 tv')
  refine ⟨hv.below.grown hg (by omega) (fun k e => by injection e with e; omega), by rw [set_size]; omega, set_keep hv.cI (by decide), cell?_set_own hv.cT, set_keep hv.cF (by decide), set_keep hv.cN (by decide), ?_, ?_, ?_, hv.base⟩
  · intro i; rw [set_frozen]; exact hv.fz i
  · exact (hg.block _ (by omega) (by intro e; injection e with e; omega)).trans hv.res
  · exact hv.own.kept hg (.inr (fun e => by have := (hv.own.lt _ e).1; omega))
theorem results_blk42 {tmps : Array Value} {w : World} {b : Nat} {a : Option Addr} {n c : Nat} {t : Int} {f i : Bool} (h : tmps[6]?.getD undef = .pointer (some ⟨b, 0, none⟩))
    (h0 : w.cell? ⟨b, 0, none⟩ = some (.slice a n c)) (h1 : w.cell? ⟨b, 1, none⟩ = some (.int .i64 t)) (h2 : w.cell? ⟨b, 2, none⟩ = some (.bool f)) (h3 : w.cell? ⟨b, 3, none⟩ = some (.bool i)) :
    (results Try.f42 tmps).run Try.prog w = .ok (.agg #[.slice a n c, .int .i64 t, .bool f, .bool i]) w := by
  simp [results, go_sem, h, h0, h1, h2, h3]


set_option maxRecDepth 100000 in
set_option maxHeartbeats 8000000 in
theorem told42 (w : World) (La : Option Addr) (Lc : Nat) (Li : List Int) (Lt : Int) (hU : U64 Lt) (hLt : Lt.toNat < 65536) (hLi : ∀ x ∈ Li, I64 x) (S : Seq w La Li.length (ints Li)) (h4 : Li.length ≤ 4) (hcap : Li.length ≤ Lc)
    (wb L cL : Nat) (f : Int → Int) (hL : L ≤ 500) (hw : ∀ i, i < L → w.cell? ⟨wb, i, none⟩ = some (.int .i64 (f i))) (hin : ∀ x ∈ Li, 0 ≤ x ∧ x < L) (ff init : Bool) :
    Calls Try.prog 42 #[.agg #[.slice La Li.length Lc, .int .u64 Lt], .slice (some ⟨wb, 0, none⟩) L cL, .agg #[.slice none 0 0, .int .i64 0, .bool ff, .bool init]] w (NewBlk w (toldR f Li Lt.toNat ff init)) := by
  obtain ⟨i3, hi, hz0, hz1, hz2⟩ := info_parts info3
  have hwl := without_lt 4 Li Lt.toNat h4 hLt
  have hwm := without_mem 4 Li Lt.toNat
  obtain ⟨W0, hW0⟩ : ∃ W, W = ((w.alloc (Obj.cells #[Value.slice La Li.length Lc, Value.int IntKind.u64 Lt] 41)).alloc (Obj.cells #[Value.slice none 0 0, Value.int IntKind.i64 0, Value.bool ff, Value.bool init] 43)).alloc (Obj.cells #[Value.slice none 0 0, Value.int IntKind.i64 0, Value.bool false, Value.bool false] 43) := ⟨_, rfl⟩
  have hI0 : T42 (w.heap.size + 3) w ff init W0 (.slice none 0 0) 0 [] := by
    rw [hW0]
    refine ⟨(((Below.refl _ _).alloc (Nat.le_refl _) _).alloc (by simp) _).alloc (by simp; omega) _, by simp, ?_, ?_, ?_, ?_, ?_, heap_third _ _ _ _, World.ownsRow_nil _ _ _ _, Nat.le_refl _⟩
    all_goals (try intro i)
    all_goals (first | (simp [go_sem]; done) | (simp [go_sem] <;> omega) | skip)
  have C64 := Lib.hid (without64 4 W0 La Lc Li Lt h4 h4 hcap hLi hU (S.below hI0.below (Nat.le_refl _)))
  have HI0 := Lib.hid hI0
  have S0 := Lib.hid S
  have HWi := Lib.hid hw
  obtain ⟨RR, hRR⟩ : ∃ r, r = without 4 Li Lt.toNat := ⟨_, rfl⟩
  have HRR := Lib.hid hRR
  rw [← hRR] at hwl hwm C64
  obtain ⟨X, T'⟩ := RR
  dsimp only at hwl hwm C64
  have HMm := Lib.hid hwm
  have HIn : Hid (∀ x ∈ X, 0 ≤ x ∧ x < L) := Lib.hid (fun x hx => hin x (hwm x hx))
  obtain ⟨hT', hX4⟩ := hwl
  clear hI0 S hLi hU hin hw hwm hRR
  go_enter Try.func42, Try.ntmps42
  go_wp2_with fail
  rw [← hW0]
  clear hW0
  refine C64.out.mono ?_
  rintro e W1 ⟨a5, c5, rfl, hS5, hA5, hb5⟩
  have hI1 : T42 W1.heap.size w ff init W1 (.slice none 0 0) 0 [] := by
    have h0 := HI0.out
    have hs := h0.size
    have hb6 := hb5.mono hs
    have cl : ∀ {j : Nat} {v : Value}, W0.cell? ⟨w.heap.size + 1, j, none⟩ = some v → W1.cell? ⟨w.heap.size + 1, j, none⟩ = some v := fun h => (hb6.cell (p := ⟨_, _, none⟩) (by simp only; omega)).trans h
    exact ⟨h0.below.trans (hb5.mono (by omega)), by have := hb5.size; omega, cl h0.cI, cl h0.cT, cl h0.cF, cl h0.cN, fun i => (hb6.frozen (p := ⟨_, _, none⟩) (by simp only; omega)).trans (h0.fz i), (hb6.block _ (by omega)).trans h0.res, World.ownsRow_nil _ _ _ _, by have := hb5.size; omega⟩
  have HI1 := Lib.hid hI1
  have hs1 := hI1.size
  have HX : Hid (∀ W : World, (∀ b, b < W1.heap.size → b ≠ w.heap.size + 1 → W.heap[b]? = W1.heap[b]?) → Seq W a5 X.length (ints X)) := Lib.hid (fun W hW => by
    rcases hS5 with h | ⟨b, off, ha, hc⟩
    · exact .inl h
    · rcases Nat.eq_zero_or_pos X.length with h0 | h0
      · exact .inl h0
      · refine .inr ⟨b, off, ha, fun i hi => (World.cell?_of_block (a := ⟨_, _, none⟩) (hW b (World.block_lt_of_cell? W1 _ (hc i hi)) ?_)).trans (hc i hi)⟩
        intro e
        have hs0 := HI0.out.size
        rcases hA5 with h | h | ⟨g, off2, h1, h2⟩
        · omega
        · rw [h] at ha
          rcases S0.out with h3 | ⟨b2, off2, ha2, hc2⟩
          · rcases Nat.eq_zero_or_pos Li.length with h4 | h4
            · have := List.length_pos_iff_exists_mem.1 h0
              obtain ⟨y, hy⟩ := this
              have := List.length_pos_of_mem (HMm.out y hy)
              omega
            · omega
          · rw [ha2] at ha
            injection ha with ha; injection ha with ha1 ha3
            rcases Nat.eq_zero_or_pos Li.length with h4 | h4
            · obtain ⟨y, hy⟩ := List.length_pos_iff_exists_mem.1 h0
              have := List.length_pos_of_mem (HMm.out y hy)
              omega
            · have := World.block_lt_of_cell? w _ (hc2 0 h4)
              simp only at this
              omega
        · rw [h1] at ha; injection ha with ha; injection ha with ha1 ha3; omega)
  clear hI1 hS5 hA5 hb5
  obtain ⟨m, hm⟩ : ∃ m, m = X.length := ⟨_, rfl⟩
  rw [← hm] at HX hX4 ⊢
  have HM := Lib.hid hm
  clear hm
  go_wp2
  go_loopw [21] (fun iv wr => ∃ k : Nat, k ≤ m ∧ iv = .int .i64 k ∧ Hid (∃ vI, T42 W1.heap.size w ff init wr vI 0 ((X.take k).map f) ∧ (∀ b, b < W1.heap.size → b ≠ w.heap.size + 1 → wr.heap[b]? = W1.heap[b]?) ∧ W1.heap.size ≤ wr.heap.size)) (fun iv _ => m - (intOf iv).toNat)
  case atStart => exact ⟨0, by omega, rfl, Lib.hid ⟨_, HI1.out, fun b _ _ => rfl, Nat.le_refl _⟩⟩
  case round =>
    obtain ⟨k, hk, rfl, hh⟩ := hrel
    obtain ⟨vI, hv, hbw, hws⟩ := hh.out
    have hsz := hv.size
    by_cases hlt : k < m
    · obtain ⟨b3, off3, hLa, hb3, hc3⟩ := (HX.out wr hbw).at k hlt
      have x0 := hc3 k hlt
      unfold ints at x0
      have hxm := HIn.out _ (getD_mem X 0 (show k < X.length by rw [← HM.out]; exact hlt))
      have htk := take_one X 0 k (show k < X.length by rw [← HM.out]; exact hlt)
      obtain ⟨x, hx⟩ : ∃ x, x = X.getD k 0 := ⟨_, rfl⟩
      rw [← hx] at x0 hxm htk
      obtain ⟨xn, rfl⟩ : ∃ n : Nat, x = n := ⟨x.toNat, by omega⟩
      have hwx : wr.cell? ⟨wb, xn, none⟩ = some (.int .i64 (f xn)) := by
        have h := HWi.out xn (by omega)
        exact (hv.below.cell (p := ⟨_, _, none⟩) (World.block_lt_of_cell? w _ h)).trans h
      obtain ⟨fx, hfx⟩ : ∃ z, z = f xn := ⟨_, rfl⟩
      rw [← hfx] at hwx
      have z4 := hv.cI
      have hf4 := hv.fz 0
      have hwbl : wb < w.heap.size := World.block_lt_of_cell? w _ (HWi.out xn (by omega))
      have hl9 : ((X.take k).map f).length = k := by rw [List.length_map, List.length_take, ← HM.out]; omega
      have HTk : Hid ((X.take (k + 1)).map f = (X.take k).map f ++ [fx]) := Lib.hid (by rw [htk, List.map_append, hfx]; rfl)
      have HoI : Hid (wr.ownsRow W1.heap.size 3 1 vI k (((X.take k).map f).map (Value.int .i64))) := Lib.hid (by have h := hv.own; rw [hl9] at h; exact h)
      have HXl : Hid (xn < L) := Lib.hid (by omega)
      have HV := Lib.hid hv
      have HBw := Lib.hid hbw
      clear hv hc3 htk hx hfx hl9 hbw hh hxm
      subst hLa
      obtain ⟨XI, hXI⟩ : ∃ l, l = ((X.take k).map f).map (Value.int .i64) := ⟨_, rfl⟩
      rw [← hXI] at HoI
      have HXI := Lib.hid hXI
      clear hXI
      go_wp2_with fail
      refine wp_region_K (S := fun w' => w'.cell? ⟨w.heap.size + 1, 0, none⟩ = some vI ∧ w'.cell? ⟨wb, xn, none⟩ = some (.int .i64 fx)) 9 (by kernel_rfl) (⟨z4, hwx⟩) (fun hHeld => ?_)
      refine wpAnyK_take (i := 0) (v := ?_) (by simp only [List.getElem?_toArray, List.getElem?_cons_succ, List.getElem?_cons_zero]; rfl) (by kernel_rfl) (by kernel_rfl) (by kernel_rfl) (by kernel_rfl) (by intro _ _ _ h; exact h) (Or.inl ⟨by rfl, ?_⟩) (by assumption) ?_
      rotate_left
      · intro w hSw; (try dsimp only at hSw); go_simp; try with_reducible rfl
      try simp only [Act.put, List.setIfInBounds_toArray, List.set_cons_zero, List.set_cons_succ]
      refine wpAnyK_take (i := 1) (v := ?_) (by simp only [List.getElem?_toArray, List.getElem?_cons_succ, List.getElem?_cons_zero]; rfl) (by kernel_rfl) (by kernel_rfl) (by kernel_rfl) (by kernel_rfl) (by intro _ _ _ h; exact h) (Or.inl ⟨by rfl, ?_⟩) (by assumption) ?_
      rotate_left
      · intro w hSw; (try dsimp only at hSw); go_simp; try with_reducible rfl
      try simp only [Act.put, List.setIfInBounds_toArray, List.set_cons_zero, List.set_cons_succ]
      refine wpAnyK_take (i := 2) (v := ?_) (by simp only [List.getElem?_toArray, List.getElem?_cons_succ, List.getElem?_cons_zero]; rfl) (by kernel_rfl) (by kernel_rfl) (by kernel_rfl) (by kernel_rfl) (by intro _ _ _ h; exact h) (Or.inl ⟨by rfl, ?_⟩) (by assumption) ?_
      rotate_left
      · intro w hSw; (try dsimp only at hSw); go_simp; try with_reducible rfl
      try simp only [Act.put, List.setIfInBounds_toArray, List.set_cons_zero, List.set_cons_succ]
      refine wpAnyK_take (i := 3) (v := ?_) (by simp only [List.getElem?_toArray, List.getElem?_cons_succ, List.getElem?_cons_zero]; rfl) (by kernel_rfl) (by kernel_rfl) (by kernel_rfl) (by kernel_rfl) (by intro _ _ _ h; exact h) (Or.inl ⟨by rfl, ?_⟩) (by assumption) ?_
      rotate_left
      · intro w hSw; (try dsimp only at hSw); go_simp; try with_reducible rfl
      try simp only [Act.put, List.setIfInBounds_toArray, List.set_cons_zero, List.set_cons_succ]
      refine wpAnyK_take (i := 4) (v := ?_) (by simp only [List.getElem?_toArray, List.getElem?_cons_succ, List.getElem?_cons_zero]; rfl) (by kernel_rfl) (by kernel_rfl) (by kernel_rfl) (by kernel_rfl) (by intro _ _ _ h; exact h) (Or.inl ⟨by rfl, ?_⟩) (by assumption) ?_
      rotate_left
      · intro w hSw; (try dsimp only at hSw); go_simp; rw [if_pos (by have := HXl.out; omega)]
      try simp only [Act.put, List.setIfInBounds_toArray, List.set_cons_zero, List.set_cons_succ]
      refine wpAnyK_take (i := 5) (v := ?_) (by simp only [List.getElem?_toArray, List.getElem?_cons_succ, List.getElem?_cons_zero]; rfl) (by kernel_rfl) (by kernel_rfl) (by kernel_rfl) (by kernel_rfl) (by intro _ _ _ h; exact h) (Or.inl ⟨by rfl, ?_⟩) (by assumption) ?_
      rotate_left
      · intro w hSw; (try dsimp only at hSw); go_simp; try with_reducible rfl
      try simp only [Act.put, List.setIfInBounds_toArray, List.set_cons_zero, List.set_cons_succ]
      refine wpAnyK_ready (rs := [6]) (by kernel_rfl) (by simp) ?_
      refine AllReadyK.cons (o := _) (by simp only [List.getElem?_toArray, List.getElem?_cons_succ, List.getElem?_cons_zero]; rfl) (fun K hK => ?_) AllReadyK.nil
      go_simp

      refine hK.out _ _ (fun _ => by exact ⟨cell_alloc _ z4, cell_alloc _ hwx⟩) (fun hH => ?_)
      have hHeld := hH (by decide)
      clear hK K hH
      try simp only [Act.put, List.setIfInBounds_toArray, List.set_cons_zero, List.set_cons_succ]
      refine wpAnyK_ready (rs := [7]) (by kernel_rfl) (by simp) ?_
      refine AllReadyK.cons (o := _) (by simp only [List.getElem?_toArray, List.getElem?_cons_succ, List.getElem?_cons_zero]; rfl) (fun K hK => ?_) AllReadyK.nil
      rw [if_pos (by rfl)]
      have hoI8 : (wr.drew.alloc (Obj.cells #[Value.int IntKind.i64 fx] 3)).ownsRow W1.heap.size 3 1 vI k XI := (own_drewN (k := 1) HoI.out).alloc _
      refine wp_append_lies _ (.tmp 26) (.tmp 31) 24 rfl W1.heap.size 3 i3 (.int .i64 0) 1 8 Try.underlying24 hi hz0 hz1 hz2 rfl (by decide) vI k XI rfl hoI8 ⟨wr.heap.size, 0, none⟩ 1 1 [.int .i64 fx] rfl rfl (one_new (cell_newW wr.drew _ _)) (by simp [Value.oneCell']) (by omega) (by unfold maxLen; omega) (by omega) (by simp; omega) (wr.heap.size + 1) (by simp) ?_
      intro gI cI w9 hoI9 hg9 hat9 hlt9
      have hgr9 : wr.grownBy w9 vI.ownBlock := ggrown (grownBy_drew _ _) (ggrown (World.grownBy_alloc _ _ _) hg9)
      have hb9' : Below W1.heap.size wr w9 := (Below.refl _ _).grown hgr9 (by omega) (fun k e => (HoI.out.lt k e).1)
      have y4 := (hb9'.cell (p := ⟨w.heap.size + 1, 0, none⟩) (by simp only; omega)).trans z4
      have y5 := (hb9'.frozen (p := ⟨w.heap.size + 1, 0, none⟩) (by simp only; omega)).trans hf4
      have yw := (hb9'.cell (p := ⟨wb, xn, none⟩) (by simp only; omega)).trans hwx
      refine hK.out _ _ (fun _ => by exact ⟨y4, yw⟩) (fun hH => ?_)
      have hHeld := hH (by decide)
      clear hK K hH
      try simp only [Act.put, List.setIfInBounds_toArray, List.set_cons_zero, List.set_cons_succ]
      refine wpAnyK_ready (rs := [8]) (by kernel_rfl) (by simp) ?_
      refine AllReadyK.cons (o := _) (by simp only [List.getElem?_toArray, List.getElem?_cons_succ, List.getElem?_cons_zero]; rfl) (fun K hK => ?_) AllReadyK.nil
      go_simp

      refine hK.out _ _ (fun _ => by exact ⟨y4, yw⟩) (fun hH => ?_)
      have hHeld := hH (by decide)
      clear hK K hH
      try simp only [Act.put, List.setIfInBounds_toArray, List.set_cons_zero, List.set_cons_succ]
      refine wpAnyK_ready (rs := [9]) (by kernel_rfl) (by simp) ?_
      refine AllReadyK.cons (o := _) (by simp only [List.getElem?_toArray, List.getElem?_cons_succ, List.getElem?_cons_zero]; rfl) (fun K hK => ?_) AllReadyK.nil
      go_simp

      refine hK.out _ _ (fun h => absurd rfl h) (fun _ => ?_)
      clear hK K
      try simp only [Act.put, List.setIfInBounds_toArray, List.set_cons_zero, List.set_cons_succ]
      refine wpAnyK_done (by kernel_rfl) ?_ _
      go_wp2
      go_roundw
      case rel =>
        refine ⟨k + 1, by omega, by go_num, Lib.hid ⟨.slice (some ⟨gI, 0, none⟩) (k + 1) cI, ?_, ?_, by rw [set_size]; exact Nat.le_trans hws hb9'.size⟩⟩
        · refine HV.out.next hb9' ?_
          rw [HTk.out, List.map_append, ← HXI.out]
          rw [List.length_append, List.length_map, List.length_take, ← HM.out, show min k m = k by omega]
          exact hoI9
        · intro b hb hne
          refine ((grownBy_set w9 (w.heap.size + 1) 0 _).block b (by have := hb9'.size; omega) (by intro e; injection e with e; exact hne e)).trans ?_
          exact ((hb9'.block b hb)).trans (HBw.out b hb hne)
      case measure => simp [intOf]; omega
    · obtain rfl : k = m := by omega
      have hoI := hv.own
      have hl9 : ((X.take k).map f).length = k := by rw [List.length_map, List.length_take, ← HM.out]; omega
      rw [hl9] at hoI
      obtain ⟨aI, cI, rfl, _, _, _⟩ := owns_seq hoI
      have zI := hv.cI
      have zT := hv.cT
      have zF := hv.cF
      have zN := hv.cN
      have zr := hv.res
      have zf0 := hv.fz 1
      have hbase := hv.base
      obtain ⟨zr0, zf⟩ := cells_at zr 0
      have zr1 := (cells_at zr 1).1
      have zr2 := (cells_at zr 2).1
      have zr3 := (cells_at zr 3).1
      have zf1 := (cells_at zr 1).2
      have zf2 := (cells_at zr 2).2
      have zf3 := (cells_at zr 3).2
      simp only [List.getElem?_toArray, List.getElem?_cons_zero, List.getElem?_cons_succ] at zr0 zr1 zr2 zr3
      have Hv := Lib.hid hv
      have HoI := Lib.hid hoI
      have hwi : IntKind.i64.wrap (T' : Int) = T' := Lib.wrap_i64_small T' (by omega)
      clear hv hoI zr hl9 hh hbw
      go_wp2_with fail
      have q0 := far (b := w.heap.size + 1) (i := 1) (u := Value.int IntKind.i64 T') zr0 (by omega)
      have q1 := far (b := w.heap.size + 1) (i := 1) (u := Value.int IntKind.i64 T') zr1 (by omega)
      have q2 := far (b := w.heap.size + 1) (i := 1) (u := Value.int IntKind.i64 T') zr2 (by omega)
      have q3 := far (b := w.heap.size + 1) (i := 1) (u := Value.int IntKind.i64 T') zr3 (by omega)
      refine bodyPost_ret (results_blk42 (b := w.heap.size + 1 + 1) rfl (set_keep (set_keep (set_keep (cell?_set_own q0) (by decide)) (by decide)) (by decide))
        (set_keep (set_keep (cell?_set_own (set_keep q1 (by decide))) (by decide)) (by decide))
        (set_keep (cell?_set_own (set_keep (set_keep q2 (by decide)) (by decide))) (by decide))
        (cell?_set_own (set_keep (set_keep (set_keep q3 (by decide)) (by decide)) (by decide)))) rfl ?_
      have hg := ggrown (ggrown (ggrown (grownBy_set (wr.setCell ⟨w.heap.size + 1, 1, none⟩ (.int .i64 T')) (w.heap.size + 1 + 1) 0 (.slice aI k cI)) (grownBy_set _ (w.heap.size + 1 + 1) 1 (.int .i64 T'))) (grownBy_set _ (w.heap.size + 1 + 1) 2 (.bool ff))) (grownBy_set _ (w.heap.size + 1 + 1) 3 (.bool init))
      have hg1 := grownBy_set wr (w.heap.size + 1) 1 (.int .i64 T')
      have hXt : X.take k = X := List.take_of_length_le (by rw [← HM.out]; exact Nat.le_refl _)
      have hXl : (X.map f).length = k := by rw [List.length_map, ← HM.out]
      refine ⟨⟨aI, cI, X.map f, T', ff, init⟩, ?_, ?_, ?_, ?_⟩
      · unfold toldR; rw [← HRR.out]
      · simp only [BlkV.val]; rw [hXl]
      · show World.ownsRow _ _ _ _ (.slice aI (X.map f).length cI) (X.map f).length _
        rw [hXl]
        have ho := HoI.out
        rw [hXt] at ho
        exact ((ho.kept hg1 (.inr (fun e => by have := (ho.lt _ e).1; omega))).kept hg (.inr (fun e => by have := (ho.lt _ e).1; omega))).base_le (by omega)
      · exact (Hv.out.below.grown hg1 (by omega) (fun k e => by injection e with e; omega)).grown hg (by rw [set_size]; omega) (fun k e => by injection e with e; omega)
end Go.Proofs.Ytibimdhmfchcoaa

/- N4 -/
/- What the reference makes of a table without node 0 is what the program makes of it. -/
namespace Go.Proofs.Ytibimdhmfchcoaa
open Go.RowKit
set_option linter.unusedVariables false
set_option linter.unusedSimpArgs false

theorem div_bit (T s : Nat) : (T / 2 ^ s % 2).testBit 0 = T.testBit s := by
  rw [Nat.testBit_eq_decide_div_mod_eq, Nat.testBit_eq_decide_div_mod_eq]
  simp
theorem tabTo_bit (T : Nat) (kept : List Nat) (i p : Nat) (hp : p < i) : (tabTo T kept i).testBit p = T.testBit (spreadTo kept p kept.length) := by
  induction i with
  | zero => omega
  | succ i ih =>
    unfold tabTo
    rw [Nat.testBit_or, Nat.mul_comm, Nat.testBit_two_pow_mul]
    rcases Nat.lt_or_ge p i with h | h
    · rw [ih h, decide_eq_false (by omega)]; simp
    · obtain rfl : p = i := by omega
      rw [Nat.testBit_lt_two_pow (tabTo_lt T kept p), decide_eq_true (Nat.le_refl _), Nat.sub_self, div_bit]; simp
theorem tabTo_high (T : Nat) (kept : List Nat) (i p : Nat) (hp : i ≤ p) : (tabTo T kept i).testBit p = false :=
  Nat.testBit_lt_two_pow (Nat.lt_of_lt_of_le (tabTo_lt T kept i) (Nat.pow_le_pow_right (by omega) hp))
theorem cnt_step {M i : Nat} (hM : M = 1 ∨ M = 2 ∨ M = 4 ∨ M = 8) : (i / M % 2 = 0 → (i + 1) / (2 * M) * M + min ((i + 1) % (2 * M)) M = i / (2 * M) * M + min (i % (2 * M)) M + 1 ∧ (i / (2 * M) * M + min (i % (2 * M)) M) / M * (2 * M) + (i / (2 * M) * M + min (i % (2 * M)) M) % M = i) ∧
    (i / M % 2 ≠ 0 → (i + 1) / (2 * M) * M + min ((i + 1) % (2 * M)) M = i / (2 * M) * M + min (i % (2 * M)) M) := by
  rcases hM with rfl | rfl | rfl | rfl <;> omega
theorem pow_case {k : Nat} (hk : k < 4) : 2 ^ k = 1 ∨ 2 ^ k = 2 ∨ 2 ^ k = 4 ∨ 2 ^ k = 8 := by
  match k, hk with
  | 0, _ => simp
  | 1, _ => simp
  | 2, _ => simp
  | 3, _ => simp
theorem dropTo_cnt (T k : Nat) (hk : k < 4) (i : Nat) : (dropTo T k i).2 = i / (2 * 2 ^ k) * 2 ^ k + min (i % (2 * 2 ^ k)) (2 ^ k) := by
  induction i with
  | zero => simp [dropTo]
  | succ i ih =>
    have hs := @cnt_step (2 ^ k) i (pow_case hk)
    unfold dropTo
    split
    · rename_i h
      dsimp only
      rw [ih, (hs.1 h).1]
    · rename_i h
      rw [ih, hs.2 h]
theorem dropTo_bit (T k : Nat) (hk : k < 4) (i p : Nat) (hp : p < (dropTo T k i).2) : (dropTo T k i).1.testBit p = T.testBit (p / 2 ^ k * (2 * 2 ^ k) + p % 2 ^ k) := by
  induction i with
  | zero => simp [dropTo] at hp
  | succ i ih =>
    have hs := @cnt_step (2 ^ k) i (pow_case hk)
    have hc := dropTo_cnt T k hk i
    by_cases h : i / 2 ^ k % 2 = 0
    · have e : dropTo T k (i + 1) = ((dropTo T k i).1 + (T / 2 ^ i % 2) * 2 ^ (dropTo T k i).2, (dropTo T k i).2 + 1) := by
        rw [dropTo, if_pos h]
      rw [e] at hp ⊢
      dsimp only at hp ⊢
      rw [Nat.add_comm, Nat.mul_comm, Nat.testBit_two_pow_mul_add _ (dropTo_lt T k i).1]
      split
      · rename_i h2; exact ih h2
      · rename_i h2
        have h3 : p = (dropTo T k i).2 := by omega
        rw [h3, Nat.sub_self, div_bit, hc, (hs.1 h).2]
    · have e : dropTo T k (i + 1) = dropTo T k i := by rw [dropTo, if_neg h]
      rw [e] at hp ⊢
      exact ih hp
/-! Where a table's inputs are nothing, as a pattern. -/
def zmap (ins : List Int) : List Int := ins.map (fun x => if x = 0 then 0 else 1)
def pats : Nat → List (List Int)
  | 0 => [[]]
  | n + 1 => (pats n).flatMap (fun l => [0 :: l, 1 :: l])
theorem zmap_mem (ins : List Int) : zmap ins ∈ pats ins.length := by
  induction ins with
  | nil => simp [zmap, pats]
  | cons x xs ih =>
    rw [List.length_cons]
    unfold pats
    refine List.mem_flatMap.2 ⟨zmap xs, ih, ?_⟩
    show (if x = 0 then (0 : Int) else 1) :: zmap xs ∈ _
    split <;> simp
theorem zmap_length (ins : List Int) : (zmap ins).length = ins.length := by simp [zmap]
theorem zmap_getD (ins : List Int) (k : Nat) : (zmap ins).getD k 0 = 0 ↔ ins.getD k 0 = 0 := by
  unfold zmap
  simp only [List.getD_eq_getElem?_getD, List.getElem?_map]
  cases ins[k]? with
  | none => simp
  | some x => by_cases h : x = 0 <;> simp [h]
theorem zmap_kept (ins : List Int) (k : Nat) : keptTo (zmap ins) k = keptTo ins k := by
  induction k with
  | zero => rfl
  | succ k ih =>
    unfold keptTo
    rw [ih]
    by_cases h : ins.getD k 0 = 0
    · rw [if_pos h, if_pos ((zmap_getD ins k).2 h)]
    · rw [if_neg h, if_neg (fun e => h ((zmap_getD ins k).1 e))]
theorem zmap_zero (ins : List Int) : zeroAt (zmap ins) = zeroAt ins := by
  unfold zeroAt zmap
  rw [List.findIdx_map]
  congr 1
  funext x
  by_cases h : x = 0 <;> simp [h]
theorem zmap_erase (ins : List Int) (k : Nat) : zmap (ins.eraseIdx k) = (zmap ins).eraseIdx k := by
  unfold zmap
  induction ins generalizing k with
  | nil => simp
  | cons x xs ih => cases k with
    | zero => simp
    | succ k => simp [ih k]
def chkF (l : List Int) : Bool :=
  !decide (zeroAt l < l.length) || (((keptTo (l.eraseIdx (zeroAt l)) (l.length - 1)).length == (keptTo l l.length).length) &&
    (List.range (2 ^ (keptTo l l.length).length)).all (fun i =>
      decide (spreadTo (keptTo (l.eraseIdx (zeroAt l)) (l.length - 1)) i (keptTo l l.length).length < 2 ^ (l.length - 1)) &&
      (spreadTo (keptTo l l.length) i (keptTo l l.length).length == spreadTo (keptTo (l.eraseIdx (zeroAt l)) (l.length - 1)) i (keptTo l l.length).length / 2 ^ zeroAt l * (2 * 2 ^ zeroAt l) + spreadTo (keptTo (l.eraseIdx (zeroAt l)) (l.length - 1)) i (keptTo l l.length).length % 2 ^ zeroAt l)))
def chkG (l : List Int) : Bool :=
  decide (zeroAt l < l.length) || (((keptTo l l.length).length == l.length) && (List.range (2 ^ l.length)).all (fun i => spreadTo (keptTo l l.length) i (keptTo l l.length).length == i))
theorem pats_ok : ∀ n, n < 5 → (pats n).all (fun l => chkF l && chkG l) = true := by decide +kernel
theorem zero_drop (ins : List Int) (h4 : ins.length ≤ 4) (hz : zeroAt ins < ins.length) :
    (keptTo (ins.eraseIdx (zeroAt ins)) (ins.length - 1)).length = (keptTo ins ins.length).length ∧
    ∀ i, i < 2 ^ (keptTo ins ins.length).length → spreadTo (keptTo (ins.eraseIdx (zeroAt ins)) (ins.length - 1)) i (keptTo ins ins.length).length < 2 ^ (ins.length - 1) ∧
      spreadTo (keptTo ins ins.length) i (keptTo ins ins.length).length = spreadTo (keptTo (ins.eraseIdx (zeroAt ins)) (ins.length - 1)) i (keptTo ins ins.length).length / 2 ^ zeroAt ins * (2 * 2 ^ zeroAt ins) + spreadTo (keptTo (ins.eraseIdx (zeroAt ins)) (ins.length - 1)) i (keptTo ins ins.length).length % 2 ^ zeroAt ins := by
  have h := pats_ok ins.length (by omega)
  rw [List.all_eq_true] at h
  have h := h _ (zmap_mem ins)
  rw [Bool.and_eq_true] at h
  have h := h.1
  unfold chkF at h
  simp only [zmap_length, zmap_zero, zmap_kept, ← zmap_erase, Bool.or_eq_true, Bool.not_eq_true', decide_eq_false_iff_not, Bool.and_eq_true, beq_iff_eq, List.all_eq_true, decide_eq_true_eq, List.mem_range] at h
  rcases h with h | h
  · exact absurd hz h
  · exact h
theorem zero_none (ins : List Int) (h4 : ins.length ≤ 4) (hz : ¬ zeroAt ins < ins.length) :
    (keptTo ins ins.length).length = ins.length ∧ ∀ i, i < 2 ^ ins.length → spreadTo (keptTo ins ins.length) i (keptTo ins ins.length).length = i := by
  have h := pats_ok ins.length (by omega)
  rw [List.all_eq_true] at h
  have h := h _ (zmap_mem ins)
  rw [Bool.and_eq_true] at h
  have h := h.2
  unfold chkG at h
  simp only [zmap_length, zmap_zero, zmap_kept, Bool.or_eq_true, Bool.and_eq_true, beq_iff_eq, List.all_eq_true, decide_eq_true_eq, List.mem_range] at h
  rcases h with h | h
  · exact absurd h hz
  · exact h
theorem without_tab (m : Nat) (ins : List Int) (T : Nat) (h4 : ins.length ≤ 4) (hm : ins.length ≤ m) (hT : T < 2 ^ (2 ^ ins.length)) : (without m ins T).2 = tabTo T (keptTo ins ins.length) (2 ^ (keptTo ins ins.length).length) := by
  induction m generalizing ins T with
  | zero =>
    obtain rfl : ins = [] := List.length_eq_zero_iff.1 (by omega)
    have hT : T < 2 := by simpa using hT
    show T = tabTo T [] 1
    unfold tabTo tabTo spreadTo
    simp
    omega
  | succ m ih =>
    by_cases hz : zeroAt ins < ins.length
    · have e : without (m + 1) ins T = without m (ins.eraseIdx (zeroAt ins)) (dropTo T (zeroAt ins) (2 ^ ins.length)).1 := by rw [without, if_pos hz]
      rw [e]
      have hl : (ins.eraseIdx (zeroAt ins)).length = ins.length - 1 := List.length_eraseIdx_of_lt hz
      obtain ⟨z1, z2⟩ := zero_drop ins h4 hz
      have hk : zeroAt ins < 4 := by omega
      have hcnt : (dropTo T (zeroAt ins) (2 ^ ins.length)).2 = 2 ^ (ins.length - 1) := by
        rw [dropTo_cnt _ _ hk]
        have h5 : ins.length = 1 ∨ ins.length = 2 ∨ ins.length = 3 ∨ ins.length = 4 := by omega
        have h6 : zeroAt ins = 0 ∨ zeroAt ins = 1 ∨ zeroAt ins = 2 ∨ zeroAt ins = 3 := by omega
        rcases h5 with h5 | h5 | h5 | h5 <;> rcases h6 with h6 | h6 | h6 | h6 <;> first | omega | (rw [h5, h6]; decide)
      have hlt := (dropTo_lt T (zeroAt ins) (2 ^ ins.length)).1
      rw [hcnt] at hlt
      rw [ih _ _ (by omega) (by omega) (by rw [hl]; exact hlt), hl, z1]
      refine Nat.eq_of_testBit_eq fun p => ?_
      rcases Nat.lt_or_ge p (2 ^ (keptTo ins ins.length).length) with hp | hp
      · obtain ⟨z3, z4⟩ := z2 p hp
        rw [tabTo_bit _ _ _ _ hp, tabTo_bit _ _ _ _ hp, z1, dropTo_bit T _ hk _ _ (by rw [hcnt]; exact z3), z4]
      · rw [tabTo_high _ _ _ _ hp, tabTo_high _ _ _ _ hp]
    · rw [without_none _ _ _ hz]
      obtain ⟨z1, z2⟩ := zero_none ins h4 hz
      rw [z1]
      refine Nat.eq_of_testBit_eq fun p => ?_
      rcases Nat.lt_or_ge p (2 ^ ins.length) with hp | hp
      · rw [tabTo_bit _ _ _ _ hp, z2 p hp]
      · rw [tabTo_high _ _ _ _ hp]
        exact Nat.testBit_lt_two_pow (Nat.lt_of_lt_of_le hT (Nat.pow_le_pow_right (by omega) hp))
theorem erase_zero (ins : List Int) : (ins.eraseIdx (zeroAt ins)).filter (fun x => x != 0) = ins.filter (fun x => x != 0) := by
  induction ins with
  | nil => rfl
  | cons x xs ih =>
    unfold zeroAt
    rw [List.findIdx_cons]
    by_cases h : x = 0
    · subst h; simp
    · have h2 : (x == 0) = false := by simpa using h
      have h3 : (x != 0) = true := by simpa using h
      rw [h2]
      simp only [cond_false, List.eraseIdx_cons_succ]
      rw [List.filter_cons, List.filter_cons]
      simp only [h3, if_true]
      exact congrArg _ ih
theorem without_ins (m : Nat) (ins : List Int) (T : Nat) (hm : ins.length ≤ m) : (without m ins T).1 = ins.filter (fun x => x != 0) := by
  induction m generalizing ins T with
  | zero =>
    obtain rfl : ins = [] := List.length_eq_zero_iff.1 (by omega)
    rfl
  | succ m ih =>
    by_cases hz : zeroAt ins < ins.length
    · rw [without, if_pos hz, ih _ _ (by rw [List.length_eraseIdx_of_lt hz]; omega), erase_zero]
    · rw [without_none _ _ _ hz]
      symm
      rw [List.filter_eq_self]
      intro x hx
      obtain ⟨j, hj, rfl⟩ := List.mem_iff_getElem.1 hx
      unfold zeroAt at hz
      have := List.not_of_lt_findIdx (p := fun x : Int => x == 0) (xs := ins) (i := j) (by omega)
      simpa using this
theorem liveTo_filter (g : Int → Int) (ins : List Int) (k : Nat) (hk : k ≤ ins.length) : liveTo g ins k = ((ins.take k).filter (fun x => x != 0)).map g := by
  induction k with
  | zero => rfl
  | succ k ih =>
    unfold liveTo
    rw [ih (by omega), take_one ins 0 k (by omega), List.filter_append, List.map_append]
    by_cases h : ins.getD k 0 = 0
    · rw [if_pos h, h]; simp
    · rw [if_neg h, List.filter_cons_of_pos (by simpa using h)]; rfl
theorem told_same (f g : Int → Int) (ins : List Int) (T : Nat) (ff init : Bool) (h4 : ins.length ≤ 4) (hT : T < 2 ^ (2 ^ ins.length)) (hfg : ∀ x ∈ ins, x ≠ 0 → f x = g x) : toldR f ins T ff init = toldD g ins T ff init := by
  unfold toldR toldD
  rw [without_ins 4 ins T h4, without_tab 4 ins T h4 h4 hT, liveTo_filter g ins _ (Nat.le_refl _), List.take_length]
  congr 1
  refine List.map_congr_left fun x hx => ?_
  obtain ⟨h1, h2⟩ := List.mem_filter.1 hx
  exact hfg x h1 (by simpa using h2)
end Go.Proofs.Ytibimdhmfchcoaa
