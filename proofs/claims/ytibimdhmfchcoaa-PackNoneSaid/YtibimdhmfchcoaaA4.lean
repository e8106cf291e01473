import Derived.Test.YtibimdhmfchcoaaA3
import Derived.Lib.QuoteBits
import Derived.Test.YtibimdhmfchcoaaA0
namespace Go.Proofs.Ytibimdhmfchcoaa
open Go.RowKit Go.Shelf Go.Maps
set_option linter.unusedVariables false
set_option linter.unusedSimpArgs false

theorem i64_and_nat (a b : Nat) (ha : a < 9223372036854775808) (hb : b < 9223372036854775808) : bits .and .i64 (a : Int) (b : Int) = ((a &&& b : Nat) : Int) := by
  show IntKind.i64.wrap ((BitVec.ofInt 64 (a : Int) &&& BitVec.ofInt 64 (b : Int)).toNat : Int) = _
  rw [BitVec.toNat_and, ofInt_u64 a (by omega), ofInt_u64 b (by omega)]
  have : a &&& b ≤ a := Nat.and_le_left
  exact Lib.wrap_i64_small _ (by omega)
theorem i64_or_nat (a b : Nat) (ha : a < 9223372036854775808) (hb : b < 9223372036854775808) : bits .or .i64 (a : Int) (b : Int) = ((a ||| b : Nat) : Int) := by
  show IntKind.i64.wrap ((BitVec.ofInt 64 (a : Int) ||| BitVec.ofInt 64 (b : Int)).toNat : Int) = _
  rw [BitVec.toNat_or, ofInt_u64 a (by omega), ofInt_u64 b (by omega)]
  have : a ||| b < 2 ^ 63 := Nat.or_lt_two_pow (by omega) (by omega)
  have e63 : (2 : Nat) ^ 63 = 9223372036854775808 := by rfl
  exact Lib.wrap_i64_small _ (by omega)
theorem bit_i64 (i j : Nat) (hi : i < 9223372036854775808) : bits .and .i64 ((i : Int) / 2 ^ j) 1 = ((i / 2 ^ j % 2 : Nat) : Int) := by
  have e : (i : Int) / 2 ^ j = ((i / 2 ^ j : Nat) : Int) := by push_cast; rfl
  have h : i / 2 ^ j ≤ i := Nat.div_le_self _ _
  rw [e, show (1 : Int) = ((1 : Nat) : Int) from rfl, i64_and_nat _ _ (by omega) (by omega), Nat.and_one_is_mod]
theorem bit_u64 (t : Nat) (j : Nat) (ht : t < 18446744073709551616) : bits .and .u64 ((t : Int) / 2 ^ j) 1 = ((t / 2 ^ j % 2 : Nat) : Int) := by
  have e : (t : Int) / 2 ^ j = ((t / 2 ^ j : Nat) : Int) := by push_cast; rfl
  have h : t / 2 ^ j ≤ t := Nat.div_le_self _ _
  rw [e, show (1 : Int) = ((1 : Nat) : Int) from rfl, u64_and_nat _ _ (by omega) (by omega), Nat.and_one_is_mod]
theorem wrap64_small (x : Nat) (h : x < 9223372036854775808) : wrap64 (x : Int) = x := by rw [← IntWalk.i64_left]; exact Lib.wrap_i64_small x h
theorem or_step (r b k : Nat) (hr : r < 4294967296) (hb : b < 2) (hk : k < 32) : bits .or .i64 (r : Int) (wrap64 ((b : Int) * 2 ^ k)) = ((r ||| b * 2 ^ k : Nat) : Int) := by
  have h2 : (2 : Nat) ^ k ≤ 2 ^ 31 := Nat.pow_le_pow_right (by omega) (by omega)
  have h3 : b * 2 ^ k ≤ 1 * 2 ^ 31 := Nat.mul_le_mul (by omega) h2
  have e : wrap64 ((b : Int) * 2 ^ k) = ((b * 2 ^ k : Nat) : Int) := by
    have e2 : (b : Int) * 2 ^ k = ((b * 2 ^ k : Nat) : Int) := by push_cast; rfl
    rw [e2, ← IntWalk.i64_left]; exact Lib.wrap_i64_small (b * 2 ^ k) (by omega)
  rw [e, i64_or_nat _ _ (by omega) (by omega)]

theorem grownBy_set (w : World) (b i : Nat) (v : Value) : w.grownBy (w.setCell ⟨b, i, none⟩ v) (some b) :=
  ⟨rfl, rfl, rfl, by simp [World.setCell], fun k hk hne => by simp [World.setCell, Array.getElem?_modify]; intro e; exact absurd (by rw [e]) hne⟩
theorem cell?_set_own {w : World} {b i : Nat} {v u : Value} (h : w.cell? ⟨b, i, none⟩ = some v) : (w.setCell ⟨b, i, none⟩ u).cell? ⟨b, i, none⟩ = some u := World.cell?_setCell_same _ _ _ h
theorem cell?_set_far {w : World} {b i c j : Nat} {u : Value} (h : c ≠ b) : (w.setCell ⟨b, i, none⟩ u).cell? ⟨c, j, none⟩ = w.cell? ⟨c, j, none⟩ := World.cell?_setCell_other (w := w) (v := u) (h := fun e => h (congrArg Addr.block e).symm)

theorem info3 : (Try.prog.info? 3).map (fun i => (i.zero, i.size, i.bytes)) = some (some (.int .i64 0), 1, 8) := by kernel_rfl

theorem cell_newW (X : World) (v : Value) (t : TypeId) : (X.alloc (Obj.cells #[v] t)).cell? ⟨X.heap.size, 0, none⟩ = some v := by simp
theorem alloc_top (w : World) (o : Obj) : (w.alloc o).heap[w.heap.size]? = some o := by
  have : (w.alloc o).heap = w.heap.push o := by first | rfl | simp [World.alloc_eq]
  rw [this]; simp
theorem heap_third (w : World) (a b c : Obj) : (((w.alloc a).alloc b).alloc c).heap[w.heap.size + 2]? = some c := by
  have h := alloc_top ((w.alloc a).alloc b) c
  rwa [show ((w.alloc a).alloc b).heap.size = w.heap.size + 2 by simp] at h
theorem one_new {w : World} {q : Nat} {v : Value} (h : w.cell? ⟨q, 0, none⟩ = some v) : ∀ j u, [v][j]? = some u → w.cell? (Addr.add ⟨q, 0, none⟩ j) = some u := by
  intro j u hj
  cases j with
  | zero => simp at hj; subst hj; rw [Addr.add_lit]; exact h
  | succ j => simp at hj
theorem ggrown {a b c : World} {g : Option Nat} (h : a.grownBy b g) (k : b.grownBy c g) : a.grownBy c g := grownBy_trans h k

structure BlkV where
  a : Option Addr
  c : Nat
  ins : List Int
  tab : Int
  ff : Bool
  init : Bool
instance : Inhabited BlkV := ⟨⟨none, 0, [], 0, false, false⟩⟩
abbrev BlkV.val (b : BlkV) : Value := .agg #[.slice b.a b.ins.length b.c, .int .i64 b.tab, .bool b.ff, .bool b.init]
abbrev BlkV.data (b : BlkV) : BlkD := ⟨b.ins, b.tab, b.ff, b.init⟩

/-- A block newly made. -/
def NewBlk (w : World) (d : BlkD) (e : Ending) (w' : World) : Prop :=
  ∃ b : BlkV, b.data = d ∧ e = .returned b.val ∧ w'.ownsRow w.heap.size 3 1 (.slice b.a b.ins.length b.c) b.ins.length (b.ins.map (Value.int .i64)) ∧ Below w.heap.size w w'

structure ToldInv (w : World) (g : Int → Int) (La : Option Addr) (Lc : Nat) (Li : List Int) (Lt : Int) (ff init : Bool) (wr : World) (k : Nat) (v7 vI : Value) (tv : Int) : Prop where
  below : Below w.heap.size w wr
  size : w.heap.size + 3 ≤ wr.heap.size
  cI : wr.cell? ⟨w.heap.size, 0, none⟩ = some vI
  cT : wr.cell? ⟨w.heap.size, 1, none⟩ = some (.int .i64 tv)
  cF : wr.cell? ⟨w.heap.size, 2, none⟩ = some (.bool ff)
  cN : wr.cell? ⟨w.heap.size, 3, none⟩ = some (.bool init)
  fz : ∀ i, wr.frozen? ⟨w.heap.size, i, none⟩ = false
  l0 : wr.cell? ⟨w.heap.size + 1, 0, none⟩ = some (.slice La Li.length Lc)
  l1 : wr.cell? ⟨w.heap.size + 1, 1, none⟩ = some (.int .u64 Lt)
  res : wr.heap[w.heap.size + 2]? = some (.cells #[.slice none 0 0, .int .i64 0, .bool false, .bool false] 43)
  own7 : wr.ownsRow (w.heap.size + 3) 3 1 v7 (keptTo Li k).length ((keptTo Li k).map fun (x : Nat) => Value.int .i64 (x : Int))
  ownI : wr.ownsRow (w.heap.size + 3) 3 1 vI (keptTo Li k).length ((liveTo g Li k).map (Value.int .i64))
  apart : ∀ b, v7.ownBlock = some b → vI.ownBlock ≠ some b

theorem cells_at {w : World} {b : Nat} {xs : Array Value} {t : TypeId} (h : w.heap[b]? = some (.cells xs t)) (j : Nat) : w.cell? ⟨b, j, none⟩ = xs[j]? ∧ w.frozen? ⟨b, j, none⟩ = false := by
  constructor
  · simp [World.cell?, h]
  · simp [World.frozen?, h]
theorem results_blk {tmps : Array Value} {w : World} {b : Nat} {a : Option Addr} {n c : Nat} {t : Int} {f i : Bool} (h : tmps[6]?.getD undef = .pointer (some ⟨b, 0, none⟩))
    (h0 : w.cell? ⟨b, 0, none⟩ = some (.slice a n c)) (h1 : w.cell? ⟨b, 1, none⟩ = some (.int .i64 t)) (h2 : w.cell? ⟨b, 2, none⟩ = some (.bool f)) (h3 : w.cell? ⟨b, 3, none⟩ = some (.bool i)) :
    (results Try.f39 tmps).run Try.prog w = .ok (.agg #[.slice a n c, .int .i64 t, .bool f, .bool i]) w := by
  simp [results, go_sem, h, h0, h1, h2, h3]
theorem set_keep {w : World} {b i j : Nat} {v u : Value} (h : w.cell? ⟨b, j, none⟩ = some v) (hne : j ≠ i) : (w.setCell ⟨b, i, none⟩ u).cell? ⟨b, j, none⟩ = some v := by
  rw [World.cell?_setCell_other (w := w) (v := u) (h := fun e => hne (congrArg Addr.off e).symm)]; exact h
theorem set_frozen (w : World) (b i c j : Nat) (u : Value) : (w.setCell ⟨b, i, none⟩ u).frozen? ⟨c, j, none⟩ = w.frozen? ⟨c, j, none⟩ := by simp
theorem set_size (w : World) (b i : Nat) (u : Value) : (w.setCell ⟨b, i, none⟩ u).heap.size = w.heap.size := by simp [World.setCell]

theorem ToldInv.next {w wr w9 : World} {g : Int → Int} {La : Option Addr} {Lc k k' : Nat} {Li : List Int} {Lt tv : Int} {ff init : Bool} {v7 vI v7' vI' : Value} (hv : ToldInv w g La Lc Li Lt ff init wr k v7 vI tv)
    (hb : Below (w.heap.size + 3) wr w9) (hs : wr.heap.size ≤ w9.heap.size)
    (h7 : w9.ownsRow (w.heap.size + 3) 3 1 v7' (keptTo Li k').length ((keptTo Li k').map fun (x : Nat) => Value.int .i64 (x : Int)))
    (hI : w9.ownsRow (w.heap.size + 3) 3 1 vI' (keptTo Li k').length ((liveTo g Li k').map (Value.int .i64)))
    (hap : ∀ b, v7'.ownBlock = some b → vI'.ownBlock ≠ some b) :
    ToldInv w g La Lc Li Lt ff init (w9.setCell ⟨w.heap.size, 0, none⟩ vI') k' v7' vI' tv := by
  have hsz := hv.size
  have hg := grownBy_set w9 w.heap.size 0 vI'
  have cl : ∀ {j : Nat} {v : Value}, wr.cell? ⟨w.heap.size, j, none⟩ = some v → w9.cell? ⟨w.heap.size, j, none⟩ = some v := fun h => (hb.cell (p := ⟨_, _, none⟩) (by simp only; omega)).trans h
  have fa : ∀ {v : Value} {n : Nat} {l : List Value}, w9.ownsRow (w.heap.size + 3) 3 1 v n l → v.ownBlock ≠ some w.heap.size := fun h e => by have := (h.lt _ e).1; omega
  refine ⟨(hv.below.trans (hb.mono (by omega))).grown hg (by omega) (fun k e => by injection e with e; omega), by rw [set_size]; omega, cell?_set_own (cl hv.cI), set_keep (cl hv.cT) (by decide), set_keep (cl hv.cF) (by decide), set_keep (cl hv.cN) (by decide), ?_, ?_, ?_, ?_, ?_, ?_, hap⟩
  · intro i
    rw [set_frozen]
    exact (hb.frozen (p := ⟨_, _, none⟩) (by simp only; omega)).trans (hv.fz i)
  · rw [cell?_set_far (by omega)]
    exact (hb.cell (p := ⟨_, _, none⟩) (by simp only; omega)).trans hv.l0
  · rw [cell?_set_far (by omega)]
    exact (hb.cell (p := ⟨_, _, none⟩) (by simp only; omega)).trans hv.l1
  · exact (hg.block _ (by omega) (by intro e; injection e with e; omega)).trans ((hb.block _ (by omega)).trans hv.res)
  · exact h7.kept hg (.inr (fa h7))
  · exact hI.kept hg (.inr (fa hI))

theorem ToldInv.tab {w wr : World} {g : Int → Int} {La : Option Addr} {Lc k : Nat} {Li : List Int} {Lt tv : Int} {ff init : Bool} {v7 vI : Value} (hv : ToldInv w g La Lc Li Lt ff init wr k v7 vI tv) (tv' : Int) :
    ToldInv w g La Lc Li Lt ff init (wr.setCell ⟨w.heap.size, 1, none⟩ (.int .i64 tv')) k v7 vI tv' := by
  have hsz := hv.size
  have hg := grownBy_set wr w.heap.size 1 (.int .i64 tv')
  have fa : ∀ {v : Value} {n : Nat} {l : List Value}, wr.ownsRow (w.heap.size + 3) 3 1 v n l → v.ownBlock ≠ some w.heap.size := fun h e => by have := (h.lt _ e).1; omega
  refine ⟨hv.below.grown hg (by omega) (fun k e => by injection e with e; omega), by rw [set_size]; omega, set_keep hv.cI (by decide), cell?_set_own hv.cT, set_keep hv.cF (by decide), set_keep hv.cN (by decide), ?_, ?_, ?_, ?_, ?_, ?_, hv.apart⟩
  · intro i; rw [set_frozen]; exact hv.fz i
  · rw [cell?_set_far (by omega)]; exact hv.l0
  · rw [cell?_set_far (by omega)]; exact hv.l1
  · exact (hg.block _ (by omega) (by intro e; injection e with e; omega)).trans hv.res
  · exact hv.own7.kept hg (.inr (fa hv.own7))
  · exact hv.ownI.kept hg (.inr (fa hv.ownI))

theorem ToldInv.drewN {w wr : World} {g : Int → Int} {La : Option Addr} {Lc k : Nat} {Li : List Int} {Lt tv : Int} {ff init : Bool} {v7 vI : Value} (hv : ToldInv w g La Lc Li Lt ff init wr k v7 vI tv) (m : Nat) :
    ToldInv w g La Lc Li Lt ff init (wr.drewN m) k v7 vI tv :=
  ⟨belowN hv.below, hv.size, hv.cI, hv.cT, hv.cF, hv.cN, hv.fz, hv.l0, hv.l1, hv.res, hv.own7, hv.ownI, hv.apart⟩
theorem ToldInv.drew {w wr : World} {g : Int → Int} {La : Option Addr} {Lc k : Nat} {Li : List Int} {Lt tv : Int} {ff init : Bool} {v7 vI : Value} (hv : ToldInv w g La Lc Li Lt ff init wr k v7 vI tv) :
    ToldInv w g La Lc Li Lt ff init wr.drew k v7 vI tv := hv.drewN 1
theorem shl1 (m : Nat) (hm : m ≤ 31) : wrap64 (1 * 2 ^ m) = ((2 ^ m : Nat) : Int) := by
  have h2 : (2 : Nat) ^ m ≤ 2 ^ 31 := Nat.pow_le_pow_right (by omega) (by omega)
  have e : (1 : Int) * 2 ^ m = ((2 ^ m : Nat) : Int) := by push_cast; omega
  rw [e, ← IntWalk.i64_left]; exact Lib.wrap_i64_small _ (by omega)

set_option maxRecDepth 100000 in
set_option maxHeartbeats 8000000 in
theorem told (w : World) (pk mb cnt : Nat) (g : Int → Int) (hm : IMap w mb cnt g) (hg : ∀ k, I64 (g k)) (hp : w.cell? ⟨pk, 7, none⟩ = some (.map (some mb))) (La : Option Addr) (Lc : Nat) (Li : List Int) (Lt : Int) (hU : U64 Lt) (hLi : ∀ x ∈ Li, I64 x) (S : Seq w La Li.length (ints Li)) (h4 : Li.length ≤ 4) (ff init : Bool) :
    Calls Try.prog 39 #[.pointer (some ⟨pk, 0, none⟩), .agg #[.slice none 0 0, .int .i64 0, .bool ff, .bool init], .agg #[.slice La Li.length Lc, .int .u64 Lt]] w (NewBlk w (toldD g Li Lt.toNat ff init)) := by
  have hpl : pk < w.heap.size := World.block_lt_of_cell? w _ hp
  have hmlt : mb < w.heap.size := by obtain ⟨D, ho, _⟩ := hm; exact ho.lt
  obtain ⟨i0, hi, hz0, hz1, hz2⟩ := info_parts info3
  obtain ⟨n, hn⟩ : ∃ n, n = Li.length := ⟨_, rfl⟩
  have HM := Lib.hid hm
  have HG := Lib.hid hg
  have HP := Lib.hid hp
  have HS := Lib.hid S
  have HLi := Lib.hid hLi
  have HU := Lib.hid hU
  have HN := Lib.hid hn
  rw [← hn] at HS h4 ⊢
  clear hm hg hp S hLi hU hn
  go_enter Try.func39, Try.ntmps39
  go_wp2
  obtain ⟨W0, hW0⟩ : ∃ W, W = ((w.alloc (Obj.cells #[Value.slice none 0 0, Value.int IntKind.i64 0, Value.bool ff, Value.bool init] 43)).alloc (Obj.cells #[Value.slice La n Lc, Value.int IntKind.u64 Lt] 41)).alloc (Obj.cells #[Value.slice none 0 0, Value.int IntKind.i64 0, Value.bool false, Value.bool false] 43) := ⟨_, rfl⟩
  have hI0 : ToldInv w g La Lc Li Lt ff init W0 0 (.slice none 0 0) (.slice none 0 0) 0 := by
    rw [hW0]
    refine ⟨(((Below.refl _ _).alloc (Nat.le_refl _) _).alloc (by simp) _).alloc (by simp; omega) _, by simp, ?_, ?_, ?_, ?_, ?_, ?_, ?_, heap_third _ _ _ _, World.ownsRow_nil _ _ _ _, World.ownsRow_nil _ _ _ _, by intro b h; simp [Value.ownBlock] at h⟩
    all_goals (try rw [← HN.out])
    all_goals (try intro i)
    all_goals (first | (simp [go_sem]; done) | (simp [go_sem] <;> omega) | skip)
  rw [← hW0]
  clear hW0
  have HI0 := Lib.hid hI0
  clear hI0
  go_loopw [17, 7] (fun iv v wr => ∃ k : Nat, k ≤ n ∧ iv = .int .i64 k ∧ Hid (∃ vI, ToldInv w g La Lc Li Lt ff init wr k v vI 0)) (fun iv _ _ => n - (intOf iv).toNat)
  case atStart => exact ⟨0, by omega, rfl, Lib.hid ⟨_, HI0.out⟩⟩
  case round =>
    obtain ⟨k, hk, rfl, hh⟩ := hrel
    obtain ⟨vI, hv⟩ := hh.out
    have hsz := hv.size
    by_cases hlt : k < n
    · obtain ⟨b3, off3, hLa, hb3, hc3⟩ := (HS.out.below hv.below (Nat.le_refl _)).at k hlt
      have x0 := hc3 k hlt
      unfold ints at x0
      have hxI := HLi.out _ (getD_mem Li 0 (show k < Li.length by rw [← HN.out]; exact hlt))
      have hkt : keptTo Li (k + 1) = if Li.getD k 0 = 0 then keptTo Li k else keptTo Li k ++ [k] := rfl
      have hlv : liveTo g Li (k + 1) = if Li.getD k 0 = 0 then liveTo g Li k else liveTo g Li k ++ [g (Li.getD k 0)] := rfl
      obtain ⟨x, hx⟩ : ∃ x, x = Li.getD k 0 := ⟨_, rfl⟩
      rw [← hx] at x0 hxI hkt hlv
      subst hLa
      by_cases hx0 : x = 0
      · subst hx0
        rw [if_pos rfl] at hkt hlv
        have HK := Lib.hid hkt
        have HL := Lib.hid hlv
        have HV := Lib.hid hv
        clear hkt hlv hx hc3 hv
        go_wp2
        go_roundw
        case rel => exact ⟨k + 1, by omega, by go_num, Lib.hid ⟨vI, by
          have h := HV.out
          exact ⟨h.below, h.size, h.cI, h.cT, h.cF, h.cN, h.fz, h.l0, h.l1, h.res, by rw [HK.out]; exact h.own7, by rw [HK.out, HL.out]; exact h.ownI, h.apart⟩⟩⟩
        case measure => simp [intOf]; omega
      · rw [if_neg hx0] at hkt hlv
        have hxb : (x != 0) = true := by simpa using hx0
        obtain ⟨gx, hgx⟩ : ∃ y, y = g x := ⟨_, rfl⟩
        have hgI := HG.out x
        rw [← hgx] at hlv hgI
        obtain ⟨n7, hn7⟩ : ∃ m, m = (keptTo Li k).length := ⟨_, rfl⟩
        obtain ⟨X7, hX7⟩ : ∃ l, l = (keptTo Li k).map fun (x : Nat) => Value.int .i64 (x : Int) := ⟨_, rfl⟩
        obtain ⟨XI, hXI⟩ : ∃ l, l = (liveTo g Li k).map (Value.int .i64) := ⟨_, rfl⟩
        have ho7 := hv.own7
        have hoI := hv.ownI
        rw [← hn7, ← hX7] at ho7
        rw [← hn7, ← hXI] at hoI
        have hn7b : n7 ≤ 4 := by have := keptTo_length Li k; omega
        have z4 := hv.cI
        have HK := Lib.hid hkt
        have HL := Lib.hid hlv
        have HV := Lib.hid hv
        have HX7 := Lib.hid hX7
        have HXI := Lib.hid hXI
        have HN7 := Lib.hid hn7
        have HX := Lib.hid hx
        have HGx := Lib.hid hgx
        have Ho7 := Lib.hid ho7
        have HoI := Lib.hid hoI
        clear hkt hlv hx hc3 hv hX7 hXI hn7 hgx hx0 ho7 hoI
        go_wp2_with (at_builtin; refine wpList_append_lies _ rfl _ _ _ rfl (w.heap.size + 3) 3 i0 (.int .i64 0) 1 8 Try.underlying24 hi hz0 hz1 hz2 rfl (by decide) u7 n7 X7 rfl (Ho7.out.alloc _) ⟨wr.heap.size, 0, none⟩ 1 1 [.int .i64 k] rfl rfl (one_new (cell_newW wr _ _)) (by simp [Value.oneCell']) (by omega) (by unfold maxLen; omega) (by omega) (by simp; omega) (wr.heap.size + 1) (by simp) ?_)
        intro g7 c7 w6 ho76 hg6 hat6 hlt6
        have hgr6 : wr.grownBy w6 u7.ownBlock := ggrown (World.grownBy_alloc _ _ _) hg6
        have hb6' : Below (w.heap.size + 3) wr w6 := (Below.refl _ _).grown hgr6 (by omega) (fun k e => (Ho7.out.lt k e).1)
        have hb6 : Below w.heap.size w w6 := HV.out.below.trans (hb6'.mono (by omega))
        have hs6 := hgr6.size
        have z4 := (hb6'.cell (p := ⟨_, _, none⟩) (by simp only; omega)).trans z4
        have hf4 := (hb6'.frozen (p := ⟨w.heap.size, 0, none⟩) (by simp only; omega)).trans (HV.out.fz 0)
        have zp := (hb6.cell (p := ⟨pk, 7, none⟩) (by simp only; omega)).trans HP.out
        have HB6 := Lib.hid hb6
        have HB6' := Lib.hid hb6'
        have hoI6 : w6.ownsRow (w.heap.size + 3) 3 1 vI n7 XI := HoI.out.kept hgr6 (by
          by_cases e : vI.ownBlock = none
          · exact .inl e
          · right
            intro e2
            obtain ⟨b, hb⟩ := Option.ne_none_iff_exists'.1 e
            exact HV.out.apart b (e2 ▸ hb) hb)
        have HoI6 := Lib.hid hoI6
        have HLk : Hid (∀ W, Below w.heap.size w W → (Instr.lookup 68 (.map (some mb)) (.int .i64 x) false).run Try.prog W = .ok (.int .i64 gx) W) := Lib.hid (fun W hW => by rw [HGx.out]; exact (HM.out.below hW hmlt).look x hxI)
        have Ho76 := Lib.hid ho76
        have Hat6 := Lib.hid hat6
        clear hb6 hb6' hoI6 ho76 hat6 hg6 hgr6
        go_wp2_with fail
        refine wp_region_K (S := fun w' => w'.cell? ⟨w.heap.size, 0, none⟩ = some vI ∧ w'.cell? ⟨pk, 7, none⟩ = some (.map (some mb)) ∧ (Instr.lookup 68 (.map (some mb)) (.int .i64 x) false).run Try.prog w' = .ok (.int .i64 gx) w') 11 (by kernel_rfl) (⟨z4, zp, HLk.out _ (HB6.out.trans (Below.refl _ _).drew)⟩) (fun hHeld => ?_)
        refine wpAnyK_take (i := 0) (v := ?_) (by simp only [List.getElem?_toArray, List.getElem?_cons_succ, List.getElem?_cons_zero]; rfl) (by kernel_rfl) (by kernel_rfl) (by kernel_rfl) (by kernel_rfl) (by intro _ _ _ h; exact h) (Or.inl ⟨by rfl, ?_⟩) (by assumption) ?_
        rotate_left
        · intro w hSw; (try dsimp only at hSw); go_simp; try with_reducible rfl
        try simp only [Act.put, List.setIfInBounds_toArray, List.set_cons_zero, List.set_cons_succ]
        refine wpAnyK_take (i := 1) (v := ?_) (by simp only [List.getElem?_toArray, List.getElem?_cons_succ, List.getElem?_cons_zero]; rfl) (by kernel_rfl) (by kernel_rfl) (by kernel_rfl) (by kernel_rfl) (by intro _ _ _ h; exact h) (Or.inl ⟨by rfl, ?_⟩) (by assumption) ?_
        rotate_left
        · intro w hSw; (try dsimp only at hSw); go_simp; try with_reducible rfl
        try simp only [Act.put, List.setIfInBounds_toArray, List.set_cons_zero, List.set_cons_succ]
        refine wpAnyK_take (i := 2) (v := ?_) (by simp only [List.getElem?_toArray, List.getElem?_cons_succ, List.getElem?_cons_zero]; rfl) (by kernel_rfl) (by kernel_rfl) (by kernel_rfl) (by kernel_rfl) (by intro _ _ _ h; exact h) (Or.inl ⟨by rfl, ?_⟩) (by assumption) ?_
        rotate_left
        · intro w hSw; (try dsimp only at hSw); go_simp; try with_reducible rfl
        try simp only [Act.put, List.setIfInBounds_toArray, List.set_cons_zero, List.set_cons_succ]
        refine wpAnyK_take (i := 3) (v := ?_) (by simp only [List.getElem?_toArray, List.getElem?_cons_succ, List.getElem?_cons_zero]; rfl) (by kernel_rfl) (by kernel_rfl) (by kernel_rfl) (by kernel_rfl) (by intro _ _ _ h; exact h) (Or.inl ⟨by rfl, ?_⟩) (by assumption) ?_
        rotate_left
        · intro w hSw; (try dsimp only at hSw); go_simp; try with_reducible rfl
        try simp only [Act.put, List.setIfInBounds_toArray, List.set_cons_zero, List.set_cons_succ]
        refine wpAnyK_take (i := 4) (v := ?_) (by simp only [List.getElem?_toArray, List.getElem?_cons_succ, List.getElem?_cons_zero]; rfl) (by kernel_rfl) (by kernel_rfl) (by kernel_rfl) (by kernel_rfl) (by intro _ _ _ h; exact h) (Or.inl ⟨by rfl, ?_⟩) (by assumption) ?_
        rotate_left
        · intro w hSw; (try dsimp only at hSw); go_simp; try with_reducible rfl
        try simp only [Act.put, List.setIfInBounds_toArray, List.set_cons_zero, List.set_cons_succ]
        refine wpAnyK_take (i := 5) (v := ?_) (by simp only [List.getElem?_toArray, List.getElem?_cons_succ, List.getElem?_cons_zero]; rfl) (by kernel_rfl) (by kernel_rfl) (by kernel_rfl) (by kernel_rfl) (by intro _ _ _ h; exact h) (Or.inl ⟨by rfl, ?_⟩) (by assumption) ?_
        rotate_left
        · intro w hSw; (try dsimp only at hSw); go_simp; try with_reducible rfl
        try simp only [Act.put, List.setIfInBounds_toArray, List.set_cons_zero, List.set_cons_succ]
        refine wpAnyK_take (i := 6) (v := ?_) (by simp only [List.getElem?_toArray, List.getElem?_cons_succ, List.getElem?_cons_zero]; rfl) (by kernel_rfl) (by kernel_rfl) (by kernel_rfl) (by kernel_rfl) (by intro _ _ _ h; exact h) (Or.inl ⟨by rfl, ?_⟩) (by assumption) ?_
        rotate_left
        · intro w hSw; (try dsimp only at hSw); go_simp; try with_reducible rfl
        try simp only [Act.put, List.setIfInBounds_toArray, List.set_cons_zero, List.set_cons_succ]
        refine wpAnyK_take (i := 7) (v := ?_) (by simp only [List.getElem?_toArray, List.getElem?_cons_succ, List.getElem?_cons_zero]; rfl) (by kernel_rfl) (by kernel_rfl) (by kernel_rfl) (by kernel_rfl) (by intro _ _ _ h; exact h) (Or.inl ⟨by rfl, ?_⟩) (by assumption) ?_
        rotate_left
        · intro w hSw; (try dsimp only at hSw); go_simp; first | with_reducible rfl | (simp only [hSw.2.2]; rfl) | (simp [hSw.2.2]; rfl)
        try simp only [Act.put, List.setIfInBounds_toArray, List.set_cons_zero, List.set_cons_succ]
        refine wpAnyK_ready (rs := [8]) (by kernel_rfl) (by simp) ?_
        refine AllReadyK.cons (o := _) (by simp only [List.getElem?_toArray, List.getElem?_cons_succ, List.getElem?_cons_zero]; rfl) (fun K hK => ?_) AllReadyK.nil
        go_simp

        refine hK.out _ _ (fun _ => by exact ⟨cell_alloc _ z4, cell_alloc _ zp, HLk.out _ (HB6.out.trans ((Below.refl _ _).drew.alloc (by have := HB6.out.size; show _ ≤ w6.heap.size; omega) _))⟩) (fun hH => ?_)
        have hHeld := hH (by decide)
        clear hK K hH
        try simp only [Act.put, List.setIfInBounds_toArray, List.set_cons_zero, List.set_cons_succ]
        refine wpAnyK_ready (rs := [9]) (by kernel_rfl) (by simp) ?_
        refine AllReadyK.cons (o := _) (by simp only [List.getElem?_toArray, List.getElem?_cons_succ, List.getElem?_cons_zero]; rfl) (fun K hK => ?_) AllReadyK.nil
        rw [if_pos (by rfl)]
        have hoI8 : (w6.drew.alloc (Obj.cells #[Value.int IntKind.i64 gx] 3)).ownsRow (w.heap.size + 3) 3 1 vI n7 XI := (own_drewN (k := 1) HoI6.out).alloc _
        refine wp_append_lies _ (.tmp 29) (.tmp 36) 24 rfl (w.heap.size + 3) 3 i0 (.int .i64 0) 1 8 Try.underlying24 hi hz0 hz1 hz2 rfl (by decide) vI n7 XI rfl hoI8 ⟨w6.heap.size, 0, none⟩ 1 1 [.int .i64 gx] rfl rfl (one_new (cell_newW w6.drew _ _)) (by simp [Value.oneCell']) (by omega) (by unfold maxLen; omega) (by omega) (by simp; omega) (w6.heap.size + 1) (by simp) ?_
        intro gI cI w9 hoI9 hg9 hat9 hlt9
        have hgr9 : w6.grownBy w9 vI.ownBlock := ggrown (grownBy_drew _ _) (ggrown (World.grownBy_alloc _ _ _) hg9)
        have hb9 : Below w.heap.size w w9 := HB6.out.grown hgr9 (by omega) (fun k e => by have := (HoI.out.lt k e).1; omega)
        have hb9' : Below (w.heap.size + 3) w6 w9 := (Below.refl _ _).grown hgr9 (by omega) (fun k e => (HoI.out.lt k e).1)
        have y4 := (hb9'.cell (p := ⟨_, _, none⟩) (by simp only; omega)).trans z4
        have y5 := (hb9'.frozen (p := ⟨w.heap.size, 0, none⟩) (by simp only; omega)).trans hf4
        have yp := (hb9'.cell (p := ⟨pk, 7, none⟩) (by simp only; omega)).trans zp
        refine hK.out _ _ (fun _ => by exact ⟨y4, yp, HLk.out _ hb9⟩) (fun hH => ?_)
        have hHeld := hH (by decide)
        clear hK K hH
        try simp only [Act.put, List.setIfInBounds_toArray, List.set_cons_zero, List.set_cons_succ]
        refine wpAnyK_take (i := 10) (v := ?_) (by simp only [List.getElem?_toArray, List.getElem?_cons_succ, List.getElem?_cons_zero]; rfl) (by kernel_rfl) (by kernel_rfl) (by kernel_rfl) (by kernel_rfl) (by intro _ _ _ h; exact h) (Or.inl ⟨by rfl, ?_⟩) (by assumption) ?_
        rotate_left
        · intro w hSw; (try dsimp only at hSw); go_simp; try with_reducible rfl
        try simp only [Act.put, List.setIfInBounds_toArray, List.set_cons_zero, List.set_cons_succ]
        refine wpAnyK_ready (rs := [11]) (by kernel_rfl) (by simp) ?_
        refine AllReadyK.cons (o := _) (by simp only [List.getElem?_toArray, List.getElem?_cons_succ, List.getElem?_cons_zero]; rfl) (fun K hK => ?_) AllReadyK.nil
        go_simp

        refine hK.out _ _ (fun h => absurd rfl h) (fun _ => ?_)
        clear hK K
        try simp only [Act.put, List.setIfInBounds_toArray, List.set_cons_zero, List.set_cons_succ]
        refine wpAnyK_done (by kernel_rfl) ?_ _
        go_wp2
        go_roundw
        case rel =>
          refine ⟨k + 1, by omega, by go_num, Lib.hid ⟨.slice (some ⟨gI, 0, none⟩) (n7 + 1) cI, ?_⟩⟩
          have hlen : (keptTo Li (k + 1)).length = n7 + 1 := by rw [HK.out, List.length_append, ← HN7.out]; rfl
          have hapt := HV.out.apart
          refine HV.out.next (HB6'.out.trans hb9') (by have := hgr9.size; omega) ?_ ?_ ?_
          · rw [hlen, HK.out, List.map_append, ← HX7.out]
            refine Ho76.out.kept hgr9 (.inr ?_)
            intro e
            simp only [Value.ownBlock] at e
            rcases Hat6.out with h | h
            · exact hapt _ h e.symm
            · have := (HoI.out.lt _ e.symm).2; omega
          · rw [hlen, HL.out, List.map_append, ← HXI.out]; exact hoI9
          · intro b hb e
            simp only [Value.ownBlock, Option.some.injEq] at hb e
            subst hb
            rcases hat9 with h | h
            · rcases Hat6.out with h' | h'
              · exact hapt _ h' (by rw [h, e])
              · have := (HoI.out.lt _ h).2; omega
            · omega
        case measure => simp [intOf]; omega
    · obtain rfl : k = n := by omega
      obtain ⟨K, hK⟩ : ∃ K, K = keptTo Li k := ⟨_, rfl⟩
      have hK4 : ∀ x ∈ K, x < 4 := fun x hx => by have := keptTo_lt Li k x (hK ▸ hx); omega
      obtain ⟨m, hm⟩ : ∃ m, m = K.length := ⟨_, rfl⟩
      have hm4 : m ≤ 4 := by have := keptTo_length Li k; rw [← hK, ← hm] at this; omega
      obtain ⟨a7, c7, rfl, S7, _, _⟩ := owns_seq (l := K.map fun (x : Nat) => (x : Int)) (by have h := hv.own7; rw [← hK, ← hm] at h; rw [List.map_map]; exact h)
      have hsh := shl1 m (by omega)
      rw [Int.one_mul] at hsh
      have HS7 := Lib.hid S7
      have HK := Lib.hid hK
      have HK4 := Lib.hid hK4
      have HM' := Lib.hid hm
      have HV := Lib.hid hv
      clear S7 hK hK4 hm hv
      obtain ⟨W1, rfl⟩ : ∃ W1, W1 = wr := ⟨_, rfl⟩
      obtain ⟨M, hMM⟩ : ∃ M, M = 2 ^ m := ⟨_, rfl⟩
      rw [← hMM] at hsh
      have HMM := Lib.hid hMM
      clear hMM
      obtain ⟨v7, hv7⟩ : ∃ v, v = Value.slice a7 m c7 := ⟨_, rfl⟩
      go_wp2
      rw [hsh]
      clear hsh
      go_loopw [43] (fun iv wr => ∃ i : Nat, i ≤ M ∧ iv = .int .i64 i ∧ Hid (ToldInv w g La Lc Li Lt ff init wr k (.slice a7 m c7) vI (tabTo Lt.toNat K i : Nat))) (fun iv _ => M - (intOf iv).toNat)
      case atStart => exact ⟨0, by omega, rfl, HV⟩
      case round =>
        obtain ⟨i, hiM, rfl, hh⟩ := hrel
        by_cases hlt : i < M
        · obtain ⟨tv, htv⟩ : ∃ t : Int, t = (tabTo Lt.toNat K i : Nat) := ⟨_, rfl⟩
          rw [← htv] at hh
          have xT := hh.out.cT
          have x1 := hh.out.l1
          have xF := hh.out.fz 1
          have hsz' := hh.out.size
          have Htv := Lib.hid htv
          clear htv
          obtain ⟨Wi, rfl⟩ : ∃ Wi, Wi = wr := ⟨_, rfl⟩
          go_wp2
          go_loop [11, 48] (fun at_ j => ∃ q : Nat, q ≤ m ∧ j = .int .i64 q ∧ at_ = .int .i64 (spreadTo K i q : Nat)) (fun _ j => m - (intOf j).toNat)
          case atStart => exact ⟨0, by omega, rfl, rfl⟩
          case round =>
            obtain ⟨q, hqm, rfl, rfl⟩ := hrel
            by_cases hlq : q < m
            · have hS7 : Seq Wi a7 m (ints (K.map fun (x : Nat) => (x : Int))) := by
                obtain ⟨a, c, e, S, _, _⟩ := owns_seq (l := K.map fun (x : Nat) => (x : Int)) (by have h := hh.out.own7; rw [← HK.out, ← HM'.out] at h; rw [List.map_map]; exact h)
                injection e with e1 e2 e3
                subst e1; exact S
              obtain ⟨b7, off7, ha7, hb7, hc7⟩ := hS7.at q hlq
              have x7 := hc7 q hlq
              unfold ints at x7
              have hkq := HK4.out (K.getD q 0) (getD_mem K 0 (show q < K.length by rw [← HM'.out]; exact hlq))
              rw [show (K.map fun (x : Nat) => (x : Int)).getD q 0 = ((K.getD q 0 : Nat) : Int) by simp [List.getD_eq_getElem?_getD, List.getElem?_map]; cases K[q]? <;> rfl] at x7
              have hst : spreadTo K i (q + 1) = spreadTo K i q ||| ((i / 2 ^ q % 2) * 2 ^ (K.getD q 0)) := rfl
              have hsl := spreadTo_lt K i q HK4.out (by rw [← HM'.out]; omega)
              obtain ⟨kq, hkk⟩ : ∃ z, z = K.getD q 0 := ⟨_, rfl⟩
              obtain ⟨sq, hsq⟩ : ∃ z, z = spreadTo K i q := ⟨_, rfl⟩
              rw [← hkk] at hkq x7 hst
              rw [← hsq] at hst hsl ⊢
              have Hst := Lib.hid hst
              clear hc7 hS7 hst hkk hsq
              subst ha7
              go_wp2
              go_round
              case rel =>
                have hM16 : M ≤ 16 := by
                  have h24 : (2 : Nat) ^ m ≤ 2 ^ 4 := Nat.pow_le_pow_right (by omega) hm4
                  have := HMM.out
                  omega
                refine ⟨q + 1, by omega, by go_num, ?_⟩
                rw [bit_i64 i q (by omega), or_step sq (i / 2 ^ q % 2) kq (by omega) (by omega) (by omega), Hst.out]
              case measure => simp [intOf]; omega
            · obtain rfl : q = m := by omega
              obtain ⟨sp, hsp⟩ : ∃ z, z = spreadTo K i q := ⟨_, rfl⟩
              have hspl := spreadTo_lt K i q HK4.out (by rw [← HM'.out]; omega)
              rw [← hsp] at hspl ⊢
              have Hsp := Lib.hid hsp
              clear hsp
              obtain ⟨Y1, Y2⟩ : U64 Lt := HU.out
              go_wp2_with fail
              refine wp_region_K (S := fun w' => w'.cell? ⟨w.heap.size, 1, none⟩ = some (.int .i64 tv) ∧ w'.cell? ⟨w.heap.size + 1, 1, none⟩ = some (.int .u64 Lt) ∧ w'.frozen? ⟨w.heap.size, 1, none⟩ = false) 12 (by kernel_rfl) (⟨xT, x1, xF⟩) (fun hHeld => ?_)
              refine wpAnyK_take (i := 0) (v := ?_) (by simp only [List.getElem?_toArray, List.getElem?_cons_succ, List.getElem?_cons_zero]; rfl) (by kernel_rfl) (by kernel_rfl) (by kernel_rfl) (by kernel_rfl) (by intro _ _ _ h; exact h) (Or.inl ⟨by rfl, ?_⟩) (by assumption) ?_
              rotate_left
              · intro w hSw; (try dsimp only at hSw); go_simp; try with_reducible rfl
              try simp only [Act.put, List.setIfInBounds_toArray, List.set_cons_zero, List.set_cons_succ]
              refine wpAnyK_take (i := 1) (v := ?_) (by simp only [List.getElem?_toArray, List.getElem?_cons_succ, List.getElem?_cons_zero]; rfl) (by kernel_rfl) (by kernel_rfl) (by kernel_rfl) (by kernel_rfl) (by intro _ _ _ h; exact h) (Or.inl ⟨by rfl, ?_⟩) (by assumption) ?_
              rotate_left
              · intro w hSw; (try dsimp only at hSw); go_simp; try with_reducible rfl
              try simp only [Act.put, List.setIfInBounds_toArray, List.set_cons_zero, List.set_cons_succ]
              refine wpAnyK_take (i := 2) (v := ?_) (by simp only [List.getElem?_toArray, List.getElem?_cons_succ, List.getElem?_cons_zero]; rfl) (by kernel_rfl) (by kernel_rfl) (by kernel_rfl) (by kernel_rfl) (by intro _ _ _ h; exact h) (Or.inl ⟨by rfl, ?_⟩) (by assumption) ?_
              rotate_left
              · intro w hSw; (try dsimp only at hSw); go_simp; try with_reducible rfl
              try simp only [Act.put, List.setIfInBounds_toArray, List.set_cons_zero, List.set_cons_succ]
              refine wpAnyK_take (i := 3) (v := ?_) (by simp only [List.getElem?_toArray, List.getElem?_cons_succ, List.getElem?_cons_zero]; rfl) (by kernel_rfl) (by kernel_rfl) (by kernel_rfl) (by kernel_rfl) (by intro _ _ _ h; exact h) (Or.inl ⟨by rfl, ?_⟩) (by assumption) ?_
              rotate_left
              · intro w hSw; (try dsimp only at hSw); go_simp; try with_reducible rfl
              try simp only [Act.put, List.setIfInBounds_toArray, List.set_cons_zero, List.set_cons_succ]
              refine wpAnyK_take (i := 4) (v := ?_) (by simp only [List.getElem?_toArray, List.getElem?_cons_succ, List.getElem?_cons_zero]; rfl) (by kernel_rfl) (by kernel_rfl) (by kernel_rfl) (by kernel_rfl) (by intro _ _ _ h; exact h) (Or.inl ⟨by rfl, ?_⟩) (by assumption) ?_
              rotate_left
              · intro w hSw; (try dsimp only at hSw); go_simp; try with_reducible rfl
              try simp only [Act.put, List.setIfInBounds_toArray, List.set_cons_zero, List.set_cons_succ]
              refine wpAnyK_take (i := 5) (v := ?_) (by simp only [List.getElem?_toArray, List.getElem?_cons_succ, List.getElem?_cons_zero]; rfl) (by kernel_rfl) (by kernel_rfl) (by kernel_rfl) (by kernel_rfl) (by intro _ _ _ h; exact h) (Or.inl ⟨by rfl, ?_⟩) (by assumption) ?_
              rotate_left
              · intro w hSw; (try dsimp only at hSw); go_simp; try with_reducible rfl
              try simp only [Act.put, List.setIfInBounds_toArray, List.set_cons_zero, List.set_cons_succ]
              refine wpAnyK_take (i := 6) (v := ?_) (by simp only [List.getElem?_toArray, List.getElem?_cons_succ, List.getElem?_cons_zero]; rfl) (by kernel_rfl) (by kernel_rfl) (by kernel_rfl) (by kernel_rfl) (by intro _ _ _ h; exact h) (Or.inl ⟨by rfl, ?_⟩) (by assumption) ?_
              rotate_left
              · intro w hSw; (try dsimp only at hSw); go_simp; try with_reducible rfl
              try simp only [Act.put, List.setIfInBounds_toArray, List.set_cons_zero, List.set_cons_succ]
              refine wpAnyK_take (i := 7) (v := ?_) (by simp only [List.getElem?_toArray, List.getElem?_cons_succ, List.getElem?_cons_zero]; rfl) (by kernel_rfl) (by kernel_rfl) (by kernel_rfl) (by kernel_rfl) (by intro _ _ _ h; exact h) (Or.inl ⟨by rfl, ?_⟩) (by assumption) ?_
              rotate_left
              · intro w hSw; (try dsimp only at hSw); go_simp; try with_reducible rfl
              try simp only [Act.put, List.setIfInBounds_toArray, List.set_cons_zero, List.set_cons_succ]
              refine wpAnyK_take (i := 8) (v := ?_) (by simp only [List.getElem?_toArray, List.getElem?_cons_succ, List.getElem?_cons_zero]; rfl) (by kernel_rfl) (by kernel_rfl) (by kernel_rfl) (by kernel_rfl) (by intro _ _ _ h; exact h) (Or.inl ⟨by rfl, ?_⟩) (by assumption) ?_
              rotate_left
              · intro w hSw; (try dsimp only at hSw); go_simp; try with_reducible rfl
              try simp only [Act.put, List.setIfInBounds_toArray, List.set_cons_zero, List.set_cons_succ]
              refine wpAnyK_take (i := 9) (v := ?_) (by simp only [List.getElem?_toArray, List.getElem?_cons_succ, List.getElem?_cons_zero]; rfl) (by kernel_rfl) (by kernel_rfl) (by kernel_rfl) (by kernel_rfl) (by intro _ _ _ h; exact h) (Or.inl ⟨by rfl, ?_⟩) (by assumption) ?_
              rotate_left
              · intro w hSw; (try dsimp only at hSw); go_simp; try with_reducible rfl
              try simp only [Act.put, List.setIfInBounds_toArray, List.set_cons_zero, List.set_cons_succ]
              refine wpAnyK_take (i := 10) (v := ?_) (by simp only [List.getElem?_toArray, List.getElem?_cons_succ, List.getElem?_cons_zero]; rfl) (by kernel_rfl) (by kernel_rfl) (by kernel_rfl) (by kernel_rfl) (by intro _ _ _ h; exact h) (Or.inl ⟨by rfl, ?_⟩) (by assumption) ?_
              rotate_left
              · intro w hSw; (try dsimp only at hSw); go_simp; try with_reducible rfl
              try simp only [Act.put, List.setIfInBounds_toArray, List.set_cons_zero, List.set_cons_succ]
              refine wpAnyK_take (i := 11) (v := ?_) (by simp only [List.getElem?_toArray, List.getElem?_cons_succ, List.getElem?_cons_zero]; rfl) (by kernel_rfl) (by kernel_rfl) (by kernel_rfl) (by kernel_rfl) (by intro _ _ _ h; exact h) (Or.inl ⟨by rfl, ?_⟩) (by assumption) ?_
              rotate_left
              · intro w hSw; (try dsimp only at hSw); go_simp; try with_reducible rfl
              try simp only [Act.put, List.setIfInBounds_toArray, List.set_cons_zero, List.set_cons_succ]
              refine wpAnyK_ready (rs := [12]) (by kernel_rfl) (by simp) ?_
              refine AllReadyK.cons (o := _) (by simp only [List.getElem?_toArray, List.getElem?_cons_succ, List.getElem?_cons_zero]; rfl) (fun K hK => ?_) AllReadyK.nil
              go_simp

              refine hK.out _ _ (fun h => absurd rfl h) (fun _ => ?_)
              clear hK K
              try simp only [Act.put, List.setIfInBounds_toArray, List.set_cons_zero, List.set_cons_succ]
              refine wpAnyK_done (by kernel_rfl) ?_ _

              have hwi0 :  wrap64 ((i : Int) + 1) = (i : Int) + 1 := by
                have h24 : (2 : Nat) ^ q ≤ 2 ^ 4 := Nat.pow_le_pow_right (by omega) hm4
                have := HMM.out
                have h := wrap64_small (i + 1) (by omega)
                rw [← Int.natCast_succ]; exact h
              have Hwi := Lib.hid hwi0
              clear hwi0
              go_wp2
              go_roundw
              case rel =>
                refine ⟨i + 1, by omega, by rw [Hwi.out]; go_num, Lib.hid ?_⟩
                have e : bits .or .i64 tv (wrap64 (wrap64 (bits .and .u64 (Lt / 2 ^ sp) 1) * 2 ^ min i 64)) = ((tabTo Lt.toNat K (i + 1) : Nat) : Int) := by
                  have hti := tabTo_lt Lt.toNat K i
                  have hM16 : M ≤ 16 := by
                    have h24 : (2 : Nat) ^ q ≤ 2 ^ 4 := Nat.pow_le_pow_right (by omega) hm4
                    have := HMM.out
                    omega
                  have h2 : (2 : Nat) ^ i ≤ 2 ^ 15 := Nat.pow_le_pow_right (by omega) (by omega)
                  have hs : tabTo Lt.toNat K (i + 1) = tabTo Lt.toNat K i ||| ((Lt.toNat / 2 ^ sp % 2) * 2 ^ i) := by rw [Hsp.out, HM'.out]; rfl
                  rw [hs, Htv.out]
                  obtain ⟨T, hT⟩ : ∃ T, T = Lt.toNat := ⟨_, rfl⟩
                  have hLt : Lt = (T : Int) := by omega
                  rw [← hT] at hti ⊢
                  rw [hLt, bit_u64 T sp (by omega), show min i 64 = i by omega, wrap64_small (T / 2 ^ sp % 2) (by omega), or_step _ _ i (by omega) (by omega) (by omega)]
                rw [e]
                exact (hh.out.tab _).drew
              case measure => rw [Hwi.out]; simp [intOf]; omega
        · obtain rfl : i = M := by omega
          have hv := hh.out
          have hoI := hv.ownI
          rw [← HK.out, ← HM'.out] at hoI
          obtain ⟨aI, cI, rfl, _, _, _⟩ := owns_seq hoI
          have zI := hv.cI
          have zT := hv.cT
          have zF := hv.cF
          have zN := hv.cN
          have zr := hv.res
          have hsz' := hv.size
          obtain ⟨zr0, zf⟩ := cells_at zr 0
          have zr1 := (cells_at zr 1).1
          have zr2 := (cells_at zr 2).1
          have zr3 := (cells_at zr 3).1
          have zf1 := (cells_at zr 1).2
          have zf2 := (cells_at zr 2).2
          have zf3 := (cells_at zr 3).2
          have Hv := Lib.hid hv
          have HoI := Lib.hid hoI
          clear hv hoI zr
          obtain ⟨tv, htv⟩ : ∃ t : Int, t = (tabTo Lt.toNat K i : Nat) := ⟨_, rfl⟩
          rw [← htv] at zT
          have Htv := Lib.hid htv
          clear htv
          simp only [List.getElem?_toArray, List.getElem?_cons_zero, List.getElem?_cons_succ] at zr0 zr1 zr2 zr3
          go_wp2
          try simp only [Exit.inBlock, Exit.then]
          refine bodyPost_ret (results_blk (b := w.heap.size + 1 + 1) rfl (set_keep (set_keep (set_keep (cell?_set_own zr0) (by decide)) (by decide)) (by decide))
            (set_keep (set_keep (cell?_set_own (set_keep zr1 (by decide))) (by decide)) (by decide))
            (set_keep (cell?_set_own (set_keep (set_keep zr2 (by decide)) (by decide))) (by decide))
            (cell?_set_own (set_keep (set_keep (set_keep zr3 (by decide)) (by decide)) (by decide)))) rfl ?_
          have hg := ggrown (ggrown (ggrown (grownBy_set wr (w.heap.size + 1 + 1) 0 (.slice aI m cI)) (grownBy_set _ (w.heap.size + 1 + 1) 1 (.int .i64 tv))) (grownBy_set _ (w.heap.size + 1 + 1) 2 (.bool ff))) (grownBy_set _ (w.heap.size + 1 + 1) 3 (.bool init))
          have hlen : (liveTo g Li k).length = m := by rw [liveTo_length, ← HK.out, ← HM'.out]
          refine ⟨⟨aI, cI, liveTo g Li k, tv, ff, init⟩, ?_, ?_, ?_, ?_⟩
          · simp only [toldD, BlkV.data]
            rw [← HN.out, ← HK.out, ← HM'.out, ← HMM.out, Htv.out]
          · simp only [BlkV.val]; rw [hlen]
          · show World.ownsRow _ _ _ _ (.slice aI (liveTo g Li k).length cI) (liveTo g Li k).length _
            rw [hlen]
            exact (HoI.out.kept hg (.inr (fun e => by have := (HoI.out.lt _ e).1; omega))).base_le (by omega)
          · exact Hv.out.below.grown hg (by omega) (fun k e => by injection e with e; omega)
end Go.Proofs.Ytibimdhmfchcoaa
