import Derived.Test.YtibimdhmfchcoaaA5
namespace Go.Proofs.Ytibimdhmfchcoaa
open Go.RowKit Go.Shelf Go.Maps
set_option linter.unusedVariables false
set_option linter.unusedSimpArgs false

/-- slices.Index -/
theorem index63 (w : World) (a : Option Addr) (n c : Nat) (l : List Int) (hlen : l.length = n) (S : Seq w a n (ints l)) (hn : n ≤ 9223372036854775807) (v : Int) :
    Calls Try.prog 63 #[.slice a n c, .int .i64 v] w fun e w' => e = .returned (.int .i64 (idxBy l (fun x => v == x))) ∧ w = w' := by
  have HS := Lib.hid S
  have HL := Lib.hid hlen
  clear S hlen
  go_enter Try.func63, Try.ntmps63
  go_wp2
  go_loop [8] (fun i => ∃ k : Nat, k ≤ n ∧ i = .int .i64 k ∧ Hid (∀ j, j < k → (fun x => v == x) (l.getD j 0) = false)) (fun i => n - (intOf i).toNat)
  case atStart => exact ⟨0, by omega, rfl, fun j hj => by omega⟩
  case round =>
    obtain ⟨k, hk, rfl, hh⟩ := hrel
    by_cases hlt : k < n
    · obtain ⟨b, off, rfl, hbb, hc⟩ := HS.out.at k hlt
      have d0 : w.cell? ⟨b, off + k, none⟩ = some (.int .i64 (l.getD k 0)) := hc k hlt
      obtain ⟨x, hx⟩ : ∃ x, x = l.getD k 0 := ⟨_, rfl⟩
      rw [← hx] at d0
      have HX := Lib.hid hx
      clear hx hc
      by_cases hpx : (v == x) = true
      · have hvx : v = x := by simpa using hpx
        have HPX := Lib.hid hpx
        have HVX := Lib.hid hvx
        clear hvx
        go_wp2
        go_ret
        exact ⟨ret_int (idx_yes 0 (by rw [HL.out]; exact hlt) (by rw [← HX.out]; exact HPX.out) hh.out).symm, rfl⟩
      · have hpx : (v == x) = false := by simpa using hpx
        have HPX := Lib.hid hpx
        go_wp2
        go_round
        case rel =>
          refine ⟨k + 1, by omega, by go_num, fun j hj => ?_⟩
          rcases Nat.lt_succ_iff_lt_or_eq.1 hj with h | rfl
          · exact hh.out j h
          · rw [← HX.out]; exact HPX.out
        case measure => simp [intOf]; omega
    · obtain rfl : k = n := by omega
      go_wp2
      go_ret
      exact ⟨ret_int (idx_no 0 (by rw [HL.out]; exact hh.out)).symm, rfl⟩

theorem contains40 (w : World) (a : Option Addr) (n c : Nat) (l : List Int) (hlen : l.length = n) (S : Seq w a n (ints l)) (hn : n ≤ 9223372036854775807) (v : Int) :
    Calls Try.prog 40 #[.slice a n c, .int .i64 v] w fun e w' => e = .returned (.bool (l.any fun x => v == x)) ∧ w = w' := by
  have C := Lib.hid (index63 w a n c l hlen S hn v)
  clear S hlen
  go_enter Try.func40, Try.ntmps40
  go_wp2_with fail
  refine C.out.mono ?_
  rintro e w1 ⟨rfl, rfl⟩
  go_wp2
  go_ret
  exact ⟨ret_bool (by rw [← idx_nonneg l]), rfl⟩

/-! What Pack makes of a net. -/
def fstN (N : NetV) : Int := 1 + N.ins + N.holds.length
def whoTo (N : NetV) (j : Nat) : Int → Bool := fun x => (N.holds.take j).any (fun h => h.d == x) && (decide (fstN N ≤ x) && decide (cntF (occ N) x = 1))
def whoF (N : NetV) : Int → Bool := whoTo N N.holds.length
def insTo (i : Nat) : Int → Int := fun x => if 1 ≤ x ∧ x ≤ i then x - 1 else 0
def nextTo (N : NetV) (g : Int → Bool) : Nat → Int
  | 0 => N.ins + N.holds.length
  | i + 1 => if g (fstN N + i) then nextTo N g i else nextTo N g i + 1
def wireTo (N : NetV) (g : Int → Bool) : Nat → Int → Int
  | 0 => insTo (N.ins + N.holds.length).toNat
  | i + 1 => if g (fstN N + i) then wireTo N g i else fun x => if x = fstN N + i then nextTo N g i else wireTo N g i x
def wiresF (N : NetV) : Int → Int := wireTo N (whoF N) N.luts.length
def holdBlk (N : NetV) (g : Int → Bool) (f : Int → Int) (h : HoldV) : BlkD :=
  if g h.d then toldD f (N.luts.getD (h.d - fstN N).toNat default).ins (N.luts.getD (h.d - fstN N).toNat default).tab.toNat true h.init
  else if h.d = 0 then ⟨[], 0, true, h.init⟩ else ⟨[f h.d], 2, true, h.init⟩
def holdBlks (N : NetV) (g : Int → Bool) (f : Int → Int) (j : Nat) : List BlkD := (N.holds.take j).map (holdBlk N g f)
def lutBlks (N : NetV) (g : Int → Bool) (f : Int → Int) : Nat → List BlkD
  | 0 => []
  | i + 1 => if g (fstN N + i) then lutBlks N g f i else lutBlks N g f i ++ [toldD f (N.luts.getD i default).ins (N.luts.getD i default).tab.toNat false false]
def noneAt (N : NetV) : Bool := N.outs.any fun x => (0 : Int) == x
def wiresE (N : NetV) : Int → Int := if noneAt N then fun x => if x = 0 then nextTo N (whoF N) N.luts.length else wiresF N x else wiresF N
def packBlks (N : NetV) : List BlkD :=
  holdBlks N (whoF N) (wiresF N) N.holds.length ++ lutBlks N (whoF N) (wiresF N) N.luts.length ++ (if noneAt N then [⟨[], 0, false, false⟩] else [])
def packOuts (N : NetV) : List Int := N.outs.map (wiresE N)

theorem nextTo_bound (N : NetV) (g : Int → Bool) (i : Nat) : N.ins + N.holds.length ≤ nextTo N g i ∧ nextTo N g i ≤ N.ins + N.holds.length + i := by
  induction i with
  | zero => simp [nextTo]
  | succ i ih => unfold nextTo; split <;> omega
theorem wireTo_bound (N : NetV) (g : Int → Bool) (h0 : 0 ≤ N.ins) (i : Nat) (x : Int) : 0 ≤ wireTo N g i x ∧ wireTo N g i x ≤ N.ins + N.holds.length + i := by
  induction i generalizing x with
  | zero => simp only [wireTo, insTo]; split <;> omega
  | succ i ih =>
    unfold wireTo
    split
    · have := ih x; omega
    · have h1 := ih x
      have h2 := nextTo_bound N g i
      dsimp only
      split <;> omega
theorem holdBlks_succ (N : NetV) (g : Int → Bool) (f : Int → Int) (j : Nat) (hj : j < N.holds.length) : holdBlks N g f (j + 1) = holdBlks N g f j ++ [holdBlk N g f (N.holds.getD j default)] := by
  unfold holdBlks
  rw [take_one N.holds default j hj, List.map_append]; rfl
theorem insTo_succ (i : Nat) : (fun x => if x = ((i + 1 : Nat) : Int) then ((i : Nat) : Int) else insTo i x) = insTo (i + 1) := by
  funext x
  unfold insTo
  by_cases h : x = ((i + 1 : Nat) : Int)
  · rw [if_pos h, if_pos (by omega)]; omega
  · rw [if_neg h]
    by_cases h2 : 1 ≤ x ∧ x ≤ i
    · rw [if_pos h2, if_pos (by omega)]
    · rw [if_neg h2, if_neg (by omega)]

/-! The packer's own things while it packs. -/
structure Pk (w : World) (N : NetV) (mb pk lo cnt : Nat) (f : Int → Int) (bv ov : Value) (wr : World) : Prop where
  below : Below w.heap.size w wr
  ltm : w.heap.size + 2 ≤ mb
  ltp : w.heap.size + 2 ≤ pk
  nmp : mb ≠ pk
  lm : mb < lo
  lp : pk < lo
  lo' : lo ≤ wr.heap.size
  n0 : wr.cell? ⟨w.heap.size, 0, none⟩ = some (.int .i64 N.ins)
  n1 : wr.cell? ⟨w.heap.size, 1, none⟩ = some (.slice N.ha N.holds.length N.hc)
  n2 : wr.cell? ⟨w.heap.size, 2, none⟩ = some (.slice N.la N.luts.length N.lc)
  n3 : wr.cell? ⟨w.heap.size, 3, none⟩ = some (.slice N.oa N.outs.length N.oc)
  res : wr.heap[w.heap.size + 1]? = some (.cells #[.int .i64 0, .slice none 0 0, .slice none 0 0] 31)
  p0 : wr.cell? ⟨pk, 0, none⟩ = some (.int .i64 N.ins)
  p1 : wr.cell? ⟨pk, 1, none⟩ = some bv
  p2 : wr.cell? ⟨pk, 2, none⟩ = some ov
  p3 : wr.cell? ⟨pk, 3, none⟩ = some (.int .i64 N.ins)
  p4 : wr.cell? ⟨pk, 4, none⟩ = some (.slice N.ha N.holds.length N.hc)
  p5 : wr.cell? ⟨pk, 5, none⟩ = some (.slice N.la N.luts.length N.lc)
  p6 : wr.cell? ⟨pk, 6, none⟩ = some (.slice N.oa N.outs.length N.oc)
  p7 : wr.cell? ⟨pk, 7, none⟩ = some (.map (some mb))
  fz : ∀ i, wr.frozen? ⟨pk, i, none⟩ = false
  map : IMap wr mb cnt f

section
variable {w wr w' : World} {N : NetV} {mb pk lo cnt : Nat} {f : Int → Int} {bv ov : Value}
theorem Pk.low (h : Pk w N mb pk lo cnt f bv ov wr) (hb : Below lo wr w') : Pk w N mb pk lo cnt f bv ov w' := by
  have hs := hb.size
  have h1 := h.ltm; have h2 := h.ltp; have h3 := h.lm; have h4 := h.lp; have h5 := h.lo'
  have cl : ∀ {b j : Nat} {v : Value}, b < lo → wr.cell? ⟨b, j, none⟩ = some v → w'.cell? ⟨b, j, none⟩ = some v := fun hl h => (hb.cell (p := ⟨_, _, none⟩) hl).trans h
  exact ⟨h.below.trans (hb.mono (by omega)), h1, h2, h.nmp, h3, h4, by omega, cl (by omega) h.n0, cl (by omega) h.n1, cl (by omega) h.n2, cl (by omega) h.n3, (hb.block _ (by omega)).trans h.res,
    cl h4 h.p0, cl h4 h.p1, cl h4 h.p2, cl h4 h.p3, cl h4 h.p4, cl h4 h.p5, cl h4 h.p6, cl h4 h.p7, fun i => (hb.frozen (p := ⟨_, _, none⟩) h4).trans (h.fz i), h.map.below hb h3⟩
theorem Pk.drewN (h : Pk w N mb pk lo cnt f bv ov wr) (n : Nat) : Pk w N mb pk lo cnt f bv ov (wr.drewN n) := h.low (belowN (Below.refl _ _))
theorem Pk.put (h : Pk w N mb pk lo cnt f bv ov wr) {cnt' : Nat} {f' : Int → Int} (hm : IMap w' mb cnt' f') (hg : wr.grownBy w' (some mb)) : Pk w N mb pk lo cnt' f' bv ov w' := by
  have hs := hg.size
  have h1 := h.ltm; have h2 := h.ltp; have h3 := h.lm; have h4 := h.lp; have h5 := h.lo'; have h6 := h.nmp
  have cl : ∀ {b j : Nat} {v : Value}, b < lo → b ≠ mb → wr.cell? ⟨b, j, none⟩ = some v → w'.cell? ⟨b, j, none⟩ = some v := fun hl hne h => (World.cell?_of_block (a := ⟨_, _, none⟩) (hg.block _ (by simp only; omega) (by intro e; injection e with e; exact hne e))).trans h
  have hp : pk ≠ mb := fun e => h6 e.symm
  exact ⟨h.below.grown hg (by omega) (fun k e => by injection e with e; omega), h1, h2, h6, h3, h4, by omega, cl (by omega) (by omega) h.n0, cl (by omega) (by omega) h.n1, cl (by omega) (by omega) h.n2, cl (by omega) (by omega) h.n3,
    (hg.block _ (by omega) (by intro e; injection e with e; omega)).trans h.res,
    cl h4 hp h.p0, cl h4 hp h.p1, cl h4 hp h.p2, cl h4 hp h.p3, cl h4 hp h.p4, cl h4 hp h.p5, cl h4 hp h.p6, cl h4 hp h.p7,
    fun i => (World.frozen?_of_block (a := ⟨_, _, none⟩) (hg.block _ (by simp only; omega) (by intro e; injection e with e; exact hp e))).trans (h.fz i), hm⟩
theorem Pk.grown (h : Pk w N mb pk lo cnt f bv ov wr) {row : Option Nat} (hg : wr.grownBy w' row) (hr : ∀ k, row = some k → lo ≤ k) : Pk w N mb pk lo cnt f bv ov w' :=
  h.low ((Below.refl _ _).grown hg (by have := h.lo'; omega) hr)
theorem Pk.set1 (h : Pk w N mb pk lo cnt f bv ov wr) (bv' : Value) : Pk w N mb pk lo cnt f bv' ov (wr.setCell ⟨pk, 1, none⟩ bv') := by
  have h1 := h.ltm; have h2 := h.ltp; have h3 := h.lm; have h4 := h.lp; have h5 := h.lo'; have h6 := h.nmp
  have hg := grownBy_set wr pk 1 bv'
  exact ⟨h.below.grown hg (by omega) (fun k e => by injection e with e; omega), h1, h2, h6, h3, h4, by rw [set_size]; exact h5, (cell?_set_far (by omega)).trans h.n0, (cell?_set_far (by omega)).trans h.n1, (cell?_set_far (by omega)).trans h.n2, (cell?_set_far (by omega)).trans h.n3,
    (hg.block _ (by omega) (by intro e; injection e with e; omega)).trans h.res, set_keep h.p0 (by decide), cell?_set_own h.p1, set_keep h.p2 (by decide), set_keep h.p3 (by decide), set_keep h.p4 (by decide), set_keep h.p5 (by decide), set_keep h.p6 (by decide), set_keep h.p7 (by decide),
    fun i => by rw [set_frozen]; exact h.fz i, h.map.kept hg (by intro e; injection e with e; exact h6 e)⟩
theorem Pk.set2 (h : Pk w N mb pk lo cnt f bv ov wr) (ov' : Value) : Pk w N mb pk lo cnt f bv ov' (wr.setCell ⟨pk, 2, none⟩ ov') := by
  have h1 := h.ltm; have h2 := h.ltp; have h3 := h.lm; have h4 := h.lp; have h5 := h.lo'; have h6 := h.nmp
  have hg := grownBy_set wr pk 2 ov'
  exact ⟨h.below.grown hg (by omega) (fun k e => by injection e with e; omega), h1, h2, h6, h3, h4, by rw [set_size]; exact h5, (cell?_set_far (by omega)).trans h.n0, (cell?_set_far (by omega)).trans h.n1, (cell?_set_far (by omega)).trans h.n2, (cell?_set_far (by omega)).trans h.n3,
    (hg.block _ (by omega) (by intro e; injection e with e; omega)).trans h.res, set_keep h.p0 (by decide), set_keep h.p1 (by decide), cell?_set_own h.p2, set_keep h.p3 (by decide), set_keep h.p4 (by decide), set_keep h.p5 (by decide), set_keep h.p6 (by decide), set_keep h.p7 (by decide),
    fun i => by rw [set_frozen]; exact h.fz i, h.map.kept hg (by intro e; injection e with e; exact h6 e)⟩

/-! The rows of blocks and of outs. -/
abbrev BlkV.cells (b : BlkV) : List Value := [.slice b.a b.ins.length b.c, .int .i64 b.tab, .bool b.ff, .bool b.init]
def InAt (lo : Nat) (bv ov : Value) (wr : World) (b : BlkV) : Prop :=
  b.ins.length = 0 ∨ ∃ g off, b.a = some ⟨g, off, none⟩ ∧ lo ≤ g ∧ g < wr.heap.size ∧ bv.ownBlock ≠ some g ∧ ov.ownBlock ≠ some g ∧ ∀ i, i < b.ins.length → wr.cell? ⟨g, off + i, none⟩ = some (ints b.ins i)
structure Rows (lo : Nat) (bs : List BlkV) (bv : Value) (os : List Int) (ov : Value) (wr : World) : Prop where
  own : wr.ownsRow lo 43 4 bv bs.length (bs.flatMap BlkV.cells)
  ins : ∀ b ∈ bs, InAt lo bv ov wr b
  oown : wr.ownsRow lo 3 1 ov os.length (os.map (Value.int .i64))
  apart : ∀ b, bv.ownBlock = some b → ov.ownBlock ≠ some b
variable {bs : List BlkV} {os : List Int}
theorem InAt.grown {b : BlkV} (h : InAt lo bv ov wr b) {row : Option Nat} (hg : wr.grownBy w' row) (hr : ∀ k, row = some k → k < lo ∨ bv.ownBlock = some k ∨ ov.ownBlock = some k) : InAt lo bv ov w' b := by
  rcases h with h | ⟨g, off, ha, h1, h2, h3, h4, hc⟩
  · exact .inl h
  · refine .inr ⟨g, off, ha, h1, by have := hg.size; omega, h3, h4, fun i hi => (World.cell?_of_block (a := ⟨_, _, none⟩) (hg.block _ (by simp only; omega) ?_)).trans (hc i hi)⟩
    intro e
    rcases hr g e.symm with h | h | h
    · omega
    · exact h3 h
    · exact h4 h
theorem Rows.grown (h : Rows lo bs bv os ov wr) {row : Option Nat} (hg : wr.grownBy w' row) (hr : ∀ k, row = some k → k < lo) : Rows lo bs bv os ov w' := by
  refine ⟨h.own.kept hg ?_, fun b hb => (h.ins b hb).grown hg (fun k e => .inl (hr k e)), h.oown.kept hg ?_, h.apart⟩
  · by_cases e : bv.ownBlock = none
    · exact .inl e
    · obtain ⟨b, hb⟩ := Option.ne_none_iff_exists'.1 e
      right; intro e2
      have h1 := (h.own.lt b hb).1
      have := hr b (e2 ▸ hb); omega
  · by_cases e : ov.ownBlock = none
    · exact .inl e
    · obtain ⟨b, hb⟩ := Option.ne_none_iff_exists'.1 e
      right; intro e2
      have h1 := (h.oown.lt b hb).1
      have := hr b (e2 ▸ hb); omega
theorem Rows.below (h : Rows lo bs bv os ov wr) (hb : Below wr.heap.size wr w') : Rows lo bs bv os ov w' :=
  ⟨own_below h.own hb, fun b hbm => by
    rcases h.ins b hbm with h | ⟨g, off, ha, h1, h2, h3, h4, hc⟩
    · exact .inl h
    · exact .inr ⟨g, off, ha, h1, by have := hb.size; omega, h3, h4, fun i hi => (hb.cell (p := ⟨_, _, none⟩) h2).trans (hc i hi)⟩, own_below h.oown hb, h.apart⟩
theorem Rows.drewN (h : Rows lo bs bv os ov wr) (n : Nat) : Rows lo bs bv os ov (wr.drewN n) := h.below (belowN (Below.refl _ _))
theorem Rows.nil (wr : World) (lo : Nat) : Rows lo [] (.slice none 0 0) [] (.slice none 0 0) wr :=
  ⟨World.ownsRow_nil _ _ _ _, (by intro b hb; cases hb), World.ownsRow_nil _ _ _ _, by intro b hb; simp [Value.ownBlock] at hb⟩

/-- A block more. -/
theorem Rows.addB (h : Rows lo bs bv os ov wr) {b : BlkV} (hbIn : InAt lo bv ov wr b) {bv' : Value} {g H : Nat} (hg : wr.grownBy w' bv.ownBlock) (hg' : bv'.ownBlock = some g) (hat : bv.ownBlock = some g ∨ g = H) (hH : wr.heap.size ≤ H) (hgs : g < w'.heap.size)
    (own : w'.ownsRow lo 43 4 bv' (bs.length + 1) (bs.flatMap BlkV.cells ++ b.cells)) : Rows lo (bs ++ [b]) bv' os ov w' := by
  have keep : ∀ c, InAt lo bv ov wr c → InAt lo bv' ov w' c := by
    intro c hc
    have h0 := hc.grown hg (fun k e => .inr (.inl e))
    rcases hc with hc | ⟨g2, off, ha, h1, h2, h3, h4, hc⟩
    · exact .inl hc
    · rcases h0 with h0 | ⟨g3, off3, ha3, k1, k2, k3, k4, kc⟩
      · exact .inl h0
      · obtain ⟨rfl, rfl⟩ : g2 = g3 ∧ off = off3 := by rw [ha] at ha3; injection ha3 with e; injection e with e1 e2; exact ⟨e1, e2⟩
        refine .inr ⟨g2, off, ha3, k1, k2, ?_, k4, kc⟩
        rw [hg']
        intro e; injection e with e; subst e
        rcases hat with e | e
        · exact h3 e
        · omega
  refine ⟨by rw [List.length_append, List.flatMap_append, List.flatMap_cons, List.flatMap_nil, List.append_nil]; exact own, fun c hc => ?_, h.oown.kept hg ?_, ?_⟩
  · rcases List.mem_append.1 hc with hc | hc
    · exact keep c (h.ins c hc)
    · rw [List.mem_singleton] at hc; subst hc; exact keep _ hbIn
  · by_cases e : ov.ownBlock = none
    · exact .inl e
    · obtain ⟨b, hb⟩ := Option.ne_none_iff_exists'.1 e
      right; intro e2
      exact h.apart b (e2 ▸ hb) hb
  · intro b hb e
    rw [hg'] at hb; injection hb with hb; subst hb
    rcases hat with hat | hat
    · exact h.apart _ hat e
    · have := (h.oown.lt _ e).2; omega
/-- An out more. -/
theorem Rows.addO (h : Rows lo bs bv os ov wr) {x : Int} {ov' : Value} {g H : Nat} (hg : wr.grownBy w' ov.ownBlock) (hg' : ov'.ownBlock = some g) (hat : ov.ownBlock = some g ∨ g = H) (hH : wr.heap.size ≤ H) (hgs : g < w'.heap.size)
    (own : w'.ownsRow lo 3 1 ov' (os.length + 1) (os.map (Value.int .i64) ++ [.int .i64 x])) : Rows lo bs bv (os ++ [x]) ov' w' := by
  refine ⟨h.own.kept hg ?_, fun c hc => ?_, by rw [List.length_append, List.map_append]; exact own, ?_⟩
  · by_cases e : bv.ownBlock = none
    · exact .inl e
    · obtain ⟨b, hb⟩ := Option.ne_none_iff_exists'.1 e
      right; intro e2
      exact h.apart b hb (e2 ▸ hb)
  · have hc := h.ins c hc
    have h0 := hc.grown hg (fun k e => .inr (.inr e))
    rcases hc with hc | ⟨g2, off, ha, h1, h2, h3, h4, hc⟩
    · exact .inl hc
    · rcases h0 with h0 | ⟨g3, off3, ha3, k1, k2, k3, k4, kc⟩
      · exact .inl h0
      · obtain ⟨rfl, rfl⟩ : g2 = g3 ∧ off = off3 := by rw [ha] at ha3; injection ha3 with e; injection e with e1 e2; exact ⟨e1, e2⟩
        refine .inr ⟨g2, off, ha3, k1, k2, k3, ?_, kc⟩
        rw [hg']
        intro e; injection e with e; subst e
        rcases hat with e | e
        · exact h4 e
        · omega
  · intro b hb e
    rw [hg'] at e; injection e with e; subst e
    rcases hat with hat | hat
    · exact h.apart _ hb hat
    · have := (h.own.lt _ hb).2; omega
end
end Go.Proofs.Ytibimdhmfchcoaa
