/-
  What is kept, laid back: the same words; the rows that the walk carries.
-/
import Derived.Test.YthaldkmjjpepjaaDoorTf
namespace Go.Proofs.YthaldkmjjpepjaaDoor
open Go.RowKit Go.Shelf

theorem getD_drop {bs bs' : List UInt8} (h : bs.drop 16384 = bs'.drop 16384) {i : Nat} (hi : 16384 ≤ i) : bs.getD i 0 = bs'.getD i 0 := by
  have e : ∀ l : List UInt8, l.getD i 0 = (l.drop 16384).getD (i - 16384) 0 := fun l => by
    rw [List.getD_eq_getElem?_getD, List.getD_eq_getElem?_getD, List.getElem?_drop, show 16384 + (i - 16384) = i by omega]
  rw [e bs, e bs', h]
theorem drop_more {bs bs' : List UInt8} (h : bs.drop 16384 = bs'.drop 16384) {i : Nat} (hi : 16384 ≤ i) : bs.drop i = bs'.drop i := by
  have e : ∀ l : List UInt8, l.drop i = (l.drop 16384).drop (i - 16384) := fun l => by rw [List.drop_drop, show 16384 + (i - 16384) = i by omega]
  rw [e bs, e bs', h]
theorem cellV_congr {bs bs' : List UInt8} (h : bs.drop 16384 = bs'.drop 16384) {i : Nat} (hi : 16384 ≤ i) : cellV bs i = cellV bs' i := by
  unfold cellV
  rw [getD_drop h hi, getD_drop h (show 16384 ≤ i + 1 by omega), getD_drop h (show 16384 ≤ i + 2 by omega), getD_drop h (show 16384 ≤ i + 3 by omega), getD_drop h (show 16384 ≤ i + 4 by omega), getD_drop h (show 16384 ≤ i + 5 by omega), getD_drop h (show 16384 ≤ i + 6 by omega), getD_drop h (show 16384 ≤ i + 7 by omega)]
theorem nlen_congr {bs bs' : List UInt8} (h : bs.drop 16384 = bs'.drop 16384) {i : Nat} (hi : 16384 ≤ i) : nlen bs i = nlen bs' i := by
  unfold nlen; rw [getD_drop h (show 16384 ≤ i + 8 by omega)]
theorem wordAt_congr {bs bs' : List UInt8} (h : bs.drop 16384 = bs'.drop 16384) {i : Nat} (hi : 16384 ≤ i) : wordAt bs i = wordAt bs' i := by
  unfold wordAt xtN; rw [nlen_congr h hi, drop_more h (show 16384 ≤ i + 9 by omega), getD_drop h (show 16384 ≤ i + 8 by omega)]
theorem hdB_congr {S : Int} {bs bs' : List UInt8} (h : bs.drop 16384 = bs'.drop 16384) (a : Int) : hdB S bs a = hdB S bs' a := by
  by_cases ha : 16392 ≤ a
  · unfold hdB xtN; rw [nlen_congr h (show 16384 ≤ a.toNat by omega)]
  · simp [hdB, ha]
theorem words_congr {S : Int} {bs bs' : List UInt8} (h : bs.drop 16384 = bs'.drop 16384) : ∀ (n : Nat) (a : Int), wordsFrom S bs n a = wordsFrom S bs' n a
  | 0, _ => rfl
  | n + 1, a => by
    rw [wordsFrom, wordsFrom, hdB_congr h a]
    by_cases hh : hdB S bs' a = true
    · have ha : 16384 ≤ a.toNat := by
        obtain ⟨i, rfl, _, h1, _⟩ := hdB_yes hh
        simp; omega
      rw [if_pos hh, if_pos hh, wordAt_congr h ha, cellV_congr h ha, words_congr h n]
    · rw [if_neg hh, if_neg hh]

theorem Dic.backOk {N D G n : Nat} {S T h l : Int} {bs : List UInt8} {w : World} (hd : Dic N D G n S T h l bs w) : backOk S h l = true := by
  obtain ⟨_, _, _, hh, hl⟩ := hd
  simp only [Go.Proofs.YthaldkmjjpepjaaDoor.backOk, Bool.and_eq_true, Bool.or_eq_true, decide_eq_true_eq]
  refine ⟨hh, hl.imp id fun q => ⟨⟨?_, q.1⟩, q.2.1⟩⟩
  rw [Int.tmod_eq_emod_of_nonneg (by omega)]
  exact q.2.2

/-- What is kept of a list's bytes. -/
theorem kept_parts (S T : Int) (bs : List UInt8) (hS : 0 ≤ S) (hT : 0 ≤ T) (hn : 16384 + S + T + 64 = (bs.length : Int)) :
    ((partS bs 16384 S).size : Int) = S ∧ ((partS bs (16384 + S) T).size : Int) = T ∧ ((partS bs (16384 + S + T) 64).size : Int) = 64 ∧
      bs.drop 16384 = sl (partS bs 16384 S) ++ (sl (partS bs (16384 + S) T) ++ sl (partS bs (16384 + S + T) 64)) := by
  obtain ⟨s, rfl⟩ := Int.eq_ofNat_of_zero_le hS
  obtain ⟨t, rfl⟩ := Int.eq_ofNat_of_zero_le hT
  have e0 : sl (partS bs 16384 (s : Int)) = (bs.drop 16384).take s := by
    unfold partS; rw [sl_mkS]; rfl
  have e1 : sl (partS bs (16384 + (s : Int)) (t : Int)) = ((bs.drop 16384).drop s).take t := by
    unfold partS; rw [sl_mkS, show (16384 + (s : Int)).toNat = 16384 + s by omega, List.drop_drop]; rfl
  have e2 : sl (partS bs (16384 + (s : Int) + (t : Int)) 64) = ((bs.drop 16384).drop s).drop t := by
    unfold partS; rw [sl_mkS, show (16384 + (s : Int) + (t : Int)).toNat = 16384 + s + t by omega, List.drop_drop, List.drop_drop, show (64 : Int).toNat = 64 from rfl, List.take_of_length_le (by simp; omega), Nat.add_assoc]
  refine ⟨?_, ?_, ?_, ?_⟩
  · rw [← sl_length, e0]; simp; omega
  · rw [← sl_length, e1]; simp; omega
  · rw [← sl_length, e2]; simp; omega
  · rw [e0, e1, e2, List.take_append_drop, List.take_append_drop]

theorem lay_kept (S T : Int) (bs bs2 : List UInt8) (hS : 0 ≤ S) (hT : 0 ≤ T) (hn : 16384 + S + T + 64 = (bs.length : Int)) (hn2 : bs2.length = bs.length) :
    let a0 := partS bs 16384 S
    let a1 := partS bs (16384 + S) T
    let a2 := partS bs (16384 + S + T) 64
    layB (layB (layB bs2 16384 a0) (16384 + a0.size) a1) (16384 + a0.size + a1.size) a2 = bs2.take 16384 ++ bs.drop 16384 := by
  intro a0 a1 a2
  obtain ⟨h0, h1, h2, h3⟩ := kept_parts S T bs hS hT hn
  change ((a0.size : Nat) : Int) = S at h0
  change ((a1.size : Nat) : Int) = T at h1
  change ((a2.size : Nat) : Int) = 64 at h2
  rw [lay3 bs2 a0 a1 a2 (by rw [hn2]; omega), h3]

theorem getD_take {bs bs' : List UInt8} (h : bs.take 16384 = bs'.take 16384) {i : Nat} (hi : i < 16384) : bs.getD i 0 = bs'.getD i 0 := by
  have e : ∀ l : List UInt8, l.getD i 0 = (l.take 16384).getD i 0 := fun l => by
    rw [List.getD_eq_getElem?_getD, List.getD_eq_getElem?_getD, List.getElem?_take_of_lt hi]
  rw [e bs, e bs', h]

/-- What comes of laying back what was kept. -/
theorem lay_back (s0 s1 : Nat) (hh ll : Int) (bs bs2 : List UInt8) (c : UInt8) (q0 q1 q2 : ByteArray) (hq : q0 = partS bs 16384 (s0 : Int) ∧ q1 = partS bs (16384 + (s0 : Int)) (s1 : Int) ∧ q2 = partS bs (16384 + (s0 : Int) + (s1 : Int)) 64)
    (hn : 16384 + (s0 : Int) + s1 + 64 = (bs.length : Int)) (hn2 : bs2.length = bs.length) (ht : bs2.take 16384 = (bs.set 100 c).take 16384) (hb : backOk (s0 : Int) hh ll = true) :
    rightB s0 s1 q0 q1 q2 hh ll = true ∧ ∃ bs3, bs3 = layB (layB (layB bs2 16384 q0) (16384 + q0.size) q1) (16384 + q0.size + q1.size) q2 ∧ bs3.drop 16384 = bs.drop 16384 ∧ bs3.getD 100 0 = c ∧
      keptV s0 s1 hh ll bs3 = #[.string q0, .string q1, .string q2, .int .i64 hh, .int .i64 ll] := by
  obtain ⟨h0, h1, h2, h3⟩ := kept_parts (s0 : Int) (s1 : Int) bs (by omega) (by omega) hn
  have hl := lay_kept (s0 : Int) (s1 : Int) bs bs2 (by omega) (by omega) hn hn2
  obtain ⟨rfl, rfl, rfl⟩ := hq
  refine ⟨?_, _, rfl, ?_, ?_, ?_⟩
  · simp only [rightB, Bool.and_eq_true, decide_eq_true_eq]
    exact ⟨⟨⟨h0, h1⟩, h2⟩, hb⟩
  · rw [hl, List.drop_left' (by rw [List.length_take]; omega)]
  · have e : ((bs2.take 16384 ++ bs.drop 16384).take 16384) = (bs.set 100 c).take 16384 := by
      rw [List.take_left' (by rw [List.length_take]; omega), ht]
    rw [hl, getD_take e (by omega), List.getD_eq_getElem?_getD, List.getElem?_set_self (by omega)]
    rfl
  · exact kept_lay (s0 : Int) (s1 : Int) hh ll bs2 _ _ _ h0 h1 h2 (by omega)

/-- The rows that the walk carries, beside the list. -/
def KL (N D G n : Nat) (S T hh ll : Int) (bs : List UInt8) (w0 : World) (R : Nat) (L : List (Nat × Array Value × TypeId)) (w : World) : Prop :=
  Dic N D G n S T hh ll bs w ∧ Below R w0 w ∧ R < N ∧ ∀ x ∈ L, w.heap[x.1]? = some (.cells x.2.1 x.2.2 (0, 0)) ∧ x.1 ≠ G ∧ x.1 ≠ D
theorem KL.lt {N D G n : Nat} {S T hh ll : Int} {bs : List UInt8} {w0 : World} {R : Nat} {L : List (Nat × Array Value × TypeId)} {w : World} (x : KL N D G n S T hh ll bs w0 R L w) : R < N ∧ N < G ∧ G < D ∧ D < w.heap.size :=
  ⟨x.2.2.1, x.1.1.2.2.2, x.1.2.2.1, (Array.getElem?_eq_some_iff.1 x.1.2.1).1⟩
theorem KL.row {N D G n : Nat} {S T hh ll : Int} {bs : List UInt8} {w0 : World} {R : Nat} {L : List (Nat × Array Value × TypeId)} {w : World} (x : KL N D G n S T hh ll bs w0 R L w) {k : Nat} {cs : Array Value} {t : TypeId} (h : (k, cs, t) ∈ L) : w.heap[k]? = some (.cells cs t (0, 0)) :=
  (x.2.2.2 _ h).1
theorem KL.below {N D G n : Nat} {S T hh ll : Int} {bs : List UInt8} {w0 : World} {R : Nat} {L : List (Nat × Array Value × TypeId)} {w w' : World} (x : KL N D G n S T hh ll bs w0 R L w) (hb : Below w.heap.size w w') : KL N D G n S T hh ll bs w0 R L w' :=
  ⟨x.1.below hb, x.2.1.trans (hb.mono (by have := x.lt; omega)), x.2.2.1, fun y hy => ⟨(hb.block _ (Array.getElem?_eq_some_iff.1 (x.2.2.2 y hy).1).1).trans (x.2.2.2 y hy).1, (x.2.2.2 y hy).2⟩⟩
theorem KL.alloc {N D G n : Nat} {S T hh ll : Int} {bs : List UInt8} {w0 : World} {R : Nat} {L : List (Nat × Array Value × TypeId)} {w : World} (x : KL N D G n S T hh ll bs w0 R L w) (cs : Array Value) (t : TypeId) : KL N D G n S T hh ll bs w0 R ((w.heap.size, cs, t) :: L) (w.alloc (.cells cs t)) := by
  have h := x.below ((Below.refl _ w).alloc (Nat.le_refl _) (.cells cs t))
  refine ⟨h.1, h.2.1, h.2.2.1, fun y hy => ?_⟩
  rcases List.mem_cons.1 hy with rfl | hy
  · have := x.lt
    exact ⟨heap_alloc_new w _, by show w.heap.size ≠ G; omega, by show w.heap.size ≠ D; omega⟩
  · exact h.2.2.2 y hy
theorem KL.chg {N D G n : Nat} {S T hh ll hh' ll' : Int} {bs bs' : List UInt8} {w0 : World} {R : Nat} {L : List (Nat × Array Value × TypeId)} {w w' : World} (x : KL N D G n S T hh ll bs w0 R L w) (hd : Dic N D G n S T hh' ll' bs' w') (hc : Chg G D w w') : KL N D G n S T hh' ll' bs' w0 R L w' := by
  have hl := x.lt
  exact ⟨hd, x.2.1.trans ⟨hc.os, hc.tape, hc.output, hc.size, fun k hk => hc.block k (by omega) (by omega) (by omega)⟩, x.2.2.1, fun y hy => ⟨(hc.block _ (Array.getElem?_eq_some_iff.1 (x.2.2.2 y hy).1).1 (x.2.2.2 y hy).2.1 (x.2.2.2 y hy).2.2).trans (x.2.2.2 y hy).1, (x.2.2.2 y hy).2⟩⟩
theorem KL.abides {N D G n : Nat} {S T hh ll : Int} {bs : List UInt8} {w0 : World} {R : Nat} {L : List (Nat × Array Value × TypeId)} {w w' : World} {row : Option Nat} (x : KL N D G n S T hh ll bs w0 R L w) (hg : w.grownBy w' row) (hr : ∀ r, row = some r → R ≤ r ∧ ∃ o : Obj, w.heap[r]? = some o ∧ o.isCells = false) : KL N D G n S T hh ll bs w0 R L w' :=
  ⟨dic_abides x.1 hg (fun r e => (hr r e).2), below_abides x.2.1 hg (by have := x.lt; omega) (fun r e => (hr r e).1), x.2.2.1, fun y hy => ⟨row_abides (x.2.2.2 y hy).1 hg (fun r e => (hr r e).2), (x.2.2.2 y hy).2⟩⟩
/-- A block turns that none of the rows names. -/
theorem KL.grown {N D G n : Nat} {S T hh ll : Int} {bs : List UInt8} {w0 : World} {R : Nat} {L : List (Nat × Array Value × TypeId)} {w w' : World} {row : Option Nat} (x : KL N D G n S T hh ll bs w0 R L w) (hg : w.grownBy w' row) (hL : ∀ g, row = some g → D < g ∧ ∀ y ∈ L, y.1 ≠ g) : KL N D G n S T hh ll bs w0 R L w' := by
  have hl := x.lt
  have hk : ∀ k, k < w.heap.size → k ≤ D → w'.heap[k]? = w.heap[k]? := fun k h1 h2 => hg.block k h1 (fun e => by have := (hL k e.symm).1; omega)
  exact ⟨⟨⟨⟨(hk N (by omega) (by omega)).trans x.1.1.1.1, x.1.1.1.2⟩, (hk G (by omega) (by omega)).trans x.1.1.2.1, x.1.1.2.2⟩, (hk D (by omega) (by omega)).trans x.1.2.1, x.1.2.2⟩,
    x.2.1.trans ⟨hg.os, hg.tape, hg.output, hg.size, fun k h => hk k (by omega) (by omega)⟩, x.2.2.1, fun y hy => ⟨(hg.block _ (Array.getElem?_eq_some_iff.1 (x.2.2.2 y hy).1).1 (fun e => (hL _ e.symm).2 y hy rfl)).trans (x.2.2.2 y hy).1, (x.2.2.2 y hy).2⟩⟩

/-- Words that have been collected in a box. -/
def Coll (Bw : Nat) (pre : List WordV) (W : World) : Prop := ∃ v, W.heap[Bw]? = some (.cells #[v] 67 (0, 0)) ∧ W.ownsRow (Bw + 1) 72 6 v pre.length (wcells pre)
theorem Coll.abides {Bw : Nat} {pre : List WordV} {W W' : World} {row : Option Nat} (x : Coll Bw pre W) (hg : W.grownBy W' row) (hr : ∀ r, row = some r → ∃ o : Obj, W.heap[r]? = some o ∧ o.isCells = false) : Coll Bw pre W' := by
  obtain ⟨v, h1, h2⟩ := x
  exact ⟨v, row_abides h1 hg hr, own_abides h2 hg hr⟩
theorem Coll.below {Bw : Nat} {pre : List WordV} {W W' : World} (x : Coll Bw pre W) (hb : Below W.heap.size W W') : Coll Bw pre W' := by
  obtain ⟨v, h1, h2⟩ := x
  exact ⟨v, (hb.block Bw (Array.getElem?_eq_some_iff.1 h1).1).trans h1, own_below h2 hb⟩
theorem ownIn_row {B : Nat} {W : World} {v : Value} {t : TypeId} {fr : Nat × Nat} (h : W.heap[B]? = some (.cells #[v] t fr)) : ownIn B W = v.ownBlock := by
  unfold ownIn; rw [h]; rfl

theorem coll_step {Bw z0 : Nat} {pre : List WordV} {x : WordV} {W w1 : World} {v v1 : Value} (hv : W.heap[Bw]? = some (.cells #[v] 67 (0, 0))) (hown : W.ownsRow (Bw + 1) 72 6 v pre.length (wcells pre))
    (hown1 : w1.ownsRow (Bw + 1) 72 6 v1 (pre ++ [x]).length (wcells (pre ++ [x]))) (hgr : Grew W w1 v v1) :
    KeepsFrom z0 W (w1.setCell ⟨Bw, 0, none⟩ v1) ∧ Kept Bw W (w1.setCell ⟨Bw, 0, none⟩ v1) ∧ Coll Bw (pre ++ [x]) (w1.setCell ⟨Bw, 0, none⟩ v1) ∧ w1.heap[Bw]? = some (.cells #[v] 67 (0, 0)) := by
  have hBl := (Array.getElem?_eq_some_iff.1 hv).1
  have hw1 : w1.heap[Bw]? = some (.cells #[v] 67 (0, 0)) := (hgr.by_.block Bw hBl (fun e => by have := (hown.lt Bw e.symm).1; omega)).trans hv
  have hset : (w1.setCell ⟨Bw, 0, none⟩ v1).heap[Bw]? = some (.cells #[v1] 67 (0, 0)) := heap_setCell_same _ _ 0 _ _ _ hw1
  have hoth : ∀ k, k ≠ Bw → (w1.setCell ⟨Bw, 0, none⟩ v1).heap[k]? = w1.heap[k]? := fun k hk => heap_setCell_other _ _ _ _ (by exact hk)
  have hsz : W.heap.size ≤ (w1.setCell ⟨Bw, 0, none⟩ v1).heap.size := by simpa using hgr.by_.size
  refine ⟨⟨hsz, fun k o _ hk ho => ?_⟩, ⟨hsz, fun k o hk ho hne hno => ?_, ?_⟩, ⟨v1, hset, ?_⟩, hw1⟩
  · have hkB : k ≠ Bw := by
      intro e; subst e
      rw [hv] at hk; injection hk with hk; subst hk; cases ho
    have hkv : some k ≠ v.ownBlock := by
      intro e
      rcases hown.2 with ⟨rfl, _⟩ | ⟨g, cp, cur, rfl, _, hrow, _⟩
      · cases e
      · injection e with e
        subst e
        rw [hrow] at hk; injection hk with hk; subst hk; cases ho
    rw [hoth k hkB]
    exact (hgr.by_.block k (Array.getElem?_eq_some_iff.1 hk).1 hkv).trans hk
  · rw [hoth k hne]
    rw [ownIn_row hv] at hno
    exact (hgr.by_.block k (Array.getElem?_eq_some_iff.1 hk).1 (fun e => hno e.symm)).trans hk
  · rw [ownIn_row hset, ownIn_row hv]
    rcases hgr.at_ with e | ⟨b, hb, e⟩
    · exact .inl e
    · exact .inr ⟨b, hb, e⟩
  · refine hown1.kept (grownBy_setCell (grownBy_id _ _)) ?_
    cases h : v1.ownBlock with
    | none => exact .inl rfl
    | some k => exact .inr (fun e => by injection e with e; have := (hown1.lt k h).1; omega)

theorem Coll.chg {Bw G D : Nat} {pre : List WordV} {W W' : World} (x : Coll Bw pre W) (hc : Chg G D W W') (hG : G < Bw) (hD : D < Bw) : Coll Bw pre W' := by
  obtain ⟨v, h1, h2⟩ := x
  refine ⟨v, (hc.block Bw (Array.getElem?_eq_some_iff.1 h1).1 (by omega) (by omega)).trans h1, ?_⟩
  rcases h2 with ⟨hl, ⟨rfl, h0⟩ | ⟨g, cap, cur, rfl, hb, hrow, hr⟩⟩
  · exact ⟨hl, .inl ⟨rfl, h0⟩⟩
  · exact ⟨hl, .inr ⟨g, cap, cur, rfl, hb, (hc.block g (Array.getElem?_eq_some_iff.1 hrow).1 (by omega) (by omega)).trans hrow, hr⟩⟩
/-- A block beside the box and its slice turns. -/
theorem Coll.other {Bw g : Nat} {pre : List WordV} {W W' : World} (x : Coll Bw pre W) (hg : W.grownBy W' (some g)) (h1 : g ≠ Bw) (h2 : ownIn Bw W ≠ some g) : Coll Bw pre W' := by
  obtain ⟨v, h3, h4⟩ := x
  rw [ownIn_row h3] at h2
  exact ⟨v, (hg.block Bw (Array.getElem?_eq_some_iff.1 h3).1 (fun e => by injection e with e; omega)).trans h3, h4.kept hg (.inr h2)⟩

/-- The rows, the words that were collected, the block of the first loop. -/
def KM (N D G n : Nat) (S T hh ll : Int) (bs : List UInt8) (w0 : World) (R : Nat) (L : List (Nat × Array Value × TypeId)) (Bw : Nat) (words : List WordV) (Dd : Nat) (w : World) : Prop :=
  KL N D G n S T hh ll bs w0 R L w ∧ Coll Bw words w ∧ w.heap[Dd]? = some (.deferred (some [])) ∧ D < Bw ∧ D < Dd
theorem KM.below {N D G n : Nat} {S T hh ll : Int} {bs : List UInt8} {w0 : World} {R : Nat} {L : List (Nat × Array Value × TypeId)} {Bw : Nat} {words : List WordV} {Dd : Nat} {w w' : World} (x : KM N D G n S T hh ll bs w0 R L Bw words Dd w) (hb : Below w.heap.size w w') : KM N D G n S T hh ll bs w0 R L Bw words Dd w' :=
  ⟨x.1.below hb, x.2.1.below hb, (hb.block Dd (Array.getElem?_eq_some_iff.1 x.2.2.1).1).trans x.2.2.1, x.2.2.2⟩
theorem KM.alloc {N D G n : Nat} {S T hh ll : Int} {bs : List UInt8} {w0 : World} {R : Nat} {L : List (Nat × Array Value × TypeId)} {Bw : Nat} {words : List WordV} {Dd : Nat} {w : World} (x : KM N D G n S T hh ll bs w0 R L Bw words Dd w) (cs : Array Value) (t : TypeId) : KM N D G n S T hh ll bs w0 R ((w.heap.size, cs, t) :: L) Bw words Dd (w.alloc (.cells cs t)) := by
  have h := x.below ((Below.refl _ w).alloc (Nat.le_refl _) (.cells cs t))
  exact ⟨x.1.alloc cs t, h.2⟩
theorem KM.chg {N D G n : Nat} {S T hh ll hh' ll' : Int} {bs bs' : List UInt8} {w0 : World} {R : Nat} {L : List (Nat × Array Value × TypeId)} {Bw : Nat} {words : List WordV} {Dd : Nat} {w w' : World} (x : KM N D G n S T hh ll bs w0 R L Bw words Dd w) (hd : Dic N D G n S T hh' ll' bs' w') (hc : Chg G D w w') : KM N D G n S T hh' ll' bs' w0 R L Bw words Dd w' := by
  have hl := x.1.lt
  obtain ⟨h1, h2, h3, h4, h5⟩ := x
  exact ⟨h1.chg hd hc, h2.chg hc (by omega) h4, (hc.block Dd (Array.getElem?_eq_some_iff.1 h3).1 (by omega) (by omega)).trans h3, h4, h5⟩

theorem KM.abides {N D G n : Nat} {S T hh ll : Int} {bs : List UInt8} {w0 : World} {R : Nat} {L : List (Nat × Array Value × TypeId)} {Bw : Nat} {words : List WordV} {Dd z : Nat} {w w' : World} {row : Option Nat} (x : KM N D G n S T hh ll bs w0 R L Bw words Dd w) (hg : w.grownBy w' row) (hz : Dd < z ∧ R < z)
    (hr : ∀ r, row = some r → z ≤ r ∧ ∃ o : Obj, w.heap[r]? = some o ∧ o.isCells = false) : KM N D G n S T hh ll bs w0 R L Bw words Dd w' :=
  ⟨x.1.abides hg (fun r e => ⟨by have := (hr r e).1; omega, (hr r e).2⟩), x.2.1.abides hg (fun r e => (hr r e).2), (hg.block Dd (Array.getElem?_eq_some_iff.1 x.2.2.1).1 (fun e => by have := (hr Dd e.symm).1; omega)).trans x.2.2.1, x.2.2.2⟩
/-- A box that none of these names is set. -/
theorem KM.set {N D G n : Nat} {S T hh ll : Int} {bs : List UInt8} {w0 : World} {R : Nat} {L : List (Nat × Array Value × TypeId)} {Bw : Nat} {words : List WordV} {Dd B : Nat} {w : World} {v : Value} {t : TypeId} (x : KM N D G n S T hh ll bs w0 R L Bw words Dd w) (u : Value)
    (hB : w.heap[B]? = some (.cells #[v] t (0, 0))) (ht : t ≠ 72) (hD : D < B) (hw : B ≠ Bw) (hL : ∀ y ∈ L, y.1 ≠ B) : KM N D G n S T hh ll bs w0 R L Bw words Dd (w.setCell ⟨B, 0, none⟩ u) := by
  have hg : w.grownBy (w.setCell ⟨B, 0, none⟩ u) (some B) := grownBy_setCell (grownBy_id _ _)
  refine ⟨x.1.grown hg (fun g e => by injection e with e; subst e; exact ⟨hD, hL⟩), x.2.1.other hg hw ?_, (hg.block Dd (Array.getElem?_eq_some_iff.1 x.2.2.1).1 (fun e => ?_)).trans x.2.2.1, x.2.2.2⟩
  · obtain ⟨v', h1, h2⟩ := x.2.1
    rw [ownIn_row h1]
    rcases h2.2 with ⟨rfl, _⟩ | ⟨g, cap, cur, rfl, _, hrow, _⟩
    · intro e; cases e
    · intro e
      have e : g = B := by simpa [Value.ownBlock] using e
      subst e
      rw [hB] at hrow
      injection hrow with hrow
      injection hrow with _ h3
      exact ht h3
  · injection e with e
    subst e
    have := x.2.2.1
    rw [hB] at this
    cases this

theorem pre_of {α : Type} {l pre : List α} {x : α} (h : pre ++ [x] <+: l) : l[pre.length]? = some x := by
  obtain ⟨r, rfl⟩ := h
  simp

/-- Two words are one. -/
def eqW (x y : WordV) : Bool := decide (x.name = y.name ∧ x.head = y.head ∧ x.xt = y.xt ∧ x.imm = y.imm ∧ x.hid = y.hid ∧ x.inl = y.inl)
theorem eqW_iff (x y : WordV) : eqW x y = true ↔ x = y := by
  cases x; cases y; simp [eqW]
set_option maxHeartbeats 2000000 in
theorem equalIn_word (x y : WordV) (w : World) : (Op.equalIn 10000 72 (.agg x.cells) (.agg y.cells)).run Tryd.prog w = .ok (eqW x y) w := by
  have hm := Tryd.underlying72
  by_cases h0 : x.name = y.name <;> by_cases h1 : x.head = y.head <;> by_cases h2 : x.xt = y.xt <;> by_cases h3 : x.imm = y.imm <;> by_cases h4 : x.hid = y.hid <;> by_cases h5 : x.inl = y.inl <;> simp [eqW, h0, h1, h2, h3, h4, h5, go_sem, toList_inj]

/-- 'append(l, w)' within a round. -/
theorem wplI_pushW {l n : Nat} {ops : Array Oper} {rest : List Oper} {o : Oper} {a : Act} {Q : Exit → Act → World → Prop} (W : World)
    (hgd : o.guard = none) (s x : Operand)
    (ho : o.op = .call { callee := .builtin .append, args := #[s, x], argTypes := #[67, 67] })
    (v : Value) (ws : List WordV) (y : WordV) (M : Nat) (hM : W.heap.size = M) (hs : a.eval s = v) (hx : a.eval x = .slice (some ⟨M, 0, none⟩) 1 1)
    (B : Nat) (hB : B ≤ W.heap.size) (HO : W.ownsRow B 72 6 v ws.length (wcells ws)) (hl : ws.length ≤ 100000)
    (h : ∀ v1 w1, w1.ownsRow B 72 6 v1 (ws ++ [y]).length (wcells (ws ++ [y])) → Grew W w1 v v1 → (∃ g c, v1 = .slice (some ⟨g, 0, none⟩) (ws.length + 1) c) → wpListIn (Fence.wide.inRound l) n Tryd.prog ops Q rest (a.put o.dst v1) w1) :
    wpListIn (Fence.wide.inRound l) n Tryd.prog ops Q (o :: rest) a (W.alloc (.cells y.cells 72)) := by
  subst hM
  obtain ⟨z, hzi, hz6⟩ := Tryd.infoWord
  obtain ⟨i0, hi, hzz⟩ := Option.map_eq_some_iff.1 hzi
  simp only [Prod.mk.injEq] at hzz
  obtain ⟨hz0, hz1, hz2⟩ := hzz
  refine wpListIn_plain hgd fun K hK' => ?_
  obtain ⟨v', w', hrun, r1, r2, _, r4⟩ := run_append_own_at (P := Tryd.prog) (w := W.alloc (.cells y.cells 72)) B 67 o.type 72 i0 z 6 40 Tryd.underlying67 hi hz0 hz1 hz2 hz6 (by omega) v ws.length (wcells ws) (HO.alloc _) ⟨W.heap.size, 0, none⟩ 1 1 y.cells.toList (by simp)
    (fun j u hj => by
      rw [Addr.add_lit, Nat.zero_add]
      have hn := heap_alloc_new W (.cells y.cells 72)
      exact cell_of_row _ _ j _ _ _ hn ▸ (by simpa using hj))
    (fun u hu => by
      simp only [List.mem_cons, List.not_mem_nil, or_false] at hu
      rcases hu with rfl | rfl | rfl | rfl | rfl | rfl <;> rfl)
    (by simp only [maxLen]; omega) (by omega) (by simp; omega)
  unfold Oper.wpIn
  refine ⟨fun _ _ => trivial, ?_⟩
  rw [Oper.semAt_plain _ _ _ (by rw [ho]; intro c hc'; cases hc')]
  simp [execOp, ho, resolve, invoke, builtin, hs, hx, hrun, Result.andThen]
  refine hK' _ _ (h v' w' ?_ ⟨World.grownBy.trans (World.grownBy_alloc W _ _) r2, ?_⟩ ?_)
  · rw [wcells_snoc]; simpa using r1
  · rcases r4 with e | e
    · exact .inl e
    · exact .inr ⟨_, by simp, e⟩
  · rcases r1.2 with ⟨_, h0⟩ | ⟨g, c, cur, e, _⟩
    · omega
    · exact ⟨g, c, e⟩

end Go.Proofs.YthaldkmjjpepjaaDoor
