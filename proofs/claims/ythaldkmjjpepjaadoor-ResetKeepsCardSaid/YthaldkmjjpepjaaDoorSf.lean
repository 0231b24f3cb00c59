/-
  A list's own operations: CComma, Comma, Align, up, Allot.
-/
import Derived.Test.YthaldkmjjpepjaaDoorSe
import Derived.StillTailTactics
namespace Go.Proofs.YthaldkmjjpepjaaDoor
open Go.RowKit

/-- A list over an image: here is h, the latest head l. -/
def Dic (N D G n : Nat) (S T h l : Int) (bs : List UInt8) (w : World) : Prop :=
  Rowed N G n S T bs w ∧ w.heap[D]? = some (.cells #[.pointer (some ⟨N, 0, none⟩), .int .i64 16392, .int .i64 (16384 + S), .int .i64 h, .int .i64 l] 95 (0, 0)) ∧ G < D ∧ (16392 ≤ h ∧ h ≤ 16384 + S) ∧ (l = 0 ∨ 16392 ≤ l ∧ l < 16384 + S ∧ l % 8 = 0)

/-- Two blocks may have turned. -/
structure Chg (G D : Nat) (w w' : World) : Prop where
  os : w'.os = w.os
  tape : w'.tape = w.tape
  output : w'.output = w.output
  size : w.heap.size ≤ w'.heap.size
  block : ∀ k, k < w.heap.size → k ≠ G → k ≠ D → w'.heap[k]? = w.heap[k]?
theorem Chg.refl (G D : Nat) (w : World) : Chg G D w w := ⟨rfl, rfl, rfl, Nat.le_refl _, fun _ _ _ _ => rfl⟩
theorem Chg.trans {G D : Nat} {a b c : World} (h : Chg G D a b) (k : Chg G D b c) : Chg G D a c :=
  ⟨k.os.trans h.os, k.tape.trans h.tape, k.output.trans h.output, Nat.le_trans h.size k.size, fun i hi h1 h2 => (k.block i (Nat.lt_of_lt_of_le hi h.size) h1 h2).trans (h.block i hi h1 h2)⟩
theorem Chg.of_grown {G D : Nat} {w w' : World} (h : w.grownBy w' (some G)) : Chg G D w w' := ⟨h.os, h.tape, h.output, h.size, fun k hk h1 _ => h.block k hk (fun e => h1 (by injection e))⟩
theorem Chg.of_below {G D : Nat} {w w' : World} (h : Below w.heap.size w w') : Chg G D w w' := ⟨h.os, h.tape, h.output, h.size, fun k hk _ _ => h.block k hk⟩
theorem Chg.drewN (G D : Nat) (w : World) (n : Nat) : Chg G D w (w.drewN n) := .of_below (drewN_below w n)
theorem Chg.drew (G D : Nat) (w : World) : Chg G D w w.drew := .of_below (Below.refl _ w).drew
theorem Chg.setD (G D : Nat) (w : World) (i : Nat) (v : Value) : Chg G D w (w.setCell ⟨D, i, none⟩ v) := ⟨rfl, rfl, rfl, by simp [World.setCell], fun k _ _ h2 => heap_setCell_other _ _ _ _ (by exact h2)⟩

theorem Dic.still {N D G n : Nat} {S T h l : Int} {bs : List UInt8} {w w' : World} (hd : Dic N D G n S T h l bs w) (hb : ∀ k, k < w.heap.size → w'.heap[k]? = w.heap[k]?) : Dic N D G n S T h l bs w' :=
  ⟨⟨⟨(hb N (Array.getElem?_eq_some_iff.1 hd.1.1.1).1).trans hd.1.1.1, hd.1.1.2⟩, (hb G (Array.getElem?_eq_some_iff.1 hd.1.2.1).1).trans hd.1.2.1, hd.1.2.2⟩, (hb D (Array.getElem?_eq_some_iff.1 hd.2.1).1).trans hd.2.1, hd.2.2⟩
theorem Dic.below {N D G n : Nat} {S T h l : Int} {bs : List UInt8} {w w' : World} (hd : Dic N D G n S T h l bs w) (hb : Below w.heap.size w w') : Dic N D G n S T h l bs w' := hd.still hb.block
theorem Dic.rowed {N D G n : Nat} {S T h l : Int} {bs bs' : List UInt8} {w w' : World} (hd : Dic N D G n S T h l bs w) (hr : Rowed N G n S T bs' w') (hg : w.grownBy w' (some G)) : Dic N D G n S T h l bs' w' :=
  ⟨hr, (hg.block D (Array.getElem?_eq_some_iff.1 hd.2.1).1 (fun e => by injection e with e; have := hd.2.2.1; omega)).trans hd.2.1, hd.2.2⟩
theorem Dic.here {N D G n : Nat} {S T h l : Int} {bs : List UInt8} {w : World} (hd : Dic N D G n S T h l bs w) (h' : Int) (hh : 16392 ≤ h' ∧ h' ≤ 16384 + S) : Dic N D G n S T h' l bs (w.setCell ⟨D, 3, none⟩ (.int .i64 h')) :=
  ⟨⟨⟨(Below.heap_setCell _ _ _ _ (by have := hd.2.2.1; have := hd.1.2.2.2; simp; omega)).trans hd.1.1.1, hd.1.1.2⟩, (Below.heap_setCell _ _ _ _ (by have := hd.2.2.1; simp; omega)).trans hd.1.2.1, hd.1.2.2⟩,
    (heap_setCell_same _ _ 3 _ _ _ hd.2.1).trans (by rfl), hd.2.2.1, hh, hd.2.2.2.2⟩
theorem Dic.last {N D G n : Nat} {S T h l : Int} {bs : List UInt8} {w : World} (hd : Dic N D G n S T h l bs w) (l' : Int) (hh : l' = 0 ∨ 16392 ≤ l' ∧ l' < 16384 + S ∧ l' % 8 = 0) : Dic N D G n S T h l' bs (w.setCell ⟨D, 4, none⟩ (.int .i64 l')) :=
  ⟨⟨⟨(Below.heap_setCell _ _ _ _ (by have := hd.2.2.1; have := hd.1.2.2.2; simp; omega)).trans hd.1.1.1, hd.1.1.2⟩, (Below.heap_setCell _ _ _ _ (by have := hd.2.2.1; simp; omega)).trans hd.1.2.1, hd.1.2.2⟩,
    (heap_setCell_same _ _ 4 _ _ _ hd.2.1).trans (by rfl), hd.2.2.1, hd.2.2.2.1, hh⟩
abbrev DCells (N D : Nat) (S h l : Int) (w : World) : Prop := C5 w D (.pointer (some ⟨N, 0, none⟩)) (.int .i64 16392) (.int .i64 (16384 + S)) (.int .i64 h) (.int .i64 l)
theorem Dic.cells {N D G n : Nat} {S T h l : Int} {bs : List UInt8} {w : World} (hd : Dic N D G n S T h l bs w) : DCells N D S h l w := C5.row hd.2.1
theorem Dic.free {N D G n : Nat} {S T h l : Int} {bs : List UInt8} {w : World} (hd : Dic N D G n S T h l bs w) (i : Nat) : w.frozen? ⟨D, i, none⟩ = false := frozen_of_row _ _ _ _ _ hd.2.1

theorem take_far {l m : List UInt8} {b k : Nat} (h : ∀ i, i < b → m[i]? = l[i]?) (hb : k ≤ b) : m.take k = l.take k := by
  apply List.ext_getElem?
  intro i
  by_cases hi : i < k
  · rw [List.getElem?_take_of_lt hi, List.getElem?_take_of_lt hi, h i (by omega)]
  · rw [List.getElem?_take_eq_none (by omega), List.getElem?_take_eq_none (by omega)]
theorem take_set_far (l : List UInt8) {i k : Nat} (c : UInt8) (h : k ≤ i) : (l.set i c).take k = l.take k :=
  take_far (b := i) (fun j hj => List.getElem?_set_ne (by omega)) h

set_option maxRecDepth 100000 in
set_option maxHeartbeats 2000000 in
theorem ccomma_any (N D G n : Nat) (S T h l : Int) (c : UInt8) (bs : List UInt8) (w : World) (hd : Dic N D G n S T h l bs w) :
    Calls Tryd.prog 64 #[.pointer (some ⟨D, 0, none⟩), .int .u8 (c.toNat : Int)] w fun e w' =>
      ∃ (f h' : Int) (bs' : List UInt8), e = .returned (.int .i64 f) ∧ Dic N D G n S T h' l bs' w' ∧ Chg G D w w' ∧ bs'.take 16384 = bs.take 16384 ∧ ((f = 0 ∧ h' = h + 1) ∨ (f ≠ 0 ∧ h' = h)) := by
  have HD := hide hd
  obtain ⟨c0, c1, c2, c3, c4⟩ := hd.cells
  obtain ⟨hS, hh⟩ : (256 ≤ S ∧ S ≤ 1000) ∧ (16392 ≤ h ∧ h ≤ 16384 + S) := ⟨⟨hd.1.1.2.1.1, hd.1.1.2.1.2.1⟩, hd.2.2.2.1⟩
  clear hd
  by_cases hfull : 16384 + S ≤ h
  · go_enter Tryd.func64, Tryd.ntmps64
    go_wp2_with fail
    go_quiet (fail)
    go_wp2_with fail
    go_ret
    exact ⟨9, h, bs, rfl, HD.out.below (drewN_below _ _), .drewN _ _ _ _, rfl, .inr ⟨by decide, rfl⟩⟩
  · have hok : rowOk S T h 1 = true := by
      have := HD.out.1.1.2.1
      rcases reg_cases S T h this with q | q | q | q | q <;> simp only [rowOk, q, Bool.and_eq_true, decide_eq_true_eq] <;> omega
    have hlt := rowOk_lt HD.out.1.1.2.1 HD.out.1.1.2.2 hok
    have HOK := hide hok
    clear hok
    go_enter Tryd.func64, Tryd.ntmps64
    go_wp2_with fail
    go_quiet (fail)
    go_wp2_with fail
    have HD1 := hide (HD.out.below (drewN_below w nq))
    have HC1 := hide (Chg.drewN G D w nq)
    generalize w.drewN nq = w1 at *
    clear c0 c1 c2 c3 c4 HD
    obtain ⟨c0, c1, c2, c3, c4⟩ := HD1.out.cells
    go_still_tail 9, (by kernel_rfl)
    change wpList _ _ _ _ _ w1.drew
    have HD2 := hide (HD1.out.below (Below.refl _ w1).drew)
    have HC2 := hide (HC1.out.trans (Chg.drew G D w1))
    clear c0 c1 c2 c3 c4 HD1 HC1
    generalize w1.drew = w2 at *
    go_wp2_with fail
    refine (setByte_any N G n S T h c bs w2 HD2.out.1 (by omega)).mono ?_
    rw [HOK.out]
    rintro e w3 ⟨rfl, hw3⟩
    have hw3' : w3 = w2.setCell ⟨G, h.toNat, none⟩ (.int .u8 (c.toNat : Int)) := by simpa using hw3
    have HD3 := hide (show Dic N D G n S T h l (bs.set h.toNat c) w3 by
      rw [hw3']; exact HD2.out.rowed (HD2.out.1.set h.toNat c) (grownBy_setCell (grownBy_id _ _)))
    have HC3 := hide (show Chg G D w w3 by rw [hw3']; exact HC2.out.trans (.of_grown (grownBy_setCell (grownBy_id _ _))))
    clear hw3 hw3' HD2 HC2
    obtain ⟨c0, c1, c2, c3, c4⟩ := HD3.out.cells
    have hf := HD3.out.free 3
    go_wp2_with fail
    go_ret
    exact ⟨0, h + 1, bs.set h.toNat c, rfl, HD3.out.here (h + 1) (by omega), HC3.out.trans (Chg.setD _ _ _ _ _), take_set_far _ _ (by omega), .inl ⟨rfl, rfl⟩⟩

set_option maxRecDepth 100000 in
set_option maxHeartbeats 2000000 in
theorem comma_any (N D G n : Nat) (S T h l v : Int) (bs : List UInt8) (w : World) (hd : Dic N D G n S T h l bs w) :
    Calls Tryd.prog 50 #[.pointer (some ⟨D, 0, none⟩), .int .i64 v] w fun e w' =>
      ∃ (f h' : Int) (bs' : List UInt8), e = .returned (.int .i64 f) ∧ Dic N D G n S T h' l bs' w' ∧ Chg G D w w' ∧ bs'.take 16384 = bs.take 16384 := by
  have HD := hide hd
  obtain ⟨c0, c1, c2, c3, c4⟩ := hd.cells
  obtain ⟨hS, hh⟩ : (256 ≤ S ∧ S ≤ 1000) ∧ (16392 ≤ h ∧ h ≤ 16384 + S) := ⟨⟨hd.1.1.2.1.1, hd.1.1.2.1.2.1⟩, hd.2.2.2.1⟩
  have hw8 : IntKind.i64.wrap (16384 + S - 8) = 16384 + S - 8 := i64_wrap _ (by omega) (by omega)
  clear hd
  by_cases hfull : 16384 + S - 8 < h
  · go_enter Tryd.func50, Tryd.ntmps50
    go_wp2_with fail
    go_quiet (fail)
    go_wp2_with fail
    go_ret
    exact ⟨9, h, bs, rfl, HD.out.below (drewN_below _ _), .drewN _ _ _ _, rfl⟩
  · go_enter Tryd.func50, Tryd.ntmps50
    go_wp2_with fail
    go_quiet (fail)
    go_wp2_with fail
    have HD1 := hide (HD.out.below (drewN_below w nq))
    have HC1 := hide (Chg.drewN G D w nq)
    generalize w.drewN nq = w1 at *
    clear c0 c1 c2 c3 c4 HD
    obtain ⟨c0, c1, c2, c3, c4⟩ := HD1.out.cells
    go_still_tail 9, (by kernel_rfl)
    change wpList _ _ _ _ _ w1.drew
    have HD2 := hide (HD1.out.below (Below.refl _ w1).drew)
    have HC2 := hide (HC1.out.trans (Chg.drew G D w1))
    clear c0 c1 c2 c3 c4 HD1 HC1
    generalize w1.drew = w2 at *
    go_wp2_with fail
    refine (setCell_any N G n S T h v bs w2 HD2.out.1 (by omega)).mono ?_
    rintro e w3 ⟨f, bs', rfl, hr3, hg3, hp3, hf3, _⟩
    have HD3 := hide (HD2.out.rowed hr3 hg3)
    have HC3 := hide (HC2.out.trans (.of_grown hg3))
    have HP := hide (take_far (k := 16384) hp3 (by omega))
    clear hr3 hg3 hp3 HD2 HC2
    obtain ⟨c0, c1, c2, c3, c4⟩ := HD3.out.cells
    have hf := HD3.out.free 3
    rcases hf3 with rfl | rfl | rfl
    · go_wp2_with fail
      go_ret
      exact ⟨0, h + 8, bs', rfl, HD3.out.here (h + 8) (by omega), HC3.out.trans (Chg.setD _ _ _ _ _), HP.out⟩
    · go_wp2_with fail
      go_ret
      exact ⟨5, h, bs', rfl, HD3.out, HC3.out, HP.out⟩
    · go_wp2_with fail
      go_ret
      exact ⟨6, h, bs', rfl, HD3.out, HC3.out, HP.out⟩

set_option maxRecDepth 100000 in
set_option maxHeartbeats 2000000 in
theorem allot_any (N D G n : Nat) (S T h l v : Int) (bs : List UInt8) (w : World) (hd : Dic N D G n S T h l bs w) :
    Calls Tryd.prog 51 #[.pointer (some ⟨D, 0, none⟩), .int .i64 v] w fun e w' =>
      ∃ (f h' : Int), e = .returned (.int .i64 f) ∧ Dic N D G n S T h' l bs w' ∧ Chg G D w w' := by
  have HD := hide hd
  obtain ⟨c0, c1, c2, c3, c4⟩ := hd.cells
  have hf := hd.free 3
  obtain ⟨hS, hh⟩ : (256 ≤ S ∧ S ≤ 1000) ∧ (16392 ≤ h ∧ h ≤ 16384 + S) := ⟨⟨hd.1.1.2.1.1, hd.1.1.2.1.2.1⟩, hd.2.2.2.1⟩
  have hw1 : IntKind.i64.wrap (16392 - h) = 16392 - h := i64_wrap _ (by omega) (by omega)
  have hw2 : IntKind.i64.wrap (16384 + S - h) = 16384 + S - h := i64_wrap _ (by omega) (by omega)
  clear hd
  by_cases g1 : v < 16392 - h
  · have g1' : decide (v < 16392 - h) = true := by simpa using g1
    go_enter Tryd.func51, Tryd.ntmps51
    go_wp2_with fail
    go_quiet (fail)
    go_wp2_with fail
    go_ret
    exact ⟨9, h, rfl, HD.out.below (drewN_below _ _), .drewN _ _ _ _⟩
  · have g1' : decide (v < 16392 - h) = false := by simpa using g1
    by_cases g2 : 16384 + S - h < v
    · go_enter Tryd.func51, Tryd.ntmps51
      go_wp2_with fail
      go_quiet (fail)
      go_wp2_with fail
      go_ret
      exact ⟨9, h, rfl, HD.out.below (drewN_below _ _), .drewN _ _ _ _⟩
    · go_enter Tryd.func51, Tryd.ntmps51
      go_wp2_with fail
      go_quiet (fail)
      go_wp2_with fail
      go_ret
      exact ⟨0, h + v, rfl, (HD.out.below (drewN_below _ _)).here (h + v) (by omega), (Chg.drewN _ _ _ _).trans (Chg.setD _ _ _ _ _)⟩

end Go.Proofs.YthaldkmjjpepjaaDoor
