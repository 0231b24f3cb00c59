/-
  Lay: right and wrong.
-/
import Derived.Test.YthaldkmjjpepjaaDoorSo
namespace Go.Proofs.YthaldkmjjpepjaaDoor
open Go.RowKit

/-- On the way through Lay: the list, the box of the state. -/
def LayX (N D G n : Nat) (S T h l : Int) (bs : List UInt8) (B : Nat) (X : Obj) (w0 w : World) : Prop :=
  Dic N D G n S T h l bs w ∧ Chg G D w0 w ∧ w.heap[B]? = some X ∧ B ≠ G ∧ B ≠ D
theorem LayX.below {N D G n : Nat} {S T h l : Int} {bs : List UInt8} {B : Nat} {X : Obj} {w0 w w' : World} (hx : LayX N D G n S T h l bs B X w0 w) (hb : Below w.heap.size w w') : LayX N D G n S T h l bs B X w0 w' :=
  ⟨hx.1.below hb, hx.2.1.trans (.of_below hb), (hb.block B (Array.getElem?_eq_some_iff.1 hx.2.2.1).1).trans hx.2.2.1, hx.2.2.2⟩
theorem LayX.grown {N D G n : Nat} {S T h l : Int} {bs bs' : List UInt8} {B : Nat} {X : Obj} {w0 w w' : World} (hx : LayX N D G n S T h l bs B X w0 w) (hr : Rowed N G n S T bs' w') (hg : w.grownBy w' (some G)) : LayX N D G n S T h l bs' B X w0 w' :=
  ⟨hx.1.rowed hr hg, hx.2.1.trans (.of_grown hg), (hg.block B (Array.getElem?_eq_some_iff.1 hx.2.2.1).1 (fun e => by injection e with e; exact hx.2.2.2.1 e)).trans hx.2.2.1, hx.2.2.2⟩

def rightB (S T : Int) (a0 a1 a2 : ByteArray) (h l : Int) : Bool := decide ((a0.size : Int) = S) && decide ((a1.size : Int) = T) && decide ((a2.size : Int) = 64) && backOk S h l

set_option maxRecDepth 100000 in
set_option maxHeartbeats 4000000 in
theorem lay_wrong (N D G n : Nat) (S T h l h' l' : Int) (bs : List UInt8) (a0 a1 a2 : ByteArray) (w : World) (hd : Dic N D G n S T h l bs w) (hno : rightB S T a0 a1 a2 h' l' = false) :
    Calls Tryd.prog 23 #[.pointer (some ⟨N, 0, none⟩), .pointer (some ⟨D, 0, none⟩), .agg #[.string a0, .string a1, .string a2, .int .i64 h', .int .i64 l']] w fun e w' =>
      e = .returned (.int .i64 4) ∧ Dic N D G n S T h l bs w' ∧ Chg G D w w' := by
  have hDz := (Array.getElem?_eq_some_iff.1 hd.2.1).1
  have hGD := hd.2.2.1
  have HX0 := hide (show LayX N D G n S T h l bs w.heap.size (.cells #[.string a0, .string a1, .string a2, .int .i64 h', .int .i64 l'] 23) w (w.alloc (.cells #[.string a0, .string a1, .string a2, .int .i64 h', .int .i64 l'] 23)) from
    ⟨hd.below ((Below.refl _ _).alloc (Nat.le_refl _) _), .of_below ((Below.refl _ _).alloc (Nat.le_refl _) _), heap_alloc_new w _, by omega, by omega⟩)
  clear hd hDz hGD
  have hcase : (¬ (a0.size : Int) = S) ∨ ((a0.size : Int) = S ∧ ¬ (a1.size : Int) = T) ∨ ((a0.size : Int) = S ∧ (a1.size : Int) = T ∧ ¬ (a2.size : Int) = 64) ∨ ((a0.size : Int) = S ∧ (a1.size : Int) = T ∧ (a2.size : Int) = 64 ∧ backOk S h' l' = false) := by
    simp only [rightB, Bool.and_eq_false_iff, decide_eq_false_iff_not] at hno
    by_cases q1 : (a0.size : Int) = S
    · by_cases q2 : (a1.size : Int) = T
      · by_cases q3 : (a2.size : Int) = 64
        · refine .inr (.inr (.inr ⟨q1, q2, q3, ?_⟩))
          rcases hno with ((hno | hno) | hno) | hno
          · exact absurd q1 hno
          · exact absurd q2 hno
          · exact absurd q3 hno
          · exact hno
        · exact .inr (.inr (.inl ⟨q1, q2, q3⟩))
      · exact .inr (.inl ⟨q1, q2⟩)
    · exact .inl q1
  have HCASE := hide hcase
  clear hno hcase
  go_enter Tryd.func23, Tryd.ntmps23
  go_wp2_with fail
  refine (asked_ok N D G n S T h l bs _ HX0.out.1).mono ?_
  rintro e w1 ⟨rfl, hb1⟩
  have HX1 := hide (HX0.out.below hb1)
  clear hb1 HX0
  go_wp2_with fail
  refine (playout_any N G n S T _ HX1.out.1.1.1).mono ?_
  rintro e w2 ⟨rfl, hb2⟩
  have HX2 := hide ((HX1.out.below hb2).below ((Below.refl _ _).alloc (Nat.le_refl _) (.cells #[.int .i64 16384, .int .i64 0, .int .i64 S, .int .i64 T, .int .i64 64] 49)))
  have hz2 := hb2.size
  have hz1 := (Array.getElem?_eq_some_iff.1 (HX1.out.below hb2).2.2.1).1
  obtain ⟨c0, c1, c2, c3, c4⟩ := C5.row (HX1.out.below hb2).2.2.1
  clear hb2 HX1 hz2
  rcases HCASE.out with q | ⟨q, q'⟩ | ⟨q1, q2, q3⟩ | ⟨q1, q2, q3, q4⟩
  · have b1 : ((a0.size : Int) != S) = true := by simpa using q
    clear q
    go_wp2_with fail
    go_ret
    exact ⟨rfl, HX2.out.1, HX2.out.2.1⟩
  · have b1 : ((a0.size : Int) != S) = false := by simpa using q
    have b2 : ((a1.size : Int) != T) = true := by simpa using q'
    clear q q'
    go_wp2_with fail
    go_ret
    exact ⟨rfl, HX2.out.1, HX2.out.2.1⟩
  · have b1 : ((a0.size : Int) != S) = false := by simpa using q1
    have b2 : ((a1.size : Int) != T) = false := by simpa using q2
    have b3 : ((a2.size : Int) != 64) = true := by simpa using q3
    clear q1 q2 q3
    go_wp2_with fail
    go_ret
    exact ⟨rfl, HX2.out.1, HX2.out.2.1⟩
  · have b1 : ((a0.size : Int) != S) = false := by simpa using q1
    have b2 : ((a1.size : Int) != T) = false := by simpa using q2
    have b3 : ((a2.size : Int) != 64) = false := by simpa using q3
    clear q1 q2 q3
    go_wp2_with fail
    refine (back_any N D G n S T h l h' l' bs _ HX2.out.1).mono ?_
    rw [q4]
    rintro e w3 ⟨rfl, hw3⟩
    obtain rfl : w3 = _ := by simpa using hw3
    clear hw3 q4
    go_wp2_with fail
    go_ret
    exact ⟨rfl, HX2.out.1, HX2.out.2.1⟩

set_option maxRecDepth 100000 in
set_option maxHeartbeats 4000000 in
theorem lay_right (N D G n : Nat) (S T h l h' l' : Int) (bs : List UInt8) (a0 a1 a2 : ByteArray) (w : World) (hd : Dic N D G n S T h l bs w) (hok : rightB S T a0 a1 a2 h' l' = true) :
    Calls Tryd.prog 23 #[.pointer (some ⟨N, 0, none⟩), .pointer (some ⟨D, 0, none⟩), .agg #[.string a0, .string a1, .string a2, .int .i64 h', .int .i64 l']] w fun e w' =>
      e = .returned (.int .i64 0) ∧ Dic N D G n S T h' l' (layB (layB (layB bs 16384 a0) (16384 + a0.size) a1) (16384 + a0.size + a1.size) a2) w' ∧ Chg G D w w' := by
  have hDz := (Array.getElem?_eq_some_iff.1 hd.2.1).1
  have hGD := hd.2.2.1
  have HX0 := hide (show LayX N D G n S T h l bs w.heap.size (.cells #[.string a0, .string a1, .string a2, .int .i64 h', .int .i64 l'] 23) w (w.alloc (.cells #[.string a0, .string a1, .string a2, .int .i64 h', .int .i64 l'] 23)) from
    ⟨hd.below ((Below.refl _ _).alloc (Nat.le_refl _) _), .of_below ((Below.refl _ _).alloc (Nat.le_refl _) _), heap_alloc_new w _, by omega, by omega⟩)
  obtain ⟨hST, hn⟩ := hd.1.1.2
  clear hd hDz hGD
  simp only [rightB, Bool.and_eq_true, decide_eq_true_eq] at hok
  obtain ⟨⟨⟨q1, q2⟩, q3⟩, q4⟩ := hok
  have hbk : (16392 ≤ h' ∧ h' ≤ 16384 + S) ∧ (l' = 0 ∨ 16392 ≤ l' ∧ l' < 16384 + S ∧ l' % 8 = 0) := by
    simp only [backOk, Bool.and_eq_true, Bool.or_eq_true, decide_eq_true_eq] at q4
    refine ⟨q4.1, q4.2.imp id fun q => ⟨q.1.2, q.2, ?_⟩⟩
    have q0 := q.1.1
    rwa [Int.tmod_eq_emod_of_nonneg (by omega)] at q0
  have HQ := hide (And.intro q1 (And.intro q2 q3))
  have b1 : ((a0.size : Int) != S) = false := by simpa using q1
  have b2 : ((a1.size : Int) != T) = false := by simpa using q2
  have b3 : ((a2.size : Int) != 64) = false := by simpa using q3
  clear q1 q2 q3
  go_enter Tryd.func23, Tryd.ntmps23
  go_wp2_with fail
  refine (asked_ok N D G n S T h l bs _ HX0.out.1).mono ?_
  rintro e w1 ⟨rfl, hb1⟩
  have HX1 := hide (HX0.out.below hb1)
  clear hb1 HX0
  go_wp2_with fail
  refine (playout_any N G n S T _ HX1.out.1.1.1).mono ?_
  rintro e w2 ⟨rfl, hb2⟩
  have HX2 := hide ((HX1.out.below hb2).below ((Below.refl _ _).alloc (Nat.le_refl _) (.cells #[.int .i64 16384, .int .i64 0, .int .i64 S, .int .i64 T, .int .i64 64] 49)))
  have hz2 := hb2.size
  have hz1 := (Array.getElem?_eq_some_iff.1 (HX1.out.below hb2).2.2.1).1
  obtain ⟨c0, c1, c2, c3, c4⟩ := C5.row (HX1.out.below hb2).2.2.1
  clear hb2 HX1 hz2
  go_wp2_with fail
  refine (back_any N D G n S T h l h' l' bs _ HX2.out.1).mono ?_
  rw [q4]
  rintro e w3 ⟨rfl, hw3⟩
  clear c0 c1 c2 c3 c4
  have HX3 := hide (show LayX N D G n S T h' l' bs w.heap.size (.cells #[.string a0, .string a1, .string a2, .int .i64 h', .int .i64 l'] 23) w w3 by
    rw [if_pos rfl] at hw3
    rw [hw3]
    obtain ⟨x1, x2, x3, x4, x5⟩ := HX2.out
    exact ⟨(x1.here h' hbk.1).last l' hbk.2, x2.trans ((Chg.setD _ _ _ _ _).trans (Chg.setD _ _ _ _ _)), (heap_setCell_other _ _ _ _ (by exact x5)).trans ((heap_setCell_other _ _ _ _ (by exact x5)).trans x3), x4, x5⟩)
  clear hw3 HX2 q4 b1 b2 b3
  obtain ⟨c0, c1, c2, c3, c4⟩ := C5.row HX3.out.2.2.1
  go_wp2_with fail
  have s1 : w3.cell? ⟨N, 8, none⟩ = some (.int .i64 16384) := cell_of_row _ N 8 _ _ _ HX3.out.1.1.1.1
  have s2 : w3.cell? ⟨N, 9, none⟩ = some (.int .i64 (16384 + S)) := cell_of_row _ N 9 _ _ _ HX3.out.1.1.1.1
  obtain ⟨q1, q2, q3⟩ := HQ.out
  refine (put_any N G n 16384 S T 3 bs a0 w3 HX3.out.1.1 (by omega) s1 (s2.trans (by rw [← q1]; rfl)) (by omega) (by omega)).mono ?_
  clear s1 s2 c0 c1 c2 c3 c4
  rintro e w4 ⟨rfl, hr4, hg4⟩
  have HX4 := hide (HX3.out.grown hr4 hg4)
  clear hr4 hg4 HX3 q1 q2 q3
  obtain ⟨c0, c1, c2, c3, c4⟩ := C5.row HX4.out.2.2.1
  go_wp2_with fail
  have s1 : w4.cell? ⟨N, 9, none⟩ = some (.int .i64 (16384 + S)) := cell_of_row _ N 9 _ _ _ HX4.out.1.1.1.1
  have s2 : w4.cell? ⟨N, 10, none⟩ = some (.int .i64 (16384 + S + T)) := cell_of_row _ N 10 _ _ _ HX4.out.1.1.1.1
  obtain ⟨q1, q2, q3⟩ := HQ.out
  refine (put_any N G n (16384 + a0.size) S T 4 _ a1 w4 HX4.out.1.1 (by omega) (s1.trans (by rw [← q1]; rfl)) (s2.trans (by rw [← q1, ← q2]; rfl)) (by omega) (by omega)).mono ?_
  clear s1 s2 c0 c1 c2 c3 c4
  rintro e w5 ⟨rfl, hr5, hg5⟩
  have HX5 := hide (HX4.out.grown hr5 hg5)
  clear hr5 hg5 HX4 q1 q2 q3
  obtain ⟨c0, c1, c2, c3, c4⟩ := C5.row HX5.out.2.2.1
  go_wp2_with fail
  have s1 : w5.cell? ⟨N, 10, none⟩ = some (.int .i64 (16384 + S + T)) := cell_of_row _ N 10 _ _ _ HX5.out.1.1.1.1
  have s2 : w5.cell? ⟨N, 11, none⟩ = some (.int .i64 (16384 + S + T + 64)) := cell_of_row _ N 11 _ _ _ HX5.out.1.1.1.1
  obtain ⟨q1, q2, q3⟩ := HQ.out
  refine (put_any N G n (16384 + a0.size + a1.size) S T 5 _ a2 w5 HX5.out.1.1 (by omega) (s1.trans (by rw [← q1, ← q2]; rfl)) (s2.trans (by rw [← q1, ← q2, ← q3]; rfl)) (by omega) (by omega)).mono ?_
  clear s1 s2 c0 c1 c2 c3 c4
  rintro e w6 ⟨rfl, hr6, hg6⟩
  have HX6 := hide (HX5.out.grown hr6 hg6)
  clear hr6 hg6 HX5 q1 q2 q3
  go_wp2_with fail
  go_ret
  exact ⟨rfl, HX6.out.1, HX6.out.2.1⟩

end Go.Proofs.YthaldkmjjpepjaaDoor
