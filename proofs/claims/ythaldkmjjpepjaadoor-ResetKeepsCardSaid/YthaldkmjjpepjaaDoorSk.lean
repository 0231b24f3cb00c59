/-
  does: what is done to the image and the list: a list stays a list.
-/
import Derived.Test.YthaldkmjjpepjaaDoorSj
namespace Go.Proofs.YthaldkmjjpepjaaDoor
open Go.RowKit

/-- What does keeps: the box, the list, all else. -/
def DoesX (N D G n : Nat) (S T : Int) (bs : List UInt8) (B : Nat) (X : Obj) (w0 w : World) : Prop :=
  ∃ h l bs', Dic N D G n S T h l bs' w ∧ Chg G D w0 w ∧ bs'.take 16384 = bs.take 16384 ∧ w.heap[B]? = some X ∧ B ≠ G ∧ B ≠ D
theorem DoesX.next {N D G n : Nat} {S T : Int} {bs : List UInt8} {B : Nat} {X : Obj} {w0 w w' : World} {h l : Int} {bs1 bs2 : List UInt8}
    (hx : Chg G D w0 w ∧ bs1.take 16384 = bs.take 16384 ∧ w.heap[B]? = some X ∧ B ≠ G ∧ B ≠ D) (hd : Dic N D G n S T h l bs2 w') (hc : Chg G D w w') (ht : bs2.take 16384 = bs1.take 16384) : DoesX N D G n S T bs B X w0 w' :=
  ⟨h, l, bs2, hd, hx.1.trans hc, ht.trans hx.2.1, (hc.block B (Array.getElem?_eq_some_iff.1 hx.2.2.1).1 hx.2.2.2.1 hx.2.2.2.2).trans hx.2.2.1, hx.2.2.2⟩
theorem DoesX.below {N D G n : Nat} {S T : Int} {bs : List UInt8} {B : Nat} {X : Obj} {w0 w w' : World} (hx : DoesX N D G n S T bs B X w0 w) (hb : Below w.heap.size w w') : DoesX N D G n S T bs B X w0 w' := by
  obtain ⟨h, l, bs', hd, hr⟩ := hx
  exact DoesX.next hr (hd.below hb) (.of_below hb) rfl

set_option maxRecDepth 100000 in
set_option maxHeartbeats 4000000 in
theorem does_any (N D G n : Nat) (S T h l k v : Int) (bs : List UInt8) (s : ByteArray) (w : World) (hd : Dic N D G n S T h l bs w) (hk : -9223372036854775808 ≤ k ∧ k ≤ 9223372036854775807) (hv : -9223372036854775808 ≤ v ∧ v ≤ 9223372036854775807)
    (hs : s.size ≤ 140737488351232) :
    Calls Tryd.prog 24 #[.pointer (some ⟨N, 0, none⟩), .pointer (some ⟨D, 0, none⟩), .agg #[.int .i64 k, .int .i64 v, .string s]] w fun e w' =>
      ∃ (u : Value) (h' l' : Int) (bs' : List UInt8), e = .returned u ∧ Dic N D G n S T h' l' bs' w' ∧ Chg G D w w' ∧ bs'.take 16384 = bs.take 16384 := by
  obtain ⟨X, hX⟩ : ∃ X : Obj, X = .cells #[.int .i64 k, .int .i64 v, .string s] 59 := ⟨_, rfl⟩
  have hDz := (Array.getElem?_eq_some_iff.1 hd.2.1).1
  have hGD := hd.2.2.1
  have HX0 := hide (show DoesX N D G n S T bs w.heap.size X w (w.alloc X) from
    ⟨h, l, bs, hd.below ((Below.refl _ _).alloc (Nat.le_refl _) _), .of_below ((Below.refl _ _).alloc (Nat.le_refl _) _), rfl, heap_alloc_new w X, by omega, by omega⟩)
  clear hDz hGD
  have HP5 := hide (fun w => pick_any k 5 w (by omega) (by omega) hk.2 hk.1)
  change Hid (∀ w, Calls _ _ _ w fun e w' => e = .returned (.int .i64 (pickI k 5)) ∧ w = w') at HP5
  obtain ⟨p0, p1⟩ := pickI_range k 5 (by omega)
  generalize pickI k 5 = p at *
  obtain ⟨hS, hT⟩ : (256 ≤ S ∧ S ≤ 1000) ∧ (64 ≤ T ∧ T ≤ 1000) := ⟨⟨hd.1.1.2.1.1, hd.1.1.2.1.2.1⟩, hd.1.1.2.1.2.2⟩
  clear hd
  rw [hX] at HX0
  clear hX
  go_enter Tryd.func24, Tryd.ntmps24
  go_wp2_with fail
  obtain ⟨h0, l0, bs0, hd0, hr0⟩ := HX0.out
  have s1 : (w.alloc (.cells #[.int .i64 k, .int .i64 v, .string s] 59)).cell? ⟨N, 8, none⟩ = some (.int .i64 16384) := cell_of_row _ N 8 _ _ _ hd0.1.1.1
  have s2 : (w.alloc (.cells #[.int .i64 k, .int .i64 v, .string s] 59)).cell? ⟨N, 9, none⟩ = some (.int .i64 (16384 + S)) := cell_of_row _ N 9 _ _ _ hd0.1.1.1
  clear hd0 hr0
  refine (span_any N 3 16384 (16384 + S) _ (by omega) s1 s2).mono ?_
  clear s1 s2
  rintro e w1 ⟨rfl, hb1⟩
  have HX1 := hide (HX0.out.below hb1)
  clear hb1 HX0
  obtain ⟨h1, l1, bs1, hd1, hr1⟩ := HX1.out
  have HD1 := hide hd1
  have HR1 := hide hr1
  have e0 : w1.cell? ⟨w.heap.size, 0, none⟩ = some (.int .i64 k) := cell_of_row _ _ 0 _ _ _ hr1.2.2.1
  have e1 : w1.cell? ⟨w.heap.size, 1, none⟩ = some (.int .i64 v) := cell_of_row _ _ 1 _ _ _ hr1.2.2.1
  have e2 : w1.cell? ⟨w.heap.size, 2, none⟩ = some (.string s) := cell_of_row _ _ 2 _ _ _ hr1.2.2.1
  clear hd1 hr1 HX1
  go_wp2_with fail
  refine (HP5.out _).mono ?_
  rintro e w2 ⟨rfl, rfl⟩
  obtain rfl | rfl | rfl | rfl | rfl : p = 0 ∨ p = 1 ∨ p = 2 ∨ p = 3 ∨ p = 4 := by omega
  · go_wp2_with fail
    refine (create_any N D G n S T h1 l1 bs1 s w1 HD1.out).mono ?_
    rintro e w3 ⟨u3, h3, l3, bs3, rfl, hd3, hc3, ht3⟩
    have HD3 := hide hd3
    have HC3 := hide (HR1.out.1.trans hc3)
    have HT3 := hide (ht3.trans HR1.out.2.1)
    clear hd3 hc3 ht3 e0 e1 e2
    go_wp2_with fail
    refine (show_any N D G n S T h3 l3 bs3 w3 HD3.out).mono ?_
    rintro e w4 ⟨u4, bs4, rfl, hd4, hc4, ht4⟩
    have HD4 := hide hd4
    have HC4 := hide (HC3.out.trans hc4)
    have HT4 := hide (ht4.trans HT3.out)
    clear hd4 hc4 ht4
    go_wp2_with fail
    go_end0
    exact ⟨_, h3, l3, bs4, rfl, HD4.out, HC4.out, HT4.out⟩
  · go_wp2_with fail
    refine (comma_any N D G n S T h1 l1 v bs1 w1 HD1.out).mono ?_
    rintro e w3 ⟨u3, h3, bs3, rfl, hd3, hc3, ht3⟩
    have HD3 := hide hd3
    have HC3 := hide (HR1.out.1.trans hc3)
    have HT3 := hide (ht3.trans HR1.out.2.1)
    clear hd3 hc3 ht3 e0 e1 e2
    go_wp2_with fail
    go_end0
    exact ⟨_, h3, l1, bs3, rfl, HD3.out, HC3.out, HT3.out⟩
  · have HPS := hide (fun w => pick_any v S w (by omega) (by omega) hv.2 hv.1)
    change Hid (∀ w, Calls _ _ _ w fun e w' => e = .returned (.int .i64 (pickI v S)) ∧ w = w') at HPS
    obtain ⟨q0, q1⟩ := pickI_range v S (by omega)
    generalize pickI v S = q at *
    have HX2 := hide (show DoesX N D G n S T bs w.heap.size (.cells #[.int .i64 k, .int .i64 v, .string s] 59) w w1 from ⟨h1, l1, bs1, HD1.out, HR1.out⟩)
    clear HD1 HR1 e0 e1 e2
    go_wp2_with fail
    go_loopw [8] (fun i wr => ∃ j : Nat, j ≤ s.size ∧ i = .int .i64 j ∧ Hid (DoesX N D G n S T bs w.heap.size (.cells #[.int .i64 k, .int .i64 v, .string s] 59) w wr)) (fun i _ => s.size - (intOf i).toNat)
    case atStart => exact ⟨0, by omega, rfl, HX2.out⟩
    case round =>
      obtain ⟨j, hj, rfl, hX⟩ := hrel
      obtain ⟨h2, l2, bs2, hd2, hr2⟩ := hX.out
      have HD2 := hide hd2
      have HR2 := hide hr2
      have e1 : wr.cell? ⟨w.heap.size, 1, none⟩ = some (.int .i64 v) := cell_of_row _ _ 1 _ _ _ hr2.2.2.1
      have e2 : wr.cell? ⟨w.heap.size, 2, none⟩ = some (.string s) := cell_of_row _ _ 2 _ _ _ hr2.2.2.1
      clear hd2 hr2 hX
      by_cases hlt : j < s.size
      · have hlt' : (j : Int) < (s.size : Int) := by omega
        have w1 : IntKind.i64.wrap (16384 + S - 16384) = S := by rw [i64_wrap _ (by omega) (by omega)]; omega
        have w1' : IntKind.i64.wrap S = S := i64_wrap _ (by omega) (by omega)
        have w2 : IntKind.i64.wrap (16384 + q) = 16384 + q := i64_wrap _ (by omega) (by omega)
        have w3 : IntKind.i64.wrap (16384 + q + (j : Int)) = 16384 + q + (j : Int) := i64_wrap _ (by omega) (by omega)
        go_wp2_with fail
        go_still_tail 15, (by kernel_rfl)
        still_call (quiet_sw (HPS.out _))
        repeat still_step
        refine wpStill_nil ?_
        change wpList _ _ _ _ _ wr.drew
        have HD3 := hide (HD2.out.below (Below.refl _ wr).drew)
        have HX3 := hide (DoesX.next HR2.out HD3.out (Chg.drew G D wr) rfl)
        clear e1 e2 HD2 HR2 w1 w1' w2 w3
        generalize wr.drew = wd at *
        go_wp2_with fail
        refine (setByte_any N G n S T (16384 + q + (j : Int)) s[j] bs2 wd HD3.out.1 (by omega)).mono ?_
        rintro e w4 ⟨rfl, hw4⟩
        have HX4 := hide (show DoesX N D G n S T bs w.heap.size (.cells #[.int .i64 k, .int .i64 v, .string s] 59) w w4 by
          obtain ⟨h3, l3, bs3, hd3, hr3⟩ := HX3.out
          by_cases hok : rowOk S T (16384 + q + (j : Int)) 1 = true
          · rw [if_pos hok] at hw4
            rw [hw4]
            exact DoesX.next hr3 (hd3.rowed (hd3.1.set _ s[j]) (grownBy_setCell (grownBy_id _ _))) (.of_grown (grownBy_setCell (grownBy_id _ _))) (take_set_far _ _ (by omega))
          · rw [if_neg hok] at hw4
            rw [hw4]
            exact ⟨h3, l3, bs3, hd3, hr3⟩)
        clear hw4 HX3 HD3
        go_wp2_with fail
        go_roundw
        case rel => exact ⟨j + 1, by omega, rfl, HX4.out⟩
        case measure => simp [intOf]; omega
      · have hlt' : ¬ (j : Int) < (s.size : Int) := by omega
        go_wp2_with fail
        go_end0
        exact ⟨⟨_, rfl⟩, h2, l2, bs2, HD2.out, HR2.out.1, HR2.out.2.1⟩
  · have HPS := hide (fun w => pick_any v T w (by omega) (by omega) hv.2 hv.1)
    change Hid (∀ w, Calls _ _ _ w fun e w' => e = .returned (.int .i64 (pickI v T)) ∧ w = w') at HPS
    obtain ⟨q0, q1⟩ := pickI_range v T (by omega)
    generalize pickI v T = q at *
    have s1 : w1.cell? ⟨N, 9, none⟩ = some (.int .i64 (16384 + S)) := cell_of_row _ N 9 _ _ _ HD1.out.1.1.1
    have s2 : w1.cell? ⟨N, 10, none⟩ = some (.int .i64 (16384 + S + T)) := cell_of_row _ N 10 _ _ _ HD1.out.1.1.1
    have HX2 := hide (show DoesX N D G n S T bs w.heap.size (.cells #[.int .i64 k, .int .i64 v, .string s] 59) w w1 from ⟨h1, l1, bs1, HD1.out, HR1.out⟩)
    have HSP := hide (span_any N 4 (16384 + S) (16384 + S + T) w1 (by omega) s1 s2)
    clear HD1 HR1 e0 e1 e2 s1 s2
    go_wp2_with fail
    refine HSP.out.mono ?_
    rintro e w2 ⟨rfl, hb2⟩
    have HX3 := hide (HX2.out.below hb2)
    clear hb2 HX2 HSP
    obtain ⟨h2, l2, bs2, hd2, hr2⟩ := HX3.out
    have HD2 := hide hd2
    have HR2 := hide hr2
    have e1 : w2.cell? ⟨w.heap.size, 1, none⟩ = some (.int .i64 v) := cell_of_row _ _ 1 _ _ _ hr2.2.2.1
    have e2 : w2.cell? ⟨w.heap.size, 2, none⟩ = some (.string s) := cell_of_row _ _ 2 _ _ _ hr2.2.2.1
    clear hd2 hr2 HX3
    have w1 : IntKind.i64.wrap (16384 + S + T - (16384 + S)) = T := by rw [i64_wrap _ (by omega) (by omega)]; omega
    have w1' : IntKind.i64.wrap T = T := i64_wrap _ (by omega) (by omega)
    have w3 : IntKind.i64.wrap (16384 + S + q) = 16384 + S + q := i64_wrap _ (by omega) (by omega)
    go_wp2_with fail
    go_still_tail 13, (by kernel_rfl)
    still_call (quiet_sw (HPS.out _))
    repeat still_step
    refine wpStill_nil ?_
    change wpList _ _ _ _ _ w2.drew
    have HD3 := hide (HD2.out.below (Below.refl _ w2).drew)
    have HX3 := hide (DoesX.next HR2.out HD3.out (Chg.drew G D w2) rfl)
    clear e1 e2 HD2 HR2 w1 w1' w3
    generalize w2.drew = wd at *
    obtain ⟨c, hc⟩ := mod256 (s.size : Int)
    have hc' : IntKind.u8.wrap (s.size : Int) = (c.toNat : Int) := hc
    have HC := hide hc
    have HC' := hide hc'
    clear hc hc'
    go_wp2_with fail
    try rw [HC.out]
    try rw [HC'.out]
    refine (setByte_any N G n S T (16384 + S + q) c bs2 wd HD3.out.1 (by omega)).mono ?_
    rintro e w4 ⟨rfl, hw4⟩
    have HX4 := hide (show DoesX N D G n S T bs w.heap.size (.cells #[.int .i64 k, .int .i64 v, .string s] 59) w w4 by
      obtain ⟨h3, l3, bs3, hd3, hr3⟩ := HX3.out
      by_cases hok : rowOk S T (16384 + S + q) 1 = true
      · rw [if_pos hok] at hw4
        rw [hw4]
        exact DoesX.next hr3 (hd3.rowed (hd3.1.set _ c) (grownBy_setCell (grownBy_id _ _))) (.of_grown (grownBy_setCell (grownBy_id _ _))) (take_set_far _ _ (by omega))
      · rw [if_neg hok] at hw4
        rw [hw4]
        exact ⟨h3, l3, bs3, hd3, hr3⟩)
    clear hw4 HX3 HD3
    obtain ⟨h4, l4, bs4, hd4, hr4⟩ := HX4.out
    have H4 := hide (And.intro hd4 (And.intro hr4.1 hr4.2.1))
    clear hd4 hr4 HX4
    go_wp2_with fail
    all_goals
      go_end0
      exact ⟨⟨_, rfl⟩, h4, l4, bs4, H4.out⟩
  · go_wp2_with fail
    refine (allot_any N D G n S T h1 l1 v bs1 w1 HD1.out).mono ?_
    rintro e w3 ⟨u3, h3, rfl, hd3, hc3⟩
    have HD3 := hide hd3
    have HC3 := hide (HR1.out.1.trans hc3)
    clear hd3 hc3 e0 e1 e2
    go_wp2_with fail
    go_end0
    exact ⟨_, h3, l1, bs1, rfl, HD3.out, HC3.out, HR1.out.2.1⟩

end Go.Proofs.YthaldkmjjpepjaaDoor
