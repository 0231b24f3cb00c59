/-
  The reference's Back; Layout.
-/
import Derived.Test.YthaldkmjjpepjaaDoorSm
namespace Go.Proofs.YthaldkmjjpepjaaDoor
open Go.RowKit

set_option maxHeartbeats 1000000 in
theorem playout_any (N G n : Nat) (S T : Int) (w : World) (h : Img N G n S T w) :
    Calls Tryd.prog 45 #[.pointer (some ⟨N, 0, none⟩)] w fun e w' => e = .returned (.agg #[.int .i64 16384, .int .i64 0, .int .i64 S, .int .i64 T, .int .i64 64]) ∧ Below w.heap.size w w' := by
  have hN := (Array.getElem?_eq_some_iff.1 h.1).1
  have hr := (heap_alloc_old w (.cells #[.int .i64 0, .int .i64 0, .int .i64 0, .int .i64 0, .int .i64 0] 49) hN).trans h.1
  have c0 : w.cell? ⟨N, 0, none⟩ = some (.int .i64 16384) := cell_of_row _ N 0 _ _ _ h.1
  have c1 : w.cell? ⟨N, 1, none⟩ = some (.int .i64 0) := cell_of_row _ N 1 _ _ _ h.1
  have c2 : w.cell? ⟨N, 2, none⟩ = some (.int .i64 S) := cell_of_row _ N 2 _ _ _ h.1
  have c3 : w.cell? ⟨N, 3, none⟩ = some (.int .i64 T) := cell_of_row _ N 3 _ _ _ h.1
  have c4 : w.cell? ⟨N, 4, none⟩ = some (.int .i64 64) := cell_of_row _ N 4 _ _ _ h.1
  clear h hr
  go_enter Tryd.func45, Tryd.ntmps45
  go_wp2_with fail
  refine post_cell (g := w.heap.size) rfl rfl rfl (heap_alloc_new w _) Tryd.underlying49 rfl (by kernel_rfl) ⟨rfl, (Below.refl _ _).alloc (Nat.le_refl _) _⟩

/-- The reference's list, new. -/
def refC (M : Nat) (L : Nat) (h l : Int) : Array Value := #[.slice (some ⟨M, 0, none⟩) L L, .int .i64 16384, .bool false, .int .i64 h, .int .i64 l]

set_option maxHeartbeats 1000000 in
theorem rto_any (R M L : Nat) (h l : Int) (w : World) (hL : L ≤ 100000) (hr : w.heap[R]? = some (.cells (refC M L h l) 106 (0, 0))) :
    Calls Tryd.prog 52 #[.pointer (some ⟨R, 0, none⟩)] w fun e w' => e = .returned (.int .i64 (16384 + (L : Int))) ∧ Below w.heap.size w w' := by
  have c0 : w.cell? ⟨R, 0, none⟩ = some (.slice (some ⟨M, 0, none⟩) L L) := cell_of_row _ R 0 _ _ _ hr
  have c1 : w.cell? ⟨R, 1, none⟩ = some (.int .i64 16384) := cell_of_row _ R 1 _ _ _ hr
  have hw : IntKind.i64.wrap (16384 + (L : Int)) = 16384 + (L : Int) := i64_wrap _ (by omega) (by omega)
  clear hr
  go_enter Tryd.func52, Tryd.ntmps52
  go_wp2_with fail
  go_quiet (fail)
  go_wp2_with fail
  go_ret
  exact ⟨rfl, drewN_below _ _⟩

set_option maxHeartbeats 4000000 in
theorem rback_any (R M L : Nat) (h l h' l' : Int) (w : World) (hL : L ≤ 100000) (hr : w.heap[R]? = some (.cells (refC M L h l) 106 (0, 0))) :
    Calls Tryd.prog 27 #[.pointer (some ⟨R, 0, none⟩), .int .i64 h', .int .i64 l'] w fun e w' =>
      e = .returned (.int .i64 (if backOk L h' l' then 0 else 1)) ∧ w.grownBy w' (some R) := by
  have HT := hide (fun w hr => rto_any R M L h l w hL hr)
  have HR := hide hr
  have c1 : w.cell? ⟨R, 1, none⟩ = some (.int .i64 16384) := cell_of_row _ R 1 _ _ _ hr
  clear hr
  by_cases g1 : h' < 16392
  · have hno : backOk L h' l' = false := by simp [backOk]; omega
    rw [hno]
    go_enter Tryd.func27, Tryd.ntmps27
    go_wp2_with fail
    go_ret
    exact ⟨rfl, grownBy_id _ _⟩
  · by_cases g2 : 16384 + (L : Int) < h'
    · have hno : backOk L h' l' = false := by simp [backOk]; omega
      rw [hno]
      go_enter Tryd.func27, Tryd.ntmps27
      go_wp2_with fail
      refine (HT.out _ HR.out).mono ?_
      rintro e w1 ⟨rfl, hb1⟩
      have HB1 := hide hb1
      have HR1 := hide ((hb1.block R (Array.getElem?_eq_some_iff.1 HR.out).1).trans HR.out)
      clear hb1
      have d1' : w1.cell? ⟨R, 1, none⟩ = some (.int .i64 16384) := cell_of_row _ R 1 _ _ _ HR1.out
      have d3' : w1.cell? ⟨R, 3, none⟩ = some (.int .i64 h) := cell_of_row _ R 3 _ _ _ HR1.out
      have d4' : w1.cell? ⟨R, 4, none⟩ = some (.int .i64 l) := cell_of_row _ R 4 _ _ _ HR1.out
      have f3' := frozen_of_row w1 R 3 _ _ HR1.out
      have f4' := frozen_of_row w1 R 4 _ _ HR1.out
      go_wp2_with fail
      go_ret
      exact ⟨rfl, grownBy_of_below HB1.out _⟩
    · by_cases g3 : l' = 0
      · have g3' : (l' != 0) = false := by simp [g3]
        have hno : backOk L h' l' = true := by simp [backOk]; omega
        rw [hno]
        go_enter Tryd.func27, Tryd.ntmps27
        go_wp2_with fail
        refine (HT.out _ HR.out).mono ?_
        rintro e w1 ⟨rfl, hb1⟩
        have HB1 := hide hb1
        have HR1 := hide ((hb1.block R (Array.getElem?_eq_some_iff.1 HR.out).1).trans HR.out)
        clear hb1
        have d1' : w1.cell? ⟨R, 1, none⟩ = some (.int .i64 16384) := cell_of_row _ R 1 _ _ _ HR1.out
        have d3' : w1.cell? ⟨R, 3, none⟩ = some (.int .i64 h) := cell_of_row _ R 3 _ _ _ HR1.out
        have d4' : w1.cell? ⟨R, 4, none⟩ = some (.int .i64 l) := cell_of_row _ R 4 _ _ _ HR1.out
        have f3' := frozen_of_row w1 R 3 _ _ HR1.out
        have f4' := frozen_of_row w1 R 4 _ _ HR1.out
        go_wp2_with fail
        go_ret
        exact ⟨rfl, grownBy_setCell (grownBy_setCell (grownBy_of_below HB1.out _))⟩
      · have g3' : (l' != 0) = true := by simp [g3]
        by_cases g4 : l'.tmod 8 = 0
        · have g4' : (l'.tmod 8 != 0) = false := by simp [g4]
          by_cases g5 : l' < 16392
          · have hno : backOk L h' l' = false := by simp [backOk]; omega
            rw [hno]
            go_enter Tryd.func27, Tryd.ntmps27
            go_wp2_with fail
            refine (HT.out _ HR.out).mono ?_
            rintro e w1 ⟨rfl, hb1⟩
            have HB1 := hide hb1
            have HR1 := hide ((hb1.block R (Array.getElem?_eq_some_iff.1 HR.out).1).trans HR.out)
            clear hb1
            have d1' : w1.cell? ⟨R, 1, none⟩ = some (.int .i64 16384) := cell_of_row _ R 1 _ _ _ HR1.out
            have d3' : w1.cell? ⟨R, 3, none⟩ = some (.int .i64 h) := cell_of_row _ R 3 _ _ _ HR1.out
            have d4' : w1.cell? ⟨R, 4, none⟩ = some (.int .i64 l) := cell_of_row _ R 4 _ _ _ HR1.out
            have f3' := frozen_of_row w1 R 3 _ _ HR1.out
            have f4' := frozen_of_row w1 R 4 _ _ HR1.out
            go_wp2_with fail
            go_ret
            exact ⟨rfl, grownBy_of_below HB1.out _⟩
          · by_cases g6 : 16384 + (L : Int) ≤ l'
            · have hno : backOk L h' l' = false := by simp [backOk]; omega
              rw [hno]
              go_enter Tryd.func27, Tryd.ntmps27
              go_wp2_with fail
              refine (HT.out _ HR.out).mono ?_
              rintro e w1 ⟨rfl, hb1⟩
              have HB1 := hide hb1
              have HR1 := hide ((hb1.block R (Array.getElem?_eq_some_iff.1 HR.out).1).trans HR.out)
              clear hb1
              have d1' : w1.cell? ⟨R, 1, none⟩ = some (.int .i64 16384) := cell_of_row _ R 1 _ _ _ HR1.out
              have d3' : w1.cell? ⟨R, 3, none⟩ = some (.int .i64 h) := cell_of_row _ R 3 _ _ _ HR1.out
              have d4' : w1.cell? ⟨R, 4, none⟩ = some (.int .i64 l) := cell_of_row _ R 4 _ _ _ HR1.out
              have f3' := frozen_of_row w1 R 3 _ _ HR1.out
              have f4' := frozen_of_row w1 R 4 _ _ HR1.out
              go_wp2_with fail
              refine (HT.out _ HR1.out).mono ?_
              rintro e w2 ⟨rfl, hb2⟩
              have HB2 := hide hb2
              have HR2 := hide ((hb2.block R (Array.getElem?_eq_some_iff.1 HR1.out).1).trans HR1.out)
              clear hb2
              have d1'' : w2.cell? ⟨R, 1, none⟩ = some (.int .i64 16384) := cell_of_row _ R 1 _ _ _ HR2.out
              have d3'' : w2.cell? ⟨R, 3, none⟩ = some (.int .i64 h) := cell_of_row _ R 3 _ _ _ HR2.out
              have d4'' : w2.cell? ⟨R, 4, none⟩ = some (.int .i64 l) := cell_of_row _ R 4 _ _ _ HR2.out
              have f3'' := frozen_of_row w2 R 3 _ _ HR2.out
              have f4'' := frozen_of_row w2 R 4 _ _ HR2.out
              go_wp2_with fail
              go_ret
              exact ⟨rfl, World.grownBy.trans (grownBy_of_below HB1.out _) (grownBy_of_below HB2.out _)⟩
            · have hno : backOk L h' l' = true := by simp [backOk]; omega
              rw [hno]
              go_enter Tryd.func27, Tryd.ntmps27
              go_wp2_with fail
              refine (HT.out _ HR.out).mono ?_
              rintro e w1 ⟨rfl, hb1⟩
              have HB1 := hide hb1
              have HR1 := hide ((hb1.block R (Array.getElem?_eq_some_iff.1 HR.out).1).trans HR.out)
              clear hb1
              have d1' : w1.cell? ⟨R, 1, none⟩ = some (.int .i64 16384) := cell_of_row _ R 1 _ _ _ HR1.out
              have d3' : w1.cell? ⟨R, 3, none⟩ = some (.int .i64 h) := cell_of_row _ R 3 _ _ _ HR1.out
              have d4' : w1.cell? ⟨R, 4, none⟩ = some (.int .i64 l) := cell_of_row _ R 4 _ _ _ HR1.out
              have f3' := frozen_of_row w1 R 3 _ _ HR1.out
              have f4' := frozen_of_row w1 R 4 _ _ HR1.out
              go_wp2_with fail
              refine (HT.out _ HR1.out).mono ?_
              rintro e w2 ⟨rfl, hb2⟩
              have HB2 := hide hb2
              have HR2 := hide ((hb2.block R (Array.getElem?_eq_some_iff.1 HR1.out).1).trans HR1.out)
              clear hb2
              have d1'' : w2.cell? ⟨R, 1, none⟩ = some (.int .i64 16384) := cell_of_row _ R 1 _ _ _ HR2.out
              have d3'' : w2.cell? ⟨R, 3, none⟩ = some (.int .i64 h) := cell_of_row _ R 3 _ _ _ HR2.out
              have d4'' : w2.cell? ⟨R, 4, none⟩ = some (.int .i64 l) := cell_of_row _ R 4 _ _ _ HR2.out
              have f3'' := frozen_of_row w2 R 3 _ _ HR2.out
              have f4'' := frozen_of_row w2 R 4 _ _ HR2.out
              go_wp2_with fail
              go_ret
              exact ⟨rfl, grownBy_setCell (grownBy_setCell (World.grownBy.trans (grownBy_of_below HB1.out _) (grownBy_of_below HB2.out _)))⟩
        · have g4' : (l'.tmod 8 != 0) = true := by simp [g4]
          have hno : backOk L h' l' = false := by simp [backOk]; omega
          rw [hno]
          go_enter Tryd.func27, Tryd.ntmps27
          go_wp2_with fail
          refine (HT.out _ HR.out).mono ?_
          rintro e w1 ⟨rfl, hb1⟩
          have HB1 := hide hb1
          have HR1 := hide ((hb1.block R (Array.getElem?_eq_some_iff.1 HR.out).1).trans HR.out)
          clear hb1
          have d1' : w1.cell? ⟨R, 1, none⟩ = some (.int .i64 16384) := cell_of_row _ R 1 _ _ _ HR1.out
          have d3' : w1.cell? ⟨R, 3, none⟩ = some (.int .i64 h) := cell_of_row _ R 3 _ _ _ HR1.out
          have d4' : w1.cell? ⟨R, 4, none⟩ = some (.int .i64 l) := cell_of_row _ R 4 _ _ _ HR1.out
          have f3' := frozen_of_row w1 R 3 _ _ HR1.out
          have f4' := frozen_of_row w1 R 4 _ _ HR1.out
          go_wp2_with fail
          go_ret
          exact ⟨rfl, grownBy_of_below HB1.out _⟩

end Go.Proofs.YthaldkmjjpepjaaDoor
