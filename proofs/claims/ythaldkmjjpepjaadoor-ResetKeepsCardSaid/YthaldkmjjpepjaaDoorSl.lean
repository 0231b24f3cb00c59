/-
  A region's bytes, a list's Mark and Back, Layout.
-/
import Derived.Test.YthaldkmjjpepjaaDoorSk
namespace Go.Proofs.YthaldkmjjpepjaaDoor
open Go.RowKit

set_option maxHeartbeats 1000000 in
theorem part_any (N G n F L : Nat) (S T r : Int) (w : World) (h : Img N G n S T w) (hr : r = 3 ∨ r = 4 ∨ r = 5) (h1 : w.cell? ⟨N, 5 + r.toNat, none⟩ = some (.int .i64 F)) (h2 : w.cell? ⟨N, 6 + r.toNat, none⟩ = some (.int .i64 ((F + L : Nat) : Int))) (hFL : F + L ≤ n) (hL : 0 < L) :
    Calls Tryd.prog 53 #[.pointer (some ⟨N, 0, none⟩), .int .i64 r] w fun e w' => e = .returned (.slice (some ⟨G, F, none⟩) L L) ∧ Below w.heap.size w w' := by
  have HS := hide (span_any N r F ((F + L : Nat) : Int) w (by omega) h1 h2)
  have HN := hide h
  have hn := h.2
  obtain ⟨E, hE⟩ : ∃ E : Nat, F + L = E := ⟨_, rfl⟩
  rw [hE] at HS hFL
  have hE1 : (F : Int) ≤ (E : Int) := by omega
  have hE2 : (E : Int) ≤ (n : Int) := by omega
  have hne : ¬ E = F := by omega
  have HE := hide hE
  clear h h1 h2 hr hE
  go_enter Tryd.func53, Tryd.ntmps53
  go_wp2_with fail
  refine HS.out.mono ?_
  rintro e w1 ⟨rfl, hb1⟩
  have i6 : w1.cell? ⟨N, 12, none⟩ = some (.slice (some ⟨G, 0, none⟩) n n) := cell_of_row w1 N 12 _ _ _ ((hb1.block N (Array.getElem?_eq_some_iff.1 HN.out.1).1).trans HN.out.1)
  have HB := hide hb1
  clear hb1
  go_wp2_with fail
  go_ret
  refine ⟨?_, HB.out⟩
  have := HE.out
  have e : E - F = L := by omega
  simp [e]

theorem sub_cell {N G n : Nat} {S T : Int} {bs : List UInt8} {w : World} (h : Rowed N G n S T bs w) (F L : Nat) (hFL : F + L ≤ n) (i : Nat) (hi : i < L) :
    w.cell? ⟨G, F + i, none⟩ = some (.int .u8 ((((bs.drop F).take L).map fun b => (b.toNat : Int)).getD i 0)) := by
  rw [h.cell (F + i) (by omega)]
  have hb := h.2.2.1
  have : ((bs.drop F).take L)[i]? = some (bs.getD (F + i) 0) := by
    rw [List.getElem?_take_of_lt hi, List.getElem?_drop, List.getD_eq_getElem?_getD, List.getElem?_eq_getElem (by omega)]
    rfl
  rw [List.getD_eq_getElem?_getD (l := List.map _ _), List.getElem?_map, this]
  rfl

set_option maxHeartbeats 1000000 in
theorem pPart_any (N G n F L : Nat) (S T r : Int) (bs : List UInt8) (w : World) (h : Rowed N G n S T bs w) (hr : r = 3 ∨ r = 4 ∨ r = 5) (h1 : w.cell? ⟨N, 5 + r.toNat, none⟩ = some (.int .i64 F)) (h2 : w.cell? ⟨N, 6 + r.toNat, none⟩ = some (.int .i64 ((F + L : Nat) : Int))) (hFL : F + L ≤ n) (hL : 0 < L) :
    Calls Tryd.prog 29 #[.pointer (some ⟨N, 0, none⟩), .int .i64 r] w fun e w' => e = .returned (.string (mkS ((bs.drop F).take L))) ∧ Below w.heap.size w w' := by
  have HP := hide (part_any N G n F L S T r w h.1 hr h1 h2 hFL hL)
  have HR := hide h
  clear h h1 h2 hr
  go_enter Tryd.func29, Tryd.ntmps29
  go_wp2_with fail
  refine HP.out.mono ?_
  rintro e w1 ⟨rfl, hb1⟩
  have HR1 := HR.out.keep hb1 (Array.getElem?_eq_some_iff.1 HR.out.2.1).1
  have hconv := run_convert_bytes_arg (P := Tryd.prog) w1 38 5 Tryd.underlying38 Tryd.underlying5 G F L L (((bs.drop F).take L).map fun b => (b.toNat : Int))
    (by have := HR1.2.2.1; simp; omega) (fun i hi => sub_cell HR1 F L hFL i hi) 9 Tryd.underlying9
  rw [strOfNums_u8, show (⟨((bs.drop F).take L).toArray⟩ : ByteArray) = mkS ((bs.drop F).take L) from rfl] at hconv
  have HB := hide hb1
  clear hb1 HR1
  obtain ⟨R, hR⟩ : ∃ R, mkS ((bs.drop F).take L) = R := ⟨_, rfl⟩
  rw [hR] at hconv
  have HRR := hide hR
  clear hR
  go_wp2_with fail
  go_ret
  exact ⟨by rw [HRR.out]; rfl, HB.out⟩

theorem mark_any (N D G n : Nat) (S T h l : Int) (bs : List UInt8) (w : World) (hd : Dic N D G n S T h l bs w) :
    Calls Tryd.prog 28 #[.pointer (some ⟨D, 0, none⟩)] w fun e w' => e = .returned (.tuple #[.int .i64 h, .int .i64 l]) ∧ Below w.heap.size w w' := by
  obtain ⟨c0, c1, c2, c3, c4⟩ := hd.cells
  clear hd
  go_enter Tryd.func28, Tryd.ntmps28
  go_wp2_with fail
  go_quiet (fail)
  go_wp2_with fail
  go_ret2
  exact ⟨rfl, drewN_below _ _⟩

/-- Whether a list goes back to that. -/
def backOk (S h l : Int) : Bool := decide (16392 ≤ h) && decide (h ≤ 16384 + S) && (decide (l = 0) || (decide (l.tmod 8 = 0) && decide (16392 ≤ l) && decide (l < 16384 + S)))

set_option maxHeartbeats 4000000 in
theorem back_any (N D G n : Nat) (S T h l h' l' : Int) (bs : List UInt8) (w : World) (hd : Dic N D G n S T h l bs w) :
    Calls Tryd.prog 46 #[.pointer (some ⟨D, 0, none⟩), .int .i64 h', .int .i64 l'] w fun e w' =>
      e = .returned (.int .i64 (if backOk S h' l' then 0 else 1)) ∧ w' = if backOk S h' l' then (w.setCell ⟨D, 3, none⟩ (.int .i64 h')).setCell ⟨D, 4, none⟩ (.int .i64 l') else w := by
  obtain ⟨c0, c1, c2, c3, c4⟩ := hd.cells
  have f3 := hd.free 3
  have f4 := hd.free 4
  obtain ⟨hS, hh⟩ : (256 ≤ S ∧ S ≤ 1000) ∧ (16392 ≤ h ∧ h ≤ 16384 + S) := ⟨⟨hd.1.1.2.1.1, hd.1.1.2.1.2.1⟩, hd.2.2.2.1⟩
  clear hd
  by_cases g1 : h' < 16392
  · have hno : backOk S h' l' = false := by simp [backOk]; omega
    rw [hno]
    go_enter Tryd.func46, Tryd.ntmps46
    go_wp2_with fail
    go_ret
    exact ⟨rfl, rfl⟩
  · by_cases g2 : 16384 + S < h'
    · have hno : backOk S h' l' = false := by simp [backOk]; omega
      rw [hno]
      go_enter Tryd.func46, Tryd.ntmps46
      go_wp2_with fail
      go_ret
      exact ⟨rfl, rfl⟩
    · by_cases g3 : l' = 0
      · have g3' : (l' != 0) = false := by simp [g3]
        have hok : backOk S h' l' = true := by simp [backOk]; omega
        rw [hok]
        go_enter Tryd.func46, Tryd.ntmps46
        go_wp2_with fail
        go_ret
        exact ⟨rfl, rfl⟩
      · have g3' : (l' != 0) = true := by simp [g3]
        by_cases g4 : l'.tmod 8 = 0
        · have g4' : (l'.tmod 8 != 0) = false := by simp [g4]
          by_cases g5 : l' < 16392
          · have hno : backOk S h' l' = false := by simp [backOk]; omega
            rw [hno]
            go_enter Tryd.func46, Tryd.ntmps46
            go_wp2_with fail
            go_ret
            exact ⟨rfl, rfl⟩
          · by_cases g6 : 16384 + S ≤ l'
            · have hno : backOk S h' l' = false := by simp [backOk]; omega
              rw [hno]
              go_enter Tryd.func46, Tryd.ntmps46
              go_wp2_with fail
              go_ret
              exact ⟨rfl, rfl⟩
            · have hok : backOk S h' l' = true := by simp [backOk]; omega
              rw [hok]
              go_enter Tryd.func46, Tryd.ntmps46
              go_wp2_with fail
              go_ret
              exact ⟨rfl, rfl⟩
        · have g4' : (l'.tmod 8 != 0) = true := by simp [g4]
          have hno : backOk S h' l' = false := by simp [backOk]; omega
          rw [hno]
          go_enter Tryd.func46, Tryd.ntmps46
          go_wp2_with fail
          go_ret
          exact ⟨rfl, rfl⟩

end Go.Proofs.YthaldkmjjpepjaaDoor
