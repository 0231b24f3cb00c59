/-
  The image's rows: Region, May, row, Byte, SetByte in mode System.
-/
import Derived.Test.YthaldkmjjpepjaaDoorRw
namespace Go.Proofs.YthaldkmjjpepjaaDoor
open Go.RowKit

/-- The cells of a row of bytes. -/
def bytesA (l : List UInt8) : Array Value := (u8s l).toArray
theorem bytesA_size (l : List UInt8) : (bytesA l).size = l.length := by simp [bytesA, u8s]
theorem bytesA_get (l : List UInt8) (i : Nat) : (bytesA l)[i]? = l[i]?.map fun b => .int .u8 (b.toNat : Int) := by simp [bytesA, u8s]
theorem bytesA_set (l : List UInt8) (i : Nat) (c : UInt8) : (bytesA l).setIfInBounds i (.int .u8 (c.toNat : Int)) = bytesA (l.set i c) := by
  simp [bytesA, u8s, List.map_set]

def regI (S T a : Int) : Int := if a < 0 then 0 else if a < 16384 then 1 else if a < 16384 + S then 3 else if a < 16384 + S + T then 4 else if a < 16384 + S + T + 64 then 5 else 0

/-- An image's row, with what regions it has. -/
def Img (N G n : Nat) (S T : Int) (w : World) : Prop :=
  w.heap[N]? = some (.cells (imgC S T (.slice (some ⟨G, 0, none⟩) n n)) 117 (0, 0)) ∧ (256 ≤ S ∧ S ≤ 1000 ∧ 64 ≤ T ∧ T ≤ 1000) ∧ 16384 + S + T + 64 = (n : Int)

set_option maxHeartbeats 1000000 in
theorem region_any (N G n : Nat) (S T a : Int) (w : World) (h : Img N G n S T w) :
    Calls Tryd.prog 62 #[.pointer (some ⟨N, 0, none⟩), .int .i64 a] w fun e w' => e = .returned (.int .i64 (regI S T a)) ∧ w = w' := by
  obtain ⟨hr, hb, hn⟩ := h
  have i2 : w.cell? ⟨N, 7, none⟩ = some (.int .i64 16384) := cell_of_row w N 7 _ _ _ hr
  have i3 : w.cell? ⟨N, 8, none⟩ = some (.int .i64 16384) := cell_of_row w N 8 _ _ _ hr
  have i4 : w.cell? ⟨N, 9, none⟩ = some (.int .i64 (16384 + S)) := cell_of_row w N 9 _ _ _ hr
  have i5 : w.cell? ⟨N, 10, none⟩ = some (.int .i64 (16384 + S + T)) := cell_of_row w N 10 _ _ _ hr
  have i6 : w.cell? ⟨N, 11, none⟩ = some (.int .i64 (16384 + S + T + 64)) := cell_of_row w N 11 _ _ _ hr
  clear hr
  unfold regI
  by_cases h0 : a < 0
  · go_enter Tryd.func62, Tryd.ntmps62
    go_wp2
    go_ret
    exact ⟨by simp, rfl⟩
  · rw [if_neg h0]
    by_cases h1 : a < 16384
    · go_enter Tryd.func62, Tryd.ntmps62
      go_wp2_with fail
      refine wp_loop_rounds 1 ?_
      rw [rounds_succ]
      go_wp2
      go_ret
      exact ⟨by simp, rfl⟩
    · rw [if_neg h1]
      by_cases h3 : a < 16384 + S
      · go_enter Tryd.func62, Tryd.ntmps62
        go_wp2_with fail
        refine wp_loop_rounds 3 ?_
        rw [rounds_succ]
        go_wp2_with fail
        rw [rounds_succ]
        go_wp2_with fail
        rw [rounds_succ]
        go_wp2_with fail
        go_ret
        exact ⟨by simp, rfl⟩
      · rw [if_neg h3]
        by_cases h4 : a < 16384 + S + T
        · go_enter Tryd.func62, Tryd.ntmps62
          go_wp2_with fail
          refine wp_loop_rounds 4 ?_
          rw [rounds_succ]
          go_wp2_with fail
          rw [rounds_succ]
          go_wp2_with fail
          rw [rounds_succ]
          go_wp2_with fail
          rw [rounds_succ]
          go_wp2_with fail
          go_ret
          exact ⟨by simp, rfl⟩
        · rw [if_neg h4]
          by_cases h5 : a < 16384 + S + T + 64
          · go_enter Tryd.func62, Tryd.ntmps62
            go_wp2_with fail
            refine wp_loop_rounds 5 ?_
            rw [rounds_succ]
            go_wp2_with fail
            rw [rounds_succ]
            go_wp2_with fail
            rw [rounds_succ]
            go_wp2_with fail
            rw [rounds_succ]
            go_wp2_with fail
            rw [rounds_succ]
            go_wp2_with fail
            go_ret
            exact ⟨by simp, rfl⟩
          · go_enter Tryd.func62, Tryd.ntmps62
            go_wp2_with fail
            refine wp_loop_rounds 6 ?_
            rw [rounds_succ]
            go_wp2_with fail
            rw [rounds_succ]
            go_wp2_with fail
            rw [rounds_succ]
            go_wp2_with fail
            rw [rounds_succ]
            go_wp2_with fail
            rw [rounds_succ]
            go_wp2_with fail
            rw [rounds_succ]
            go_wp2_with fail
            go_ret
            exact ⟨by simp, rfl⟩

set_option maxHeartbeats 1000000 in
theorem may_any (N G n : Nat) (S T r : Int) (w : World) (h : Img N G n S T w) (hr : r = 0 ∨ r = 1 ∨ r = 3 ∨ r = 4 ∨ r = 5) :
    Calls Tryd.prog 61 #[.pointer (some ⟨N, 0, none⟩), .int .i64 0, .int .i64 r] w fun e w' => e = .returned (.int .i64 (if r = 0 then 0 else 3)) ∧ w = w' := by
  obtain ⟨hrow, hb, hn⟩ := h
  have i2 : w.cell? ⟨N, 14, none⟩ = some (.bool false) := cell_of_row w N 14 _ _ _ hrow
  have i3 : w.cell? ⟨N, 13, none⟩ = some (.bool false) := cell_of_row w N 13 _ _ _ hrow
  clear hrow
  rcases hr with rfl | rfl | rfl | rfl | rfl
  all_goals
    go_enter Tryd.func61, Tryd.ntmps61
    go_wp2_with fail
    go_ret
    exact ⟨by simp, rfl⟩

end Go.Proofs.YthaldkmjjpepjaaDoor
