/-
  Byte and SetByte, Cell and SetCell in mode System, over a row of bytes.
-/
import Derived.Test.YthaldkmjjpepjaaDoorSb
namespace Go.Proofs.YthaldkmjjpepjaaDoor
open Go.RowKit

/-- An image and its bytes. -/
def Rowed (N G n : Nat) (S T : Int) (bs : List UInt8) (w : World) : Prop :=
  Img N G n S T w ∧ w.heap[G]? = some (.cells (bytesA bs) 5 (0, 0)) ∧ bs.length = n ∧ N < G

theorem Rowed.cell {N G n : Nat} {S T : Int} {bs : List UInt8} {w : World} (h : Rowed N G n S T bs w) (i : Nat) (hi : i < n) : w.cell? ⟨G, i, none⟩ = some (.int .u8 ((bs.getD i 0).toNat : Int)) := by
  have hl : i < bs.length := by rw [h.2.2.1]; exact hi
  refine (cell_of_row w G i _ _ _ h.2.1).trans ?_
  rw [bytesA_get, List.getElem?_eq_getElem hl, List.getD_eq_getElem?_getD, List.getElem?_eq_getElem hl]
  rfl
theorem Rowed.free {N G n : Nat} {S T : Int} {bs : List UInt8} {w : World} (h : Rowed N G n S T bs w) (i : Nat) : w.frozen? ⟨G, i, none⟩ = false := frozen_of_row _ _ _ _ _ h.2.1
theorem Rowed.keep {N G n : Nat} {S T : Int} {bs : List UInt8} {w w' : World} {B : Nat} (h : Rowed N G n S T bs w) (hb : Below B w w') (hB : G < B) : Rowed N G n S T bs w' :=
  ⟨⟨(hb.block N (Nat.lt_trans h.2.2.2 hB)).trans h.1.1, h.1.2⟩, (hb.block G hB).trans h.2.1, h.2.2⟩
theorem Rowed.set {N G n : Nat} {S T : Int} {bs : List UInt8} {w : World} (h : Rowed N G n S T bs w) (i : Nat) (c : UInt8) : Rowed N G n S T (bs.set i c) (w.setCell ⟨G, i, none⟩ (.int .u8 (c.toNat : Int))) :=
  ⟨⟨(Below.heap_setCell _ _ _ _ (by have := h.2.2.2; simp; omega)).trans h.1.1, h.1.2⟩, by rw [heap_setCell_same _ _ _ _ _ _ h.2.1, bytesA_set], by simpa using h.2.2.1, h.2.2.2⟩

set_option maxHeartbeats 1000000 in
theorem byte_any (N G n : Nat) (S T a : Int) (bs : List UInt8) (w : World) (h : Rowed N G n S T bs w) (ha : -4611686018427387904 ≤ a ∧ a ≤ 4611686018427387904) :
    Calls Tryd.prog 32 #[.pointer (some ⟨N, 0, none⟩), .int .i64 0, .int .i64 a] w fun e w' =>
      e = .returned (.tuple #[.int .u8 (if rowOk S T a 1 then ((bs.getD a.toNat 0).toNat : Int) else 0), .int .i64 (if rowOk S T a 1 then 0 else 5)]) ∧ w = w' := by
  have HR := hide (row_any N G n S T a 1 1 w h.1 (by omega) (by omega) ha)
  have HI := hide h
  by_cases hk : rowOk S T a 1 = true
  · rw [hk] at HR ⊢
    have hlt := rowOk_lt h.1.2.1 h.1.2.2 hk
    have hc := h.cell a.toNat (by omega)
    clear h hk
    generalize bs.getD a.toNat 0 = c at *
    go_enter Tryd.func32, Tryd.ntmps32
    go_wp2_with fail
    refine HR.out.mono ?_
    rintro e w1 ⟨rfl, rfl⟩
    go_wp2_with fail
    go_ret2
    exact ⟨rfl, rfl⟩
  · have hk : rowOk S T a 1 = false := by simpa using hk
    rw [hk] at HR ⊢
    clear h hk
    go_enter Tryd.func32, Tryd.ntmps32
    go_wp2_with fail
    refine HR.out.mono ?_
    rintro e w1 ⟨rfl, rfl⟩
    go_wp2_with fail
    go_ret2
    exact ⟨rfl, rfl⟩

/-- The bytes behind a byte that was set. -/
def setB (S T a : Int) (c : UInt8) (bs : List UInt8) : List UInt8 := if rowOk S T a 1 then bs.set a.toNat c else bs
theorem setB_length (S T a : Int) (c : UInt8) (bs : List UInt8) : (setB S T a c bs).length = bs.length := by unfold setB; split <;> simp

set_option maxHeartbeats 1000000 in
theorem setByte_any (N G n : Nat) (S T a : Int) (c : UInt8) (bs : List UInt8) (w : World) (h : Rowed N G n S T bs w) (ha : -4611686018427387904 ≤ a ∧ a ≤ 4611686018427387904) :
    Calls Tryd.prog 31 #[.pointer (some ⟨N, 0, none⟩), .int .i64 0, .int .i64 a, .int .u8 (c.toNat : Int)] w fun e w' =>
      e = .returned (.int .i64 (if rowOk S T a 1 then 0 else 5)) ∧ w' = if rowOk S T a 1 then w.setCell ⟨G, a.toNat, none⟩ (.int .u8 (c.toNat : Int)) else w := by
  have HR := hide (row_any N G n S T a 2 1 w h.1 (by omega) (by omega) ha)
  by_cases hk : rowOk S T a 1 = true
  · rw [hk] at HR ⊢
    have hlt := rowOk_lt h.1.2.1 h.1.2.2 hk
    have hc := h.cell a.toNat (by omega)
    have hf := h.free a.toNat
    clear h hk
    go_enter Tryd.func31, Tryd.ntmps31
    go_wp2_with fail
    refine HR.out.mono ?_
    rintro e w1 ⟨rfl, rfl⟩
    go_wp2_with fail
    go_ret
    exact ⟨rfl, rfl⟩
  · have hk : rowOk S T a 1 = false := by simpa using hk
    rw [hk] at HR ⊢
    clear h hk
    go_enter Tryd.func31, Tryd.ntmps31
    go_wp2_with fail
    refine HR.out.mono ?_
    rintro e w1 ⟨rfl, rfl⟩
    go_wp2_with fail
    go_ret
    exact ⟨rfl, rfl⟩

end Go.Proofs.YthaldkmjjpepjaaDoor
