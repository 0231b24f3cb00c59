/-
  cell.Bytes and SetCell in mode System.
-/
import Derived.Test.YthaldkmjjpepjaaDoorSc
import Derived.Laws.CopyOwn
namespace Go.Proofs.YthaldkmjjpepjaaDoor
open Go.RowKit

theorem mod256 (x : Int) : ∃ c : UInt8, x % 256 = (c.toNat : Int) := by
  have h0 := Int.emod_nonneg x (show (256 : Int) ≠ 0 by decide)
  have h1 := Int.emod_lt_of_pos x (show (0 : Int) < 256 by decide)
  refine ⟨UInt8.ofNat (x % 256).toNat, ?_⟩
  rw [UInt8.toNat_ofNat']
  omega
theorem list8 {l : List UInt8} (h : l.length = 8) : ∃ b0 b1 b2 b3 b4 b5 b6 b7, l = [b0, b1, b2, b3, b4, b5, b6, b7] := by
  match l, h with
  | [b0, b1, b2, b3, b4, b5, b6, b7], _ => exact ⟨_, _, _, _, _, _, _, _, rfl⟩

set_option maxHeartbeats 2000000 in
theorem cellBytes_any (v : Int) (w : World) :
    Calls Tryd.prog 73 #[.int .i64 v] w fun e w' => ∃ l : List UInt8, l.length = 8 ∧ e = .returned (.agg (bytesA l)) ∧ Below w.heap.size w w' := by
  go_enter Tryd.func73, Tryd.ntmps73
  go_wp2_with fail
  go_loopw [5] (fun i wr => ∃ (k : Nat) (l : List UInt8), k ≤ 8 ∧ i = .int .i64 k ∧ l.length = 8 ∧ wr.heap[w.heap.size + 1]? = some (.cells (bytesA l) 135 (0, 0)) ∧
    wr.heap[w.heap.size]? = some (.cells (bytesA (List.replicate 8 0)) 135 (0, 0)) ∧ Below w.heap.size w wr) (fun i _ => 8 - (intOf i).toNat)
  case atStart =>
    refine ⟨0, List.replicate 8 0, by omega, rfl, rfl, ?_, ?_, ?_⟩
    · exact heap_alloc_new' _ _ (by simp)
    · exact (heap_alloc_old _ _ (by simp)).trans (heap_alloc_new' _ _ rfl)
    · exact ((Below.refl _ _).alloc (Nat.le_refl _) _).alloc (by simp) _
  case round =>
    obtain ⟨k, l, hk, rfl, hl, hr, hr0, hb⟩ := hrel
    have HR := hide hr
    have HR0 := hide hr0
    have HB := hide hb
    by_cases hlt : k < 8
    · have hc : wr.cell? ⟨w.heap.size + 1, k, none⟩ = some (.int .u8 ((l.getD k 0).toNat : Int)) := by
        refine (cell_of_row wr _ k _ _ _ hr).trans ?_
        rw [bytesA_get, List.getElem?_eq_getElem (by omega), List.getD_eq_getElem?_getD, List.getElem?_eq_getElem (by omega)]
        rfl
      have hf : wr.frozen? ⟨w.heap.size + 1, k, none⟩ = false := frozen_of_row _ _ _ _ _ hr
      clear hr hr0 hb
      go_wp2_with fail
      go_roundw
      case rel =>
        obtain ⟨c, hc⟩ := mod256 (v / 2 ^ (8 * k))
        refine ⟨k + 1, l.set k c, by omega, rfl, by simpa using hl, ?_, ?_, ?_⟩
        · rw [hc, heap_setCell_same _ _ _ _ _ _ HR.out, bytesA_set]
        · exact (Below.heap_setCell _ _ _ _ (by simp)).trans HR0.out
        · exact HB.out.setCell (by simp) _
      case measure => simp [intOf]; omega
    · obtain rfl : k = 8 := by omega
      obtain ⟨b0, b1, b2, b3, b4, b5, b6, b7, rfl⟩ := list8 hl
      have c0 : wr.cell? ⟨w.heap.size + 1, 0, none⟩ = some (.int .u8 (b0.toNat : Int)) := cell_of_row wr _ 0 _ _ _ hr
      have c1 : wr.cell? ⟨w.heap.size + 1, 1, none⟩ = some (.int .u8 (b1.toNat : Int)) := cell_of_row wr _ 1 _ _ _ hr
      have c2 : wr.cell? ⟨w.heap.size + 1, 2, none⟩ = some (.int .u8 (b2.toNat : Int)) := cell_of_row wr _ 2 _ _ _ hr
      have c3 : wr.cell? ⟨w.heap.size + 1, 3, none⟩ = some (.int .u8 (b3.toNat : Int)) := cell_of_row wr _ 3 _ _ _ hr
      have c4 : wr.cell? ⟨w.heap.size + 1, 4, none⟩ = some (.int .u8 (b4.toNat : Int)) := cell_of_row wr _ 4 _ _ _ hr
      have c5 : wr.cell? ⟨w.heap.size + 1, 5, none⟩ = some (.int .u8 (b5.toNat : Int)) := cell_of_row wr _ 5 _ _ _ hr
      have c6 : wr.cell? ⟨w.heap.size + 1, 6, none⟩ = some (.int .u8 (b6.toNat : Int)) := cell_of_row wr _ 6 _ _ _ hr
      have c7 : wr.cell? ⟨w.heap.size + 1, 7, none⟩ = some (.int .u8 (b7.toNat : Int)) := cell_of_row wr _ 7 _ _ _ hr
      have hr0' : wr.heap[w.heap.size]? = some (.cells #[.int .u8 0, .int .u8 0, .int .u8 0, .int .u8 0, .int .u8 0, .int .u8 0, .int .u8 0, .int .u8 0] 135 (0, 0)) := hr0
      clear hr hr0 hb hl
      go_wp2_with (with_reducible refine wpl_stRow wr rfl 135 (.tmp 2) (.tmp 16) rfl w.heap.size 135 _ _ rfl rfl hr0' (by kernel_rfl) (by simp) (by simp [Value.oneCell']) ?_)
      intro w2 hr2 hg2 hs2
      have HG := hide hg2
      have HR2 := hide hr2
      clear hr2 hg2 hr0'
      go_wp2_with fail
      refine post_cell (g := w.heap.size) rfl rfl rfl HR2.out Tryd.underlying135 rfl (by kernel_rfl) ⟨[b0, b1, b2, b3, b4, b5, b6, b7], rfl, rfl, ?_⟩
      exact HB.out.grown HG.out HB.out.size (by simp)

end Go.Proofs.YthaldkmjjpepjaaDoor
