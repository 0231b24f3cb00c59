/-
  image.New and dict.New by their contracts.
-/
import Derived.Test.YthaldkmjjpepjaaDoorRv
import Derived.Test.YthaldkmjjpepjaaDoorRd
import Derived.StillTailTactics
namespace Go.Proofs.YthaldkmjjpepjaaDoor
open Go.RowKit

/-- An image as image.New leaves it: its cells, by the sizes of its student's and of its data's region. -/
def imgC (S D : Int) (al : Value) : Array Value :=
  #[.int .i64 16384, .int .i64 0, .int .i64 S, .int .i64 D, .int .i64 64, .int .i64 0, .int .i64 0, .int .i64 16384, .int .i64 16384, .int .i64 (16384 + S), .int .i64 (16384 + S + D), .int .i64 (16384 + S + D + 64), al, .bool false, .bool false]

theorem index6 (a0 a1 a2 a3 a4 a5 : Int) (w : World) (k : Nat) (hk : k < 6) :
    (Instr.index 114 (.agg #[.int .i64 a0, .int .i64 a1, .int .i64 a2, .int .i64 a3, .int .i64 a4, .int .i64 a5]) (.int .i64 (k : Int))).run Tryd.prog w = .ok (.int .i64 ([a0, a1, a2, a3, a4, a5].getD k 0)) w := by
  rcases k with _ | _ | _ | _ | _ | _ | k
  all_goals first | omega | kernel_rfl

/-- The image's cells while image.New counts: behind k regions. -/
def imgK (S D : Int) : Nat → Array Value
  | 0 => #[.int .i64 16384, .int .i64 0, .int .i64 S, .int .i64 D, .int .i64 64, .int .i64 0, .int .i64 0, .int .i64 0, .int .i64 0, .int .i64 0, .int .i64 0, .int .i64 0, .slice none 0 0, .bool false, .bool false]
  | 1 => #[.int .i64 16384, .int .i64 0, .int .i64 S, .int .i64 D, .int .i64 64, .int .i64 0, .int .i64 0, .int .i64 0, .int .i64 0, .int .i64 0, .int .i64 0, .int .i64 0, .slice none 0 0, .bool false, .bool false]
  | 2 => #[.int .i64 16384, .int .i64 0, .int .i64 S, .int .i64 D, .int .i64 64, .int .i64 0, .int .i64 0, .int .i64 16384, .int .i64 0, .int .i64 0, .int .i64 0, .int .i64 0, .slice none 0 0, .bool false, .bool false]
  | 3 => #[.int .i64 16384, .int .i64 0, .int .i64 S, .int .i64 D, .int .i64 64, .int .i64 0, .int .i64 0, .int .i64 16384, .int .i64 16384, .int .i64 0, .int .i64 0, .int .i64 0, .slice none 0 0, .bool false, .bool false]
  | 4 => #[.int .i64 16384, .int .i64 0, .int .i64 S, .int .i64 D, .int .i64 64, .int .i64 0, .int .i64 0, .int .i64 16384, .int .i64 16384, .int .i64 (16384 + S), .int .i64 0, .int .i64 0, .slice none 0 0, .bool false, .bool false]
  | 5 => #[.int .i64 16384, .int .i64 0, .int .i64 S, .int .i64 D, .int .i64 64, .int .i64 0, .int .i64 0, .int .i64 16384, .int .i64 16384, .int .i64 (16384 + S), .int .i64 (16384 + S + D), .int .i64 0, .slice none 0 0, .bool false, .bool false]
  | _ => #[.int .i64 16384, .int .i64 0, .int .i64 S, .int .i64 D, .int .i64 64, .int .i64 0, .int .i64 0, .int .i64 16384, .int .i64 16384, .int .i64 (16384 + S), .int .i64 (16384 + S + D), .int .i64 (16384 + S + D + 64), .slice none 0 0, .bool false, .bool false]

abbrev leastC : Array Value := #[.int .i64 0, .int .i64 16384, .int .i64 0, .int .i64 256, .int .i64 64, .int .i64 64]
abbrev mostC : Array Value := #[.int .i64 0, .int .i64 65536, .int .i64 4096, .int .i64 65536, .int .i64 4096, .int .i64 4096]
def InImg (w0 : World) (B : Nat) (S D : Int) (k : Nat) (w : World) : Prop :=
  w.heap[B + 1 + 1]? = some (.cells leastC 114 (0, 0)) ∧ w.heap[B + 1 + 1 + 1]? = some (.cells mostC 114 (0, 0)) ∧ w.heap[B + 1 + 1 + 1 + 1]? = some (.cells (imgK S D k) 117 (0, 0)) ∧ Below B w0 w ∧ B + 1 + 1 + 1 + 1 < w.heap.size

theorem InImg.drew {w0 : World} {B : Nat} {S D : Int} {k : Nat} {w : World} (h : InImg w0 B S D k w) : InImg w0 B S D k w.drew := ⟨h.1, h.2.1, h.2.2.1, h.2.2.2.1.drew, h.2.2.2.2⟩
theorem heap_alloc_new' (w : World) (o : Obj) {n : Nat} (h : n = w.heap.size) : (w.alloc o).heap[n]? = some o := by subst h; exact heap_alloc_new w o
theorem InImg.step {w0 : World} {B : Nat} {S D : Int} {k i : Nat} {w : World} {v : Value} (h : InImg w0 B S D k w) (hc : (imgK S D k).setIfInBounds i v = imgK S D (k + 1)) :
    InImg w0 B S D (k + 1) (w.setCell ⟨B + 1 + 1 + 1 + 1, i, none⟩ v) := by
  obtain ⟨h2, h3, h4, hb, hz⟩ := h
  refine ⟨(Below.heap_setCell _ _ _ _ (by simp)).trans h2, (Below.heap_setCell _ _ _ _ (by simp)).trans h3, ?_, hb.setCell (by simp; omega) _, by simpa [World.setCell] using hz⟩
  rw [heap_setCell_same _ _ _ _ _ _ h4, hc]

set_option maxRecDepth 100000 in
set_option maxHeartbeats 4000000 in
theorem inew_any (S D : Int) (w : World) (hS : 256 ≤ S ∧ S ≤ 1000) (hD : 64 ≤ D ∧ D ≤ 1000) (hS8 : S.tmod 8 = 0) (hD8 : D.tmod 8 = 0) :
    Calls Tryd.prog 41 #[.agg #[.int .i64 16384, .int .i64 0, .int .i64 S, .int .i64 D, .int .i64 64]] w fun e w' =>
      ∃ (N G n : Nat), e = .returned (.tuple #[.pointer (some ⟨N, 0, none⟩), .int .i64 0]) ∧ 16384 + S + D + 64 = (n : Int) ∧ Below w.heap.size w w' ∧ w.heap.size ≤ N ∧ N < G ∧
        w'.heap[N]? = some (.cells (imgC S D (.slice (some ⟨G, 0, none⟩) n n)) 117 (0, 0)) ∧ w'.heap[G]? = some (.cells (madeCells #[.int .u8 0] n) 5 (0, 0)) := by
  have ix0 : ∀ w, (Instr.index 114 (.agg #[.int .i64 0, .int .i64 16384, .int .i64 0, .int .i64 S, .int .i64 D, .int .i64 64]) (.int .i64 0)).run Tryd.prog w = .ok (.int .i64 0) w := fun w => index6 0 16384 0 S D 64 w 0 (by omega)
  have ix1 : ∀ w, (Instr.index 114 (.agg #[.int .i64 0, .int .i64 16384, .int .i64 0, .int .i64 S, .int .i64 D, .int .i64 64]) (.int .i64 1)).run Tryd.prog w = .ok (.int .i64 16384) w := fun w => index6 0 16384 0 S D 64 w 1 (by omega)
  have ix2 : ∀ w, (Instr.index 114 (.agg #[.int .i64 0, .int .i64 16384, .int .i64 0, .int .i64 S, .int .i64 D, .int .i64 64]) (.int .i64 2)).run Tryd.prog w = .ok (.int .i64 0) w := fun w => index6 0 16384 0 S D 64 w 2 (by omega)
  have ix3 : ∀ w, (Instr.index 114 (.agg #[.int .i64 0, .int .i64 16384, .int .i64 0, .int .i64 S, .int .i64 D, .int .i64 64]) (.int .i64 3)).run Tryd.prog w = .ok (.int .i64 S) w := fun w => index6 0 16384 0 S D 64 w 3 (by omega)
  have ix4 : ∀ w, (Instr.index 114 (.agg #[.int .i64 0, .int .i64 16384, .int .i64 0, .int .i64 S, .int .i64 D, .int .i64 64]) (.int .i64 4)).run Tryd.prog w = .ok (.int .i64 D) w := fun w => index6 0 16384 0 S D 64 w 4 (by omega)
  have ix5 : ∀ w, (Instr.index 114 (.agg #[.int .i64 0, .int .i64 16384, .int .i64 0, .int .i64 S, .int .i64 D, .int .i64 64]) (.int .i64 5)).run Tryd.prog w = .ok (.int .i64 64) w := fun w => index6 0 16384 0 S D 64 w 5 (by omega)
  go_enter Tryd.func41, Tryd.ntmps41
  go_wp2_with fail
  go_loopw [27] (fun i wr => ∃ k : Nat, k ≤ 6 ∧ i = .int .i64 k ∧ InImg w w.heap.size S D k wr) (fun i _ => 6 - (intOf i).toNat)
  case atStart =>
    refine ⟨0, by omega, rfl, ?_, ?_, ?_, ?_, ?_⟩
    · exact (heap_alloc_old _ _ (by simp)).trans ((heap_alloc_old _ _ (by simp)).trans ((heap_alloc_new' _ _ (by simp))))
    · exact (heap_alloc_old _ _ (by simp)).trans (heap_alloc_new' _ _ (by simp))
    · exact heap_alloc_new' _ _ (by simp)
    · exact (((((Below.refl _ _).alloc (Nat.le_refl _) _).alloc (by simp) _).alloc (by simp; omega) _).alloc (by simp; omega) _).alloc (by simp; omega) _
    · simp
  case round =>
    obtain ⟨k, hk, rfl, hI⟩ := hrel
    obtain ⟨r2, r3, r4, hb, hz⟩ := hI
    rcases k with _ | _ | _ | _ | _ | _ | _ | k
    · have l0 : wr.cell? ⟨w.heap.size + 1 + 1, 0, none⟩ = some (.int .i64 0) := cell_of_row wr (w.heap.size + 1 + 1) 0 _ _ _ r2
      have m0 : wr.cell? ⟨w.heap.size + 1 + 1 + 1, 0, none⟩ = some (.int .i64 0) := cell_of_row wr (w.heap.size + 1 + 1 + 1) 0 _ _ _ r3
      have i0 : wr.cell? ⟨w.heap.size + 1 + 1 + 1 + 1, 5, none⟩ = some (.int .i64 (0)) := cell_of_row wr (w.heap.size + 1 + 1 + 1 + 1) 5 _ _ _ r4
      have i1 : wr.cell? ⟨w.heap.size + 1 + 1 + 1 + 1, 6, none⟩ = some (.int .i64 0) := cell_of_row wr (w.heap.size + 1 + 1 + 1 + 1) 6 _ _ _ r4
      have f1 : wr.frozen? ⟨w.heap.size + 1 + 1 + 1 + 1, 6, none⟩ = false := frozen_of_row _ _ _ _ _ r4
      have e1 : IntKind.i64.wrap 1 = 1 := by decide
      have e2 : IntKind.i64.wrap (0) = 0 := i64_wrap _ (by omega) (by omega)
      have R2 := hide r2
      have R3 := hide r3
      have R4 := hide r4
      have HB := hide hb
      clear r2 r3 r4 hb
      go_wp2_with fail
      go_still_tail 14, (by kernel_rfl)
      change wpList _ _ _ _ _ wr.drew
      have i1' : wr.drew.cell? ⟨w.heap.size + 1 + 1 + 1 + 1, 6, none⟩ = some (.int .i64 0) := i1
      have f1' : wr.drew.frozen? ⟨w.heap.size + 1 + 1 + 1 + 1, 6, none⟩ = false := f1
      have HI := hide (InImg.drew ⟨R2.out, R3.out, R4.out, HB.out, hz⟩)
      have hz' : w.heap.size + 1 + 1 + 1 + 1 < wr.drew.heap.size := hz
      clear i0 i1 f1 l0 m0 R2 R3 R4 HB hz ix0 ix1 ix2 ix3 ix4 ix5
      generalize wr.drew = wd at *
      go_wp2_with fail
      go_roundw
      case rel => exact ⟨1, by omega, rfl, HI.out.step (by rfl)⟩
      case measure => simp [intOf]
    · have l0 : wr.cell? ⟨w.heap.size + 1 + 1, 1, none⟩ = some (.int .i64 16384) := cell_of_row wr (w.heap.size + 1 + 1) 1 _ _ _ r2
      have m0 : wr.cell? ⟨w.heap.size + 1 + 1 + 1, 1, none⟩ = some (.int .i64 65536) := cell_of_row wr (w.heap.size + 1 + 1 + 1) 1 _ _ _ r3
      have i0 : wr.cell? ⟨w.heap.size + 1 + 1 + 1 + 1, 6, none⟩ = some (.int .i64 (0)) := cell_of_row wr (w.heap.size + 1 + 1 + 1 + 1) 6 _ _ _ r4
      have i1 : wr.cell? ⟨w.heap.size + 1 + 1 + 1 + 1, 7, none⟩ = some (.int .i64 0) := cell_of_row wr (w.heap.size + 1 + 1 + 1 + 1) 7 _ _ _ r4
      have f1 : wr.frozen? ⟨w.heap.size + 1 + 1 + 1 + 1, 7, none⟩ = false := frozen_of_row _ _ _ _ _ r4
      have e1 : IntKind.i64.wrap 2 = 2 := by decide
      have e2 : IntKind.i64.wrap (16384) = 16384 := i64_wrap _ (by omega) (by omega)
      have R2 := hide r2
      have R3 := hide r3
      have R4 := hide r4
      have HB := hide hb
      clear r2 r3 r4 hb
      go_wp2_with fail
      go_still_tail 14, (by kernel_rfl)
      change wpList _ _ _ _ _ wr.drew
      have i1' : wr.drew.cell? ⟨w.heap.size + 1 + 1 + 1 + 1, 7, none⟩ = some (.int .i64 0) := i1
      have f1' : wr.drew.frozen? ⟨w.heap.size + 1 + 1 + 1 + 1, 7, none⟩ = false := f1
      have HI := hide (InImg.drew ⟨R2.out, R3.out, R4.out, HB.out, hz⟩)
      have hz' : w.heap.size + 1 + 1 + 1 + 1 < wr.drew.heap.size := hz
      clear i0 i1 f1 l0 m0 R2 R3 R4 HB hz ix0 ix1 ix2 ix3 ix4 ix5
      generalize wr.drew = wd at *
      go_wp2_with fail
      go_roundw
      case rel => exact ⟨2, by omega, rfl, HI.out.step (by rfl)⟩
      case measure => simp [intOf]
    · have l0 : wr.cell? ⟨w.heap.size + 1 + 1, 2, none⟩ = some (.int .i64 0) := cell_of_row wr (w.heap.size + 1 + 1) 2 _ _ _ r2
      have m0 : wr.cell? ⟨w.heap.size + 1 + 1 + 1, 2, none⟩ = some (.int .i64 4096) := cell_of_row wr (w.heap.size + 1 + 1 + 1) 2 _ _ _ r3
      have i0 : wr.cell? ⟨w.heap.size + 1 + 1 + 1 + 1, 7, none⟩ = some (.int .i64 (16384)) := cell_of_row wr (w.heap.size + 1 + 1 + 1 + 1) 7 _ _ _ r4
      have i1 : wr.cell? ⟨w.heap.size + 1 + 1 + 1 + 1, 8, none⟩ = some (.int .i64 0) := cell_of_row wr (w.heap.size + 1 + 1 + 1 + 1) 8 _ _ _ r4
      have f1 : wr.frozen? ⟨w.heap.size + 1 + 1 + 1 + 1, 8, none⟩ = false := frozen_of_row _ _ _ _ _ r4
      have e1 : IntKind.i64.wrap 3 = 3 := by decide
      have e2 : IntKind.i64.wrap (16384) = 16384 := i64_wrap _ (by omega) (by omega)
      have R2 := hide r2
      have R3 := hide r3
      have R4 := hide r4
      have HB := hide hb
      clear r2 r3 r4 hb
      go_wp2_with fail
      go_still_tail 14, (by kernel_rfl)
      change wpList _ _ _ _ _ wr.drew
      have i1' : wr.drew.cell? ⟨w.heap.size + 1 + 1 + 1 + 1, 8, none⟩ = some (.int .i64 0) := i1
      have f1' : wr.drew.frozen? ⟨w.heap.size + 1 + 1 + 1 + 1, 8, none⟩ = false := f1
      have HI := hide (InImg.drew ⟨R2.out, R3.out, R4.out, HB.out, hz⟩)
      have hz' : w.heap.size + 1 + 1 + 1 + 1 < wr.drew.heap.size := hz
      clear i0 i1 f1 l0 m0 R2 R3 R4 HB hz ix0 ix1 ix2 ix3 ix4 ix5
      generalize wr.drew = wd at *
      go_wp2_with fail
      go_roundw
      case rel => exact ⟨3, by omega, rfl, HI.out.step (by rfl)⟩
      case measure => simp [intOf]
    · have l0 : wr.cell? ⟨w.heap.size + 1 + 1, 3, none⟩ = some (.int .i64 256) := cell_of_row wr (w.heap.size + 1 + 1) 3 _ _ _ r2
      have m0 : wr.cell? ⟨w.heap.size + 1 + 1 + 1, 3, none⟩ = some (.int .i64 65536) := cell_of_row wr (w.heap.size + 1 + 1 + 1) 3 _ _ _ r3
      have i0 : wr.cell? ⟨w.heap.size + 1 + 1 + 1 + 1, 8, none⟩ = some (.int .i64 (16384)) := cell_of_row wr (w.heap.size + 1 + 1 + 1 + 1) 8 _ _ _ r4
      have i1 : wr.cell? ⟨w.heap.size + 1 + 1 + 1 + 1, 9, none⟩ = some (.int .i64 0) := cell_of_row wr (w.heap.size + 1 + 1 + 1 + 1) 9 _ _ _ r4
      have f1 : wr.frozen? ⟨w.heap.size + 1 + 1 + 1 + 1, 9, none⟩ = false := frozen_of_row _ _ _ _ _ r4
      have e1 : IntKind.i64.wrap 4 = 4 := by decide
      have e2 : IntKind.i64.wrap (16384 + S) = 16384 + S := i64_wrap _ (by omega) (by omega)
      have hS8' : S.tmod 8 = 0 := hS8
      have R2 := hide r2
      have R3 := hide r3
      have R4 := hide r4
      have HB := hide hb
      clear r2 r3 r4 hb
      go_wp2_with fail
      go_still_tail 14, (by kernel_rfl)
      change wpList _ _ _ _ _ wr.drew
      have i1' : wr.drew.cell? ⟨w.heap.size + 1 + 1 + 1 + 1, 9, none⟩ = some (.int .i64 0) := i1
      have f1' : wr.drew.frozen? ⟨w.heap.size + 1 + 1 + 1 + 1, 9, none⟩ = false := f1
      have HI := hide (InImg.drew ⟨R2.out, R3.out, R4.out, HB.out, hz⟩)
      have hz' : w.heap.size + 1 + 1 + 1 + 1 < wr.drew.heap.size := hz
      clear i0 i1 f1 l0 m0 R2 R3 R4 HB hz ix0 ix1 ix2 ix3 ix4 ix5
      generalize wr.drew = wd at *
      go_wp2_with fail
      go_roundw
      case rel => exact ⟨4, by omega, rfl, HI.out.step (by rfl)⟩
      case measure => simp [intOf]
    · have l0 : wr.cell? ⟨w.heap.size + 1 + 1, 4, none⟩ = some (.int .i64 64) := cell_of_row wr (w.heap.size + 1 + 1) 4 _ _ _ r2
      have m0 : wr.cell? ⟨w.heap.size + 1 + 1 + 1, 4, none⟩ = some (.int .i64 4096) := cell_of_row wr (w.heap.size + 1 + 1 + 1) 4 _ _ _ r3
      have i0 : wr.cell? ⟨w.heap.size + 1 + 1 + 1 + 1, 9, none⟩ = some (.int .i64 (16384 + S)) := cell_of_row wr (w.heap.size + 1 + 1 + 1 + 1) 9 _ _ _ r4
      have i1 : wr.cell? ⟨w.heap.size + 1 + 1 + 1 + 1, 10, none⟩ = some (.int .i64 0) := cell_of_row wr (w.heap.size + 1 + 1 + 1 + 1) 10 _ _ _ r4
      have f1 : wr.frozen? ⟨w.heap.size + 1 + 1 + 1 + 1, 10, none⟩ = false := frozen_of_row _ _ _ _ _ r4
      have e1 : IntKind.i64.wrap 5 = 5 := by decide
      have e2 : IntKind.i64.wrap (16384 + S + D) = 16384 + S + D := i64_wrap _ (by omega) (by omega)
      have R2 := hide r2
      have R3 := hide r3
      have R4 := hide r4
      have HB := hide hb
      clear r2 r3 r4 hb
      go_wp2_with fail
      go_still_tail 14, (by kernel_rfl)
      change wpList _ _ _ _ _ wr.drew
      have i1' : wr.drew.cell? ⟨w.heap.size + 1 + 1 + 1 + 1, 10, none⟩ = some (.int .i64 0) := i1
      have f1' : wr.drew.frozen? ⟨w.heap.size + 1 + 1 + 1 + 1, 10, none⟩ = false := f1
      have HI := hide (InImg.drew ⟨R2.out, R3.out, R4.out, HB.out, hz⟩)
      have hz' : w.heap.size + 1 + 1 + 1 + 1 < wr.drew.heap.size := hz
      clear i0 i1 f1 l0 m0 R2 R3 R4 HB hz ix0 ix1 ix2 ix3 ix4 ix5
      generalize wr.drew = wd at *
      go_wp2_with fail
      go_roundw
      case rel => exact ⟨5, by omega, rfl, HI.out.step (by rfl)⟩
      case measure => simp [intOf]
    · have l0 : wr.cell? ⟨w.heap.size + 1 + 1, 5, none⟩ = some (.int .i64 64) := cell_of_row wr (w.heap.size + 1 + 1) 5 _ _ _ r2
      have m0 : wr.cell? ⟨w.heap.size + 1 + 1 + 1, 5, none⟩ = some (.int .i64 4096) := cell_of_row wr (w.heap.size + 1 + 1 + 1) 5 _ _ _ r3
      have i0 : wr.cell? ⟨w.heap.size + 1 + 1 + 1 + 1, 10, none⟩ = some (.int .i64 (16384 + S + D)) := cell_of_row wr (w.heap.size + 1 + 1 + 1 + 1) 10 _ _ _ r4
      have i1 : wr.cell? ⟨w.heap.size + 1 + 1 + 1 + 1, 11, none⟩ = some (.int .i64 0) := cell_of_row wr (w.heap.size + 1 + 1 + 1 + 1) 11 _ _ _ r4
      have f1 : wr.frozen? ⟨w.heap.size + 1 + 1 + 1 + 1, 11, none⟩ = false := frozen_of_row _ _ _ _ _ r4
      have e1 : IntKind.i64.wrap 6 = 6 := by decide
      have e2 : IntKind.i64.wrap (16384 + S + D + 64) = 16384 + S + D + 64 := i64_wrap _ (by omega) (by omega)
      have R2 := hide r2
      have R3 := hide r3
      have R4 := hide r4
      have HB := hide hb
      clear r2 r3 r4 hb
      go_wp2_with fail
      go_still_tail 14, (by kernel_rfl)
      change wpList _ _ _ _ _ wr.drew
      have i1' : wr.drew.cell? ⟨w.heap.size + 1 + 1 + 1 + 1, 11, none⟩ = some (.int .i64 0) := i1
      have f1' : wr.drew.frozen? ⟨w.heap.size + 1 + 1 + 1 + 1, 11, none⟩ = false := f1
      have HI := hide (InImg.drew ⟨R2.out, R3.out, R4.out, HB.out, hz⟩)
      have hz' : w.heap.size + 1 + 1 + 1 + 1 < wr.drew.heap.size := hz
      clear i0 i1 f1 l0 m0 R2 R3 R4 HB hz ix0 ix1 ix2 ix3 ix4 ix5
      generalize wr.drew = wd at *
      go_wp2_with fail
      go_roundw
      case rel => exact ⟨6, by omega, rfl, HI.out.step (by rfl)⟩
      case measure => simp [intOf]
    · have i0 : wr.cell? ⟨w.heap.size + 1 + 1 + 1 + 1, 11, none⟩ = some (.int .i64 (16384 + S + D + 64)) := cell_of_row wr (w.heap.size + 1 + 1 + 1 + 1) 11 _ _ _ r4
      have i1 : wr.cell? ⟨w.heap.size + 1 + 1 + 1 + 1, 12, none⟩ = some (.slice none 0 0) := cell_of_row wr (w.heap.size + 1 + 1 + 1 + 1) 12 _ _ _ r4
      have f1 : wr.frozen? ⟨w.heap.size + 1 + 1 + 1 + 1, 12, none⟩ = false := frozen_of_row _ _ _ _ _ r4
      have R4 := hide r4
      have HB := hide hb
      obtain ⟨n, hn⟩ : ∃ n : Nat, 16384 + S + D + 64 = (n : Int) := ⟨(16384 + S + D + 64).toNat, by omega⟩
      have hmk : ∀ w : World, (Instr.makeSlice 38 (.int .i64 (16384 + S + D + 64)) (.int .i64 (16384 + S + D + 64))).run Tryd.prog w = .ok (.slice (some ⟨w.heap.size, 0, none⟩) n n) (w.alloc (.cells (madeCells #[.int .u8 0] n) 5)) := by
        intro w
        obtain ⟨i0, hi, hzz⟩ := Option.map_eq_some_iff.1 Tryd.info5
        simp only [Prod.mk.injEq] at hzz
        obtain ⟨hz0, hz1, hz2⟩ := hzz
        have := run_makeSlice (P := Tryd.prog) w 38 5 i0 (.int .u8 0) Tryd.underlying38 hi hz0 .i64 .i64 (16384 + S + D + 64) (16384 + S + D + 64) (by omega) (by omega) (by rw [hz1]; omega) (by rw [hz2]; omega) (by omega)
        rw [hn, Int.toNat_natCast, hz1, Nat.mul_one] at this
        rw [hn]
        exact this
      have HN := hide hn
      clear r2 r3 r4 hb ix0 ix1 ix2 ix3 ix4 ix5 hn
      have hne : ¬ (w.heap.size + 1 + 1 + 1 + 1 = wr.heap.size) := by omega
      have i1' := ((Below.refl wr.heap.size wr).alloc (Nat.le_refl _) (.cells (madeCells #[.int .u8 0] n) 5)).cell (p := ⟨w.heap.size + 1 + 1 + 1 + 1, 12, none⟩) (by exact hz)
      rw [i1] at i1'
      go_wp2_with fail
      go_ret2
      refine ⟨_, wr.heap.size, n, rfl, HN.out, ?_, ?_, ?_, ?_, ?_⟩
      · exact (HB.out.setCell (by simp; omega) _).alloc (by simp; omega) _
      · omega
      · exact hz
      · exact (heap_alloc_old _ _ (by simpa [World.setCell] using hz)).trans ((heap_setCell_same _ _ 12 _ _ _ R4.out).trans (by rfl))
      · exact heap_alloc_new' _ _ (by simp [World.setCell])
    · omega

set_option maxHeartbeats 1000000 in
theorem dnew_any (N : Nat) (r : Int) (b c : Int) (w : World) (hr : r = 1 ∨ r = 3) (h1 : w.cell? ⟨N, 5 + r.toNat, none⟩ = some (.int .i64 b)) (h2 : w.cell? ⟨N, 6 + r.toNat, none⟩ = some (.int .i64 c)) (hb : 0 ≤ b ∧ b ≤ 1000000) :
    Calls Tryd.prog 21 #[.pointer (some ⟨N, 0, none⟩), .int .i64 r] w fun e w' => ∃ D, e = .returned (.tuple #[.pointer (some ⟨D, 0, none⟩), .int .i64 0]) ∧ Below w.heap.size w w' ∧ w.heap.size ≤ D ∧
      w'.heap[D]? = some (.cells #[.pointer (some ⟨N, 0, none⟩), .int .i64 (b + 8), .int .i64 c, .int .i64 (b + 8), .int .i64 0] 95 (0, 0)) := by
  have HS := hide (span_any N r b c w (by omega) h1 h2)
  clear h1 h2
  rcases hr with rfl | rfl
  all_goals
    go_enter Tryd.func21, Tryd.ntmps21
    go_wp2_with fail
    refine HS.out.mono ?_
    rintro e w1 ⟨rfl, hb1⟩
    have HB := hide hb1
    clear hb1
    go_wp2_with fail
    go_ret2
    exact ⟨w1.heap.size, rfl, HB.out.alloc HB.out.size _, HB.out.size, heap_alloc_new _ _⟩

/-- An image and its student's list, as begun leaves them. -/
def Begun (w0 : World) (N D G n : Nat) (S T : Int) (w : World) : Prop :=
  Below w0.heap.size w0 w ∧ w0.heap.size ≤ N ∧ N < G ∧ G < D ∧ 16384 + S + T + 64 = (n : Int) ∧
    w.heap[N]? = some (.cells (imgC S T (.slice (some ⟨G, 0, none⟩) n n)) 117 (0, 0)) ∧ w.heap[G]? = some (.cells (madeCells #[.int .u8 0] n) 5 (0, 0)) ∧
    w.heap[D]? = some (.cells #[.pointer (some ⟨N, 0, none⟩), .int .i64 (16384 + 8), .int .i64 (16384 + S), .int .i64 (16384 + 8), .int .i64 0] 95 (0, 0))

set_option maxHeartbeats 1000000 in
theorem begun_any (S T : Int) (w : World) (hS : 256 ≤ S ∧ S ≤ 1000) (hD : 64 ≤ T ∧ T ≤ 1000) (hS8 : S.tmod 8 = 0) (hD8 : T.tmod 8 = 0) :
    Calls Tryd.prog 19 #[.agg #[.int .i64 16384, .int .i64 0, .int .i64 S, .int .i64 T, .int .i64 64]] w fun e w' => ∃ N D G n,
      e = .returned (.tuple #[.pointer (some ⟨N, 0, none⟩), .pointer (some ⟨D, 0, none⟩)]) ∧ Begun w N D G n S T w' := by
  have HN := hide (fun w => inew_any S T w hS hD hS8 hD8)
  clear hS8 hD8
  go_enter Tryd.func19, Tryd.ntmps19
  go_wp2_with fail
  refine (HN.out _).mono ?_
  rintro e w1 ⟨N, G, n, rfl, hn, hb1, hle, hlt, hr, hg⟩
  have HD := hide (fun hh => dnew_any N 3 16384 (16384 + S) w1 (by omega) (cell_of_row w1 N 8 _ _ _ hr) (cell_of_row w1 N 9 _ _ _ hr) hh)
  have H1 := hide (And.intro hn (And.intro hb1 (And.intro hle (And.intro hlt (And.intro hr hg)))))
  clear hn hb1 hle hlt hr hg
  go_wp2_with fail
  refine (HD.out (by omega)).mono ?_
  rintro e w2 ⟨D, rfl, hb2, hle2, hr2⟩
  have H2 := hide (And.intro hb2 (And.intro hle2 hr2))
  clear hb2 hle2 hr2
  go_wp2_with fail
  go_ret2
  obtain ⟨hn, hb1, hle, hlt, hr, hg⟩ := H1.out
  obtain ⟨hb2, hle2, hr2⟩ := H2.out
  have hGlt := (Array.getElem?_eq_some_iff.1 hg).1
  have hNlt := (Array.getElem?_eq_some_iff.1 hr).1
  have z0 : w.heap.size ≤ (w.alloc (.cells #[.int .i64 16384, .int .i64 0, .int .i64 S, .int .i64 T, .int .i64 64] 49)).heap.size := by simp
  have z1 := hb1.size
  exact ⟨N, D, G, n, rfl, (((Below.refl _ w).alloc (Nat.le_refl _) _).trans (hb1.mono z0)).trans (hb2.mono (by omega)), by simp at hle; omega, hlt, by omega, hn, (hb2.block _ hNlt).trans hr, (hb2.block _ hGlt).trans hg, hr2⟩

end Go.Proofs.YthaldkmjjpepjaaDoor
