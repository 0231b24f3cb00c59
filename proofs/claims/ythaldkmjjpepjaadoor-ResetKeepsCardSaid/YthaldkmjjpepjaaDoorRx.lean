/-
  ResetAlien: its walk.
-/
import Derived.Test.YthaldkmjjpepjaaDoorRw
import Derived.Test.YthaldkmjjpepjaaDoorRt
namespace Go.Proofs.YthaldkmjjpepjaaDoor
open Go.RowKit

set_option maxHeartbeats 1000000 in
theorem keep_no (I D : Nat) (w : World) (x : Int)
    (h1 : w.cell? ⟨I, 8, none⟩ = some (.int .i64 16384)) (h2 : w.cell? ⟨I, 9, none⟩ = some (.int .i64 x)) (h3 : w.cell? ⟨D, 3, none⟩ = some (.int .i64 8)) (hD : D < w.heap.size) :
    Calls Tryd.prog 22 #[.pointer (some ⟨I, 0, none⟩), .pointer (some ⟨D, 0, none⟩)] w fun e w' =>
      e = .returned (.tuple #[.agg #[.string ⟨#[]⟩, .string ⟨#[]⟩, .string ⟨#[]⟩, .int .i64 0, .int .i64 0], .int .i64 1]) ∧ Below w.heap.size w w' := by
  have hI := World.block_lt_of_cell? w _ h1
  have HA := hide (fun o => asked_no I D (w.alloc o) x (((Below.refl _ w).alloc (Nat.le_refl _) o).cell (p := ⟨I, 8, none⟩) (by exact hI) |>.trans h1) (((Below.refl _ w).alloc (Nat.le_refl _) o).cell (p := ⟨I, 9, none⟩) (by exact hI) |>.trans h2)
    (((Below.refl _ w).alloc (Nat.le_refl _) o).cell (p := ⟨D, 3, none⟩) (by exact hD) |>.trans h3) (by simp; omega))
  clear h1 h2 h3
  go_enter Tryd.func22, Tryd.ntmps22
  go_wp2_with fail
  refine (HA.out _).mono ?_
  rintro e w1 ⟨rfl, hb1⟩
  have hr := (hb1.block w.heap.size (by simp)).trans (heap_alloc_new w _)
  have z := (Array.getElem?_eq_some_iff.1 hr).1
  have HB := hide hb1
  have HR := hide hr
  clear hb1 hr
  go_wp2_with fail
  refine (code_arg _).mono ?_
  rintro e w2 ⟨rfl, hb2⟩
  have hr2 := (hb2.block w.heap.size (by exact z)).trans HR.out
  have HB2 := hide hb2
  clear hb2 HR
  go_wp2_with (with_reducible refine wpl_stRow w2 rfl 23 (.tmp 4) (.tmp 14) rfl w.heap.size 23 _ _ rfl rfl hr2 (by kernel_rfl) rfl (by simp [Value.oneCell']) ?_)
  intro w3 hr3 hg3 hs3
  have HG := hide hg3
  have hr3' := hide hr3
  clear hr2 hg3 hr3
  go_wp2_with fail
  refine post_cell_tmp (g := w.heap.size) rfl rfl rfl rfl hr3'.out Tryd.underlying23 rfl (by kernel_rfl) ⟨rfl, ?_⟩
  have b1 : Below w.heap.size w w1 := ((Below.refl _ w).alloc (Nat.le_refl _) _).trans (HB.out.mono (by simp))
  have b2 : Below w.heap.size w w2 := b1.trans (HB2.out.mono (Nat.le_of_lt z))
  exact b2.grown HG.out b2.size (by simp)

set_option maxHeartbeats 1000000 in
theorem lay_no (a0 a1 a2 : ByteArray) (h l : Int) (I D : Nat) (w : World) (x : Int)
    (h1 : w.cell? ⟨I, 8, none⟩ = some (.int .i64 16384)) (h2 : w.cell? ⟨I, 9, none⟩ = some (.int .i64 x)) (h3 : w.cell? ⟨D, 3, none⟩ = some (.int .i64 8)) (hD : D < w.heap.size) :
    Calls Tryd.prog 23 #[.pointer (some ⟨I, 0, none⟩), .pointer (some ⟨D, 0, none⟩), .agg #[.string a0, .string a1, .string a2, .int .i64 h, .int .i64 l]] w fun e w' =>
      e = .returned (.int .i64 1) ∧ Below w.heap.size w w' := by
  have hI := World.block_lt_of_cell? w _ h1
  have HA := hide (fun o => asked_no I D (w.alloc o) x (((Below.refl _ w).alloc (Nat.le_refl _) o).cell (p := ⟨I, 8, none⟩) (by exact hI) |>.trans h1) (((Below.refl _ w).alloc (Nat.le_refl _) o).cell (p := ⟨I, 9, none⟩) (by exact hI) |>.trans h2)
    (((Below.refl _ w).alloc (Nat.le_refl _) o).cell (p := ⟨D, 3, none⟩) (by exact hD) |>.trans h3) (by simp; omega))
  clear h1 h2 h3
  go_enter Tryd.func23, Tryd.ntmps23
  go_wp2_with fail
  refine (HA.out _).mono ?_
  rintro e w1 ⟨rfl, hb1⟩
  have b1 : Below w.heap.size w w1 := ((Below.refl _ w).alloc (Nat.le_refl _) _).trans (hb1.mono (by simp))
  have HB := hide b1
  clear hb1 b1
  go_wp2_with fail
  refine (code_arg _).mono ?_
  rintro e w2 ⟨rfl, hb2⟩
  have HB2 := hide (HB.out.trans (hb2.mono HB.out.size))
  clear hb2
  go_wp2_with fail
  go_ret
  exact ⟨rfl, HB2.out⟩

set_option maxRecDepth 100000 in
set_option maxHeartbeats 4000000 in
theorem resetAlien_any (a : Int) (a0 a1 a2 : ByteArray) (h l : Int) (w : World) (hm : Marked w) (ha : -9223372036854775808 ≤ a ∧ a ≤ 9223372036854775807)
    (_ : a0.size ≤ 9223372036854775807) (_ : a1.size ≤ 9223372036854775807) (_ : a2.size ≤ 9223372036854775807) :
    Calls Tryd.prog 6 #[.int .i64 a, .agg #[.string a0, .string a1, .string a2, .int .i64 h, .int .i64 l]] w fun e w' => e = .returned (.bool true) ∧ Below w.heap.size w w' := by
  have HM := hide hm
  have HL := hide (fun w => layout_any a w ha.2 ha.1)
  obtain ⟨x0, x1⟩ := pickI_range a 9 (by omega)
  obtain ⟨y0, y1⟩ := pickI_range a 4 (by omega)
  generalize pickI a 9 = x at *
  generalize pickI a 4 = y at *
  obtain ⟨S, hS⟩ : ∃ S, S = 256 + 8 * x := ⟨_, rfl⟩
  obtain ⟨T, hT⟩ : ∃ T, T = 64 + 8 * y := ⟨_, rfl⟩
  rw [← hS, ← hT] at HL
  have HG := hide (fun w => begun_any S T w (by omega) (by omega) (by rw [Int.tmod_eq_emod_of_nonneg (by omega)]; omega) (by rw [Int.tmod_eq_emod_of_nonneg (by omega)]; omega))
  have hS' : 0 ≤ S ∧ S ≤ 1000 := by omega
  have heq0 := equalIn_state ⟨#[]⟩ ⟨#[]⟩ ⟨#[]⟩ ⟨#[]⟩ ⟨#[]⟩ ⟨#[]⟩ 0 0 0 0
  rw [show sameB ⟨#[]⟩ ⟨#[]⟩ ⟨#[]⟩ ⟨#[]⟩ ⟨#[]⟩ ⟨#[]⟩ 0 0 0 0 = true by decide +kernel] at heq0
  clear hS hT x0 x1 y0 y1 hm
  go_enter Tryd.func6, Tryd.ntmps6
  go_wp2_with fail
  refine (shown_any _ (HM.out.alloc _)).mono ?_
  rintro e w1 ⟨rfl, hb1⟩
  have HO := hide (show One w w.heap.size w.heap.size (.cells #[.string a0, .string a1, .string a2, .int .i64 h, .int .i64 l] 23) w1 from One.keep ⟨heap_alloc_new w _, (Below.refl _ w).alloc (Nat.le_refl _) _, by simp⟩ hb1)
  clear hb1
  go_wp2_with fail
  refine (HL.out _).mono ?_
  rintro e w2 ⟨rfl, hb2⟩
  have HO2 := hide (HO.out.keep hb2)
  clear hb2 HO
  go_wp2_with fail
  refine (HG.out _).mono ?_
  rintro e w3 ⟨N, D, G, n, rfl, hbeg⟩
  have HO3 := hide (HO2.out.keep hbeg.1)
  have HN := hide hbeg.2.2.2.2.2.1
  clear hbeg HO2
  go_wp2_with fail
  have i5 : w3.cell? ⟨N, 6, none⟩ = some (.int .i64 0) := cell_of_row w3 N 6 _ _ _ HN.out
  have i6 : w3.cell? ⟨N, 7, none⟩ = some (.int .i64 16384) := cell_of_row w3 N 7 _ _ _ HN.out
  refine (dnew_any N 1 0 16384 w3 (by omega) i5 i6 (by omega)).mono ?_
  clear i5 i6
  rintro e w4 ⟨E, rfl, hb4, hE, hr4⟩
  have HO4 := hide (HO3.out.keep hb4)
  have HN4 := hide ((hb4.block N (Array.getElem?_eq_some_iff.1 HN.out).1).trans HN.out)
  have HE4 := hide hr4
  clear hb4 HO3 HN hE hr4
  go_wp2_with fail
  refine (keep_no N E w4 (16384 + S) (cell_of_row w4 N 8 _ _ _ HN4.out) (cell_of_row w4 N 9 _ _ _ HN4.out) (cell_of_row w4 E 3 _ _ _ HE4.out) (Array.getElem?_eq_some_iff.1 HE4.out).1).mono ?_
  rintro e w5 ⟨rfl, hb5⟩
  have HO5 := hide (HO4.out.keep hb5)
  have HN5 := hide ((hb5.block N (Array.getElem?_eq_some_iff.1 HN4.out).1).trans HN4.out)
  have HE5 := hide ((hb5.block E (Array.getElem?_eq_some_iff.1 HE4.out).1).trans HE4.out)
  clear hb5 HO4 HN4 HE4
  obtain ⟨c0, c1, c2, c3, c4⟩ := C5.row HO5.out.1
  have z := HO5.out.lt
  go_wp2_with fail
  have hN6 := hide (heap_alloc_old w5 (.cells #[.string ⟨#[]⟩, .string ⟨#[]⟩, .string ⟨#[]⟩, .int .i64 0, .int .i64 0] 23) (Array.getElem?_eq_some_iff.1 HN5.out).1 |>.trans HN5.out)
  have hE6 := hide (heap_alloc_old w5 (.cells #[.string ⟨#[]⟩, .string ⟨#[]⟩, .string ⟨#[]⟩, .int .i64 0, .int .i64 0] 23) (Array.getElem?_eq_some_iff.1 HE5.out).1 |>.trans HE5.out)
  refine (lay_no a0 a1 a2 h l N E _ (16384 + S) (cell_of_row _ N 8 _ _ _ hN6.out) (cell_of_row _ N 9 _ _ _ hN6.out) (cell_of_row _ E 3 _ _ _ hE6.out) (Array.getElem?_eq_some_iff.1 hE6.out).1).mono ?_
  rintro e w6 ⟨rfl, hb6⟩
  have HO6 := hide ((HO5.out.alloc (.cells #[.string ⟨#[]⟩, .string ⟨#[]⟩, .string ⟨#[]⟩, .int .i64 0, .int .i64 0] 23)).keep hb6)
  clear hb6 HO5 hN6 hE6 HN5 HE5
  go_wp2_with fail
  go_ret
  exact ⟨rfl, HO6.out.2.1⟩

end Go.Proofs.YthaldkmjjpepjaaDoor
