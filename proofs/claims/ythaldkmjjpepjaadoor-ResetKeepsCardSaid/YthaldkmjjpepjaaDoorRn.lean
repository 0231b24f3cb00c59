/-
  ResetForms: its walk.
-/
import Derived.Test.YthaldkmjjpepjaaDoorRj
import Derived.Test.YthaldkmjjpepjaaDoorRd
import Derived.Test.YthaldkmjjpepjaaDoorRq
namespace Go.Proofs.YthaldkmjjpepjaaDoor
open Go.RowKit

/-- Two blocks with what they hold, old memory as it was. -/
def Duo (w0 : World) (B N M : Nat) (X Y : Obj) (w : World) : Prop := w.heap[N]? = some X ∧ w.heap[M]? = some Y ∧ Below B w0 w ∧ B ≤ w.heap.size
theorem Duo.keep {w0 : World} {B N M : Nat} {X Y : Obj} {w w' : World} (h : Duo w0 B N M X Y w) (hb : Below w.heap.size w w') : Duo w0 B N M X Y w' :=
  ⟨(hb.block _ (Array.getElem?_eq_some_iff.1 h.1).1).trans h.1, (hb.block _ (Array.getElem?_eq_some_iff.1 h.2.1).1).trans h.2.1, h.2.2.1.trans (hb.mono h.2.2.2), Nat.le_trans h.2.2.2 hb.size⟩
theorem Duo.drew {w0 : World} {B N M : Nat} {X Y : Obj} {w : World} (h : Duo w0 B N M X Y w) : Duo w0 B N M X Y w.drew := ⟨h.1, h.2.1, h.2.2.1.drew, h.2.2.2⟩

/-- What both readers of bytes answer. -/
theorem parse_both (s : ByteArray) : ∃ (p0 p1 p2 : ByteArray) (q0 q1 : Int) (k : Bool) (K : Int), ((k = true ∧ K = 0) ∨ (k = false ∧ K = 4)) ∧
    parseV s = .tuple #[.agg #[.string p0, .string p1, .string p2, .int .i64 q0, .int .i64 q1], .int .i64 K] ∧
    rparseV s = .tuple #[.agg #[.string p0, .string p1, .string p2, .int .i64 q0, .int .i64 q1], .bool k] := by
  by_cases h : okL (sl s) = true
  · exact ⟨_, _, _, _, _, true, 0, .inl ⟨rfl, rfl⟩, by rw [parseV_ok h], by rw [rparseV_ok h]⟩
  · have h : okL (sl s) = false := by simpa using h
    exact ⟨_, _, _, _, _, false, 4, .inr ⟨rfl, rfl⟩, by rw [parseV_no h], by rw [rparseV_no h]⟩

theorem print_both (s d r : ByteArray) (h l : Int) (h1 : s.size ≤ 9223372036854775807) (h2 : d.size ≤ 9223372036854775807) (h3 : r.size ≤ 9223372036854775807) : ∃ (T : ByteArray) (c : Bool) (E : Int), ((c = true ∧ E = 0) ∨ (c = false ∧ E = 2)) ∧
    (∀ w, Marked w → Calls Tryd.prog 10 #[.agg #[.string s, .string d, .string r, .int .i64 h, .int .i64 l]] w fun e w' => e = .returned (.tuple #[.string T, .int .i64 E]) ∧ Below w.heap.size w w') ∧
    (∀ w, Calls Tryd.prog 11 #[.agg #[.string s, .string d, .string r, .int .i64 h, .int .i64 l]] w fun e w' => e = .returned (.tuple #[.string T, .bool c]) ∧ Below w.heap.size w w') := by
  by_cases hf : fitI s.size d.size r.size = true
  · exact ⟨_, true, 0, .inl ⟨rfl, rfl⟩, fun w hm => print_ok s d r h l w hm hf, fun w => rprint_ok s d r h l w hf⟩
  · have hf : fitI s.size d.size r.size = false := by simpa using hf
    exact ⟨_, false, 2, .inr ⟨rfl, rfl⟩, fun w _ => print_no s d r h l w h1 h2 h3 hf, fun w => rprint_no s d r h l w hf⟩

set_option maxRecDepth 100000 in
set_option maxHeartbeats 4000000 in
theorem resetForms_any (a0 a1 a2 : ByteArray) (h l : Int) (s : ByteArray) (w : World) (hm : Marked w)
    (h1 : a0.size ≤ 9223372036854775807) (h2 : a1.size ≤ 9223372036854775807) (h3 : a2.size ≤ 9223372036854775807) (hs : s.size ≤ 9223372036854775807) :
    Calls Tryd.prog 3 #[.agg #[.string a0, .string a1, .string a2, .int .i64 h, .int .i64 l], .string s] w fun e w' =>
      e = .returned (.bool true) ∧ Below w.heap.size w w' := by
  obtain ⟨T, c, E, hE, P1, P2⟩ := print_both a0 a1 a2 h l h1 h2 h3
  obtain ⟨p0, p1, p2, q0, q1, k, K, hK, V1, V2⟩ := parse_both s
  have HP1 := hide P1
  have HP2 := hide P2
  have Q1 : ∀ w, Marked w → _ := fun w hm => parse_any s w hm hs
  have Q2 : ∀ w, _ := fun w => rparse_any s w hs
  rw [V1] at Q1
  rw [V2] at Q2
  have HQ1 := hide Q1
  have HQ2 := hide Q2
  have HM := hide hm
  clear P1 P2 Q1 Q2 V1 V2 hm h1 h2 h3 hs
  have heq := equalIn_rstate p0 p1 p2 p0 p1 p2 q0 q1 q0 q1
  rw [show sameB p0 p1 p2 p0 p1 p2 q0 q1 q0 q1 = true by simp [sameB]] at heq
  rcases hE with ⟨rfl, rfl⟩ | ⟨rfl, rfl⟩ <;> rcases hK with ⟨rfl, rfl⟩ | ⟨rfl, rfl⟩ <;>
  · go_enter Tryd.func3, Tryd.ntmps3
    go_wp2_with fail
    refine (shown_any _ (HM.out.alloc _)).mono ?_
    rintro e w1 ⟨rfl, hb1⟩
    have m1 := (HM.out.alloc _).below hb1
    have hr1 := C5.keep (C5.row (heap_alloc_new w (.cells #[.string a0, .string a1, .string a2, .int .i64 h, .int .i64 l] 23))) hb1
    have hw1 : Below w.heap.size w w1 := ((Below.refl _ w).alloc (Nat.le_refl _) _).trans (hb1.mono (by simp))
    have z1 : w.heap.size + 1 ≤ w1.heap.size := by have := hb1.size; simpa using this
    have H1 := hr1
    obtain ⟨c0, c1, c2, c3, c4⟩ := hr1
    clear hb1
    go_wp2_with fail
    refine (HP1.out _ m1).mono ?_
    rintro e w2 ⟨rfl, hb2⟩
    have m2 := m1.below hb2
    clear c0 c1 c2 c3 c4
    have H2 := H1.keep hb2
    have hw2 := hw1.trans (hb2.mono (by omega))
    have z2 : w.heap.size + 1 ≤ w2.heap.size := by have := hb2.size; omega
    obtain ⟨c0, c1, c2, c3, c4⟩ := H2
    clear hb2 H1 hw1 z1 m1
    go_wp2_with fail
    refine (of_any _ _ _ _ _ _).mono ?_
    rintro e w3 ⟨rfl, hb3⟩
    have m3 := m2.below hb3
    have hw3 := hw2.trans (hb3.mono (by omega))
    have z3 : w.heap.size + 1 ≤ w3.heap.size := by have := hb3.size; omega
    clear hb3 c0 c1 c2 c3 c4 z2 hw2 m2
    go_wp2_with fail
    refine (HP2.out _).mono ?_
    rintro e w4 ⟨rfl, hb4⟩
    have m4 := m3.below hb4
    have hw4 := hw3.trans (hb4.mono (by omega))
    have z4 : w.heap.size + 1 ≤ w4.heap.size := by have := hb4.size; omega
    clear hb4 z3 hw3 m3
    go_wp2_with fail
    refine (HQ1.out _ m4).mono ?_
    rintro e w5 ⟨rfl, hb5⟩
    have hw5 := hw4.trans (hb5.mono (by omega))
    have z5 : w.heap.size + 1 ≤ w5.heap.size := by have := hb5.size; omega
    clear hb5 z4 hw4 m4
    go_wp2_with fail
    refine (HQ2.out _).mono ?_
    rintro e w6 ⟨rfl, hb6⟩
    have hrow6 : w6.heap[w5.heap.size]? = _ := (hb6.block _ (by simp)).trans (heap_alloc_new w5 (.cells #[.string p0, .string p1, .string p2, .int .i64 q0, .int .i64 q1] 23))
    have hr6 := C5.row hrow6
    have hw6 : Below w.heap.size w w6 := (hw5.alloc (by omega) _).trans (hb6.mono (by simp; omega))
    have z6 : w.heap.size + 1 ≤ w6.heap.size := by have := hb6.size; simp at this; omega
    clear hb6 z5 hw5
    have H6 := hr6
    obtain ⟨c0, c1, c2, c3, c4⟩ := hr6
    go_wp2_with fail
    have H7 : Duo w w.heap.size w5.heap.size w6.heap.size (.cells #[.string p0, .string p1, .string p2, .int .i64 q0, .int .i64 q1] 23) (.cells #[.string p0, .string p1, .string p2, .int .i64 q0, .int .i64 q1] 30) (w6.alloc (.cells #[.string p0, .string p1, .string p2, .int .i64 q0, .int .i64 q1] 30)) :=
      ⟨(heap_alloc_old _ _ (World.block_lt_of_cell? w6 _ c0)).trans hrow6, heap_alloc_new _ _, hw6.alloc (by omega) _, by simp; omega⟩
    clear c0 c1 c2 c3 c4 H6 hw6 z6
    have inst : Nonempty (InD (Duo w w.heap.size w5.heap.size w6.heap.size (.cells #[.string p0, .string p1, .string p2, .int .i64 q0, .int .i64 q1] 23) (.cells #[.string p0, .string p1, .string p2, .int .i64 q0, .int .i64 q1] 30))) := ⟨⟨_, H7.drew⟩⟩
    refine wp_region_sub (Duo w w.heap.size w5.heap.size w6.heap.size (.cells #[.string p0, .string p1, .string p2, .int .i64 q0, .int .i64 q1] 23) (.cells #[.string p0, .string p1, .string p2, .int .i64 q0, .int .i64 q1] 30)) (by kernel_rfl) (by kernel_rfl) H7.drew ?_
    generalize hD : Duo w w.heap.size w5.heap.size w6.heap.size (.cells #[.string p0, .string p1, .string p2, .int .i64 q0, .int .i64 q1] 23) (.cells #[.string p0, .string p1, .string p2, .int .i64 q0, .int .i64 q1] 30) = D at inst ⊢
    have hDx := fun (x : InD D) => (congrFun hD x.w).mpr x.ok
    have c0 : ∀ x : InD D, x.w.cell? ⟨w5.heap.size, 0, none⟩ = some (.string p0) := fun x => (C5.row (hDx x).1).1
    have c1 : ∀ x : InD D, x.w.cell? ⟨w5.heap.size, 1, none⟩ = some (.string p1) := fun x => (C5.row (hDx x).1).2.1
    have c2 : ∀ x : InD D, x.w.cell? ⟨w5.heap.size, 2, none⟩ = some (.string p2) := fun x => (C5.row (hDx x).1).2.2.1
    have c3 : ∀ x : InD D, x.w.cell? ⟨w5.heap.size, 3, none⟩ = some (.int .i64 q0) := fun x => (C5.row (hDx x).1).2.2.2.1
    have c4 : ∀ x : InD D, x.w.cell? ⟨w5.heap.size, 4, none⟩ = some (.int .i64 q1) := fun x => (C5.row (hDx x).1).2.2.2.2
    have d0 : ∀ x : InD D, x.w.cell? ⟨w6.heap.size, 0, none⟩ = some (.string p0) := fun x => (C5.row (hDx x).2.1).1
    have d1 : ∀ x : InD D, x.w.cell? ⟨w6.heap.size, 1, none⟩ = some (.string p1) := fun x => (C5.row (hDx x).2.1).2.1
    have d2 : ∀ x : InD D, x.w.cell? ⟨w6.heap.size, 2, none⟩ = some (.string p2) := fun x => (C5.row (hDx x).2.1).2.2.1
    have d3 : ∀ x : InD D, x.w.cell? ⟨w6.heap.size, 3, none⟩ = some (.int .i64 q0) := fun x => (C5.row (hDx x).2.1).2.2.2.1
    have d4 : ∀ x : InD D, x.w.cell? ⟨w6.heap.size, 4, none⟩ = some (.int .i64 q1) := fun x => (C5.row (hDx x).2.1).2.2.2.2
    have HF : Hid (∀ x : InD D, Calls Tryd.prog 12 #[.agg #[.string p0, .string p1, .string p2, .int .i64 q0, .int .i64 q1]] x.w fun e w' => e = .returned (.agg #[.string p0, .string p1, .string p2, .int .i64 q0, .int .i64 q1]) ∧ D w') := fun x =>
      (of_any _ _ _ _ _ _).mono fun e w' h => ⟨h.1, (congrFun hD w').mp ((hDx x).keep h.2)⟩
    have HDD := hide hD
    clear hD H7 hDx
    repeat (go_big_quiet_step ((go_at_call 12; exact calls_sub (HF.out _))))
    refine wpQuiet_nil ?_
    intro w8 h8
    rw [← HDD.out] at h8
    go_wp2_with fail
    go_ret
    exact ⟨rfl, h8.2.2.1⟩

end Go.Proofs.YthaldkmjjpepjaaDoor
