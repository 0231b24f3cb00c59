/-
  ResetDiffers: its walk.
-/
import Derived.Test.YthaldkmjjpepjaaDoorRi
namespace Go.Proofs.YthaldkmjjpepjaaDoor
open Go.RowKit

theorem equalIn_rstate (a0 a1 a2 b0 b1 b2 : ByteArray) (h l h' l' : Int) (w : World) :
    (Op.equalIn 10000 30 (.agg #[.string a0, .string a1, .string a2, .int .i64 h, .int .i64 l]) (.agg #[.string b0, .string b1, .string b2, .int .i64 h', .int .i64 l'])).run Tryd.prog w =
      .ok (sameB a0 a1 a2 b0 b1 b2 h l h' l') w := by
  have hm := Tryd.underlying30
  by_cases h0 : a0 = b0 <;> by_cases h1 : a1 = b1 <;> by_cases h2 : a2 = b2 <;> by_cases h3 : h = h' <;> by_cases h4 : l = l' <;> simp [sameB, h0, h1, h2, h3, h4, go_sem, toList_inj]

/-- Five cells of a block. -/
abbrev C5 (w : World) (N : Nat) (v0 v1 v2 v3 v4 : Value) : Prop :=
  w.cell? ⟨N, 0, none⟩ = some v0 ∧ w.cell? ⟨N, 1, none⟩ = some v1 ∧ w.cell? ⟨N, 2, none⟩ = some v2 ∧ w.cell? ⟨N, 3, none⟩ = some v3 ∧ w.cell? ⟨N, 4, none⟩ = some v4
theorem C5.keep {w w' : World} {N : Nat} {v0 v1 v2 v3 v4 : Value} (h : C5 w N v0 v1 v2 v3 v4) (hb : Below w.heap.size w w') : C5 w' N v0 v1 v2 v3 v4 := by
  obtain ⟨h0, h1, h2, h3, h4⟩ := h
  have hlt : N < w.heap.size := World.block_lt_of_cell? w _ h0
  refine ⟨?_, ?_, ?_, ?_, ?_⟩ <;> rw [hb.cell (by exact hlt)] <;> assumption
theorem C5.row {w : World} {N : Nat} {v0 v1 v2 v3 v4 : Value} {t : TypeId} {fr : Nat × Nat} (h : w.heap[N]? = some (.cells #[v0, v1, v2, v3, v4] t fr)) : C5 w N v0 v1 v2 v3 v4 :=
  ⟨cell_of_row w N 0 _ _ _ h, cell_of_row w N 1 _ _ _ h, cell_of_row w N 2 _ _ _ h, cell_of_row w N 3 _ _ _ h, cell_of_row w N 4 _ _ _ h⟩
theorem C5.drew {w : World} {N : Nat} {v0 v1 v2 v3 v4 : Value} (h : C5 w N v0 v1 v2 v3 v4) : C5 w.drew N v0 v1 v2 v3 v4 := h

/-- What is carried through: two states in blocks, old memory as it was. -/
abbrev Two (w0 : World) (N : Nat) (a0 a1 a2 a3 a4 b0 b1 b2 b3 b4 : Value) (w : World) : Prop :=
  C5 w N a0 a1 a2 a3 a4 ∧ C5 w (N + 1) b0 b1 b2 b3 b4 ∧ Below N w0 w ∧ N + 1 < w.heap.size
theorem Two.keep {w0 : World} {N : Nat} {a0 a1 a2 a3 a4 b0 b1 b2 b3 b4 : Value} {w w' : World} (h : Two w0 N a0 a1 a2 a3 a4 b0 b1 b2 b3 b4 w) (hb : Below w.heap.size w w') : Two w0 N a0 a1 a2 a3 a4 b0 b1 b2 b3 b4 w' :=
  ⟨h.1.keep hb, h.2.1.keep hb, h.2.2.1.trans (hb.mono (by have := h.2.2.2; omega)), by have := h.2.2.2; have := hb.size; omega⟩
theorem Two.drew {w0 : World} {N : Nat} {a0 a1 a2 a3 a4 b0 b1 b2 b3 b4 : Value} {w : World} (h : Two w0 N a0 a1 a2 a3 a4 b0 b1 b2 b3 b4 w) : Two w0 N a0 a1 a2 a3 a4 b0 b1 b2 b3 b4 w.drew :=
  ⟨h.1, h.2.1, h.2.2.1.drew, h.2.2.2⟩

set_option maxRecDepth 100000 in
set_option maxHeartbeats 4000000 in
theorem resetDiffers_any (a0 a1 a2 b0 b1 b2 : ByteArray) (h l h' l' : Int) (w : World) (hm : Marked w)
    (ha : ∀ s ∈ [a0, a1, a2], s.size ≤ 9223372036854775807) (hb : ∀ s ∈ [b0, b1, b2], s.size ≤ 9223372036854775807) :
    Calls Tryd.prog 5 #[.agg #[.string a0, .string a1, .string a2, .int .i64 h, .int .i64 l], .agg #[.string b0, .string b1, .string b2, .int .i64 h', .int .i64 l']] w fun e w' =>
      e = .returned (.bool true) ∧ Below w.heap.size w w' := by
  obtain ⟨X, Y, hXY⟩ : ∃ X Y : Int, diffV [a0, a1, a2] [b0, b1, b2] 0 = (X, Y) := ⟨_, _, rfl⟩
  have D : ∀ w, Calls Tryd.prog 16 #[.agg #[.string a0, .string a1, .string a2, .int .i64 h, .int .i64 l], .agg #[.string b0, .string b1, .string b2, .int .i64 h', .int .i64 l']] w fun e w' =>
      e = .returned (.tuple #[.int .i64 X, .int .i64 Y]) ∧ Below w.heap.size w w' := fun w => by
    have := differ_any a0 a1 a2 b0 b1 b2 h l h' l' w ha hb; rw [hXY] at this; exact this
  have D' : ∀ w, Calls Tryd.prog 16 #[.agg #[.string b0, .string b1, .string b2, .int .i64 h', .int .i64 l'], .agg #[.string a0, .string a1, .string a2, .int .i64 h, .int .i64 l]] w fun e w' =>
      e = .returned (.tuple #[.int .i64 X, .int .i64 Y]) ∧ Below w.heap.size w w' := fun w => by
    have := differ_any b0 b1 b2 a0 a1 a2 h' l' h l w hb ha; rw [diffV_comm, hXY] at this; exact this
  have R : ∀ w, Calls Tryd.prog 17 #[.agg #[.string a0, .string a1, .string a2, .int .i64 h, .int .i64 l], .agg #[.string b0, .string b1, .string b2, .int .i64 h', .int .i64 l']] w fun e w' =>
      e = .returned (.tuple #[.int .i64 X, .int .i64 Y]) ∧ Below w.heap.size w w' := fun w => by
    have := rdiffer_any a0 a1 a2 b0 b1 b2 h l h' l' w ha hb; rw [hXY] at this; exact this
  have HD := hide D
  have HD' := hide D'
  have HR := hide R
  have HM := hide hm
  clear D D' R ha hb hXY hm
  have heq := equalIn_rstate a0 a1 a2 b0 b1 b2 h l h' l'
  go_enter Tryd.func5, Tryd.ntmps5
  go_wp2_with fail
  refine (shown_any _ ((HM.out.alloc _).alloc _)).mono ?_
  rintro e w1 ⟨rfl, hb1⟩
  have H1 : Two w w.heap.size (.string a0) (.string a1) (.string a2) (.int .i64 h) (.int .i64 l) (.string b0) (.string b1) (.string b2) (.int .i64 h') (.int .i64 l') w1 := by
    refine Two.keep ⟨C5.row (heap_alloc2_old _ _ _), C5.row (heap_alloc2_new _ _ _), ?_, ?_⟩ hb1
    · exact ((Below.refl _ _).alloc (Nat.le_refl _) _).alloc (by simp) _
    · simp
  have H := H1
  obtain ⟨⟨c0, c1, c2, c3, c4⟩, ⟨d0, d1, d2, d3, d4⟩, hw, hz⟩ := H1
  clear hb1
  go_wp2_with fail
  refine (HD.out _).mono ?_
  rintro e w2 ⟨rfl, hb2⟩
  clear c0 c1 c2 c3 c4 d0 d1 d2 d3 d4 hw hz
  have H2 := Two.keep H hb2
  clear H hb2
  go_wp2_with fail
  go_region_held3 (fun w' => Two w w.heap.size (.string a0) (.string a1) (.string a2) (.int .i64 h) (.int .i64 l) (.string b0) (.string b1) (.string b2) (.int .i64 h') (.int .i64 l') w')
    (first
      | assumption
      | (exact Two.drew (by assumption))
      | (exact Two.keep (by assumption) (by assumption)))
    (first
      | (go_at_call 12; refine (of_any _ _ _ _ _ _).mono ?_; rintro e w' ⟨rfl, hb⟩)
      | (go_at_call 17; refine (HR.out _).mono ?_; rintro e w' ⟨rfl, hb⟩))
  rename_i H3
  clear H2
  have H := H3
  obtain ⟨⟨c0, c1, c2, c3, c4⟩, ⟨d0, d1, d2, d3, d4⟩, hw, hz⟩ := H3
  go_wp2_with fail
  refine (HD'.out _).mono ?_
  rintro e w4 ⟨rfl, hb4⟩
  clear c0 c1 c2 c3 c4 d0 d1 d2 d3 d4 hw hz
  have H4 := Two.keep H hb4
  clear H hb4
  go_wp2_with fail
  go_region_held3 (fun w' => Two w w.heap.size (.string a0) (.string a1) (.string a2) (.int .i64 h) (.int .i64 l) (.string b0) (.string b1) (.string b2) (.int .i64 h') (.int .i64 l') w')
    (first
      | assumption
      | (exact Two.drew (by assumption))
      | (exact Two.keep (by assumption) (by assumption)))
    (first
      | (go_at_call 12; refine (of_any _ _ _ _ _ _).mono ?_; rintro e w' ⟨rfl, hb⟩)
      | (go_at_call 18; refine (same_any _ _ _ _ _ _ _ _ _ _ _).mono ?_; rintro e w' ⟨rfl, hb⟩))
  rename_i H5
  go_wp2_with fail
  go_ret
  exact ⟨rfl, H5.2.2.1⟩

end Go.Proofs.YthaldkmjjpepjaaDoor
