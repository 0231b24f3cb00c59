/-
  The examples of chapter 16 (shown).
-/
import Derived.Test.YthaldkmjjpepjaaDoorRf
import Derived.Test.YthaldkmjjpepjaaDoorRh
namespace Go.Proofs.YthaldkmjjpepjaaDoor
open Go.RowKit

theorem Marked.below {w w' : World} (h : Marked w) (hb : Below w.heap.size w w') : Marked w' := by
  obtain ⟨h0, h1, h2, h3⟩ := h
  have hlt : 0 < w.heap.size := World.block_lt_of_cell? w _ h0
  exact ⟨(hb.cell (p := ⟨_, 0, none⟩) hlt).trans h0, (hb.cell (p := ⟨_, 1, none⟩) hlt).trans h1, (hb.cell (p := ⟨_, 2, none⟩) hlt).trans h2, (hb.cell (p := ⟨_, 3, none⟩) hlt).trans h3⟩
theorem Marked.alloc {w : World} (h : Marked w) (o : Obj) : Marked (w.alloc o) := h.below ((Below.refl _ _).alloc (Nat.le_refl _) _)

/-- The text of the state of nothing. -/
def p0 : ByteArray := ⟨(printB ⟨#[]⟩ ⟨#[]⟩ ⟨#[]⟩ 0 0).toArray⟩
theorem p0_size : p0.size = 52 := by decide +kernel
theorem p0_head : ((p0.extract 0 4).toList == [80, 82, 83, 49]) = true := by
  rw [ext04]
  decide +kernel
theorem p0_ok : okL (sl p0) = true := by decide +kernel
theorem p0_parts : part0 (sl p0) = [] ∧ part1 (sl p0) = [] ∧ part2 (sl p0) = [] ∧ numAt (sl p0) 3 = 0 ∧ numAt (sl p0) 4 = 0 := by decide +kernel
theorem p0_parse : parseV p0 = .tuple #[.agg #[.string ⟨#[]⟩, .string ⟨#[]⟩, .string ⟨#[]⟩, .int .i64 0, .int .i64 0], .int .i64 0] := by
  obtain ⟨h0, h1, h2, h3, h4⟩ := p0_parts
  rw [parseV_ok p0_ok, h0, h1, h2, h3, h4]
  rfl
theorem prs1_no : parseV ⟨#[80, 82, 83, 49]⟩ = .tuple #[.agg #[.string ⟨#[]⟩, .string ⟨#[]⟩, .string ⟨#[]⟩, .int .i64 0, .int .i64 0], .int .i64 4] := parseV_no (by decide +kernel)

set_option maxHeartbeats 1000000 in
theorem shown_any (w : World) (hm : Marked w) :
    Calls Tryd.prog 9 #[] w fun e w' => e = .returned (.bool true) ∧ Below w.heap.size w w' := by
  have P : Calls Tryd.prog 10 #[.agg #[.string ⟨#[]⟩, .string ⟨#[]⟩, .string ⟨#[]⟩, .int .i64 0, .int .i64 0]] w fun e w' => e = .returned (.tuple #[.string p0, .int .i64 0]) ∧ Below w.heap.size w w' := print_ok ⟨#[]⟩ ⟨#[]⟩ ⟨#[]⟩ 0 0 w hm (by decide +kernel)
  have z := p0_size
  have hh := p0_head
  have PP := hide P
  have HM := hide hm
  clear P hm
  go_enter Tryd.func9, Tryd.ntmps9
  go_wp2_with fail
  refine PP.out.mono ?_
  rintro e w1 ⟨rfl, hb1⟩
  have hm1 := HM.out.below hb1
  have hz1 := hb1.size
  go_wp2_with fail
  have Q := (parse_any p0 w1 hm1 (by rw [z]; omega))
  rw [p0_parse] at Q
  refine Q.mono ?_
  rintro e w2 ⟨rfl, hb2⟩
  have hm2 := hm1.below hb2
  have hz2 := hb2.size
  clear Q
  go_wp2_with fail
  have D : diffV [⟨#[97, 98]⟩, ⟨#[]⟩, ⟨#[]⟩] [⟨#[97, 99]⟩, ⟨#[]⟩, ⟨#[]⟩] 0 = (3, 1) := by decide +kernel
  have R := differ_any ⟨#[97, 98]⟩ ⟨#[]⟩ ⟨#[]⟩ ⟨#[97, 99]⟩ ⟨#[]⟩ ⟨#[]⟩ 0 0 0 0 (w2.alloc (.cells #[.string ⟨#[]⟩, .string ⟨#[]⟩, .string ⟨#[]⟩, .int .i64 0, .int .i64 0] 23)) (by decide +kernel) (by decide +kernel)
  rw [D] at R
  refine R.mono ?_
  rintro e w3 ⟨rfl, hb3⟩
  clear R D
  have hm3 := (hm2.alloc (.cells #[.string ⟨#[]⟩, .string ⟨#[]⟩, .string ⟨#[]⟩, .int .i64 0, .int .i64 0] 23)).below hb3
  have hz3 : w2.heap.size + 1 ≤ w3.heap.size := by have := hb3.size; simpa using this
  have hr3 : w3.heap[w2.heap.size]? = some (.cells #[.string ⟨#[]⟩, .string ⟨#[]⟩, .string ⟨#[]⟩, .int .i64 0, .int .i64 0] 23 (0, 0)) := by
    rw [hb3.block _ (by simp)]; exact heap_alloc_new _ _
  have hw3 : Below w.heap.size w w3 := (hb1.trans (hb2.mono hz1)).trans (((Below.refl _ w2).alloc (Nat.le_refl _) _).mono (Nat.le_trans hz1 hz2) |>.trans (hb3.mono (by simp; omega)))
  clear hb1 hb2 hb3 hm1 hm2
  go_wp2_with fail
  have Q := (parse_any ⟨#[80, 82, 83, 49]⟩ w3 hm3 (by decide +kernel))
  rw [prs1_no] at Q
  refine Q.mono ?_
  rintro e w4 ⟨rfl, hb4⟩
  clear Q
  have hz4 := hb4.size
  have hr4 : w4.heap[w2.heap.size]? = _ := (hb4.block _ (by omega)).trans hr3
  have c0 := cell_of_row w4 _ 0 _ _ _ hr4
  have c1 := cell_of_row w4 _ 1 _ _ _ hr4
  have c2 := cell_of_row w4 _ 2 _ _ _ hr4
  have c3 := cell_of_row w4 _ 3 _ _ _ hr4
  have c4 := cell_of_row w4 _ 4 _ _ _ hr4
  have hz5 : w2.heap.size < w4.heap.size := by omega
  have hw4 : Below w.heap.size w w4 := hw3.trans (hb4.mono (by omega))
  have heq : ∀ wx, _ = _ := fun wx => equalIn_state ⟨#[]⟩ ⟨#[]⟩ ⟨#[]⟩ ⟨#[]⟩ ⟨#[]⟩ ⟨#[]⟩ 0 0 0 0 wx
  rw [show sameB ⟨#[]⟩ ⟨#[]⟩ ⟨#[]⟩ ⟨#[]⟩ ⟨#[]⟩ ⟨#[]⟩ 0 0 0 0 = true by decide +kernel] at heq
  clear hr3 hr4 hb4 hm3 hw3
  go_wp2_with fail
  go_ret
  exact ⟨rfl, hw4.alloc (by omega) _⟩

end Go.Proofs.YthaldkmjjpepjaaDoor
