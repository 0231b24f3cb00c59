/-
  Parse of layer 16.
-/
import Derived.Test.YthaldkmjjpepjaaDoorRc
import Derived.StillTailTactics
namespace Go.Proofs.YthaldkmjjpepjaaDoor
open Go.RowKit

/-- '==' of two texts of four bytes. -/
theorem equalIn4 (a b c d a' b' c' d' : Int) (w : World) : (Op.equalIn 10000 80 (.agg #[.int .u8 a, .int .u8 b, .int .u8 c, .int .u8 d]) (.agg #[.int .u8 a', .int .u8 b', .int .u8 c', .int .u8 d'])).run Tryd.prog w =
    .ok (a == a' && (b == b' && (c == c' && d == d'))) w := by
  have h := Tryd.underlying80
  have hs : (sizeOf 5).run Tryd.prog w = .ok 1 w := by kernel_rfl
  rw [show (10000 : Nat) = 9998 + 1 + 1 from rfl, Op.equalIn]
  simp only [Sem.run_bind, run_underlying h, Result.andThen_ok, hs]
  simp [go_sem, Std.Legacy.Range.forIn_eq_forIn_range', List.range', Std.Legacy.Range.size]
  by_cases h1 : a = a' <;> by_cases h2 : b = b' <;> by_cases h3 : c = c' <;> by_cases h4 : d = d' <;> simp [h1, h2, h3, h4, go_sem]

theorem take4 {s : ByteArray} (h : 4 ≤ s.size) : (sl s).take 4 = [s.data[0]?.getD 0, s.data[1]?.getD 0, s.data[2]?.getD 0, s.data[3]?.getD 0] := by
  have hl := sl_length s
  have e : ∀ j : Nat, s.data[j]? = (sl s)[j]? := fun j => by simp [sl]
  rw [e, e, e, e]
  generalize sl s = l at *
  match l, hl with
  | a :: b :: c :: d :: l, _ => rfl
  | [], hl => simp at hl; omega
  | [_], hl => simp at hl; omega
  | [_, _], hl => simp at hl; omega
  | [_, _, _], hl => simp at hl; omega

/-- Does it begin with the mark? -/
def markI (a b c d : Int) : Bool := a == 80 && (b == 82 && (c == 83 && d == 49))
theorem markI_take {s : ByteArray} (h : 4 ≤ s.size) : markI (s.data[0]?.getD 0).toNat (s.data[1]?.getD 0).toNat (s.data[2]?.getD 0).toNat (s.data[3]?.getD 0).toNat = decide ((sl s).take 4 = [80, 82, 83, 49]) := by
  rw [take4 h, Bool.eq_iff_iff]
  have e : ∀ (x : UInt8) (n : Nat), n < 256 → (((x.toNat : Int) == (n : Int)) = true ↔ x = UInt8.ofNat n) := fun x n hn => by
    rw [beq_iff_eq, ← UInt8.toNat_inj]
    simp only [UInt8.toNat_ofNat']
    omega
  simp only [markI, Bool.and_eq_true, decide_eq_true_eq, List.cons.injEq, and_true]
  rw [show (80 : Int) = ((80 : Nat) : Int) from rfl, show (82 : Int) = ((82 : Nat) : Int) from rfl, show (83 : Int) = ((83 : Nat) : Int) from rfl, show (49 : Int) = ((49 : Nat) : Int) from rfl,
    e _ 80 (by omega), e _ 82 (by omega), e _ 83 (by omega), e _ 49 (by omega)]
  exact Iff.rfl

/-- What Parse answers. -/
def parseV (s : ByteArray) : Value := .tuple #[parseA (sl s), .int .i64 (if okL (sl s) then 0 else 4)]
theorem parseV_no {s : ByteArray} (h : okL (sl s) = false) : parseV s = .tuple #[.agg #[.string ⟨#[]⟩, .string ⟨#[]⟩, .string ⟨#[]⟩, .int .i64 0, .int .i64 0], .int .i64 4] := by
  simp [parseV, parseA, h]

theorem parseV_ok {s : ByteArray} (h : okL (sl s) = true) : parseV s = .tuple #[.agg #[.string (mkS (part0 (sl s))), .string (mkS (part1 (sl s))), .string (mkS (part2 (sl s))),
    .int .i64 (IntKind.i64.wrap (numAt (sl s) 3)), .int .i64 (IntKind.i64.wrap (numAt (sl s) 4))], .int .i64 0] := by
  simp [parseV, parseA, h]

set_option maxHeartbeats 1000000 in
theorem parse_short (s : ByteArray) (w : World) (hs : s.size < 52) :
    Calls Tryd.prog 13 #[.string s] w fun e w' => e = .returned (parseV s) ∧ Below w.heap.size w w' := by
  have g1 : decide ((s.size : Int) < 52) = true := by simp; omega
  have HNO := hide (parseV_no (s := s) (by simp [okL, sl_length]; omega))
  go_enter Tryd.func13, Tryd.ntmps13
  go_wp2_with (with_reducible refine wpl_bytes _ rfl (.tmp 9) 9 38 5 rfl Tryd.underlying9 Tryd.underlying38 Tryd.underlying5 s rfl (by omega) ?_)
  intro cap w1 hcap hcap' hsz hb hcell hfr
  go_wp2_with fail
  go_quiet (fail)
  have hrow : (w1.drewN nq).heap[w.heap.size]? = some (.cells #[.string ⟨#[]⟩, .string ⟨#[]⟩, .string ⟨#[]⟩, .int .i64 0, .int .i64 0] 23 (0, 0)) := by
    show w1.heap[w.heap.size]? = _
    rw [hb.block _ (by simp)]; exact heap_alloc_new w _
  have hlt : w.heap.size < w1.heap.size := by omega
  have hbw1 : Below w.heap.size w w1 := ((Below.refl _ w).alloc (Nat.le_refl _) _).trans (hb.mono (Nat.le_succ _))
  have hbw : Below w.heap.size w (w1.drewN nq) := ⟨hbw1.os, hbw1.tape, hbw1.output, hbw1.size, hbw1.block⟩
  go_wp2_with (with_reducible refine wpl_stRow (w1.drewN nq) rfl 23 (.tmp 2) (.tmp 21) rfl w.heap.size 23 _ _ rfl rfl hrow (by kernel_rfl) rfl (by simp [Value.oneCell']) ?_)
  intro w2 hrow2 hgr hs2
  go_wp2_with fail
  refine post_cell_tmp (g := w.heap.size) rfl rfl rfl rfl hrow2 Tryd.underlying23 rfl (by kernel_rfl) ⟨by rw [HNO.out]; rfl, ?_⟩
  exact hbw.grown (w := w1.drewN nq) hgr (by show w.heap.size ≤ w1.heap.size; omega) (by simp)

set_option maxHeartbeats 1000000 in
theorem parse_mark (s : ByteArray) (w : World) (hm : Marked w) (hs : 52 ≤ s.size) (hs' : s.size ≤ 9223372036854775807) (hne : (sl s).take 4 ≠ [80, 82, 83, 49]) :
    Calls Tryd.prog 13 #[.string s] w fun e w' => e = .returned (parseV s) ∧ Below w.heap.size w w' := by
  have HNO := hide (parseV_no (s := s) (by simp [okL, hne]))
  have g1 : decide ((s.size : Int) < 52) = false := by simp; omega
  have g2 : ¬ (s.size : Int) < 4 := by omega
  obtain ⟨m0, m1, m2, m3⟩ := hm.cells
  have hb0 : 0 < w.heap.size := World.block_lt_of_cell? w _ m0
  go_enter Tryd.func13, Tryd.ntmps13
  go_wp2_with (with_reducible refine wpl_bytes _ rfl (.tmp 9) 9 38 5 rfl Tryd.underlying9 Tryd.underlying38 Tryd.underlying5 s rfl (by omega) ?_)
  intro cap w1 hcap hcap' hsz hb hcell hfr
  have c0 := hcell 0 (by omega)
  have c1 := hcell 1 (by omega)
  have c2 := hcell 2 (by omega)
  have c3 := hcell 3 (by omega)
  have hbw : Below w.heap.size w w1 := ((Below.refl _ w).alloc (Nat.le_refl _) _).trans (hb.mono (Nat.le_succ _))
  have n0 := (hbw.cell (p := ⟨0, 0, none⟩) hb0).trans m0
  have n1 := (hbw.cell (p := ⟨0, 1, none⟩) hb0).trans m1
  have n2 := (hbw.cell (p := ⟨0, 2, none⟩) hb0).trans m2
  have n3 := (hbw.cell (p := ⟨0, 3, none⟩) hb0).trans m3
  have harr : ∀ wx, (Instr.arrayAt 80 (.slice (some ⟨w.heap.size + 1, 0, none⟩) s.size cap)).run Tryd.prog wx = .ok (.pointer (some ⟨w.heap.size + 1, 0, none⟩)) wx :=
    fun wx => run_arrayAt wx _ _ 4 _ _ _ Tryd.underlying80 (by omega)
  have hmk := markI_take (s := s) (by omega)
  rw [decide_eq_false hne] at hmk
  have heq := fun wx => equalIn4 (s.data[0]?.getD 0).toNat (s.data[1]?.getD 0).toNat (s.data[2]?.getD 0).toNat (s.data[3]?.getD 0).toNat 80 82 83 49 wx
  unfold markI at hmk
  rw [hmk] at heq
  go_wp2_with fail
  go_quiet (fail)
  have hrow : (w1.drewN nq).heap[w.heap.size]? = some (.cells #[.string ⟨#[]⟩, .string ⟨#[]⟩, .string ⟨#[]⟩, .int .i64 0, .int .i64 0] 23 (0, 0)) := by
    show w1.heap[w.heap.size]? = _
    rw [hb.block _ (by simp)]; exact heap_alloc_new w _
  have hbw' : Below w.heap.size w (w1.drewN nq) := ⟨hbw.os, hbw.tape, hbw.output, hbw.size, hbw.block⟩
  clear hb hmk hcell hfr harr heq c0 c1 c2 c3 n0 n1 n2 n3 m0 m1 m2 m3
  go_wp2_with (with_reducible refine wpl_stRow (w1.drewN nq) rfl 23 (.tmp 2) (.tmp 21) rfl w.heap.size 23 _ _ rfl rfl hrow (by kernel_rfl) rfl (by simp [Value.oneCell']) ?_)
  intro w2 hrow2 hgr hs2
  go_wp2_with fail
  refine post_cell_tmp (g := w.heap.size) rfl rfl rfl rfl hrow2 Tryd.underlying23 rfl (by kernel_rfl) ⟨by rw [HNO.out]; rfl, ?_⟩
  exact hbw'.grown hgr (by show w.heap.size ≤ w1.heap.size; omega) (by simp)

def arrAt (l : List UInt8) (k i : Nat) : Value := .int .u64 (if i < k then (numAt l i : Int) else 0)
def arrOf (l : List UInt8) (k : Nat) : Array Value := #[arrAt l k 0, arrAt l k 1, arrAt l k 2, arrAt l k 3, arrAt l k 4]

theorem arrOf_get (l : List UInt8) (m k : Nat) (h : k < 5) : (arrOf l m)[k]? = some (arrAt l m k) := by
  match k, h with
  | 0, _ => rfl
  | 1, _ => rfl
  | 2, _ => rfl
  | 3, _ => rfl
  | 4, _ => rfl

theorem arrOf_set (l : List UInt8) (k : Nat) (h : k < 5) : (arrOf l k).setIfInBounds k (.int .u64 (numAt l k : Int)) = arrOf l (k + 1) := by
  match k, h with
  | 0, _ => rfl
  | 1, _ => rfl
  | 2, _ => rfl
  | 3, _ => rfl
  | 4, _ => rfl

set_option maxRecDepth 100000 in
set_option maxHeartbeats 4000000 in
theorem parse_long (s : ByteArray) (w : World) (hm : Marked w) (hs : 52 ≤ s.size) (hs' : s.size ≤ 9223372036854775807) (hne : (sl s).take 4 = [80, 82, 83, 49]) :
    Calls Tryd.prog 13 #[.string s] w fun e w' => e = .returned (parseV s) ∧ Below w.heap.size w w' := by
  have g1 : decide ((s.size : Int) < 52) = false := by simp; omega
  have g2 : ¬ (s.size : Int) < 4 := by omega
  obtain ⟨m0, m1, m2, m3⟩ := hm.cells
  have hb0 : 0 < w.heap.size := World.block_lt_of_cell? w _ m0
  go_enter Tryd.func13, Tryd.ntmps13
  go_wp2_with (with_reducible refine wpl_bytes _ rfl (.tmp 9) 9 38 5 rfl Tryd.underlying9 Tryd.underlying38 Tryd.underlying5 s rfl (by omega) ?_)
  intro cap w1 hcap hcap' hsz hb hcell hfr
  have c0 := hcell 0 (by omega)
  have c1 := hcell 1 (by omega)
  have c2 := hcell 2 (by omega)
  have c3 := hcell 3 (by omega)
  have hbw : Below w.heap.size w w1 := ((Below.refl _ w).alloc (Nat.le_refl _) _).trans (hb.mono (Nat.le_succ _))
  have n0 := (hbw.cell (p := ⟨0, 0, none⟩) hb0).trans m0
  have n1 := (hbw.cell (p := ⟨0, 1, none⟩) hb0).trans m1
  have n2 := (hbw.cell (p := ⟨0, 2, none⟩) hb0).trans m2
  have n3 := (hbw.cell (p := ⟨0, 3, none⟩) hb0).trans m3
  have harr : ∀ wx, (Instr.arrayAt 80 (.slice (some ⟨w.heap.size + 1, 0, none⟩) s.size cap)).run Tryd.prog wx = .ok (.pointer (some ⟨w.heap.size + 1, 0, none⟩)) wx :=
    fun wx => run_arrayAt wx _ _ 4 _ _ _ Tryd.underlying80 (by omega)
  have hmk := markI_take (s := s) (by omega)
  rw [decide_eq_true hne] at hmk
  have heq := fun wx => equalIn4 (s.data[0]?.getD 0).toNat (s.data[1]?.getD 0).toNat (s.data[2]?.getD 0).toNat (s.data[3]?.getD 0).toNat 80 82 83 49 wx
  unfold markI at hmk
  rw [hmk] at heq
  go_wp2_with fail
  go_quiet (fail)
  have hrow : w1.heap[w.heap.size]? = some (.cells #[.string ⟨#[]⟩, .string ⟨#[]⟩, .string ⟨#[]⟩, .int .i64 0, .int .i64 0] 23 (0, 0)) := by
    rw [hb.block _ (by simp)]; exact heap_alloc_new w _
  clear hb hmk harr heq c0 c1 c2 c3 n0 n1 n2 n3 m0 m1 m2 m3 hfr g1
  go_wp2_with fail
  obtain ⟨W0, hW0⟩ : ∃ W, W = (w1.drewN nq).alloc (.cells #[.int .u64 0, .int .u64 0, .int .u64 0, .int .u64 0, .int .u64 0] 86) := ⟨_, rfl⟩
  have hA0 : W0.heap[w.heap.size + 1 + 1]? = some (.cells (arrOf (sl s) 0) 86 (0, 0)) := by
    have h := heap_alloc_new (w1.drewN nq) (.cells #[.int .u64 0, .int .u64 0, .int .u64 0, .int .u64 0, .int .u64 0] 86)
    rw [← hW0, show (w1.drewN nq).heap.size = w.heap.size + 1 + 1 from hsz] at h
    exact h
  have hbW : Below w.heap.size w W0 := by
    rw [hW0]
    exact Below.alloc (w := w1.drewN nq) ⟨hbw.os, hbw.tape, hbw.output, hbw.size, hbw.block⟩ (by show w.heap.size ≤ w1.heap.size; omega) _
  have hrow0 : W0.heap[w.heap.size]? = some (.cells #[.string ⟨#[]⟩, .string ⟨#[]⟩, .string ⟨#[]⟩, .int .i64 0, .int .i64 0] 23 (0, 0)) := by
    rw [hW0, heap_alloc_old _ _ (by show w.heap.size < w1.heap.size; omega)]
    exact hrow
  have hcell0 : ∀ j, j < s.size → W0.cell? ⟨w.heap.size + 1, j, none⟩ = some (.int .u8 ((sl s).getD j 0).toNat) := by
    intro j hj
    have h := hcell j hj
    rw [hW0, World.cell?_alloc_past _ _ _ (by show _ < w1.heap.size; omega)]
    exact h.trans (by simp [sl])
  have hszW : W0.heap.size = w.heap.size + 1 + 1 + 1 := by rw [hW0]; simp; exact hsz
  have HSZ := hide hszW
  clear hcell hrow hbw hsz hszW
  rw [← hW0]
  clear hW0
  go_loopw [22] (fun i wr => ∃ k : Nat, k ≤ 5 ∧ i = .int .i64 k ∧ wr.heap[w.heap.size + 1 + 1]? = some (.cells (arrOf (sl s) k) 86 (0, 0)) ∧ W0.grownBy wr (some (w.heap.size + 1 + 1))) (fun i _ => 5 - (intOf i).toNat)
  case atStart => exact ⟨0, by omega, rfl, hA0, World.grownBy.refl _ _⟩
  case round =>
    obtain ⟨k, hk, rfl, hA, hg⟩ := hrel
    by_cases hlt : k < 5
    · have hcA := (cell_of_row wr _ k _ _ _ hA).trans (arrOf_get _ _ _ hlt)
      have hfA := frozen_of_row wr _ k _ _ hA
      have hc8 : ∀ j, j < 8 → wr.cell? ⟨w.heap.size + 1, 4 + 8 * k + j, none⟩ = some (.int .u8 (((((sl s).drop (4 + 8 * k)).take 8).getD j 0).toNat : Int)) := by
        intro j hj
        rw [hg.cell (hcell0 _ (by omega)) (by simp)]
        simp [List.getD_eq_getElem?_getD, hj]
      have HC := hide hc8
      clear hc8
      have HA := hide hA
      clear hA
      have hl8 : (((sl s).drop (4 + 8 * k)).take 8).length = 8 := by simp [sl_length]; omega
      have HL8 := hide hl8
      clear hl8
      go_wp2_with (go_at_call 38; refine (number_any _ _ _ _ (((sl s).drop (4 + 8 * k)).take 8) _ HL8.out (by omega) (by omega) HC.out).mono ?_; rintro e w' ⟨rfl, rfl⟩)
      go_roundw
      case rel =>
        refine ⟨k + 1, by omega, by go_num, ?_, grownBy_setCell hg⟩
        rw [heap_setCell_same _ _ _ _ _ _ HA.out, ← arrOf_set _ _ hlt]
        rfl
      case measure => simp [intOf]; omega
    · obtain rfl : k = 5 := by omega
      have a0 := cell_of_row wr _ 0 _ _ _ hA
      have a1 := cell_of_row wr _ 1 _ _ _ hA
      have a2 := cell_of_row wr _ 2 _ _ _ hA
      have a3 := cell_of_row wr _ 3 _ _ _ hA
      have a4 := cell_of_row wr _ 4 _ _ _ hA
      simp [arrOf, arrAt] at a0 a1 a2 a3 a4
      have hrowR : wr.heap[w.heap.size]? = _ := (hg.block _ (by have := HSZ.out; omega) (by simp; omega)).trans hrow0
      have hbR : Below w.heap.size w wr := hbW.grown hg (by have := HSZ.out; omega) (by simp; omega)
      have hcR : ∀ j, j < s.size → wr.cell? ⟨w.heap.size + 1, j, none⟩ = some (.int .u8 ((sl s).getD j 0).toNat) := fun j hj => hg.cell (hcell0 j hj) (by simp)
      clear hA hg hbW hrow0 hcell0 hA0
      obtain ⟨E, hE⟩ : ∃ E, s.size = E + 8 := ⟨s.size - 8, by omega⟩
      have b0 := numAt_lt (sl s) 0
      have b1 := numAt_lt (sl s) 1
      have b2 := numAt_lt (sl s) 2
      have b3 := numAt_lt (sl s) 3
      have b4 := numAt_lt (sl s) 4
      obtain ⟨x0, hx0⟩ : ∃ x, numAt (sl s) 0 = x := ⟨_, rfl⟩
      obtain ⟨x1, hx1⟩ : ∃ x, numAt (sl s) 1 = x := ⟨_, rfl⟩
      obtain ⟨x2, hx2⟩ : ∃ x, numAt (sl s) 2 = x := ⟨_, rfl⟩
      obtain ⟨x3, hx3⟩ : ∃ x, numAt (sl s) 3 = x := ⟨_, rfl⟩
      obtain ⟨x4, hx4⟩ : ∃ x, numAt (sl s) 4 = x := ⟨_, rfl⟩
      rw [hx0] at a0 b0
      rw [hx1] at a1 b1
      rw [hx2] at a2 b2
      rw [hx3] at a3 b3
      rw [hx4] at a4 b4
      have HX := hide (And.intro hx0 (And.intro hx1 (And.intro hx2 (And.intro hx3 hx4))))
      clear hx0 hx1 hx2 hx3 hx4
      by_cases hfit : fitI x0 x1 x2 = true
      · obtain ⟨f0, f1, f2⟩ := fitI_iff.1 hfit
        have e1 : IntKind.u64.wrap (44 + (x0 : Int)) = 44 + (x0 : Int) := by rw [u64_wrap]; omega
        have e2 : IntKind.u64.wrap (44 + (x0 : Int) + (x1 : Int)) = 44 + (x0 : Int) + (x1 : Int) := by rw [u64_wrap]; omega
        have e3 : IntKind.u64.wrap (44 + (x0 : Int) + (x1 : Int) + (x2 : Int)) = 44 + (x0 : Int) + (x1 : Int) + (x2 : Int) := by rw [u64_wrap]; omega
        have e4 : IntKind.u64.wrap (E : Int) = (E : Int) := by rw [u64_wrap]; omega
        by_cases hlen : E = 44 + x0 + x1 + x2
        · have hne0 : ((E : Int) != 44 + (x0 : Int) + (x1 : Int) + (x2 : Int)) = false := by simp; omega
          have HLEN := hide hlen
          clear hlen
          have hcN : ∀ j, j < 8 → wr.cell? ⟨w.heap.size + 1, E + j, none⟩ = some (.int .u8 ((((sl s).drop (E)).getD j 0).toNat : Int)) := by
            intro j hj
            rw [hcR _ (by omega)]
            simp [List.getD_eq_getElem?_getD]
          have hcS : ∀ j, j < E → wr.cell? ⟨w.heap.size + 1, 0 + j, none⟩ = some (.int .u8 ((((sl s).take (E)).getD j 0).toNat : Int)) := by
            intro j hj
            rw [Nat.zero_add, hcR _ (by omega)]
            simp [List.getD_eq_getElem?_getD, hj]
          have HN := hide hcN
          have HS := hide hcS
          clear hcN hcS hcR
          by_cases hsum : rdN ((sl s).drop (E)) = sumN ((sl s).take (E))
          · have hsne : ((rdN ((sl s).drop E) : Int) != (sumN ((sl s).take E) : Int)) = false := by simp; omega
            have HSUM := hide hsum
            have HOK := hide (show okL (sl s) = true by simp only [okL, HX.out, hfit, sl_length, hE, Nat.add_sub_cancel, hsum, hne]; have := HLEN.out; simp; omega)
            clear hsum
            have q1 : (0 : Int) ≤ (E : Int) := by omega
            have q2 : (E : Int) ≤ s.size := by omega
            have q3 : (E : Int) ≤ cap := by omega
            have q4 : (s.size : Int) ≤ cap := by omega
            have q5 : E ≤ s.size := by omega
            have q6 : ¬ cap = E := by omega
            have q7 : (E : Int) ≤ (E : Int) + 8 := by omega
            have q8 : E ≤ cap := by omega
            have q9 : E + 8 ≤ cap := by omega
            go_wp2_with fail
            go_quiet (first
              | (go_at_call 33; refine Calls.quiet_of_same (quiet_sw (fits_any _ _ _ _)))
              | (go_at_call 38; refine Calls.quiet_of_same (quiet_sw (number_any _ _ _ _ ((sl s).drop E) _ (by rw [List.length_drop, sl_length]; omega) (by omega) (by omega) HN.out)))
              | (go_at_call 35; refine Calls.quiet_of_same (quiet_sw (sum_any _ _ _ _ ((sl s).take E) _ (by rw [List.length_take, sl_length]; omega) (by omega) HS.out))))
            have p1 : (44 : Int) ≤ E := by have := HLEN.out; omega
            go_wp2_with fail
            obtain ⟨R, hR⟩ : ∃ R, R = s.extract 44 E := ⟨_, rfl⟩
            rw [← hR]
            have hRs : R.size = x0 + x1 + x2 := by rw [hR]; have := HLEN.out; simp; omega
            have HR := hide hR
            clear hR HN HS q1 q2 q3 q4 q5 q6 q7 q8 q9 p1 hsne hne0 hfit e1 e2 e3 e4 g2
            have r1 : IntKind.u64.wrap ((x0 : Int) + (x1 : Int)) = (x0 : Int) + (x1 : Int) := by rw [u64_wrap]; omega
            have r2 : (0 : Int) ≤ (x0 : Int) + (x1 : Int) := by omega
            have r3 : (x0 : Int) ≤ (x0 : Int) + (x1 : Int) := by omega
            have r4 : (x0 : Int) + (x1 : Int) ≤ (x0 : Int) + (x1 : Int) + (x2 : Int) := by omega
            have r5 : (x0 : Int) ≤ (x0 : Int) + (x1 : Int) + (x2 : Int) := by omega
            have r6 : ((x0 : Int) + (x1 : Int)).toNat = x0 + x1 := by omega
            clear f0 f1 f2 b0 b1 b2 b3 b4
            have hrowQ : (wr.drewN nq).heap[w.heap.size]? = some (.cells #[.string ⟨#[]⟩, .string ⟨#[]⟩, .string ⟨#[]⟩, .int .i64 0, .int .i64 0] 23 (0, 0)) := hrowR
            have hbQ : Below w.heap.size w (wr.drewN nq) := ⟨hbR.os, hbR.tape, hbR.output, hbR.size, hbR.block⟩
            have a0' : (wr.drewN nq).cell? ⟨w.heap.size + 1 + 1, 0, none⟩ = _ := a0
            have a1' : (wr.drewN nq).cell? ⟨w.heap.size + 1 + 1, 1, none⟩ = _ := a1
            have a2' : (wr.drewN nq).cell? ⟨w.heap.size + 1 + 1, 2, none⟩ = _ := a2
            have a3' : (wr.drewN nq).cell? ⟨w.heap.size + 1 + 1, 3, none⟩ = _ := a3
            have a4' : (wr.drewN nq).cell? ⟨w.heap.size + 1 + 1, 4, none⟩ = _ := a4
            generalize wr.drewN nq = wq at hrowQ hbQ a0' a1' a2' a3' a4' ⊢
            clear a0 a1 a2 a3 a4 hrowR hbR
            go_still_tail 27, (by kernel_rfl)
            change wpList _ _ _ _ _ wq.drew
            have hrowD : wq.drew.heap[w.heap.size]? = some (.cells #[.string ⟨#[]⟩, .string ⟨#[]⟩, .string ⟨#[]⟩, .int .i64 0, .int .i64 0] 23 (0, 0)) := hrowQ
            have hbD : Below w.heap.size w wq.drew := hbQ.drew
            clear a0' a1' a2' a3' a4' hrowQ hbQ
            generalize wq.drew = wd at hrowD hbD ⊢
            refine wpl_stRow wd rfl 23 (.tmp 2) (.tmp 100) rfl w.heap.size 23 _ _ rfl rfl hrowD (by kernel_rfl) rfl (by simp [Value.oneCell']) ?_
            intro w2 hrow2 hgr hs2
            go_wp2_with fail
            refine post_cell_tmp (g := w.heap.size) rfl rfl rfl rfl hrow2 Tryd.underlying23 rfl (by kernel_rfl) ⟨?_, ?_⟩
            · rw [parseV_ok HOK.out, part0, part1, part2, HX.out.1, HX.out.2.1, HX.out.2.2.1, HX.out.2.2.2.1, HX.out.2.2.2.2, HR.out]
              have hl := sl_length s
              have := HLEN.out
              rw [extract_mkS (s.extract 44 E), extract_mkS (s.extract 44 E), extract_mkS (s.extract 44 E), extract_mkS s, sl_mkS]
              rw [part_eq _ 44 0 x0 _ _ (by omega) (by omega), part_eq _ 44 x0 x1 _ _ (by omega) (by omega), part_eq _ 44 (x0 + x1) x2 _ _ (by omega) (by omega)]
              rw [Nat.add_zero, ← Nat.add_assoc]
              rfl
            · exact hbD.grown hgr (by exact hbD.size) (by simp)
          · have HNO := hide (parseV_no (s := s) (by simp only [okL, HX.out, hfit, sl_length, hE, Nat.add_sub_cancel]; simp [hsum]))
            have hsne : ((rdN ((sl s).drop (E)) : Int) != (sumN ((sl s).take (E)) : Int)) = true := by simp; omega
            have q1 : (0 : Int) ≤ (E : Int) := by omega
            have q2 : (E : Int) ≤ s.size := by omega
            have q3 : (E : Int) ≤ cap := by omega
            have q4 : (s.size : Int) ≤ cap := by omega
            have q5 : E ≤ s.size := by omega
            have q6 : ¬ cap = E := by omega
            have q7 : (E : Int) ≤ (E : Int) + 8 := by omega
            have q8 : E ≤ cap := by omega
            have q9 : E + 8 ≤ cap := by omega
            go_wp2_with fail
            go_quiet (first
              | (go_at_call 33; refine Calls.quiet_of_same (quiet_sw (fits_any _ _ _ _)))
              | (go_at_call 38; refine Calls.quiet_of_same (quiet_sw (number_any _ _ _ _ ((sl s).drop E) _ (by rw [List.length_drop, sl_length]; omega) (by omega) (by omega) HN.out)))
              | (go_at_call 35; refine Calls.quiet_of_same (quiet_sw (sum_any _ _ _ _ ((sl s).take E) _ (by rw [List.length_take, sl_length]; omega) (by omega) HS.out))))
            have hrowQ : (wr.drewN nq).heap[w.heap.size]? = some (.cells #[.string ⟨#[]⟩, .string ⟨#[]⟩, .string ⟨#[]⟩, .int .i64 0, .int .i64 0] 23 (0, 0)) := hrowR
            have hbQ : Below w.heap.size w (wr.drewN nq) := ⟨hbR.os, hbR.tape, hbR.output, hbR.size, hbR.block⟩
            go_wp2_with (with_reducible refine wpl_stRow (wr.drewN nq) rfl 23 (.tmp 2) (.tmp 70) rfl w.heap.size 23 _ _ rfl rfl hrowQ (by kernel_rfl) rfl (by simp [Value.oneCell']) ?_)
            intro w2 hrow2 hgr hs2
            go_wp2_with fail
            refine post_cell_tmp (g := w.heap.size) rfl rfl rfl rfl hrow2 Tryd.underlying23 rfl (by kernel_rfl) ⟨by rw [HNO.out]; rfl, ?_⟩
            exact hbQ.grown hgr (by exact hbR.size) (by simp)
        · have HNO := hide (parseV_no (s := s) (by simp only [okL, HX.out, hfit, sl_length, hE]; simp; omega))
          have hne : ((E : Int) != 44 + (x0 : Int) + (x1 : Int) + (x2 : Int)) = true := by simp; omega
          go_wp2_with fail
          go_quiet ((go_at_call 33; refine Calls.quiet_of_same (quiet_sw (fits_any _ _ _ _))))
          have hrowQ : (wr.drewN nq).heap[w.heap.size]? = some (.cells #[.string ⟨#[]⟩, .string ⟨#[]⟩, .string ⟨#[]⟩, .int .i64 0, .int .i64 0] 23 (0, 0)) := hrowR
          have hbQ : Below w.heap.size w (wr.drewN nq) := ⟨hbR.os, hbR.tape, hbR.output, hbR.size, hbR.block⟩
          go_wp2_with (with_reducible refine wpl_stRow (wr.drewN nq) rfl 23 (.tmp 2) (.tmp 70) rfl w.heap.size 23 _ _ rfl rfl hrowQ (by kernel_rfl) rfl (by simp [Value.oneCell']) ?_)
          intro w2 hrow2 hgr hs2
          go_wp2_with fail
          refine post_cell_tmp (g := w.heap.size) rfl rfl rfl rfl hrow2 Tryd.underlying23 rfl (by kernel_rfl) ⟨by rw [HNO.out]; rfl, ?_⟩
          exact hbQ.grown hgr (by exact hbR.size) (by simp)
      · have hfit' : fitI x0 x1 x2 = false := by simpa using hfit
        have HNO := hide (parseV_no (s := s) (by simp [okL, HX.out, hfit']))
        clear hfit
        go_wp2_with fail
        go_quiet ((go_at_call 33; refine Calls.quiet_of_same (quiet_sw (fits_any _ _ _ _))))
        have hrowQ : (wr.drewN nq).heap[w.heap.size]? = some (.cells #[.string ⟨#[]⟩, .string ⟨#[]⟩, .string ⟨#[]⟩, .int .i64 0, .int .i64 0] 23 (0, 0)) := hrowR
        have hbQ : Below w.heap.size w (wr.drewN nq) := ⟨hbR.os, hbR.tape, hbR.output, hbR.size, hbR.block⟩
        go_wp2_with (with_reducible refine wpl_stRow (wr.drewN nq) rfl 23 (.tmp 2) (.tmp 70) rfl w.heap.size 23 _ _ rfl rfl hrowQ (by kernel_rfl) rfl (by simp [Value.oneCell']) ?_)
        intro w2 hrow2 hgr hs2
        go_wp2_with fail
        refine post_cell_tmp (g := w.heap.size) rfl rfl rfl rfl hrow2 Tryd.underlying23 rfl (by kernel_rfl) ⟨by rw [HNO.out]; rfl, ?_⟩
        exact hbQ.grown hgr (by exact hbR.size) (by simp)

theorem parse_any (s : ByteArray) (w : World) (hm : Marked w) (hs : s.size ≤ 9223372036854775807) :
    Calls Tryd.prog 13 #[.string s] w fun e w' => e = .returned (parseV s) ∧ Below w.heap.size w w' := by
  by_cases h1 : s.size < 52
  · exact parse_short s w h1
  · by_cases h2 : (sl s).take 4 = [80, 82, 83, 49]
    · exact parse_long s w hm (by omega) hs h2
    · exact parse_mark s w hm (by omega) hs h2

end Go.Proofs.YthaldkmjjpepjaaDoor
