/-
  A cell out of eight bytes: Of, Cell in mode System.
-/
import Derived.Test.YthaldkmjjpepjaaDoorSu
namespace Go.Proofs.YthaldkmjjpepjaaDoor
open Go.RowKit

set_option maxRecDepth 100000 in
set_option maxHeartbeats 4000000 in
theorem of_some (b0 b1 b2 b3 b4 b5 b6 b7 : UInt8) : ∃ v : Int, ∀ w : World,
    Calls Tryd.prog 77 #[.agg #[.int .u8 (b0.toNat : Int), .int .u8 (b1.toNat : Int), .int .u8 (b2.toNat : Int), .int .u8 (b3.toNat : Int), .int .u8 (b4.toNat : Int), .int .u8 (b5.toNat : Int), .int .u8 (b6.toNat : Int), .int .u8 (b7.toNat : Int)]] w
      fun e w' => e = .returned (.int .i64 v) ∧ Below w.heap.size w w' := by
  refine ⟨?v, fun w => ?_⟩
  rotate_left
  · go_enter Tryd.func77, Tryd.ntmps77
    go_wp2_with fail
    refine wp_loop_rounds 9 ?_
    rw [rounds_succ]
    go_wp2_with fail
    rw [rounds_succ]
    go_wp2_with fail
    rw [rounds_succ]
    go_wp2_with fail
    rw [rounds_succ]
    go_wp2_with fail
    rw [rounds_succ]
    go_wp2_with fail
    rw [rounds_succ]
    go_wp2_with fail
    rw [rounds_succ]
    go_wp2_with fail
    rw [rounds_succ]
    go_wp2_with fail
    rw [rounds_succ]
    go_wp2_with fail
    go_ret
    refine ⟨?_, (Below.refl _ _).alloc (Nat.le_refl _) _⟩
    simp
    rfl

noncomputable def ofV (l : List UInt8) : Int := Classical.choose (of_some (l.getD 0 0) (l.getD 1 0) (l.getD 2 0) (l.getD 3 0) (l.getD 4 0) (l.getD 5 0) (l.getD 6 0) (l.getD 7 0))
/-- Eight bytes from i on. -/
def eight (bs : List UInt8) (i : Nat) : Array Value := #[.int .u8 ((bs.getD i 0).toNat : Int), .int .u8 ((bs.getD (i + 1) 0).toNat : Int), .int .u8 ((bs.getD (i + 2) 0).toNat : Int), .int .u8 ((bs.getD (i + 3) 0).toNat : Int),
  .int .u8 ((bs.getD (i + 4) 0).toNat : Int), .int .u8 ((bs.getD (i + 5) 0).toNat : Int), .int .u8 ((bs.getD (i + 6) 0).toNat : Int), .int .u8 ((bs.getD (i + 7) 0).toNat : Int)]
/-- The cell that lies at i. -/
noncomputable def cellV (bs : List UInt8) (i : Nat) : Int := ofV [bs.getD i 0, bs.getD (i + 1) 0, bs.getD (i + 2) 0, bs.getD (i + 3) 0, bs.getD (i + 4) 0, bs.getD (i + 5) 0, bs.getD (i + 6) 0, bs.getD (i + 7) 0]
theorem ofCell_any (bs : List UInt8) (i : Nat) (w : World) :
    Calls Tryd.prog 77 #[.agg (eight bs i)] w fun e w' => e = .returned (.int .i64 (cellV bs i)) ∧ Below w.heap.size w w' :=
  Classical.choose_spec (of_some (bs.getD i 0) (bs.getD (i + 1) 0) (bs.getD (i + 2) 0) (bs.getD (i + 3) 0) (bs.getD (i + 4) 0) (bs.getD (i + 5) 0) (bs.getD (i + 6) 0) (bs.getD (i + 7) 0)) w

theorem and7_bits (x : Nat) (h : x < 9223372036854775808) : bits .and .i64 (x : Int) 7 = ((x % 8 : Nat) : Int) := by
  show IntKind.i64.wrap ((BitVec.ofInt 64 (x : Int) &&& BitVec.ofInt 64 7).toNat : Int) = _
  rw [BitVec.toNat_and, show (BitVec.ofInt 64 7).toNat = 7 by decide]
  have e : (BitVec.ofInt 64 (x : Int)).toNat = x := by
    rw [BitVec.toNat_ofInt]
    show ((x : Int) % 18446744073709551616).toNat = x
    omega
  rw [e, show (7 : Nat) = 2 ^ 3 - 1 from rfl, Nat.and_two_pow_sub_one_eq_mod]
  exact i64_wrap _ (by omega) (by omega)

set_option maxRecDepth 100000 in
set_option maxHeartbeats 4000000 in
theorem cell_any (N G n i : Nat) (S T : Int) (bs : List UInt8) (w : World) (h : Rowed N G n S T bs w) (hi : i % 8 = 0) (hi0 : 16384 ≤ i) (hi1 : (i : Int) + 8 ≤ 16384 + S) :
    Calls Tryd.prog 74 #[.pointer (some ⟨N, 0, none⟩), .int .i64 0, .int .i64 (i : Int)] w fun e w' =>
      e = .returned (.tuple #[.int .i64 (cellV bs i), .int .i64 0]) ∧ Below w.heap.size w w' := by
  have hS := h.1.2.1
  have hn := h.1.2.2
  have hk : rowOk S T (i : Int) 8 = true := by
    rcases reg_cases S T (i : Int) h.1.2.1 with q | q | q | q | q <;> simp only [rowOk, q, Bool.and_eq_true, decide_eq_true_eq] <;> omega
  have HR := hide (row_any N G n S T (i : Int) 1 8 w h.1 (by omega) (by omega) (by omega))
  rw [hk] at HR
  have HO := hide (ofCell_any bs i)
  have harr : ∀ wx, (Instr.arrayAt 135 (.slice (some ⟨G, i, none⟩) 8 8)).run Tryd.prog wx = .ok (.pointer (some ⟨G, i, none⟩)) wx :=
    fun wx => run_arrayAt wx _ _ 8 _ _ _ Tryd.underlying135 (by omega)
  have hb : (bits .and .i64 (i : Int) 7 != 0) = false := by
    rw [and7_bits i (by omega), hi]; rfl
  have c0 := h.cell i (by omega)
  have c1 := h.cell (i + 1) (by omega)
  have c2 := h.cell (i + 2) (by omega)
  have c3 := h.cell (i + 3) (by omega)
  have c4 := h.cell (i + 4) (by omega)
  have c5 := h.cell (i + 5) (by omega)
  have c6 := h.cell (i + 6) (by omega)
  have c7 := h.cell (i + 7) (by omega)
  unfold eight at HO
  generalize cellV bs i = v at *
  clear h hk hi hn
  go_enter Tryd.func74, Tryd.ntmps74
  go_wp2_with fail
  refine HR.out.mono ?_
  rintro e w1 ⟨rfl, rfl⟩
  go_wp2_with fail
  refine (HO.out _).mono ?_
  rintro e w1 ⟨rfl, hb1⟩
  clear c0 c1 c2 c3 c4 c5 c6 c7 harr
  go_wp2_with fail
  go_ret2
  exact ⟨rfl, hb1⟩

end Go.Proofs.YthaldkmjjpepjaaDoor
