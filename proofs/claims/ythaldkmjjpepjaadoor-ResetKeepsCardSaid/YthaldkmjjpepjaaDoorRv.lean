/-
  Contracts of image and dict that layer 16 reaches where the list is of another region.
-/
import Derived.Test.YthaldkmjjpepjaaDoorRa
import Derived.Test.YthaldkmjjpepjaaDoorRj
import Derived.Test.YthaldkmjjpepjaaDoorRq
import Derived.Stop.Asserts
import Derived.LaidEql
namespace Go.Proofs.YthaldkmjjpepjaaDoor
open Go.RowKit Go.Extern.Stop Go.Stop Go.Extern

def pickI (a n : Int) : Int := (if a < 0 then -(a + 1) else a) % n
theorem pickI_range (a n : Int) (h : 0 < n) : 0 ≤ pickI a n ∧ pickI a n < n := ⟨Int.emod_nonneg _ (by omega), Int.emod_lt_of_pos _ h⟩

theorem i64_wrap' (x : Int) (h0 : -9223372036854775808 ≤ x) (h1 : x ≤ 9223372036854775807) : IntKind.i64.wrap x = x := i64_wrap x h0 h1

set_option maxHeartbeats 1000000 in
theorem layout_any (a : Int) (w : World) (ha : a ≤ 9223372036854775807) (ha' : -9223372036854775808 ≤ a) :
    Calls Tryd.prog 20 #[.int .i64 a] w fun e w' =>
      e = .returned (.agg #[.int .i64 16384, .int .i64 0, .int .i64 (256 + 8 * pickI a 9), .int .i64 (64 + 8 * pickI a 4), .int .i64 64]) ∧ Below w.heap.size w w' := by
  have p9 := pickI_range a 9 (by omega)
  have p4 := pickI_range a 4 (by omega)
  have H9 := hide (fun w => pick_any a 9 w (by omega) (by omega) ha ha')
  have H4 := hide (fun w => pick_any a 4 w (by omega) (by omega) ha ha')
  change Hid (∀ w, Calls _ _ _ w fun e w' => e = .returned (.int .i64 (pickI a 9)) ∧ w = w') at H9
  change Hid (∀ w, Calls _ _ _ w fun e w' => e = .returned (.int .i64 (pickI a 4)) ∧ w = w') at H4
  generalize pickI a 9 = x at *
  generalize pickI a 4 = y at *
  go_enter Tryd.func20, Tryd.ntmps20
  go_wp2_with fail
  refine (H9.out _).mono ?_
  rintro e w' ⟨rfl, rfl⟩
  go_wp2_with fail
  refine (H4.out _).mono ?_
  rintro e w' ⟨rfl, rfl⟩
  go_wp2_with fail
  refine post_cell (g := w.heap.size) rfl rfl rfl (heap_alloc_new w _) Tryd.underlying49 rfl (by kernel_rfl) ⟨rfl, (Below.refl _ _).alloc (Nat.le_refl _) _⟩

theorem drewN_below (w : World) (n : Nat) : Below w.heap.size w (w.drewN n) := ⟨rfl, rfl, rfl, Nat.le_refl _, fun _ _ => rfl⟩

set_option maxHeartbeats 1000000 in
theorem span_any (N : Nat) (r b c : Int) (w : World) (hr : r = 1 ∨ r = 3 ∨ r = 4 ∨ r = 5) (h1 : w.cell? ⟨N, 5 + r.toNat, none⟩ = some (.int .i64 b)) (h2 : w.cell? ⟨N, 6 + r.toNat, none⟩ = some (.int .i64 c)) :
    Calls Tryd.prog 42 #[.pointer (some ⟨N, 0, none⟩), .int .i64 r] w fun e w' => e = .returned (.tuple #[.int .i64 b, .int .i64 c]) ∧ Below w.heap.size w w' := by
  rcases hr with rfl | rfl | rfl | rfl
  · have g1 : w.cell? ⟨N, 6, none⟩ = _ := h1
    have g2 : w.cell? ⟨N, 7, none⟩ = _ := h2
    clear h1 h2
    go_enter Tryd.func42, Tryd.ntmps42
    go_wp2_with fail
    go_quiet (fail)
    go_wp2_with fail
    go_ret2
    exact ⟨rfl, drewN_below _ _⟩
  · have g1 : w.cell? ⟨N, 8, none⟩ = _ := h1
    have g2 : w.cell? ⟨N, 9, none⟩ = _ := h2
    clear h1 h2
    go_enter Tryd.func42, Tryd.ntmps42
    go_wp2_with fail
    go_quiet (fail)
    go_wp2_with fail
    go_ret2
    exact ⟨rfl, drewN_below _ _⟩
  · have g1 : w.cell? ⟨N, 9, none⟩ = _ := h1
    have g2 : w.cell? ⟨N, 10, none⟩ = _ := h2
    clear h1 h2
    go_enter Tryd.func42, Tryd.ntmps42
    go_wp2_with fail
    go_quiet (fail)
    go_wp2_with fail
    go_ret2
    exact ⟨rfl, drewN_below _ _⟩
  · have g1 : w.cell? ⟨N, 10, none⟩ = _ := h1
    have g2 : w.cell? ⟨N, 11, none⟩ = _ := h2
    clear h1 h2
    go_enter Tryd.func42, Tryd.ntmps42
    go_wp2_with fail
    go_quiet (fail)
    go_wp2_with fail
    go_ret2
    exact ⟨rfl, drewN_below _ _⟩

theorem here_any (N : Nat) (h : Int) (w : World) (h1 : w.cell? ⟨N, 3, none⟩ = some (.int .i64 h)) :
    Calls Tryd.prog 57 #[.pointer (some ⟨N, 0, none⟩)] w fun e w' => e = .returned (.int .i64 h) ∧ w = w' := by
  go_enter Tryd.func57, Tryd.ntmps57
  go_wp2
  go_ret
  exact ⟨rfl, rfl⟩

/-! What errors.Is asks of a number of reset's. -/
theorem Tryd.isTypeOf (v : Value) (w : World) : (Extern.ReflectliteType.typeOf #[.iface 25 v]).run Tryd.prog w = .ok (.iface 142 (.agg #[.pointer (some ⟨1, 25, none⟩)])) w := by kernel_rfl
def cmpX : Array Value → Sem Value := Extern.ReflectliteType.method fun t => do Extern.Rtype.noPackHeld "Comparable" t; pure (.bool (← typeInfo t).comparable)
theorem Tryd.isComparable (w : World) : (cmpX #[.agg #[.pointer (some ⟨1, 25, none⟩)]]).run Tryd.prog w = .ok (.bool true) w := by kernel_rfl
theorem Tryd.isMethodComparable (v : Value) (w : World) : (Go.method 289 142 v "Comparable").run Tryd.prog w = .ok (102, v) w := by kernel_rfl

set_option maxRecDepth 20000 in
theorem errorsIs_same (w : World) :
    Calls Tryd.prog 58 #[.iface 25 (.int .i64 1), .iface 25 (.int .i64 1)] w fun e w' => e = .returned (.bool true) ∧ w = w' := by
  have h8 := @run_callFunc_extern Tryd.prog 69 _ Extern.ReflectliteType.typeOf Tryd.func69 (by kernel_rfl) (by kernel_rfl) (by kernel_rfl) (by kernel_rfl)
  have h32 := @run_callFunc_extern Tryd.prog 102 _ cmpX Tryd.func102 (by kernel_rfl) (by kernel_rfl) (by kernel_rfl) (by kernel_rfl)
  have tT := Tryd.isTypeOf
  have cT := Tryd.isComparable
  have mR := Tryd.isMethodComparable
  have heq : ∀ w, (binOp .eql 97 (.iface 25 (.int .i64 1)) (.iface 25 (.int .i64 1)) ).run Tryd.prog w = .ok (.bool true) w := fun w => by kernel_rfl
  have hn : ∀ w, (binOp .eql 97 (.iface 25 (.int .i64 1)) .nilIface ).run Tryd.prog w = .ok (.bool false) w := fun w => by kernel_rfl
  go_enter Tryd.func58, Tryd.ntmps58
  go_wp2
  refine wp_loop_rounds 1 ?_
  rw [rounds_succ]
  go_wp2
  go_ret
  exact ⟨rfl, rfl⟩

set_option maxRecDepth 20000 in
theorem code_arg (w : World) :
    Calls Tryd.prog 44 #[.iface 25 (.int .i64 1)] w fun e w' => e = .returned (.int .i64 1) ∧ Below w.heap.size w w' := by
  go_enter Tryd.func44, Tryd.ntmps44
  go_wp2_with fail
  refine wp_loop_rounds 1 ?_
  rw [rounds_succ]
  go_wp2_with fail
  refine (errorsIs_same _).mono ?_
  rintro e w1 ⟨rfl, rfl⟩
  go_wp2_with fail
  go_ret
  exact ⟨rfl, (Below.refl _ _).alloc (Nat.le_refl _) _⟩

theorem asked_no (I D : Nat) (w : World) (x : Int)
    (h1 : w.cell? ⟨I, 8, none⟩ = some (.int .i64 16384)) (h2 : w.cell? ⟨I, 9, none⟩ = some (.int .i64 x)) (h3 : w.cell? ⟨D, 3, none⟩ = some (.int .i64 8)) (hD : D < w.heap.size) :
    Calls Tryd.prog 43 #[.pointer (some ⟨I, 0, none⟩), .pointer (some ⟨D, 0, none⟩)] w fun e w' => e = .returned (.iface 25 (.int .i64 1)) ∧ Below w.heap.size w w' := by
  have HS := hide (span_any I 3 16384 x w (by omega) h1 h2)
  have H3 := hide h3
  clear h1 h2 h3
  go_enter Tryd.func43, Tryd.ntmps43
  go_wp2_with fail
  refine HS.out.mono ?_
  rintro e w1 ⟨rfl, hb1⟩
  have c3 := (hb1.cell (p := ⟨D, 3, none⟩) (by exact hD)).trans H3.out
  go_wp2_with fail
  refine (here_any D 8 w1 c3).mono ?_
  rintro e w2 ⟨rfl, rfl⟩
  go_wp2_with fail
  go_ret
  exact ⟨rfl, hb1⟩

end Go.Proofs.YthaldkmjjpepjaaDoor
