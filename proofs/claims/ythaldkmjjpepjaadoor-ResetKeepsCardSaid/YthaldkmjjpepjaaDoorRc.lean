/-
  Print of layer 16.
-/
import Derived.Test.YthaldkmjjpepjaaDoorRb
namespace Go.Proofs.YthaldkmjjpepjaaDoor
open Go.RowKit

/-- The mark's variable. -/
def Marked (w : World) : Prop := w.cell? ⟨0, 0, none⟩ = some (.int .u8 80) ∧ w.cell? ⟨0, 1, none⟩ = some (.int .u8 82) ∧
    w.cell? ⟨0, 2, none⟩ = some (.int .u8 83) ∧ w.cell? ⟨0, 3, none⟩ = some (.int .u8 49)

theorem Marked.cells {w : World} (h : Marked w) : w.cell? ⟨0, 0, none⟩ = some (.int .u8 80) ∧ w.cell? ⟨0, 1, none⟩ = some (.int .u8 82) ∧
    w.cell? ⟨0, 2, none⟩ = some (.int .u8 83) ∧ w.cell? ⟨0, 3, none⟩ = some (.int .u8 49) := h

theorem index5 (a0 a1 a2 a3 a4 : Int) (k : Nat) (hk : k < 5) (w : World) :
    (Instr.index 81 (.agg #[.int .i64 a0, .int .i64 a1, .int .i64 a2, .int .i64 a3, .int .i64 a4]) (.int .i64 (k : Int))).run Tryd.prog w = .ok (.int .i64 ([a0, a1, a2, a3, a4].getD k 0)) w := by
  match k, hk with
  | 0, _ => show (_ : Result Value) = _; kernel_rfl
  | 1, _ => show (_ : Result Value) = _; kernel_rfl
  | 2, _ => show (_ : Result Value) = _; kernel_rfl
  | 3, _ => show (_ : Result Value) = _; kernel_rfl
  | 4, _ => show (_ : Result Value) = _; kernel_rfl

set_option maxHeartbeats 1000000 in
theorem print_ok (s d r : ByteArray) (h l : Int) (w : World) (hm : Marked w) (hf : fitI s.size d.size r.size = true) :
    Calls Tryd.prog 10 #[.agg #[.string s, .string d, .string r, .int .i64 h, .int .i64 l]] w fun e w' => e = .returned (.tuple #[.string ⟨(printB s d r h l).toArray⟩, .int .i64 0]) ∧ Below w.heap.size w w' := by
  obtain ⟨f1, f2, f3⟩ := fitI_iff.1 hf
  have k1 : IntKind.u64.wrap (s.size : Int) = (s.size : Int) := by rw [u64_wrap]; omega
  have k2 : IntKind.u64.wrap (d.size : Int) = (d.size : Int) := by rw [u64_wrap]; omega
  have k3 : IntKind.u64.wrap (r.size : Int) = (r.size : Int) := by rw [u64_wrap]; omega
  obtain ⟨m0, m1, m2, m3⟩ := hm.cells
  have hb0 : 0 < w.heap.size := World.block_lt_of_cell? w _ m0
  clear hm
  go_enter Tryd.func10, Tryd.ntmps10
  go_wp2_with (first
    | (go_at_call 33; refine (fits_any _ _ _ _).mono ?_; rintro e w' ⟨rfl, rfl⟩)
    | (at_builtin; refine wpl_app _ rfl (.const (.slice none 0 0)) (.tmp 23) 38 5 (.int .u8 0) 1 rfl Tryd.underlying38 Tryd.info5 rfl (by decide) _ 0 [] ⟨w.heap.size + 1, 0, none⟩ 4 4 (u8s [80, 82, 83, 49]) rfl rfl rfl ?_ (u8s_one _) (World.ownsRow_nil _ _ _ _) (by decide) ?_))
  · intro j u hj
    match j, hj with
    | 0, hj => cases hj; simp [Addr.add]
    | 1, hj => cases hj; simp [Addr.add]
    | 2, hj => cases hj; simp [Addr.add]
    | 3, hj => cases hj; simp [Addr.add]
  intro v1 w1 hown1 hg1
  generalize hW : (w.alloc _).alloc _ = W0 at hg1
  have c0 : W0.cell? ⟨w.heap.size, 0, none⟩ = some (.string s) := by rw [← hW]; simp
  have c1 : W0.cell? ⟨w.heap.size, 1, none⟩ = some (.string d) := by rw [← hW]; simp
  have c2 : W0.cell? ⟨w.heap.size, 2, none⟩ = some (.string r) := by rw [← hW]; simp
  have c3 : W0.cell? ⟨w.heap.size, 3, none⟩ = some (.int .i64 h) := by rw [← hW]; simp
  have c4 : W0.cell? ⟨w.heap.size, 4, none⟩ = some (.int .i64 l) := by rw [← hW]; simp
  have hbW : Below w.heap.size w W0 := by rw [← hW]; exact ((Below.refl _ _).alloc (Nat.le_refl _) _).alloc (by simp) _
  have hszW : W0.heap.size = w.heap.size + 2 := by rw [← hW]; simp
  have HSZ := hide hszW
  clear hW m0 m1 m2 m3 hszW
  have d0 := hg1.cell c0 (by simp [Value.ownBlock])
  have d1 := hg1.cell c1 (by simp [Value.ownBlock])
  have d2 := hg1.cell c2 (by simp [Value.ownBlock])
  have d3 := hg1.cell c3 (by simp [Value.ownBlock])
  have d4 := hg1.cell c4 (by simp [Value.ownBlock])
  go_wp2
  go_loopw [5, 7, 39] (fun x _ i wr => ∃ k : Nat, k ≤ 5 ∧ i = .int .i64 k ∧ wr.ownsRow 0 5 1 x (4 + 8 * k) (u8s (headB ([(s.size : Int), d.size, r.size, h, l].take k))) ∧ Grew W0 wr (.slice none 0 0) x) (fun _ _ i _ => 5 - (intOf i).toNat)
  case atStart => exact ⟨0, by omega, rfl, hown1, hg1⟩
  case round =>
    obtain ⟨k, hk, rfl, hown, hg⟩ := hrel
    by_cases hlt : k < 5
    · have hix := index5 s.size d.size r.size h l k hlt
      obtain ⟨x, hx⟩ : ∃ x, x = [(s.size : Int), d.size, r.size, h, l].getD k 0 := ⟨_, rfl⟩
      rw [← hx] at hix
      have HX := hide hx
      have hu := u64_wrapN x
      clear hx
      go_wp2_with (go_at_call 34; refine (laid_any _ _ _ _ _ hown (by omega) (u64N_lt x)).mono ?_; rintro e w' ⟨v', rfl, hown', hg'⟩)
      go_roundw
      case rel =>
        refine ⟨k + 1, by omega, by go_num, ?_, hg.trans hg'⟩
        rw [show 4 + 8 * (k + 1) = 4 + 8 * k + 8 by omega, ← headB_step [(s.size : Int), d.size, r.size, h, l] k hlt, ← HX.out]
        exact hown'
      case measure => simp [intOf]; omega
    · obtain rfl : k = 5 := by omega
      have e0 := hg.cell c0 (by simp [Value.ownBlock])
      have e1 := hg.cell c1 (by simp [Value.ownBlock])
      have e2 := hg.cell c2 (by simp [Value.ownBlock])
      clear d0 d1 d2 d3 d4 c0 c1 c2 c3 c4 hown1 hg1 k1 k2 k3
      go_wp2_with (at_builtin; refine wpl_apps wr rfl (.tmp 47) (.tmp 55) 38 9 5 rfl Tryd.underlying38 Tryd.underlying9 Tryd.info5 u5 _ _ (s ++ d ++ r) rfl rfl hown (by simp; omega) ?_)
      intro v2 w2 hown2 hg2
      have hN : 44 + (s.size + d.size + r.size) ≤ 1000000 := by omega
      have hN' : 0 < 44 + (s.size + d.size + r.size) := by omega
      generalize 44 + (s.size + d.size + r.size) = N at hown2 hN hN'
      obtain ⟨L, hL⟩ : ∃ L, L = headB [(s.size : Int), d.size, r.size, h, l] ++ (s.data.toList ++ (d.data.toList ++ r.data.toList)) := ⟨_, rfl⟩
      rw [← hL] at hown2
      have HL := hide hL
      clear hL hown
      have hslt := sumN_lt L
      go_wp2_with (first
        | (go_at_call 35; refine (sum_own _ _ _ _ hown2 hN').mono ?_; rintro e w' ⟨rfl, rfl⟩)
        | (go_at_call 34; refine (laid_any _ _ _ _ _ hown2 hN hslt).mono ?_; rintro e w' ⟨v', rfl, hown', hg'⟩; have hconv := run_str_own (P := Tryd.prog) (dst := 9) Tryd.underlying38 Tryd.underlying5 Tryd.underlying9 hown'))
      go_ret2
      refine ⟨?_, hbW.trans ((((hg.trans hg2).trans hg').below rfl).mono (by have := HSZ.out; omega))⟩
      rw [HL.out]
      rfl

set_option maxHeartbeats 400000 in
theorem print_no (s d r : ByteArray) (h l : Int) (w : World) (h1 : s.size ≤ 9223372036854775807) (h2 : d.size ≤ 9223372036854775807) (h3 : r.size ≤ 9223372036854775807) (hf : fitI s.size d.size r.size = false) :
    Calls Tryd.prog 10 #[.agg #[.string s, .string d, .string r, .int .i64 h, .int .i64 l]] w fun e w' => e = .returned (.tuple #[.string ⟨#[]⟩, .int .i64 2]) ∧ Below w.heap.size w w' := by
  have k1 : IntKind.u64.wrap (s.size : Int) = (s.size : Int) := by rw [u64_wrap]; omega
  have k2 : IntKind.u64.wrap (d.size : Int) = (d.size : Int) := by rw [u64_wrap]; omega
  have k3 : IntKind.u64.wrap (r.size : Int) = (r.size : Int) := by rw [u64_wrap]; omega
  go_enter Tryd.func10, Tryd.ntmps10
  go_wp2_with (go_at_call 33; refine (fits_any _ _ _ _).mono ?_; rintro e w' ⟨rfl, rfl⟩)
  go_ret2
  exact ⟨rfl, (Below.refl _ _).alloc (Nat.le_refl _) _⟩

end Go.Proofs.YthaldkmjjpepjaaDoor
