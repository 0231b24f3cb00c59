/-
  The reference's Print of layer 16.
-/
import Derived.Test.YthaldkmjjpepjaaDoorRc
import Derived.Deep.RegionHeld3
namespace Go.Proofs.YthaldkmjjpepjaaDoor
open Go.RowKit

/-- Behind a call that made memory alone: what was known of the box is still so. -/
theorem box5_keep {w wx w' : World} {N : Nat} {v0 v1 v2 v3 v4 : Value}
    (h : wx.cell? ⟨N, 0, none⟩ = some v0 ∧ wx.cell? ⟨N, 1, none⟩ = some v1 ∧ wx.cell? ⟨N, 2, none⟩ = some v2 ∧ wx.cell? ⟨N, 3, none⟩ = some v3 ∧ wx.cell? ⟨N, 4, none⟩ = some v4 ∧ Below N w wx ∧ N < wx.heap.size)
    (hb : Below wx.heap.size wx w') :
    w'.cell? ⟨N, 0, none⟩ = some v0 ∧ w'.cell? ⟨N, 1, none⟩ = some v1 ∧ w'.cell? ⟨N, 2, none⟩ = some v2 ∧ w'.cell? ⟨N, 3, none⟩ = some v3 ∧ w'.cell? ⟨N, 4, none⟩ = some v4 ∧ Below N w w' ∧ N < w'.heap.size := by
  obtain ⟨h0, h1, h2, h3, h4, h5, h6⟩ := h
  refine ⟨?_, ?_, ?_, ?_, ?_, h5.trans (hb.mono (by omega)), by have := hb.size; omega⟩ <;> rw [hb.cell (by exact h6)] <;> assumption

set_option maxHeartbeats 1000000 in
theorem rprint_ok (s d r : ByteArray) (h l : Int) (w : World) (hf : fitI s.size d.size r.size = true) :
    Calls Tryd.prog 11 #[.agg #[.string s, .string d, .string r, .int .i64 h, .int .i64 l]] w fun e w' => e = .returned (.tuple #[.string ⟨(printB s d r h l).toArray⟩, .bool true]) ∧ Below w.heap.size w w' := by
  obtain ⟨f1, f2, f3⟩ := fitI_iff.1 hf
  have k1 : IntKind.u64.wrap (s.size : Int) = (s.size : Int) := by rw [u64_wrap]; omega
  have k2 : IntKind.u64.wrap (d.size : Int) = (d.size : Int) := by rw [u64_wrap]; omega
  have k3 : IntKind.u64.wrap (r.size : Int) = (r.size : Int) := by rw [u64_wrap]; omega
  have k4 := u64_wrapN h
  have k5 := u64_wrapN l
  have b1 : s.size < 18446744073709551616 := by omega
  have b2 : d.size < 18446744073709551616 := by omega
  have b3 : r.size < 18446744073709551616 := by omega
  have z1 := numS_size s.size
  have z2 := numS_size d.size
  have z3 := numS_size r.size
  have z4 := numS_size (u64N h)
  have z5 := numS_size (u64N l)
  have q1 : ¬ 9223372036854775807 < 44 + s.size := by omega
  have q2 : ¬ 9223372036854775807 < 44 + s.size + d.size := by omega
  have q3 : ¬ 9223372036854775807 < 44 + s.size + d.size + r.size := by omega
  go_enter Tryd.func11, Tryd.ntmps11
  go_wp2_with fail
  go_region_held3 (fun w' => w'.cell? ⟨w.heap.size, 0, none⟩ = some (.string s) ∧ w'.cell? ⟨w.heap.size, 1, none⟩ = some (.string d) ∧ w'.cell? ⟨w.heap.size, 2, none⟩ = some (.string r) ∧
      w'.cell? ⟨w.heap.size, 3, none⟩ = some (.int .i64 h) ∧ w'.cell? ⟨w.heap.size, 4, none⟩ = some (.int .i64 l) ∧ Below w.heap.size w w' ∧ w.heap.size < w'.heap.size)
    (first
      | assumption
      | (exact box5_keep (by assumption) (by assumption))
      | (refine ⟨by simp, by simp, by simp, by simp, by simp, ((Below.refl _ _).alloc (Nat.le_refl _) _).drew, by simp⟩))
    (first
      | (go_at_call 36; refine (rnumber_any _ _ (by first | assumption | exact u64N_lt _)).mono ?_; rintro e w' ⟨rfl, hb⟩))
  obtain ⟨_, _, _, _, _, hbw, _⟩ := ‹_ ∧ _›
  obtain ⟨T, hT⟩ : ∃ T : ByteArray, T = { data := #[80, 82, 83, 49] } ++ numS s.size ++ numS d.size ++ numS r.size ++ numS (u64N h) ++ numS (u64N l) ++ s ++ d ++ r := ⟨_, rfl⟩
  rw [← hT]
  have hc4 : ({ data := #[80, 82, 83, 49] } : ByteArray).size = 4 := rfl
  have hTs : T.size ≤ 1000000 := by rw [hT]; simp [z1, z2, z3, z4, z5, hc4]; omega
  have HT := hide (bodyT_eq b1 b2 b3 hT)
  clear hT hc4 k1 k2 k3 k4 k5 b1 b2 b3 q1 q2 q3 f1 f2 f3 z1 z2 z3 z4 z5 hf
  have hlt := sumN_lt (sl T)
  have hz := numS_size (sumN (sl T))
  go_wp2_with (first
    | (go_at_call 37; refine (rsum_any _ _ (by omega)).mono ?_; rintro e w' ⟨rfl, rfl⟩)
    | (go_at_call 36; refine (rnumber_any _ _ hlt).mono ?_; rintro e w2 ⟨rfl, hb2⟩))
  go_ret2
  refine ⟨?_, hbw.trans (hb2.mono (by omega))⟩
  rw [show T ++ numS (sumN (sl T)) = ⟨(printB s d r h l).toArray⟩ from sl_inj (by rw [sl_append, sl_numS, HT.out]; exact (sl_mk _).symm)]
  rfl

set_option maxHeartbeats 1000000 in
theorem rprint_no (s d r : ByteArray) (h l : Int) (w : World) (hf : fitI s.size d.size r.size = false) :
    Calls Tryd.prog 11 #[.agg #[.string s, .string d, .string r, .int .i64 h, .int .i64 l]] w fun e w' => e = .returned (.tuple #[.string ⟨#[]⟩, .bool false]) ∧ Below w.heap.size w w' := by
  simp only [fitI, Bool.and_eq_false_iff, decide_eq_false_iff_not] at hf
  by_cases g1 : (s.size : Int) ≤ 65536
  · by_cases g2 : (d.size : Int) ≤ 4096
    · have g3 : 4096 < (r.size : Int) := by rcases hf with h | h | h <;> omega
      clear hf
      go_enter Tryd.func11, Tryd.ntmps11
      go_wp2_with fail
      go_ret2
      exact ⟨rfl, (Below.refl _ _).alloc (Nat.le_refl _) _⟩
    · clear hf
      go_enter Tryd.func11, Tryd.ntmps11
      go_wp2_with fail
      go_ret2
      exact ⟨rfl, (Below.refl _ _).alloc (Nat.le_refl _) _⟩
  · clear hf
    go_enter Tryd.func11, Tryd.ntmps11
    go_wp2_with fail
    go_ret2
    exact ⟨rfl, (Below.refl _ _).alloc (Nat.le_refl _) _⟩

end Go.Proofs.YthaldkmjjpepjaaDoor
