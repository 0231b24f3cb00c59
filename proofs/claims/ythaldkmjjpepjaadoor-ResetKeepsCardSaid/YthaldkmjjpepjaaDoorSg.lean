/-
  What a list asks: up; whether a text may be a name.
-/
import Derived.Test.YthaldkmjjpepjaaDoorSf
import Derived.Laws.RangeAny
import Derived.Laws.RangeString
import Derived.Lib.OthersKept
import Derived.Laws.BitsAllLaws
namespace Go.Proofs.YthaldkmjjpepjaaDoor
open Go.RowKit

theorem up_bits (x : Nat) (h : x < 9223372036854775808) : bits .andNot .i64 (x : Int) 7 = ((x / 8 * 8 : Nat) : Int) := by
  show IntKind.i64.wrap ((BitVec.ofInt 64 (x : Int) &&& ~~~BitVec.ofInt 64 7).toNat : Int) = _
  rw [BitVec.toNat_and, show (~~~BitVec.ofInt 64 7).toNat = 18446744073709551608 by decide]
  have e : (BitVec.ofInt 64 (x : Int)).toNat = x := by
    rw [BitVec.toNat_ofInt]
    show ((x : Int) % 18446744073709551616).toNat = x
    omega
  rw [nat_hi64_3, e, Nat.mod_eq_of_lt (by omega)]
  exact i64_wrap _ (by omega) (by omega)

theorem up_any (x : Nat) (w : World) (h : x < 4611686018427387904) :
    Calls Tryd.prog 60 #[.int .i64 (x : Int)] w fun e w' => e = .returned (.int .i64 (((x + 7) / 8 * 8 : Nat) : Int)) ∧ w = w' := by
  have hb := up_bits (x + 7) (by omega)
  have he : ((x + 7 : Nat) : Int) = (x : Int) + 7 := by omega
  rw [he] at hb
  generalize (x + 7) / 8 * 8 = y at *
  clear he
  go_enter Tryd.func60, Tryd.ntmps60
  go_wp2
  go_ret
  exact ⟨rfl, rfl⟩

theorem nameRune_any (r : Int) (w : World) : Calls Tryd.prog 72 #[.int .i32 r] w fun e w' => e = .returned (.bool (decide (r ≤ 32))) ∧ w = w' := by
  go_enter Tryd.func72, Tryd.ntmps72
  go_wp2
  go_ret
  exact ⟨rfl, rfl⟩

theorem widthP (s : ByteArray) (pos : Nat) (h : pos < s.size) : 1 ≤ (Utf8.decode s pos).2 := by
  by_cases ha : (s[pos]'h).toNat < 128
  · rw [decode_ascii s pos h ha]
    exact Nat.le_refl _
  · exact (decode_high s pos h (by omega)).2
theorem iter_below (w : World) (s : ByteArray) (pos : Nat) : Below w.heap.size w (w.iter s pos) := (Below.refl _ _).alloc (Nat.le_refl _) _

set_option maxHeartbeats 1000000 in
theorem indexFunc_any (s : ByteArray) (w : World) :
    Calls Tryd.prog 78 #[.string s, .func (.func 72) #[] #[], .bool true] w fun e w' => ∃ r : Int, e = .returned (.int .i64 r) ∧ Below w.heap.size w w' := by
  go_enter Tryd.func78, Tryd.ntmps78
  go_wp2
  go_loopw [] (fun wr => ∃ pos : Nat, wr = w.iter s pos) (fun wr => s.size - wr.iterPos w.heap.size)
  case atStart => exact ⟨0, rfl⟩
  case round =>
    obtain ⟨pos, rfl⟩ := hrel
    by_cases hps : pos < s.size
    · have hnx := fun ty => run_next_any (P := Tryd.prog) w s pos ty hps
      have hwd := widthP s pos hps
      generalize (Utf8.decode s pos).1 = R at *
      generalize (Utf8.decode s pos).2 = K at *
      have HN := hide (nameRune_any (R : Int))
      by_cases hR : (R : Int) ≤ 32
      · go_wp2_with fail
        refine (HN.out _).mono ?_
        rintro e w' ⟨rfl, rfl⟩
        go_wp2_with fail
        go_ret
        exact ⟨_, rfl, iter_below _ _ _⟩
      · go_wp2_with fail
        refine (HN.out _).mono ?_
        rintro e w' ⟨rfl, rfl⟩
        go_wp2_with fail
        go_roundw
        case rel => exact ⟨pos + K, rfl⟩
        case measure => simp; omega
    · have hnx := fun ty => run_next_end (P := Tryd.prog) w s pos ty hps
      go_wp2_with fail
      go_ret
      exact ⟨_, rfl, iter_below _ _ _⟩

theorem indexFn_any (s : ByteArray) (w : World) :
    Calls Tryd.prog 76 #[.string s, .func (.func 72) #[] #[]] w fun e w' => ∃ r : Int, e = .returned (.int .i64 r) ∧ Below w.heap.size w w' := by
  go_enter Tryd.func76, Tryd.ntmps76
  go_wp2_with fail
  refine (indexFunc_any s w).mono ?_
  rintro e w' ⟨r, rfl, hb⟩
  go_wp2_with fail
  go_ret
  exact ⟨r, rfl, hb⟩

theorem containsFunc_any (s : ByteArray) (w : World) :
    Calls Tryd.prog 71 #[.string s, .func (.func 72) #[] #[]] w fun e w' => ∃ r : Bool, e = .returned (.bool r) ∧ Below w.heap.size w w' := by
  go_enter Tryd.func71, Tryd.ntmps71
  go_wp2_with fail
  refine (indexFn_any s w).mono ?_
  rintro e w' ⟨r, rfl, hb⟩
  go_wp2_with fail
  go_ret
  exact ⟨_, rfl, hb⟩

set_option maxHeartbeats 1000000 in
theorem name_any (s : ByteArray) (w : World) :
    Calls Tryd.prog 59 #[.string s] w fun e w' => ∃ r : Bool, e = .returned (.bool r) ∧ (r = true → s.size ≤ 31) ∧ Below w.heap.size w w' := by
  have HC := hide (containsFunc_any s w)
  by_cases h0 : s = ⟨#[]⟩
  · subst h0
    clear HC
    go_enter Tryd.func59, Tryd.ntmps59
    go_wp2_with fail
    go_ret
    exact ⟨false, rfl, by decide, Below.refl _ _⟩
  · by_cases h1 : (s.size : Int) ≤ 31
    · have hz : (s.toList == ([] : List UInt8)) = false := by
        rw [ByteArray.toList_eq]
        cases s with
        | mk d => simp at h0 ⊢; exact h0
      go_enter Tryd.func59, Tryd.ntmps59
      go_wp2_with fail
      refine HC.out.mono ?_
      rintro e w' ⟨r, rfl, hb⟩
      go_wp2_with fail
      go_ret
      exact ⟨_, rfl, fun _ => by omega, hb⟩
    · have hz : (s.toList == ([] : List UInt8)) = false := by
        rw [ByteArray.toList_eq]
        cases s with
        | mk d => simp at h0 ⊢; exact h0
      clear HC
      go_enter Tryd.func59, Tryd.ntmps59
      go_wp2_with fail
      go_ret
      first
        | exact .inl ⟨rfl, Below.refl _ _⟩
        | exact .inl ⟨rfl, by decide, Below.refl _ _⟩
        | exact .inl ⟨rfl, trivial, Below.refl _ _⟩

end Go.Proofs.YthaldkmjjpepjaaDoor
