/-
  The image's bytes in mode System: row, Byte, SetByte.
-/
import Derived.Test.YthaldkmjjpepjaaDoorSa
namespace Go.Proofs.YthaldkmjjpepjaaDoor
open Go.RowKit

/-- Where the region of an address ends. -/
def endI (S T a : Int) : Int := if a < 16384 then 16384 else if a < 16384 + S then 16384 + S else if a < 16384 + S + T then 16384 + S + T else 16384 + S + T + 64
/-- Whether a row of k bytes lies there. -/
def rowOk (S T a : Int) (k : Nat) : Bool := decide (regI S T a ≠ 0) && decide (a + k ≤ endI S T a)
theorem reg_cases (S T a : Int) (_ : 256 ≤ S ∧ S ≤ 1000 ∧ 64 ≤ T ∧ T ≤ 1000) :
    (regI S T a = 0 ∧ (a < 0 ∨ 16384 + S + T + 64 ≤ a)) ∨ (regI S T a = 1 ∧ 0 ≤ a ∧ a < 16384 ∧ endI S T a = 16384) ∨ (regI S T a = 3 ∧ 16384 ≤ a ∧ a < 16384 + S ∧ endI S T a = 16384 + S) ∨
      (regI S T a = 4 ∧ 16384 + S ≤ a ∧ a < 16384 + S + T ∧ endI S T a = 16384 + S + T) ∨ (regI S T a = 5 ∧ 16384 + S + T ≤ a ∧ a < 16384 + S + T + 64 ∧ endI S T a = 16384 + S + T + 64) := by
  unfold regI endI
  by_cases h0 : a < 0
  · exact .inl ⟨if_pos h0, .inl h0⟩
  · rw [if_neg h0]
    by_cases h1 : a < 16384
    · rw [if_pos h1, if_pos h1]; exact .inr (.inl ⟨rfl, by omega, h1, rfl⟩)
    · rw [if_neg h1, if_neg h1]
      by_cases h2 : a < 16384 + S
      · rw [if_pos h2, if_pos h2]; exact .inr (.inr (.inl ⟨rfl, by omega, h2, rfl⟩))
      · rw [if_neg h2, if_neg h2]
        by_cases h3 : a < 16384 + S + T
        · rw [if_pos h3, if_pos h3]; exact .inr (.inr (.inr (.inl ⟨rfl, by omega, h3, rfl⟩)))
        · rw [if_neg h3, if_neg h3]
          by_cases h4 : a < 16384 + S + T + 64
          · rw [if_pos h4]; exact .inr (.inr (.inr (.inr ⟨rfl, by omega, h4, rfl⟩)))
          · rw [if_neg h4]; exact .inl ⟨rfl, .inr (by omega)⟩
theorem rowOk_lt {S T a : Int} {k n : Nat} (h : 256 ≤ S ∧ S ≤ 1000 ∧ 64 ≤ T ∧ T ≤ 1000) (hn : 16384 + S + T + 64 = (n : Int)) (hk : rowOk S T a k = true) : 0 ≤ a ∧ a + k ≤ n := by
  simp only [rowOk, Bool.and_eq_true, decide_eq_true_eq] at hk
  rcases reg_cases S T a h with c | c | c | c | c <;> omega

set_option maxHeartbeats 2000000 in
theorem row_any (N G n : Nat) (S T a r : Int) (k : Nat) (w : World) (h : Img N G n S T w) (hk : 1 ≤ k ∧ k ≤ 1000000) (hr : r = 1 ∨ r = 2) (ha : -4611686018427387904 ≤ a ∧ a ≤ 4611686018427387904) :
    Calls Tryd.prog 56 #[.pointer (some ⟨N, 0, none⟩), .int .i64 0, .int .i64 a, .int .i64 k, .int .i64 r] w fun e w' =>
      e = .returned (.tuple #[if rowOk S T a k then .slice (some ⟨G, a.toNat, none⟩) k k else .slice none 0 0, .bool (rowOk S T a k)]) ∧ w = w' := by
  have HR := hide (fun w h => region_any N G n S T a w h)
  have HY := hide (fun r w h hr => may_any N G n S T r w h hr)
  have HI := hide h
  obtain ⟨hrow, hb, hn⟩ := h
  have i1 : w.cell? ⟨N, 7, none⟩ = some (.int .i64 16384) := cell_of_row w N 7 _ _ _ hrow
  have i3 : w.cell? ⟨N, 9, none⟩ = some (.int .i64 (16384 + S)) := cell_of_row w N 9 _ _ _ hrow
  have i4 : w.cell? ⟨N, 10, none⟩ = some (.int .i64 (16384 + S + T)) := cell_of_row w N 10 _ _ _ hrow
  have i5 : w.cell? ⟨N, 11, none⟩ = some (.int .i64 (16384 + S + T + 64)) := cell_of_row w N 11 _ _ _ hrow
  have i6 : w.cell? ⟨N, 12, none⟩ = some (.slice (some ⟨G, 0, none⟩) n n) := cell_of_row w N 12 _ _ _ hrow
  have hk0 : ((k : Int) == 0) = false := by simp; omega
  have hk1 : 1 ≤ (k : Int) := by omega
  clear hrow
  have b1 : bits BinOp.and IntKind.i64 3 1 = 1 := by decide +kernel
  have b2 : bits BinOp.and IntKind.i64 3 2 = 2 := by decide +kernel
  rcases hr with rfl | rfl <;> rcases reg_cases S T a hb with ⟨c, _⟩ | ⟨c, c1, c2, c3⟩ | ⟨c, c1, c2, c3⟩ | ⟨c, c1, c2, c3⟩ | ⟨c, c1, c2, c3⟩
  · have hno : rowOk S T a k = false := by simp [rowOk, c]
    rw [hno]
    rw [c] at HR
    clear c hno
    go_enter Tryd.func56, Tryd.ntmps56
    go_wp2_with fail
    refine (HR.out _ HI.out).mono ?_
    rintro e w1 ⟨rfl, rfl⟩
    go_wp2_with fail
    go_ret2
    exact ⟨rfl, rfl⟩
  · by_cases hfit : a + k ≤ 16384
    · have hno : rowOk S T a k = true := by simp only [rowOk, c, c3, Bool.and_eq_true, decide_eq_true_eq]; exact ⟨by decide, hfit⟩
      rw [hno]
      rw [c] at HR
      have hcmp : ¬ (16384 - a < (k : Int)) := by omega
      have hcmp' : decide (16384 - a < (k : Int)) = false := by simp; omega
      have hn' : a + k ≤ (n : Int) := by omega
      have hw : IntKind.i64.wrap (16384 - a) = 16384 - a := i64_wrap _ (by omega) (by omega)
      have hw2 : IntKind.i64.wrap (a + k) = a + k := i64_wrap _ (by omega) (by omega)
      have ht1 := hide (show (a + (k : Int)).toNat - a.toNat = k by omega)
      clear c hno c3 hfit
      go_enter Tryd.func56, Tryd.ntmps56
      go_wp2_with fail
      refine (HR.out _ HI.out).mono ?_
      rintro e w1 ⟨rfl, rfl⟩
      go_wp2_with fail
      refine (HY.out 1 _ HI.out (by omega)).mono ?_
      rintro e w1 ⟨rfl, rfl⟩
      go_wp2_with fail
      go_ret2
      refine ⟨?_, rfl⟩
      show Ending.returned (.tuple #[.slice (some ⟨G, a.toNat, none⟩) ((a + (k : Int)).toNat - a.toNat) ((a + (k : Int)).toNat - a.toNat), .bool true]) = _
      rw [ht1.out]
    · have hno : rowOk S T a k = false := by simp only [rowOk, c, c3, Bool.and_eq_false_iff, decide_eq_false_iff_not]; exact .inr hfit
      rw [hno]
      rw [c] at HR
      have hcmp : 16384 - a < (k : Int) := by omega
      have hw : IntKind.i64.wrap (16384 - a) = 16384 - a := i64_wrap _ (by omega) (by omega)
      clear c hno c3 hfit
      go_enter Tryd.func56, Tryd.ntmps56
      go_wp2_with fail
      refine (HR.out _ HI.out).mono ?_
      rintro e w1 ⟨rfl, rfl⟩
      go_wp2_with fail
      go_ret2
      exact ⟨rfl, rfl⟩
  · by_cases hfit : a + k ≤ 16384 + S
    · have hno : rowOk S T a k = true := by simp only [rowOk, c, c3, Bool.and_eq_true, decide_eq_true_eq]; exact ⟨by decide, hfit⟩
      rw [hno]
      rw [c] at HR
      have hcmp : ¬ (16384 + S - a < (k : Int)) := by omega
      have hcmp' : decide (16384 + S - a < (k : Int)) = false := by simp; omega
      have hn' : a + k ≤ (n : Int) := by omega
      have hw : IntKind.i64.wrap (16384 + S - a) = 16384 + S - a := i64_wrap _ (by omega) (by omega)
      have hw2 : IntKind.i64.wrap (a + k) = a + k := i64_wrap _ (by omega) (by omega)
      have ht1 := hide (show (a + (k : Int)).toNat - a.toNat = k by omega)
      clear c hno c3 hfit
      go_enter Tryd.func56, Tryd.ntmps56
      go_wp2_with fail
      refine (HR.out _ HI.out).mono ?_
      rintro e w1 ⟨rfl, rfl⟩
      go_wp2_with fail
      refine (HY.out 3 _ HI.out (by omega)).mono ?_
      rintro e w1 ⟨rfl, rfl⟩
      go_wp2_with fail
      go_ret2
      refine ⟨?_, rfl⟩
      show Ending.returned (.tuple #[.slice (some ⟨G, a.toNat, none⟩) ((a + (k : Int)).toNat - a.toNat) ((a + (k : Int)).toNat - a.toNat), .bool true]) = _
      rw [ht1.out]
    · have hno : rowOk S T a k = false := by simp only [rowOk, c, c3, Bool.and_eq_false_iff, decide_eq_false_iff_not]; exact .inr hfit
      rw [hno]
      rw [c] at HR
      have hcmp : 16384 + S - a < (k : Int) := by omega
      have hw : IntKind.i64.wrap (16384 + S - a) = 16384 + S - a := i64_wrap _ (by omega) (by omega)
      clear c hno c3 hfit
      go_enter Tryd.func56, Tryd.ntmps56
      go_wp2_with fail
      refine (HR.out _ HI.out).mono ?_
      rintro e w1 ⟨rfl, rfl⟩
      go_wp2_with fail
      go_ret2
      exact ⟨rfl, rfl⟩
  · by_cases hfit : a + k ≤ 16384 + S + T
    · have hno : rowOk S T a k = true := by simp only [rowOk, c, c3, Bool.and_eq_true, decide_eq_true_eq]; exact ⟨by decide, hfit⟩
      rw [hno]
      rw [c] at HR
      have hcmp : ¬ (16384 + S + T - a < (k : Int)) := by omega
      have hcmp' : decide (16384 + S + T - a < (k : Int)) = false := by simp; omega
      have hn' : a + k ≤ (n : Int) := by omega
      have hw : IntKind.i64.wrap (16384 + S + T - a) = 16384 + S + T - a := i64_wrap _ (by omega) (by omega)
      have hw2 : IntKind.i64.wrap (a + k) = a + k := i64_wrap _ (by omega) (by omega)
      have ht1 := hide (show (a + (k : Int)).toNat - a.toNat = k by omega)
      clear c hno c3 hfit
      go_enter Tryd.func56, Tryd.ntmps56
      go_wp2_with fail
      refine (HR.out _ HI.out).mono ?_
      rintro e w1 ⟨rfl, rfl⟩
      go_wp2_with fail
      refine (HY.out 4 _ HI.out (by omega)).mono ?_
      rintro e w1 ⟨rfl, rfl⟩
      go_wp2_with fail
      go_ret2
      refine ⟨?_, rfl⟩
      show Ending.returned (.tuple #[.slice (some ⟨G, a.toNat, none⟩) ((a + (k : Int)).toNat - a.toNat) ((a + (k : Int)).toNat - a.toNat), .bool true]) = _
      rw [ht1.out]
    · have hno : rowOk S T a k = false := by simp only [rowOk, c, c3, Bool.and_eq_false_iff, decide_eq_false_iff_not]; exact .inr hfit
      rw [hno]
      rw [c] at HR
      have hcmp : 16384 + S + T - a < (k : Int) := by omega
      have hw : IntKind.i64.wrap (16384 + S + T - a) = 16384 + S + T - a := i64_wrap _ (by omega) (by omega)
      clear c hno c3 hfit
      go_enter Tryd.func56, Tryd.ntmps56
      go_wp2_with fail
      refine (HR.out _ HI.out).mono ?_
      rintro e w1 ⟨rfl, rfl⟩
      go_wp2_with fail
      go_ret2
      exact ⟨rfl, rfl⟩
  · by_cases hfit : a + k ≤ 16384 + S + T + 64
    · have hno : rowOk S T a k = true := by simp only [rowOk, c, c3, Bool.and_eq_true, decide_eq_true_eq]; exact ⟨by decide, hfit⟩
      rw [hno]
      rw [c] at HR
      have hcmp : ¬ (16384 + S + T + 64 - a < (k : Int)) := by omega
      have hcmp' : decide (16384 + S + T + 64 - a < (k : Int)) = false := by simp; omega
      have hn' : a + k ≤ (n : Int) := by omega
      have hw : IntKind.i64.wrap (16384 + S + T + 64 - a) = 16384 + S + T + 64 - a := i64_wrap _ (by omega) (by omega)
      have hw2 : IntKind.i64.wrap (a + k) = a + k := i64_wrap _ (by omega) (by omega)
      have ht1 := hide (show (a + (k : Int)).toNat - a.toNat = k by omega)
      clear c hno c3 hfit
      go_enter Tryd.func56, Tryd.ntmps56
      go_wp2_with fail
      refine (HR.out _ HI.out).mono ?_
      rintro e w1 ⟨rfl, rfl⟩
      go_wp2_with fail
      refine (HY.out 5 _ HI.out (by omega)).mono ?_
      rintro e w1 ⟨rfl, rfl⟩
      go_wp2_with fail
      go_ret2
      refine ⟨?_, rfl⟩
      show Ending.returned (.tuple #[.slice (some ⟨G, a.toNat, none⟩) ((a + (k : Int)).toNat - a.toNat) ((a + (k : Int)).toNat - a.toNat), .bool true]) = _
      rw [ht1.out]
    · have hno : rowOk S T a k = false := by simp only [rowOk, c, c3, Bool.and_eq_false_iff, decide_eq_false_iff_not]; exact .inr hfit
      rw [hno]
      rw [c] at HR
      have hcmp : 16384 + S + T + 64 - a < (k : Int) := by omega
      have hw : IntKind.i64.wrap (16384 + S + T + 64 - a) = 16384 + S + T + 64 - a := i64_wrap _ (by omega) (by omega)
      clear c hno c3 hfit
      go_enter Tryd.func56, Tryd.ntmps56
      go_wp2_with fail
      refine (HR.out _ HI.out).mono ?_
      rintro e w1 ⟨rfl, rfl⟩
      go_wp2_with fail
      go_ret2
      exact ⟨rfl, rfl⟩
  · have hno : rowOk S T a k = false := by simp [rowOk, c]
    rw [hno]
    rw [c] at HR
    clear c hno
    go_enter Tryd.func56, Tryd.ntmps56
    go_wp2_with fail
    refine (HR.out _ HI.out).mono ?_
    rintro e w1 ⟨rfl, rfl⟩
    go_wp2_with fail
    go_ret2
    exact ⟨rfl, rfl⟩
  · by_cases hfit : a + k ≤ 16384
    · have hno : rowOk S T a k = true := by simp only [rowOk, c, c3, Bool.and_eq_true, decide_eq_true_eq]; exact ⟨by decide, hfit⟩
      rw [hno]
      rw [c] at HR
      have hcmp : ¬ (16384 - a < (k : Int)) := by omega
      have hcmp' : decide (16384 - a < (k : Int)) = false := by simp; omega
      have hn' : a + k ≤ (n : Int) := by omega
      have hw : IntKind.i64.wrap (16384 - a) = 16384 - a := i64_wrap _ (by omega) (by omega)
      have hw2 : IntKind.i64.wrap (a + k) = a + k := i64_wrap _ (by omega) (by omega)
      have ht1 := hide (show (a + (k : Int)).toNat - a.toNat = k by omega)
      clear c hno c3 hfit
      go_enter Tryd.func56, Tryd.ntmps56
      go_wp2_with fail
      refine (HR.out _ HI.out).mono ?_
      rintro e w1 ⟨rfl, rfl⟩
      go_wp2_with fail
      refine (HY.out 1 _ HI.out (by omega)).mono ?_
      rintro e w1 ⟨rfl, rfl⟩
      go_wp2_with fail
      go_ret2
      refine ⟨?_, rfl⟩
      show Ending.returned (.tuple #[.slice (some ⟨G, a.toNat, none⟩) ((a + (k : Int)).toNat - a.toNat) ((a + (k : Int)).toNat - a.toNat), .bool true]) = _
      rw [ht1.out]
    · have hno : rowOk S T a k = false := by simp only [rowOk, c, c3, Bool.and_eq_false_iff, decide_eq_false_iff_not]; exact .inr hfit
      rw [hno]
      rw [c] at HR
      have hcmp : 16384 - a < (k : Int) := by omega
      have hw : IntKind.i64.wrap (16384 - a) = 16384 - a := i64_wrap _ (by omega) (by omega)
      clear c hno c3 hfit
      go_enter Tryd.func56, Tryd.ntmps56
      go_wp2_with fail
      refine (HR.out _ HI.out).mono ?_
      rintro e w1 ⟨rfl, rfl⟩
      go_wp2_with fail
      go_ret2
      exact ⟨rfl, rfl⟩
  · by_cases hfit : a + k ≤ 16384 + S
    · have hno : rowOk S T a k = true := by simp only [rowOk, c, c3, Bool.and_eq_true, decide_eq_true_eq]; exact ⟨by decide, hfit⟩
      rw [hno]
      rw [c] at HR
      have hcmp : ¬ (16384 + S - a < (k : Int)) := by omega
      have hcmp' : decide (16384 + S - a < (k : Int)) = false := by simp; omega
      have hn' : a + k ≤ (n : Int) := by omega
      have hw : IntKind.i64.wrap (16384 + S - a) = 16384 + S - a := i64_wrap _ (by omega) (by omega)
      have hw2 : IntKind.i64.wrap (a + k) = a + k := i64_wrap _ (by omega) (by omega)
      have ht1 := hide (show (a + (k : Int)).toNat - a.toNat = k by omega)
      clear c hno c3 hfit
      go_enter Tryd.func56, Tryd.ntmps56
      go_wp2_with fail
      refine (HR.out _ HI.out).mono ?_
      rintro e w1 ⟨rfl, rfl⟩
      go_wp2_with fail
      refine (HY.out 3 _ HI.out (by omega)).mono ?_
      rintro e w1 ⟨rfl, rfl⟩
      go_wp2_with fail
      go_ret2
      refine ⟨?_, rfl⟩
      show Ending.returned (.tuple #[.slice (some ⟨G, a.toNat, none⟩) ((a + (k : Int)).toNat - a.toNat) ((a + (k : Int)).toNat - a.toNat), .bool true]) = _
      rw [ht1.out]
    · have hno : rowOk S T a k = false := by simp only [rowOk, c, c3, Bool.and_eq_false_iff, decide_eq_false_iff_not]; exact .inr hfit
      rw [hno]
      rw [c] at HR
      have hcmp : 16384 + S - a < (k : Int) := by omega
      have hw : IntKind.i64.wrap (16384 + S - a) = 16384 + S - a := i64_wrap _ (by omega) (by omega)
      clear c hno c3 hfit
      go_enter Tryd.func56, Tryd.ntmps56
      go_wp2_with fail
      refine (HR.out _ HI.out).mono ?_
      rintro e w1 ⟨rfl, rfl⟩
      go_wp2_with fail
      go_ret2
      exact ⟨rfl, rfl⟩
  · by_cases hfit : a + k ≤ 16384 + S + T
    · have hno : rowOk S T a k = true := by simp only [rowOk, c, c3, Bool.and_eq_true, decide_eq_true_eq]; exact ⟨by decide, hfit⟩
      rw [hno]
      rw [c] at HR
      have hcmp : ¬ (16384 + S + T - a < (k : Int)) := by omega
      have hcmp' : decide (16384 + S + T - a < (k : Int)) = false := by simp; omega
      have hn' : a + k ≤ (n : Int) := by omega
      have hw : IntKind.i64.wrap (16384 + S + T - a) = 16384 + S + T - a := i64_wrap _ (by omega) (by omega)
      have hw2 : IntKind.i64.wrap (a + k) = a + k := i64_wrap _ (by omega) (by omega)
      have ht1 := hide (show (a + (k : Int)).toNat - a.toNat = k by omega)
      clear c hno c3 hfit
      go_enter Tryd.func56, Tryd.ntmps56
      go_wp2_with fail
      refine (HR.out _ HI.out).mono ?_
      rintro e w1 ⟨rfl, rfl⟩
      go_wp2_with fail
      refine (HY.out 4 _ HI.out (by omega)).mono ?_
      rintro e w1 ⟨rfl, rfl⟩
      go_wp2_with fail
      go_ret2
      refine ⟨?_, rfl⟩
      show Ending.returned (.tuple #[.slice (some ⟨G, a.toNat, none⟩) ((a + (k : Int)).toNat - a.toNat) ((a + (k : Int)).toNat - a.toNat), .bool true]) = _
      rw [ht1.out]
    · have hno : rowOk S T a k = false := by simp only [rowOk, c, c3, Bool.and_eq_false_iff, decide_eq_false_iff_not]; exact .inr hfit
      rw [hno]
      rw [c] at HR
      have hcmp : 16384 + S + T - a < (k : Int) := by omega
      have hw : IntKind.i64.wrap (16384 + S + T - a) = 16384 + S + T - a := i64_wrap _ (by omega) (by omega)
      clear c hno c3 hfit
      go_enter Tryd.func56, Tryd.ntmps56
      go_wp2_with fail
      refine (HR.out _ HI.out).mono ?_
      rintro e w1 ⟨rfl, rfl⟩
      go_wp2_with fail
      go_ret2
      exact ⟨rfl, rfl⟩
  · by_cases hfit : a + k ≤ 16384 + S + T + 64
    · have hno : rowOk S T a k = true := by simp only [rowOk, c, c3, Bool.and_eq_true, decide_eq_true_eq]; exact ⟨by decide, hfit⟩
      rw [hno]
      rw [c] at HR
      have hcmp : ¬ (16384 + S + T + 64 - a < (k : Int)) := by omega
      have hcmp' : decide (16384 + S + T + 64 - a < (k : Int)) = false := by simp; omega
      have hn' : a + k ≤ (n : Int) := by omega
      have hw : IntKind.i64.wrap (16384 + S + T + 64 - a) = 16384 + S + T + 64 - a := i64_wrap _ (by omega) (by omega)
      have hw2 : IntKind.i64.wrap (a + k) = a + k := i64_wrap _ (by omega) (by omega)
      have ht1 := hide (show (a + (k : Int)).toNat - a.toNat = k by omega)
      clear c hno c3 hfit
      go_enter Tryd.func56, Tryd.ntmps56
      go_wp2_with fail
      refine (HR.out _ HI.out).mono ?_
      rintro e w1 ⟨rfl, rfl⟩
      go_wp2_with fail
      refine (HY.out 5 _ HI.out (by omega)).mono ?_
      rintro e w1 ⟨rfl, rfl⟩
      go_wp2_with fail
      go_ret2
      refine ⟨?_, rfl⟩
      show Ending.returned (.tuple #[.slice (some ⟨G, a.toNat, none⟩) ((a + (k : Int)).toNat - a.toNat) ((a + (k : Int)).toNat - a.toNat), .bool true]) = _
      rw [ht1.out]
    · have hno : rowOk S T a k = false := by simp only [rowOk, c, c3, Bool.and_eq_false_iff, decide_eq_false_iff_not]; exact .inr hfit
      rw [hno]
      rw [c] at HR
      have hcmp : 16384 + S + T + 64 - a < (k : Int) := by omega
      have hw : IntKind.i64.wrap (16384 + S + T + 64 - a) = 16384 + S + T + 64 - a := i64_wrap _ (by omega) (by omega)
      clear c hno c3 hfit
      go_enter Tryd.func56, Tryd.ntmps56
      go_wp2_with fail
      refine (HR.out _ HI.out).mono ?_
      rintro e w1 ⟨rfl, rfl⟩
      go_wp2_with fail
      go_ret2
      exact ⟨rfl, rfl⟩

end Go.Proofs.YthaldkmjjpepjaaDoor
