/-
  Leaf contracts of layer 16 and of its reference.
-/
import Derived.Test.YthaldkmjjpepjaaDoorRows
import Derived.Test.YthaldkmjjpepjaaDoorRp
import Derived.Test.YthaldkmjjpepjaaDoorRk
import Derived.WalkKit
import Derived.WalkSpells
import Derived.WalkLawsBesides
namespace Go.Proofs.YthaldkmjjpepjaaDoor
open Go.RowKit

set_option maxHeartbeats 400000 in
theorem fits_any (a b c : Int) (w : World) :
    Calls Tryd.prog 33 #[.int .u64 a, .int .u64 b, .int .u64 c] w fun e w' => e = .returned (.bool (fitI a b c)) ∧ w = w' := by
  by_cases h1 : a ≤ 65536 <;> by_cases h2 : b ≤ 4096 <;> by_cases h3 : c ≤ 4096 <;>
  · go_enter Tryd.func33, Tryd.ntmps33
    go_wp2
    go_ret
    simp [fitI, h1, h2, h3]

set_option maxHeartbeats 400000 in
theorem pick_any (a n : Int) (w : World) (h : 0 < n) (hn : n ≤ 9223372036854775807) (ha : a ≤ 9223372036854775807) (ha' : -9223372036854775808 ≤ a) :
    Calls Tryd.prog 15 #[.int .i64 a, .int .i64 n] w fun e w' => e = .returned (.int .i64 ((if a < 0 then -(a + 1) else a) % n)) ∧ w = w' := by
  by_cases h1 : a < 0
  · go_enter Tryd.func15, Tryd.ntmps15
    go_wp2
    go_ret
    refine ⟨ret_int ?_, rfl⟩
    rw [← Int.neg_tmod, Int.tmod_eq_emod_of_nonneg (by omega)]
  · go_enter Tryd.func15, Tryd.ntmps15
    go_wp2
    go_ret
    simp

set_option maxHeartbeats 400000 in
theorem sum_any (b off n cap : Nat) (l : List UInt8) (w : World) (hl : l.length = n) (hn : n ≤ 9223372036854775807)
    (hc : ∀ j, j < n → w.cell? ⟨b, off + j, none⟩ = some (.int .u8 ((l.getD j 0).toNat : Int))) :
    Calls Tryd.prog 35 #[.slice (some ⟨b, off, none⟩) n cap] w fun e w' => e = .returned (.int .u64 (sumN l : Nat)) ∧ w = w' := by
  go_enter Tryd.func35, Tryd.ntmps35
  go_wp2
  go_loop [3, 8] (fun t i => ∃ k : Nat, k ≤ n ∧ i = .int .i64 k ∧ t = .int .u64 (sumN (l.take k) : Nat)) (fun _ i => n - (intOf i).toNat)
  case atStart => exact ⟨0, by omega, rfl, rfl⟩
  case round =>
    obtain ⟨k, hk, rfl, rfl⟩ := hrel
    by_cases hlt : k < n
    · have hcell := hc k hlt
      go_wp2
      go_round
      case rel => exact ⟨k + 1, by omega, by go_num, by have := sumN_step (l := l) (k := k) (by omega); rw [← this]⟩
      case measure => simp [intOf]; omega
    · go_wp2
      go_ret
      exact ⟨ret_int (by rw [List.take_of_length_le (by omega)]), rfl⟩

theorem sum_own (v : Value) (n : Nat) (l : List UInt8) (w : World) (h : w.ownsRow 0 5 1 v n (u8s l)) (hn : 0 < n) :
    Calls Tryd.prog 35 #[v] w fun e w' => e = .returned (.int .u64 (sumN l : Nat)) ∧ w = w' := by
  obtain ⟨g, cap, rfl, hl, hm, _, _, hc⟩ := own_head h hn
  exact sum_any g 0 n cap l w hl hm hc

set_option maxHeartbeats 400000 in
theorem number_any (b off n cap : Nat) (l : List UInt8) (w : World) (hl : l.length = 8) (hn : 8 ≤ n) (hn' : n ≤ 9223372036854775807)
    (hc : ∀ j, j < 8 → w.cell? ⟨b, off + j, none⟩ = some (.int .u8 ((l.getD j 0).toNat : Int))) :
    Calls Tryd.prog 38 #[.slice (some ⟨b, off, none⟩) n cap] w fun e w' => e = .returned (.int .u64 (rdN l : Nat)) ∧ w = w' := by
  go_enter Tryd.func38, Tryd.ntmps38
  go_wp2
  go_loop [3, 4] (fun t i => ∃ k : Nat, k ≤ 8 ∧ i = .int .i64 ((k : Int) - 1) ∧ t = .int .u64 (rdN (l.drop k) : Nat)) (fun _ i => (intOf i + 1).toNat)
  case atStart => exact ⟨8, by omega, rfl, by rw [List.drop_of_length_le (by omega)]; rfl⟩
  case round =>
    obtain ⟨k, hk, rfl, rfl⟩ := hrel
    by_cases hlt : 1 ≤ k
    · obtain ⟨k, rfl⟩ : ∃ m, k = m + 1 := ⟨k - 1, by omega⟩
      have hcell := hc k (by omega)
      go_wp2
      go_round
      case rel => exact ⟨k, by omega, rfl, by rw [rdN_step hl (by omega)]⟩
      case measure => simp [intOf]
    · go_wp2
      go_ret
      obtain rfl : k = 0 := by omega
      exact ⟨rfl, rfl⟩

theorem Tryd.info5 : (Tryd.prog.info? 5).map (fun i => (i.zero, i.size, i.bytes)) = some (some (.int .u8 0), 1, 1) := by kernel_rfl

set_option maxHeartbeats 400000 in
theorem laid_any (v : Value) (l : List UInt8) (m n : Nat) (w : World) (hown : w.ownsRow 0 5 1 v m (u8s l)) (hl : m ≤ 1000000) (hn : n < 18446744073709551616) :
    Calls Tryd.prog 34 #[v, .int .u64 n] w fun e w' => ∃ v', e = .returned v' ∧ w'.ownsRow 0 5 1 v' (m + 8) (u8s (l ++ leN 8 n)) ∧ Grew w w' v v' := by
  go_enter Tryd.func34, Tryd.ntmps34
  go_wp2
  go_loopw [0, 1, 5] (fun x u i wr => ∃ k : Nat, k ≤ 8 ∧ i = .int .i64 k ∧ u = .int .u64 (n / 256 ^ k : Nat) ∧ wr.ownsRow 0 5 1 x (m + k) (u8s (l ++ leN k n)) ∧ Grew w wr v x) (fun _ _ i _ => 8 - (intOf i).toNat)
  case atStart => exact ⟨0, by omega, rfl, by simp, by simpa [leN] using hown, Grew.refl _ _⟩
  case round =>
    obtain ⟨k, hk, rfl, rfl, hown, hb⟩ := hrel
    have hdiv : n / 256 ^ k ≤ n := Nat.div_le_self _ _
    generalize hx : n / 256 ^ k = x at *
    have hx' : x < 18446744073709551616 := by omega
    have HX := hide hx
    clear hx hdiv hn
    by_cases hlt : k < 8
    · go_wp2_with (at_builtin; refine wpl_push wr rfl (.tmp 7) (.tmp 10) 38 5 (.int .u8 0) 1 rfl Tryd.underlying38 Tryd.info5 rfl (by decide) _ _ _ _ rfl rfl rfl hown (by omega) ?_)
      intro v1 w1 hown1 hg1
      have R := hb.trans hg1
      clear hg1 hb hown
      go_wp2
      go_roundw
      case rel => 
        refine ⟨k + 1, by omega, by go_num, ?_, ?_, R⟩
        · rw [← HX.out, Nat.pow_succ, ← Nat.div_div_eq_div_mul]; rfl
        · rw [leN_snoc, HX.out, ← List.append_assoc, ← u8s_snoc_mod, ← Nat.add_assoc]
          exact hown1
      case measure => simp [intOf]; omega
    · go_wp2
      go_ret
      obtain rfl : k = 8 := by omega
      exact ⟨_, rfl, hown, hb⟩

set_option maxHeartbeats 400000 in
theorem rnumber_any (n : Nat) (w : World) (hn : n < 18446744073709551616) :
    Calls Tryd.prog 36 #[.int .u64 n] w fun e w' => e = .returned (.string (numS n)) ∧ Below w.heap.size w w' := by
  go_enter Tryd.func36, Tryd.ntmps36
  go_wp2
  go_loopw [0, 3, 4] (fun u x i wr => ∃ k : Nat, k ≤ 8 ∧ i = .int .i64 k ∧ u = .int .u64 (n / 256 ^ k : Nat) ∧ wr.ownsRow 0 5 1 x k (u8s (leN k n)) ∧ Grew w wr (.slice none 0 0) x) (fun _ _ i _ => 8 - (intOf i).toNat)
  case atStart => exact ⟨0, by omega, rfl, by simp, World.ownsRow_nil _ _ _ _, Grew.refl _ _⟩
  case round =>
    obtain ⟨k, hk, rfl, rfl, hown, hb⟩ := hrel
    have hdiv : n / 256 ^ k ≤ n := Nat.div_le_self _ _
    generalize hx : n / 256 ^ k = x at *
    have hx' : x < 18446744073709551616 := by omega
    have HX := hide hx
    clear hx hdiv hn
    by_cases hlt : k < 8
    · go_wp2_with (at_builtin; refine wpl_push wr rfl (.tmp 9) (.tmp 12) 38 5 (.int .u8 0) 1 rfl Tryd.underlying38 Tryd.info5 rfl (by decide) _ _ _ _ rfl rfl rfl hown (by omega) ?_)
      intro v1 w1 hown1 hg1
      have R := hb.trans hg1
      clear hg1 hb hown
      go_wp2
      go_roundw
      case rel =>
        refine ⟨k + 1, by omega, by go_num, ?_, ?_, R⟩
        · rw [← HX.out, Nat.pow_succ, ← Nat.div_div_eq_div_mul]; rfl
        · rw [leN_snoc, HX.out, ← u8s_snoc_mod]
          exact hown1
      case measure => simp [intOf]; omega
    · obtain rfl : k = 8 := by omega
      have hconv := run_str_own (P := Tryd.prog) (dst := 9) Tryd.underlying38 Tryd.underlying5 Tryd.underlying9 hown
      go_wp2
      go_ret
      exact ⟨rfl, hb.below rfl⟩

set_option maxHeartbeats 400000 in
theorem rsum_any (s : ByteArray) (w : World) (hs : s.size ≤ 9223372036854775807) :
    Calls Tryd.prog 37 #[.string s] w fun e w' => e = .returned (.int .u64 (sumN (sl s) : Nat)) ∧ w = w' := by
  go_enter Tryd.func37, Tryd.ntmps37
  go_wp2
  go_loop [3, 4] (fun t i => ∃ k : Nat, k ≤ s.size ∧ i = .int .i64 k ∧ t = .int .u64 (sumN ((sl s).take k) : Nat)) (fun _ i => s.size - (intOf i).toNat)
  case atStart => exact ⟨0, by omega, rfl, rfl⟩
  case round =>
    obtain ⟨k, hk, rfl, rfl⟩ := hrel
    by_cases hlt : k < s.size
    · have HS := hide (sumN_stepS hlt)
      go_wp2
      go_round
      case rel => exact ⟨k + 1, by omega, by go_num, by rw [← HS.out]⟩
      case measure => simp [intOf]; omega
    · go_wp2
      go_ret
      exact ⟨ret_int (by rw [List.take_of_length_le (by rw [sl_length]; omega)]), rfl⟩

end Go.Proofs.YthaldkmjjpepjaaDoor
