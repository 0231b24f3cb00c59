/-
  Leaf contracts of layer 16 (2): read, first, of, Same.
-/
import Derived.Test.YthaldkmjjpepjaaDoorRa
import Derived.Deep.QuietTactic
import Derived.BigQuiet
namespace Go.Proofs.YthaldkmjjpepjaaDoor
open Go.RowKit

/-- A result in a world in which nothing but draws was done. -/
def Gives (v : Value) (w : World) (e : Ending) (w' : World) : Prop := ∃ n, e = .returned v ∧ w.drewN n = w'

theorem gives_int {k : IntKind} {a b : Int} {w : World} {n : Nat} (h : a = b) : Gives (.int k a) w (.returned (.int k b)) (w.drewN n) := ⟨n, by rw [h], rfl⟩

def optI : Option Nat → Int
  | none => -1
  | some k => k

set_option maxHeartbeats 400000 in
theorem rread_any (s : ByteArray) (at_ : Nat) (l : List UInt8) (w : World) (hs : s.size ≤ 9223372036854775807) (ha : at_ + 8 ≤ s.size) (hl : l = ((sl s).drop at_).take 8) :
    Calls Tryd.prog 39 #[.string s, .int .i64 at_] w fun e w' => e = .returned (.int .u64 (rdN l : Nat)) ∧ w = w' := by
  have HL := hide hl
  have hlen : l.length = 8 := by rw [hl]; simp [sl_length]; omega
  have HLEN := hide hlen
  clear hl hlen
  go_enter Tryd.func39, Tryd.ntmps39
  go_wp2
  go_loop [5, 6] (fun t i => ∃ k : Nat, k ≤ 8 ∧ i = .int .i64 ((k : Int) - 1) ∧ t = .int .u64 (rdN (l.drop k) : Nat)) (fun _ i => (intOf i + 1).toNat)
  case atStart => exact ⟨8, by omega, rfl, by rw [List.drop_of_length_le (by rw [HLEN.out]; omega)]; rfl⟩
  case round =>
    obtain ⟨k, hk, rfl, rfl⟩ := hrel
    by_cases hlt : 1 ≤ k
    · obtain ⟨k, rfl⟩ : ∃ m, k = m + 1 := ⟨k - 1, by omega⟩
      have hstep := rdN_step HLEN.out (show k < 8 by omega)
      have hat : (l[k]?.getD 0).toNat = (s[at_ + k]'(by omega)).toNat := by
        rw [HL.out, sl_get]
        simp [List.getElem?_drop, show k < 8 by omega, sl_length, show at_ + k < s.size by omega]
      have H := hide (hat ▸ hstep)
      clear hstep hat
      have hin : at_ + k < s.size := by omega
      go_wp2
      go_round
      case rel => exact ⟨k, by omega, rfl, by rw [← H.out]⟩
      case measure => simp [intOf]
    · go_wp2
      go_ret
      obtain rfl : k = 0 := by omega
      exact ⟨rfl, rfl⟩

set_option maxHeartbeats 400000 in
theorem rfirst_any (s t : ByteArray) (w : World) (hs : s.size ≤ 9223372036854775807) (ht : t.size ≤ 9223372036854775807) :
    Calls Tryd.prog 40 #[.string s, .string t] w (Gives (.int .i64 (optI (firstN (sl s) (sl t)))) w) := by
  go_enter Tryd.func40, Tryd.ntmps40
  go_wp2
  go_loopw [5] (fun i wr => ∃ k nd : Nat, k ≤ s.size ∧ k ≤ t.size ∧ i = .int .i64 k ∧ Hid ((sl s).take k = (sl t).take k) ∧ wr = w.drewN nd) (fun i _ => s.size - (intOf i).toNat)
  case atStart => exact ⟨0, 0, by omega, by omega, rfl, rfl, rfl⟩
  case round =>
    obtain ⟨k, nd, hk, hk', rfl, htk, rfl⟩ := hrel
    by_cases h1 : k < s.size
    · by_cases h2 : k < t.size
      · by_cases he : s[k] = t[k]
        · have he' : ((s[k].toNat : Int) != (t[k].toNat : Int)) = false := by simp [he]
          have HE := hide he
          clear he
          go_wp2
          go_quiet (fail)
          go_wp2
          go_roundw
          case rel => exact ⟨k + 1, _, by omega, by omega, by go_num, take_step (by rw [sl_length]; exact h1) (by rw [sl_length]; exact h2) htk.out HE.out, rfl⟩
          case measure => simp [intOf]; omega
        · have he' : ((s[k].toNat : Int) != (t[k].toNat : Int)) = true := by
            simp only [bne_iff_ne, ne_eq]; intro h; exact he (UInt8.toNat_inj.1 (by omega))
          have HE := hide he
          clear he
          go_wp2
          go_quiet (fail)
          go_wp2
          go_ret
          refine ⟨nd + nq, ?_, by rw [World.drewN_drewN]⟩
          rw [firstN_part (by rw [sl_length]; exact h1) (by rw [sl_length]; exact h2) htk.out HE.out]
          rfl
      · obtain rfl : k = t.size := by omega
        have HF := hide (firstN_end (by rw [sl_length]; omega) (by rw [sl_length]; omega) htk.out (.inr (sl_length t).symm))
        go_wp2
        go_ret
        exact gives_int (by rw [HF.out, sl_length, sl_length, if_neg (by omega)]; simp only [optI]; omega)
    · obtain rfl : k = s.size := by omega
      have HF := hide (firstN_end (by rw [sl_length]; omega) (by rw [sl_length]; omega) htk.out (.inl (sl_length s).symm))
      by_cases h2 : s.size < t.size
      · go_wp2
        go_ret
        exact gives_int (by rw [HF.out, sl_length, sl_length, if_neg (by omega)]; simp only [optI]; omega)
      · obtain h2 : s.size = t.size := by omega
        have H2 := hide h2
        go_wp2
        go_ret
        exact gives_int (by rw [HF.out, sl_length, sl_length, if_pos H2.out]; rfl)

end Go.Proofs.YthaldkmjjpepjaaDoor
