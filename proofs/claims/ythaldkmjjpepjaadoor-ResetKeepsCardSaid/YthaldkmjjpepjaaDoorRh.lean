/-
  The reference's Differ of layer 16; of, Same.
-/
import Derived.Test.YthaldkmjjpepjaaDoorRg
namespace Go.Proofs.YthaldkmjjpepjaaDoor
open Go.RowKit

theorem gives_quiet {P : Program} {f : FuncId} {args : Array Value} {w : World} {v : Value} (h : Calls P f args w (Gives v w)) :
    Calls P f args w fun e w' => e = .returned v ∧ ∃ m, w' = w.drewN m := h.mono fun _ _ ⟨n, he, hw⟩ => ⟨he, n, hw.symm⟩

set_option maxRecDepth 100000 in
set_option maxHeartbeats 4000000 in
theorem rdiffer_any (a0 a1 a2 b0 b1 b2 : ByteArray) (h l h' l' : Int) (w : World)
    (ha : ∀ s ∈ [a0, a1, a2], s.size ≤ 9223372036854775807) (hb : ∀ s ∈ [b0, b1, b2], s.size ≤ 9223372036854775807) :
    Calls Tryd.prog 17 #[.agg #[.string a0, .string a1, .string a2, .int .i64 h, .int .i64 l], .agg #[.string b0, .string b1, .string b2, .int .i64 h', .int .i64 l']] w fun e w' =>
      e = .returned (.tuple #[.int .i64 (diffV [a0, a1, a2] [b0, b1, b2] 0).1, .int .i64 (diffV [a0, a1, a2] [b0, b1, b2] 0).2]) ∧ Below w.heap.size w w' := by
  have HA := hide ha
  have HB := hide hb
  clear ha hb
  go_enter Tryd.func17, Tryd.ntmps17
  go_wp2_with fail
  obtain ⟨W, hW⟩ : ∃ W, W = (((w.alloc (.cells #[.string a0, .string a1, .string a2, .int .i64 h, .int .i64 l] 30)).alloc (.cells #[.string b0, .string b1, .string b2, .int .i64 h', .int .i64 l'] 30)).alloc (.cells #[.string a0, .string a1, .string a2] 9)).alloc (.cells #[.string b0, .string b1, .string b2] 9) := ⟨_, rfl⟩
  have hbw : Below w.heap.size w W := by
    rw [hW]
    exact ((((Below.refl _ _).alloc (Nat.le_refl _) _).alloc (by simp) _).alloc (by simp; omega) _).alloc (by simp; omega) _
  have hp : W.heap[w.heap.size + 1 + 1]? = some (.cells (([a0, a1, a2] : List ByteArray).map Value.string).toArray 9 (0, 0)) := by
    rw [hW]
    exact two_rows_first ((w.alloc (.cells #[.string a0, .string a1, .string a2, .int .i64 h, .int .i64 l] 30)).alloc (.cells #[.string b0, .string b1, .string b2, .int .i64 h', .int .i64 l'] 30)) (.cells #[.string a0, .string a1, .string a2] 9) (.cells #[.string b0, .string b1, .string b2] 9) _ (by simp)
  have hq : W.heap[w.heap.size + 1 + 1 + 1]? = some (.cells (([b0, b1, b2] : List ByteArray).map Value.string).toArray 9 (0, 0)) := by
    rw [hW]
    exact two_rows_last (((w.alloc (.cells #[.string a0, .string a1, .string a2, .int .i64 h, .int .i64 l] 30)).alloc (.cells #[.string b0, .string b1, .string b2, .int .i64 h', .int .i64 l'] 30)).alloc (.cells #[.string a0, .string a1, .string a2] 9)) (.cells #[.string b0, .string b1, .string b2] 9) _ (by simp)
  rw [← hW]
  clear hW
  go_loopw [8, 9] (fun i _ wr => ∃ k : Nat, k ≤ 3 ∧ i = .int .i64 k ∧ Hid (wr.heap = W.heap) ∧ Below w.heap.size w wr ∧ Hid (diffV [a0, a1, a2] [b0, b1, b2] 0 = diffV ([a0, a1, a2].drop k) ([b0, b1, b2].drop k) k)) (fun i _ _ => 3 - (intOf i).toNat)
  case atStart => exact ⟨0, by omega, rfl, rfl, hbw, rfl⟩
  case round =>
    obtain ⟨k, hk, rfl, hwr, hbr, hd⟩ := hrel
    by_cases hlt : k < 3
    · obtain ⟨s, hs⟩ : ∃ s, [a0, a1, a2][k]? = some s := ⟨_, List.getElem?_eq_getElem (by simpa using hlt)⟩
      obtain ⟨t, ht⟩ : ∃ t, [b0, b1, b2][k]? = some t := ⟨_, List.getElem?_eq_getElem (by simpa using hlt)⟩
      have cs := rows3_cell (w := wr) (by rw [hwr.out]; exact hp) hs
      have ct := rows3_cell (w := wr) (by rw [hwr.out]; exact hq) ht
      have zs := HA.out s (List.mem_of_getElem? hs)
      have zt := HB.out t (List.mem_of_getElem? ht)
      have HST := hide (And.intro hs ht)
      clear hs ht hp hq
      have hk0 : (0 : Int) ≤ (k : Int) := by omega
      have hk3 : (k : Int) < 3 := by omega
      obtain ⟨r, hr⟩ : ∃ r, r = firstN (sl s) (sl t) := ⟨_, rfl⟩
      have HF : Hid (∀ w, Calls Tryd.prog 40 #[.string s, .string t] w (Gives (.int .i64 (optI r)) w)) := fun w => by
        rw [hr]; exact rfirst_any s t w zs zt
      have HRR := hide hr
      clear hr
      cases r with
      | none =>
        go_wp2_with fail
        go_quiet ((go_at_call 40; exact Calls.quiet_of (gives_quiet (HF.out _))))
        simp only [optI]
        go_wp2_with fail
        go_roundw
        case rel => exact ⟨k + 1, by omega, by go_num, hwr.out, ⟨hbr.os, hbr.tape, hbr.output, hbr.size, hbr.block⟩, hd.out.trans (diffV_same HST.out.1 HST.out.2 HRR.out.symm)⟩
        case measure => simp [intOf]; omega
      | some j =>
        have HP := hide (hd.out.trans (diffV_part HST.out.1 HST.out.2 HRR.out.symm))
        go_wp2_with fail
        go_quiet ((go_at_call 40; exact Calls.quiet_of (gives_quiet (HF.out _))))
        simp only [optI]
        go_wp2_with fail
        go_ret2
        refine ⟨?_, hbr.os, hbr.tape, hbr.output, hbr.size, hbr.block⟩
        rw [HP.out]
        rfl
    · obtain rfl : k = 3 := by omega
      have HD := hide (show diffV [a0, a1, a2] [b0, b1, b2] 0 = (0, 0) from hd.out.trans rfl)
      clear hp hq
      go_wp2_with fail
      go_ret2
      refine ⟨?_, hbr.os, hbr.tape, hbr.output, hbr.size, hbr.block⟩
      rw [HD.out]
      rfl

set_option maxHeartbeats 1000000 in
theorem of_any (a0 a1 a2 : ByteArray) (h l : Int) (w : World) :
    Calls Tryd.prog 12 #[.agg #[.string a0, .string a1, .string a2, .int .i64 h, .int .i64 l]] w fun e w' =>
      e = .returned (.agg #[.string a0, .string a1, .string a2, .int .i64 h, .int .i64 l]) ∧ Below w.heap.size w w' := by
  go_enter Tryd.func12, Tryd.ntmps12
  go_wp2_with fail
  exact post_cell (g := w.heap.size + 1) rfl rfl rfl (by rw [show w.heap.size + 1 = (w.alloc (.cells #[.string a0, .string a1, .string a2, .int .i64 h, .int .i64 l] 23)).heap.size by simp]; exact heap_alloc_new _ _)
    Tryd.underlying30 rfl (by kernel_rfl) ⟨rfl, ((Below.refl _ _).alloc (Nat.le_refl _) _).alloc (by simp) _⟩

/-- Two states are one. -/
def sameB (a0 a1 a2 b0 b1 b2 : ByteArray) (h l h' l' : Int) : Bool := decide (a0 = b0 ∧ a1 = b1 ∧ a2 = b2 ∧ h = h' ∧ l = l')

theorem toList_inj {a b : ByteArray} : a.toList = b.toList ↔ a = b := by
  rw [ByteArray.toList_eq, ByteArray.toList_eq]
  exact ⟨fun h => sl_inj h, fun h => by rw [h]⟩

theorem equalIn_state (a0 a1 a2 b0 b1 b2 : ByteArray) (h l h' l' : Int) (w : World) :
    (Op.equalIn 10000 23 (.agg #[.string a0, .string a1, .string a2, .int .i64 h, .int .i64 l]) (.agg #[.string b0, .string b1, .string b2, .int .i64 h', .int .i64 l'])).run Tryd.prog w =
      .ok (sameB a0 a1 a2 b0 b1 b2 h l h' l') w := by
  have hm := Tryd.underlying23
  by_cases h0 : a0 = b0 <;> by_cases h1 : a1 = b1 <;> by_cases h2 : a2 = b2 <;> by_cases h3 : h = h' <;> by_cases h4 : l = l' <;> simp [sameB, h0, h1, h2, h3, h4, go_sem, toList_inj]

set_option maxHeartbeats 1000000 in
theorem same_any (a0 a1 a2 b0 b1 b2 : ByteArray) (h l h' l' : Int) (w : World) :
    Calls Tryd.prog 18 #[.agg #[.string a0, .string a1, .string a2, .int .i64 h, .int .i64 l], .agg #[.string b0, .string b1, .string b2, .int .i64 h', .int .i64 l']] w fun e w' =>
      e = .returned (.bool (sameB a0 a1 a2 b0 b1 b2 h l h' l')) ∧ Below w.heap.size w w' := by
  have heq := equalIn_state a0 a1 a2 b0 b1 b2 h l h' l'
  go_enter Tryd.func18, Tryd.ntmps18
  go_wp2_with fail
  go_ret
  exact ⟨rfl, ((Below.refl _ _).alloc (Nat.le_refl _) _).alloc (by simp) _⟩

end Go.Proofs.YthaldkmjjpepjaaDoor
