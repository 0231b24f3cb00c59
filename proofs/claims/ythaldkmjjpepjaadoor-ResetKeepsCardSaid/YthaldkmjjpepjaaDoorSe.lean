/-
  SetCell in mode System.
-/
import Derived.Test.YthaldkmjjpepjaaDoorSd
namespace Go.Proofs.YthaldkmjjpepjaaDoor
open Go.RowKit

theorem grownBy_of_below {w w' : World} (h : Below w.heap.size w w') (g : Option Nat) : w.grownBy w' g := ⟨h.os, h.tape, h.output, h.size, fun k hk _ => h.block k hk⟩
theorem grownBy_id (w : World) (g : Option Nat) : w.grownBy w g := ⟨rfl, rfl, rfl, Nat.le_refl _, fun _ _ _ => rfl⟩
theorem grownBy_setRow (w : World) (g : Nat) (cs : Array Value) : w.grownBy (w.setRow g cs) (some g) := ⟨rfl, rfl, rfl, by simp [World.setRow], fun k _ hk => setRow_other w g k cs (fun e => hk (by rw [e]))⟩
theorem bytesA_splice (bs l : List UInt8) (o : Nat) (hl : l.length = 8) :
    ((bytesA bs).toList.take o ++ (u8s l ++ (bytesA bs).toList.drop (o + (u8s l).length))).toArray = bytesA (bs.take o ++ l ++ bs.drop (o + 8)) := by
  simp [bytesA, u8s, hl, List.map_take, List.map_drop]

set_option maxRecDepth 100000 in
set_option maxHeartbeats 2000000 in
theorem setCell_any (N G n : Nat) (S T a v : Int) (bs : List UInt8) (w : World) (h : Rowed N G n S T bs w) (ha : -4611686018427387904 ≤ a ∧ a ≤ 4611686018427387904) :
    Calls Tryd.prog 67 #[.pointer (some ⟨N, 0, none⟩), .int .i64 0, .int .i64 a, .int .i64 v] w fun e w' =>
      ∃ (f : Int) (bs' : List UInt8), e = .returned (.int .i64 f) ∧ Rowed N G n S T bs' w' ∧ w.grownBy w' (some G) ∧ (∀ i, i < a.toNat → bs'[i]? = bs[i]?) ∧ (f = 0 ∨ f = 5 ∨ f = 6) ∧ (f = 0 → rowOk S T a 8 = true) := by
  have HR := hide (row_any N G n S T a 2 8 w h.1 (by omega) (by omega) ha)
  have HC := hide (fun w => cellBytes_any v w)
  have HI := hide h
  by_cases hal : bits BinOp.and .i64 a 7 = 0
  · have hg : (bits BinOp.and .i64 a 7 != 0) = false := by simp [hal]
    by_cases hk : rowOk S T a 8 = true
    · have HK := hide hk
      rw [hk] at HR
      have hlt := rowOk_lt h.1.2.1 h.1.2.2 hk
      clear h hk hal
      go_enter Tryd.func67, Tryd.ntmps67
      go_wp2_with fail
      refine HR.out.mono ?_
      rintro e w1 ⟨rfl, rfl⟩
      go_wp2_with fail
      refine (HC.out _).mono ?_
      rintro e w2 ⟨l, hl, rfl, hb2⟩
      obtain ⟨b0, b1, b2, b3, b4, b5, b6, b7, rfl⟩ := list8 hl
      have HB2 := hide hb2
      clear hb2 hl
      rw [show bytesA [b0, b1, b2, b3, b4, b5, b6, b7] = #[.int .u8 (b0.toNat : Int), .int .u8 (b1.toNat : Int), .int .u8 (b2.toNat : Int), .int .u8 (b3.toNat : Int), .int .u8 (b4.toNat : Int), .int .u8 (b5.toNat : Int), .int .u8 (b6.toNat : Int), .int .u8 (b7.toNat : Int)] from rfl]
      have hg2 : w2.heap[G]? = some (.cells (bytesA bs) 5 (0, 0)) := (HB2.out.block G (Array.getElem?_eq_some_iff.1 HI.out.2.1).1).trans HI.out.2.1
      have hg3 : (w2.alloc (.cells #[.int .u8 (b0.toNat : Int), .int .u8 (b1.toNat : Int), .int .u8 (b2.toNat : Int), .int .u8 (b3.toNat : Int), .int .u8 (b4.toNat : Int), .int .u8 (b5.toNat : Int), .int .u8 (b6.toNat : Int), .int .u8 (b7.toNat : Int)] 135)).heap[G]? = _ := (heap_alloc_old w2 (.cells #[.int .u8 (b0.toNat : Int), .int .u8 (b1.toNat : Int), .int .u8 (b2.toNat : Int), .int .u8 (b3.toNat : Int), .int .u8 (b4.toNat : Int), .int .u8 (b5.toNat : Int), .int .u8 (b6.toNat : Int), .int .u8 (b7.toNat : Int)] 135) (Array.getElem?_eq_some_iff.1 hg2).1).trans hg2
      have hnew := heap_alloc_new w2 (.cells #[.int .u8 (b0.toNat : Int), .int .u8 (b1.toNat : Int), .int .u8 (b2.toNat : Int), .int .u8 (b3.toNat : Int), .int .u8 (b4.toNat : Int), .int .u8 (b5.toNat : Int), .int .u8 (b6.toNat : Int), .int .u8 (b7.toNat : Int)] 135)
      have hbn := hide (show bs.length = n from HI.out.2.2.1)
      have HG3 := hide hg3
      have HNEW := hide hnew
      clear hg2 hg3 hnew
      have hcp := run_copy_row (P := Tryd.prog) (w2.alloc (.cells #[.int .u8 (b0.toNat : Int), .int .u8 (b1.toNat : Int), .int .u8 (b2.toNat : Int), .int .u8 (b3.toNat : Int), .int .u8 (b4.toNat : Int), .int .u8 (b5.toNat : Int), .int .u8 (b6.toNat : Int), .int .u8 (b7.toNat : Int)] 135)) 38 38 3 5 G a.toNat 8 8 ⟨w2.heap.size, 0, none⟩ 8 8 (bytesA bs) 5 (u8s [b0, b1, b2, b3, b4, b5, b6, b7])
        Tryd.underlying38 (by kernel_rfl) HG3.out (by rfl) (fun j u hj => by
          rw [Addr.add_lit, Nat.zero_add]
          exact (cell_of_row _ _ j _ _ _ HNEW.out).trans (by simpa [u8s] using hj)) (by rw [bytesA_size, hbn.out]; simp [u8s]; omega) (by simp [u8s, Value.oneCell'])
      rw [List.append_assoc, bytesA_splice _ _ _ rfl] at hcp
      obtain ⟨R, hR⟩ : ∃ R, bs.take a.toNat ++ [b0, b1, b2, b3, b4, b5, b6, b7] ++ bs.drop (a.toNat + 8) = R := ⟨_, rfl⟩
      rw [hR] at hcp
      have HRR := hide hR
      clear hR
      go_wp2_with fail
      go_ret
      refine ⟨0, R, rfl, ⟨⟨?_, HI.out.1.2⟩, ?_, ?_, HI.out.2.2.2⟩, ?_, ?_, by omega, fun _ => HK.out⟩
      · exact (setRow_other _ _ _ _ (by have := HI.out.2.2.2; omega)).trans ((heap_alloc_old _ _ (Nat.lt_of_lt_of_le (Array.getElem?_eq_some_iff.1 HI.out.1.1).1 HB2.out.size)).trans ((HB2.out.block N (Array.getElem?_eq_some_iff.1 HI.out.1.1).1).trans HI.out.1.1))
      · exact setRow_heap _ _ _ _ _ _ HG3.out
      · rw [← HRR.out]; have := hbn.out; simp; omega
      · exact World.grownBy.trans (World.grownBy.trans (grownBy_of_below HB2.out _) (World.grownBy_alloc _ _ _)) (grownBy_setRow _ _ _)
      · intro i hi
        have := hbn.out
        rw [← HRR.out, List.append_assoc, List.getElem?_append_left (by simp; omega), List.getElem?_take_of_lt hi]
    · have hk : rowOk S T a 8 = false := by simpa using hk
      rw [hk] at HR
      clear h hk hal
      go_enter Tryd.func67, Tryd.ntmps67
      go_wp2_with fail
      refine HR.out.mono ?_
      rintro e w1 ⟨rfl, rfl⟩
      go_wp2_with fail
      go_ret
      exact ⟨5, bs, rfl, HI.out, grownBy_id _ _, fun _ _ => rfl, by omega, fun h => by omega⟩
  · have hg : (bits BinOp.and .i64 a 7 != 0) = true := by simpa using hal
    clear h hal
    go_enter Tryd.func67, Tryd.ntmps67
    go_wp2_with fail
    go_ret
    exact ⟨6, bs, rfl, HI.out, grownBy_id _ _, fun _ _ => rfl, by omega, fun h => by omega⟩

end Go.Proofs.YthaldkmjjpepjaaDoor
