/-
  What is laid is kept.
-/
import Derived.Test.YthaldkmjjpepjaaDoorSp
namespace Go.Proofs.YthaldkmjjpepjaaDoor
open Go.RowKit

theorem lay3 (bs : List UInt8) (a0 a1 a2 : ByteArray) (h : 16384 + a0.size + a1.size + a2.size = bs.length) :
    layB (layB (layB bs 16384 a0) (16384 + a0.size) a1) (16384 + a0.size + a1.size) a2 = bs.take 16384 ++ (sl a0 ++ (sl a1 ++ sl a2)) := by
  have l0 := sl_length a0
  have l1 := sl_length a1
  have l2 := sl_length a2
  have t0 : (bs.take 16384).length = 16384 := by rw [List.length_take]; omega
  have e1 : (layB bs 16384 a0).take (16384 + a0.size) = bs.take 16384 ++ sl a0 := by
    unfold layB
    rw [List.take_append_of_le_length (by simp; omega), List.take_of_length_le (by simp; omega)]
  have e2 : (layB (layB bs 16384 a0) (16384 + a0.size) a1).take (16384 + a0.size + a1.size) = bs.take 16384 ++ sl a0 ++ sl a1 := by
    rw [layB.eq_1 (layB bs 16384 a0), e1, List.take_append_of_le_length (by simp; omega), List.take_of_length_le (by simp; omega)]
  have n1 : (layB bs 16384 a0).length = bs.length := layB_length _ _ _ (by omega)
  have n2 : (layB (layB bs 16384 a0) (16384 + a0.size) a1).length = bs.length := by rw [layB_length _ _ _ (by omega), n1]
  rw [layB.eq_1 (layB (layB bs 16384 a0) (16384 + a0.size) a1), e2, List.drop_of_length_le (by omega)]
  simp

theorem kept_lay (S T h l : Int) (bs : List UInt8) (a0 a1 a2 : ByteArray) (q0 : (a0.size : Int) = S) (q1 : (a1.size : Int) = T) (q2 : (a2.size : Int) = 64) (hn : 16384 + S + T + 64 = (bs.length : Int)) :
    keptV S T h l (layB (layB (layB bs 16384 a0) (16384 + a0.size) a1) (16384 + a0.size + a1.size) a2) = #[.string a0, .string a1, .string a2, .int .i64 h, .int .i64 l] := by
  rw [lay3 bs a0 a1 a2 (by omega)]
  have l0 := sl_length a0
  have l1 := sl_length a1
  have l2 := sl_length a2
  have t0 : (bs.take 16384).length = 16384 := by rw [List.length_take]; omega
  have p0 : partS (bs.take 16384 ++ (sl a0 ++ (sl a1 ++ sl a2))) 16384 S = a0 := by
    unfold partS
    rw [show (16384 : Int).toNat = 16384 from rfl, show S.toNat = a0.size by omega, List.drop_left' t0, List.take_left' l0, mkS_sl]
  have p1 : partS (bs.take 16384 ++ (sl a0 ++ (sl a1 ++ sl a2))) (16384 + S) T = a1 := by
    unfold partS
    rw [show (16384 + S).toNat = 16384 + a0.size by omega, show T.toNat = a1.size by omega, ← List.drop_drop, List.drop_left' t0, List.drop_left' l0, List.take_left' l1, mkS_sl]
  have p2 : partS (bs.take 16384 ++ (sl a0 ++ (sl a1 ++ sl a2))) (16384 + S + T) 64 = a2 := by
    unfold partS
    rw [show (16384 + S + T).toNat = 16384 + a0.size + a1.size by omega, show (64 : Int).toNat = a2.size by omega, ← List.drop_drop, ← List.drop_drop, List.drop_left' t0, List.drop_left' l0, List.drop_left' l1, List.take_of_length_le (by omega), mkS_sl]
  unfold keptV
  rw [p0, p1, p2]

end Go.Proofs.YthaldkmjjpepjaaDoor
