/-
  Put: a region's bytes laid anew.
-/
import Derived.Test.YthaldkmjjpepjaaDoorSn
import Derived.Lib.BufferWrite
namespace Go.Proofs.YthaldkmjjpepjaaDoor
open Go.RowKit

/-- The bytes with a text laid at F. -/
def layB (bs : List UInt8) (F : Nat) (s : ByteArray) : List UInt8 := bs.take F ++ sl s ++ bs.drop (F + s.size)
theorem layB_length (bs : List UInt8) (F : Nat) (s : ByteArray) (h : F + s.size ≤ bs.length) : (layB bs F s).length = bs.length := by
  simp [layB, sl_length]; omega

theorem bytesA_lay (bs : List UInt8) (F : Nat) (s : ByteArray) :
    ((bytesA bs).toList.take F ++ (sl s).map (fun b => Value.int .u8 (b.toNat : Int)) ++ (bytesA bs).toList.drop (F + s.size)).toArray = bytesA (layB bs F s) := by
  simp [bytesA, u8s, layB, List.map_take, List.map_drop]

set_option maxRecDepth 100000 in
set_option maxHeartbeats 2000000 in
theorem put_any (N G n F : Nat) (S T r : Int) (bs : List UInt8) (s : ByteArray) (w : World) (h : Rowed N G n S T bs w) (hr : r = 3 ∨ r = 4 ∨ r = 5)
    (h1 : w.cell? ⟨N, 5 + r.toNat, none⟩ = some (.int .i64 F)) (h2 : w.cell? ⟨N, 6 + r.toNat, none⟩ = some (.int .i64 ((F + s.size : Nat) : Int))) (hFL : F + s.size ≤ n) (hL : 0 < s.size) :
    Calls Tryd.prog 47 #[.pointer (some ⟨N, 0, none⟩), .int .i64 r, .string s] w fun e w' =>
      e = .returned (.int .i64 0) ∧ Rowed N G n S T (layB bs F s) w' ∧ w.grownBy w' (some G) := by
  have HP := hide (fun w h h1 h2 => part_any N G n F s.size S T r w h hr h1 h2 hFL hL)
  have HR := hide h
  have H1 := hide h1
  have H2 := hide h2
  have hlt := h.1.2
  have hNlt := (Array.getElem?_eq_some_iff.1 h.1.1).1
  clear h h1 h2
  rcases hr with rfl | rfl | rfl
  · go_enter Tryd.func47, Tryd.ntmps47
    go_wp2_with fail
    refine (HP.out _ HR.out.1 H1.out H2.out).mono ?_
    rintro e w1 ⟨rfl, hb1⟩
    have HB1 := hide hb1
    have HR1 := hide (HR.out.keep hb1 (Array.getElem?_eq_some_iff.1 HR.out.2.1).1)
    have H11 := hide ((hb1.cell (p := ⟨N, 8, none⟩) (by exact hNlt)).trans H1.out)
    have H21 := hide ((hb1.cell (p := ⟨N, 9, none⟩) (by exact hNlt)).trans H2.out)
    clear hb1
    go_wp2_with fail
    refine (HP.out _ HR1.out.1 H11.out H21.out).mono ?_
    rintro e w2 ⟨rfl, hb2⟩
    have HB2 := hide (HB1.out.trans (hb2.mono HB1.out.size))
    have HR2 := hide (HR1.out.keep hb2 (Array.getElem?_eq_some_iff.1 HR1.out.2.1).1)
    clear hb2
    have hbl := hide HR2.out.2.2.1
    have hcp := Lib.run_copy_row_string (P := Tryd.prog) w2 38 9 3 5 G F s.size s.size s (bytesA bs) 5 Tryd.underlying38 (by kernel_rfl) HR2.out.2.1 (Nat.le_refl _) (by rw [bytesA_size, hbl.out]; exact hFL)
    rw [show Lib.byteCells s.data.toList = (sl s).map (fun b => Value.int .u8 (b.toNat : Int)) from rfl, bytesA_lay] at hcp
    obtain ⟨R, hR⟩ : ∃ R, layB bs F s = R := ⟨_, rfl⟩
    have hRl : R.length = n := by rw [← hR, layB_length _ _ _ (by rw [hbl.out]; exact hFL), hbl.out]
    rw [hR] at hcp
    have HRR := hide hR
    have HRL := hide hRl
    clear hR hRl
    go_wp2_with fail
    go_ret
    refine ⟨rfl, ?_, World.grownBy.trans (grownBy_of_below HB2.out _) (grownBy_setRow _ _ _)⟩
    rw [HRR.out]
    exact ⟨⟨(setRow_other _ _ _ _ (by have := HR2.out.2.2.2; omega)).trans HR2.out.1.1, HR2.out.1.2⟩, setRow_heap _ _ _ _ _ _ HR2.out.2.1, HRL.out, HR2.out.2.2.2⟩
  · go_enter Tryd.func47, Tryd.ntmps47
    go_wp2_with fail
    refine (HP.out _ HR.out.1 H1.out H2.out).mono ?_
    rintro e w1 ⟨rfl, hb1⟩
    have HB1 := hide hb1
    have HR1 := hide (HR.out.keep hb1 (Array.getElem?_eq_some_iff.1 HR.out.2.1).1)
    have H11 := hide ((hb1.cell (p := ⟨N, 9, none⟩) (by exact hNlt)).trans H1.out)
    have H21 := hide ((hb1.cell (p := ⟨N, 10, none⟩) (by exact hNlt)).trans H2.out)
    clear hb1
    go_wp2_with fail
    refine (HP.out _ HR1.out.1 H11.out H21.out).mono ?_
    rintro e w2 ⟨rfl, hb2⟩
    have HB2 := hide (HB1.out.trans (hb2.mono HB1.out.size))
    have HR2 := hide (HR1.out.keep hb2 (Array.getElem?_eq_some_iff.1 HR1.out.2.1).1)
    clear hb2
    have hbl := hide HR2.out.2.2.1
    have hcp := Lib.run_copy_row_string (P := Tryd.prog) w2 38 9 3 5 G F s.size s.size s (bytesA bs) 5 Tryd.underlying38 (by kernel_rfl) HR2.out.2.1 (Nat.le_refl _) (by rw [bytesA_size, hbl.out]; exact hFL)
    rw [show Lib.byteCells s.data.toList = (sl s).map (fun b => Value.int .u8 (b.toNat : Int)) from rfl, bytesA_lay] at hcp
    obtain ⟨R, hR⟩ : ∃ R, layB bs F s = R := ⟨_, rfl⟩
    have hRl : R.length = n := by rw [← hR, layB_length _ _ _ (by rw [hbl.out]; exact hFL), hbl.out]
    rw [hR] at hcp
    have HRR := hide hR
    have HRL := hide hRl
    clear hR hRl
    go_wp2_with fail
    go_ret
    refine ⟨rfl, ?_, World.grownBy.trans (grownBy_of_below HB2.out _) (grownBy_setRow _ _ _)⟩
    rw [HRR.out]
    exact ⟨⟨(setRow_other _ _ _ _ (by have := HR2.out.2.2.2; omega)).trans HR2.out.1.1, HR2.out.1.2⟩, setRow_heap _ _ _ _ _ _ HR2.out.2.1, HRL.out, HR2.out.2.2.2⟩
  · go_enter Tryd.func47, Tryd.ntmps47
    go_wp2_with fail
    refine (HP.out _ HR.out.1 H1.out H2.out).mono ?_
    rintro e w1 ⟨rfl, hb1⟩
    have HB1 := hide hb1
    have HR1 := hide (HR.out.keep hb1 (Array.getElem?_eq_some_iff.1 HR.out.2.1).1)
    have H11 := hide ((hb1.cell (p := ⟨N, 10, none⟩) (by exact hNlt)).trans H1.out)
    have H21 := hide ((hb1.cell (p := ⟨N, 11, none⟩) (by exact hNlt)).trans H2.out)
    clear hb1
    go_wp2_with fail
    refine (HP.out _ HR1.out.1 H11.out H21.out).mono ?_
    rintro e w2 ⟨rfl, hb2⟩
    have HB2 := hide (HB1.out.trans (hb2.mono HB1.out.size))
    have HR2 := hide (HR1.out.keep hb2 (Array.getElem?_eq_some_iff.1 HR1.out.2.1).1)
    clear hb2
    have hbl := hide HR2.out.2.2.1
    have hcp := Lib.run_copy_row_string (P := Tryd.prog) w2 38 9 3 5 G F s.size s.size s (bytesA bs) 5 Tryd.underlying38 (by kernel_rfl) HR2.out.2.1 (Nat.le_refl _) (by rw [bytesA_size, hbl.out]; exact hFL)
    rw [show Lib.byteCells s.data.toList = (sl s).map (fun b => Value.int .u8 (b.toNat : Int)) from rfl, bytesA_lay] at hcp
    obtain ⟨R, hR⟩ : ∃ R, layB bs F s = R := ⟨_, rfl⟩
    have hRl : R.length = n := by rw [← hR, layB_length _ _ _ (by rw [hbl.out]; exact hFL), hbl.out]
    rw [hR] at hcp
    have HRR := hide hR
    have HRL := hide hRl
    clear hR hRl
    go_wp2_with fail
    go_ret
    refine ⟨rfl, ?_, World.grownBy.trans (grownBy_of_below HB2.out _) (grownBy_setRow _ _ _)⟩
    rw [HRR.out]
    exact ⟨⟨(setRow_other _ _ _ _ (by have := HR2.out.2.2.2; omega)).trans HR2.out.1.1, HR2.out.1.2⟩, setRow_heap _ _ _ _ _ _ HR2.out.2.1, HRL.out, HR2.out.2.2.2⟩

end Go.Proofs.YthaldkmjjpepjaaDoor
