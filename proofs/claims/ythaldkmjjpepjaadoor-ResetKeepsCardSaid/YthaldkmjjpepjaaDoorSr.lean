/-
  filled: a text of just so many bytes; begun's row as bytes.
-/
import Derived.Test.YthaldkmjjpepjaaDoorSq
namespace Go.Proofs.YthaldkmjjpepjaaDoor
open Go.RowKit

theorem made_bytes (n : Nat) : madeCells #[.int .u8 0] n = bytesA (List.replicate n 0) := by
  apply Array.ext
  · rw [size_madeCells, bytesA_size, List.length_replicate]
  · intro i h1 h2
    have : i < n := by rw [size_madeCells] at h1; exact h1
    simp [madeCells, bytesA, u8s, Nat.mod_one]

/-- 'copy(dst, s)', s a string at least as long as dst. -/
theorem run_copy_trunc {P : Program} (w : World) (dT sT ty elem : TypeId) (g dLen dCap : Nat) (s : ByteArray) (cur : Array Value) (t : TypeId)
    (hu : P.underlying dT = some (.slice elem)) (hs : (P.info? elem).map (·.size) = some 1) (hg : w.heap[g]? = some (.cells cur t (0, 0))) (hle : dLen ≤ s.size) (hfit : dLen = cur.size) :
    (Builtin.copy_ #[dT, sT] ty #[.slice (some ⟨g, 0, none⟩) dLen dCap, .string s]).run P w = .ok (goInt dLen) (w.setRow g (Lib.byteCells (s.data.toList.take dLen)).toArray) := by
  have hlen : (Lib.byteCells (s.data.toList.take dLen)).length = dLen := by
    have : s.data.toList.length = s.size := Array.length_toList
    rw [Lib.byteCells_length, List.length_take]; omega
  have hst := run_storeCells_at P g 0 t (Lib.byteCells (s.data.toList.take dLen)) 0 cur w hg (by rw [hlen]; omega) (Lib.byteCells_one _)
  have hmin : Nat.min s.size dLen = dLen := Nat.min_eq_right hle
  have htk : List.take dLen (List.map (fun b : UInt8 => Value.int IntKind.u8 (b.toNat : Int)) s.data.toList) = Lib.byteCells (s.data.toList.take dLen) := by rw [← List.map_take]; rfl
  rw [hlen] at hst
  simp only [Nat.add_zero, Nat.zero_add, List.take_zero, List.nil_append] at hst
  rw [List.drop_of_length_le (by rw [Array.length_toList]; omega), List.append_nil] at hst
  cases hq : P.info? elem with
  | none => simp [hq] at hs
  | some i =>
    simp [Builtin.copy_, run_underlying hu, Builtin.lenOf, Builtin.firstCells, sizeOf, typeInfo, hq, hmin]
    rw [htk, hst]
    simp [Result.andThen]

set_option maxRecDepth 100000 in
set_option maxHeartbeats 2000000 in
theorem filled_any (s : ByteArray) (m : Nat) (w : World) (hm : m ≤ 100000) (hm0 : 0 < m) :
    Calls Tryd.prog 25 #[.string s, .int .i64 (m : Int)] w fun e w' => ∃ t : ByteArray, t.size = m ∧ e = .returned (.string t) ∧ Below w.heap.size w w' := by
  have hmk : ∀ w : World, (Instr.makeSlice 38 (.int .i64 (m : Int)) (.int .i64 (m : Int))).run Tryd.prog w = .ok (.slice (some ⟨w.heap.size, 0, none⟩) m m) (w.alloc (.cells (madeCells #[.int .u8 0] m) 5)) := by
    intro w
    obtain ⟨i0, hi, hzz⟩ := Option.map_eq_some_iff.1 Tryd.info5
    simp only [Prod.mk.injEq] at hzz
    obtain ⟨hz0, hz1, hz2⟩ := hzz
    have := run_makeSlice (P := Tryd.prog) w 38 5 i0 (.int .u8 0) Tryd.underlying38 hi hz0 .i64 .i64 (m : Int) (m : Int) (by omega) (by omega) (by rw [hz1]; omega) (by rw [hz2]; omega) (by omega)
    rw [Int.toNat_natCast, hz1, Nat.mul_one] at this
    exact this
  rw [made_bytes] at hmk
  have hnew := heap_alloc_new w (.cells (bytesA (List.replicate m 0)) 5)
  obtain ⟨L, hL, hcp⟩ : ∃ L : List UInt8, L.length = m ∧ ∀ ty, ∃ k, (Builtin.copy_ #[38, 9] ty #[.slice (some ⟨w.heap.size, 0, none⟩) m m, .string s]).run Tryd.prog (w.alloc (.cells (bytesA (List.replicate m 0)) 5)) =
      .ok (goInt k) ((w.alloc (.cells (bytesA (List.replicate m 0)) 5)).setRow w.heap.size (bytesA L)) := by
    by_cases hle : s.size ≤ m
    · refine ⟨layB (List.replicate m 0) 0 s, by rw [layB_length _ _ _ (by simpa using hle)]; simp, fun ty => ⟨s.size, ?_⟩⟩
      have := Lib.run_copy_row_string (P := Tryd.prog) _ 38 9 ty 5 w.heap.size 0 m m s _ 5 Tryd.underlying38 (by kernel_rfl) hnew hle (by rw [bytesA_size]; simpa using hle)
      rw [show Lib.byteCells s.data.toList = (sl s).map (fun b => Value.int .u8 (b.toNat : Int)) from rfl, bytesA_lay] at this
      exact this
    · refine ⟨(sl s).take m, by rw [List.length_take, sl_length]; omega, fun ty => ⟨m, ?_⟩⟩
      exact run_copy_trunc (P := Tryd.prog) _ 38 9 ty 5 w.heap.size m m s _ 5 Tryd.underlying38 (by kernel_rfl) hnew (by omega) (by rw [bytesA_size]; simp)
  obtain ⟨k, hcp⟩ := hcp 3
  have HNEW := hide hnew
  have HL := hide hL
  clear hnew hL
  have hrow := hide (setRow_heap _ _ _ (bytesA L) _ _ HNEW.out)
  have hb := hide (below_setRow ((Below.refl w.heap.size w).alloc (Nat.le_refl _) (.cells (bytesA (List.replicate m 0)) 5)) (Nat.le_refl _) (bytesA L))
  go_enter Tryd.func25, Tryd.ntmps25
  go_upto_region 3 with fail
  have hz : ((w.alloc (.cells (bytesA (List.replicate m 0)) 5)).setRow w.heap.size (bytesA L)).heap.size = w.heap.size + 1 := by simp [World.setRow]
  generalize (w.alloc (.cells (bytesA (List.replicate m 0)) 5)).setRow w.heap.size (bytesA L) = w2 at *
  have hconv := run_convert_bytes_arg (P := Tryd.prog) w2 38 5 Tryd.underlying38 Tryd.underlying5 w.heap.size 0 m m (L.map fun b => (b.toNat : Int))
    (by have := HL.out; simpa using this) (fun i hi => by
      have hl := HL.out
      rw [Nat.zero_add]
      refine (cell_of_row _ _ i _ _ _ hrow.out).trans ?_
      rw [bytesA_get, List.getD_eq_getElem?_getD, List.getElem?_map, List.getElem?_eq_getElem (by omega)]
      rfl) 9 Tryd.underlying9
  rw [strOfNums_u8, show (⟨L.toArray⟩ : ByteArray) = mkS L from rfl] at hconv
  clear hcp hmk hz
  go_wp2_with fail
  go_ret
  exact ⟨mkS L, by rw [← sl_length, sl_mkS]; exact HL.out, rfl, hb.out⟩

end Go.Proofs.YthaldkmjjpepjaaDoor
