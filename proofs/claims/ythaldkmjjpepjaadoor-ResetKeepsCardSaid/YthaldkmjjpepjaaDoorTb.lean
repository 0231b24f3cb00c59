/-
  A text out of the image; what a head's byte says.
-/
import Derived.Test.YthaldkmjjpepjaaDoorTa
namespace Go.Proofs.YthaldkmjjpepjaaDoor
open Go.RowKit

set_option maxRecDepth 100000 in
set_option maxHeartbeats 4000000 in
theorem text_any (N G n a k : Nat) (S T : Int) (bs : List UInt8) (w : World) (h : Rowed N G n S T bs w) (hk : 1 ≤ k ∧ k ≤ 31) (ha : 16384 ≤ a) (hak : (a : Int) + k ≤ 16384 + S) :
    Calls Tryd.prog 75 #[.pointer (some ⟨N, 0, none⟩), .int .i64 0, .int .i64 (a : Int), .int .i64 (k : Int)] w fun e w' =>
      e = .returned (.tuple #[.string (mkS ((bs.drop a).take k)), .int .i64 0]) ∧ w = w' := by
  have hS := h.1.2.1
  have hn := h.1.2.2
  have hok : rowOk S T (a : Int) k = true := by
    rcases reg_cases S T (a : Int) h.1.2.1 with q | q | q | q | q <;> simp only [rowOk, q, Bool.and_eq_true, decide_eq_true_eq] <;> omega
  have HR := hide (row_any N G n S T (a : Int) 1 k w h.1 (by omega) (by omega) (by omega))
  rw [hok] at HR
  have hconv := run_convert_bytes_arg (P := Tryd.prog) w 38 5 Tryd.underlying38 Tryd.underlying5 G a k k (((bs.drop a).take k).map fun b => (b.toNat : Int))
    (by have := h.2.2.1; simp; omega) (fun i hi => sub_cell h a k (by omega) i hi) 9 Tryd.underlying9
  rw [strOfNums_u8, show (⟨((bs.drop a).take k).toArray⟩ : ByteArray) = mkS ((bs.drop a).take k) from rfl] at hconv
  generalize mkS ((bs.drop a).take k) = s at *
  have hk0 : 1 ≤ (k : Int) := by omega
  have hk1 : ¬ (k : Int) < 0 := by omega
  clear h hok hn
  go_enter Tryd.func75, Tryd.ntmps75
  go_wp2_with fail
  refine HR.out.mono ?_
  rintro e w1 ⟨rfl, rfl⟩
  go_wp2_with fail
  go_ret2
  exact ⟨rfl, rfl⟩

theorem and31_bits (x : Nat) (h : x < 256) : bits .and .i64 (x : Int) 31 = ((x % 32 : Nat) : Int) := by
  show IntKind.i64.wrap ((BitVec.ofInt 64 (x : Int) &&& BitVec.ofInt 64 31).toNat : Int) = _
  rw [BitVec.toNat_and, show (BitVec.ofInt 64 31).toNat = 31 by decide]
  have e : (BitVec.ofInt 64 (x : Int)).toNat = x := by
    rw [BitVec.toNat_ofInt]
    show ((x : Int) % 18446744073709551616).toNat = x
    omega
  rw [e, show (31 : Nat) = 2 ^ 5 - 1 from rfl, Nat.and_two_pow_sub_one_eq_mod]
  exact i64_wrap _ (by omega) (by omega)

/-- A byte's bits as a number. -/
def bitI (c : UInt8) (k : Int) : Int := bits .and .u8 (c.toNat : Int) k
theorem u8_wrap_le (x : Int) : 0 ≤ IntKind.u8.wrap x ∧ IntKind.u8.wrap x ≤ 255 := by
  have : IntKind.u8.wrap x = x % 256 := rfl
  omega
theorem bitI_le (c : UInt8) (k : Int) : 0 ≤ bitI c k ∧ bitI c k ≤ 255 := u8_wrap_le _

/-- How many bytes of a name the byte at i counts. -/
def nlen (bs : List UInt8) (i : Nat) : Nat := (bs.getD (i + 8) 0).toNat % 32
theorem nlen_le (bs : List UInt8) (i : Nat) : nlen bs i ≤ 31 := by unfold nlen; omega
/-- Where the code behind a head begins. -/
def xtN (bs : List UInt8) (i : Nat) : Nat := (i + 9 + nlen bs i + 7) / 8 * 8

/-- Does a head lie there? -/
def hdB (S : Int) (bs : List UInt8) (a : Int) : Bool := decide (a.tmod 8 = 0) && decide (16392 ≤ a) && decide (a ≤ 16384 + S - 16) && decide (nlen bs a.toNat ≠ 0) && decide ((xtN bs a.toNat : Int) ≤ 16384 + S)

/-- A word of the list. -/
structure WordV where
  name : ByteArray
  head : Int
  xt : Int
  imm : Bool
  hid : Bool
  inl : Bool
abbrev WordV.cells (x : WordV) : Array Value := #[.string x.name, .int .i64 x.head, .int .i64 x.xt, .bool x.imm, .bool x.hid, .bool x.inl]
def wordAt (bs : List UInt8) (i : Nat) : WordV :=
  ⟨mkS ((bs.drop (i + 9)).take (nlen bs i)), (i : Int), (xtN bs i : Int), bitI (bs.getD (i + 8) 0) 64 != 0, bitI (bs.getD (i + 8) 0) 32 != 0, bitI (bs.getD (i + 8) 0) 128 != 0⟩
def noWord : WordV := ⟨⟨#[]⟩, 0, 0, false, false, false⟩

/-- A return of a struct that lies in a block, and of two plain values. -/
theorem post_cell_tmp2 {P : Program} {fn : Func} {p u u2 : Tmp} {ty : TypeId} {R : Ending → World → Prop} {a : Act} {w : World} {g : Nat} {t : TypeId} {cs : Array Value} {fr : Nat × Nat} {d : TypeDesc} {v v2 : Value}
    (h : fn.results = #[.cell p ty, .tmp u, .tmp u2]) (hd : a.defers = []) (hp : a.tmps.getD p undef = .pointer (some ⟨g, 0, none⟩)) (hv : a.tmps.getD u undef = v) (hv2 : a.tmps.getD u2 undef = v2) (hg : w.heap[g]? = some (.cells cs t fr))
    (hu : P.underlying ty = some d) (hdd : (match d with | .struct _ | .array _ _ => true | _ => false) = true) (hi : (P.info? ty).map (·.size) = some cs.size)
    (hR : R (.returned (.tuple #[.agg cs, v, v2])) w) : bodyPost P fn R .ret a w := by
  refine ⟨hd, _, ?_, hR⟩
  have hp' : a.tmps[p]?.getD undef = .pointer (some ⟨g, 0, none⟩) := by simpa using hp
  have hv' : a.tmps[u]?.getD undef = v := by simpa using hv
  have hv2' : a.tmps[u2]?.getD undef = v2 := by simpa using hv2
  simp [results, h, hp', hv', hv2', asAddr, run_loadVar_row w g t ty cs fr d hg hu hdd hi]

abbrev boxNo : Obj := .cells #[.string ⟨#[]⟩, .int .i64 0, .int .i64 0, .bool false, .bool false, .bool false] 72

set_option maxRecDepth 100000 in
set_option maxHeartbeats 4000000 in
theorem head_no (N D G n : Nat) (S T h l a : Int) (bs : List UInt8) (w : World) (hd : Dic N D G n S T h l bs w) (hno : hdB S bs a = false) :
    Calls Tryd.prog 68 #[.pointer (some ⟨D, 0, none⟩), .int .i64 a] w fun e w' =>
      e = .returned (.tuple #[.agg noWord.cells, .int .i64 0, .bool false]) ∧ Below w.heap.size w w' := by
  have hS := hd.1.1.2.1
  have hn := hd.1.1.2.2
  obtain ⟨c0, c1, c2, c3, c4⟩ := hd.cells
  have hDz : D < w.heap.size := (Array.getElem?_eq_some_iff.1 hd.2.1).1
  have HD := hide hd
  have HNO := hide hno
  clear hd hno
  by_cases g0 : a.tmod 8 = 0
  · have g0' : (a.tmod 8 != 0) = false := by simpa using g0
    by_cases g1 : a < 16392
    · clear g0
      go_enter Tryd.func68, Tryd.ntmps68
      go_wp2_with fail
      exact post_cell_tmp2 (g := w.heap.size) rfl rfl rfl rfl rfl (heap_alloc_new w boxNo) Tryd.underlying72 rfl (by kernel_rfl) ⟨rfl, (Below.refl _ _).alloc (Nat.le_refl _) _⟩
    · by_cases g2 : 16384 + S - 16 < a
      · clear g0
        have g0'' : (a % 8 != 0) = false := by rw [Int.tmod_eq_emod_of_nonneg (by omega)] at g0'; exact g0'
        have e16 : IntKind.i64.wrap (16384 + S - 16) = 16384 + S - 16 := i64_wrap _ (by omega) (by omega)
        go_enter Tryd.func68, Tryd.ntmps68
        go_wp2_with fail
        exact post_cell_tmp2 (g := w.heap.size) rfl rfl rfl rfl rfl (heap_alloc_new w boxNo) Tryd.underlying72 rfl (by kernel_rfl) ⟨rfl, (Below.refl _ _).alloc (Nat.le_refl _) _⟩
      · obtain ⟨i, rfl⟩ : ∃ i : Nat, a = (i : Int) := ⟨a.toNat, by omega⟩
        have hi8 : i % 8 = 0 := by rw [Int.tmod_eq_emod_of_nonneg (by omega)] at g0; omega
        have g0'' : ((i : Int) % 8 != 0) = false := by simp; omega
        have HC := hide (fun w h => cell_any N G n i S T bs w h hi8 (by omega) (by omega))
        have hok : rowOk S T ((i : Int) + 8) 1 = true := by
          rcases reg_cases S T ((i : Int) + 8) hS with q | q | q | q | q <;> simp only [rowOk, q, Bool.and_eq_true, decide_eq_true_eq] <;> omega
        have HB := hide (fun w h => byte_any N G n S T ((i : Int) + 8) bs w h (by omega))
        rw [hok, show ((i : Int) + 8).toNat = i + 8 by omega] at HB
        simp only [if_true] at HB
        have hl31 := nlen_le bs i
        have hb31 := and31_bits (bs.getD (i + 8) 0).toNat (by have := (bs.getD (i + 8) 0).toNat_lt; omega)
        rw [show (bs.getD (i + 8) 0).toNat % 32 = nlen bs i from rfl] at hb31
        have hb0 : 0 ≤ ((bs.getD (i + 8) 0).toNat : Int) := by omega
        have hb255 : ((bs.getD (i + 8) 0).toNat : Int) ≤ 255 := by have := (bs.getD (i + 8) 0).toNat_lt; omega
        have hcase : nlen bs i = 0 ∨ (nlen bs i ≠ 0 ∧ 16384 + S < (xtN bs i : Int)) := by
          have h1 := HNO.out
          simp only [hdB, Bool.and_eq_false_iff, decide_eq_false_iff_not] at h1
          rw [show ((i : Nat) : Int).toNat = i from rfl] at h1
          omega
        have HX := hide (show xtN bs i = (i + 9 + nlen bs i + 7) / 8 * 8 from rfl)
        generalize (bs.getD (i + 8) 0).toNat = c at *
        generalize xtN bs i = x at *
        generalize nlen bs i = k at *
        generalize cellV bs i = cv at *
        clear hok HNO g0
        have HD1 := hide (HD.out.below ((Below.refl _ w).alloc (Nat.le_refl _) boxNo))
        have HO1 := hide (show One w w.heap.size w.heap.size boxNo (w.alloc boxNo) from ⟨heap_alloc_new w _, (Below.refl _ w).alloc (Nat.le_refl _) _, by simp⟩)
        go_enter Tryd.func68, Tryd.ntmps68
        go_wp2_with fail
        refine (HC.out _ HD1.out.1).mono ?_
        rintro e w1 ⟨rfl, hb1⟩
        have HD2 := hide (HD1.out.below hb1)
        have HO2 := hide (HO1.out.keep hb1)
        clear hb1 HD1 HO1 c0 c1 c2 c3 c4
        obtain ⟨c0, c1, c2, c3, c4⟩ := HD2.out.cells
        go_wp2_with fail
        refine (HB.out _ HD2.out.1).mono ?_
        rintro e w2 ⟨rfl, rfl⟩
        have HU := hide (fun w => up_any (i + 9 + k) w (by omega))
        rw [show ((i + 9 + k : Nat) : Int) = (i : Int) + 9 + (k : Int) by omega, ← HX.out] at HU
        have e9 : IntKind.i64.wrap ((i : Int) + 9) = (i : Int) + 9 := i64_wrap _ (by omega) (by omega)
        have e9k : IntKind.i64.wrap ((i : Int) + 9 + (k : Int)) = (i : Int) + 9 + (k : Int) := i64_wrap _ (by omega) (by omega)
        rcases hcase with hk | ⟨hk, hx⟩
        · have k0 : ((k : Int) == 0) = true := by simpa using hk
          clear hk
          go_upto_region 6 with fail
          go_quiet (fail)
          have HO3 := hide (HO2.out.keep (drewN_below w1 nq))
          clear HD2 HO2 c0 c1 c2 c3 c4 HU HC HB
          generalize w1.drewN nq = w2 at *
          have hr3 := HO3.out.1
          go_wp2_with (with_reducible refine wpl_stRow w2 rfl 72 (.tmp 4) (.tmp 74) rfl w.heap.size 72 _ _ rfl rfl hr3 (by kernel_rfl) (by simp) (by simp [Value.oneCell']) ?_)
          intro w6 hr6 hg6 hs6
          have HG := hide hg6
          have HR := hide hr6
          clear hr3 hr6 hg6
          go_wp2_with fail
          refine post_cell_tmp2 (g := w.heap.size) rfl rfl rfl rfl rfl HR.out Tryd.underlying72 rfl (by kernel_rfl) ⟨rfl, ?_⟩
          exact HO3.out.2.1.grown HG.out HO3.out.2.2 (by simp)
        · have k0 : ((k : Int) == 0) = false := by simpa using hk
          have hgt : decide ((x : Int) > 16384 + S) = true := by simpa using hx
          go_upto_region 6 with fail
          go_quiet ((go_at_call 60; exact Calls.quiet_of_same (quiet_sw (HU.out _))))
          have HO3 := hide (HO2.out.keep (drewN_below w1 nq))
          clear HD2 HO2 c0 c1 c2 c3 c4 HU HC HB
          generalize w1.drewN nq = w2 at *
          have hr3 := HO3.out.1
          go_wp2_with (with_reducible refine wpl_stRow w2 rfl 72 (.tmp 4) (.tmp 74) rfl w.heap.size 72 _ _ rfl rfl hr3 (by kernel_rfl) (by simp) (by simp [Value.oneCell']) ?_)
          intro w6 hr6 hg6 hs6
          have HG := hide hg6
          have HR := hide hr6
          clear hr3 hr6 hg6
          go_wp2_with fail
          refine post_cell_tmp2 (g := w.heap.size) rfl rfl rfl rfl rfl HR.out Tryd.underlying72 rfl (by kernel_rfl) ⟨rfl, ?_⟩
          exact HO3.out.2.1.grown HG.out HO3.out.2.2 (by simp)
  · have g0' : (a.tmod 8 != 0) = true := by simpa using g0
    clear g0
    go_enter Tryd.func68, Tryd.ntmps68
    go_wp2_with fail
    exact post_cell_tmp2 (g := w.heap.size) rfl rfl rfl rfl rfl (heap_alloc_new w boxNo) Tryd.underlying72 rfl (by kernel_rfl) ⟨rfl, (Below.refl _ _).alloc (Nat.le_refl _) _⟩

end Go.Proofs.YthaldkmjjpepjaaDoor
