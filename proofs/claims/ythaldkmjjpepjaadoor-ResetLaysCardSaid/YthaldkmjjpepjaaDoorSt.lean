/-
  ResetLays: its walk.
-/
import Derived.Test.YthaldkmjjpepjaaDoorSs
import Derived.Test.YthaldkmjjpepjaaDoorRx
import Derived.Deep.RegionHeld3
namespace Go.Proofs.YthaldkmjjpepjaaDoor
open Go.RowKit

/-- On the way: a list, and all below the image as it was. -/
def LX (N D G n : Nat) (S T : Int) (w3 w : World) : Prop := ∃ h l bs, Dic N D G n S T h l bs w ∧ Below N w3 w
theorem LX.of {N D G n : Nat} {S T h l : Int} {bs : List UInt8} {w3 w w' : World} (hb : Below N w3 w) (hN : N ≤ w.heap.size) (hd : Dic N D G n S T h l bs w') (hc : Chg G D w w') : LX N D G n S T w3 w' :=
  ⟨h, l, bs, hd, hb.trans ⟨hc.os, hc.tape, hc.output, hc.size, fun k hk => hc.block k (by omega) (by have := hd.1.2.2.2; omega) (by have := hd.1.2.2.2; have := hd.2.2.1; omega)⟩⟩

/-- Behind the loop: the list; old memory; the box of the state (at B); the box of the layout (at C). -/
def TS (N D G n : Nat) (S T hh ll : Int) (bs : List UInt8) (w0 : World) (B C : Nat) (h l : Int) (t0 t1 t2 : ByteArray) (w : World) : Prop :=
  Dic N D G n S T hh ll bs w ∧ Below B w0 w ∧ w.heap[B]? = some (.cells #[.string t0, .string t1, .string t2, .int .i64 h, .int .i64 l] 23 (0, 0)) ∧
    w.heap[C]? = some (.cells #[.int .i64 16384, .int .i64 0, .int .i64 S, .int .i64 T, .int .i64 64] 49 (0, 0)) ∧ B < C ∧ C < N
theorem TS.below {N D G n B C : Nat} {S T hh ll h l : Int} {bs : List UInt8} {t0 t1 t2 : ByteArray} {w0 w w' : World} (x : TS N D G n S T hh ll bs w0 B C h l t0 t1 t2 w) (hb : Below w.heap.size w w') : TS N D G n S T hh ll bs w0 B C h l t0 t1 t2 w' :=
  ⟨x.1.below hb, x.2.1.trans (hb.mono (Nat.le_of_lt (Array.getElem?_eq_some_iff.1 x.2.2.1).1)), (hb.block _ (Array.getElem?_eq_some_iff.1 x.2.2.1).1).trans x.2.2.1, (hb.block _ (Array.getElem?_eq_some_iff.1 x.2.2.2.1).1).trans x.2.2.2.1, x.2.2.2.2⟩
theorem TS.chg {N D G n B C : Nat} {S T hh ll hh' ll' h l : Int} {bs bs' : List UInt8} {t0 t1 t2 : ByteArray} {w0 w w' : World} (x : TS N D G n S T hh ll bs w0 B C h l t0 t1 t2 w) (hd : Dic N D G n S T hh' ll' bs' w') (hc : Chg G D w w') : TS N D G n S T hh' ll' bs' w0 B C h l t0 t1 t2 w' := by
  obtain ⟨x1, x2, x3, x4, x5, x6⟩ := x
  have hNG := x1.1.2.2.2
  have hGD := x1.2.2.1
  have hB := (Array.getElem?_eq_some_iff.1 x3).1
  exact ⟨hd, x2.trans ⟨hc.os, hc.tape, hc.output, hc.size, fun k hk => hc.block k (by omega) (by omega) (by omega)⟩, (hc.block _ hB (by omega) (by omega)).trans x3, (hc.block _ (Array.getElem?_eq_some_iff.1 x4).1 (by omega) (by omega)).trans x4, x5, x6⟩
theorem TS.set {N D G n B C : Nat} {S T hh ll h l : Int} {bs : List UInt8} {t0 t1 t2 : ByteArray} {w0 w : World} (x : TS N D G n S T hh ll bs w0 B C h l t0 t1 t2 w) (i : Nat) (t : ByteArray) (u0 u1 u2 : ByteArray)
    (hu : (#[.string t0, .string t1, .string t2, .int .i64 h, .int .i64 l] : Array Value).setIfInBounds i (.string t) = #[.string u0, .string u1, .string u2, .int .i64 h, .int .i64 l]) : TS N D G n S T hh ll bs w0 B C h l u0 u1 u2 (w.setCell ⟨B, i, none⟩ (.string t)) := by
  obtain ⟨x1, x2, x3, x4, x5, x6⟩ := x
  have hNG := x1.1.2.2.2
  have hGD := x1.2.2.1
  have ho : ∀ k, k ≠ B → (w.setCell ⟨B, i, none⟩ (.string t)).heap[k]? = w.heap[k]? := fun k hk => heap_setCell_other _ _ _ _ (by exact hk)
  refine ⟨⟨⟨⟨(ho N (by omega)).trans x1.1.1.1, x1.1.1.2⟩, (ho G (by omega)).trans x1.1.2.1, x1.1.2.2⟩, (ho D (by omega)).trans x1.2.1, x1.2.2⟩, x2.setCell (Nat.le_refl _) _, ?_, (ho C (by omega)).trans x4, x5, x6⟩
  rw [heap_setCell_same _ _ _ _ _ _ x3, hu]

theorem TS.grown {N D G n B C R : Nat} {S T hh ll h l : Int} {bs : List UInt8} {t0 t1 t2 : ByteArray} {w0 w w' : World} (x : TS N D G n S T hh ll bs w0 B C h l t0 t1 t2 w) (hg : w.grownBy w' (some R)) (hR : D < R) : TS N D G n S T hh ll bs w0 B C h l t0 t1 t2 w' := by
  obtain ⟨x1, x2, x3, x4, x5, x6⟩ := x
  have hNG := x1.1.2.2.2
  have hGD := x1.2.2.1
  have hk : ∀ k, k < w.heap.size → k < R → w'.heap[k]? = w.heap[k]? := fun k h1 h2 => hg.block k h1 (fun e => by injection e with e; omega)
  have l1 := (Array.getElem?_eq_some_iff.1 x1.1.1.1).1
  have l2 := (Array.getElem?_eq_some_iff.1 x1.1.2.1).1
  have l3 := (Array.getElem?_eq_some_iff.1 x1.2.1).1
  exact ⟨⟨⟨⟨(hk N l1 (by omega)).trans x1.1.1.1, x1.1.1.2⟩, (hk G l2 (by omega)).trans x1.1.2.1, x1.1.2.2⟩, (hk D l3 (by omega)).trans x1.2.1, x1.2.2⟩,
    x2.trans ⟨hg.os, hg.tape, hg.output, hg.size, fun k h => hk k (by omega) (by omega)⟩, (hk B (by omega) (by omega)).trans x3, (hk C (by omega) (by omega)).trans x4, x5, x6⟩

abbrev TK (N D G n : Nat) (S T hh ll : Int) (bs : List UInt8) (w0 : World) (B C : Nat) (h l : Int) (t0 t1 t2 : ByteArray) (w : World) : Prop :=
  C5 w C (.int .i64 16384) (.int .i64 0) (.int .i64 S) (.int .i64 T) (.int .i64 64) ∧ TS N D G n S T hh ll bs w0 B C h l t0 t1 t2 w
theorem TK.below {N D G n B C : Nat} {S T hh ll h l : Int} {bs : List UInt8} {t0 t1 t2 : ByteArray} {w0 w w' : World} (x : TK N D G n S T hh ll bs w0 B C h l t0 t1 t2 w) (hb : Below w.heap.size w w') : TK N D G n S T hh ll bs w0 B C h l t0 t1 t2 w' :=
  ⟨x.1.keep hb, x.2.below hb⟩

theorem makeBytes_run (m : Nat) (hm : m ≤ 100000) (hm0 : 0 < m) (w : World) : (Instr.makeSlice 38 (.int .i64 (m : Int)) (.int .i64 (m : Int))).run Tryd.prog w = .ok (.slice (some ⟨w.heap.size, 0, none⟩) m m) (w.alloc (.cells (madeCells #[.int .u8 0] m) 5)) := by
  obtain ⟨i0, hi, hzz⟩ := Option.map_eq_some_iff.1 Tryd.info5
  simp only [Prod.mk.injEq] at hzz
  obtain ⟨hz0, hz1, hz2⟩ := hzz
  have := run_makeSlice (P := Tryd.prog) w 38 5 i0 (.int .u8 0) Tryd.underlying38 hi hz0 .i64 .i64 (m : Int) (m : Int) (by omega) (by omega) (by rw [hz1]; omega) (by rw [hz2]; omega) (by omega)
  rw [Int.toNat_natCast, hz1, Nat.mul_one] at this
  exact this

set_option maxRecDepth 100000 in
set_option maxHeartbeats 8000000 in
theorem resetLays_any (a : Int) (p : Option Addr) (b off len cap : Nat) (hp : 0 < len → p = some ⟨b, off, none⟩) (ks vs : Nat → Int) (ss : Nat → ByteArray) (a0 a1 a2 : ByteArray) (h l : Int) (fit : Bool) (w : World) (hm : Marked w) (ha : -9223372036854775808 ≤ a ∧ a ≤ 9223372036854775807)
    (hA : Ahead b off len ks vs ss w) (hlen : len ≤ 9223372036854775807) (hks : ∀ i, i < len → -9223372036854775808 ≤ ks i ∧ ks i ≤ 9223372036854775807) (hvs : ∀ i, i < len → -9223372036854775808 ≤ vs i ∧ vs i ≤ 9223372036854775807)
    (hss : ∀ i, i < len → (ss i).size ≤ 140737488351232) (hb : b < w.heap.size)
    (h0 : a0.size ≤ 9223372036854775807) (h1 : a1.size ≤ 9223372036854775807) (h2 : a2.size ≤ 9223372036854775807) :
    Calls Tryd.prog 7 #[.int .i64 a, .slice p len cap, .agg #[.string a0, .string a1, .string a2, .int .i64 h, .int .i64 l], .bool fit] w fun e w' =>
      e = .returned (.bool true) ∧ Below w.heap.size w w' := by
  have HM := hide hm
  have HL := hide (fun w => layout_any a w ha.2 ha.1)
  obtain ⟨x0, x1⟩ := pickI_range a 9 (by omega)
  obtain ⟨y0, y1⟩ := pickI_range a 4 (by omega)
  generalize pickI a 9 = x at *
  generalize pickI a 4 = y at *
  obtain ⟨S, hS⟩ : ∃ S, S = 256 + 8 * x := ⟨_, rfl⟩
  obtain ⟨T, hT⟩ : ∃ T, T = 64 + 8 * y := ⟨_, rfl⟩
  rw [← hS, ← hT] at HL
  have HG := hide (fun w => begun_any S T w (by omega) (by omega) (by rw [Int.tmod_eq_emod_of_nonneg (by omega)]; omega) (by rw [Int.tmod_eq_emod_of_nonneg (by omega)]; omega))
  have hS' : 256 ≤ S ∧ S ≤ 1000 := by omega
  have hT' : 64 ≤ T ∧ T ≤ 1000 := by omega
  have HA := hide hA
  have HKS := hide hks
  have HVS := hide hvs
  have HSS := hide hss
  have HP := hide hp
  clear hS hT x0 x1 y0 y1 hm hA hks hvs hss hp
  go_enter Tryd.func7, Tryd.ntmps7
  go_wp2_with fail
  refine (shown_any _ (HM.out.alloc _)).mono ?_
  rintro e w1 ⟨rfl, hb1⟩
  have HO := hide (show One w w.heap.size w.heap.size (.cells #[.string a0, .string a1, .string a2, .int .i64 h, .int .i64 l] 23) w1 from One.keep ⟨heap_alloc_new w _, (Below.refl _ w).alloc (Nat.le_refl _) _, by simp⟩ hb1)
  clear hb1
  go_wp2_with fail
  refine (HL.out _).mono ?_
  rintro e w2 ⟨rfl, hb2⟩
  have HO2 := hide ((HO.out.keep hb2).alloc (.cells #[.int .i64 16384, .int .i64 0, .int .i64 S, .int .i64 T, .int .i64 64] 49))
  have hz2 := (HO.out.keep hb2).lt
  have HY2 := hide (heap_alloc_new w2 (.cells #[.int .i64 16384, .int .i64 0, .int .i64 S, .int .i64 T, .int .i64 64] 49))
  clear hb2 HO
  go_wp2_with fail
  refine (HG.out _).mono ?_
  rintro e w3 ⟨N, D, G, n, rfl, hbeg⟩
  have hw2N : w2.heap.size < N := by have := hbeg.2.1; simp at this; omega
  have HO3 := hide (HO2.out.keep hbeg.1)
  have HY3 := hide ((hbeg.1.block w2.heap.size (by simp)).trans HY2.out)
  have HD3 := hide (hbeg.dic hS' hT')
  clear hbeg HO2 HY2
  have HX3 := hide (show LX N D G n S T w3 w3 from ⟨_, _, _, HD3.out, Below.refl _ _⟩)
  clear HD3
  go_wp2_with fail
  have hNs : N < w3.heap.size := by obtain ⟨h, l, bs, hd, _⟩ := HX3.out; exact (Array.getElem?_eq_some_iff.1 hd.1.1.1).1
  have hAb : ∀ wr, Below N w3 wr → Ahead b off len ks vs ss wr := by
    intro wr hbr
    have hbw : Below w.heap.size w wr := HO3.out.2.1.trans (hbr.mono (by omega))
    exact ⟨fun i hi => (hbw.cell (by exact hb)).trans (HA.out.c0 i hi), fun i hi => (hbw.cell (by exact hb)).trans (HA.out.c1 i hi), fun i hi => (hbw.cell (by exact hb)).trans (HA.out.c2 i hi)⟩
  have HAB := hide hAb
  clear hAb
  go_loopw [13] (fun i wr => ∃ k : Nat, k ≤ len ∧ k ≤ 60 ∧ i = .int .i64 k ∧ Hid (LX N D G n S T w3 wr)) (fun i _ => 60 - (intOf i).toNat)
  case atStart => exact ⟨0, by omega, by omega, rfl, HX3.out⟩
  case round =>
    obtain ⟨k, hk, hk6, rfl, hX⟩ := hrel
    by_cases hgo : k < len ∧ k < 60
    · have hlt := hgo.1
      have hlt' : (k : Int) < (len : Int) := by omega
      have h60' : (k : Int) < 60 := by omega
      clear hgo
      obtain ⟨hh, ll, bs, hd, hbr⟩ := hX.out
      have hw := HAB.out wr hbr
      have d0 := hw.c0 k hlt
      have d1 := hw.c1 k hlt
      have d2 := hw.c2 k hlt
      obtain rfl := HP.out (by omega)
      have HC := hide (does_any N D G n S T hh ll (ks k) (vs k) bs (ss k) wr hd (HKS.out k hlt) (HVS.out k hlt) (HSS.out k hlt))
      have HBR := hide hbr
      have hNr : N ≤ wr.heap.size := Nat.le_of_lt (Array.getElem?_eq_some_iff.1 hd.1.1.1).1
      clear hw hd hbr
      go_wp2_with fail
      refine HC.out.mono ?_
      rintro e w4 ⟨u, h4, l4, bs4, rfl, hd4, hc4, _⟩
      have HX4 := hide (LX.of HBR.out hNr hd4 hc4)
      clear hd4 hc4 HC HBR d0 d1 d2
      go_wp2_with fail
      go_roundw
      case rel => exact ⟨k + 1, by omega, by omega, rfl, HX4.out⟩
      case measure => simp [intOf]; omega
    · have hex : (¬ (k : Int) < (len : Int)) ∨ ((k : Int) < (len : Int) ∧ ¬ (k : Int) < 60) := by omega
      clear hgo
      obtain ⟨hh, ll, bs, hd, hbr⟩ := hX.out
      have HD := hide hd
      have HBR := hide hbr
      have hNr : N ≤ wr.heap.size := Nat.le_of_lt (Array.getElem?_eq_some_iff.1 hd.1.1.1).1
      have HS1 := hide ((hbr.block w.heap.size (by omega)).trans HO3.out.1)
      have HY1 := hide ((hbr.block w2.heap.size hw2N).trans HY3.out)
      have HT0 := hide (show TS N D G n S T hh ll bs w w.heap.size w2.heap.size h l a0 a1 a2 wr from ⟨hd, HO3.out.2.1.trans (hbr.mono (by omega)), HS1.out, HY1.out, hz2, hw2N⟩)
      have HF := hide (fun (s : ByteArray) (m : Nat) (w : World) (_ : (m : Int) = S ∨ (m : Int) = T ∨ (m : Int) = 64) => filled_any s m w (by omega) (by omega))
      clear hd hbr hX HAB HP HS1 HY1 HD HBR HO3 HY3 HX3 HA HKS HVS HSS HG HL
      obtain ⟨c0, c1, c2, c3, c4⟩ := C5.row HT0.out.2.2.1
      obtain ⟨y0, y1, y2, y3, y4⟩ := C5.row HT0.out.2.2.2.1
      have f0 := frozen_of_row wr w.heap.size 0 _ _ HT0.out.2.2.1
      obtain ⟨s0, hs0⟩ : ∃ s0 : Nat, S = (s0 : Int) := ⟨S.toNat, by omega⟩
      obtain ⟨s1, hs1⟩ : ∃ s1 : Nat, T = (s1 : Int) := ⟨T.toNat, by omega⟩
      subst hs0
      subst hs1
      rcases hex with hlt' | ⟨hlt', h60'⟩ <;> cases fit
      go_wp2_with fail
      have HT4 := HT0
      clear HT0 c0 c1 c2 c3 c4 y0 y1 y2 y3 y4 f0
      obtain ⟨wq, hwq⟩ : ∃ wq, wq = wr := ⟨_, rfl⟩
      subst hwq
      obtain ⟨t0, ht0⟩ : ∃ t0, t0 = a0 := ⟨_, rfl⟩
      obtain ⟨t1, ht1⟩ : ∃ t1, t1 = a1 := ⟨_, rfl⟩
      obtain ⟨t2, ht2⟩ : ∃ t2, t2 = a2 := ⟨_, rfl⟩
      rw [← ht0, ← ht1, ← ht2] at HT4
      rotate_left
      go_wp2_with fail
      refine (HF.out a0 s0 _ (.inl rfl)).mono ?_
      rintro e w5 ⟨t0, ht0, rfl, hb5⟩
      have HT1 := hide (HT0.out.below hb5)
      clear hb5 c0 c1 c2 c3 c4 y0 y1 y2 y3 y4 f0 HT0
      obtain ⟨c0, c1, c2, c3, c4⟩ := C5.row HT1.out.2.2.1
      obtain ⟨y0, y1, y2, y3, y4⟩ := C5.row HT1.out.2.2.2.1
      have f0 := frozen_of_row w5 w.heap.size 0 _ _ HT1.out.2.2.1
      go_wp2_with fail
      have HT2a := hide (HT1.out.set 0 t0 t0 a1 a2 (by rfl))
      generalize w5.setCell ⟨w.heap.size, 0, none⟩ (.string t0) = w6a at *
      clear HT1 c0 c1 c2 c3 c4 y0 y1 y2 y3 y4 f0
      refine (HF.out a1 s1 _ (.inr (.inl rfl))).mono ?_
      rintro e w6 ⟨t1, ht1, rfl, hb1⟩
      have HT2 := hide (HT2a.out.below hb1)
      clear hb1 HT2a
      obtain ⟨c0, c1, c2, c3, c4⟩ := C5.row HT2.out.2.2.1
      obtain ⟨y0, y1, y2, y3, y4⟩ := C5.row HT2.out.2.2.2.1
      have f1 := frozen_of_row w6 w.heap.size 1 _ _ HT2.out.2.2.1
      go_wp2_with fail
      have HT3a := hide (HT2.out.set 1 t1 t0 t1 a2 (by rfl))
      generalize w6.setCell ⟨w.heap.size, 1, none⟩ (.string t1) = w7a at *
      clear HT2 c0 c1 c2 c3 c4 y0 y1 y2 y3 y4 f1
      refine (HF.out a2 64 _ (.inr (.inr rfl))).mono ?_
      rintro e w7 ⟨t2, ht2, rfl, hb2⟩
      have HT3 := hide (HT3a.out.below hb2)
      clear hb2 HT3a
      obtain ⟨c0, c1, c2, c3, c4⟩ := C5.row HT3.out.2.2.1
      obtain ⟨y0, y1, y2, y3, y4⟩ := C5.row HT3.out.2.2.2.1
      have f2 := frozen_of_row w7 w.heap.size 2 _ _ HT3.out.2.2.1
      go_wp2_with fail
      have HT4 := hide (HT3.out.set 2 t2 t0 t1 t2 (by rfl))
      generalize w7.setCell ⟨w.heap.size, 2, none⟩ (.string t2) = wq at *
      clear HT3 c0 c1 c2 c3 c4 y0 y1 y2 y3 y4 f2
      rotate_left
      go_wp2_with fail
      have HT4 := HT0
      clear HT0 c0 c1 c2 c3 c4 y0 y1 y2 y3 y4 f0
      obtain ⟨wq, hwq⟩ : ∃ wq, wq = wr := ⟨_, rfl⟩
      subst hwq
      obtain ⟨t0, ht0⟩ : ∃ t0, t0 = a0 := ⟨_, rfl⟩
      obtain ⟨t1, ht1⟩ : ∃ t1, t1 = a1 := ⟨_, rfl⟩
      obtain ⟨t2, ht2⟩ : ∃ t2, t2 = a2 := ⟨_, rfl⟩
      rw [← ht0, ← ht1, ← ht2] at HT4
      rotate_left
      go_wp2_with fail
      refine (HF.out a0 s0 _ (.inl rfl)).mono ?_
      rintro e w5 ⟨t0, ht0, rfl, hb5⟩
      have HT1 := hide (HT0.out.below hb5)
      clear hb5 c0 c1 c2 c3 c4 y0 y1 y2 y3 y4 f0 HT0
      obtain ⟨c0, c1, c2, c3, c4⟩ := C5.row HT1.out.2.2.1
      obtain ⟨y0, y1, y2, y3, y4⟩ := C5.row HT1.out.2.2.2.1
      have f0 := frozen_of_row w5 w.heap.size 0 _ _ HT1.out.2.2.1
      go_wp2_with fail
      have HT2a := hide (HT1.out.set 0 t0 t0 a1 a2 (by rfl))
      generalize w5.setCell ⟨w.heap.size, 0, none⟩ (.string t0) = w6a at *
      clear HT1 c0 c1 c2 c3 c4 y0 y1 y2 y3 y4 f0
      refine (HF.out a1 s1 _ (.inr (.inl rfl))).mono ?_
      rintro e w6 ⟨t1, ht1, rfl, hb1⟩
      have HT2 := hide (HT2a.out.below hb1)
      clear hb1 HT2a
      obtain ⟨c0, c1, c2, c3, c4⟩ := C5.row HT2.out.2.2.1
      obtain ⟨y0, y1, y2, y3, y4⟩ := C5.row HT2.out.2.2.2.1
      have f1 := frozen_of_row w6 w.heap.size 1 _ _ HT2.out.2.2.1
      go_wp2_with fail
      have HT3a := hide (HT2.out.set 1 t1 t0 t1 a2 (by rfl))
      generalize w6.setCell ⟨w.heap.size, 1, none⟩ (.string t1) = w7a at *
      clear HT2 c0 c1 c2 c3 c4 y0 y1 y2 y3 y4 f1
      refine (HF.out a2 64 _ (.inr (.inr rfl))).mono ?_
      rintro e w7 ⟨t2, ht2, rfl, hb2⟩
      have HT3 := hide (HT3a.out.below hb2)
      clear hb2 HT3a
      obtain ⟨c0, c1, c2, c3, c4⟩ := C5.row HT3.out.2.2.1
      obtain ⟨y0, y1, y2, y3, y4⟩ := C5.row HT3.out.2.2.2.1
      have f2 := frozen_of_row w7 w.heap.size 2 _ _ HT3.out.2.2.1
      go_wp2_with fail
      have HT4 := hide (HT3.out.set 2 t2 t0 t1 t2 (by rfl))
      generalize w7.setCell ⟨w.heap.size, 2, none⟩ (.string t2) = wq at *
      clear HT3 c0 c1 c2 c3 c4 y0 y1 y2 y3 y4 f2
      rotate_left
      all_goals
        clear ht0 ht1 ht2
        refine (keep_ok N D G n _ _ hh ll bs _ HT4.out.1).mono ?_
        rintro e w8 ⟨rfl, hb8⟩
        have HT8a := hide (HT4.out.below hb8)
        have hDE : D < w8.heap.size := (Array.getElem?_eq_some_iff.1 HT8a.out.1.2.1).1
        clear hb8 HT4
        unfold keptV
        obtain ⟨p0, hp0⟩ : ∃ p, p = partS bs 16384 (s0 : Int) := ⟨_, rfl⟩
        obtain ⟨p1, hp1⟩ : ∃ p, p = partS bs (16384 + (s0 : Int)) (s1 : Int) := ⟨_, rfl⟩
        obtain ⟨p2, hp2⟩ : ∃ p, p = partS bs (16384 + (s0 : Int) + (s1 : Int)) 64 := ⟨_, rfl⟩
        rw [← hp0, ← hp1, ← hp2]
        have HPP := hide (show keptV s0 s1 hh ll bs = #[.string p0, .string p1, .string p2, .int .i64 hh, .int .i64 ll] by rw [hp0, hp1, hp2]; rfl)
        clear hp0 hp1 hp2
        have HT8 := hide (HT8a.out.below ((Below.refl _ _).alloc (Nat.le_refl _) (.cells #[.string p0, .string p1, .string p2, .int .i64 hh, .int .i64 ll] 23)))
        have hr8 := hide (heap_alloc_new w8 (.cells #[.string p0, .string p1, .string p2, .int .i64 hh, .int .i64 ll] 23))
        clear HT8a
        go_upto_region 15 with fail
        have hmk := makeBytes_run s0 (by omega) (by omega)
        have HK9 := hide (show TK N D G n s0 s1 hh ll bs w w.heap.size w2.heap.size h l t0 t1 t2 _ from ⟨C5.row HT8.out.2.2.2.1, HT8.out⟩)
        have HK := HK9.out
        go_region_held3 (fun w' => TK N D G n s0 s1 hh ll bs w w.heap.size w2.heap.size h l t0 t1 t2 w')
          (first
            | assumption
            | (exact TK.below (by assumption) ((Below.refl _ _).alloc (Nat.le_refl _) _))
            | (exact TK.below (by assumption) (Below.refl _ _).drew)
            | (exact TK.below (by assumption) (by assumption)))
          (first
            | (go_at_call 26; refine (rnew_any _ _ _).mono ?_; rintro e w' ⟨rfl, hb, hrr⟩))
        rename_i hHeld
        have HE9 := hide (show w'.heap[w8.heap.size]? = some (.cells #[.string p0, .string p1, .string p2, .int .i64 hh, .int .i64 ll] 23 (0, 0)) from (hb.block _ (by simp; omega)).trans ((heap_alloc_old _ _ (by simp)).trans hr8.out))
        have HR9 := hide (show w'.heap[w8.heap.size + 1 + 1]? = some (.cells (refC (w8.heap.size + 1) s0 16392 0) 106 (0, 0)) by simpa using hrr)
        have HT9 := hide hHeld.2
        clear hb hrr HK HK9 HT8 hr8 hmk hHeld
        obtain ⟨c0, c1, c2, c3, c4⟩ := C5.row HT9.out.2.2.1
        obtain ⟨y0, y1, y2, y3, y4⟩ := C5.row HT9.out.2.2.2.1
        have HW := hide (fun w hd hno => lay_wrong N D G n s0 s1 hh ll h l bs t0 t1 t2 w hd hno)
        have HRT := hide (fun w hd hok => lay_right N D G n s0 s1 hh ll h l bs t0 t1 t2 w hd hok)
        have HBK := hide (rback_any (w8.heap.size + 1 + 1) (w8.heap.size + 1) s0 16392 0 h l w' (by omega) HR9.out)
        have hno : ∀ (q : ¬ (t0.size = s0 ∧ t1.size = s1 ∧ t2.size = 64)), rightB s0 s1 t0 t1 t2 h l = false := by
          intro q
          simp only [rightB, Bool.and_eq_false_iff, decide_eq_false_iff_not]
          omega
        have HNO := hide hno
        clear hno HF
        have HLEN := hide (show (16384 : Int) + s0 + s1 + 64 = (bs.length : Int) from by have h1 := HT9.out.1.1.1.2.2; have h2 := HT9.out.1.1.2.2.1; omega)
        by_cases q0 : t0.size = s0
        · by_cases q1 : t1.size = s1
          · by_cases q2 : t2.size = 64
            · cases hbk : backOk s0 h l with
              | true =>
                have HN := hide (show rightB s0 s1 t0 t1 t2 h l = true by simp [rightB, q0, q1, q2, hbk])
                have HQQ := hide (And.intro q0 (And.intro q1 q2))
                have b0 : (t0.size == s0) = true := by simp; omega
                have b0' : ((t0.size : Int) == (s0 : Int)) = true := by simp; omega
                have b1 : (t1.size == s1) = true := by simp; omega
                have b1' : ((t1.size : Int) == (s1 : Int)) = true := by simp; omega
                have b2 : ((t2.size : Int) == 64) = true := by simp; omega
                rw [hbk] at HBK
                clear hbk q0 q1 q2
                go_wp2_with fail
                refine HBK.out.mono ?_
                rintro e w9 ⟨rfl, hg9⟩
                have HE9' := hide ((hg9.block w8.heap.size (Array.getElem?_eq_some_iff.1 HE9.out).1 (fun e => by injection e with e; omega)).trans HE9.out)
                have HT9' := hide (HT9.out.grown hg9 (by omega))
                clear hg9 HT9 HE9 HR9 HBK c0 c1 c2 c3 c4 y0 y1 y2 y3 y4
                have HT9 := HT9'
                have HE9 := HE9'
                clear HT9' HE9'
                obtain ⟨c0, c1, c2, c3, c4⟩ := C5.row HT9.out.2.2.1
                obtain ⟨y0, y1, y2, y3, y4⟩ := C5.row HT9.out.2.2.2.1
                go_wp2_with fail
                refine (HRT.out _ HT9.out.1 HN.out).mono ?_
                rintro e w10 ⟨rfl, hd10, hc10⟩
                have HT10 := hide (HT9.out.chg hd10 hc10)
                obtain ⟨z0, z1, z2⟩ := HQQ.out
                clear hd10 hc10 HT9 HE9 HRT HW HNO c0 c1 c2 c3 c4 y0 y1 y2 y3 y4
                have HKL := hide (kept_lay s0 s1 h l bs t0 t1 t2 (by omega) (by omega) (by omega) (by have := HLEN.out; omega))
                clear z0 z1 z2
                go_wp2_with fail
                refine (keep_ok N D G n _ _ h l _ _ HT10.out.1).mono ?_
                rintro e w11 ⟨rfl, hb11⟩
                rw [HKL.out]
                have HT11 := hide (HT10.out.below hb11)
                clear hb11 HT10
                go_upto_region 19 with fail
                have HF12 := hide (heap_alloc_new w11 (.cells #[.string t0, .string t1, .string t2, .int .i64 h, .int .i64 l] 23))
                have HT12 := hide (HT11.out.below ((Below.refl _ _).alloc (Nat.le_refl _) (.cells #[.string t0, .string t1, .string t2, .int .i64 h, .int .i64 l] 23)))
                generalize w11.alloc (.cells #[.string t0, .string t1, .string t2, .int .i64 h, .int .i64 l] 23) = w12 at *
                obtain ⟨c0, c1, c2, c3, c4⟩ := C5.row HF12.out
                obtain ⟨y0, y1, y2, y3, y4⟩ := C5.row HT12.out.2.2.1
                have heq : ∀ w, (Op.equalIn 10000 23 (.agg #[.string t0, .string t1, .string t2, .int .i64 h, .int .i64 l]) (.agg #[.string t0, .string t1, .string t2, .int .i64 h, .int .i64 l])).run Tryd.prog w = .ok true w := fun w => by rw [equalIn_state]; simp [sameB]
                go_wp2_with fail
                go_ret
                exact ⟨rfl, HT12.out.2.1.mono (Nat.le_refl _)⟩
              | false =>
                have HN := hide (show rightB s0 s1 t0 t1 t2 h l = false by simp [rightB, q0, q1, q2, hbk])
                have b0 : (t0.size == s0) = true := by simp; omega
                have b0' : ((t0.size : Int) == (s0 : Int)) = true := by simp; omega
                have b1 : (t1.size == s1) = true := by simp; omega
                have b1' : ((t1.size : Int) == (s1 : Int)) = true := by simp; omega
                have b2 : ((t2.size : Int) == 64) = true := by simp; omega
                rw [hbk] at HBK
                clear hbk q0 q1 q2
                go_wp2_with fail
                refine HBK.out.mono ?_
                rintro e w9 ⟨rfl, hg9⟩
                have HE9' := hide ((hg9.block w8.heap.size (Array.getElem?_eq_some_iff.1 HE9.out).1 (fun e => by injection e with e; omega)).trans HE9.out)
                have HT9' := hide (HT9.out.grown hg9 (by omega))
                clear hg9 HT9 HE9 HR9 HBK c0 c1 c2 c3 c4 y0 y1 y2 y3 y4
                have HT9 := HT9'
                have HE9 := HE9'
                clear HT9' HE9'
                obtain ⟨c0, c1, c2, c3, c4⟩ := C5.row HT9.out.2.2.1
                obtain ⟨y0, y1, y2, y3, y4⟩ := C5.row HT9.out.2.2.2.1
                go_wp2_with fail
                refine (HW.out _ HT9.out.1 HN.out).mono ?_
                rintro e w10 ⟨rfl, hd10, hc10⟩
                have hEz := (Array.getElem?_eq_some_iff.1 HE9.out).1
                have HT10 := hide (HT9.out.chg hd10 hc10)
                have HE10 := hide ((hc10.block w8.heap.size hEz (by have := HT9.out.1.2.2.1; omega) (by omega)).trans HE9.out)
                clear hd10 hc10 hEz HT9 HE9 HRT HW HNO c0 c1 c2 c3 c4 y0 y1 y2 y3 y4
                go_wp2_with fail
                refine (keep_ok N D G n _ _ hh ll bs _ HT10.out.1).mono ?_
                rintro e w11 ⟨rfl, hb11⟩
                rw [HPP.out]
                have HE11 := hide ((hb11.block w8.heap.size (Array.getElem?_eq_some_iff.1 HE10.out).1).trans HE10.out)
                have HT11 := hide (HT10.out.below hb11)
                clear hb11 HE10 HT10
                go_upto_region 19 with fail
                have HF12 := hide (heap_alloc_new w11 (.cells #[.string p0, .string p1, .string p2, .int .i64 hh, .int .i64 ll] 23))
                have HE12 := hide ((heap_alloc_old w11 (.cells #[.string p0, .string p1, .string p2, .int .i64 hh, .int .i64 ll] 23) (Array.getElem?_eq_some_iff.1 HE11.out).1).trans HE11.out)
                have HT12 := hide (HT11.out.below ((Below.refl _ _).alloc (Nat.le_refl _) (.cells #[.string p0, .string p1, .string p2, .int .i64 hh, .int .i64 ll] 23)))
                generalize w11.alloc (.cells #[.string p0, .string p1, .string p2, .int .i64 hh, .int .i64 ll] 23) = w12 at *
                obtain ⟨c0, c1, c2, c3, c4⟩ := C5.row HF12.out
                obtain ⟨y0, y1, y2, y3, y4⟩ := C5.row HE12.out
                have heq : ∀ w, (Op.equalIn 10000 23 (.agg #[.string p0, .string p1, .string p2, .int .i64 hh, .int .i64 ll]) (.agg #[.string p0, .string p1, .string p2, .int .i64 hh, .int .i64 ll])).run Tryd.prog w = .ok true w := fun w => by rw [equalIn_state]; simp [sameB]
                go_wp2_with fail
                go_ret
                exact ⟨rfl, HT12.out.2.1.mono (Nat.le_refl _)⟩
            · have HN := hide (HNO.out (fun q => q2 q.2.2))
              have b0 : (t0.size == s0) = true := by simp; omega
              have b0' : ((t0.size : Int) == (s0 : Int)) = true := by simp; omega
              have b1 : (t1.size == s1) = true := by simp; omega
              have b1' : ((t1.size : Int) == (s1 : Int)) = true := by simp; omega
              have b2 : ((t2.size : Int) == 64) = false := by simp; omega
              clear q0 q1 q2
              go_wp2_with fail
              refine (HW.out _ HT9.out.1 HN.out).mono ?_
              rintro e w10 ⟨rfl, hd10, hc10⟩
              have hEz := (Array.getElem?_eq_some_iff.1 HE9.out).1
              have HT10 := hide (HT9.out.chg hd10 hc10)
              have HE10 := hide ((hc10.block w8.heap.size hEz (by have := HT9.out.1.2.2.1; omega) (by omega)).trans HE9.out)
              clear hd10 hc10 hEz HT9 HE9 HR9 HBK HRT HW HNO c0 c1 c2 c3 c4 y0 y1 y2 y3 y4
              go_wp2_with fail
              refine (keep_ok N D G n _ _ hh ll bs _ HT10.out.1).mono ?_
              rintro e w11 ⟨rfl, hb11⟩
              rw [HPP.out]
              have HE11 := hide ((hb11.block w8.heap.size (Array.getElem?_eq_some_iff.1 HE10.out).1).trans HE10.out)
              have HT11 := hide (HT10.out.below hb11)
              clear hb11 HE10 HT10
              go_upto_region 19 with fail
              have HF12 := hide (heap_alloc_new w11 (.cells #[.string p0, .string p1, .string p2, .int .i64 hh, .int .i64 ll] 23))
              have HE12 := hide ((heap_alloc_old w11 (.cells #[.string p0, .string p1, .string p2, .int .i64 hh, .int .i64 ll] 23) (Array.getElem?_eq_some_iff.1 HE11.out).1).trans HE11.out)
              have HT12 := hide (HT11.out.below ((Below.refl _ _).alloc (Nat.le_refl _) (.cells #[.string p0, .string p1, .string p2, .int .i64 hh, .int .i64 ll] 23)))
              generalize w11.alloc (.cells #[.string p0, .string p1, .string p2, .int .i64 hh, .int .i64 ll] 23) = w12 at *
              obtain ⟨c0, c1, c2, c3, c4⟩ := C5.row HF12.out
              obtain ⟨y0, y1, y2, y3, y4⟩ := C5.row HE12.out
              have heq : ∀ w, (Op.equalIn 10000 23 (.agg #[.string p0, .string p1, .string p2, .int .i64 hh, .int .i64 ll]) (.agg #[.string p0, .string p1, .string p2, .int .i64 hh, .int .i64 ll])).run Tryd.prog w = .ok true w := fun w => by rw [equalIn_state]; simp [sameB]
              go_wp2_with fail
              go_ret
              exact ⟨rfl, HT12.out.2.1.mono (Nat.le_refl _)⟩
          · have HN := hide (HNO.out (fun q => q1 q.2.1))
            have b0 : (t0.size == s0) = true := by simp; omega
            have b0' : ((t0.size : Int) == (s0 : Int)) = true := by simp; omega
            have b1 : (t1.size == s1) = false := by simp; omega
            have b1' : ((t1.size : Int) == (s1 : Int)) = false := by simp; omega
            clear q0 q1
            go_wp2_with fail
            refine (HW.out _ HT9.out.1 HN.out).mono ?_
            rintro e w10 ⟨rfl, hd10, hc10⟩
            have hEz := (Array.getElem?_eq_some_iff.1 HE9.out).1
            have HT10 := hide (HT9.out.chg hd10 hc10)
            have HE10 := hide ((hc10.block w8.heap.size hEz (by have := HT9.out.1.2.2.1; omega) (by omega)).trans HE9.out)
            clear hd10 hc10 hEz HT9 HE9 HR9 HBK HRT HW HNO c0 c1 c2 c3 c4 y0 y1 y2 y3 y4
            go_wp2_with fail
            refine (keep_ok N D G n _ _ hh ll bs _ HT10.out.1).mono ?_
            rintro e w11 ⟨rfl, hb11⟩
            rw [HPP.out]
            have HE11 := hide ((hb11.block w8.heap.size (Array.getElem?_eq_some_iff.1 HE10.out).1).trans HE10.out)
            have HT11 := hide (HT10.out.below hb11)
            clear hb11 HE10 HT10
            go_upto_region 19 with fail
            have HF12 := hide (heap_alloc_new w11 (.cells #[.string p0, .string p1, .string p2, .int .i64 hh, .int .i64 ll] 23))
            have HE12 := hide ((heap_alloc_old w11 (.cells #[.string p0, .string p1, .string p2, .int .i64 hh, .int .i64 ll] 23) (Array.getElem?_eq_some_iff.1 HE11.out).1).trans HE11.out)
            have HT12 := hide (HT11.out.below ((Below.refl _ _).alloc (Nat.le_refl _) (.cells #[.string p0, .string p1, .string p2, .int .i64 hh, .int .i64 ll] 23)))
            generalize w11.alloc (.cells #[.string p0, .string p1, .string p2, .int .i64 hh, .int .i64 ll] 23) = w12 at *
            obtain ⟨c0, c1, c2, c3, c4⟩ := C5.row HF12.out
            obtain ⟨y0, y1, y2, y3, y4⟩ := C5.row HE12.out
            have heq : ∀ w, (Op.equalIn 10000 23 (.agg #[.string p0, .string p1, .string p2, .int .i64 hh, .int .i64 ll]) (.agg #[.string p0, .string p1, .string p2, .int .i64 hh, .int .i64 ll])).run Tryd.prog w = .ok true w := fun w => by rw [equalIn_state]; simp [sameB]
            go_wp2_with fail
            go_ret
            exact ⟨rfl, HT12.out.2.1.mono (Nat.le_refl _)⟩
        · have HN := hide (HNO.out (fun q => q0 q.1))
          have b0 : (t0.size == s0) = false := by simp; omega
          have b0' : ((t0.size : Int) == (s0 : Int)) = false := by simp; omega
          clear q0
          go_wp2_with fail
          refine (HW.out _ HT9.out.1 HN.out).mono ?_
          rintro e w10 ⟨rfl, hd10, hc10⟩
          have hEz := (Array.getElem?_eq_some_iff.1 HE9.out).1
          have HT10 := hide (HT9.out.chg hd10 hc10)
          have HE10 := hide ((hc10.block w8.heap.size hEz (by have := HT9.out.1.2.2.1; omega) (by omega)).trans HE9.out)
          clear hd10 hc10 hEz HT9 HE9 HR9 HBK HRT HW HNO c0 c1 c2 c3 c4 y0 y1 y2 y3 y4
          go_wp2_with fail
          refine (keep_ok N D G n _ _ hh ll bs _ HT10.out.1).mono ?_
          rintro e w11 ⟨rfl, hb11⟩
          rw [HPP.out]
          have HE11 := hide ((hb11.block w8.heap.size (Array.getElem?_eq_some_iff.1 HE10.out).1).trans HE10.out)
          have HT11 := hide (HT10.out.below hb11)
          clear hb11 HE10 HT10
          go_upto_region 19 with fail
          have HF12 := hide (heap_alloc_new w11 (.cells #[.string p0, .string p1, .string p2, .int .i64 hh, .int .i64 ll] 23))
          have HE12 := hide ((heap_alloc_old w11 (.cells #[.string p0, .string p1, .string p2, .int .i64 hh, .int .i64 ll] 23) (Array.getElem?_eq_some_iff.1 HE11.out).1).trans HE11.out)
          have HT12 := hide (HT11.out.below ((Below.refl _ _).alloc (Nat.le_refl _) (.cells #[.string p0, .string p1, .string p2, .int .i64 hh, .int .i64 ll] 23)))
          generalize w11.alloc (.cells #[.string p0, .string p1, .string p2, .int .i64 hh, .int .i64 ll] 23) = w12 at *
          obtain ⟨c0, c1, c2, c3, c4⟩ := C5.row HF12.out
          obtain ⟨y0, y1, y2, y3, y4⟩ := C5.row HE12.out
          have heq : ∀ w, (Op.equalIn 10000 23 (.agg #[.string p0, .string p1, .string p2, .int .i64 hh, .int .i64 ll]) (.agg #[.string p0, .string p1, .string p2, .int .i64 hh, .int .i64 ll])).run Tryd.prog w = .ok true w := fun w => by rw [equalIn_state]; simp [sameB]
          go_wp2_with fail
          go_ret
          exact ⟨rfl, HT12.out.2.1.mono (Nat.le_refl _)⟩

end Go.Proofs.YthaldkmjjpepjaaDoor
