/-
  A list's Create.
-/
import Derived.Test.YthaldkmjjpepjaaDoorSi
namespace Go.Proofs.YthaldkmjjpepjaaDoor
open Go.RowKit

set_option maxRecDepth 100000 in
set_option maxHeartbeats 4000000 in
theorem create_any (N D G n : Nat) (S T h l : Int) (bs : List UInt8) (s : ByteArray) (w : World) (hd : Dic N D G n S T h l bs w) :
    Calls Tryd.prog 48 #[.pointer (some ⟨D, 0, none⟩), .string s] w fun e w' =>
      ∃ (v : Value) (h' l' : Int) (bs' : List UInt8), e = .returned v ∧ Dic N D G n S T h' l' bs' w' ∧ Chg G D w w' ∧ bs'.take 16384 = bs.take 16384 := by
  have HD := hide hd
  have HNM := hide (name_any s w)
  obtain ⟨hS, hh⟩ : (256 ≤ S ∧ S ≤ 1000) ∧ (16392 ≤ h ∧ h ≤ 16384 + S) := ⟨⟨hd.1.1.2.1.1, hd.1.1.2.1.2.1⟩, hd.2.2.2.1⟩
  clear hd
  obtain ⟨x, rfl⟩ : ∃ x : Nat, h = (x : Int) := ⟨h.toNat, by omega⟩
  go_enter Tryd.func48, Tryd.ntmps48
  go_wp2_with fail
  refine HNM.out.mono ?_
  rintro e w1 ⟨r, rfl, hr31, hb1⟩
  have HD1 := hide (HD.out.below hb1)
  have HC1 := hide (Chg.of_below (G := G) (D := D) hb1)
  clear hb1 HD HNM
  by_cases hr : r = true
  · subst hr
    have h31 : s.size ≤ 31 := hr31 rfl
    clear hr31
    obtain ⟨c0, c1, c2, c3, c4⟩ := HD1.out.cells
    have HU := hide (fun w => up_any x w (by omega))
    obtain ⟨y, hy⟩ : ∃ y, (x + 7) / 8 * 8 = y := ⟨_, rfl⟩
    rw [hy] at HU
    have hy0 : x ≤ y ∧ y ≤ x + 7 := by omega
    have HY8 := hide (show y % 8 = 0 by omega)
    clear hy
    go_wp2_with fail
    refine (HU.out _).mono ?_
    rintro e w2 ⟨rfl, rfl⟩
    have HU2 := hide (fun w => up_any (1 + s.size) w (by omega))
    obtain ⟨u, hu⟩ : ∃ u, (1 + s.size + 7) / 8 * 8 = u := ⟨_, rfl⟩
    rw [hu, show ((1 + s.size : Nat) : Int) = 1 + (s.size : Int) by omega] at HU2
    have hu0 : 1 + s.size ≤ u ∧ u ≤ 1 + s.size + 7 := by omega
    clear hu
    have hw0 : IntKind.i64.wrap (1 + (s.size : Int)) = 1 + (s.size : Int) := i64_wrap _ (by omega) (by omega)
    have hw1 : IntKind.i64.wrap (8 + (u : Int)) = 8 + (u : Int) := i64_wrap _ (by omega) (by omega)
    have hw2 : IntKind.i64.wrap (16384 + S - (y : Int)) = 16384 + S - (y : Int) := i64_wrap _ (by omega) (by omega)
    go_wp2_with fail
    go_quiet ((go_at_call 60; refine Calls.quiet_of_same (quiet_sw (HU2.out _))))
    have HD2 := hide (HD1.out.below (drewN_below w1 nq))
    have HC2 := hide (HC1.out.trans (Chg.drewN G D w1 nq))
    generalize w1.drewN nq = w2 at *
    clear c0 c1 c2 c3 c4 HD1 HC1 hw0 hw1 hw2 HU HU2
    by_cases hfull : 16384 + S - (y : Int) < 8 + (u : Int)
    · go_wp2_with fail
      go_ret2
      exact ⟨_, x, l, bs, rfl, HD2.out, HC2.out, rfl⟩
    · obtain ⟨c0, c1, c2, c3, c4⟩ := HD2.out.cells
      have HRG := hide (fun w h => region_any N G n S T 16392 w h)
      have HMY := hide (fun w h => may_any N G n S T 3 w h (by omega))
      rw [show regI S T 16392 = 3 by unfold regI; rw [if_neg (by omega), if_neg (by omega), if_pos (by omega)]] at HRG
      rw [if_neg (by omega)] at HMY
      have b2 : bits BinOp.and IntKind.i64 3 2 = 2 := by decide +kernel
      go_wp2_with fail
      go_quiet (first
        | (go_at_call 62; refine Calls.quiet_of_same (quiet_sw (HRG.out _ HD2.out.1.1)))
        | (go_at_call 61; refine Calls.quiet_of_same (quiet_sw (HMY.out _ HD2.out.1.1))))
      have HD3 := hide (HD2.out.below (drewN_below w2 nq))
      have HC3 := hide (HC2.out.trans (Chg.drewN G D w2 nq))
      generalize w2.drewN nq = w3 at *
      clear c0 c1 c2 c3 c4 HD2 HC2 HRG HMY
      go_wp2_with fail
      refine (align_any N D G n S T x l bs w3 HD3.out).mono ?_
      rintro e w4 ⟨f, h4, bs4, rfl, hd4, hc4, ht4⟩
      have HD4 := hide hd4
      have HC4 := hide (HC3.out.trans hc4)
      have HT4 := hide ht4
      clear hd4 hc4 ht4 HD3 HC3
      obtain ⟨c0, c1, c2, c3, c4⟩ := HD4.out.cells
      go_wp2_with fail
      refine (comma_any N D G n S T h4 l l bs4 w4 HD4.out).mono ?_
      rintro e w5 ⟨f5, h5, bs5, rfl, hd5, hc5, ht5⟩
      have HD5 := hide hd5
      have HC5 := hide (HC4.out.trans hc5)
      have HT5 := hide (ht5.trans HT4.out)
      clear hd5 hc5 ht5 HD4 HC4 HT4 c0 c1 c2 c3 c4
      go_wp2_with fail
      obtain ⟨c, hc⟩ : ∃ c : UInt8, (s.size : Int) + 32 = (c.toNat : Int) := ⟨UInt8.ofNat (s.size + 32), by rw [UInt8.toNat_ofNat']; omega⟩
      rw [hc]
      clear hc
      refine (ccomma_any N D G n S T h5 l c bs5 w5 HD5.out).mono ?_
      rintro e w6 ⟨f6, h6, bs6, rfl, hd6, hc6, ht6, _⟩
      have HX6 := hide (show Dic N D G n S T h6 l bs6 w6 ∧ Chg G D w w6 ∧ bs6.take 16384 = bs.take 16384 from ⟨hd6, HC5.out.trans hc6, ht6.trans HT5.out⟩)
      clear hd6 hc6 ht6 HD5 HC5 HT5
      go_wp2_with fail
      go_loopw [60] (fun i wr => ∃ (k : Nat) (h' : Int) (bs' : List UInt8), k ≤ s.size ∧ i = .int .i64 k ∧ Hid (Dic N D G n S T h' l bs' wr ∧ Chg G D w wr ∧ bs'.take 16384 = bs.take 16384)) (fun i _ => s.size - (intOf i).toNat)
      case atStart => exact ⟨0, h6, bs6, by omega, rfl, HX6.out⟩
      case round =>
        obtain ⟨k, h', bs', hk, rfl, hX⟩ := hrel
        by_cases hlt : k < s.size
        · have hlt' : (k : Int) < (s.size : Int) := by omega
          go_wp2_with fail
          refine (ccomma_any N D G n S T h' l s[k] bs' wr hX.out.1).mono ?_
          rintro e w7 ⟨f7, h7, bs7, rfl, hd7, hc7, ht7, _⟩
          have HX7 := hide (show Dic N D G n S T h7 l bs7 w7 ∧ Chg G D w w7 ∧ bs7.take 16384 = bs.take 16384 from ⟨hd7, hX.out.2.1.trans hc7, ht7.trans hX.out.2.2⟩)
          clear hd7 hc7 ht7 hX
          go_wp2_with fail
          go_roundw
          case rel => exact ⟨k + 1, h7, bs7, by omega, rfl, HX7⟩
          case measure => simp [intOf]; omega
        · have hlt' : ¬ (k : Int) < (s.size : Int) := by omega
          go_wp2_with fail
          refine (align_any N D G n S T h' l bs' wr hX.out.1).mono ?_
          rintro e w7 ⟨f7, h7, bs7, rfl, hd7, hc7, ht7⟩
          have HX7 := hide (show Dic N D G n S T h7 l bs7 w7 ∧ Chg G D w w7 ∧ bs7.take 16384 = bs.take 16384 from ⟨hd7, hX.out.2.1.trans hc7, ht7.trans hX.out.2.2⟩)
          obtain ⟨c0, c1, c2, c3, c4⟩ := hd7.cells
          have hf := hd7.free 4
          clear hd7 hc7 ht7 hX
          go_wp2_with fail
          go_ret2
          exact ⟨_, h7, (y : Int), bs7, rfl, HX7.out.1.last y (.inr (by have := HY8.out; omega)), HX7.out.2.1.trans (Chg.setD _ _ _ _ _), HX7.out.2.2⟩
  · have hr : r = false := by simpa using hr
    subst hr
    clear hr31
    go_wp2_with fail
    go_ret2
    exact ⟨_, x, l, bs, rfl, HD1.out, HC1.out, rfl⟩

end Go.Proofs.YthaldkmjjpepjaaDoor
