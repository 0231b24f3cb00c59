/-
  A list's marks and Show.
-/
import Derived.Test.YthaldkmjjpepjaaDoorSh
namespace Go.Proofs.YthaldkmjjpepjaaDoor
open Go.RowKit

def maskB (c : UInt8) : UInt8 := UInt8.ofNat (c.toNat &&& 223)
theorem maskB_bits (c : UInt8) : bits .andNot .u8 (c.toNat : Int) 32 = ((maskB c).toNat : Int) := by
  rw [u8_andNot (c.toNat : Int) 32 (by omega) (by have := c.toNat_lt; omega) (by decide) (by decide), maskB, UInt8.toNat_ofNat']
  have h1 : c.toNat &&& 223 < 2 ^ 8 := Nat.and_lt_two_pow _ (by omega)
  simp only [Int.toNat_natCast]
  rw [Nat.mod_eq_of_lt (by simpa using h1)]
  rfl
theorem showBit_any (c : UInt8) (w : World) : Calls Tryd.prog 66 #[.int .u8 (c.toNat : Int)] w fun e w' => e = .returned (.int .u8 ((maskB c).toNat : Int)) ∧ w = w' := by
  have hb := maskB_bits c
  generalize maskB c = d at *
  go_enter Tryd.func66, Tryd.ntmps66
  go_wp2
  go_ret
  exact ⟨rfl, rfl⟩

set_option maxRecDepth 100000 in
set_option maxHeartbeats 2000000 in
theorem marks_any (N D G n : Nat) (S T h l : Int) (bs : List UInt8) (w : World) (hd : Dic N D G n S T h l bs w) :
    Calls Tryd.prog 65 #[.pointer (some ⟨D, 0, none⟩), .func (.func 66) #[] #[]] w fun e w' =>
      ∃ (v : Value) (bs' : List UInt8), e = .returned v ∧ Dic N D G n S T h l bs' w' ∧ Chg G D w w' ∧ bs'.take 16384 = bs.take 16384 := by
  have HD := hide hd
  obtain ⟨c0, c1, c2, c3, c4⟩ := hd.cells
  obtain ⟨hS, hl⟩ : (256 ≤ S ∧ S ≤ 1000) ∧ (l = 0 ∨ 16392 ≤ l ∧ l < 16384 + S ∧ l % 8 = 0) := ⟨⟨hd.1.1.2.1.1, hd.1.1.2.1.2.1⟩, hd.2.2.2.2⟩
  clear hd
  by_cases hl0 : l = 0
  · subst hl0
    go_enter Tryd.func65, Tryd.ntmps65
    go_wp2_with fail
    refine ⟨rfl, _, results_none rfl _ _ _, ?_⟩
    exact ⟨⟨_, rfl⟩, bs, HD.out, Chg.refl _ _ _, rfl⟩
  · have hl' : 16392 ≤ l ∧ l ≤ 16384 + S := by omega
    have hw8 : IntKind.i64.wrap (l + 8) = l + 8 := i64_wrap _ (by omega) (by omega)
    have HB := hide (fun w h => byte_any N G n S T (l + 8) bs w h (by omega))
    clear hl
    by_cases hk : rowOk S T (l + 8) 1 = true
    · rw [hk] at HB
      simp only [if_true] at HB
      obtain ⟨c, hc⟩ : ∃ c, bs.getD (l + 8).toNat 0 = c := ⟨_, rfl⟩
      rw [hc] at HB
      clear hc
      have HK := hide hk
      clear hk
      go_enter Tryd.func65, Tryd.ntmps65
      go_wp2_with fail
      go_quiet ((go_at_call 32; refine Calls.quiet_of_same (quiet_sw (HB.out _ HD.out.1))))
      go_wp2_with fail
      have HD1 := hide (HD.out.below (drewN_below w nq))
      have HC1 := hide (Chg.drewN G D w nq)
      generalize w.drewN nq = w1 at *
      clear c0 c1 c2 c3 c4 HD HB
      obtain ⟨c0, c1, c2, c3, c4⟩ := HD1.out.cells
      by_cases hlt : l + 8 < 16384 + S
      · have hlt' : decide (l + 8 < 16384 + S) = true := by simpa using hlt
        go_quiet (fail)
        go_wp2_with fail
        have HD2 := hide (HD1.out.below (drewN_below w1 nq))
        have HC2 := hide (HC1.out.trans (Chg.drewN G D w1 nq))
        generalize w1.drewN nq = w2 at *
        clear c0 c1 c2 c3 c4 HD1 HC1
        obtain ⟨c0, c1, c2, c3, c4⟩ := HD2.out.cells
        have HSB := hide (showBit_any c)
        generalize maskB c = d at *
        go_still_tail 12, (by kernel_rfl)
        still_call (quiet_sw (HSB.out _))
        repeat still_step
        refine wpStill_nil ?_
        change wpList _ _ _ _ _ w2.drew
        have HD3 := hide (HD2.out.below (Below.refl _ w2).drew)
        have HC3 := hide (HC2.out.trans (Chg.drew G D w2))
        clear c0 c1 c2 c3 c4 HD2 HC2
        generalize w2.drew = w3 at *
        go_wp2_with fail
        refine (setByte_any N G n S T (l + 8) d bs w3 HD3.out.1 (by omega)).mono ?_
        rw [HK.out]
        rintro e w4 ⟨rfl, hw4⟩
        have hw4' : w4 = w3.setCell ⟨G, (l + 8).toNat, none⟩ (.int .u8 (d.toNat : Int)) := by simpa using hw4
        have HD4 := hide (show Dic N D G n S T h l (bs.set (l + 8).toNat d) w4 by
          rw [hw4']; exact HD3.out.rowed (HD3.out.1.set (l + 8).toNat d) (grownBy_setCell (grownBy_id _ _)))
        have HC4 := hide (show Chg G D w w4 by rw [hw4']; exact HC3.out.trans (.of_grown (grownBy_setCell (grownBy_id _ _))))
        clear hw4 hw4' HD3 HC3
        go_wp2_with fail
        go_end0
        exact ⟨_, bs.set (l + 8).toNat d, rfl, HD4.out, HC4.out, take_set_far _ _ (by omega)⟩
      · have hlt' : decide (l + 8 < 16384 + S) = false := by simpa using hlt
        go_quiet (fail)
        go_wp2_with fail
        go_end0
        exact ⟨⟨_, rfl⟩, bs, HD1.out.below (drewN_below _ _), HC1.out.trans (.drewN _ _ _ _), rfl⟩
    · have hk : rowOk S T (l + 8) 1 = false := by simpa using hk
      rw [hk] at HB
      simp only [Bool.false_eq_true, if_false] at HB
      go_enter Tryd.func65, Tryd.ntmps65
      go_wp2_with fail
      go_quiet ((go_at_call 32; refine Calls.quiet_of_same (quiet_sw (HB.out _ HD.out.1))))
      go_wp2_with fail
      have HD1 := hide (HD.out.below (drewN_below w nq))
      have HC1 := hide (Chg.drewN G D w nq)
      generalize w.drewN nq = w1 at *
      clear c0 c1 c2 c3 c4 HD HB
      obtain ⟨c0, c1, c2, c3, c4⟩ := HD1.out.cells
      go_quiet (fail)
      go_wp2_with fail
      go_end0
      exact ⟨_, bs, rfl, HD1.out.below (drewN_below _ _), HC1.out.trans (.drewN _ _ _ _), rfl⟩

theorem show_any (N D G n : Nat) (S T h l : Int) (bs : List UInt8) (w : World) (hd : Dic N D G n S T h l bs w) :
    Calls Tryd.prog 49 #[.pointer (some ⟨D, 0, none⟩)] w fun e w' =>
      ∃ (v : Value) (bs' : List UInt8), e = .returned v ∧ Dic N D G n S T h l bs' w' ∧ Chg G D w w' ∧ bs'.take 16384 = bs.take 16384 := by
  have HM := hide (marks_any N D G n S T h l bs w hd)
  clear hd
  go_enter Tryd.func49, Tryd.ntmps49
  go_wp2_with fail
  refine HM.out.mono ?_
  rintro e w1 ⟨v, bs', rfl, hd1, hc1, ht1⟩
  have H1 := hide (And.intro hd1 (And.intro hc1 ht1))
  clear hd1 hc1 ht1
  go_wp2_with fail
  go_end0
  exact ⟨_, bs', rfl, H1.out⟩

end Go.Proofs.YthaldkmjjpepjaaDoor
