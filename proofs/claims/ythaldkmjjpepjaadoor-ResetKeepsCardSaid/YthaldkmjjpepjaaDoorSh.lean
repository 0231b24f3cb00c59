/-
  A list's Align, marks, Show.
-/
import Derived.Test.YthaldkmjjpepjaaDoorSg
namespace Go.Proofs.YthaldkmjjpepjaaDoor
open Go.RowKit

/-- Somewhere on the way: the list is a list, the kernel's bytes are lo, nothing else has turned since w0. -/
def DicX (N D G n : Nat) (S T : Int) (lo : List UInt8) (w0 w : World) : Prop := ∃ h l bs, Dic N D G n S T h l bs w ∧ Chg G D w0 w ∧ bs.take 16384 = lo

def hereOf (D : Nat) (w : World) : Int := match w.cell? ⟨D, 3, none⟩ with | some (.int _ q) => q | _ => 0
def alignM (D : Nat) (f : Value) (w : World) : Nat := if intOf f = 0 then 1 + ((-(hereOf D w)) % 8).toNat else 0
theorem Dic.hereOf {N D G n : Nat} {S T h l : Int} {bs : List UInt8} {w : World} (hd : Dic N D G n S T h l bs w) : hereOf D w = h := by
  have := hd.cells.2.2.2.1
  simp only [Go.Proofs.YthaldkmjjpepjaaDoor.hereOf, this]

set_option maxRecDepth 100000 in
set_option maxHeartbeats 2000000 in
theorem align_any (N D G n : Nat) (S T h l : Int) (bs : List UInt8) (w : World) (hd : Dic N D G n S T h l bs w) :
    Calls Tryd.prog 63 #[.pointer (some ⟨D, 0, none⟩)] w fun e w' =>
      ∃ (f h' : Int) (bs' : List UInt8), e = .returned (.int .i64 f) ∧ Dic N D G n S T h' l bs' w' ∧ Chg G D w w' ∧ bs'.take 16384 = bs.take 16384 := by
  have HD := hide hd
  clear hd
  go_enter Tryd.func63, Tryd.ntmps63
  go_wp2_with fail
  go_loopw [3] (fun f wr => ∃ (q h' : Int) (bs' : List UInt8), f = .int .i64 q ∧ Hid (Dic N D G n S T h' l bs' wr ∧ Chg G D w wr ∧ bs'.take 16384 = bs.take 16384)) (fun f wr => alignM D f wr)
  case atStart => exact ⟨0, h, bs, rfl, HD.out, Chg.refl _ _ _, rfl⟩
  case round =>
    obtain ⟨q, h', bs', rfl, hX⟩ := hrel
    obtain ⟨c0, c1, c2, c3, c4⟩ := hX.out.1.cells
    have hh : 16392 ≤ h' ∧ h' ≤ 20000 := by have := hX.out.1.2.2.2.1; have := hX.out.1.1.1.2.1; omega
    by_cases h8 : h' % 8 = 0
    · have h8' : (h' % 8 != 0) = false := by simp [h8]
      go_wp2_with fail
      go_ret
      exact ⟨q, h', bs', rfl, hX.out⟩
    · have h8' : (h' % 8 != 0) = true := by simp [h8]
      have H8 := hide h8
      clear h8
      by_cases hq : q = 0
      · subst hq
        have HC := hide (ccomma_any N D G n S T h' l 0 bs' wr hX.out.1)
        go_wp2_with fail
        refine HC.out.mono ?_
        rintro e w2 ⟨f, h2, bs2, rfl, hd2, hc2, ht2, hf2⟩
        have HD2 := hide hd2
        have HC2 := hide (hX.out.2.1.trans hc2)
        have HT2 := hide (ht2.trans hX.out.2.2)
        have HF2 := hide hf2
        clear hd2 hc2 ht2 hf2 HC c0 c1 c2 c3 c4
        go_wp2_with fail
        go_roundw
        case rel => exact ⟨f, h2, bs2, rfl, HD2.out, HC2.out, HT2.out⟩
        case measure =>
          unfold alignM
          rw [HD2.out.hereOf, hX.out.1.hereOf]
          have h8 := H8.out
          rcases HF2.out with ⟨rfl, rfl⟩ | ⟨hf, rfl⟩
          · simp only [intOf, if_true]
            omega
          · simp only [intOf, hf, if_true, if_false]
            omega
      · have hq' : (q == 0) = false := by simpa using hq
        go_wp2_with fail
        go_ret
        exact ⟨q, h', bs', rfl, hX.out⟩

end Go.Proofs.YthaldkmjjpepjaaDoor
