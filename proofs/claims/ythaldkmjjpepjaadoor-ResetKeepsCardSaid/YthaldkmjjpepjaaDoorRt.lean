/-
  ResetSpoils: its walk.
-/
import Derived.Test.YthaldkmjjpepjaaDoorRn
import Derived.Test.YthaldkmjjpepjaaDoorRs
namespace Go.Proofs.YthaldkmjjpepjaaDoor
open Go.RowKit

/-- A block with what it holds, old memory as it was. -/
def One (w0 : World) (B N : Nat) (X : Obj) (w : World) : Prop := w.heap[N]? = some X ∧ Below B w0 w ∧ B ≤ w.heap.size
theorem One.keep {w0 : World} {B N : Nat} {X : Obj} {w w' : World} (h : One w0 B N X w) (hb : Below w.heap.size w w') : One w0 B N X w' :=
  ⟨(hb.block _ (Array.getElem?_eq_some_iff.1 h.1).1).trans h.1, h.2.1.trans (hb.mono h.2.2), Nat.le_trans h.2.2 hb.size⟩
theorem One.alloc {w0 : World} {B N : Nat} {X : Obj} {w : World} (h : One w0 B N X w) (o : Obj) : One w0 B N X (w.alloc o) := h.keep ((Below.refl _ _).alloc (Nat.le_refl _) _)
theorem One.lt {w0 : World} {B N : Nat} {X : Obj} {w : World} (h : One w0 B N X w) : N < w.heap.size := (Array.getElem?_eq_some_iff.1 h.1).1
theorem One.set {w0 : World} {B N : Nat} {X : Obj} {w : World} (h : One w0 B N X w) {g i : Nat} {u : Value} (hB : B ≤ g) (hne : N ≠ g) : One w0 B N X (w.setCell ⟨g, i, none⟩ u) :=
  ⟨(Below.heap_setCell _ _ _ _ (by exact hne)).trans h.1, h.2.1.setCell (by exact hB) _, by simpa [World.setCell] using h.2.2⟩
theorem One.marked {w0 : World} {B N : Nat} {X : Obj} {w : World} (h : One w0 B N X w) (hm : Marked w0) (hB : B = w0.heap.size) : Marked w := hm.below (hB ▸ h.2.1)

theorem spoil_is {T : ByteArray} {k : Nat} {c d : UInt8} {y : Int} (hk : k < T.size) (hc : (sl T).getD k 0 = c) (hd : d = UInt8.ofNat (xorI c.toNat y).toNat) (hy : 0 ≤ y ∧ y ≤ 255) :
    (y = 0 → mkS ((sl T).set k d) = T) ∧ (y ≠ 0 → okL (sl T) = true → parseV (mkS ((sl T).set k d)) = .tuple #[.agg #[.string ⟨#[]⟩, .string ⟨#[]⟩, .string ⟨#[]⟩, .int .i64 0, .int .i64 0], .int .i64 4]) := by
  have hk' : k < (sl T).length := by rw [sl_length]; exact hk
  have hck : (sl T)[k] = c := by rw [← hc, List.getD_eq_getElem?_getD, List.getElem?_eq_getElem hk', Option.getD_some]
  have hx := xorI_byte c y
  rw [← hd] at hx
  have hc255 := c.toNat_lt
  have hs := xorI_same (x := (c.toNat : Int)) (y := y) (by omega) (by omega) hy.1 hy.2
  constructor
  · intro h0
    have : d = c := by
      apply UInt8.toNat_inj.1
      have := hs.2 h0
      omega
    rw [this, ← hck, List.set_getElem_self, mkS_sl]
  · intro h0 hT
    refine parseV_no ?_
    rw [sl_mkS]
    refine okL_set hT k hk' d fun e => h0 (hs.1 ?_)
    rw [hx, e, hck]

set_option maxRecDepth 100000 in
set_option maxHeartbeats 4000000 in
theorem spoils_long (a0 a1 a2 : ByteArray) (h l : Int) (at_ by_ : Int) (more : ByteArray) (T : ByteArray) (w : World) (hm : Marked w)
    (P : ∀ w, Marked w → Calls Tryd.prog 10 #[.agg #[.string a0, .string a1, .string a2, .int .i64 h, .int .i64 l]] w fun e w' => e = .returned (.tuple #[.string T, .int .i64 0]) ∧ Below w.heap.size w w')
    (hT : okL (sl T) = true) (hV : parseV T = .tuple #[.agg #[.string a0, .string a1, .string a2, .int .i64 h, .int .i64 l], .int .i64 0]) (hz : 52 ≤ T.size) (hz' : T.size ≤ 100000)
    (ha : -9223372036854775808 ≤ at_ ∧ at_ ≤ 9223372036854775807) (hby : 0 ≤ by_ ∧ by_ ≤ 255) (hs : more.size ≤ 140737488351232) :
    Calls Tryd.prog 4 #[.agg #[.string a0, .string a1, .string a2, .int .i64 h, .int .i64 l], .int .i64 at_, .int .u8 by_, .string more] w fun e w' =>
      e = .returned (.bool true) ∧ Below w.heap.size w w' := by
  -- which byte
  obtain ⟨k, hk, K⟩ : ∃ k : Nat, k < T.size ∧ ∀ w, Calls Tryd.prog 15 #[.int .i64 at_, .int .i64 T.size] w fun e w' => e = .returned (.int .i64 k) ∧ w = w' := by
    refine ⟨((if at_ < 0 then -(at_ + 1) else at_) % (T.size : Int)).toNat, ?_, fun w => ?_⟩
    · have h1 := Int.emod_lt_of_pos (if at_ < 0 then -(at_ + 1) else at_) (show (0 : Int) < T.size by omega)
      omega
    · have h0 := Int.emod_nonneg (if at_ < 0 then -(at_ + 1) else at_) (show (T.size : Int) ≠ 0 by omega)
      have := pick_any at_ T.size w (by omega) (by omega) ha.2 ha.1
      rw [Int.toNat_of_nonneg h0]
      exact this
  have HP := hide P
  have HK := hide K
  have HM := hide hm
  have V0 : ∀ w, Marked w → _ := fun w hm => parse_any T w hm (by omega)
  rw [hV] at V0
  have HV0 := hide V0
  -- cut
  have hcut : parseV (T.extract 0 k) = _ := parseV_no (by
    rw [extract_mkS, sl_mkS, List.drop_zero, Nat.sub_zero]
    exact okL_cut hT k (by rw [sl_length]; exact hk))
  have V1 : ∀ w, Marked w → _ := fun w hm => parse_any (T.extract 0 k) w hm (by simp; omega)
  rw [hcut] at V1
  have HV1 := hide V1
  have heq := equalIn_state a0 a1 a2 a0 a1 a2 h l h l
  rw [show sameB a0 a1 a2 a0 a1 a2 h l h l = true by simp [sameB]] at heq
  clear P K V0 V1 hV hm ha hcut
  go_enter Tryd.func4, Tryd.ntmps4
  go_wp2_with fail
  refine (shown_any _ (HM.out.alloc _)).mono ?_
  rintro e w1 ⟨rfl, hb1⟩
  have O1 : One w w.heap.size w.heap.size (.cells #[.string a0, .string a1, .string a2, .int .i64 h, .int .i64 l] 23) w1 := One.keep ⟨heap_alloc_new w _, (Below.refl _ w).alloc (Nat.le_refl _) _, by simp⟩ hb1
  have HO := hide O1
  have z := O1.lt
  obtain ⟨c0, c1, c2, c3, c4⟩ := C5.row O1.1
  clear O1 hb1
  go_wp2_with fail
  refine (HP.out _ (HO.out.marked HM.out rfl)).mono ?_
  rintro e w2 ⟨rfl, hb2⟩
  clear c0 c1 c2 c3 c4 z
  have HO2 := hide (HO.out.keep hb2)
  clear HO hb2
  go_wp2_with fail
  refine (HV0.out _ (HO2.out.marked HM.out rfl)).mono ?_
  rintro e w3 ⟨rfl, hb3⟩
  have HO3 := hide (HO2.out.keep hb3)
  clear HO2 hb3
  obtain ⟨c0, c1, c2, c3, c4⟩ := C5.row HO3.out.1
  have z := HO3.out.lt
  go_wp2_with fail
  refine (HK.out _).mono ?_
  rintro e w4 ⟨rfl, rfl⟩
  clear c0 c1 c2 c3 c4
  have hk0 : (0 : Int) ≤ (k : Int) := by omega
  have hk1 : (k : Int) ≤ (T.size : Int) := by omega
  go_wp2_with fail
  refine (HV1.out _ ((HO3.out.alloc _).marked HM.out rfl)).mono ?_
  rintro e w5 ⟨rfl, hb5⟩
  have HO5 := hide ((HO3.out.alloc _).keep hb5)
  clear HO3 hb5 z
  go_wp2_with (with_reducible refine wpl_bytes _ rfl (.tmp 85) 9 38 5 rfl Tryd.underlying9 Tryd.underlying38 Tryd.underlying5 T rfl (by omega) ?_)
  intro cap w6 hcap hcap' hz6 hb6 hcell hfr
  have HO6 := hide ((HO5.out.alloc (.cells #[.string ⟨#[]⟩, .string ⟨#[]⟩, .string ⟨#[]⟩, .int .i64 0, .int .i64 0] 23)).keep (by simpa using hb6))
  have hB5 := HO5.out.lt
  clear HO5 hb6
  obtain ⟨c, hc⟩ : ∃ c, c = T.data.toList.getD k 0 := ⟨_, rfl⟩
  have hck : w6.cell? ⟨w5.heap.size + 1, k, none⟩ = some (.int .u8 (c.toNat : Int)) := by rw [hc]; simpa using hcell k hk
  have hfk := hfr k hk
  have hcl : (sl T).getD k 0 = c := hc.symm
  have HC := hide hcell
  have hcc := hide hcl
  clear hcell hfr hc hcl
  have zz : w5.heap.size + 1 < w6.heap.size := by omega
  go_upto_region 12 with fail
  obtain ⟨d, hd, hxd⟩ : ∃ d : UInt8, d = UInt8.ofNat (xorI c.toNat by_).toNat ∧ xorI c.toNat by_ = (d.toNat : Int) := ⟨_, rfl, xorI_byte _ _⟩
  rw [show bits BinOp.xor .u8 (c.toNat : Int) by_ = (d.toNat : Int) from hxd]
  have hB1 : w.heap.size ≤ w5.heap.size + 1 := by have := hB5; omega
  have hB2 : w.heap.size ≠ w5.heap.size + 1 := by have := hB5; omega
  have HO7 := hide (HO6.out.set (g := w5.heap.size + 1) (i := k) (u := .int .u8 (d.toNat : Int)) hB1 hB2)
  have hB7 : ∀ j, j < T.size → (w6.setCell ⟨w5.heap.size + 1, k, none⟩ (.int .u8 (d.toNat : Int))).cell? ⟨w5.heap.size + 1, 0 + j, none⟩ = some (.int .u8 ((((sl T).set k d).map fun b => (b.toNat : Int)).getD j 0)) := by
    intro j hj
    rw [Nat.zero_add]
    have hjl : j < (sl T).length := by rw [sl_length]; exact hj
    by_cases e : j = k
    · subst e
      rw [World.cell?_setCell_same _ _ _ hck]
      simp [List.getD_eq_getElem?_getD, hjl]
    · rw [World.cell?_setCell_other _ _ _ _ (fun he => e (by injection he with _ h2; exact h2.symm)), HC.out j hj]
      simp only [List.getD_eq_getElem?_getD, List.getElem?_map, List.getElem?_set_ne (Ne.symm e), sl, Array.getElem?_toList]
      cases T.data[j]? <;> rfl
  generalize w6.setCell ⟨w5.heap.size + 1, k, none⟩ (.int .u8 (d.toNat : Int)) = w7 at *
  have hconv := run_convert_bytes_arg (P := Tryd.prog) w7 38 5 Tryd.underlying38 Tryd.underlying5 (w5.heap.size + 1) 0 T.size cap (((sl T).set k d).map fun b => (b.toNat : Int)) (by simp [sl]) hB7 9 Tryd.underlying9
  rw [strOfNums_u8, show (⟨((sl T).set k d).toArray⟩ : ByteArray) = mkS ((sl T).set k d) from rfl] at hconv
  have HD := hide hd
  clear HC HO6 hck hfk zz hB7 hd hxd
  have hsp := spoil_is hk hcc.out HD.out hby
  have hU : (mkS ((sl T).set k d)).size = T.size := by rw [← sl_length, sl_mkS, List.length_set, sl_length]
  generalize mkS ((sl T).set k d) = U at *
  clear HD hcc
  obtain ⟨p0, p1, p2, q0, q1, kk, K, hK, V3, _⟩ := parse_both (T ++ more)
  have hmo : more = ⟨#[]⟩ ∨ K = 4 := by
    by_cases hm0 : sl more = []
    · exact .inl (sl_inj (by rw [hm0]; rfl))
    · refine .inr ?_
      have := parseV_no (s := T ++ more) (by rw [sl_append]; exact okL_more hT hm0)
      rw [V3] at this
      injection this with this
      have := congrArg (fun a => a[1]?) this
      simpa using this
  have V3' : ∀ w, Marked w → _ := fun w hm => parse_any (T ++ more) w hm (by simp; omega)
  rw [V3] at V3'
  have HV3 := hide V3'
  have HMO := hide hmo
  clear V3 V3' hmo
  by_cases hby0 : by_ = 0
  · subst hby0
    obtain rfl := hsp.1 rfl
    go_wp2_with fail
    refine (HV0.out _ (HO7.out.marked HM.out rfl)).mono ?_
    rintro e w8 ⟨rfl, hb8⟩
    have HO8 := hide (HO7.out.keep hb8)
    clear HO7 hb8
    clear hsp hconv hU
    go_wp2_with fail
    refine (HV3.out _ ((HO8.out.alloc _).marked HM.out rfl)).mono ?_
    rintro e w9 ⟨rfl, hb9⟩
    have HO9 := hide ((HO8.out.alloc (.cells #[.string a0, .string a1, .string a2, .int .i64 h, .int .i64 l] 23)).keep hb9)
    have hx9 := (hb9.block w8.heap.size (by simp)).trans (heap_alloc_new w8 _)
    clear hb9 HO8
    have z := HO9.out.lt
    have z8 := (Array.getElem?_eq_some_iff.1 hx9).1
    obtain ⟨c0, c1, c2, c3, c4⟩ := C5.row HO9.out.1
    obtain ⟨d0, d1, d2, d3, d4⟩ := C5.row hx9
    clear hx9
    rcases HMO.out with rfl | rfl
    · go_wp2_with fail
      all_goals
        go_ret
        exact ⟨rfl, (HO9.out.alloc _).2.1⟩
    · go_wp2_with fail
      all_goals
        go_ret
        exact ⟨rfl, (HO9.out.alloc _).2.1⟩
  · have hg := (beq_eq_false_iff_ne (a := by_) (b := (0 : Int))).2 hby0
    have hV2 := hsp.2 hby0 hT
    have V2 : ∀ w, Marked w → _ := fun w hm => parse_any U w hm (by omega)
    rw [hV2] at V2
    have HV2 := hide V2
    have heq0 := equalIn_state ⟨#[]⟩ ⟨#[]⟩ ⟨#[]⟩ ⟨#[]⟩ ⟨#[]⟩ ⟨#[]⟩ 0 0 0 0
    rw [show sameB ⟨#[]⟩ ⟨#[]⟩ ⟨#[]⟩ ⟨#[]⟩ ⟨#[]⟩ ⟨#[]⟩ 0 0 0 0 = true by decide +kernel] at heq0
    clear hsp hV2 V2 hU heq
    go_wp2_with fail
    refine (HV2.out _ (HO7.out.marked HM.out rfl)).mono ?_
    rintro e w8 ⟨rfl, hb8⟩
    have HO8 := hide (HO7.out.keep hb8)
    clear HO7 hb8 hconv
    go_wp2_with fail
    refine (HV3.out _ ((HO8.out.alloc _).marked HM.out rfl)).mono ?_
    rintro e w9 ⟨rfl, hb9⟩
    have HO9 := hide ((HO8.out.alloc (.cells #[.string ⟨#[]⟩, .string ⟨#[]⟩, .string ⟨#[]⟩, .int .i64 0, .int .i64 0] 23)).keep hb9)
    have hx9 := (hb9.block w8.heap.size (by simp)).trans (heap_alloc_new w8 _)
    clear hb9 HO8
    have z8 := (Array.getElem?_eq_some_iff.1 hx9).1
    obtain ⟨d0, d1, d2, d3, d4⟩ := C5.row hx9
    clear hx9
    rcases HMO.out with rfl | rfl
    · go_wp2_with fail
      all_goals
        go_ret
        exact ⟨rfl, (HO9.out.alloc _).2.1⟩
    · go_wp2_with fail
      all_goals
        go_ret
        exact ⟨rfl, (HO9.out.alloc _).2.1⟩

set_option maxHeartbeats 1000000 in
theorem spoils_short (a0 a1 a2 : ByteArray) (h l : Int) (at_ by_ : Int) (more : ByteArray) (w : World) (hm : Marked w)
    (h0 : a0.size ≤ 9223372036854775807) (h1 : a1.size ≤ 9223372036854775807) (h2 : a2.size ≤ 9223372036854775807) (hf : fitI a0.size a1.size a2.size = false) :
    Calls Tryd.prog 4 #[.agg #[.string a0, .string a1, .string a2, .int .i64 h, .int .i64 l], .int .i64 at_, .int .u8 by_, .string more] w fun e w' =>
      e = .returned (.bool true) ∧ Below w.heap.size w w' := by
  have HP := hide (fun w (_ : Marked w) => print_no a0 a1 a2 h l w h0 h1 h2 hf)
  have HM := hide hm
  have hg : 65536 < (a0.size : Int) ∨ (¬ 65536 < (a0.size : Int) ∧ 4096 < (a1.size : Int)) ∨ (¬ 65536 < (a0.size : Int) ∧ ¬ 4096 < (a1.size : Int) ∧ 4096 < (a2.size : Int)) := by
    by_cases g1 : 65536 < (a0.size : Int)
    · exact .inl g1
    · by_cases g2 : 4096 < (a1.size : Int)
      · exact .inr (.inl ⟨g1, g2⟩)
      · by_cases g3 : 4096 < (a2.size : Int)
        · exact .inr (.inr ⟨g1, g2, g3⟩)
        · exfalso
          rw [fitI_iff.2 ⟨by omega, by omega, by omega⟩] at hf
          exact absurd hf (by decide)
  clear hm hf
  go_enter Tryd.func4, Tryd.ntmps4
  go_wp2_with fail
  refine (shown_any _ (HM.out.alloc _)).mono ?_
  rintro e w1 ⟨rfl, hb1⟩
  have O1 : One w w.heap.size w.heap.size (.cells #[.string a0, .string a1, .string a2, .int .i64 h, .int .i64 l] 23) w1 := One.keep ⟨heap_alloc_new w _, (Below.refl _ w).alloc (Nat.le_refl _) _, by simp⟩ hb1
  have HO := hide O1
  have z := O1.lt
  obtain ⟨c0, c1, c2, c3, c4⟩ := C5.row O1.1
  clear O1 hb1
  go_wp2_with fail
  refine (HP.out _ (HO.out.marked HM.out rfl)).mono ?_
  rintro e w2 ⟨rfl, hb2⟩
  clear c0 c1 c2 c3 c4 z
  have HO2 := hide (HO.out.keep hb2)
  clear HO hb2
  obtain ⟨c0, c1, c2, c3, c4⟩ := C5.row HO2.out.1
  have z := HO2.out.lt
  rcases hg with g1 | ⟨g1, g2⟩ | ⟨g1, g2, g3⟩
  all_goals
    go_wp2_with fail
    go_ret
    exact ⟨rfl, HO2.out.2.1⟩

theorem resetSpoils_any (a0 a1 a2 : ByteArray) (h l : Int) (at_ by_ : Int) (more : ByteArray) (w : World) (hm : Marked w)
    (h0 : a0.size ≤ 9223372036854775807) (h1 : a1.size ≤ 9223372036854775807) (h2 : a2.size ≤ 9223372036854775807)
    (bh : -9223372036854775808 ≤ h ∧ h ≤ 9223372036854775807) (bl : -9223372036854775808 ≤ l ∧ l ≤ 9223372036854775807)
    (ha : -9223372036854775808 ≤ at_ ∧ at_ ≤ 9223372036854775807) (hby : 0 ≤ by_ ∧ by_ ≤ 255) (hs : more.size ≤ 140737488351232) :
    Calls Tryd.prog 4 #[.agg #[.string a0, .string a1, .string a2, .int .i64 h, .int .i64 l], .int .i64 at_, .int .u8 by_, .string more] w fun e w' =>
      e = .returned (.bool true) ∧ Below w.heap.size w w' := by
  by_cases hf : fitI a0.size a1.size a2.size = true
  · obtain ⟨f1, f2, f3⟩ := fitI_iff.1 hf
    have hz : (mkS (printB a0 a1 a2 h l)).size = 52 + (a0.size + a1.size + a2.size) := by rw [← sl_length, sl_mkS, printB_length]
    obtain ⟨q0, q1, q2⟩ := parts_printB hf h l
    refine spoils_long a0 a1 a2 h l at_ by_ more (mkS (printB a0 a1 a2 h l)) w hm (fun w hm => print_ok a0 a1 a2 h l w hm hf) (by rw [sl_mkS]; exact okL_printB hf h l) ?_ (by omega) (by omega) ha hby hs
    rw [parseV_ok (by rw [sl_mkS]; exact okL_printB hf h l), sl_mkS, q0, q1, q2, numAt_printB _ _ _ _ _ 3 (by omega), numAt_printB _ _ _ _ _ 4 (by omega)]
    have e1 : IntKind.i64.wrap (u64N h : Int) = h := i64_u64N bh.1 bh.2
    have e2 : IntKind.i64.wrap (u64N l : Int) = l := i64_u64N bl.1 bl.2
    simp [mkS_sl, e1, e2]
  · exact spoils_short a0 a1 a2 h l at_ by_ more w hm h0 h1 h2 (by simpa using hf)

end Go.Proofs.YthaldkmjjpepjaaDoor
