/-
  The reference's Parse of layer 16.
-/
import Derived.Test.YthaldkmjjpepjaaDoorRe
namespace Go.Proofs.YthaldkmjjpepjaaDoor
open Go.RowKit

/-- What the reference's Parse answers. -/
def rparseV (s : ByteArray) : Value := .tuple #[parseA (sl s), .bool (okL (sl s))]
theorem rparseV_no {s : ByteArray} (h : okL (sl s) = false) : rparseV s = .tuple #[.agg #[.string ⟨#[]⟩, .string ⟨#[]⟩, .string ⟨#[]⟩, .int .i64 0, .int .i64 0], .bool false] := by
  simp [rparseV, parseA, h]
theorem rparseV_ok {s : ByteArray} (h : okL (sl s) = true) : rparseV s = .tuple #[.agg #[.string (mkS (part0 (sl s))), .string (mkS (part1 (sl s))), .string (mkS (part2 (sl s))),
    .int .i64 (IntKind.i64.wrap (numAt (sl s) 3)), .int .i64 (IntKind.i64.wrap (numAt (sl s) 4))], .bool true] := by
  simp [rparseV, parseA, h]

theorem i64_wrap (a : Int) (h0 : -9223372036854775808 ≤ a) (h1 : a ≤ 9223372036854775807) : IntKind.i64.wrap a = a := by
  simp only [IntKind.wrap, IntKind.bits, IntKind.signed]
  simp
  omega

theorem ext04 (s : ByteArray) : (s.extract 0 4).toList = (sl s).take 4 := by
  rw [ByteArray.toList_eq]
  have := congrArg sl (extract_mkS s 0 4)
  rw [sl_mkS] at this
  simp only [Nat.sub_zero, List.drop_zero] at this
  exact this

set_option maxHeartbeats 1000000 in
theorem rparse_short (s : ByteArray) (w : World) (hs : s.size < 52) :
    Calls Tryd.prog 14 #[.string s] w fun e w' => e = .returned (rparseV s) ∧ Below w.heap.size w w' := by
  have g1 : decide ((s.size : Int) < 52) = true := by simp; omega
  have HNO := hide (rparseV_no (s := s) (by simp [okL, sl_length]; omega))
  go_enter Tryd.func14, Tryd.ntmps14
  go_wp2_with fail
  refine post_cell_tmp (g := w.heap.size) rfl rfl rfl rfl (heap_alloc_new w _) Tryd.underlying30 rfl (by kernel_rfl) ⟨by rw [HNO.out]; rfl, (Below.refl _ _).alloc (Nat.le_refl _) _⟩

set_option maxHeartbeats 1000000 in
theorem rparse_mark (s : ByteArray) (w : World) (hs : 52 ≤ s.size) (hs' : s.size ≤ 9223372036854775807) (hne : (sl s).take 4 ≠ [80, 82, 83, 49]) :
    Calls Tryd.prog 14 #[.string s] w fun e w' => e = .returned (rparseV s) ∧ Below w.heap.size w w' := by
  have HNO := hide (rparseV_no (s := s) (by simp [okL, hne]))
  have g1 : decide ((s.size : Int) < 52) = false := by simp; omega
  have g2 : (4 : Int) ≤ (s.size : Int) := by omega
  have g3 : ((s.extract 0 4).toList == [80, 82, 83, 49]) = false := by rw [ext04]; simpa using hne
  clear hne
  go_enter Tryd.func14, Tryd.ntmps14
  go_wp2_with fail
  refine post_cell_tmp (g := w.heap.size) rfl rfl rfl rfl (heap_alloc_new w _) Tryd.underlying30 rfl (by kernel_rfl) ⟨by rw [HNO.out]; rfl, (Below.refl _ _).alloc (Nat.le_refl _) _⟩

set_option maxRecDepth 100000 in
set_option maxHeartbeats 4000000 in
theorem rparse_long (s : ByteArray) (w : World) (hs : 52 ≤ s.size) (hs' : s.size ≤ 9223372036854775807) (hne : (sl s).take 4 = [80, 82, 83, 49]) :
    Calls Tryd.prog 14 #[.string s] w fun e w' => e = .returned (rparseV s) ∧ Below w.heap.size w w' := by
  have g1 : decide ((s.size : Int) < 52) = false := by simp; omega
  have g2 : (4 : Int) ≤ (s.size : Int) := by omega
  have g3 : ((s.extract 0 4).toList == [80, 82, 83, 49]) = true := by rw [ext04]; simpa using hne
  obtain ⟨E, hE⟩ : ∃ E, s.size = E + 8 := ⟨s.size - 8, by omega⟩
  have b0 := numAt_lt (sl s) 0
  have b1 := numAt_lt (sl s) 1
  have b2 := numAt_lt (sl s) 2
  have b3 := numAt_lt (sl s) 3
  have b4 := numAt_lt (sl s) 4
  obtain ⟨x0, hx0⟩ : ∃ x, numAt (sl s) 0 = x := ⟨_, rfl⟩
  obtain ⟨x1, hx1⟩ : ∃ x, numAt (sl s) 1 = x := ⟨_, rfl⟩
  obtain ⟨x2, hx2⟩ : ∃ x, numAt (sl s) 2 = x := ⟨_, rfl⟩
  obtain ⟨x3, hx3⟩ : ∃ x, numAt (sl s) 3 = x := ⟨_, rfl⟩
  obtain ⟨x4, hx4⟩ : ∃ x, numAt (sl s) 4 = x := ⟨_, rfl⟩
  have R0 : ∀ w, Calls Tryd.prog 39 #[.string s, .int .i64 4] w fun e w' => e = .returned (.int .u64 x0) ∧ w = w' := fun w => by
    have := rread_any s 4 _ w hs' (by omega) rfl; rw [← hx0]; exact this
  have R1 : ∀ w, Calls Tryd.prog 39 #[.string s, .int .i64 12] w fun e w' => e = .returned (.int .u64 x1) ∧ w = w' := fun w => by
    have := rread_any s 12 _ w hs' (by omega) rfl; rw [← hx1]; exact this
  have R2 : ∀ w, Calls Tryd.prog 39 #[.string s, .int .i64 20] w fun e w' => e = .returned (.int .u64 x2) ∧ w = w' := fun w => by
    have := rread_any s 20 _ w hs' (by omega) rfl; rw [← hx2]; exact this
  have R3 : ∀ w, Calls Tryd.prog 39 #[.string s, .int .i64 28] w fun e w' => e = .returned (.int .u64 x3) ∧ w = w' := fun w => by
    have := rread_any s 28 _ w hs' (by omega) rfl; rw [← hx3]; exact this
  have R4 : ∀ w, Calls Tryd.prog 39 #[.string s, .int .i64 36] w fun e w' => e = .returned (.int .u64 x4) ∧ w = w' := fun w => by
    have := rread_any s 36 _ w hs' (by omega) rfl; rw [← hx4]; exact this
  rw [hx0] at b0
  rw [hx1] at b1
  rw [hx2] at b2
  rw [hx3] at b3
  rw [hx4] at b4
  have HR0 := hide R0
  have HR1 := hide R1
  have HR2 := hide R2
  have HR3 := hide R3
  have HR4 := hide R4
  have HX := hide (And.intro hx0 (And.intro hx1 (And.intro hx2 (And.intro hx3 hx4))))
  clear hx0 hx1 hx2 hx3 hx4 R0 R1 R2 R3 R4
  have HNE := hide hne
  clear hne
  go_enter Tryd.func14, Tryd.ntmps14
  go_wp2_with fail
  refine (HR0.out _).mono ?_
  rintro e w' ⟨rfl, rfl⟩
  go_wp2_with fail
  refine (HR1.out _).mono ?_
  rintro e w' ⟨rfl, rfl⟩
  go_wp2_with fail
  refine (HR2.out _).mono ?_
  rintro e w' ⟨rfl, rfl⟩
  by_cases f0 : x0 ≤ 65536
  · by_cases f1 : x1 ≤ 4096
    · by_cases f2 : x2 ≤ 4096
      · have hfit : fitI x0 x1 x2 = true := fitI_iff.2 ⟨by omega, by omega, by omega⟩
        have i0 : IntKind.i64.wrap (x0 : Int) = (x0 : Int) := i64_wrap _ (by omega) (by omega)
        have i1 : IntKind.i64.wrap (x1 : Int) = (x1 : Int) := i64_wrap _ (by omega) (by omega)
        have i2 : IntKind.i64.wrap (x2 : Int) = (x2 : Int) := i64_wrap _ (by omega) (by omega)
        by_cases hlen : E = 44 + x0 + x1 + x2
        · have hne0 : ((E : Int) + 8 != 52 + (x0 : Int) + (x1 : Int) + (x2 : Int)) = false := by simp; omega
          have HLEN := hide hlen
          clear hlen
          have hse : sl (s.extract 0 E) = (sl s).take E := by
            have := congrArg sl (extract_mkS s 0 E)
            rw [sl_mkS] at this
            simpa using this
          have HSE := hide hse
          clear hse
          have hsz : (s.extract 0 E).size ≤ 9223372036854775807 := by simp; omega
          have HS : ∀ w, Calls Tryd.prog 37 #[.string (s.extract 0 E)] w fun e w' => e = .returned (.int .u64 (sumN ((sl s).take E) : Nat)) ∧ w = w' := fun w => by
            have := rsum_any _ w hsz; rw [HSE.out] at this; exact this
          have HE : ∀ w, Calls Tryd.prog 39 #[.string s, .int .i64 E] w fun e w' => e = .returned (.int .u64 (rdN ((sl s).drop E) : Nat)) ∧ w = w' := fun w =>
            rread_any s E _ w hs' (by omega) (by rw [List.take_of_length_le]; rw [List.length_drop, sl_length]; omega)
          have HHS := hide HS
          have HHE := hide HE
          clear HS HE hsz
          have q0 : (0 : Int) ≤ (E : Int) := by omega
          have q1 : (E : Int) ≤ (E : Int) + 8 := by omega
          by_cases hsum : rdN ((sl s).drop E) = sumN ((sl s).take E)
          · have hsne : ((sumN ((sl s).take E) : Int) != (rdN ((sl s).drop E) : Int)) = false := by simp; omega
            have HOK := hide (show okL (sl s) = true by simp only [okL, HX.out, hfit, sl_length, hE, Nat.add_sub_cancel, hsum, HNE.out]; have := HLEN.out; simp; omega)
            clear hsum
            go_wp2_with (first
              | (go_at_call 37; refine (HHS.out _).mono ?_; rintro e w' ⟨rfl, rfl⟩)
              | (go_at_call 39; refine (HHE.out _).mono ?_; rintro e w' ⟨rfl, rfl⟩))
            have e0 := HLEN.out
            have p0 : (0 : Int) ≤ 44 + (x0 : Int) := by omega
            have p1 : (44 : Int) ≤ 44 + (x0 : Int) := by omega
            have p2 : 44 + (x0 : Int) ≤ (E : Int) + 8 := by omega
            have p3 : 44 + (x0 : Int) ≤ 44 + (x0 : Int) + (x1 : Int) := by omega
            have p4 : 44 + (x0 : Int) + (x1 : Int) ≤ (E : Int) + 8 := by omega
            have p5 : 44 + (x0 : Int) + (x1 : Int) ≤ 44 + (x0 : Int) + (x1 : Int) + (x2 : Int) := by omega
            have p6 : 44 + (x0 : Int) + (x1 : Int) + (x2 : Int) ≤ (E : Int) + 8 := by omega
            have p7 : (0 : Int) ≤ 44 + (x0 : Int) + (x1 : Int) := by omega
            have p8 : IntKind.i64.wrap (44 + (x0 : Int) + (x1 : Int) + (x2 : Int)) = 44 + (x0 : Int) + (x1 : Int) + (x2 : Int) := i64_wrap _ (by omega) (by omega)
            have t0 : (44 + (x0 : Int)).toNat = 44 + x0 := by omega
            have t1 : (44 + (x0 : Int) + (x1 : Int)).toNat = 44 + x0 + x1 := by omega
            have t2 : (44 + (x0 : Int) + (x1 : Int) + (x2 : Int)).toNat = 44 + x0 + x1 + x2 := by omega
            have hrow := heap_alloc_new w (.cells #[.string ⟨#[]⟩, .string ⟨#[]⟩, .string ⟨#[]⟩, .int .i64 0, .int .i64 0] 30)
            have hbA : Below w.heap.size w (w.alloc (.cells #[.string ⟨#[]⟩, .string ⟨#[]⟩, .string ⟨#[]⟩, .int .i64 0, .int .i64 0] 30)) := (Below.refl _ _).alloc (Nat.le_refl _) _
            generalize w.alloc (.cells #[.string ⟨#[]⟩, .string ⟨#[]⟩, .string ⟨#[]⟩, .int .i64 0, .int .i64 0] 30) = wq at hrow hbA ⊢
            clear e0 b0 b1 b2 b3 b4 f0 f1 f2 hfit i0 i1 hne0 q0 q1 hsne g1 g2 g3
            go_still_tail 21, (by kernel_rfl)
            still_call (quiet_sw (HR3.out _))
            repeat still_step
            still_call (quiet_sw (HR4.out _))
            repeat still_step
            refine wpStill_nil ?_
            change wpList _ _ _ _ _ wq.drew
            have hrowD : wq.drew.heap[w.heap.size]? = some (.cells #[.string ⟨#[]⟩, .string ⟨#[]⟩, .string ⟨#[]⟩, .int .i64 0, .int .i64 0] 30 (0, 0)) := hrow
            have hbD : Below w.heap.size w wq.drew := hbA.drew
            generalize wq.drew = wd at hrowD hbD ⊢
            refine wpl_stRow wd rfl 30 (.tmp 2) (.tmp 90) rfl w.heap.size 30 _ _ rfl rfl hrowD (by kernel_rfl) rfl (by simp [Value.oneCell']) ?_
            intro w2 hrow2 hgr hs2
            go_wp2_with fail
            refine post_cell_tmp (g := w.heap.size) rfl rfl rfl rfl hrow2 Tryd.underlying30 rfl (by kernel_rfl) ⟨?_, ?_⟩
            · rw [rparseV_ok HOK.out, part0, part1, part2, HX.out.1, HX.out.2.1, HX.out.2.2.1, HX.out.2.2.2.1, HX.out.2.2.2.2]
              rw [extract_mkS s, extract_mkS s, extract_mkS s, show 44 + x0 - 44 = x0 by omega, show 44 + x0 + x1 - (44 + x0) = x1 by omega, show 44 + x0 + x1 + x2 - (44 + x0 + x1) = x2 by omega]
              rfl
            · exact hbD.grown hgr (by exact hbD.size) (by simp)
          · have hsne : ((sumN ((sl s).take E) : Int) != (rdN ((sl s).drop E) : Int)) = true := by simp; omega
            have HNO := hide (rparseV_no (s := s) (by simp only [okL, HX.out, hfit, sl_length, hE, Nat.add_sub_cancel]; simp [hsum]))
            clear hsum
            go_wp2_with (first
              | (go_at_call 37; refine (HHS.out _).mono ?_; rintro e w' ⟨rfl, rfl⟩)
              | (go_at_call 39; refine (HHE.out _).mono ?_; rintro e w' ⟨rfl, rfl⟩))
            refine post_cell_tmp (g := w.heap.size) rfl rfl rfl rfl (heap_alloc_new w _) Tryd.underlying30 rfl (by kernel_rfl) ⟨by rw [HNO.out]; rfl, (Below.refl _ _).alloc (Nat.le_refl _) _⟩
        · have HNO := hide (rparseV_no (s := s) (by simp only [okL, HX.out, hfit, sl_length, hE]; simp; omega))
          have hne0 : ((E : Int) + 8 != 52 + (x0 : Int) + (x1 : Int) + (x2 : Int)) = true := by simp; omega
          go_wp2_with fail
          refine post_cell_tmp (g := w.heap.size) rfl rfl rfl rfl (heap_alloc_new w _) Tryd.underlying30 rfl (by kernel_rfl) ⟨by rw [HNO.out]; rfl, (Below.refl _ _).alloc (Nat.le_refl _) _⟩
      · have HNO := hide (rparseV_no (s := s) (by simp [okL, HX.out, fitI]; omega))
        have f2' : 4096 < x2 := by omega
        go_wp2_with fail
        refine post_cell_tmp (g := w.heap.size) rfl rfl rfl rfl (heap_alloc_new w _) Tryd.underlying30 rfl (by kernel_rfl) ⟨by rw [HNO.out]; rfl, (Below.refl _ _).alloc (Nat.le_refl _) _⟩
    · have HNO := hide (rparseV_no (s := s) (by simp [okL, HX.out, fitI]; omega))
      have f1' : 4096 < x1 := by omega
      go_wp2_with fail
      refine post_cell_tmp (g := w.heap.size) rfl rfl rfl rfl (heap_alloc_new w _) Tryd.underlying30 rfl (by kernel_rfl) ⟨by rw [HNO.out]; rfl, (Below.refl _ _).alloc (Nat.le_refl _) _⟩
  · have HNO := hide (rparseV_no (s := s) (by simp [okL, HX.out, fitI]; omega))
    have f0' : 65536 < x0 := by omega
    go_wp2_with fail
    refine post_cell_tmp (g := w.heap.size) rfl rfl rfl rfl (heap_alloc_new w _) Tryd.underlying30 rfl (by kernel_rfl) ⟨by rw [HNO.out]; rfl, (Below.refl _ _).alloc (Nat.le_refl _) _⟩

theorem rparse_any (s : ByteArray) (w : World) (hs : s.size ≤ 9223372036854775807) :
    Calls Tryd.prog 14 #[.string s] w fun e w' => e = .returned (rparseV s) ∧ Below w.heap.size w w' := by
  by_cases h1 : s.size < 52
  · exact rparse_short s w h1
  · by_cases h2 : (sl s).take 4 = [80, 82, 83, 49]
    · exact rparse_long s w (by omega) hs h2
    · exact rparse_mark s w (by omega) hs h2

end Go.Proofs.YthaldkmjjpepjaaDoor
