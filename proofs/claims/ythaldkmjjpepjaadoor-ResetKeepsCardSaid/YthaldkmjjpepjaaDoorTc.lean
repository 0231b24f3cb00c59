/-
  A head that lies there.
-/
import Derived.Test.YthaldkmjjpepjaaDoorTb
import Derived.Maps.OwnOps
import Derived.Maps.Keyed
import Derived.WideMake
import Derived.Deep.RegionHeld3
namespace Go.Proofs.YthaldkmjjpepjaaDoor
open Go.RowKit Go.Maps

theorem wf_i64 (v : Int) (h0 : -9223372036854775808 ≤ v) (h1 : v ≤ 9223372036854775807) : (Lit.int .i64 v).wf = true := by
  have e1 : IntKind.i64.min = -9223372036854775808 := rfl
  have e2 : IntKind.i64.max = 9223372036854775807 := rfl
  simp [Lit.wf, e1, e2, h0, h1]

theorem flag_lookup {u : World} {M n : Nat} {D : DataW Unit} (hown : u.ownsMap Tryd.prog 5 (plainElem (H := Unit) Tryd.prog 3) M n D) (q v : Int) (hq : (Lit.int .u8 q).wf = true)
    (hat : D.atKey (.int .u8 q) (.lit (.int .i64 0)) = .lit (.int .i64 v)) : (Instr.lookup 140 (.map (some M)) (.int .u8 q) false).run Tryd.prog u = .ok (.int .i64 v) u := by
  obtain ⟨c, hr, hc, _⟩ := hown.lookup_int (int_keyed Tryd.underlying5) Tryd.underlying140 Tryd.underlying3 (Tryd.zeroValue3 _) (keyOf_int_mk Tryd.underlying5 hq)
  rw [hat] at hc
  obtain rfl : v = c := by simpa using hc
  exact hr

/-- A struct into a block of its own, at one operation. -/
theorem wp_stRow {P : Program} {o : Oper} {a : Act} {Q : Exit → Act → World → Prop} {K : Act → World → Prop} (W : World)
    (ty : TypeId) (x y : Operand) (ho : o.op = .store ty x y) (g : Nat) (t : TypeId) (old cells : Array Value)
    (hx : a.eval x = .pointer (some ⟨g, 0, none⟩)) (hy : a.eval y = .agg cells) (hg : W.heap[g]? = some (.cells old t (0, 0))) (hi : (P.info? ty).map (·.size) = some cells.size)
    (hs : old.size = cells.size) (h1 : cells.all (·.oneCell') = true)
    (h : ∀ w', w'.heap[g]? = some (.cells cells t (0, 0)) → W.grownBy w' (some g) → w'.heap.size = W.heap.size → K (a.put o.dst undef) w') : Oper.wp P o a W K Q := by
  have hr := run_storeVar_row (P := P) W g t ty old cells hg hi hs h1
  unfold Oper.wp execOp
  simp only [ho, hx, hy, Instr.storeAt, Instr.sureAddr, Sem.run_bind, Sem.run_pure, Result.andThen_ok, hr]
  exact h _ (setRow_heap W g old cells t _ hg) ⟨rfl, rfl, rfl, by simp, fun k _ hk => setRow_other W g k _ (by intro e; subst e; exact hk rfl)⟩ (by simp)

theorem hdB_yes {S : Int} {bs : List UInt8} {a : Int} (h : hdB S bs a = true) : ∃ i : Nat, a = (i : Int) ∧ i % 8 = 0 ∧ 16392 ≤ i ∧ (i : Int) ≤ 16384 + S - 16 ∧ nlen bs i ≠ 0 ∧ (xtN bs i : Int) ≤ 16384 + S := by
  simp only [hdB, Bool.and_eq_true, decide_eq_true_eq] at h
  obtain ⟨⟨⟨⟨h0, h1⟩, h2⟩, h3⟩, h4⟩ := h
  obtain ⟨i, rfl⟩ : ∃ i : Nat, a = (i : Int) := ⟨a.toNat, by omega⟩
  rw [Int.tmod_eq_emod_of_nonneg (by omega)] at h0
  exact ⟨i, rfl, by omega, by omega, h2, h3, h4⟩

set_option maxRecDepth 100000 in
set_option maxHeartbeats 8000000 in
theorem head_yes (N D G n i : Nat) (S T h l : Int) (bs : List UInt8) (w : World) (hd : Dic N D G n S T h l bs w) (hi8 : i % 8 = 0) (g1 : 16392 ≤ i) (g2 : (i : Int) ≤ 16384 + S - 16) (hk0 : nlen bs i ≠ 0) (hx0 : (xtN bs i : Int) ≤ 16384 + S) :
    Calls Tryd.prog 68 #[.pointer (some ⟨D, 0, none⟩), .int .i64 (i : Int)] w fun e w' =>
      e = .returned (.tuple #[.agg (wordAt bs i).cells, .int .i64 (cellV bs i), .bool true]) ∧ Below w.heap.size w w' := by
  have hS := hd.1.1.2.1
  obtain ⟨c0, c1, c2, c3, c4⟩ := hd.cells
  have hDz : D < w.heap.size := (Array.getElem?_eq_some_iff.1 hd.2.1).1
  have HD := hide hd
  clear hd
  have g0'' : ((i : Int) % 8 != 0) = false := by simp; omega
  have HC := hide (fun w h => cell_any N G n i S T bs w h hi8 (by omega) (by omega))
  have hok : rowOk S T ((i : Int) + 8) 1 = true := by
    rcases reg_cases S T ((i : Int) + 8) hS with q | q | q | q | q <;> simp only [rowOk, q, Bool.and_eq_true, decide_eq_true_eq] <;> omega
  have HB := hide (fun w h => byte_any N G n S T ((i : Int) + 8) bs w h (by omega))
  rw [hok, show ((i : Int) + 8).toNat = i + 8 by omega] at HB
  simp only [if_true] at HB
  have hl31 := nlen_le bs i
  have hxe : xtN bs i = (i + 9 + nlen bs i + 7) / 8 * 8 := rfl
  have HT := hide (fun w h => text_any N G n (i + 9) (nlen bs i) S T bs w h (by omega) (by omega) (by omega))
  rw [show ((i + 9 : Nat) : Int) = (i : Int) + 9 by omega] at HT
  have hb31 := and31_bits (bs.getD (i + 8) 0).toNat (by have := (bs.getD (i + 8) 0).toNat_lt; omega)
  rw [show (bs.getD (i + 8) 0).toNat % 32 = nlen bs i from rfl] at hb31
  have hb0 : 0 ≤ ((bs.getD (i + 8) 0).toNat : Int) := by omega
  have hb255 : ((bs.getD (i + 8) 0).toNat : Int) ≤ 255 := by have := (bs.getD (i + 8) 0).toNat_lt; omega
  have b32 : bits .and .u8 ((bs.getD (i + 8) 0).toNat : Int) 32 = bitI (bs.getD (i + 8) 0) 32 := rfl
  have b64 : bits .and .u8 ((bs.getD (i + 8) 0).toNat : Int) 64 = bitI (bs.getD (i + 8) 0) 64 := rfl
  have b128 : bits .and .u8 ((bs.getD (i + 8) 0).toNat : Int) 128 = bitI (bs.getD (i + 8) 0) 128 := rfl
  obtain ⟨p0, p1⟩ := bitI_le (bs.getD (i + 8) 0) 32
  obtain ⟨q0, q1⟩ := bitI_le (bs.getD (i + 8) 0) 64
  obtain ⟨r0, r1⟩ := bitI_le (bs.getD (i + 8) 0) 128
  unfold wordAt WordV.cells
  dsimp only
  generalize bitI (bs.getD (i + 8) 0) 32 = v32 at *
  generalize bitI (bs.getD (i + 8) 0) 64 = v64 at *
  generalize bitI (bs.getD (i + 8) 0) 128 = v128 at *
  have HX := hide hxe
  generalize (bs.getD (i + 8) 0).toNat = c at *
  generalize mkS ((bs.drop (i + 9)).take (nlen bs i)) = nm at *
  generalize xtN bs i = x at *
  generalize nlen bs i = k at *
  generalize cellV bs i = cv at *
  have HU := hide (fun w => up_any (i + 9 + k) w (by omega))
  rw [show ((i + 9 + k : Nat) : Int) = (i : Int) + 9 + (k : Int) by omega, ← HX.out] at HU
  have e9 : IntKind.i64.wrap ((i : Int) + 9) = (i : Int) + 9 := i64_wrap _ (by omega) (by omega)
  have e9k : IntKind.i64.wrap ((i : Int) + 9 + (k : Int)) = (i : Int) + 9 + (k : Int) := i64_wrap _ (by omega) (by omega)
  have k0 : ((k : Int) == 0) = false := by simpa using hk0
  have hgt : decide ((x : Int) > 16384 + S) = false := by simpa using hx0
  have g1' : 16392 ≤ (i : Int) := by omega
  have hk1 : 1 ≤ (k : Int) := by omega
  clear hok hxe hk0
  have HD1 := hide (HD.out.below ((Below.refl _ w).alloc (Nat.le_refl _) boxNo))
  have HO1 := hide (show One w w.heap.size w.heap.size boxNo (w.alloc boxNo) from ⟨heap_alloc_new w _, (Below.refl _ w).alloc (Nat.le_refl _) _, by simp⟩)
  go_enter Tryd.func68, Tryd.ntmps68
  go_wp2_with fail
  refine (HC.out _ HD1.out.1).mono ?_
  rintro e w1 ⟨rfl, hb1⟩
  have HD2 := hide (HD1.out.below hb1)
  have HO2 := hide (HO1.out.keep hb1)
  clear hb1 HD1 HO1 c0 c1 c2 c3 c4
  obtain ⟨c0, c1, c2, c3, c4⟩ := HD2.out.cells
  go_wp2_with fail
  refine (HB.out _ HD2.out.1).mono ?_
  rintro e w2 ⟨rfl, rfl⟩
  go_upto_region 6 with fail
  go_quiet ((go_at_call 60; exact Calls.quiet_of_same (quiet_sw (HU.out _))))
  have HD3 := hide (HD2.out.below (drewN_below w1 nq))
  have HO3 := hide (HO2.out.keep (drewN_below w1 nq))
  clear HD2 HO2 c0 c1 c2 c3 c4 HC HB
  generalize w1.drewN nq = w2 at *
  obtain ⟨c0, c1, c2, c3, c4⟩ := HD3.out.cells
  go_wp2_with fail
  refine (HT.out _ HD3.out.1).mono ?_
  rintro e w3 ⟨rfl, rfl⟩
  have hmm := @run_makeMap Tryd.prog
  go_wp2_with fail
  clear hmm HT
  have hown0 := hide (World.ownsMap.kept (World.ownsMap_made w2 Tryd.prog 5 (plainElem (H := Unit) Tryd.prog 3)) (World.grownBy_alloc _ (.cells #[.int .u8 32, .int .u8 64, .int .u8 128] 5) none) (by simp))
  have HR0 := hide (heap_alloc_new (w2.alloc (.map #[] 0)) (.cells #[.int .u8 32, .int .u8 64, .int .u8 128] 5))
  have HB0 := hide (show Below w2.heap.size w2 ((w2.alloc (.map #[] 0)).alloc (.cells #[.int .u8 32, .int .u8 64, .int .u8 128] 5)) from ((Below.refl _ _).alloc (Nat.le_refl _) _).alloc (by simp) _)
  rw [World.size_alloc] at HR0
  generalize (w2.alloc (.map #[] 0)).alloc (.cells #[.int .u8 32, .int .u8 64, .int .u8 128] 5) = u0 at *
  have wf32 := hide (wf_i64 v32 (by omega) (by omega))
  have wf64 := hide (wf_i64 v64 (by omega) (by omega))
  have wf128 := hide (wf_i64 v128 (by omega) (by omega))
  refine wp_loop_rounds 4 ?_
  rw [rounds_succ]
  have d0 : u0.cell? ⟨w2.heap.size + 1, 0, none⟩ = some (.int .u8 32) := cell_of_row _ _ 0 _ _ _ HR0.out
  go_wp2_with (with_reducible refine wpList_mapUpdate_own u0 rfl (.tmp 93) (.tmp 94) (.tmp 98) 140 rfl 5 3 (int_keyed Tryd.underlying5) Tryd.underlying140 (plainElem (H := Unit) Tryd.prog 3) w2.heap.size 0 _ rfl hown0.out (by decide) (.int .u8 32) (.int .i64 v32) (.int .u8 32) rfl rfl (keyOf_int_mk Tryd.underlying5 (by decide)) _ [] (plainElem_int Tryd.underlying3 wf32.out) ?_)
  intro u1 hown1' hg1'
  have hown1 := hide hown1'
  have HR1 := hide ((hg1'.block (w2.heap.size + 1) (Array.getElem?_eq_some_iff.1 HR0.out).1 (by simp)).trans HR0.out)
  have HB1 := hide (HB0.out.grown hg1' HB0.out.size (by simp))
  clear d0 hown1' hg1' hown0 HR0 HB0
  go_wp2_with fail
  rw [rounds_succ]
  have d1 : u1.cell? ⟨w2.heap.size + 1, 1, none⟩ = some (.int .u8 64) := cell_of_row _ _ 1 _ _ _ HR1.out
  go_wp2_with (with_reducible refine wpList_mapUpdate_own u1 rfl (.tmp 93) (.tmp 94) (.tmp 98) 140 rfl 5 3 (int_keyed Tryd.underlying5) Tryd.underlying140 (plainElem (H := Unit) Tryd.prog 3) w2.heap.size 1 _ rfl hown1.out (by decide) (.int .u8 64) (.int .i64 v64) (.int .u8 64) rfl rfl (keyOf_int_mk Tryd.underlying5 (by decide)) _ [] (plainElem_int Tryd.underlying3 wf64.out) ?_)
  intro u2 hown2' hg2'
  have hown2 := hide hown2'
  have HR2 := hide ((hg2'.block (w2.heap.size + 1) (Array.getElem?_eq_some_iff.1 HR1.out).1 (by simp)).trans HR1.out)
  have HB2 := hide (HB1.out.grown hg2' HB1.out.size (by simp))
  clear d1 hown2' hg2' hown1 HR1 HB1
  go_wp2_with fail
  rw [rounds_succ]
  have d2 : u2.cell? ⟨w2.heap.size + 1, 2, none⟩ = some (.int .u8 128) := cell_of_row _ _ 2 _ _ _ HR2.out
  go_wp2_with (with_reducible refine wpList_mapUpdate_own u2 rfl (.tmp 93) (.tmp 94) (.tmp 98) 140 rfl 5 3 (int_keyed Tryd.underlying5) Tryd.underlying140 (plainElem (H := Unit) Tryd.prog 3) w2.heap.size 2 _ rfl hown2.out (by decide) (.int .u8 128) (.int .i64 v128) (.int .u8 128) rfl rfl (keyOf_int_mk Tryd.underlying5 (by decide)) _ [] (plainElem_int Tryd.underlying3 wf128.out) ?_)
  intro u3 hown3' hg3'
  have hown3 := hide hown3'
  have HR3 := hide ((hg3'.block (w2.heap.size + 1) (Array.getElem?_eq_some_iff.1 HR2.out).1 (by simp)).trans HR2.out)
  have HB3 := hide (HB2.out.grown hg3' HB2.out.size (by simp))
  clear d2 hown3' hg3' hown2 HR2 HB2
  go_wp2_with fail
  rw [rounds_succ]
  go_wp2_with fail
  have HO4 := hide (((HO3.out.keep HB3.out).keep (Below.refl _ u3).drew))
  have hown4 := hide (hown3.out.kept (grownBy_of_below (Below.refl u3.heap.size u3).drew none) (by simp))
  have L64 := flag_lookup hown4.out 64 v64 (by decide) rfl
  have L32 := flag_lookup hown4.out 32 v32 (by decide) rfl
  have L128 := flag_lookup hown4.out 128 v128 (by decide) rfl
  have hBM : w.heap.size < w2.heap.size := HO3.out.lt
  refine wp_region_held_drew (S := fun w' => (Instr.lookup 140 (.map (some w2.heap.size)) (.int .u8 64) false).run Tryd.prog w' = .ok (.int .i64 v64) w' ∧ (Instr.lookup 140 (.map (some w2.heap.size)) (.int .u8 32) false).run Tryd.prog w' = .ok (.int .i64 v32) w' ∧
    (Instr.lookup 140 (.map (some w2.heap.size)) (.int .u8 128) false).run Tryd.prog w' = .ok (.int .i64 v128) w') (by kernel_rfl) ⟨L64, L32, L128⟩ (fun hS => ?_)
  clear L64 L32 L128 HB3 hown3 HR3 HD3 HO3 c0 c1 c2 c3 c4
  generalize u3.drew = ud at *
  refine' wpAnyH_take (i := 0) (oi := { dst := some 100, op := _, type := _, pos := _, after := _, guard := _ }) (v := ?v0) rfl (by kernel_rfl) (by kernel_rfl) (by kernel_rfl) (fun _ _ _ h => h) (Or.inl ⟨by rfl, ?hy0⟩) hS ?rest0
  case hy0 => (rintro w ⟨l64, l32, l128⟩; go_simp <;> with_reducible rfl)
  simp only [Act.put, List.setIfInBounds_toArray, List.set_cons_zero, List.set_cons_succ]
  refine' wpAnyH_take (i := 1) (oi := { dst := some 101, op := _, type := _, pos := _, after := _, guard := _ }) (v := ?v1) rfl (by kernel_rfl) (by kernel_rfl) (by kernel_rfl) (fun _ _ _ h => h) (Or.inl ⟨by rfl, ?hy1⟩) hS ?rest1
  case hy1 => (rintro w ⟨l64, l32, l128⟩; go_simp <;> with_reducible rfl)
  simp only [Act.put, List.setIfInBounds_toArray, List.set_cons_zero, List.set_cons_succ]
  refine' wpAnyH_take (i := 2) (oi := { dst := some 102, op := _, type := _, pos := _, after := _, guard := _ }) (v := ?v2) rfl (by kernel_rfl) (by kernel_rfl) (by kernel_rfl) (fun _ _ _ h => h) (Or.inl ⟨by rfl, ?hy2⟩) hS ?rest2
  case hy2 => (rintro w ⟨l64, l32, l128⟩; go_simp <;> with_reducible rfl)
  simp only [Act.put, List.setIfInBounds_toArray, List.set_cons_zero, List.set_cons_succ]
  refine' wpAnyH_take (i := 3) (oi := { dst := some 103, op := _, type := _, pos := _, after := _, guard := _ }) (v := ?v3) rfl (by kernel_rfl) (by kernel_rfl) (by kernel_rfl) (fun _ _ _ h => h) (Or.inl ⟨by rfl, ?hy3⟩) hS ?rest3
  case hy3 => (rintro w ⟨l64, l32, l128⟩; go_simp <;> with_reducible rfl)
  simp only [Act.put, List.setIfInBounds_toArray, List.set_cons_zero, List.set_cons_succ]
  refine' wpAnyH_take (i := 4) (oi := { dst := some 104, op := _, type := _, pos := _, after := _, guard := _ }) (v := ?v4) rfl (by kernel_rfl) (by kernel_rfl) (by kernel_rfl) (fun _ _ _ h => h) (Or.inl ⟨by rfl, ?hy4⟩) hS ?rest4
  case hy4 => (rintro w ⟨l64, l32, l128⟩; go_simp <;> with_reducible rfl)
  simp only [Act.put, List.setIfInBounds_toArray, List.set_cons_zero, List.set_cons_succ]
  refine' wpAnyH_take (i := 5) (oi := { dst := some 105, op := _, type := _, pos := _, after := _, guard := _ }) (v := ?v5) rfl (by kernel_rfl) (by kernel_rfl) (by kernel_rfl) (fun _ _ _ h => h) (Or.inl ⟨by rfl, ?hy5⟩) hS ?rest5
  case hy5 => (rintro w ⟨l64, l32, l128⟩; go_simp <;> with_reducible rfl)
  simp only [Act.put, List.setIfInBounds_toArray, List.set_cons_zero, List.set_cons_succ]
  refine' wpAnyH_take (i := 7) (oi := { dst := some 107, op := _, type := _, pos := _, after := _, guard := _ }) (v := ?v7) rfl (by kernel_rfl) (by kernel_rfl) (by kernel_rfl) (fun _ _ _ h => h) (Or.inl ⟨by rfl, ?hy7⟩) hS ?rest7
  case hy7 => (rintro w ⟨l64, l32, l128⟩; go_simp <;> with_reducible rfl)
  simp only [Act.put, List.setIfInBounds_toArray, List.set_cons_zero, List.set_cons_succ]
  refine' wpAnyH_take (i := 8) (oi := { dst := some 108, op := _, type := _, pos := _, after := _, guard := _ }) (v := ?v8) rfl (by kernel_rfl) (by kernel_rfl) (by kernel_rfl) (fun _ _ _ h => h) (Or.inl ⟨by rfl, ?hy8⟩) hS ?rest8
  case hy8 => (rintro w ⟨l64, l32, l128⟩; go_simp <;> with_reducible rfl)
  simp only [Act.put, List.setIfInBounds_toArray, List.set_cons_zero, List.set_cons_succ]
  refine' wpAnyH_take (i := 9) (oi := { dst := some 109, op := _, type := _, pos := _, after := _, guard := _ }) (v := ?v9) rfl (by kernel_rfl) (by kernel_rfl) (by kernel_rfl) (fun _ _ _ h => h) (Or.inl ⟨by rfl, ?hy9⟩) hS ?rest9
  case hy9 => (rintro w ⟨l64, l32, l128⟩; go_simp <;> with_reducible rfl)
  simp only [Act.put, List.setIfInBounds_toArray, List.set_cons_zero, List.set_cons_succ]
  refine' wpAnyH_take (i := 10) (oi := { dst := some 110, op := _, type := _, pos := _, after := _, guard := _ }) (v := ?v10) rfl (by kernel_rfl) (by kernel_rfl) (by kernel_rfl) (fun _ _ _ h => h) (Or.inl ⟨by rfl, ?hy10⟩) hS ?rest10
  case hy10 => (rintro w ⟨l64, l32, l128⟩; go_simp <;> with_reducible rfl)
  simp only [Act.put, List.setIfInBounds_toArray, List.set_cons_zero, List.set_cons_succ]
  refine' wpAnyH_take (i := 11) (oi := { dst := some 111, op := _, type := _, pos := _, after := _, guard := _ }) (v := ?v11) rfl (by kernel_rfl) (by kernel_rfl) (by kernel_rfl) (fun _ _ _ h => h) (Or.inl ⟨by rfl, ?hy11⟩) hS ?rest11
  case hy11 => (rintro w ⟨l64, l32, l128⟩; go_simp <;> with_reducible rfl)
  simp only [Act.put, List.setIfInBounds_toArray, List.set_cons_zero, List.set_cons_succ]
  refine' wpAnyH_take (i := 12) (oi := { dst := some 112, op := _, type := _, pos := _, after := _, guard := _ }) (v := ?v12) rfl (by kernel_rfl) (by kernel_rfl) (by kernel_rfl) (fun _ _ _ h => h) (Or.inl ⟨by rfl, ?hy12⟩) hS ?rest12
  case hy12 => (rintro w ⟨l64, l32, l128⟩; go_simp <;> with_reducible rfl)
  simp only [Act.put, List.setIfInBounds_toArray, List.set_cons_zero, List.set_cons_succ]
  refine' wpAnyH_take (i := 13) (oi := { dst := some 113, op := _, type := _, pos := _, after := _, guard := _ }) (v := ?v13) rfl (by kernel_rfl) (by kernel_rfl) (by kernel_rfl) (fun _ _ _ h => h) (Or.inl ⟨by rfl, ?hy13⟩) hS ?rest13
  case hy13 => (rintro w ⟨l64, l32, l128⟩; go_simp <;> with_reducible rfl)
  simp only [Act.put, List.setIfInBounds_toArray, List.set_cons_zero, List.set_cons_succ]
  refine' wpAnyH_take (i := 14) (oi := { dst := some 114, op := _, type := _, pos := _, after := _, guard := _ }) (v := ?v14) rfl (by kernel_rfl) (by kernel_rfl) (by kernel_rfl) (fun _ _ _ h => h) (Or.inl ⟨by rfl, ?hy14⟩) hS ?rest14
  case hy14 => (rintro w ⟨l64, l32, l128⟩; go_simp <;> with_reducible rfl)
  simp only [Act.put, List.setIfInBounds_toArray, List.set_cons_zero, List.set_cons_succ]
  refine' wpAnyH_take (i := 15) (oi := { dst := some 115, op := _, type := _, pos := _, after := _, guard := _ }) (v := ?v15) rfl (by kernel_rfl) (by kernel_rfl) (by kernel_rfl) (fun _ _ _ h => h) (Or.inl ⟨by rfl, ?hy15⟩) hS ?rest15
  case hy15 => (rintro w ⟨l64, l32, l128⟩; go_simp <;> with_reducible rfl)
  simp only [Act.put, List.setIfInBounds_toArray, List.set_cons_zero, List.set_cons_succ]
  refine' wpAnyH_take (i := 17) (oi := { dst := some 117, op := _, type := _, pos := _, after := _, guard := _ }) (v := ?v17) rfl (by kernel_rfl) (by kernel_rfl) (by kernel_rfl) (fun _ _ _ h => h) (Or.inl ⟨by rfl, ?hy17⟩) hS ?rest17
  case hy17 => (rintro w ⟨l64, l32, l128⟩; go_simp <;> with_reducible rfl)
  simp only [Act.put, List.setIfInBounds_toArray, List.set_cons_zero, List.set_cons_succ]
  refine wpAnyH_ready (rs := [6]) (by kernel_rfl) (by simp) ?_
  refine AllReadyH.cons rfl (fun K hK => ?_) AllReadyH.nil
  go_simp
  refine (HU.out _).mono ?_
  rintro e w' ⟨rfl, rfl⟩
  dsimp only
  refine hK.out _ _ hS (fun hS => ?_)
  clear hK K
  refine' wpAnyH_take (i := 16) (oi := { dst := some 116, op := _, type := _, pos := _, after := _, guard := _ }) (v := ?v16) rfl (by kernel_rfl) (by kernel_rfl) (by kernel_rfl) (fun _ _ _ h => h) (Or.inl ⟨by rfl, ?hy16⟩) hS ?rest16
  case hy16 => (rintro w ⟨l64, l32, l128⟩; go_simp <;> with_reducible rfl)
  simp only [Act.put, List.setIfInBounds_toArray, List.set_cons_zero, List.set_cons_succ]
  refine wpAnyH_ready (rs := [18]) (by kernel_rfl) (by simp) ?_
  refine AllReadyH.cons rfl (fun K hK => ?_) AllReadyH.nil
  rw [if_pos (by rfl)]
  refine wp_stRow ud 72 (.tmp 4) (.tmp 116) rfl w.heap.size 72 _ _ rfl rfl HO4.out.1 (by kernel_rfl) (by simp) (by simp [Value.oneCell']) ?_
  intro w6 hr6 hg6 hs6
  have hown6 := hide (hown4.out.kept hg6 (by simp; omega))
  have HG := hide hg6
  have HR := hide hr6
  clear hr6 hg6 hS
  refine hK.out _ _ ⟨flag_lookup hown6.out 64 v64 (by decide) rfl, flag_lookup hown6.out 32 v32 (by decide) rfl, flag_lookup hown6.out 128 v128 (by decide) rfl⟩ (fun hS => ?_)
  clear hK K
  simp only [Act.put, List.setIfInBounds_toArray]
  refine' wpAnyH_take (i := 19) (oi := { dst := some 5, op := _, type := _, pos := _, after := _, guard := _ }) (v := ?v19) rfl (by kernel_rfl) (by kernel_rfl) (by kernel_rfl) (fun _ _ _ h => h) (Or.inl ⟨by rfl, ?hy19⟩) hS ?rest19
  case hy19 => (rintro w ⟨l64, l32, l128⟩; go_simp <;> with_reducible rfl)
  simp only [Act.put]
  refine' wpAnyH_take (i := 20) (oi := { dst := some 6, op := _, type := _, pos := _, after := _, guard := _ }) (v := ?v20) rfl (by kernel_rfl) (by kernel_rfl) (by kernel_rfl) (fun _ _ _ h => h) (Or.inl ⟨by rfl, ?hy20⟩) hS ?rest20
  case hy20 => (rintro w ⟨l64, l32, l128⟩; go_simp <;> with_reducible rfl)
  simp only [Act.put]
  refine wpAnyH_done (by kernel_rfl) ?_ _
  clear hS
  go_wp2_with fail
  refine post_cell_tmp2 (v := .int .i64 cv) (v2 := .bool true) (g := w.heap.size) rfl rfl rfl rfl rfl HR.out Tryd.underlying72 rfl (by kernel_rfl) ⟨rfl, ?_⟩
  exact HO4.out.2.1.grown HG.out HO4.out.2.2 (by simp)

end Go.Proofs.YthaldkmjjpepjaaDoor
