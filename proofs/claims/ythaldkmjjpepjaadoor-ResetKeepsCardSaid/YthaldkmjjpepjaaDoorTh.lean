/-
  ResetKeeps: its walk.
-/
import Derived.Test.YthaldkmjjpepjaaDoorTg
import Derived.Test.YthaldkmjjpepjaaDoorRx
namespace Go.Proofs.YthaldkmjjpepjaaDoor
open Go.RowKit Go.Shelf

attribute [local go_sem] Oper.semAt_some

theorem OpsIn.later {v : Value} {w w' : World} {p : Option Addr} {b off len cap : Nat} {ks vs : Nat → Int} {ss : Nat → ByteArray} (h : OpsIn v w p b off len cap ks vs ss) (hb : Below w.heap.size w w') : OpsIn v w' p b off len cap ks vs ss :=
  ⟨h.eq, h.at_, ⟨fun i hi => (hb.cell (by exact h.lt)).trans (h.ahead.c0 i hi), fun i hi => (hb.cell (by exact h.lt)).trans (h.ahead.c1 i hi), fun i hi => (hb.cell (by exact h.lt)).trans (h.ahead.c2 i hi)⟩, h.len_, h.ks_, h.vs_, h.ss_, Nat.lt_of_lt_of_le h.lt hb.size⟩

theorem results_cell_bool {fn : Func} {p : Tmp} (h : fn.results = #[.cell p 4]) (tmps : Array Value) (w : World) (R : Nat) (b : Bool) (hp : tmps.getD p undef = .pointer (some ⟨R, 0, none⟩)) (hc : w.cell? ⟨R, 0, none⟩ = some (.bool b)) :
    (results fn tmps).run Tryd.prog w = .ok (.bool b) w := by
  have hp' : tmps[p]?.getD undef = .pointer (some ⟨R, 0, none⟩) := by simpa using hp
  have hm := Tryd.underlying4
  simp [results, h, hp', asAddr, loadVar, go_sem, hc]

set_option maxRecDepth 100000 in
set_option maxHeartbeats 16000000 in
theorem resetKeeps_any (a : Int) (p1 : Option Addr) (b1 off1 len1 cap1 : Nat) (ks1 vs1 : Nat → Int) (ss1 : Nat → ByteArray) (p2 : Option Addr) (b2 off2 len2 cap2 : Nat) (ks2 vs2 : Nat → Int) (ss2 : Nat → ByteArray) (c : UInt8) (w : World) (hm : Marked w)
    (ha : -9223372036854775808 ≤ a ∧ a ≤ 9223372036854775807) (O1 : OpsIn (.slice p1 len1 cap1) w p1 b1 off1 len1 cap1 ks1 vs1 ss1) (O2 : OpsIn (.slice p2 len2 cap2) w p2 b2 off2 len2 cap2 ks2 vs2 ss2) :
    Calls Tryd.prog 8 #[.int .i64 a, .slice p1 len1 cap1, .slice p2 len2 cap2, .int .u8 (c.toNat : Int)] w fun e w' =>
      e = .returned (.bool true) ∧ Below w.heap.size w w' := by
  have HM := hide hm
  have HL := hide (fun w => layout_any a w ha.2 ha.1)
  obtain ⟨x0, x1⟩ := pickI_range a 9 (by omega)
  obtain ⟨y0, y1⟩ := pickI_range a 4 (by omega)
  generalize pickI a 9 = x at *
  generalize pickI a 4 = y at *
  obtain ⟨S, hS⟩ : ∃ S, S = 256 + 8 * x := ⟨_, rfl⟩
  obtain ⟨T, hT⟩ : ∃ T, T = 64 + 8 * y := ⟨_, rfl⟩
  rw [← hS, ← hT] at HL
  have HG := hide (fun w => begun_any S T w (by omega) (by omega) (by rw [Int.tmod_eq_emod_of_nonneg (by omega)]; omega) (by rw [Int.tmod_eq_emod_of_nonneg (by omega)]; omega))
  have hS' : 256 ≤ S ∧ S ≤ 1000 := by omega
  have hT' : 64 ≤ T ∧ T ≤ 1000 := by omega
  have HO1 := hide O1
  have HO2 := hide O2
  have hlen1 := O1.len_
  have hlen2 := O2.len_
  have hb1lt := O1.lt
  have hb2lt := O2.lt
  clear hS hT x0 x1 y0 y1 hm O1 O2
  refine (callsIn_wide (n := 20)).1 ?_
  refine callsIn_of_wp_marks Tryd.func8 rfl trivial ?_ rfl
  simp only [Tryd.ntmps8, List.size_toArray, List.length_cons, List.length_nil, Nat.reduceAdd, Nat.reduceSub, Array.replicate_succ, Array.replicate_zero, List.push_toArray, List.append_toArray, List.nil_append, List.cons_append]
  refine wpIn_wide.2 ?_
  go_wp2_with fail
  refine (shown_any _ (HM.out.alloc _)).mono ?_
  rintro e w1 ⟨rfl, hb1⟩
  have HW1 := hide (show One w w.heap.size w.heap.size (.cells #[.bool false] 4) w1 from One.keep ⟨heap_alloc_new w _, (Below.refl _ w).alloc (Nat.le_refl _) _, by simp⟩ hb1)
  clear hb1
  go_wp2_with fail
  refine (HL.out _).mono ?_
  rintro e w2 ⟨rfl, hb2⟩
  have HW2 := hide (HW1.out.keep hb2)
  clear hb2 HW1
  go_wp2_with fail
  refine (HG.out _).mono ?_
  rintro e w3 ⟨N, D, G, n, rfl, hbeg⟩
  have HK3 := hide (show KL N D G n S T 16392 0 (List.replicate n 0) w w.heap.size [(w.heap.size, #[.bool false], 4)] w3 by
    have hw := HW2.out.keep hbeg.1
    have h1 := hbeg.2.1
    have h2 := HW2.out.lt
    have hd := hbeg.dic hS' hT'
    refine ⟨hd, hw.2.1, by omega, fun y hy => ?_⟩
    obtain rfl := List.mem_singleton.1 hy
    have h3 := hd.1.2.2.2
    have h4 := hd.2.2.1
    exact ⟨hw.1, by show w.heap.size ≠ G; omega, by show w.heap.size ≠ D; omega⟩)
  clear hbeg HW2 HM HL HG
  go_wp2_with fail
  go_loopw [12] (fun i wr => ∃ k : Nat, k ≤ len1 ∧ k ≤ 60 ∧ i = .int .i64 k ∧ Hid (∃ hh ll bs, KL N D G n S T hh ll bs w w.heap.size [(w.heap.size, #[.bool false], 4)] wr)) (fun i _ => 60 - (intOf i).toNat)
  case atStart => exact ⟨0, by omega, by omega, rfl, _, _, _, HK3.out⟩
  case round =>
    obtain ⟨k, hk, hk6, rfl, hX⟩ := hrel
    obtain ⟨hh, ll, bs, hkl⟩ := hX.out
    have HKL := hide hkl
    clear hX HK3
    by_cases hgo : k < len1 ∧ k < 60
    · have hlt := hgo.1
      have hlt' : (k : Int) < (len1 : Int) := by omega
      have h60' : (k : Int) < 60 := by omega
      have hA := HO1.out.later hkl.2.1
      have d0 := hA.ahead.c0 k hlt
      have d1 := hA.ahead.c1 k hlt
      have d2 := hA.ahead.c2 k hlt
      obtain rfl := HO1.out.at_ (by omega)
      have HC := hide (does_any N D G n S T hh ll (ks1 k) (vs1 k) bs (ss1 k) wr hkl.1 (hA.ks_ k hlt) (hA.vs_ k hlt) (hA.ss_ k hlt))
      clear hgo hkl hA
      go_wp2_with fail
      refine HC.out.mono ?_
      rintro e w4 ⟨u, h4, l4, bs4, rfl, hd4, hc4, _⟩
      have HK4 := hide (HKL.out.chg hd4 hc4)
      clear hd4 hc4 HC HKL d0 d1 d2
      go_wp2_with fail
      go_roundw
      case rel => exact ⟨k + 1, by omega, by omega, rfl, _, _, _, HK4.out⟩
      case measure => simp [intOf]; omega
    · have hex : (¬ (k : Int) < (len1 : Int)) ∨ ((k : Int) < (len1 : Int) ∧ ¬ (k : Int) < 60) := by omega
      clear hgo hkl
      obtain ⟨s0, hs0⟩ : ∃ s0 : Nat, S = (s0 : Int) := ⟨S.toNat, by omega⟩
      obtain ⟨s1, hs1⟩ : ∃ s1 : Nat, T = (s1 : Int) := ⟨T.toNat, by omega⟩
      subst hs0
      subst hs1
      rcases hex with hlt' | ⟨hlt', h60'⟩
      all_goals
        go_wp2_with fail
        refine (keep_ok N D G n _ _ hh ll bs _ HKL.out.1).mono ?_
        rintro e w8 ⟨rfl, hb8⟩
        obtain ⟨q0, hq0⟩ : ∃ p, p = partS bs 16384 (s0 : Int) := ⟨_, rfl⟩
        obtain ⟨q1, hq1⟩ : ∃ p, p = partS bs (16384 + (s0 : Int)) (s1 : Int) := ⟨_, rfl⟩
        obtain ⟨q2, hq2⟩ : ∃ p, p = partS bs (16384 + (s0 : Int) + (s1 : Int)) 64 := ⟨_, rfl⟩
        have HPP := hide (show keptV s0 s1 hh ll bs = #[.string q0, .string q1, .string q2, .int .i64 hh, .int .i64 ll] by rw [hq0, hq1, hq2]; rfl)
        have HQ := hide (And.intro hq0 (And.intro hq1 hq2))
        rw [HPP.out]
        have HK8 := hide ((HKL.out.below hb8).alloc #[.string q0, .string q1, .string q2, .int .i64 hh, .int .i64 ll] 23)
        clear hb8 hq0 hq1 hq2 HKL
        go_upto_region 10 with fail
        generalize w8.alloc (.cells #[.string q0, .string q1, .string q2, .int .i64 hh, .int .i64 ll] 23) = w9 at *
        generalize w8.heap.size = E at *
      all_goals
        go_wp2_with fail
        refine (mark_any N D G n _ _ hh ll bs _ HK8.out.1).mono ?_
        rintro e w10 ⟨rfl, hb10⟩
        have HK10 := hide (HK8.out.below hb10)
        clear hb10 HK8
        go_upto_region 11 with fail
        have inst : Nonempty (InD (KL N D G n s0 s1 hh ll bs w w.heap.size [(E, #[.string q0, .string q1, .string q2, .int .i64 hh, .int .i64 ll], 23), (w.heap.size, #[.bool false], 4)])) := ⟨⟨_, HK10.out.below (Below.refl _ w10).drew⟩⟩
        refine wp_region_sub (KL N D G n s0 s1 hh ll bs w w.heap.size [(E, #[.string q0, .string q1, .string q2, .int .i64 hh, .int .i64 ll], 23), (w.heap.size, #[.bool false], 4)]) (by kernel_rfl) (by kernel_rfl) (HK10.out.below (Below.refl _ w10).drew) ?_
        generalize hD : KL N D G n s0 s1 hh ll bs w w.heap.size [(E, #[.string q0, .string q1, .string q2, .int .i64 hh, .int .i64 ll], 23), (w.heap.size, #[.bool false], 4)] = DD at inst ⊢
        have hDx := fun (x : InD DD) => (congrFun hD x.w).mpr x.ok
        have c0 : ∀ x : InD DD, x.w.cell? ⟨E, 0, none⟩ = some (.string q0) := fun x => (C5.row ((hDx x).row (.head _))).1
        have c1 : ∀ x : InD DD, x.w.cell? ⟨E, 1, none⟩ = some (.string q1) := fun x => (C5.row ((hDx x).row (.head _))).2.1
        have c2 : ∀ x : InD DD, x.w.cell? ⟨E, 2, none⟩ = some (.string q2) := fun x => (C5.row ((hDx x).row (.head _))).2.2.1
        have c3 : ∀ x : InD DD, x.w.cell? ⟨E, 3, none⟩ = some (.int .i64 hh) := fun x => (C5.row ((hDx x).row (.head _))).2.2.2.1
        have c4 : ∀ x : InD DD, x.w.cell? ⟨E, 4, none⟩ = some (.int .i64 ll) := fun x => (C5.row ((hDx x).row (.head _))).2.2.2.2
        have HF3 : Hid (∀ x : InD DD, Calls Tryd.prog 29 #[.pointer (some ⟨N, 0, none⟩), .int .i64 3] x.w fun e w' => e = .returned (.string q0) ∧ DD w') := fun x =>
          (partOf N D G n s0 s1 hh ll 3 _ _ bs _ (hDx x).1 (.inl ⟨rfl, rfl, rfl⟩)).mono fun e w' h => ⟨by rw [HQ.out.1]; exact h.1, (congrFun hD w').mp ((hDx x).below h.2)⟩
        have HF4 : Hid (∀ x : InD DD, Calls Tryd.prog 29 #[.pointer (some ⟨N, 0, none⟩), .int .i64 4] x.w fun e w' => e = .returned (.string q1) ∧ DD w') := fun x =>
          (partOf N D G n s0 s1 hh ll 4 _ _ bs _ (hDx x).1 (.inr (.inl ⟨rfl, rfl, rfl⟩))).mono fun e w' h => ⟨by rw [HQ.out.2.1]; exact h.1, (congrFun hD w').mp ((hDx x).below h.2)⟩
        have HF5 : Hid (∀ x : InD DD, Calls Tryd.prog 29 #[.pointer (some ⟨N, 0, none⟩), .int .i64 5] x.w fun e w' => e = .returned (.string q2) ∧ DD w') := fun x =>
          (partOf N D G n s0 s1 hh ll 5 _ _ bs _ (hDx x).1 (.inr (.inr ⟨rfl, rfl, rfl⟩))).mono fun e w' h => ⟨by rw [HQ.out.2.2]; exact h.1, (congrFun hD w').mp ((hDx x).below h.2)⟩
        have HDD := hide hD
        clear hD HK10 hDx
        repeat (go_big_quiet_step (first
          | (go_at_call_of 29 (Value.int IntKind.i64 3); exact calls_sub (HF3.out _))
          | (go_at_call_of 29 (Value.int IntKind.i64 4); exact calls_sub (HF4.out _))
          | (go_at_call_of 29 (Value.int IntKind.i64 5); exact calls_sub (HF5.out _))))
        refine wpQuiet_nil ?_
        intro w11 h11
        rw [← HDD.out] at h11
        have HK11 := hide h11
        clear h11 HDD HF3 HF4 HF5 inst c0 c1 c2 c3 c4
      all_goals
        go_wp2_with fail
        refine (all_any D _).mono ?_
        rintro e w12 ⟨rfl, rfl⟩
        have HK12 := hide (HK11.out.alloc #[.slice none 0 0] 67)
        have HK13 := hide (HK12.out.alloc #[.pointer (some ⟨D, 0, none⟩)] 45)
        have hz := HK11.out.lt
        have hER : E < w11.heap.size := (Array.getElem?_eq_some_iff.1 (HK11.out.row (.head _))).1
        clear HK11 HK12
        go_wp2_with fail
        obtain ⟨Bw, hBw⟩ : ∃ B, B = w11.heap.size := ⟨_, rfl⟩
        rw [World.size_alloc, ← hBw] at HK13
        rw [← hBw] at hER hz ⊢
        obtain ⟨wL, hwL⟩ : ∃ W, W = (w11.alloc (.cells #[.slice none 0 0] 67)).alloc (.cells #[.pointer (some ⟨D, 0, none⟩)] 45) := ⟨_, rfl⟩
        have hzL : wL.heap.size = Bw + 2 := by rw [hwL, hBw]; simp
        rw [← hwL] at HK13 ⊢
        clear hwL hBw
        have HI0 := hide (show KL N D G n s0 s1 hh ll bs w w.heap.size [(E, #[.string q0, .string q1, .string q2, .int .i64 hh, .int .i64 ll], 23), (w.heap.size, #[.bool false], 4)] wL from ⟨HK13.out.1, HK13.out.2.1, HK13.out.2.2.1, fun y hy => HK13.out.2.2.2 y (.tail _ (.tail _ hy))⟩)
        have HBw := hide (HK13.out.row (.tail _ (.head _)))
        refine wp_rangeWord (q := 18) (Bw + 1) Bw N D G n s0 s1 hh ll bs rfl (cell_of_row' (HK13.out.row (.head _)) rfl) (by omega) HK13.out.1 (by omega) (fun k hk => by rw [ownIn_row HBw.out] at hk; cases hk)
          (fun pre W => KL N D G n s0 s1 hh ll bs w w.heap.size [(E, #[.string q0, .string q1, .string q2, .int .i64 hh, .int .i64 ll], 23), (w.heap.size, #[.bool false], 4)] W ∧ wL.heap.size ≤ W.heap.size ∧ Coll Bw pre W) (fun _ _ _ => False)
          (fun pre W W' row hs hg hr => ⟨hs.1.abides hg (fun r e => ⟨by have := (hr r e).1; omega, (hr r e).2⟩), Nat.le_trans hs.2.1 hg.size, hs.2.2.abides hg (fun r e => (hr r e).2)⟩)
          (fun _ _ _ _ _ hs _ _ => hs) ⟨HI0.out, Nat.le_refl _, ⟨_, HBw.out, World.ownsRow_nil _ _ _ _⟩⟩ (fun _ _ h => h.2.1) ?_ ?_ ?_ (fun _ _ _ _ _ _ h _ => h.elim)
        · intro l x W K hK
          simp only [List.setIfInBounds_toArray, List.set_cons_zero, List.set_cons_succ] at hK ⊢
          gi_wp2
          exact hK
        · rintro l pre x Bx W ⟨hkl, hsz, v, hv, hown⟩ hBx hx hlen
          simp only [List.setIfInBounds_toArray, List.set_cons_zero, List.set_cons_succ]
          have HKL := hide hkl
          have HV := hide hv
          have HOW := hide hown
          have v0 : W.cell? ⟨Bw, 0, none⟩ = some v := cell_of_row' hv rfl
          have e0 : W.cell? ⟨Bx, 0, none⟩ = some (.string x.name) := cell_of_row' hx rfl
          have e1 : W.cell? ⟨Bx, 1, none⟩ = some (.int .i64 x.head) := cell_of_row' hx rfl
          have e2 : W.cell? ⟨Bx, 2, none⟩ = some (.int .i64 x.xt) := cell_of_row' hx rfl
          have e3 : W.cell? ⟨Bx, 3, none⟩ = some (.bool x.imm) := cell_of_row' hx rfl
          have e4 : W.cell? ⟨Bx, 4, none⟩ = some (.bool x.hid) := cell_of_row' hx rfl
          have e5 : W.cell? ⟨Bx, 5, none⟩ = some (.bool x.inl) := cell_of_row' hx rfl
          clear hkl hv hown hx
          gi_wp2_with (with_reducible refine wplI_pushW W rfl (.tmp 108) (.tmp 110) rfl v pre x W.heap.size rfl rfl rfl (Bw + 1) (by omega) HOW.out (by omega) ?_)
          intro v1 w1 hown1 hgr1 g cp hv1
          subst hv1
          obtain ⟨f1, f2, f3, f4⟩ := coll_step (z0 := wL.heap.size) (x := x) HV.out HOW.out (by rw [List.length_append]; exact hown1) hgr1
          have u0 : w1.cell? ⟨Bw, 0, none⟩ = some v := cell_of_row' f4 rfl
          have u1 := frozen_of_row w1 Bw 0 _ _ f4
          have HF1 := hide f1
          have HF2 := hide f2
          have HF3 := hide f3
          have HFK := hide ((HKL.out.grown hgr1.by_ (fun g' e => ⟨by have := (HOW.out.lt g' e).1; omega, fun y hy => by
            have := (HOW.out.lt g' e).1
            have h2 := (HKL.out.2.2.2 y hy)
            simp only [List.mem_cons, List.not_mem_nil, or_false] at hy
            rcases hy with rfl | rfl
            · show E ≠ g'; omega
            · show w.heap.size ≠ g'; omega⟩)))
          have HGS := hide (show W.heap.size ≤ w1.heap.size from hgr1.by_.size)
          clear f1 f2 f3 f4 hown1 hgr1 v0 e0 e1 e2 e3 e4 e5
          gi_wp2
          refine ⟨HF1.out, HF2.out, HFK.out.grown (grownBy_setCell (grownBy_id _ _)) (fun g' e => ?_), ?_, HF3.out⟩
          · injection e with e
            subst e
            refine ⟨by omega, fun y hy => ?_⟩
            simp only [List.mem_cons, List.not_mem_nil, or_false] at hy
            rcases hy with rfl | rfl
            · show E ≠ Bw; omega
            · show w.heap.size ≠ Bw; omega
          · have := HGS.out
            simp
            omega
        · intro Dd W hDd hI hDf
          obtain ⟨words, hwd⟩ : ∃ l, l = wordsFrom (s0 : Int) bs 20000 ll := ⟨_, rfl⟩
          rw [← hwd] at hI
          have HWD := hide hwd
          have HKM := hide (show KM N D G n s0 s1 hh ll bs w w.heap.size [(E, #[.string q0, .string q1, .string q2, .int .i64 hh, .int .i64 ll], 23), (w.heap.size, #[.bool false], 4)] Bw words Dd W from ⟨hI.1, hI.2.2, hDf, by omega, by omega⟩)
          clear hwd hI hDf HI0 HBw HK13
          go_wp2_with fail
          refine (setByte_any N G n s0 s1 100 c bs W HKM.out.1.1.1 (by omega)).mono ?_
          have hok : rowOk (s0 : Int) (s1 : Int) 100 1 = true := by
            rcases reg_cases (s0 : Int) (s1 : Int) 100 HKM.out.1.1.1.1.2.1 with q | q | q | q | q <;> simp only [rowOk, q, Bool.and_eq_true, decide_eq_true_eq] <;> omega
          rw [hok]
          clear hok
          rintro e w20 ⟨rfl, hw20⟩
          have hw20' : w20 = W.setCell ⟨G, 100, none⟩ (.int .u8 (c.toNat : Int)) := by simpa using hw20
          have HM1 := hide (show KM N D G n s0 s1 hh ll (bs.set 100 c) w w.heap.size [(E, #[.string q0, .string q1, .string q2, .int .i64 hh, .int .i64 ll], 23), (w.heap.size, #[.bool false], 4)] Bw words Dd w20 by
            rw [hw20']
            exact HKM.out.chg (HKM.out.1.1.rowed (HKM.out.1.1.1.set 100 c) (grownBy_setCell (grownBy_id _ _))) (.of_grown (grownBy_setCell (grownBy_id _ _))))
          have HLB := hide (show (16384 + (s0 : Int) + s1 + 64 = (bs.length : Int)) ∧ bs.length = n ∧ backOk (s0 : Int) hh ll = true from ⟨by have h1 := HKM.out.1.1.1.1.2.2; have h2 := HKM.out.1.1.1.2.2.1; omega, HKM.out.1.1.1.2.2.1, HKM.out.1.1.backOk⟩)
          clear hw20 hw20' HKM
          go_wp2_with fail
          go_loopw [19] (fun i wr => ∃ k : Nat, k ≤ len2 ∧ k ≤ 60 ∧ i = .int .i64 k ∧ Hid (∃ h2 l2 bs2, KM N D G n s0 s1 h2 l2 bs2 w w.heap.size [(E, #[.string q0, .string q1, .string q2, .int .i64 hh, .int .i64 ll], 23), (w.heap.size, #[.bool false], 4)] Bw words Dd wr ∧ bs2.take 16384 = (bs.set 100 c).take 16384)) (fun i _ => 60 - (intOf i).toNat)
          case atStart => exact ⟨0, by omega, by omega, rfl, _, _, _, HM1.out, rfl⟩
          case round =>
            obtain ⟨j, hj, hj6, rfl, hX⟩ := hrel
            obtain ⟨h2, l2, bs2, hkm, ht2⟩ := hX.out
            have HKL := hide hkm
            have HT2 := hide ht2
            clear hX HM1 ht2
            by_cases hgo : j < len2 ∧ j < 60
            · have hlt := hgo.1
              have hltj : (j : Int) < (len2 : Int) := by omega
              have h60j : (j : Int) < 60 := by omega
              have hA := HO2.out.later hkm.1.2.1
              have d0 := hA.ahead.c0 j hlt
              have d1 := hA.ahead.c1 j hlt
              have d2 := hA.ahead.c2 j hlt
              obtain rfl := HO2.out.at_ (by omega)
              have HC := hide (does_any N D G n s0 s1 h2 l2 (ks2 j) (vs2 j) bs2 (ss2 j) wr hkm.1.1 (hA.ks_ j hlt) (hA.vs_ j hlt) (hA.ss_ j hlt))
              clear hgo hkm hA
              go_wp2_with fail
              refine HC.out.mono ?_
              rintro e w4 ⟨u, h4, l4, bs4, rfl, hd4, hc4, ht4⟩
              have HK4 := hide (HKL.out.chg hd4 hc4)
              have HT4 := hide (ht4.trans HT2.out)
              clear hd4 hc4 ht4 HC HKL HT2 d0 d1 d2
              go_wp2_with fail
              go_roundw
              case rel => exact ⟨j + 1, by omega, by omega, rfl, _, _, _, HK4.out, HT4.out⟩
              case measure => simp [intOf]; omega
            · have hexj : (¬ (j : Int) < (len2 : Int)) ∨ ((j : Int) < (len2 : Int) ∧ ¬ (j : Int) < 60) := by omega
              clear hgo hkm
              rcases hexj with hltj | ⟨hltj, h60j⟩
              all_goals
                obtain ⟨e0, e1, e2, e3, e4⟩ := C5.row (HKL.out.1.row (.head _))
                go_wp2_with fail
              all_goals
                obtain ⟨hrb, bs3, hb3, hdp, hg100, hkv⟩ := lay_back s0 s1 hh ll bs bs2 c q0 q1 q2 HQ.out HLB.out.1 (by rw [HKL.out.1.1.1.2.2.1, HLB.out.2.1]) HT2.out HLB.out.2.2
                refine (lay_right N D G n s0 s1 h2 l2 hh ll bs2 q0 q1 q2 wr HKL.out.1.1 hrb).mono ?_
                rw [← hb3]
                rintro e w21 ⟨rfl, hd21, hc21⟩
                have HM2 := hide (HKL.out.chg hd21 hc21)
                have HDP := hide hdp
                have HG100 := hide hg100
                have HKV := hide hkv
                clear hrb hb3 hdp hg100 hkv hd21 hc21 HKL HT2 HQ HPP e0 e1 e2 e3 e4
                go_wp2_with fail
                refine (keep_ok N D G n _ _ hh ll bs3 _ HM2.out.1.1).mono ?_
                rintro e w22 ⟨rfl, hb22⟩
                rw [HKV.out]
                have HM3 := hide ((HM2.out.below hb22).alloc #[.string q0, .string q1, .string q2, .int .i64 hh, .int .i64 ll] 23)
                clear hb22 HM2 HKV
                go_upto_region 25 with fail
                generalize w22.alloc (.cells #[.string q0, .string q1, .string q2, .int .i64 hh, .int .i64 ll] 23) = w23 at *
                generalize w22.heap.size = F at *
                go_wp2_with fail
                refine (byte_any N G n s0 s1 100 bs3 w23 HM3.out.1.1.1 (by omega)).mono ?_
                rw [show rowOk (s0 : Int) (s1 : Int) 100 1 = true from by
                  rcases reg_cases (s0 : Int) (s1 : Int) 100 HM3.out.1.1.1.1.2.1 with q | q | q | q | q <;> simp only [rowOk, q, Bool.and_eq_true, decide_eq_true_eq] <;> omega]
                simp only [if_true]
                rw [show (100 : Int).toNat = 100 from rfl, HG100.out]
                rintro e w24 ⟨rfl, rfl⟩
                go_wp2_with fail
                refine (all_any D _).mono ?_
                rintro e w25 ⟨rfl, rfl⟩
                have HM4 := hide (HM3.out.alloc #[.int .i64 0] 3)
                have HM5 := hide (HM4.out.alloc #[.pointer (some ⟨D, 0, none⟩)] 45)
                have hzn := HM3.out.1.lt
                have hEF : E < w23.heap.size ∧ F < w23.heap.size ∧ Bw < w23.heap.size ∧ Dd < w23.heap.size := ⟨(Array.getElem?_eq_some_iff.1 (HM3.out.1.row (.tail _ (.head _)))).1, (Array.getElem?_eq_some_iff.1 (HM3.out.1.row (.head _))).1, by
                  obtain ⟨v, hv, _⟩ := HM3.out.2.1
                  exact (Array.getElem?_eq_some_iff.1 hv).1, (Array.getElem?_eq_some_iff.1 HM3.out.2.2.1).1⟩
                clear HM3 HM4
                go_wp2_with fail
              all_goals
                obtain ⟨Bn, hBn⟩ : ∃ B, B = w23.heap.size := ⟨_, rfl⟩
                rw [World.size_alloc, ← hBn] at HM5
                rw [← hBn] at hEF hzn ⊢
                obtain ⟨wM, hwM⟩ : ∃ W, W = (w23.alloc (.cells #[.int .i64 0] 3)).alloc (.cells #[.pointer (some ⟨D, 0, none⟩)] 45) := ⟨_, rfl⟩
                have hzM : wM.heap.size = Bn + 2 := by rw [hwM, hBn]; simp
                rw [← hwM] at HM5 ⊢
                obtain ⟨hEn, hFn, hBwn, hDdn⟩ := hEF
                clear hwM hBn
                have hwc : wordsFrom (s0 : Int) bs3 20000 ll = words := by rw [HWD.out]; exact words_congr HDP.out _ _
                have HWC := hide hwc
                have HI0 := hide (show KM N D G n s0 s1 hh ll bs3 w w.heap.size [(F, #[.string q0, .string q1, .string q2, .int .i64 hh, .int .i64 ll], 23), (E, #[.string q0, .string q1, .string q2, .int .i64 hh, .int .i64 ll], 23), (w.heap.size, #[.bool false], 4)] Bw words Dd wM from
                  ⟨⟨HM5.out.1.1, HM5.out.1.2.1, HM5.out.1.2.2.1, fun y hy => HM5.out.1.2.2.2 y (.tail _ (.tail _ hy))⟩, HM5.out.2⟩)
                have HBn := hide (HM5.out.1.row (.tail _ (.head _)))
                clear hwc
                refine wp_rangeWord (q := 24) (Bn + 1) Bn N D G n s0 s1 hh ll bs3 rfl (cell_of_row' (HM5.out.1.row (.head _)) rfl) (by omega) HM5.out.1.1 (by omega) (fun k hk => by rw [ownIn_row HBn.out] at hk; cases hk)
                  (fun pre W => KM N D G n s0 s1 hh ll bs3 w w.heap.size [(F, #[.string q0, .string q1, .string q2, .int .i64 hh, .int .i64 ll], 23), (E, #[.string q0, .string q1, .string q2, .int .i64 hh, .int .i64 ll], 23), (w.heap.size, #[.bool false], 4)] Bw words Dd W ∧ wM.heap.size ≤ W.heap.size ∧ W.heap[Bn]? = some (.cells #[.int .i64 (pre.length : Int)] 3 (0, 0)))
                  (fun _ pre _ => ¬ pre <+: words)
                  (fun pre W W' row hs hg hr => ⟨hs.1.abides hg (z := wM.heap.size) (by omega) hr, Nat.le_trans hs.2.1 hg.size, row_abides hs.2.2 hg (fun r e => (hr r e).2)⟩)
                  (fun _ _ _ _ _ hs _ _ => hs) ⟨HI0.out, Nat.le_refl _, HBn.out⟩ (fun _ _ h => h.2.1) ?_ ?_ ?_ (fun _ _ pre _ _ hp h _ => absurd (by rw [← HWC.out]; exact hp) h)
                · intro l x W K hK
                  simp only [List.setIfInBounds_toArray, List.set_cons_zero, List.set_cons_succ] at hK ⊢
                  gi_wp2
                  exact hK
                · rintro l pre x Bx W ⟨hkm, hsz, hn⟩ hBx hx hlen
                  simp only [List.setIfInBounds_toArray, List.set_cons_zero, List.set_cons_succ]
                  obtain ⟨v, hv, hown⟩ := hkm.2.1
                  have n0 : W.cell? ⟨Bn, 0, none⟩ = some (.int .i64 (pre.length : Int)) := cell_of_row' hn rfl
                  have n1 := frozen_of_row W Bn 0 _ _ hn
                  have v0 : W.cell? ⟨Bw, 0, none⟩ = some v := cell_of_row' hv rfl
                  have r0 : W.cell? ⟨w.heap.size, 0, none⟩ = some (.bool false) := cell_of_row' (hkm.1.row (.tail _ (.tail _ (.head _)))) rfl
                  have r1 := frozen_of_row W w.heap.size 0 _ _ (hkm.1.row (.tail _ (.tail _ (.head _))))
                  have e0 : W.cell? ⟨Bx, 0, none⟩ = some (.string x.name) := cell_of_row' hx rfl
                  have e1 : W.cell? ⟨Bx, 1, none⟩ = some (.int .i64 x.head) := cell_of_row' hx rfl
                  have e2 : W.cell? ⟨Bx, 2, none⟩ = some (.int .i64 x.xt) := cell_of_row' hx rfl
                  have e3 : W.cell? ⟨Bx, 3, none⟩ = some (.bool x.imm) := cell_of_row' hx rfl
                  have e4 : W.cell? ⟨Bx, 4, none⟩ = some (.bool x.hid) := cell_of_row' hx rfl
                  have e5 : W.cell? ⟨Bx, 5, none⟩ = some (.bool x.inl) := cell_of_row' hx rfl
                  have HKM := hide hkm
                  have HN := hide hn
                  have HPF := hide (fun h : pre ++ [x] <+: words => pre_of h)
                  have hpl : (pre.length : Int) ≤ 20000 := by omega
                  by_cases hlt : pre.length < words.length
                  · rcases hown.2 with ⟨rfl, hz0⟩ | ⟨g, cap, cur, rfl, hg0, hrow, hc1, hc2, hcs, htk⟩
                    · omega
                    · obtain ⟨y, hy⟩ : ∃ y, words[pre.length]? = some y := ⟨_, List.getElem?_eq_getElem hlt⟩
                      have f0 : W.cell? ⟨g, pre.length * 6, none⟩ = some (.string y.name) := cell_of_row' hrow (row_get htk hy (by omega) (j := 0) rfl)
                      have f1 : W.cell? ⟨g, pre.length * 6 + 1, none⟩ = some (.int .i64 y.head) := cell_of_row' hrow (row_get htk hy (by omega) (j := 1) rfl)
                      have f2 : W.cell? ⟨g, pre.length * 6 + 2, none⟩ = some (.int .i64 y.xt) := cell_of_row' hrow (row_get htk hy (by omega) (j := 2) rfl)
                      have f3 : W.cell? ⟨g, pre.length * 6 + 3, none⟩ = some (.bool y.imm) := cell_of_row' hrow (row_get htk hy (by omega) (j := 3) rfl)
                      have f4 : W.cell? ⟨g, pre.length * 6 + 4, none⟩ = some (.bool y.hid) := cell_of_row' hrow (row_get htk hy (by omega) (j := 4) rfl)
                      have f5 : W.cell? ⟨g, pre.length * 6 + 5, none⟩ = some (.bool y.inl) := cell_of_row' hrow (row_get htk hy (by omega) (j := 5) rfl)
                      have HY := hide hy
                      simp only [maxLen] at hc2
                      have hlt' : (pre.length : Int) < (words.length : Int) := by omega
                      have hge : decide (words.length ≤ pre.length) = false := by simp; omega
                      have hge' : decide ((words.length : Int) ≤ (pre.length : Int)) = false := by simp; omega
                      have heq := equalIn_word x y
                      clear hkm hn hx hv hown hrow htk hcs hy
                      cases hb : eqW x y with
                      | true =>
                        have HEQ := hide ((eqW_iff x y).1 hb)
                        rw [hb] at heq
                        clear hb
                        gi_wp2
                        refine wpIn_region_quiet_round (by kernel_rfl) (by kernel_rfl) (by kernel_rfl) ?_
                        repeat (go_big_quiet_step (fail))
                        refine wpQuiet_nil ?_
                        rintro W' ⟨nq, rfl⟩
                        gi_wp2
                        have HND := hide (show (W.drewN nq).heap[Bn]? = some (.cells #[.int .i64 (pre.length : Int)] 3 (0, 0)) from HN.out)
                        have hset := heap_setCell_same (W.drewN nq) Bn 0 _ _ (.int .i64 ((pre.length : Int) + 1)) HND.out
                        refine ⟨((KeepsOthers.drewN W nq).trans (KeepsOthers.setCell _ _ _)).from _, ?_, ?_, ?_, ?_⟩
                        · refine ⟨by simp, fun k o hk ho hne hno => ?_, .inl ?_⟩
                          · exact (heap_setCell_other _ _ _ _ (by exact hne)).trans hk
                          · rw [ownIn_row hset, ownIn_row HN.out]
                            rfl
                        · refine (HKM.out.below (below_drewN (Below.refl _ W) nq)).set _ HND.out (by decide) (by omega) (by omega) (fun y hy => ?_)
                          simp only [List.mem_cons, List.not_mem_nil, or_false] at hy
                          rcases hy with rfl | rfl | rfl
                          · show F ≠ Bn; omega
                          · show E ≠ Bn; omega
                          · show w.heap.size ≠ Bn; omega
                        · have : (W.drewN nq).heap.size = W.heap.size := rfl
                          simp
                          omega
                        · rw [List.length_append]
                          exact hset
                      | false =>
                        have HEQ := hide (show x ≠ y from fun h => by rw [(eqW_iff x y).2 h] at hb; cases hb)
                        rw [hb] at heq
                        clear hb
                        gi_wp2
                        refine wpIn_region_quiet_round (by kernel_rfl) (by kernel_rfl) (by kernel_rfl) ?_
                        repeat (go_big_quiet_step (fail))
                        refine wpQuiet_nil ?_
                        rintro W' ⟨nq, rfl⟩
                        gi_wp2
                        refine ⟨((KeepsOthers.drewN W nq).trans (KeepsOthers.setCell _ _ _)).from _, fun hp => ?_⟩
                        have h1 := HPF.out hp
                        rw [HY.out] at h1
                        exact HEQ.out (by injection h1 with h1; exact h1.symm)
                  · have hlt' : ¬ (pre.length : Int) < (words.length : Int) := by omega
                    have hge : decide (words.length ≤ pre.length) = true := by simp; omega
                    have hge' : decide ((words.length : Int) ≤ (pre.length : Int)) = true := by simp; omega
                    have HLT := hide hlt
                    obtain ⟨sp, sc, rfl⟩ : ∃ sp sc, v = .slice sp words.length sc := by
                      rcases hown.2 with ⟨rfl, hz0⟩ | ⟨g, cap, cur, rfl, _⟩
                      · exact ⟨none, 0, by rw [hz0]⟩
                      · exact ⟨_, _, rfl⟩
                    clear hkm hn hx hv hown hlt
                    gi_wp2
                    refine wpIn_region_quiet_round (by kernel_rfl) (by kernel_rfl) (by kernel_rfl) ?_
                    repeat (go_big_quiet_step (fail))
                    refine wpQuiet_nil ?_
                    rintro W' ⟨nq, rfl⟩
                    gi_wp2
                    refine ⟨((KeepsOthers.drewN W nq).trans (KeepsOthers.setCell _ _ _)).from _, fun hp => ?_⟩
                    have h1 := HPF.out hp
                    exact HLT.out (List.getElem?_eq_some_iff.1 h1).1
                · intro Dd2 W hDd2 hI hDf2
                  obtain ⟨hkm, hsz, hn⟩ := hI
                  rw [HWC.out] at hn
                  obtain ⟨v, hv, hown⟩ := hkm.2.1
                  obtain ⟨sp, sc, rfl⟩ : ∃ sp sc, v = .slice sp words.length sc := by
                    rcases hown.2 with ⟨rfl, hz0⟩ | ⟨g, cap, cur, rfl, _⟩
                    · exact ⟨none, 0, by rw [hz0]⟩
                    · exact ⟨_, _, rfl⟩
                  have n0 : W.cell? ⟨Bn, 0, none⟩ = some (.int .i64 (words.length : Int)) := cell_of_row' hn rfl
                  have v0 : W.cell? ⟨Bw, 0, none⟩ = some (.slice sp words.length sc) := cell_of_row' hv rfl
                  have r0 : W.cell? ⟨w.heap.size, 0, none⟩ = some (.bool false) := cell_of_row' (hkm.1.row (.tail _ (.tail _ (.head _)))) rfl
                  have r1 := frozen_of_row W w.heap.size 0 _ _ (hkm.1.row (.tail _ (.tail _ (.head _))))
                  obtain ⟨e0, e1, e2, e3, e4⟩ := C5.row (hkm.1.row (.tail _ (.head _)))
                  obtain ⟨f0, f1, f2, f3, f4⟩ := C5.row (hkm.1.row (.head _))
                  have hsame : sameB q0 q1 q2 q0 q1 q2 (hh : Int) (ll : Int) hh ll = true := by simp [sameB]
                  have heq : ∀ W, _ := equalIn_state q0 q1 q2 q0 q1 q2 (hh : Int) (ll : Int) hh ll
                  rw [hsame] at heq
                  have HKM := hide hkm
                  have HDF := hide hDf2
                  have HSAME := hide (fun W => same_any q0 q1 q2 q0 q1 q2 (hh : Int) (ll : Int) hh ll W)
                  rw [hsame] at HSAME
                  clear hkm hn hv hown hDf2 hsame HI0 HBn HM5
                  go_wp2_with fail
                  refine (HSAME.out W).mono ?_
                  rintro e w30 ⟨rfl, hb30⟩
                  have HM30 := hide (HKM.out.below hb30)
                  have HDF30 := hide ((hb30.block Dd2 (Array.getElem?_eq_some_iff.1 HDF.out).1).trans HDF.out)
                  have n0' := (hb30.cell (p := ⟨Bn, 0, none⟩) (by show Bn < W.heap.size; omega)).trans n0
                  have v0' := (hb30.cell (p := ⟨Bw, 0, none⟩) (by show Bw < W.heap.size; omega)).trans v0
                  have r0 : w30.cell? ⟨w.heap.size, 0, none⟩ = some (.bool false) := cell_of_row' (HM30.out.1.row (.tail _ (.tail _ (.head _)))) rfl
                  have r1 := frozen_of_row w30 w.heap.size 0 _ _ (HM30.out.1.row (.tail _ (.tail _ (.head _))))
                  clear n0 v0 e0 e1 e2 e3 e4 f0 f1 f2 f3 f4 heq HKM HDF HSAME hb30
                  go_wp2_with fail
                  have hrow := heap_setCell_same w30 w.heap.size 0 _ _ (.bool true) (HM30.out.1.row (.tail _ (.tail _ (.head _))))
                  have hd1 : (w30.setCell ⟨w.heap.size, 0, none⟩ (.bool true)).heap[Dd2]? = some (.deferred (some [])) := (heap_setCell_other _ _ _ _ (by show Dd2 ≠ w.heap.size; omega)).trans HDF30.out
                  have hd2 : ((w30.setCell ⟨w.heap.size, 0, none⟩ (.bool true)).putObj Dd2 (.deferred none)).heap[Dd]? = some (.deferred (some [])) :=
                    (World.putObj_heap_other (by omega)).trans ((heap_setCell_other _ _ _ _ (by show Dd ≠ w.heap.size; omega)).trans HM30.out.2.2.1)
                  have hc : (((w30.setCell ⟨w.heap.size, 0, none⟩ (.bool true)).putObj Dd2 (.deferred none)).putObj Dd (.deferred none)).cell? ⟨w.heap.size, 0, none⟩ = some (.bool true) :=
                    cell_of_row' ((World.putObj_heap_other (by omega)).trans ((World.putObj_heap_other (by omega)).trans hrow)) rfl
                  refine ⟨by simp, .inl ⟨_, _, rfl, run_takeDeferred hd1, ⟨by simp, .inl ⟨_, _, rfl, run_takeDeferred hd2, ⟨_, results_cell_bool rfl _ _ w.heap.size true rfl hc, rfl, ?_⟩⟩⟩⟩⟩
                  have hbb := HM30.out.1.2.1
                  have hsz30 := HM30.out.1.lt
                  refine Below.grown (row := some Dd) (Below.grown (row := some Dd2) (Below.grown (row := some w.heap.size) hbb (grownBy_setCell (grownBy_id _ _)) (by omega) (fun k e => by injection e with e; omega)) (grownBy_putObj' _ _ _) (by simp; omega) (fun k e => by injection e with e; omega)) (grownBy_putObj' _ _ _) ?_ (fun k e => by injection e with e; omega)
                  simp
                  omega

end Go.Proofs.YthaldkmjjpepjaaDoor
