/-
  Differ of layer 16.
-/
import Derived.Test.YthaldkmjjpepjaaDoorRc
import Derived.Deep.RegionHeld3
import Derived.Deep.DeepCutAuto
namespace Go.Proofs.YthaldkmjjpepjaaDoor
open Go.RowKit

theorem rows3_cell {w : World} {g : Nat} {L : List ByteArray} {e : TypeId} (h : w.heap[g]? = some (.cells (L.map Value.string).toArray e (0, 0))) {k : Nat} {s : ByteArray} (hs : L[k]? = some s) :
    w.cell? ⟨g, k, none⟩ = some (.string s) := by
  rw [cell_of_row w g k _ _ _ h]
  simp [hs]

theorem two_rows_first (W : World) (X Y : Obj) (n : Nat) (h : n = W.heap.size) : ((W.alloc X).alloc Y).drew.heap[n]? = some X := by
  subst h
  exact heap_alloc2_old W X Y
theorem two_rows_last (W : World) (Y : Obj) (n : Nat) (h : n = W.heap.size) : (W.alloc Y).drew.heap[n]? = some Y := by
  subst h
  exact heap_alloc_new W Y
theorem two_below (w : World) (A B X Y : Obj) : Below w.heap.size w ((((w.alloc A).alloc B).alloc X).alloc Y).drew :=
  (((((Below.refl _ _).alloc (Nat.le_refl _) _).alloc (by simp) _).alloc (by simp; omega) _).alloc (by simp; omega) _).drew

set_option maxRecDepth 100000 in
set_option maxHeartbeats 4000000 in
theorem differ_any (a0 a1 a2 b0 b1 b2 : ByteArray) (h l h' l' : Int) (w : World)
    (ha : ∀ s ∈ [a0, a1, a2], s.size ≤ 9223372036854775807) (hb : ∀ s ∈ [b0, b1, b2], s.size ≤ 9223372036854775807) :
    Calls Tryd.prog 16 #[.agg #[.string a0, .string a1, .string a2, .int .i64 h, .int .i64 l], .agg #[.string b0, .string b1, .string b2, .int .i64 h', .int .i64 l']] w fun e w' =>
      e = .returned (.tuple #[.int .i64 (diffV [a0, a1, a2] [b0, b1, b2] 0).1, .int .i64 (diffV [a0, a1, a2] [b0, b1, b2] 0).2]) ∧ Below w.heap.size w w' := by
  have HA := hide ha
  have HB := hide hb
  clear ha hb
  go_enter Tryd.func16, Tryd.ntmps16
  go_upto_region 1 with fail
  go_cut [6, 7] (fun s6 s7 wx => ∃ p q : Nat, s6 = .pointer (some ⟨p, 0, none⟩) ∧ s7 = .pointer (some ⟨q, 0, none⟩) ∧ wx.heap[p]? = some (.cells (([a0, a1, a2] : List ByteArray).map Value.string).toArray 88 (0, 0)) ∧
      wx.heap[q]? = some (.cells (([b0, b1, b2] : List ByteArray).map Value.string).toArray 88 (0, 0)) ∧ Below w.heap.size w wx)
  case first =>
    go_region_held3 (fun w' => w'.cell? ⟨w.heap.size, 0, none⟩ = some (.string a0) ∧ w'.cell? ⟨w.heap.size, 1, none⟩ = some (.string a1) ∧ w'.cell? ⟨w.heap.size, 2, none⟩ = some (.string a2) ∧
        w'.cell? ⟨w.heap.size + 1, 0, none⟩ = some (.string b0) ∧ w'.cell? ⟨w.heap.size + 1, 1, none⟩ = some (.string b1) ∧ w'.cell? ⟨w.heap.size + 1, 2, none⟩ = some (.string b2))
      (first
        | assumption
        | go_keep
        | (refine ⟨by simp, by simp, by simp, by simp, by simp, by simp⟩))
      (fail)
    all_goals
      go_wp2_with fail
      go_meet
    · refine ⟨w.heap.size + 1 + 1, w.heap.size + 1 + 1 + 1, rfl, rfl, ?_, ?_, ?_⟩
      · exact two_rows_first _ _ _ _ (by simp)
      · exact two_rows_last _ _ _ (by simp)
      · exact two_below _ _ _ _ _
    · refine ⟨w.heap.size + 1 + 1 + 1, w.heap.size + 1 + 1, rfl, rfl, ?_, ?_, ?_⟩
      · exact two_rows_last _ _ _ (by simp)
      · exact two_rows_first _ _ _ _ (by simp)
      · exact two_below _ _ _ _ _
  case rest =>
    obtain ⟨p, q, rfl, rfl, hp, hq, hbw⟩ := hcut
    go_wp2_with fail
    go_loopw [24] (fun i wr => ∃ k nd : Nat, k ≤ 3 ∧ i = .int .i64 k ∧ wr = wc.drewN nd ∧ Hid (diffV [a0, a1, a2] [b0, b1, b2] 0 = diffV ([a0, a1, a2].drop k) ([b0, b1, b2].drop k) k)) (fun i _ => 3 - (intOf i).toNat)
    case atStart => exact ⟨0, 0, by omega, rfl, rfl, rfl⟩
    case round =>
      obtain ⟨k, nd, hk, rfl, rfl, hd⟩ := hrel
      by_cases hlt : k < 3
      · obtain ⟨s, hs⟩ : ∃ s, [a0, a1, a2][k]? = some s := ⟨_, List.getElem?_eq_getElem (by simpa using hlt)⟩
        obtain ⟨t, ht⟩ : ∃ t, [b0, b1, b2][k]? = some t := ⟨_, List.getElem?_eq_getElem (by simpa using hlt)⟩
        have cs := rows3_cell hp hs
        have ct := rows3_cell hq ht
        have zs := HA.out s (List.mem_of_getElem? hs)
        have zt := HB.out t (List.mem_of_getElem? ht)
        have HST := hide (And.intro hs ht)
        clear hs ht hp hq
        have hk0 : (0 : Int) ≤ (k : Int) := by omega
        have hk3 : (k : Int) < 3 := by omega
        by_cases he : firstN (sl s) (sl t) = none
        · have hq : (s.toList == t.toList) = true := by rw [sl_beq, he]; rfl
          have HE := hide he
          clear he
          go_wp2_with fail
          go_quiet (fail)
          go_wp2_with fail
          go_roundw
          case rel => exact ⟨k + 1, nd + nq, by omega, by go_num, rfl, hd.out.trans (diffV_same HST.out.1 HST.out.2 HE.out)⟩
          case measure => simp [intOf]; omega
        · obtain ⟨j, hj⟩ := Option.ne_none_iff_exists'.1 he
          have hq : (s.toList == t.toList) = false := by rw [sl_beq, hj]; rfl
          have HE := hide hj
          clear he hj
          go_wp2_with fail
          go_quiet (fail)
          go_wp2_with fail
          have HP := hide (hd.out.trans (diffV_part HST.out.1 HST.out.2 HE.out))
          obtain ⟨wo, hwo⟩ : ∃ wo, wo = (wc.drewN nd).drewN nq := ⟨_, rfl⟩
          have cs' : wo.cell? ⟨p, k, none⟩ = some (.string s) := by rw [hwo]; exact cs
          have ct' : wo.cell? ⟨q, k, none⟩ = some (.string t) := by rw [hwo]; exact ct
          have hbo : Below w.heap.size w wo := by rw [hwo]; exact ⟨hbw.os, hbw.tape, hbw.output, hbw.size, hbw.block⟩
          rw [← hwo]
          clear hwo cs ct hq
          go_loopw [9] (fun i wi => ∃ n n2 : Nat, n ≤ j ∧ i = .int .i64 n ∧ wi = wo.drewN n2) (fun i _ => j - (intOf i).toNat)
          case atStart => exact ⟨0, 0, by omega, rfl, rfl⟩
          case round =>
            obtain ⟨n, n2, hn, rfl, rfl⟩ := hrel
            obtain ⟨hj1, hj2, hj3, hj4⟩ := firstN_some HE.out
            rw [sl_length] at hj2 hj3
            by_cases hnj : n < j
            · have e1 : (s[n]'(by omega)) = (t[n]'(by omega)) := by
                have h := congrArg (fun l => l[n]?) hj1
                simp only [List.getElem?_take, if_pos hnj] at h
                rw [List.getElem?_eq_getElem (by rw [sl_length]; omega), List.getElem?_eq_getElem (by rw [sl_length]; omega)] at h
                exact Option.some.inj h
              have E1 := hide e1
              have e2 : ((s[n]'(by omega)).toNat : Int) = ((t[n]'(by omega)).toNat : Int) := by rw [e1]
              have e3 : (((s[n]'(by omega)).toNat : Int) == ((t[n]'(by omega)).toNat : Int)) = true := by rw [e2]; simp
              have hmin : decide ((n : Int) < if t.size < s.size then (t.size : Int) else (s.size : Int)) = true := by simp only [decide_eq_true_eq]; split <;> omega
              have q1 : (0 : Int) ≤ (n : Int) := by omega
              have q2 : (n : Int) < (s.size : Int) := by omega
              have q3 : (n : Int) < (t.size : Int) := by omega
              have q4 : n < s.size := by omega
              have q5 : n < t.size := by omega
              clear e1 e2 hj1 hj4
              go_wp2_with fail
              go_quiet (fail)
              go_wp2_with fail
              go_roundw
              case rel => exact ⟨n + 1, n2 + nq, by omega, by go_num, rfl⟩
              case measure => simp [intOf]; omega
            · obtain rfl : n = j := by omega
              by_cases hend : n < s.size ∧ n < t.size
              · obtain ⟨q4, q5⟩ := hend
                have e1 : ((s[n]'q4).toNat : Int) ≠ ((t[n]'q5).toNat : Int) := by
                  intro h
                  exact hj4 (by rw [sl_length]; exact q4) (by rw [sl_length]; exact q5) (UInt8.toNat_inj.1 (by have : (s[n]'q4).toNat = (t[n]'q5).toNat := by omega
                                                                                                               exact this))
                have e3 : (((s[n]'q4).toNat : Int) == ((t[n]'q5).toNat : Int)) = false := by simpa using e1
                have hmin : decide ((n : Int) < if t.size < s.size then (t.size : Int) else (s.size : Int)) = true := by simp only [decide_eq_true_eq]; split <;> omega
                have q1 : (0 : Int) ≤ (n : Int) := by omega
                have q2 : (n : Int) < (s.size : Int) := by omega
                have q3 : (n : Int) < (t.size : Int) := by omega
                clear e1 hj1 hj4
                go_wp2_with fail
                go_quiet (fail)
                go_wp2_with fail
                all_goals
                  go_ret2
                  refine ⟨?_, hbo.os, hbo.tape, hbo.output, hbo.size, hbo.block⟩
                  rw [HP.out]
                  rfl
              · have hmin : decide ((n : Int) < if t.size < s.size then (t.size : Int) else (s.size : Int)) = false := by simp only [decide_eq_false_iff_not]; split <;> omega
                clear hj1 hj4
                go_wp2_with fail
                go_quiet (fail)
                go_wp2_with fail
                all_goals
                  go_ret2
                  refine ⟨?_, hbo.os, hbo.tape, hbo.output, hbo.size, hbo.block⟩
                  rw [HP.out]
                  rfl
      · obtain rfl : k = 3 := by omega
        have HD := hide (show diffV [a0, a1, a2] [b0, b1, b2] 0 = (0, 0) from hd.out.trans rfl)
        clear hp hq
        go_wp2_with fail
        go_ret2
        refine ⟨?_, hbw.os, hbw.tape, hbw.output, hbw.size, hbw.block⟩
        rw [HD.out]
        rfl

end Go.Proofs.YthaldkmjjpepjaaDoor
