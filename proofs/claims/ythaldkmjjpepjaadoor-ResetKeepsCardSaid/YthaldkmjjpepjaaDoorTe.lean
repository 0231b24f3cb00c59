/-
  All: the words of a list, handed to a loop's body one by one.
-/
import Derived.Test.YthaldkmjjpepjaaDoorTd
import Derived.RangeFuncNested
import Derived.RangeFuncBound
import Derived.RangeFuncCalls
import Derived.RangeFuncLeaves
import Derived.Shelf.Abstract
import Derived.Shelf.RegionOpen
import Derived.OwnWalkIn
import Derived.TacticsInMore
import Derived.LoopNIn
import Derived.LoopIn
namespace Go.Proofs.YthaldkmjjpepjaaDoor
open Go.RowKit Go.Shelf

attribute [local go_sem] Oper.semAt_some

/-- The block of the slice that a box holds. -/
def ownIn (B : Nat) (W : World) : Option Nat := match W.heap[B]? with
  | some (.cells cs _ _) => match cs[0]? with
    | some v => v.ownBlock
    | none => none
  | _ => none

/-- A round keeps all cells but those of a box and of the slice in it; that slice lies where it lay, or in a new block. -/
structure Kept (B : Nat) (W W' : World) : Prop where
  size : W.heap.size ≤ W'.heap.size
  cells : ∀ k o, W.heap[k]? = some o → o.isCells = true → k ≠ B → ownIn B W ≠ some k → W'.heap[k]? = some o
  own : ownIn B W' = ownIn B W ∨ ∃ b, W.heap.size ≤ b ∧ ownIn B W' = some b

theorem Kept.trans {B : Nat} {X Y Z : World} (h : Kept B X Y) (k : Kept B Y Z) : Kept B X Z := by
  refine ⟨Nat.le_trans h.size k.size, fun i o hi ho hne hown => ?_, ?_⟩
  · have hl := (Array.getElem?_eq_some_iff.1 hi).1
    refine k.cells i o (h.cells i o hi ho hne hown) ho hne ?_
    rcases h.own with e | ⟨b, hb, e⟩
    · rw [e]; exact hown
    · rw [e]; intro e'; injection e' with e'; omega
  · rcases k.own with e | ⟨b, hb, e⟩
    · rw [e]; exact h.own
    · exact .inr ⟨b, Nat.le_trans h.size hb, e⟩

theorem Kept.putObj {B : Nat} {W : World} {l : Nat} {o : Obj} (o' : Obj) (hl : W.heap[l]? = some o) (ho : o.isCells = false) (hB : l ≠ B) : Kept B W (W.putObj l o') := by
  have hg := grownBy_putObj' W l o'
  have hBk : (W.putObj l o').heap[B]? = W.heap[B]? := World.putObj_heap_other (fun e => hB e.symm)
  refine ⟨hg.size, fun k ob hk hob _ _ => ?_, .inl (by unfold ownIn; rw [hBk])⟩
  have : k ≠ l := by
    intro e; subst e
    rw [hl] at hk
    injection hk with hk
    subst hk
    rw [ho] at hob
    cases hob
  exact (World.putObj_heap_other this).trans hk

set_option maxHeartbeats 1000000 in
theorem all_any (D : Nat) (w : World) :
    Calls Tryd.prog 30 #[.pointer (some ⟨D, 0, none⟩)] w fun e w' => e = .returned (.func (.func 54) #[] #[.pointer (some ⟨w.heap.size, 0, none⟩)]) ∧ w' = w.alloc (.cells #[.pointer (some ⟨D, 0, none⟩)] 45) := by
  go_enter Tryd.func30, Tryd.ntmps30
  go_wp2
  go_ret
  exact ⟨rfl, rfl⟩

theorem wcells_get : ∀ (l : List WordV) (k j : Nat) (x : WordV), l[k]? = some x → j < 6 → (wcells l)[k * 6 + j]? = x.cells.toList[j]?
  | [], _, _, _, h, _ => by simp at h
  | y :: l, 0, j, x, h, hj => by
    obtain rfl : y = x := by simpa using h
    rw [show wcells (y :: l) = y.cells.toList ++ wcells l from rfl, List.getElem?_append_left (by simp; omega)]
    simp
  | y :: l, k + 1, j, x, h, hj => by
    rw [show wcells (y :: l) = y.cells.toList ++ wcells l from rfl, List.getElem?_append_right (by simp; omega)]
    have := wcells_get l k j x (by simpa using h) hj
    rw [← this]
    congr 1
    simp
    omega
theorem row_get {cur : Array Value} {l : List WordV} {n : Nat} (h : cur.toList.take n = wcells l) {k j : Nat} {x : WordV} (hk : l[k]? = some x) (hj : j < 6) {v : Value} (hv : x.cells.toList[j]? = some v) : cur[k * 6 + j]? = some v := by
  have h1 := wcells_get l k j x hk hj
  rw [hv, ← h, List.getElem?_take] at h1
  split at h1
  · simpa using h1
  · cases h1

theorem cell_of_row' {w : World} {g i : Nat} {cs : Array Value} {t : TypeId} {fr : Nat × Nat} {v : Value} (h : w.heap[g]? = some (.cells cs t fr)) (hv : cs[i]? = some v) : w.cell? ⟨g, i, none⟩ = some v :=
  (cell_of_row w g i _ _ _ h).trans hv

theorem ownIn_alloc {B : Nat} {W : World} (hB : B < W.heap.size) (o : Obj) : ownIn B (W.alloc o) = ownIn B W := by
  unfold ownIn
  rw [heap_alloc_old W o hB]

theorem take_len {α : Type} (l : List α) (k : Nat) (h : k ≤ l.length) : (l.take k).length = k := by rw [List.length_take]; omega
theorem take_one {l : List WordV} {k : Nat} (h : k < l.length) : l.take (k + 1) = l.take k ++ [l[k]] := by
  rw [List.take_succ_eq_append_getElem h]

set_option maxRecDepth 100000 in
set_option maxHeartbeats 4000000 in
theorem all_round (F : Fence) (n : Nat) (h54 : F.fn 54) (hro : F.round = none) (hn : 1 ≤ n) (hw : F = Fence.wide) (l Bd B : Nat) (N D G m : Nat) (S T h lt : Int) (bs : List UInt8) (J Jx : List WordV → World → Prop)
    (W : World) (hJ : AbidesFrom W.heap.size J)
    (hY : ∀ pre x W1, J pre W1 → pre.length < 20000 → YieldAt F (n - 1) Tryd.prog l #[.agg x.cells] W1 fun e W' =>
      (e = .returned (.bool true) ∧ J (pre ++ [x]) W' ∧ Kept B W1 W') ∨ (e = .returned (.bool false) ∧ Jx (pre ++ [x]) W'))
    (hBd : W.cell? ⟨Bd, 0, none⟩ = some (.pointer (some ⟨D, 0, none⟩))) (hD : Dic N D G m S T h lt bs W) (hB : B < W.heap.size) (hO : ∀ k, ownIn B W = some k → k < W.heap.size) (h0 : J [] W) :
    CallsIn F n Tryd.prog 54 #[.func (.yield l) #[] #[], .pointer (some ⟨Bd, 0, none⟩)] W fun e W' => (∃ v, e = .returned v) ∧
      ((∃ ys, ys = wordsFrom S bs 20000 lt ∧ J ys W') ∨ (∃ pre, pre <+: wordsFrom S bs 20000 lt ∧ Jx pre W')) := by
  subst hw
  have HW := hide (walk_any N D G m S T h lt bs W hD)
  obtain ⟨tot, ht⟩ : ∃ tot, tot = wordsFrom S bs 20000 lt := ⟨_, rfl⟩
  have hlen : tot.length ≤ 20000 := by rw [ht]; exact wordsFrom_len _ _ _ _
  rw [← ht] at HW ⊢
  clear ht hD
  refine callsIn_of_wp Tryd.func54 rfl h54 ?_ hro
  simp only [Tryd.ntmps54, List.size_toArray, List.length_cons, List.length_nil, Nat.reduceAdd, Nat.reduceSub, Array.replicate_succ, Array.replicate_zero, List.push_toArray, List.append_toArray, List.nil_append, List.cons_append]
  gi_wp2_with fail
  refine ⟨trivial, ?_⟩
  refine (callsIn_wide.2 HW.out).mono ?_
  rintro e w1 ⟨v, rfl, hown, hb1⟩
  have hJ1 : J [] w1 := hJ _ _ _ none h0 (grownBy_of_below hb1 none) (fun r e => by cases e)
  have hO1 : ownIn B w1 = ownIn B W := by unfold ownIn; rw [hb1.block B hB]
  rcases hown.2 with ⟨rfl, hz⟩ | ⟨g, cap, cur, rfl, hg0, hrow, hc1, hc2, hcs, htk⟩
  · have HZ := hide (show tot = [] from List.eq_nil_of_length_eq_zero hz)
    have HJ1 := hide hJ1
    clear hown hb1 hJ hY hz hJ1 hO hO1 h0 HW hBd
    gi_wp2
    gi_loopw [8] (fun i wr => i = .int .i64 0 ∧ Hid (J [] wr)) (fun _ _ => 0)
    case atStart => exact ⟨rfl, HJ1.out⟩
    case round =>
      obtain ⟨rfl, hJs⟩ := hrel
      gi_wp2
      go_end0
      exact ⟨⟨_, rfl⟩, .inl ⟨_, by rw [HZ.out], hJs.out⟩⟩
  · have hgB : g ≠ B := by omega
    have hgo : ownIn B w1 ≠ some g := by rw [hO1]; intro e; have := hO g e; omega
    have HTK := hide htk
    have HCS := hide hcs
    have HJ := hide hJ
    have HY := hide hY
    have hs1 : W.heap.size ≤ w1.heap.size := hb1.size
    have HS := hide (show J (tot.take 0) w1 ∧ w1.heap[g]? = some (.cells cur 72 (0, 0)) ∧ ownIn B w1 ≠ some g from ⟨by simpa using hJ1, hrow, hgo⟩)
    simp only [maxLen] at hc2
    clear hown hb1 hJ hY hJ1 hO hO1 h0 HW hBd htk hcs hrow hgo
    gi_wp2
    gi_loopw [8] (fun i wr => ∃ k : Nat, k ≤ tot.length ∧ i = .int .i64 k ∧ W.heap.size ≤ wr.heap.size ∧ Hid (J (tot.take k) wr ∧ wr.heap[g]? = some (.cells cur 72 (0, 0)) ∧ ownIn B wr ≠ some g)) (fun i _ => tot.length - (intOf i).toNat)
    case atStart => exact ⟨0, by omega, rfl, hs1, HS.out⟩
    case round =>
      obtain ⟨k, hk, rfl, hsz, hR⟩ := hrel
      by_cases hlt : k < tot.length
      · obtain ⟨x, hx⟩ : ∃ x, tot[k]? = some x := ⟨_, List.getElem?_eq_getElem hlt⟩
        have e0 : wr.cell? ⟨g, k * 6, none⟩ = some (.string x.name) := cell_of_row' hR.out.2.1 (row_get HTK.out hx (by omega) (j := 0) rfl)
        have e1 : wr.cell? ⟨g, k * 6 + 1, none⟩ = some (.int .i64 x.head) := cell_of_row' hR.out.2.1 (row_get HTK.out hx (by omega) (j := 1) rfl)
        have e2 : wr.cell? ⟨g, k * 6 + 2, none⟩ = some (.int .i64 x.xt) := cell_of_row' hR.out.2.1 (row_get HTK.out hx (by omega) (j := 2) rfl)
        have e3 : wr.cell? ⟨g, k * 6 + 3, none⟩ = some (.bool x.imm) := cell_of_row' hR.out.2.1 (row_get HTK.out hx (by omega) (j := 3) rfl)
        have e4 : wr.cell? ⟨g, k * 6 + 4, none⟩ = some (.bool x.hid) := cell_of_row' hR.out.2.1 (row_get HTK.out hx (by omega) (j := 4) rfl)
        have e5 : wr.cell? ⟨g, k * 6 + 5, none⟩ = some (.bool x.inl) := cell_of_row' hR.out.2.1 (row_get HTK.out hx (by omega) (j := 5) rfl)
        have hJa := HJ.out _ _ _ none hR.out.1 (World.grownBy_alloc wr (.cells x.cells 72) none) (fun r e => by cases e)
        obtain ⟨fn, tmps, assign, body, hy, hR3⟩ := HY.out (tot.take k) x _ hJa (by rw [List.length_take]; omega)
        have HRK := hide (show (wr.alloc (.cells x.cells 72)).heap[g]? = some (.cells cur 72 (0, 0)) ∧ ownIn B (wr.alloc (.cells x.cells 72)) ≠ some g from
          ⟨(heap_alloc_old wr _ (Array.getElem?_eq_some_iff.1 hR.out.2.1).1).trans hR.out.2.1, by rw [ownIn_alloc (by omega)]; exact hR.out.2.2⟩)
        have HX := hide (show tot.take (k + 1) = tot.take k ++ [x] by rw [List.take_add_one, hx]; rfl)
        have HR3 := hide hR3
        clear hR hJa hx hR3
        gi_wp2
        refine HR3.out.mono ?_
        rintro e W3 (⟨rfl, hJ3, hk3⟩ | ⟨rfl, hJx3⟩)
        · have HN := hide (show J (tot.take (k + 1)) W3 ∧ W3.heap[g]? = some (.cells cur 72 (0, 0)) ∧ ownIn B W3 ≠ some g from by
            refine ⟨by rw [HX.out]; exact hJ3, hk3.cells g _ HRK.out.1 rfl hgB HRK.out.2, ?_⟩
            rcases hk3.own with e | ⟨b, hb, e⟩
            · rw [e]; exact HRK.out.2
            · rw [e]; intro e'; injection e' with e'
              have := (Array.getElem?_eq_some_iff.1 HRK.out.1).1
              omega)
          have hs3 : W.heap.size ≤ W3.heap.size := by have := hk3.size; simp at this; omega
          clear hJ3 hk3 hy HR3 HX HRK e0 e1 e2 e3 e4 e5
          gi_wp2
          go_roundw
          case rel => exact ⟨k + 1, by omega, by go_num, hs3, HN.out⟩
          case measure => simp [intOf]; omega
        · have HJX := hide hJx3
          clear hJx3 hy HR3 HRK e0 e1 e2 e3 e4 e5
          gi_wp2
          refine bodyPost_ret (results_none rfl _ _ _) rfl ?_
          exact ⟨⟨_, rfl⟩, .inr ⟨tot.take k ++ [x], by rw [← HX.out]; exact List.take_prefix _ _, HJX.out⟩⟩
      · obtain rfl : k = tot.length := by omega
        have HE := hide (List.take_length (l := tot))
        gi_wp2
        go_end0
        exact ⟨⟨_, rfl⟩, .inl ⟨_, HE.out, hR.out.1⟩⟩

/-- All's value, as what a loop over it wants. -/
theorem all_stops (n : Nat) (hn : 1 ≤ n) (Bd B : Nat) (N D G m : Nat) (S T h lt : Int) (bs : List UInt8) (w : World) (hBd : w.cell? ⟨Bd, 0, none⟩ = some (.pointer (some ⟨D, 0, none⟩))) (hBl : Bd < w.heap.size) (hD : Dic N D G m S T h lt bs w)
    (hB : B < w.heap.size) (hO : ∀ k, ownIn B w = some k → k < w.heap.size) :
    SeqStopsK Fence.wide n Tryd.prog 54 #[.pointer (some ⟨Bd, 0, none⟩)] (fun x : WordV => #[Value.agg x.cells]) (Kept B) (fun ys => ys = wordsFrom S bs 20000 lt) (fun pre => pre <+: wordsFrom S bs 20000 lt) 20000 w :=
  fun l J Jx W hW hJ _ hY h0 => all_round Fence.wide n trivial rfl hn rfl l Bd B N D G m S T h lt bs J Jx W hJ hY ((hW.cell (p := ⟨Bd, 0, none⟩) hBl).trans hBd) (hD.below hW) (Nat.lt_of_lt_of_le hB hW.size)
    (fun k hk => Nat.lt_of_lt_of_le (hO k (by unfold ownIn at hk ⊢; rw [← hW.block B hB]; exact hk)) hW.size) h0

end Go.Proofs.YthaldkmjjpepjaaDoor
