/-
  The words of a list, one behind the other.
-/
import Derived.Test.YthaldkmjjpepjaaDoorTc
namespace Go.Proofs.YthaldkmjjpepjaaDoor
open Go.RowKit

/-- From a head on. -/
noncomputable def wordsFrom (S : Int) (bs : List UInt8) : Nat → Int → List WordV
  | 0, _ => []
  | n + 1, a => if hdB S bs a = true then wordAt bs a.toNat :: (if a ≤ cellV bs a.toNat then [] else wordsFrom S bs n (cellV bs a.toNat)) else []
theorem wordsFrom_len (S : Int) (bs : List UInt8) : ∀ (n : Nat) (a : Int), (wordsFrom S bs n a).length ≤ n
  | 0, _ => by simp [wordsFrom]
  | n + 1, a => by
    rw [wordsFrom]
    split
    · have := wordsFrom_len S bs n (cellV bs a.toNat)
      split <;> simp; omega
    · simp

def wcells (l : List WordV) : List Value := l.flatMap fun x => x.cells.toList
theorem wcells_length (l : List WordV) : (wcells l).length = l.length * 6 := by
  induction l with
  | nil => rfl
  | cons x l ih => simp only [wcells, List.flatMap_cons, List.length_append] at ih ⊢; rw [ih]; simp; omega
theorem wcells_snoc (l : List WordV) (x : WordV) : wcells (l ++ [x]) = wcells l ++ x.cells.toList := by simp [wcells]

theorem Tryd.infoWord : ∃ z, (Tryd.prog.info? 72).map (fun i => (i.zero, i.size, i.bytes)) = some (some z, 6, 40) ∧ z.cells.size = 6 := ⟨.agg #[.string ⟨#[]⟩, .int .i64 0, .int .i64 0, .bool false, .bool false, .bool false], by kernel_rfl, by kernel_rfl⟩

/-- 'append(l, w)', w a word: the world at the call is 'W.alloc' of its block. -/
theorem wpl_pushW {ops : Array Oper} {rest : List Oper} {o : Oper} {a : Act} {Q : Exit → Act → World → Prop} (W : World)
    (hgd : o.guard = none) (s x : Operand)
    (ho : o.op = .call { callee := .builtin .append, args := #[s, x], argTypes := #[67, 67] })
    (v : Value) (l : List WordV) (y : WordV) (M : Nat) (hM : W.heap.size = M) (hs : a.eval s = v) (hx : a.eval x = .slice (some ⟨M, 0, none⟩) 1 1)
    (B : Nat) (hB : B ≤ W.heap.size) (HO : W.ownsRow B 72 6 v l.length (wcells l)) (hl : l.length ≤ 100000)
    (h : ∀ v1 w1, w1.ownsRow B 72 6 v1 (l ++ [y]).length (wcells (l ++ [y])) → Below B W w1 → W.grownBy w1 v.ownBlock → wpList Tryd.prog ops Q rest (a.put o.dst v1) w1) :
    wpList Tryd.prog ops Q (o :: rest) a (W.alloc (.cells y.cells 72)) := by
  subst hM
  obtain ⟨z, hzi, hz6⟩ := Tryd.infoWord
  obtain ⟨i0, hi, hzz⟩ := Option.map_eq_some_iff.1 hzi
  simp only [Prod.mk.injEq] at hzz
  obtain ⟨hz0, hz1, hz2⟩ := hzz
  refine wpList_append_own_at (W.alloc (.cells y.cells 72)) hgd s x 67 ho B 72 i0 z 6 40 Tryd.underlying67 hi hz0 hz1 hz2 hz6 (by omega) v l.length (wcells l) hs (HO.alloc _) ⟨W.heap.size, 0, none⟩ 1 1 y.cells.toList hx (by simp)
    (fun j u hj => ?_) (fun u hu => ?_) (by simp only [maxLen]; omega) (by omega) (by simp; omega) ?_
  · rw [Addr.add_lit, Nat.zero_add]
    have hn := heap_alloc_new W (.cells y.cells 72)
    exact cell_of_row _ _ j _ _ _ hn ▸ (by simpa using hj)
  · simp only [List.mem_cons, List.not_mem_nil, or_false] at hu
    rcases hu with rfl | rfl | rfl | rfl | rfl | rfl <;> rfl
  · intro v1 w1 hown hg _ _
    have hg' : W.grownBy w1 v.ownBlock := World.grownBy.trans (World.grownBy_alloc W _ _) hg
    refine h v1 w1 ?_ ?_ hg'
    · rw [wcells_snoc]; simpa using hown
    · exact (Below.refl B W).grown hg' hB (fun k hk => (HO.lt k hk).1)

theorem own_below {w w' : World} {base : Nat} {e : TypeId} {size : Nat} {v : Value} {n : Nat} {xs : List Value} (h : w.ownsRow base e size v n xs) (hb : Below w.heap.size w w') : w'.ownsRow base e size v n xs :=
  h.kept (grownBy_of_below hb none) (by cases hv : v.ownBlock <;> simp)

/-- Where the walk of the words stands. -/
def WalkR (S : Int) (bs : List UInt8) (tot : List WordV) (w0 : World) (v at_ : Value) (w : World) : Prop :=
  ∃ (pre : List WordV) (m : Nat) (a : Int), at_ = .int .i64 a ∧ a.toNat < m ∧ m ≤ 20000 ∧ pre.length + m ≤ 20000 ∧ tot = pre ++ wordsFrom S bs m a ∧ w.ownsRow w0.heap.size 72 6 v pre.length (wcells pre) ∧ Below w0.heap.size w0 w

set_option maxRecDepth 100000 in
set_option maxHeartbeats 8000000 in
theorem walk_any (N D G n : Nat) (S T h l : Int) (bs : List UInt8) (w : World) (hd : Dic N D G n S T h l bs w) :
    Calls Tryd.prog 55 #[.pointer (some ⟨D, 0, none⟩)] w fun e w' =>
      ∃ v, e = .returned v ∧ w'.ownsRow w.heap.size 72 6 v (wordsFrom S bs 20000 l).length (wcells (wordsFrom S bs 20000 l)) ∧ Below w.heap.size w w' := by
  have hS := hd.1.1.2.1
  have hll := hd.2.2.2.2
  obtain ⟨c0, c1, c2, c3, c4⟩ := hd.cells
  have HD := hide hd
  have hDz : D < w.heap.size := (Array.getElem?_eq_some_iff.1 hd.2.1).1
  obtain ⟨tot, ht⟩ : ∃ tot, tot = wordsFrom S bs 20000 l := ⟨_, rfl⟩
  rw [← ht]
  have HT0 := hide ht
  clear hd ht
  go_enter Tryd.func55, Tryd.ntmps55
  go_wp2_with fail
  clear c0 c1 c2 c3 c4
  go_loopw [3, 4] (fun v at_ wr => Hid (WalkR S bs tot w v at_ wr)) (fun _ at_ _ => (intOf at_).toNat)
  case atStart => exact ⟨[], 20000, l, rfl, by omega, by omega, by simp, HT0.out, World.ownsRow_nil _ _ _ _, Below.refl _ _⟩
  case round =>
    obtain ⟨pre, m, a, rfl, ham, hm, hpm, ht, hown, hbr⟩ := hrel.out
    obtain ⟨m, rfl⟩ : ∃ k, m = k + 1 := ⟨m - 1, by omega⟩
    have HT := hide ht
    have HOWN := hide hown
    have HB := hide hbr
    have HD1 := hide (HD.out.below hbr)
    clear ht hown hbr hrel
    cases hh : hdB S bs a with
    | true =>
      obtain ⟨i, rfl, hi8, g1, g2, hk0, hx0⟩ := hdB_yes hh
      have HHH := hide hh
      have HC := hide (head_yes N D G n i S T h l bs _ HD1.out hi8 g1 g2 hk0 hx0)
      clear hh hk0 hx0
      have hcase : (i : Int) ≤ cellV bs i ∨ cellV bs i < (i : Int) := by omega
      have HW := hide (show tot = pre ++ (wordAt bs i :: (if (i : Int) ≤ cellV bs i then [] else wordsFrom S bs m (cellV bs i))) by
        rw [HT.out, wordsFrom, if_pos HHH.out]; rfl)
      clear HT HHH
      unfold WordV.cells at HC
      obtain ⟨y, hy⟩ : ∃ y, y = wordAt bs i := ⟨_, rfl⟩
      rw [← hy] at HC HW
      clear hy
      generalize cellV bs i = cv at *
      go_wp2_with fail
      refine HC.out.mono ?_
      rintro e w1 ⟨rfl, hb1⟩
      have HB1 := hide (HB.out.trans (hb1.mono HB.out.size))
      have HO1 := hide (own_below HOWN.out hb1)
      clear hb1 HC HOWN HB HD1
      rcases hcase with hge | hlt
      all_goals
        go_wp2_with (with_reducible refine wpl_pushW (w1.alloc (.cells y.cells 72)) rfl (.tmp 22) (.tmp 24) rfl _ pre y (w1.heap.size + 1) (by simp) rfl rfl w.heap.size (by have := HB1.out.size; simp; omega) (HO1.out.alloc _) (by omega) ?_)
        intro v2 w2 hown2 hb2 _
        have HO2 := hide hown2
        have HB2 := hide ((HB1.out.alloc (Nat.le_trans HB1.out.size (Nat.le_refl _)) (.cells y.cells 72)).trans hb2)
        clear hown2 hb2 HB1 HO1
        go_wp2_with fail
      · go_ret
        have e : tot = pre ++ [y] := by rw [HW.out, if_pos hge]
        rw [e]
        exact ⟨v2, rfl, by rw [List.length_append]; exact HO2.out, HB2.out⟩
      · go_roundw
        case rel =>
          have e : tot = (pre ++ [y]) ++ wordsFrom S bs m cv := by rw [HW.out, if_neg (by omega)]; simp
          exact ⟨pre ++ [y], m, cv, rfl, by omega, by omega, by simp; omega, e, by rw [List.length_append]; exact HO2.out, HB2.out⟩
        case measure => simp [intOf]; omega
    | false =>
      have HC := hide (head_no N D G n S T h l a bs _ HD1.out hh)
      have HE := hide (show tot = pre by rw [HT.out, wordsFrom, if_neg (by rw [hh]; decide), List.append_nil])
      clear hh HT
      unfold noWord WordV.cells at HC
      go_wp2_with fail
      refine HC.out.mono ?_
      rintro e w1 ⟨rfl, hb1⟩
      have HB1 := hide hb1
      clear hb1
      go_wp2_with fail
      go_ret
      rw [HE.out]
      refine ⟨_, rfl, ?_, ?_⟩
      · exact (own_below HOWN.out HB1.out).alloc _
      · exact (HB.out.trans (HB1.out.mono HB.out.size)).alloc (Nat.le_trans HB.out.size HB1.out.size) _

end Go.Proofs.YthaldkmjjpepjaaDoor
