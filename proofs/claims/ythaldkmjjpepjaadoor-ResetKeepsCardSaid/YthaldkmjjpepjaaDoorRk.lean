/-
  Words and laws for slices that a call makes: who owns which block; over any program.
-/
import Derived.WalkKit
import Derived.WalkSpells
import Derived.WalkLawsBesides
import Derived.Maps.AppendAt
import Derived.Lib.AppendStr
import Derived.Laws.Rows
import Derived.Laws.Tables
import Derived.Laws.ResultCell
namespace Go.Proofs.YthaldkmjjpepjaaDoor
open Go.RowKit

theorem hide {p : Prop} (h : p) : Hid p := h

theorem ret_int {k : IntKind} {a b : Int} (h : a = b) : Ending.returned (.int k a) = .returned (.int k b) := by rw [h]

/-- The world has grown; of the old blocks none but that of the slice v may have turned; v' lies where v lay, or in a new block. -/
structure Grew (w w' : World) (v v' : Value) : Prop where
  by_ : w.grownBy w' v.ownBlock
  at_ : v'.ownBlock = v.ownBlock ∨ ∃ b, w.heap.size ≤ b ∧ v'.ownBlock = some b

theorem Grew.refl (w : World) (v : Value) : Grew w w v v := ⟨World.grownBy.refl _ _, .inl rfl⟩

theorem Grew.trans {w w1 w2 : World} {v v1 v2 : Value} (h : Grew w w1 v v1) (k : Grew w1 w2 v1 v2) : Grew w w2 v v2 := by
  refine ⟨⟨k.by_.os.trans h.by_.os, k.by_.tape.trans h.by_.tape, k.by_.output.trans h.by_.output, Nat.le_trans h.by_.size k.by_.size, fun i hi hne => ?_⟩, ?_⟩
  · refine (k.by_.block i (Nat.lt_of_lt_of_le hi h.by_.size) ?_).trans (h.by_.block i hi hne)
    rcases h.at_ with e | ⟨b, hb, e⟩
    · rw [e]; exact hne
    · rw [e]; intro e'; cases e'; omega
  · rcases k.at_ with e | ⟨b, hb, e⟩
    · rw [e]; exact h.at_
    · exact .inr ⟨b, Nat.le_trans h.by_.size hb, e⟩

theorem Grew.alloc {w w1 : World} {v v1 : Value} (h : Grew w w1 v v1) (o : Obj) : Grew w (w1.alloc o) v v1 := by
  refine ⟨?_, h.at_⟩
  have g := World.grownBy_alloc w1 o none
  exact ⟨g.os.trans h.by_.os, g.tape.trans h.by_.tape, g.output.trans h.by_.output, Nat.le_trans h.by_.size g.size,
    fun i hi hne => (g.block i (Nat.lt_of_lt_of_le hi h.by_.size) (by simp)).trans (h.by_.block i hi hne)⟩

theorem Grew.drew {w w1 : World} {v v1 : Value} (h : Grew w w1 v v1) : Grew w w1.drew v v1 :=
  ⟨⟨h.by_.os, h.by_.tape, h.by_.output, h.by_.size, h.by_.block⟩, h.at_⟩

/-- Out of nothing: whatever was there is as it was. -/
theorem Grew.below {w w' : World} {v v' : Value} (h : Grew w w' v v') (hv : v.ownBlock = none) : Below w.heap.size w w' :=
  ⟨h.by_.os, h.by_.tape, h.by_.output, h.by_.size, fun i hi => h.by_.block i hi (by rw [hv]; simp)⟩

theorem Grew.belowOf {B : Nat} {w w' : World} {v v' : Value} (h : Grew w w' v v') (hB : B ≤ w.heap.size) (hv : ∀ k, v.ownBlock = some k → B ≤ k) : Below B w w' :=
  ⟨h.by_.os, h.by_.tape, h.by_.output, h.by_.size, fun i hi => h.by_.block i (by omega) (by intro e; have := hv i e.symm; omega)⟩

theorem Grew.cell {w w' : World} {v v' : Value} (h : Grew w w' v v') {a : Addr} {u : Value} (hc : w.cell? a = some u) (hne : v.ownBlock ≠ some a.block) : w'.cell? a = some u :=
  h.by_.cell hc (Ne.symm hne)

/-- Bytes, numbers as cells. -/
def u8s (l : List UInt8) : List Value := l.map fun c => .int .u8 (c.toNat : Int)

theorem u8s_length (l : List UInt8) : (u8s l).length = l.length := by simp [u8s]
theorem u8s_append (a b : List UInt8) : u8s (a ++ b) = u8s a ++ u8s b := by simp [u8s]
theorem u8s_snoc_mod (l : List UInt8) (x : Nat) : u8s l ++ [.int .u8 ((x : Int) % 256)] = u8s (l ++ [UInt8.ofNat x]) := by
  simp [u8s]
theorem u8s_one (l : List UInt8) : ∀ u ∈ u8s l, u.oneCell' = true := by
  intro u hu
  obtain ⟨_, _, rfl⟩ := List.mem_map.1 hu
  rfl
theorem u8s_get {l : List UInt8} {j : Nat} (h : j < l.length) : (u8s l)[j]? = some (.int .u8 ((l.getD j 0).toNat : Int)) := by
  simp [u8s, h]

theorem wrap_u8_byte (n : Int) (h0 : 0 ≤ n) : IntKind.u8.wrap n = ((UInt8.ofNat n.toNat).toNat : Int) := by
  simp only [IntKind.wrap, IntKind.bits, IntKind.signed, UInt8.toNat_ofNat']
  obtain ⟨m, rfl⟩ := Int.eq_ofNat_of_zero_le h0
  simp

/-- 'append(v, y)': one cell more. The world at the call is 'W.alloc' of the variadic's box. -/
theorem wpl_push {P : Program} {ops : Array Oper} {rest : List Oper} {o : Oper} {a : Act} {Q : Exit → Act → World → Prop} (W : World)
    (hgd : o.guard = none) (s x : Operand) (t e : TypeId) (z : Value) (bytes : Nat)
    (ho : o.op = .call { callee := .builtin .append, args := #[s, x], argTypes := #[t, t] })
    (ht : P.underlying t = some (.slice e)) (hinfo : (P.info? e).map (fun i => (i.zero, i.size, i.bytes)) = some (some z, 1, bytes)) (hz : z.cells.size = 1) (hb0 : 0 < bytes)
    (v : Value) (n : Nat) (xs : List Value) (y : Value) (hs : a.eval s = v) (hx : a.eval x = .slice (some ⟨W.heap.size, 0, none⟩) 1 1) (h1 : y.oneCell' = true)
    (HO : W.ownsRow 0 e 1 v n xs) (hl : (n + 1) * bytes ≤ 140737488355328)
    (h : ∀ v1 w1, w1.ownsRow 0 e 1 v1 (n + 1) (xs ++ [y]) → Grew W w1 v v1 → wpList P ops Q rest (a.put o.dst v1) w1) :
    wpList P ops Q (o :: rest) a (W.alloc (.cells #[y] e)) := by
  obtain ⟨i0, hi, hzz⟩ := Option.map_eq_some_iff.1 hinfo
  simp only [Prod.mk.injEq] at hzz
  obtain ⟨hz0, hz1, hz2⟩ := hzz
  have hlen : n + 1 ≤ 140737488355328 := Nat.le_trans (Nat.le_mul_of_pos_right _ hb0) hl
  refine wpList_append_own_at (W.alloc (.cells #[y] e)) hgd s x t ho 0 e i0 z 1 bytes ht hi hz0 hz1 hz2 hz (by omega) v n xs hs (HO.alloc _) ⟨W.heap.size, 0, none⟩ 1 1 [y] hx rfl
    (cell_one_new _ _ _) (by simpa using h1) (by simp only [maxLen]; omega) hl (by simp) ?_
  intro v1 w1 hown hg _ hat
  refine h v1 w1 hown ⟨World.grownBy.trans (World.grownBy_alloc W _ _) hg, ?_⟩
  rcases hat with hat | hat
  · exact .inl hat
  · exact .inr ⟨_, by simp, hat⟩

theorem strOfNums_u8 (l : List UInt8) : strOfNums (l.map fun b => (b.toNat : Int)) = ⟨l.toArray⟩ := by
  unfold strOfNums
  congr 2
  rw [List.map_map]
  exact (List.map_congr_left (fun a _ => by simp)).trans (List.map_id l)

/-- 'string(v)' of bytes that are owned. -/
theorem run_str_own {P : Program} {w : World} {src dst e : TypeId} {v : Value} {n : Nat} {l : List UInt8} (hs : P.underlying src = some (.slice e)) (he : P.underlying e = some (.int .u8)) (hd : P.underlying dst = some .string)
    (h : w.ownsRow 0 e 1 v n (u8s l)) : (convert src dst v).run P w = .ok (.string ⟨l.toArray⟩) w := by
  have hl : l.length = n := by have := h.1; simpa [u8s] using this
  rcases h.2 with ⟨rfl, rfl⟩ | ⟨g, cap, cur, rfl, _⟩
  · obtain rfl : l = [] := List.eq_nil_of_length_eq_zero hl
    exact run_convert_bytes_nil w src e hs he 0 0 dst hd
  · rw [run_convert_bytes_arg w src e hs he g 0 n cap (l.map fun b => (b.toNat : Int)) (by simpa using hl) (fun i hi => ?_) dst hd, strOfNums_u8]
    have hc := h.cells (g := g) rfl i _ (u8s_get (show i < l.length by omega))
    rw [Addr.add_lit] at hc
    rw [hc]
    simp [List.getD_eq_getElem?_getD, List.getElem?_eq_getElem (show i < l.length by omega)]

/-- 'append(v, ys...)': the cells of another slice. -/
theorem wpl_app {P : Program} {ops : Array Oper} {rest : List Oper} {o : Oper} {a : Act} {Q : Exit → Act → World → Prop} (W : World)
    (hgd : o.guard = none) (s x : Operand) (t e : TypeId) (z : Value) (bytes : Nat)
    (ho : o.op = .call { callee := .builtin .append, args := #[s, x], argTypes := #[t, t] })
    (ht : P.underlying t = some (.slice e)) (hinfo : (P.info? e).map (fun i => (i.zero, i.size, i.bytes)) = some (some z, 1, bytes)) (hz : z.cells.size = 1) (hb0 : 0 < bytes)
    (v : Value) (n : Nat) (xs : List Value) (ad : Addr) (m c : Nat) (news : List Value) (hs : a.eval s = v) (hx : a.eval x = .slice (some ad) m c) (hlen : news.length = m)
    (hnews : ∀ j u, news[j]? = some u → W.cell? (ad.add j) = some u) (h1 : ∀ u ∈ news, u.oneCell' = true)
    (HO : W.ownsRow 0 e 1 v n xs) (hl : (n + m) * bytes ≤ 140737488355328)
    (h : ∀ v1 w1, w1.ownsRow 0 e 1 v1 (n + m) (xs ++ news) → Grew W w1 v v1 → wpList P ops Q rest (a.put o.dst v1) w1) :
    wpList P ops Q (o :: rest) a W := by
  obtain ⟨i0, hi, hzz⟩ := Option.map_eq_some_iff.1 hinfo
  simp only [Prod.mk.injEq] at hzz
  obtain ⟨hz0, hz1, hz2⟩ := hzz
  have hlen' : n + m ≤ 140737488355328 := Nat.le_trans (Nat.le_mul_of_pos_right _ hb0) hl
  refine wpList_append_own_at W hgd s x t ho 0 e i0 z 1 bytes ht hi hz0 hz1 hz2 hz (by omega) v n xs hs HO ad m c news hx (by omega)
    hnews h1 (by simp only [maxLen]; omega) hl (by simp) ?_
  intro v1 w1 hown hg _ hat
  refine h v1 w1 hown ⟨hg, ?_⟩
  rcases hat with hat | hat
  · exact .inl hat
  · exact .inr ⟨_, by simp, hat⟩

theorem strCells_u8s (s : ByteArray) : Lib.strCells s = u8s s.data.toList := rfl

theorem run_apps_at {P : Program} {w : World} (t u ty e : TypeId) (i : TypeInfo) (ht : P.underlying t = some (.slice e)) (hu : P.underlying u = some .string) (hi : P.info? e = some i) (hz : i.zero = some (.int .u8 0))
    (hsize : i.size = 1) (hby : i.bytes = 1) (v : Value) (n : Nat) (xs : List Value) (hown : w.ownsRow 0 e 1 v n xs) (s : ByteArray) (hl : n + s.size ≤ 140737488355328) :
    ∃ v' w', (Builtin.append_ #[t, u] ty #[v, .string s]).run P w = .ok v' w' ∧ w'.ownsRow 0 e 1 v' (n + s.size) (xs ++ Lib.strCells s) ∧ Grew w w' v v' := by
  obtain ⟨v', w', hr, h2, h3, h4⟩ := Lib.run_append_own_string (P := P) w 0 t u ty e i ht hu hi hz hsize hby v n xs hown s (by simp only [maxLen]; omega) hl (by simp)
  refine ⟨v', w', hr, h2, h3, ?_⟩
  have hxl : xs.length = n := by simpa using hown.1
  rcases hown.2 with ⟨rfl, rfl⟩ | ⟨g, cap, cur, rfl, hbg, hg, hnc, hcm, hcs, htake⟩
  · by_cases hm : s.size = 0
    · rw [h4.2 ⟨rfl, hm⟩]; exact .inl rfl
    · have hr' := run_append_nil_string (P := P) w t u ty e i (.int .u8 0) ht hu hi hz s (by omega) (by omega) (by rw [hby]; omega)
      rw [hr] at hr'
      injection hr' with hv
      subst hv
      exact .inr ⟨_, Nat.le_refl _, rfl⟩
  · by_cases hroom : n + s.size ≤ cap
    · have hcs' : cur.size = cap := by simpa using hcs
      have hr' := Lib.run_append_room_string (P := P) w t u ty e i ht hu hi hsize g n cap cur hg s hroom (by omega)
      rw [hr] at hr'
      injection hr' with hv
      subst hv
      exact .inl rfl
    · have holds : ∀ j u, xs[j]? = some u → w.cell? ((⟨g, 0, none⟩ : Addr).add j) = some u := hown.cells (g := g) rfl
      have hr' := Lib.run_append_grow_string (P := P) w t u ty e i (.int .u8 0) ht hu hi hz ⟨g, 0, none⟩ n cap xs (by rw [hsize]; simpa using hxl) holds s (by omega) (by omega) (by rw [hby]; exact growslice_fits (by omega) (by omega))
      rw [hr] at hr'
      injection hr' with hv
      subst hv
      exact .inr ⟨_, Nat.le_refl _, rfl⟩

/-- 'append(v, s...)': a text's bytes. -/
theorem wpl_apps {P : Program} {ops : Array Oper} {rest : List Oper} {o : Oper} {a : Act} {Q : Exit → Act → World → Prop} (W : World)
    (hgd : o.guard = none) (s x : Operand) (t u e : TypeId)
    (ho : o.op = .call { callee := .builtin .append, args := #[s, x], argTypes := #[t, u] })
    (ht : P.underlying t = some (.slice e)) (hu : P.underlying u = some .string) (hinfo : (P.info? e).map (fun i => (i.zero, i.size, i.bytes)) = some (some (.int .u8 0), 1, 1))
    (v : Value) (n : Nat) (l : List UInt8) (y : ByteArray) (hs : a.eval s = v) (hx : a.eval x = .string y)
    (HO : W.ownsRow 0 e 1 v n (u8s l)) (hl : n + y.size ≤ 140737488355328)
    (h : ∀ v1 w1, w1.ownsRow 0 e 1 v1 (n + y.size) (u8s (l ++ y.data.toList)) → Grew W w1 v v1 → wpList P ops Q rest (a.put o.dst v1) w1) :
    wpList P ops Q (o :: rest) a W := by
  obtain ⟨i0, hi, hzz⟩ := Option.map_eq_some_iff.1 hinfo
  simp only [Prod.mk.injEq] at hzz
  obtain ⟨hz0, hz1, hz2⟩ := hzz
  refine wpList_plain hgd fun K hK => ?_
  obtain ⟨v', w', hr, h2, h3⟩ := run_apps_at (P := P) (w := W) t u o.type e i0 ht hu hi hz0 hz1 hz2 v n _ HO y hl
  unfold Oper.wp execOp
  simp only [ho, resolve, invoke, builtin, Sem.run_bind, Sem.run_pure, Result.andThen_ok, List.map_toArray, List.map_cons, List.map_nil, hs, hx, hr]
  exact hK _ _ (h v' w' (by rw [u8s_append]; exact h2) h3)

/-- What is owned and is not empty: its head and its cells. -/
theorem own_head {w : World} {e : TypeId} {v : Value} {n : Nat} {l : List UInt8} (h : w.ownsRow 0 e 1 v n (u8s l)) (hn : 0 < n) :
    ∃ g cap, v = .slice (some ⟨g, 0, none⟩) n cap ∧ l.length = n ∧ n ≤ 9223372036854775807 ∧ n ≤ cap ∧ cap ≤ 9223372036854775807 ∧ ∀ j, j < n → w.cell? ⟨g, 0 + j, none⟩ = some (.int .u8 ((l.getD j 0).toNat : Int)) := by
  have hl : l.length = n := by have := h.1; simpa [u8s] using this
  rcases h.2 with ⟨_, h0⟩ | ⟨g, cap, cur, rfl, _, _, hc, hm, _⟩
  · omega
  · simp only [maxLen] at hm
    refine ⟨g, cap, rfl, hl, by omega, hc, hm, fun j hj => ?_⟩
    have := h.cells (g := g) rfl j _ (u8s_get (show j < l.length by omega))
    rwa [Addr.add_lit] at this

/-- '[]byte(s)': a new block. -/
theorem wpl_bytes {P : Program} {ops : Array Oper} {rest : List Oper} {o : Oper} {a : Act} {Q : Exit → Act → World → Prop} (W : World)
    (hgd : o.guard = none) (x : Operand) (src dst e : TypeId) (ho : o.op = .convert src dst x)
    (hs : P.underlying src = some .string) (hd : P.underlying dst = some (.slice e)) (he : P.underlying e = some (.int .u8)) (s : ByteArray) (hx : a.eval x = .string s) (hm : s.size ≤ 9223372036854775807)
    (h : ∀ cap w', s.size ≤ cap → cap ≤ 9223372036854775807 → w'.heap.size = W.heap.size + 1 → Below W.heap.size W w' →
      (∀ j, j < s.size → w'.cell? ⟨W.heap.size, j, none⟩ = some (.int .u8 ((s.data.toList.getD j 0).toNat : Int))) → (∀ j, j < s.size → w'.frozen? ⟨W.heap.size, j, none⟩ = false) →
      wpList P ops Q rest (a.put o.dst (.slice (some ⟨W.heap.size, 0, none⟩) s.size cap)) w') : wpList P ops Q (o :: rest) a W := by
  refine wpList_plain hgd fun K hK => ?_
  have hr := run_bytes_of_string (P := P) W src dst e s hs hd he
  unfold Oper.wp execOp
  simp only [ho, hx, Sem.run_bind, Sem.run_pure, Result.andThen_ok, hr]
  have hge := grownCap_ge W s.size 0 e
  refine hK _ _ (h _ _ hge (by have := grownCap_le_maxLen W s.size 0 e (by simp only [maxLen]; omega); simpa only [maxLen] using this) (by simp) ((Below.refl _ W).drew.alloc (Nat.le_refl _) _) ?_ ?_)
  · intro j hj
    have : (W.drew.alloc (.cells (bytesRow s (grownCap W s.size 0 e)) e ((bytesRow s (grownCap W s.size 0 e)).size, (bytesRow s (grownCap W s.size 0 e)).size + 1))).cell? ⟨W.heap.size, j, none⟩ = _ := World.cell?_alloc_mark W.drew _ _ _ j
    rw [this]
    simp [bytesRow, Array.getElem?_append, List.getD, hj]
  · intro j hj
    have hb : (W.drew.alloc (.cells (bytesRow s (grownCap W s.size 0 e)) e ((bytesRow s (grownCap W s.size 0 e)).size, (bytesRow s (grownCap W s.size 0 e)).size + 1))).heap[W.heap.size]? = _ := heap_alloc_new W.drew _
    simp only [World.frozen?, hb]
    have : s.size ≤ (bytesRow s (grownCap W s.size 0 e)).size := by simp [bytesRow]
    simp
    omega

/-- A struct into a block of its own. -/
theorem wpl_stRow {P : Program} {ops : Array Oper} {rest : List Oper} {o : Oper} {a : Act} {Q : Exit → Act → World → Prop} (W : World)
    (hgd : o.guard = none) (ty : TypeId) (x y : Operand) (ho : o.op = .store ty x y) (g : Nat) (t : TypeId) (old cells : Array Value)
    (hx : a.eval x = .pointer (some ⟨g, 0, none⟩)) (hy : a.eval y = .agg cells) (hg : W.heap[g]? = some (.cells old t (0, 0))) (hi : (P.info? ty).map (·.size) = some cells.size)
    (hs : old.size = cells.size) (h1 : cells.all (·.oneCell') = true)
    (h : ∀ w', w'.heap[g]? = some (.cells cells t (0, 0)) → W.grownBy w' (some g) → w'.heap.size = W.heap.size → wpList P ops Q rest (a.put o.dst undef) w') : wpList P ops Q (o :: rest) a W := by
  refine wpList_plain hgd fun K hK => ?_
  have hr := run_storeVar_row (P := P) W g t ty old cells hg hi hs h1
  unfold Oper.wp execOp
  simp only [ho, hx, hy, Instr.storeAt, Instr.sureAddr, Sem.run_bind, Sem.run_pure, Result.andThen_ok, hr]
  exact hK _ _ (h _ (setRow_heap W g old cells t _ hg) ⟨rfl, rfl, rfl, by simp, fun k _ hk => setRow_other W g k _ (by intro e; subst e; exact hk rfl)⟩ (by simp))

/-- A return of a struct that lies in a block, and of a plain value. -/
theorem post_cell_tmp {P : Program} {fn : Func} {p u : Tmp} {ty : TypeId} {R : Ending → World → Prop} {a : Act} {w : World} {g : Nat} {t : TypeId} {cs : Array Value} {fr : Nat × Nat} {d : TypeDesc} {v : Value}
    (h : fn.results = #[.cell p ty, .tmp u]) (hd : a.defers = []) (hp : a.tmps.getD p undef = .pointer (some ⟨g, 0, none⟩)) (hv : a.tmps.getD u undef = v) (hg : w.heap[g]? = some (.cells cs t fr))
    (hu : P.underlying ty = some d) (hdd : (match d with | .struct _ | .array _ _ => true | _ => false) = true) (hi : (P.info? ty).map (·.size) = some cs.size)
    (hR : R (.returned (.tuple #[.agg cs, v])) w) : bodyPost P fn R .ret a w := by
  refine ⟨hd, _, ?_, hR⟩
  have hp' : a.tmps[p]?.getD undef = .pointer (some ⟨g, 0, none⟩) := by simpa using hp
  have hv' : a.tmps[u]?.getD undef = v := by simpa using hv
  simp [results, h, hp', hv', asAddr, run_loadVar_row w g t ty cs fr d hg hu hdd hi]

theorem post_cell {P : Program} {fn : Func} {p : Tmp} {ty : TypeId} {R : Ending → World → Prop} {a : Act} {w : World} {g : Nat} {t : TypeId} {cs : Array Value} {fr : Nat × Nat} {d : TypeDesc}
    (h : fn.results = #[.cell p ty]) (hd : a.defers = []) (hp : a.tmps.getD p undef = .pointer (some ⟨g, 0, none⟩)) (hg : w.heap[g]? = some (.cells cs t fr))
    (hu : P.underlying ty = some d) (hdd : (match d with | .struct _ | .array _ _ => true | _ => false) = true) (hi : (P.info? ty).map (·.size) = some cs.size)
    (hR : R (.returned (.agg cs)) w) : bodyPost P fn R .ret a w :=
  ⟨hd, _, results_cell_row h _ w g t cs fr d hp hg hu hdd hi, hR⟩

theorem grownBy_setCell {W w : World} {g i : Nat} {u : Value} (h : W.grownBy w (some g)) : W.grownBy (w.setCell ⟨g, i, none⟩ u) (some g) :=
  ⟨h.os, h.tape, h.output, by simpa using h.size, fun k hk hne => (Below.heap_setCell _ _ _ _ (by intro e; exact hne (by simpa using e))).trans (h.block k hk hne)⟩

theorem quiet_sw {P : Program} {f : FuncId} {args : Array Value} {w : World} {v : Value} (h : Calls P f args w fun e w' => e = .returned v ∧ w = w') :
    Calls P f args w fun e w' => e = .returned v ∧ w' = w := h.mono fun _ _ h => ⟨h.1, h.2.symm⟩

/-- The old cells and marks, as facts that the walk uses by itself. -/
theorem bcell {W w1 : World} (hb : Below W.heap.size W w1) : (∀ b o, b < W.heap.size → w1.cell? ⟨b, o, none⟩ = W.cell? ⟨b, o, none⟩) ∧ (∀ b o, b < W.heap.size → w1.frozen? ⟨b, o, none⟩ = W.frozen? ⟨b, o, none⟩) :=
  ⟨fun b o h => hb.cell (p := ⟨b, o, none⟩) h, fun b o h => hb.frozen (p := ⟨b, o, none⟩) h⟩

end Go.Proofs.YthaldkmjjpepjaaDoor
