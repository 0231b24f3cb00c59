/-
  The frame of a law's row: what every law of this seat shares.
-/
import Derived.Test.YthaldkmjjpepjaaDoorCards
import Derived.Test.YthaldkmjjpepjaaDoorTie
import Derived.Test.YthaldkmjjpepjaaDoorRc
import Derived.ProofKit
import Derived.OpenShut
import Derived.Deep.DeepHandedRow
import Derived.Lib.LaidTab
import Derived.Lib.SmallJoins
namespace Go.Proofs.YthaldkmjjpepjaaDoor
open Go.ChangeShapes Go.WideShapes Go.ChangeAt Go.RowKit Go.Joins Go.Deep

theorem Tryd.own : ownKnob Tryd.prog.godebug = none := by kernel_rfl
theorem Tryd.laidOut : laidOutB Tryd.prog = true := by kernel_rfl
theorem Tryd.gMark : Tryd.prog.globalNamed "proctor/reset.mark" = some 0 := by kernel_rfl
theorem Tryd.gMarkType : (Tryd.prog.globals[0]?).map (·.type) = some 80 := by kernel_rfl
theorem Tryd.cellsArr4 : Tryd.prog.cellsOf 80 = 4 := by kernel_rfl
theorem Tryd.cellsU8 : Tryd.prog.cellsOf 5 = 1 := by kernel_rfl

/-- What the row's list gives: the mark. -/
theorem marked_of {W : World} (h : laidMetH Tryd.prog [("proctor/reset.mark", Rows.laid_proctor_reset_mark)] W) : Marked W := by
  have t : Lib.TabIs Tryd.prog W "proctor/reset.mark" .u8 [80, 82, 83, 49] := Lib.tabIs_of_head (rest := []) Tryd.gMark Tryd.gMarkType Tryd.underlying80 Tryd.underlying5 Tryd.cellsU8 Tryd.cellsArr4 h
  exact ⟨t.cell Tryd.gMark 0 (by decide), t.cell Tryd.gMark 1 (by decide), t.cell Tryd.gMark 2 (by decide), t.cell Tryd.gMark 3 (by decide)⟩

theorem below_trodAll {H : Type} {enc : TypeId × Value → H} {P : Program} (hl : laidOutB P = true) {W W' : World} (hb : Below W.heap.size W W') :
    ∀ (ts : List TypeId) {vs : List Value} {ds : List (DataW H)} {ps : List MemPlace}, (∀ t ∈ ts, P.readableRec t = true ∧ t < P.types.size) → DataW.TrodAll enc P W 0 (fun _ => true) true ts vs ds ps →
      (∀ x ∈ ps, x.block < W.heap.size) → DataW.TrodAll enc P W' 0 (fun b => decide (b < W.heap.size)) true ts vs ds ps
  | [], vs, ds, ps, _, h, _ => by
    obtain ⟨rfl, rfl, rfl⟩ := trodAll_nil h
    exact trodAll_mk0
  | t :: ts, vs, ds, ps, ht, h, hlt => by
    obtain ⟨v, vs', d, ds', p, q, rfl, rfl, rfl, h0, r0⟩ := trodAll_cons h
    exact trodAll_cons_mk (Below.trod hl (ht t (by simp)).1 (ht t (by simp)).2 h0 hb (fun x hx => hlt x (by simp [hx])))
      (below_trodAll hl hb ts (fun t h => ht t (by simp [h])) r0 (fun x hx => hlt x (by simp [hx])))

/-- The end of a law: it answered true, and of old memory nothing has turned. -/
theorem post_law {H : Type} {enc : TypeId × Value → H} {P : Program} {f : Func} {s : ChangeSpec} {apart fresh handsOn : Bool} {W W' : World} {args : Array Value} {ds gs : List (DataW H)} {before : List MemPlace} {tb : TypeId}
    (hl : laidOutB P = true) (hts : ∀ t ∈ f.params.toList, P.readableRec t = true ∧ t < P.types.size) (hr : f.resultTypes = #[tb]) (htb : P.underlying tb = some .bool) (hv : s.vars = [])
    (hW : DataW.Whole enc P f.params.toList s.vars apart W args.toList ds gs before)
    (h1 : (s.fn H (ds ++ gs)).results = [.lit (.bool true)]) (h2 : (s.fn H (ds ++ gs)).args = ds) (h3 : (s.fn H (ds ++ gs)).vars = []) (hb : Below W.heap.size W W') :
    s.post enc P f apart fresh handsOn false W args (.bool true) W' := by
  have hW' := hW
  obtain ⟨p, q, hA, hV, rfl, hfz, hnd⟩ := hW
  rw [hv] at hV
  obtain ⟨rfl, rfl⟩ := trodVars_none hV
  simp only [List.append_nil] at hW' h1 h2 h3
  refine ⟨ds, [], p, [], p, [], hW', ?_, ?_, ?_, hb.frame _, fun h => by cases h⟩
  · rw [List.append_nil, h1, hr]
    exact trodAll_mk1 (shut_bool htb true)
  · rw [List.append_nil, h2]
    exact below_trodAll hl hb _ hts hA (fun x hx => hW'.lt x hx)
  · rw [List.append_nil, h3, hv]
    rfl

/-- A world for the witness: the settled one, the mark holding what its initialiser lays. -/
noncomputable def laidWorld (os : Os) : World :=
  { World.holding Tryd.prog os ⟨#[], #[], []⟩ with heap := (World.holding Tryd.prog os ⟨#[], #[], []⟩).heap.modify 0 fun
      | .cells _ t frozen => .cells #[.int .u8 80, .int .u8 82, .int .u8 83, .int .u8 49] t frozen
      | o => o }

section
variable {H : Type} {enc : TypeId × Value → H} {P : Program} {w : World} {base : Nat} {spare : Nat → Bool} {held : Bool}
theorem open_agg5 {r : Reach} {b0 : Nat} {t : TypeId} {f0 f1 f2 f3 f4 : Field} {v : Value} {d : DataW H} {p : List MemPlace} (hs : P.underlying t = some (.struct #[f0, f1, f2, f3, f4])) (hone : oneCellFields P #[f0, f1, f2, f3, f4] = true) (hC : P.cellsOf t = 5)
    (hv : Value.okWide P w r b0 t v) (h : DataW.Trod enc P w base spare held t v d p) :
    ∃ (v0 v1 v2 v3 v4 : Value) (y0 y1 y2 y3 y4 : DataW H × List MemPlace) (n : Nat), v = .agg #[v0, v1, v2, v3, v4] ∧ d = .agg [y0.1, y1.1, y2.1, y3.1, y4.1] ∧ p = y0.2 ++ (y1.2 ++ (y2.2 ++ (y3.2 ++ y4.2))) ∧
      DataW.trod enc P w base spare held n f0.type [v0] = some y0 ∧ DataW.trod enc P w base spare held n f1.type [v1] = some y1 ∧ DataW.trod enc P w base spare held n f2.type [v2] = some y2 ∧ DataW.trod enc P w base spare held n f3.type [v3] = some y3 ∧ DataW.trod enc P w base spare held n f4.type [v4] = some y4 := by
  obtain ⟨cs, rfl, hsz⟩ := okWide_struct hs hv
  obtain ⟨l⟩ := cs
  match l, hsz.trans hC with
  | [c0, c1, c2, c3, c4], _ =>
    obtain ⟨fuel, hf⟩ := h
    obtain ⟨xs, n, _, hx, _, hlen, hg⟩ := DataW.trod_struct hs hf
    obtain ⟨o0, k0⟩ := hone_of hone 0 f0 rfl
    obtain ⟨o1, k1⟩ := hone_of hone 1 f1 rfl
    obtain ⟨o2, k2⟩ := hone_of hone 2 f2 rfl
    obtain ⟨o3, k3⟩ := hone_of hone 3 f3 rfl
    obtain ⟨o4, k4⟩ := hone_of hone 4 f4 rfl
    match xs, hlen with
    | [y0, y1, y2, y3, y4], _ =>
      simp only [Prod.mk.injEq] at hx
      exact ⟨c0, c1, c2, c3, c4, y0, y1, y2, y3, y4, n, rfl, by simpa using hx.1, by simpa using hx.2, by simpa [Value.cells, o0, k0] using hg 0 f0 rfl, by simpa [Value.cells, o1, k1] using hg 1 f1 rfl, by simpa [Value.cells, o2, k2] using hg 2 f2 rfl, by simpa [Value.cells, o3, k3] using hg 3 f3 rfl, by simpa [Value.cells, o4, k4] using hg 4 f4 rfl⟩
end

set_option maxRecDepth 100000 in
/-- A state that comes in. -/
theorem open_state {H : Type} {enc : TypeId × Value → H} {w : World} {base : Nat} {spare : Nat → Bool} {held : Bool} {r : Reach} {b0 : Nat} {v : Value} {d : DataW H} {p : List MemPlace}
    (hv : Value.okWide Tryd.prog w r b0 23 v) (h : DataW.Trod enc Tryd.prog w base spare held 23 v d p) :
    ∃ (a0 a1 a2 : ByteArray) (h l : Int), v = .agg #[.string a0, .string a1, .string a2, .int .i64 h, .int .i64 l] ∧ a0.size ≤ 9223372036854775807 ∧ a1.size ≤ 9223372036854775807 ∧ a2.size ≤ 9223372036854775807 ∧
      (-9223372036854775808 ≤ h ∧ h ≤ 9223372036854775807) ∧ (-9223372036854775808 ≤ l ∧ l ≤ 9223372036854775807) := by
  obtain ⟨v0, v1, v2, v3, v4, y0, y1, y2, y3, y4, n, rfl, _, _, e0, e1, e2, e3, e4⟩ := open_agg5 Tryd.underlying23 (by kernel_rfl) (by kernel_rfl) hv h
  obtain ⟨a0, ha0, _, w0⟩ := DataW.trod_string Tryd.underlying9 e0
  obtain ⟨a1, ha1, _, w1⟩ := DataW.trod_string Tryd.underlying9 e1
  obtain ⟨a2, ha2, _, w2⟩ := DataW.trod_string Tryd.underlying9 e2
  obtain ⟨h3, hh3, _, w3⟩ := DataW.trod_int Tryd.underlying3 e3
  obtain ⟨h4, hh4, _, w4⟩ := DataW.trod_int Tryd.underlying3 e4
  simp only [List.cons.injEq, and_true] at ha0 ha1 ha2 hh3 hh4
  subst ha0 ha1 ha2 hh3 hh4
  unfold maxLen at w0 w1 w2
  have b3 := bounds_i64 w3
  have b4 := bounds_i64 w4
  exact ⟨a0, a1, a2, h3, h4, rfl, by omega, by omega, by omega, b3, b4⟩

end Go.Proofs.YthaldkmjjpepjaaDoor
