/-
  Regions that draw their order, whose operations read what a class of worlds holds fast and whose calls answer one value and stay in the class: one walk in the text's order. Over any program.
-/
import Derived.Test.YthaldkmjjpepjaaDoorRk
import Derived.Deep.QuietTactic
import Derived.BigQuiet
namespace Go.Proofs.YthaldkmjjpepjaaDoor
open Go.RowKit

theorem wp_region_class {P : Program} {id : Nat} {Q : Exit → Act → World → Prop} {a : Act} {w : World} {l : List Oper} (C : World → Prop) (hm : P.follows .mixedOrders = true) (hB : Region.lexB .any l.toArray = true) (hC : C w.drew)
    (h : wpQuiet P l.toArray C (fun a' => ∀ w', C w' → Q .normal a' w') l a) : (Code.region id l.toArray true).wp P Q a w :=
  wp_region_quiet (C := C) hm hB hC (by simpa using h)

/-- A world of a class: the class as a type of its own (no subtype: 'simp' would take that apart). -/
structure InD (D : World → Prop) : Type where
  w : World
  ok : D w

/-- The class as a type: the walk's 'simp' then uses facts on every world of it by itself. -/
theorem wp_region_sub {P : Program} {id : Nat} {Q : Exit → Act → World → Prop} {a : Act} {w : World} {l : List Oper} (D : World → Prop) (hm : P.follows .mixedOrders = true) (hB : Region.lexB .any l.toArray = true) (hD : D w.drew)
    (h : wpQuiet P l.toArray (fun w' => ∃ x : InD D, w' = x.w) (fun a' => ∀ w', D w' → Q .normal a' w') l a) : (Code.region id l.toArray true).wp P Q a w := by
  refine wp_region_class (fun w' => ∃ x : InD D, w' = x.w) hm hB ⟨⟨_, hD⟩, rfl⟩ ?_
  have e : (fun a' => ∀ w', D w' → Q .normal a' w') = (fun a' => ∀ w', (∃ x : InD D, w' = x.w) → Q .normal a' w') := by
    funext a'
    apply propext
    exact ⟨fun h w' hx => by obtain ⟨x, rfl⟩ := hx; exact h _ x.ok, fun h w' hd => h w' ⟨⟨w', hd⟩, rfl⟩⟩
  rw [← e]
  exact h

/-- A callee's contract, met in a world of the class. -/
theorem calls_sub {P : Program} {f : FuncId} {args : Array Value} {v : Value} {D : World → Prop} {x : InD D} (h : Calls P f args x.w fun e w' => e = .returned v ∧ D w') :
    Calls P f args x.w fun e w'' => e = .returned v ∧ ∃ y : InD D, w'' = y.w := h.mono fun _ w' h => ⟨h.1, ⟨w', h.2⟩, rfl⟩

theorem qu_load {P : Program} {o : Oper} {a : Act} {C : World → Prop} {K : Act → Prop} (ty : TypeId) (x : Operand) (v : Value) (ho : o.op = .load ty x) (hv : ∀ w, C w → (Instr.loadAt ty (a.eval x)).run P w = .ok v w)
    (hk : K (a.put o.dst v)) : o.quiet P a C K := by
  refine ⟨v, fun w hw => ?_, hk⟩
  unfold Oper.quietAt execOp
  simp only [ho, Sem.run_bind, Sem.run_pure, Result.andThen_ok, hv w hw]
  exact ⟨rfl, rfl⟩

theorem qu_call {P : Program} {o : Oper} {a : Act} {C : World → Prop} {K : Act → Prop} (f : FuncId) (args : Array Value) (v : Value) (he : ∀ w, (execOp a.eval o).run P w = .ok (.enter f args) w)
    (hc : ∀ w, C w → Calls P f args w fun e w'' => e = .returned v ∧ C w'') (hk : K (a.put o.dst v)) : o.quiet P a C K := by
  refine ⟨v, fun w hw => ?_, hk⟩
  unfold Oper.quietAt
  rw [he w]
  exact ⟨rfl, hc w hw⟩

/-- '==' of two structs. -/
theorem qu_eql {P : Program} {o : Oper} {a : Act} {C : World → Prop} {K : Act → Prop} (ty : TypeId) (x y : Operand) (yt : TypeId) (xs ys : Array Value) (b : Bool) (ho : o.op = .binOp .eql ty x y yt) (hx : a.eval x = .agg xs) (hy : a.eval y = .agg ys)
    (hm : P.eqGuardType P.depth ty = false) (hb : ∀ w, (Op.equalIn 10000 ty (.agg xs) (.agg ys)).run P w = .ok b w) (hk : K (a.put o.dst (.bool b))) : o.quiet P a C K := by
  refine ⟨.bool b, fun w _ => ?_, hk⟩
  unfold Oper.quietAt execOp
  simp only [ho, hx, hy, Sem.run_bind, Sem.run_pure, Result.andThen_ok, run_eqGuard_agg w _ _ _ _ _ _ hm, run_eql_struct, hb]
  exact ⟨rfl, rfl⟩

/-- A struct of five one-cell fields, out of its block. -/
theorem run_load5 {P : Program} {w : World} {N : Nat} {ty t : TypeId} {cs : Array Value} {fr : Nat × Nat} {d : TypeDesc} (hg : w.heap[N]? = some (.cells cs t fr)) (hu : P.underlying ty = some d)
    (hd : (match d with | .struct _ | .array _ _ => true | _ => false) = true) (hi : (P.info? ty).map (·.size) = some cs.size) :
    (Instr.loadAt ty (.pointer (some ⟨N, 0, none⟩))).run P w = .ok (.agg cs) w := by
  simp only [Instr.loadAt, Instr.sureAddr, Sem.run_bind, Sem.run_pure, Result.andThen]
  exact run_loadVar_row w N t ty cs fr d hg hu hd hi

end Go.Proofs.YthaldkmjjpepjaaDoor
