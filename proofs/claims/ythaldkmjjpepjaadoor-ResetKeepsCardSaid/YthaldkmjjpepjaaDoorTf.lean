/-
  A quiet region within a round of a loop over a function; a loop over a list's words.
-/
import Derived.Test.YthaldkmjjpepjaaDoorTe
namespace Go.Proofs.YthaldkmjjpepjaaDoor
open Go.RowKit Go.Shelf

attribute [local go_sem] Oper.semAt_some

section
variable {P : Program} {ops : Array Oper} {md : Region.Mode} {C : World → Prop}

def noDefer (o : Oper) : Bool := match o.op with
  | .defer _ => false
  | _ => true
theorem noDefer_spec {o : Oper} (h : noDefer o = true) : ∀ c, o.op ≠ .defer c := by
  intro c hc
  simp [noDefer, hc] at h

theorem wpIn_of_quiet_round {l n : Nat} {o : Oper} {a : Act} {K : Act → Prop} {K' : Act → World → Prop} {Q' : Exit → Act → World → Prop} {w : World} (hd : noDefer o = true) (hw : C w) (h : ∀ a w', C w' → K a → K' a w') (hh : o.quiet P a C K) :
    o.wpIn (Fence.wide.inRound l) n P a w K' Q' := by
  obtain ⟨v, h1, h2⟩ := hh
  have h3 := h1 w hw
  unfold Oper.quietAt at h3
  refine ⟨fun _ _ => trivial, ?_⟩
  rw [Oper.semAt_eq _ _ _ (noDefer_spec hd)]
  generalize (execOp a.eval o).run P w = r at *
  cases r with
  | ok m w' =>
    cases m <;> simp only [Oper.quietUpon] at h3 <;> simp only [Oper.uponIn]
    case value u =>
      obtain ⟨e1, e2⟩ := h3
      rw [e1, e2]
      exact h _ _ hw h2
    case skip =>
      obtain ⟨e1, e2⟩ := h3
      rw [e1, ← e2]
      exact h _ _ hw h2
    case enter f args =>
      obtain ⟨e1, hc⟩ := h3
      rw [e1]
      refine ⟨(fun h => by cases h), CallsIn.inRound l (callsIn_wide.2 (hc.mono fun e w'' ⟨he, hw''⟩ => ?_))⟩
      subst he
      exact h _ _ hw'' h2
  | halt x w' => simp only [Oper.quietUpon] at h3

theorem wpAnyIn_of_quiet_round {l n : Nat} {Q : Act → Prop} {Q' : Exit → Act → World → Prop} (hd : ∀ (i : Nat) (o : Oper), ops[i]? = some o → noDefer o = true) (hQ : ∀ a w, C w → Q a → Q' .normal a w) : ∀ (fuel : Nat) (listed : Array Bool) (a : Act) (w : World), C w →
    wpAnyQ P md ops C Q fuel listed a → wpAnyIn (Fence.wide.inRound l) n P md ops Q' fuel listed a w
  | 0, _, _, _, hw, h => ⟨h.1, hQ _ _ hw h.2⟩
  | fuel + 1, listed, a, w, hw, h => ⟨fun h0 => hQ _ _ hw (h.1 h0), fun i hi => by
    have hh := h.2 i hi
    unfold qOp at hh
    unfold wpOpIn
    cases ho : ops[i]? with
    | none => simp only [ho] at hh ⊢; exact wpAnyIn_of_quiet_round hd hQ fuel _ a w hw hh
    | some o =>
      simp only [ho] at hh ⊢
      split
      · rename_i hwa
        simp only [hwa, if_true] at hh
        exact wpIn_of_quiet_round (hd i o ho) hw (fun a' w' hw' hk => wpAnyIn_of_quiet_round hd hQ fuel _ a' w' hw' hk) hh
      · rename_i hwa
        simp only [hwa] at hh
        exact ⟨fun _ _ => trivial, wpAnyIn_of_quiet_round hd hQ fuel _ _ w hw hh⟩⟩

/-- One walk of the text's order serves every order, in a round. -/
theorem wpIn_region_quiet_round {l n : Nat} {id : Nat} {Q : Exit → Act → World → Prop} {a : Act} {w : World} {L : List Oper} (hm : P.follows .mixedOrders = true) (hB : Region.lexB .any L.toArray = true) (hnd : L.all noDefer = true)
    (h : wpQuiet P L.toArray (fun w' => ∃ n, w' = w.drewN n) (fun a' => ∀ w', (∃ n, w' = w.drewN n) → Q .normal a' w') L a) : (Code.region id L.toArray true).wpIn (Fence.wide.inRound l) n P Q a w := by
  simp only [Region.lexB, Bool.and_eq_true] at hB
  refine wpIn_region_any hm (wpAnyIn_of_quiet_round (C := fun w' => ∃ n, w' = w.drewN n) (Q := fun a' => ∀ w', (∃ n, w' = w.drewN n) → Q .normal a' w') (fun i o ho => ?_) (fun _ w' hw' h => h w' hw') _ _ _ _ ⟨1, rfl⟩ ?_)
  · have : o ∈ L := by
      have := Array.mem_of_getElem? ho
      simpa using this
    exact List.all_eq_true.1 hnd o this
  · have := wpAnyQ_lex (P := P) (C := fun w' => ∃ n, w' = w.drewN n) (md := .any) hB.1 L 0 (Array.replicate L.toArray.size false) a (by simp) (by simpa using hB.2) h
    simpa using this
end

theorem KeepsOthers.drewN (W : World) (n : Nat) : KeepsOthers W (W.drewN n) := ⟨Nat.le_refl _, fun _ _ h _ => h⟩

/-- What lies in cells abides a step of the loop's machinery. -/
theorem row_abides {W W' : World} {row : Option Nat} {k : Nat} {cs : Array Value} {t : TypeId} {fr : Nat × Nat} (h : W.heap[k]? = some (.cells cs t fr)) (hg : W.grownBy W' row) (hr : ∀ r, row = some r → ∃ o : Obj, W.heap[r]? = some o ∧ o.isCells = false) :
    W'.heap[k]? = some (.cells cs t fr) :=
  (hg.block k (Array.getElem?_eq_some_iff.1 h).1 (fun e => by
    obtain ⟨o, ho, hc⟩ := hr k e.symm
    rw [h] at ho
    injection ho with ho
    subst ho
    cases hc)).trans h
theorem dic_abides {N D G n : Nat} {S T h l : Int} {bs : List UInt8} {W W' : World} {row : Option Nat} (hd : Dic N D G n S T h l bs W) (hg : W.grownBy W' row) (hr : ∀ r, row = some r → ∃ o : Obj, W.heap[r]? = some o ∧ o.isCells = false) : Dic N D G n S T h l bs W' :=
  ⟨⟨⟨row_abides hd.1.1.1 hg hr, hd.1.1.2⟩, row_abides hd.1.2.1 hg hr, hd.1.2.2⟩, row_abides hd.2.1 hg hr, hd.2.2⟩
theorem own_abides {W W' : World} {row : Option Nat} {base : Nat} {e : TypeId} {size : Nat} {v : Value} {n : Nat} {xs : List Value} (h : W.ownsRow base e size v n xs) (hg : W.grownBy W' row) (hr : ∀ r, row = some r → ∃ o : Obj, W.heap[r]? = some o ∧ o.isCells = false) : W'.ownsRow base e size v n xs := by
  refine h.kept hg ?_
  rcases h.2 with ⟨rfl, _⟩ | ⟨g, cap, cur, rfl, _, hrow, _⟩
  · exact .inl rfl
  · refine .inr fun e => ?_
    obtain ⟨o, ho, hc⟩ := hr g e.symm
    rw [hrow] at ho
    injection ho with ho
    subst ho
    cases hc
theorem below_abides {B : Nat} {w0 W W' : World} {row : Option Nat} (h : Below B w0 W) (hg : W.grownBy W' row) (hB : B ≤ W.heap.size) (hr : ∀ r, row = some r → B ≤ r) : Below B w0 W' := h.grown hg hB (fun k hk => hr k hk)

theorem Kept.alloc {B : Nat} {W : World} (hB : B < W.heap.size) (o : Obj) : Kept B W (W.alloc o) :=
  ⟨by simp, fun k ob hk _ _ _ => (heap_alloc_old W o (Array.getElem?_eq_some_iff.1 hk).1).trans hk, .inl (ownIn_alloc hB o)⟩

/-- A loop over a list's words. -/
theorem wp_rangeWord {Q : Exit → Act → World → Prop} {tmps : Array Value} {dfs : List Deferred} {w : World} {g : Operand} {p q : Tmp} {assign body : Code} (Bd B : Nat) (N D G m : Nat) (S T h lt : Int) (bs : List UInt8)
    (hg : ({ tmps := tmps, defers := dfs } : Act).eval g = .func (.func 54) #[] #[.pointer (some ⟨Bd, 0, none⟩)])
    (hBd : w.cell? ⟨Bd, 0, none⟩ = some (.pointer (some ⟨D, 0, none⟩))) (hBl : Bd < w.heap.size) (hD : Dic N D G m S T h lt bs w) (hB : B < w.heap.size) (hO : ∀ k, ownIn B w = some k → k < w.heap.size)
    (I : List WordV → World → Prop) (Ix : Code → List WordV → World → Prop) (hI : OwnFrom w.heap.size I) (hIx : ∀ c, OwnFrom w.heap.size (Ix c)) (h0 : I [] w) (hIs : ∀ pre W, I pre W → w.heap.size ≤ W.heap.size)
    (hassign : ∀ (l : Nat) (x : WordV) (W : World) (K : Act → World → Prop), K { tmps := (tmps.setIfInBounds p (.agg x.cells)).setIfInBounds q (.pointer (some ⟨W.heap.size, 0, none⟩)), defers := [] } (W.alloc (.cells x.cells 72)) →
      assign.wpIn (Fence.wide.inRound l) 8 Tryd.prog (Exit.then K (fun _ _ _ => False)) { tmps := tmps.setIfInBounds p (.agg x.cells), defers := [] } W)
    (hbody : ∀ (l : Nat) (pre : List WordV) (x : WordV) (Bx : Nat) (W : World), I pre W → w.heap.size ≤ Bx → W.heap[Bx]? = some (.cells x.cells 72 (0, 0)) → pre.length < 20000 →
      body.wpIn (Fence.wide.inRound l) 8 Tryd.prog (ownPostG w.heap.size (Kept B) I Ix (pre ++ [x]) W) { tmps := (tmps.setIfInBounds p (.agg x.cells)).setIfInBounds q (.pointer (some ⟨Bx, 0, none⟩)), defers := [] } W)
    (hdone : ∀ (Dd : Nat) (W : World), w.heap.size ≤ Dd → I (wordsFrom S bs 20000 lt) W → W.heap[Dd]? = some (.deferred (some [])) → Q .normal { tmps := tmps, defers := { target := .collected Dd, args := #[] } :: dfs } W)
    (hstop : ∀ (Dd : Nat) (c : Code) (pre : List WordV) (W : World), w.heap.size ≤ Dd → pre <+: wordsFrom S bs 20000 lt → Ix c pre W → W.heap[Dd]? = some (.deferred (some [])) → c.wp Tryd.prog Q { tmps := tmps, defers := { target := .collected Dd, args := #[] } :: dfs } W) :
    (Code.rangeFunc g #[p] assign body).wp Tryd.prog Q { tmps := tmps, defers := dfs } w := by
  refine (wpIn_wide (n := 10)).1 ?_
  refine wpIn_rangeFunc_ownH (F := Fence.wide) (n := 10) rfl (by omega) (gf := 54) (lb := #[.pointer (some ⟨Bd, 0, none⟩)]) hg trivial (enters_of Tryd.func54 (by kernel_rfl) rfl)
    (all_stops 9 (by omega) Bd B N D G m S T h lt bs w hBd hBl hD hB hO) (fun h k => h.trans k) (fun W l o o' hl ho hc _ => Kept.putObj o' ho hc (by omega)) (Below.refl _ _) (fun _ => rfl)
    I Ix hI hIx h0 (fun x a' W => ∃ Bx, w.heap.size ≤ Bx ∧ W.heap[Bx]? = some (.cells x.cells 72 (0, 0)) ∧ a' = { tmps := (tmps.setIfInBounds p (.agg x.cells)).setIfInBounds q (.pointer (some ⟨Bx, 0, none⟩)), defers := [] })
    ?_ ?_ ?_ ?_ ?_
  · rintro x a' _ W W' row ⟨Bx, h1, h2, rfl⟩ hgr hr
    exact ⟨Bx, h1, row_abides h2 hgr (fun r e => (hr r e).2), rfl⟩
  · intro l pre x W K hi hK
    have hs := hIs pre W hi
    have hh := hassign l x W K (hK _ _ ((KeepsOthers.alloc W _).from _) (Kept.alloc (by omega) _) (hI _ _ _ none hi (World.grownBy_alloc W _ none) (fun r e => by cases e)) ⟨W.heap.size, hs, heap_alloc_new W _, rfl⟩)
    have e : ((#[p].zip (#[Value.agg x.cells])).foldl (fun t (p, v) => t.setIfInBounds p v) tmps) = tmps.setIfInBounds p (.agg x.cells) := by simp
    rw [← e] at hh
    exact hh
  · rintro l pre x a' W _ _ hi ⟨Bx, h1, h2, rfl⟩ hl
    exact hbody l pre x Bx W hi h1 h2 hl
  · rintro Dd xs W h1 rfl h2 h3
    exact hdone Dd W h1 h2 h3
  · intro Dd c pre W h1 h2 h3 h4
    exact wpIn_wide.2 (hstop Dd c pre W h1 h2 h3 h4)

end Go.Proofs.YthaldkmjjpepjaaDoor
