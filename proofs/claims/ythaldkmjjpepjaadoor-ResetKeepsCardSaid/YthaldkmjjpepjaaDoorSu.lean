/-
  A slice of operations that comes in: each operation's cells, numbers and text.
-/
import Derived.Test.YthaldkmjjpepjaaDoorRl
import Derived.Test.YthaldkmjjpepjaaDoorSs
import Derived.SizedLaws
import Derived.Deep.Slices
import Derived.Deep.Fields
import Derived.ChangeSame
namespace Go.Proofs.YthaldkmjjpepjaaDoor
open Go.ChangeShapes Go.WideShapes Go.ChangeAt Go.RowKit Go.Joins Go.Deep

section
variable {H : Type} {enc : TypeId × Value → H} {P : Program} {w : World} {base : Nat} {spare : Nat → Bool} {held : Bool}
theorem open_slice_fields {t e : TypeId} {fs : Array Field} {fuel : Nat} {cs : List Value} {x : DataW H × List MemPlace} (ht : P.underlying t = some (.slice e)) (he : P.underlying e = some (.struct fs))
    (hone : oneCellFields P fs = true) (hC : P.cellsOf e = fs.size) (h : DataW.trod enc P w base spare held fuel t cs = some x) :
    (cs = [.slice none 0 0] ∧ x = (.nil, [])) ∨
    ∃ (a : Addr) (len cap m : Nat) (D : Nat → DataW H) (Pl : Nat → List MemPlace), cs = [.slice (some a) len cap] ∧ base ≤ a.block ∧ len ≤ cap ∧ cap ≤ maxLen ∧ m = (if spare a.block then cap else len) ∧
      x = (.slice ((List.range len).map D) ((List.range (m - len)).map fun j => D (len + j)), MemPlace.row a (m * fs.size) ++ (List.range m).flatMap Pl) ∧
      ∀ i, i < m → ∃ (ys : List (DataW H × List MemPlace)) (n : Nat), D i = .agg (ys.map (·.1)) ∧ Pl i = ys.flatMap (·.2) ∧ ys.length = fs.size ∧
        ∀ (j : Nat) (f : Field), fs[j]? = some f → ∃ (v : Value) (y : DataW H × List MemPlace), w.cell? (a.add (i * fs.size + j)) = some v ∧ ys[j]? = some y ∧ DataW.trod enc P w base spare held n f.type [v] = some y := by
  rcases open_slice ht h with h0 | ⟨a, len, cap, m, n, D, Pl, hcs, hb, hl, hm, hmm, hx, hi⟩
  · exact .inl h0
  · refine .inr ⟨a, len, cap, m, D, Pl, hcs, hb, hl, hm, hmm, by rw [hC] at hx; exact hx, fun i him => ?_⟩
    obtain ⟨cs', hc, ht'⟩ := hi i him
    rw [hC] at hc
    obtain ⟨ys, n', hn', hy, hlen, hyl, hf⟩ := DataW.trod_struct he ht'
    obtain ⟨_, hcl, hat⟩ := World.cells?_some hc
    simp only [Prod.mk.injEq] at hy
    refine ⟨ys, n', hy.1, hy.2, hyl, fun j f hj => ?_⟩
    obtain ⟨ho, hk⟩ := hone_of hone j f hj
    have hjl : j < fs.size := (Array.getElem?_eq_some_iff.1 hj).1
    have hcell := hat j hjl
    have hv : cs'[j]? = some (cs'[j]'(by omega)) := List.getElem?_eq_getElem (by omega)
    have h1 := hf j f hj
    rw [ho, hk] at h1
    have hone' : (cs'.drop j).take 1 = [cs'[j]'(by omega)] := by
      rw [List.drop_eq_getElem_cons (by omega)]
      rfl
    rw [hone'] at h1
    have hys : ys[j]? = some (ys[j]'(by omega)) := List.getElem?_eq_getElem (by omega)
    refine ⟨_, _, ?_, hys, h1.trans hys⟩
    rw [← Go.Deep.add_add, hcell, hv]
end

theorem weightsAll_mem {H : Type} {P : Program} {e : TypeId} : ∀ {l : List (DataW H)} {d : DataW H}, d ∈ l → ∀ n ∈ d.weights P e, n ∈ DataW.weightsAll P e l
  | [], _, h, _, _ => by simp at h
  | x :: r, d, h, n, hn => by
    simp only [DataW.weightsAll, List.mem_append]
    rcases List.mem_cons.1 h with rfl | h
    · exact .inl hn
    · exact .inr (weightsAll_mem h n hn)

/-- A string that is the third field of an element of a slice. -/
theorem sized_field {H : Type} {P : Program} {ts : List TypeId} {ds : List (DataW H)} (h : (DataW.weightsEach P ts ds).all (· ≤ reachBytes) = true) {j k : Nat} {t e ft : TypeId} {fs : Array Field} {elems spare parts : List (DataW H)} {bytes : List UInt8}
    (ht : ts[j]? = some t) (hd : ds[j]? = some (.slice elems spare)) (hu : P.underlying t = some (.slice e)) (he : P.underlying e = some (.struct fs)) (hm : DataW.agg parts ∈ elems)
    (hf : (fs.toList.map (·.type))[k]? = some ft) (hp : parts[k]? = some (.lit (.string bytes))) : bytes.length ≤ reachBytes := by
  have h1 : bytes.length ∈ DataW.weightsEach P (fs.toList.map (·.type)) parts := DataW.weights_mem_each hf hp _ (by simp [DataW.weights])
  have h2 : bytes.length ∈ (DataW.agg parts).weights P e := by simpa [DataW.weights, he] using h1
  have h3 := weightsAll_mem hm _ h2
  have := List.all_eq_true.1 h _ (DataW.weights_mem_each ht hd bytes.length (by simp only [DataW.weights, hu, List.mem_cons, List.mem_append]; exact .inr (.inl h3)))
  simpa using this

/-- What comes in as operations. -/
structure OpsIn (v : Value) (w : World) (p : Option Addr) (b off len cap : Nat) (ks vs : Nat → Int) (ss : Nat → ByteArray) : Prop where
  eq : v = .slice p len cap
  at_ : 0 < len → p = some ⟨b, off, none⟩
  ahead : Ahead b off len ks vs ss w
  len_ : len ≤ 9223372036854775807
  ks_ : ∀ i, i < len → -9223372036854775808 ≤ ks i ∧ ks i ≤ 9223372036854775807
  vs_ : ∀ i, i < len → -9223372036854775808 ≤ vs i ∧ vs i ≤ 9223372036854775807
  ss_ : ∀ i, i < len → (ss i).size ≤ 140737488351232
  lt : b < w.heap.size

set_option maxRecDepth 100000 in
theorem open_ops {H : Type} {enc : TypeId × Value → H} {w : World} {r : Reach} {b0 j : Nat} {v : Value} {d : DataW H} {q : List MemPlace} {ts : List TypeId} {ds : List (DataW H)}
    (hv : Value.okWide Tryd.prog w r b0 56 v) (h : DataW.Trod enc Tryd.prog w 0 (fun _ => true) true 56 v d q)
    (hz : 0 < w.heap.size) (hsz : (DataW.weightsEach Tryd.prog ts ds).all (· ≤ reachBytes) = true) (ht : ts[j]? = some 56) (hd : ds[j]? = some d) :
    ∃ p b off len cap ks vs ss, OpsIn v w p b off len cap ks vs ss := by
  obtain ⟨a, len, cap, rfl⟩ := okWide_slice Tryd.underlying56 hv
  obtain ⟨fuel, hf⟩ := h
  have hf' : DataW.trod enc Tryd.prog w 0 (fun _ => true) true fuel 56 [.slice a len cap] = some (d, q) := hf
  rcases open_slice_fields Tryd.underlying56 Tryd.underlying59 (by kernel_rfl) (by kernel_rfl) hf' with ⟨h0, _⟩ | ⟨a', len', cap', m, D, Pl, hcs, _, hl, hm, hmm, hx, hi⟩
  · simp only [List.cons.injEq, Value.slice.injEq, and_true] at h0
    obtain ⟨rfl, rfl, rfl⟩ := h0
    exact ⟨none, 0, 0, 0, 0, fun _ => 0, fun _ => 0, fun _ => ⟨#[]⟩, rfl, fun h => absurd h (by decide), ⟨fun i h => absurd h (by omega), fun i h => absurd h (by omega), fun i h => absurd h (by omega)⟩, by omega, fun i h => absurd h (by omega), fun i h => absurd h (by omega), fun i h => absurd h (by omega), hz⟩
  · simp only [List.cons.injEq, Value.slice.injEq, and_true] at hcs
    obtain ⟨rfl, rfl, rfl⟩ := hcs
    simp only [if_true] at hmm
    simp only [Prod.mk.injEq] at hx
    obtain ⟨rfl, rfl⟩ := hx
    obtain ⟨b, off, spot⟩ := a'
    have each : ∀ i, i < len → ∃ x : Int × Int × ByteArray, w.cell? ⟨b, off + i * 3, none⟩ = some (.int .i64 x.1) ∧ w.cell? ⟨b, off + i * 3 + 1, none⟩ = some (.int .i64 x.2.1) ∧ w.cell? ⟨b, off + i * 3 + 2, none⟩ = some (.string x.2.2) ∧
        (-9223372036854775808 ≤ x.1 ∧ x.1 ≤ 9223372036854775807) ∧ (-9223372036854775808 ≤ x.2.1 ∧ x.2.1 ≤ 9223372036854775807) ∧ x.2.2.size ≤ 140737488351232 ∧ spot = none ∧ b < w.heap.size := by
      intro i hil
      obtain ⟨ys, n, hD, hP, hyl, hfs⟩ := hi i (by omega)
      obtain ⟨v0, y0, hc0, hy0, ht0⟩ := hfs 0 _ rfl
      obtain ⟨v1, y1, hc1, hy1, ht1⟩ := hfs 1 _ rfl
      obtain ⟨v2, y2, hc2, hy2, ht2⟩ := hfs 2 _ rfl
      obtain ⟨k, hk, _, wk⟩ := DataW.trod_int Tryd.underlying3 ht0
      obtain ⟨u, hu, _, wu⟩ := DataW.trod_int Tryd.underlying3 ht1
      obtain ⟨s, hs, hs', ws⟩ := DataW.trod_string Tryd.underlying9 ht2
      simp only [List.cons.injEq, and_true] at hk hu hs
      subst hk hu hs
      have hst : (len != 0) = true := by simp; omega
      have hspot : spot = none := by
        have h3 : ((⟨b, off, spot⟩ : Addr).add (i * 3 + 1)).spot = none := by simp [Addr.add]
        by_cases hi0 : i = 0
        · subst hi0
          simpa [Addr.add] using World.cell?_spot hc0
        · obtain ⟨ys', n', hD', hP', hyl', hfs'⟩ := hi 0 (by omega)
          obtain ⟨v0', y0', hc0', _, _⟩ := hfs' 0 _ rfl
          simpa [Addr.add] using World.cell?_spot hc0'
      subst hspot
      have e3 : (3 : Nat) = 3 := rfl
      have g0 : w.cell? ⟨b, off + i * 3, none⟩ = some (.int .i64 k) := by
        have := hc0
        rw [add_plain] at this
        exact this
      have g1 : w.cell? ⟨b, off + i * 3 + 1, none⟩ = some (.int .i64 u) := by
        have := hc1
        rw [add_plain] at this
        exact this
      have g2 : w.cell? ⟨b, off + i * 3 + 2, none⟩ = some (.string s) := by
        have := hc2
        rw [add_plain] at this
        exact this
      have hlt : b < w.heap.size := by
        by_cases hb : b < w.heap.size
        · exact hb
        · exfalso
          have : w.heap[b]? = none := Array.getElem?_eq_none (by omega)
          simp [World.cell?, this] at g0
      refine ⟨(k, u, s), g0, g1, g2, bounds_i64 wk, bounds_i64 wu, ?_, rfl, hlt⟩
      have hsz' := sized_field hsz (k := 2) ht hd Tryd.underlying56 Tryd.underlying59 (parts := ys.map (·.1)) (List.mem_map.2 ⟨i, List.mem_range.2 hil, hD⟩) (bytes := s.data.toList) rfl
        (by rw [List.getElem?_map, hy2, hs']; rfl)
      have e : s.data.toList.length = s.size := Array.length_toList
      simp only [reachBytes] at hsz'
      show s.size ≤ _
      omega
    obtain ⟨f, hfx⟩ := choose_lt each
    have hml : maxLen = 9223372036854775807 := rfl
    refine ⟨some ⟨b, off, spot⟩, if 0 < len then b else 0, off, len, cap, fun i => (f i).1, fun i => (f i).2.1, fun i => (f i).2.2, rfl, fun h => ?_, ⟨fun i h => ?_, fun i h => ?_, fun i h => ?_⟩, by omega,
      fun i h => (hfx i h).2.2.2.1, fun i h => (hfx i h).2.2.2.2.1, fun i h => (hfx i h).2.2.2.2.2.1, ?_⟩
    · rw [if_pos h, (hfx 0 h).2.2.2.2.2.2.1]
    · rw [if_pos (by omega)]; exact (hfx i h).1
    · rw [if_pos (by omega)]; exact (hfx i h).2.1
    · rw [if_pos (by omega)]; exact (hfx i h).2.2.1
    · by_cases h : 0 < len
      · rw [if_pos h]; exact (hfx 0 h).2.2.2.2.2.2.2
      · rw [if_neg h]; exact hz

theorem marked_size {w : World} (h : Marked w) : 0 < w.heap.size := by
  obtain ⟨h0, _⟩ := h
  by_cases hb : 0 < w.heap.size
  · exact hb
  · exfalso
    have : w.heap[0]? = none := Array.getElem?_eq_none (by omega)
    simp [World.cell?, this] at h0

end Go.Proofs.YthaldkmjjpepjaaDoor
