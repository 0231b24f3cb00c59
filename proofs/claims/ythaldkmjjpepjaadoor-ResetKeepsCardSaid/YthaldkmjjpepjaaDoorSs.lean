/-
  begun's image as a list over bytes; the reference's New.
-/
import Derived.Test.YthaldkmjjpepjaaDoorSr
namespace Go.Proofs.YthaldkmjjpepjaaDoor
open Go.RowKit

theorem Begun.dic {w0 w : World} {N D G n : Nat} {S T : Int} (h : Begun w0 N D G n S T w) (hS : 256 ≤ S ∧ S ≤ 1000) (hT : 64 ≤ T ∧ T ≤ 1000) : Dic N D G n S T 16392 0 (List.replicate n 0) w := by
  obtain ⟨hb, hN, hNG, hGD, hn, r1, r2, r3⟩ := h
  refine ⟨⟨⟨r1, ⟨hS.1, hS.2, hT.1, hT.2⟩, hn⟩, ?_, by simp, hNG⟩, ?_, hGD, ⟨by omega, by omega⟩, .inl rfl⟩
  · rw [← made_bytes]; exact r2
  · exact r3

theorem rnew_any (M L : Nat) (w : World) :
    Calls Tryd.prog 26 #[.slice (some ⟨M, 0, none⟩) L L, .int .i64 16384] w fun e w' =>
      e = .returned (.pointer (some ⟨w.heap.size, 0, none⟩)) ∧ Below w.heap.size w w' ∧ w'.heap[w.heap.size]? = some (.cells (refC M L 16392 0) 106 (0, 0)) := by
  go_enter Tryd.func26, Tryd.ntmps26
  go_wp2_with fail
  go_ret
  exact ⟨rfl, (Below.refl _ _).alloc (Nat.le_refl _) _, heap_alloc_new _ _⟩

/-- What is done before: each of the operations lies in its block, below what begun made. -/
structure Ahead (b : Nat) (off len : Nat) (ks vs : Nat → Int) (ss : Nat → ByteArray) (w : World) : Prop where
  c0 : ∀ i, i < len → w.cell? ⟨b, off + i * 3, none⟩ = some (.int .i64 (ks i))
  c1 : ∀ i, i < len → w.cell? ⟨b, off + i * 3 + 1, none⟩ = some (.int .i64 (vs i))
  c2 : ∀ i, i < len → w.cell? ⟨b, off + i * 3 + 2, none⟩ = some (.string (ss i))

end Go.Proofs.YthaldkmjjpepjaaDoor
