/-
  Keep of an image and its student's list.
-/
import Derived.Test.YthaldkmjjpepjaaDoorSl
import Derived.Test.YthaldkmjjpepjaaDoorRt
namespace Go.Proofs.YthaldkmjjpepjaaDoor
open Go.RowKit

set_option maxHeartbeats 1000000 in
theorem asked_ok (N D G n : Nat) (S T h l : Int) (bs : List UInt8) (w : World) (hd : Dic N D G n S T h l bs w) :
    Calls Tryd.prog 43 #[.pointer (some ⟨N, 0, none⟩), .pointer (some ⟨D, 0, none⟩)] w fun e w' => e = .returned .nilIface ∧ Below w.heap.size w w' := by
  have s1 : w.cell? ⟨N, 8, none⟩ = some (.int .i64 16384) := cell_of_row _ N 8 _ _ _ hd.1.1.1
  have s2 : w.cell? ⟨N, 9, none⟩ = some (.int .i64 (16384 + S)) := cell_of_row _ N 9 _ _ _ hd.1.1.1
  have HS := hide (span_any N 3 16384 (16384 + S) w (by omega) s1 s2)
  obtain ⟨hS, hh⟩ : (256 ≤ S ∧ S ≤ 1000) ∧ (16392 ≤ h ∧ h ≤ 16384 + S) := ⟨⟨hd.1.1.2.1.1, hd.1.1.2.1.2.1⟩, hd.2.2.2.1⟩
  have HD := hide hd
  clear s1 s2 hd
  go_enter Tryd.func43, Tryd.ntmps43
  go_wp2_with fail
  refine HS.out.mono ?_
  rintro e w1 ⟨rfl, hb1⟩
  have c3 := (HD.out.below hb1).cells.2.2.2.1
  go_wp2_with fail
  refine (here_any D h w1 c3).mono ?_
  rintro e w2 ⟨rfl, rfl⟩
  go_wp2_with fail
  refine (here_any D h w1 c3).mono ?_
  rintro e w2 ⟨rfl, rfl⟩
  go_wp2_with fail
  go_ret
  exact ⟨rfl, hb1⟩

/-- A region's bytes as a text. -/
def partS (bs : List UInt8) (F L : Int) : ByteArray := mkS ((bs.drop F.toNat).take L.toNat)
/-- What Keep tells. -/
def keptV (S T h l : Int) (bs : List UInt8) : Array Value :=
  #[.string (partS bs 16384 S), .string (partS bs (16384 + S) T), .string (partS bs (16384 + S + T) 64), .int .i64 h, .int .i64 l]

theorem partOf (N D G n : Nat) (S T h l r F L : Int) (bs : List UInt8) (w : World) (hd : Dic N D G n S T h l bs w)
    (hr : (r = 3 ∧ F = 16384 ∧ L = S) ∨ (r = 4 ∧ F = 16384 + S ∧ L = T) ∨ (r = 5 ∧ F = 16384 + S + T ∧ L = 64)) :
    Calls Tryd.prog 29 #[.pointer (some ⟨N, 0, none⟩), .int .i64 r] w fun e w' => e = .returned (.string (partS bs F L)) ∧ Below w.heap.size w w' := by
  have i3 : w.cell? ⟨N, 8, none⟩ = some (.int .i64 16384) := cell_of_row _ N 8 _ _ _ hd.1.1.1
  have i4 : w.cell? ⟨N, 9, none⟩ = some (.int .i64 (16384 + S)) := cell_of_row _ N 9 _ _ _ hd.1.1.1
  have i5 : w.cell? ⟨N, 10, none⟩ = some (.int .i64 (16384 + S + T)) := cell_of_row _ N 10 _ _ _ hd.1.1.1
  have i6 : w.cell? ⟨N, 11, none⟩ = some (.int .i64 (16384 + S + T + 64)) := cell_of_row _ N 11 _ _ _ hd.1.1.1
  obtain ⟨hb, hn⟩ := hd.1.1.2
  obtain ⟨f, hf⟩ : ∃ f : Nat, F = (f : Int) := ⟨F.toNat, by omega⟩
  obtain ⟨m, hm⟩ : ∃ m : Nat, L = (m : Int) := ⟨L.toNat, by omega⟩
  have hfm : ((f + m : Nat) : Int) = F + L := by omega
  have key := pPart_any N G n f m S T r bs w hd.1 (by omega) (by rw [← hf]; rcases hr with ⟨rfl, rfl, rfl⟩ | ⟨rfl, rfl, rfl⟩ | ⟨rfl, rfl, rfl⟩ <;> assumption)
    (by rw [hfm]; rcases hr with ⟨rfl, rfl, rfl⟩ | ⟨rfl, rfl, rfl⟩ | ⟨rfl, rfl, rfl⟩ <;> assumption) (by omega) (by omega)
  unfold partS
  rw [hf, hm, Int.toNat_natCast, Int.toNat_natCast]
  exact key

set_option maxRecDepth 100000 in
set_option maxHeartbeats 2000000 in
theorem keep_ok (N D G n : Nat) (S T h l : Int) (bs : List UInt8) (w : World) (hd : Dic N D G n S T h l bs w) :
    Calls Tryd.prog 22 #[.pointer (some ⟨N, 0, none⟩), .pointer (some ⟨D, 0, none⟩)] w fun e w' =>
      e = .returned (.tuple #[.agg (keptV S T h l bs), .int .i64 0]) ∧ Below w.heap.size w w' := by
  have HD := hide (fun o => hd.below ((Below.refl _ w).alloc (Nat.le_refl _) o))
  clear hd
  unfold keptV
  have HP := hide (fun w hd r F L hr => partOf N D G n S T h l r F L bs w hd hr)
  go_enter Tryd.func22, Tryd.ntmps22
  go_wp2_with fail
  refine (asked_ok N D G n S T h l bs _ (HD.out _)).mono ?_
  rintro e w1 ⟨rfl, hb1⟩
  have HO1 := hide (show One w w.heap.size w.heap.size (.cells #[.string ⟨#[]⟩, .string ⟨#[]⟩, .string ⟨#[]⟩, .int .i64 0, .int .i64 0] 23) w1 from One.keep ⟨heap_alloc_new w _, (Below.refl _ w).alloc (Nat.le_refl _) _, by simp⟩ hb1)
  have HD1 := hide ((HD.out _).below hb1)
  clear hb1 HD
  go_wp2_with fail
  refine (mark_any N D G n S T h l bs _ HD1.out).mono ?_
  rintro e w2 ⟨rfl, hb2⟩
  have HO2 := hide (HO1.out.keep hb2)
  have HD2 := hide (HD1.out.below hb2)
  clear hb2 HD1 HO1
  go_wp2_with fail
  refine (HP.out _ HD2.out 3 16384 S (by omega)).mono ?_
  rintro e w3 ⟨rfl, hb3⟩
  have HO3 := hide (HO2.out.keep hb3)
  have HD3 := hide (HD2.out.below hb3)
  clear hb3 HD2 HO2
  go_wp2_with fail
  refine (HP.out _ HD3.out 4 (16384 + S) T (by omega)).mono ?_
  rintro e w4 ⟨rfl, hb4⟩
  have HO4 := hide (HO3.out.keep hb4)
  have HD4 := hide (HD3.out.below hb4)
  clear hb4 HD3 HO3
  go_wp2_with fail
  refine (HP.out _ HD4.out 5 (16384 + S + T) 64 (by omega)).mono ?_
  rintro e w5 ⟨rfl, hb5⟩
  have HO5 := hide (HO4.out.keep hb5)
  clear hb5 HD4 HO4
  have hr5 := HO5.out.1
  go_wp2_with (with_reducible refine wpl_stRow w5 rfl 23 (.tmp 4) (.tmp 30) rfl w.heap.size 23 _ _ rfl rfl hr5 (by kernel_rfl) (by simp) (by simp [Value.oneCell']) ?_)
  intro w6 hr6 hg6 hs6
  have HG := hide hg6
  have HR := hide hr6
  clear hr5 hr6 hg6
  go_wp2_with fail
  refine post_cell_tmp (g := w.heap.size) rfl rfl rfl rfl HR.out Tryd.underlying23 rfl (by kernel_rfl) ⟨rfl, ?_⟩
  exact HO5.out.2.1.grown HG.out HO5.out.2.2 (by simp)

end Go.Proofs.YthaldkmjjpepjaaDoor
