/-
  Plain mathematics of layer 16: there and back; what is cut, turned in one byte, or longer, is none.
-/
import Derived.Test.YthaldkmjjpepjaaDoorRp
import Derived.Laws.BitsLemmas
namespace Go.Proofs.YthaldkmjjpepjaaDoor

theorem leN_flat_length (ns : List Int) : (ns.flatMap fun n => leN 8 (u64N n)).length = 8 * ns.length := by
  induction ns with
  | nil => rfl
  | cons n ns ih => simp only [List.flatMap_cons, List.length_append, ih, leN_length, List.length_cons]; omega

theorem headB_length (ns : List Int) : (headB ns).length = 4 + 8 * ns.length := by
  simp only [headB, List.length_append, leN_flat_length]
  rfl

theorem bodyB_length (s d r : ByteArray) (h l : Int) : (bodyB s d r h l).length = 44 + (s.size + d.size + r.size) := by
  simp only [bodyB, List.length_append, headB_length, sl_length]
  simp; omega

theorem printB_length (s d r : ByteArray) (h l : Int) : (printB s d r h l).length = 52 + (s.size + d.size + r.size) := by
  simp only [printB, List.length_append, bodyB_length, leN_length]
  omega

theorem take_take_drop (l : List UInt8) (a b k : Nat) (h : a + b ≤ k) : ((l.take k).drop a).take b = (l.drop a).take b := by
  rw [List.drop_take, List.take_take, Nat.min_eq_left (by omega)]

theorem numAt_take (l : List UInt8) (i k : Nat) (h : 4 + 8 * i + 8 ≤ k) : numAt (l.take k) i = numAt l i := by
  unfold numAt
  rw [take_take_drop _ _ _ _ h]

theorem numAt_append (l m : List UInt8) (i : Nat) (h : 4 + 8 * i + 8 ≤ l.length) : numAt (l ++ m) i = numAt l i := by
  have := numAt_take (l ++ m) i l.length h
  rw [List.take_left] at this
  exact this.symm

theorem numAt_headB (ns : List Int) (m : List UInt8) (i : Nat) (h : i < ns.length) : numAt (headB ns ++ m) i = u64N (ns.getD i 0) := by
  unfold numAt headB
  have e : ∀ (ns : List Int) (i : Nat), i < ns.length → (((ns.flatMap fun n => leN 8 (u64N n)) ++ m).drop (8 * i)).take 8 = leN 8 (u64N (ns.getD i 0)) := by
    intro ns
    induction ns with
    | nil => intro i h; simp at h
    | cons n ns ih =>
      intro i h
      cases i with
      | zero =>
        simp only [List.flatMap_cons, List.append_assoc, Nat.mul_zero, List.drop_zero, List.getD_cons_zero]
        rw [List.take_append_of_le_length (by rw [leN_length]; omega), List.take_of_length_le (by rw [leN_length]; omega)]
      | succ i =>
        have := ih i (by simpa using h)
        simp only [List.flatMap_cons, List.append_assoc, List.getD_cons_succ]
        rw [show 8 * (i + 1) = (leN 8 (u64N n)).length + 8 * i by rw [leN_length]; omega, ← List.drop_drop, List.drop_left]
        exact this
  rw [List.append_assoc, show 4 + 8 * i = ([80, 82, 83, 49] : List UInt8).length + 8 * i from rfl, ← List.drop_drop, List.drop_left, e ns i h, rdN_leN]
  exact Nat.mod_eq_of_lt (u64N_lt _)

theorem numAt_printB (s d r : ByteArray) (h l : Int) (i : Nat) (hi : i < 5) : numAt (printB s d r h l) i = u64N ([(s.size : Int), d.size, r.size, h, l].getD i 0) := by
  unfold printB bodyB
  rw [List.append_assoc]
  exact numAt_headB _ _ i (by simpa using hi)

theorem fit_nums {s d r : ByteArray} (hf : fitI s.size d.size r.size = true) (h l : Int) :
    numAt (printB s d r h l) 0 = s.size ∧ numAt (printB s d r h l) 1 = d.size ∧ numAt (printB s d r h l) 2 = r.size := by
  obtain ⟨f1, f2, f3⟩ := fitI_iff.1 hf
  exact ⟨(numAt_printB s d r h l 0 (by omega)).trans (u64N_nat _ (by omega)), (numAt_printB s d r h l 1 (by omega)).trans (u64N_nat _ (by omega)), (numAt_printB s d r h l 2 (by omega)).trans (u64N_nat _ (by omega))⟩

theorem take4_printB (s d r : ByteArray) (h l : Int) : (printB s d r h l).take 4 = [80, 82, 83, 49] := rfl

theorem okL_printB {s d r : ByteArray} (hf : fitI s.size d.size r.size = true) (h l : Int) : okL (printB s d r h l) = true := by
  obtain ⟨n0, n1, n2⟩ := fit_nums hf h l
  have hd : (printB s d r h l).drop ((printB s d r h l).length - 8) = leN 8 (sumN (bodyB s d r h l)) := by
    rw [printB_length, show 52 + (s.size + d.size + r.size) - 8 = (bodyB s d r h l).length by rw [bodyB_length]; omega, printB, List.drop_left]
  have ht : (printB s d r h l).take ((printB s d r h l).length - 8) = bodyB s d r h l := by
    rw [printB_length, show 52 + (s.size + d.size + r.size) - 8 = (bodyB s d r h l).length by rw [bodyB_length]; omega, printB, List.take_left]
  have hs : rdN (leN 8 (sumN (bodyB s d r h l))) = sumN (bodyB s d r h l) := by
    rw [rdN_leN]
    exact Nat.mod_eq_of_lt (sumN_lt _)
  unfold okL
  rw [n0, n1, n2, hf, take4_printB, hd, ht, hs, printB_length]
  simp
  omega

theorem body_parts (s d r : ByteArray) (h l : Int) : (printB s d r h l).drop 44 = sl s ++ (sl d ++ (sl r ++ leN 8 (sumN (bodyB s d r h l)))) := by
  unfold printB
  generalize leN 8 (sumN (bodyB s d r h l)) = t
  rw [bodyB, List.append_assoc, show 44 = (headB [(s.size : Int), d.size, r.size, h, l]).length by rw [headB_length]; rfl, List.drop_left]
  simp

theorem parts_printB {s d r : ByteArray} (hf : fitI s.size d.size r.size = true) (h l : Int) :
    part0 (printB s d r h l) = sl s ∧ part1 (printB s d r h l) = sl d ∧ part2 (printB s d r h l) = sl r := by
  obtain ⟨n0, n1, n2⟩ := fit_nums hf h l
  have hb := body_parts s d r h l
  refine ⟨?_, ?_, ?_⟩
  · rw [part0, n0, hb, ← sl_length s, List.take_left]
  · rw [part1, n0, n1, ← List.drop_drop, hb, ← sl_length s, List.drop_left, ← sl_length d, List.take_left]
  · rw [part2, n0, n1, n2, ← List.drop_drop, ← List.drop_drop, hb, ← sl_length s, List.drop_left, ← sl_length d, List.drop_left, ← sl_length r, List.take_left]

theorem i64_u64N {h : Int} (h0 : -9223372036854775808 ≤ h) (h1 : h ≤ 9223372036854775807) : IntKind.i64.wrap (u64N h : Int) = h := by
  unfold u64N
  rw [IntKind.wrap_i64]
  omega

theorem okL_cut {l : List UInt8} (h : okL l = true) (k : Nat) (hk : k < l.length) : okL (l.take k) = false := by
  simp only [okL, Bool.and_eq_true, decide_eq_true_eq] at h
  obtain ⟨⟨⟨⟨h1, h2⟩, h3⟩, h4⟩, h5⟩ := h
  by_cases h52 : k < 52
  · simp [okL, Nat.min_eq_left (Nat.le_of_lt hk)]
    intro h; omega
  · have hlen : (l.take k).length = k := by simp; omega
    unfold okL
    rw [hlen, numAt_take _ _ _ (by omega), numAt_take _ _ _ (by omega), numAt_take _ _ _ (by omega)]
    simp only [Bool.and_eq_false_iff]
    exact .inl (.inr (by simp; omega))

theorem okL_more {l m : List UInt8} (h : okL l = true) (hm : m ≠ []) : okL (l ++ m) = false := by
  simp only [okL, Bool.and_eq_true, decide_eq_true_eq] at h
  obtain ⟨⟨⟨⟨h1, h2⟩, h3⟩, h4⟩, h5⟩ := h
  have hp : 0 < m.length := List.length_pos_iff.2 hm
  unfold okL
  rw [numAt_append _ _ _ (by omega), numAt_append _ _ _ (by omega), numAt_append _ _ _ (by omega)]
  simp only [Bool.and_eq_false_iff]
  exact .inl (.inr (by simp; omega))

def sumF (n : Nat) (c : UInt8) : Nat := (n * 131 + c.toNat) % 18446744073709551616
theorem sumF_lt (n : Nat) (c : UInt8) : sumF n c < 18446744073709551616 := Nat.mod_lt _ (by omega)
theorem sub131 {n m c : Nat} (hle : m ≤ n) : n * 131 + c - (m * 131 + c) = 131 * (n - m) := by omega
theorem mod131' {M n m c : Nat} (hc : Nat.Coprime M 131) (hn : n < M) (hle : m ≤ n) (h : (n * 131 + c) % M = (m * 131 + c) % M) : n = m := by
  have h1 := Nat.sub_mod_eq_zero_of_mod_eq h
  rw [sub131 hle] at h1
  have h2 : M ∣ n - m := hc.dvd_of_dvd_mul_left (Nat.dvd_of_mod_eq_zero h1)
  have h3 := Nat.eq_zero_of_dvd_of_lt h2 (Nat.lt_of_le_of_lt (Nat.sub_le _ _) hn)
  omega
theorem mod131 {n m c : Nat} (hn : n < 18446744073709551616) (hm : m < 18446744073709551616) (h : (n * 131 + c) % 18446744073709551616 = (m * 131 + c) % 18446744073709551616) : n = m := by
  have hc : Nat.Coprime 18446744073709551616 131 := by decide +kernel
  rcases Nat.le_total m n with hle | hle
  · exact mod131' hc hn hle h
  · exact (mod131' hc hm hle h.symm).symm

theorem sumF_inj {n m : Nat} {c : UInt8} (hn : n < 18446744073709551616) (hm : m < 18446744073709551616) (h : sumF n c = sumF m c) : n = m := by
  exact mod131 hn hm h
theorem foldl_inj (l : List UInt8) : ∀ {n m : Nat}, n < 18446744073709551616 → m < 18446744073709551616 → l.foldl sumF n = l.foldl sumF m → n = m := by
  induction l with
  | nil => intro n m _ _ h; exact h
  | cons c l ih =>
    intro n m hn hm h
    exact sumF_inj hn hm (ih (sumF_lt _ _) (sumF_lt _ _) h)
theorem sumN_fold (l : List UInt8) : sumN l = l.foldl sumF 0 := rfl
theorem foldl_lt (l : List UInt8) : ∀ {n : Nat}, n < 18446744073709551616 → l.foldl sumF n < 18446744073709551616 := by
  induction l with
  | nil => intro n h; exact h
  | cons c l ih => intro n _; exact ih (sumF_lt _ _)

/-- Another byte at one place: another sum. -/
theorem sumN_set {l : List UInt8} {k : Nat} {c : UInt8} (hk : k < l.length) (h : sumN (l.set k c) = sumN l) : c = l[k] := by
  rw [List.set_eq_take_append_cons_drop, if_pos hk] at h
  have e : l = l.take k ++ (l[k] :: l.drop (k + 1)) := by rw [← drop_cons hk, List.take_append_drop]
  have h' : sumN (l.take k ++ c :: l.drop (k + 1)) = sumN (l.take k ++ l[k] :: l.drop (k + 1)) := by rw [← e]; exact h
  rw [sumN_fold, sumN_fold, List.foldl_append, List.foldl_append, List.foldl_cons, List.foldl_cons] at h'
  have h2 := foldl_inj _ (sumF_lt _ _) (sumF_lt _ _) h'
  have hlt := foldl_lt (l.take k) (n := 0) (by omega)
  generalize (l.take k).foldl sumF 0 = n at h2 hlt
  unfold sumF at h2
  have h3 := c.toNat_lt
  have h4 := l[k].toNat_lt
  exact UInt8.toNat_inj.1 (by omega)

theorem rdN_inj : ∀ {a b : List UInt8}, a.length = b.length → rdN a = rdN b → a = b
  | [], [], _, _ => rfl
  | [], _ :: _, h, _ => by simp at h
  | _ :: _, [], h, _ => by simp at h
  | x :: a, y :: b, hl, h => by
    rw [rdN_cons, rdN_cons] at h
    have h1 := x.toNat_lt
    have h2 := y.toNat_lt
    have e1 : rdN a = rdN b := by omega
    have e2 : x = y := UInt8.toNat_inj.1 (by omega)
    rw [e2, rdN_inj (by simpa using hl) e1]

/-- One byte that is another one. -/
theorem okL_set {l : List UInt8} (h : okL l = true) (k : Nat) (hk : k < l.length) (c : UInt8) (hc : c ≠ l[k]) : okL (l.set k c) = false := by
  cases h' : okL (l.set k c) with
  | false => rfl
  | true =>
    exfalso
    apply hc
    simp only [okL, Bool.and_eq_true, decide_eq_true_eq, List.length_set] at h h'
    obtain ⟨⟨⟨⟨h1, h2⟩, h3⟩, h4⟩, h5⟩ := h
    obtain ⟨⟨⟨⟨g1, g2⟩, g3⟩, g4⟩, g5⟩ := h'
    by_cases hk4 : k < 4
    · have e : (l.set k c).take 4 = l.take 4 := g2.trans h2.symm
      have := congrArg (fun x => x[k]?) e
      simp only [List.getElem?_take, if_pos hk4, List.getElem?_set_self hk, List.getElem?_eq_getElem hk] at this
      exact Option.some.inj this
    · by_cases hk8 : k < l.length - 8
      · have ed : (l.set k c).drop (l.length - 8) = l.drop (l.length - 8) := List.drop_set_of_lt hk8
        have et : (l.set k c).take (l.length - 8) = (l.take (l.length - 8)).set k c := List.take_set ..
        rw [ed, h5, et] at g5
        have := sumN_set (l := l.take (l.length - 8)) (k := k) (c := c) (by simp; omega) g5.symm
        rw [this]
        simp
      · have et : (l.set k c).take (l.length - 8) = l.take (l.length - 8) := by
          rw [List.take_set, List.set_eq_of_length_le (by simp; omega)]
        rw [et, ← h5] at g5
        have e := rdN_inj (by simp) g5
        have := congrArg (fun x => x[k - (l.length - 8)]?) e
        simp only [List.getElem?_drop] at this
        rw [show l.length - 8 + (k - (l.length - 8)) = k by omega, List.getElem?_set_self hk, List.getElem?_eq_getElem hk] at this
        exact Option.some.inj this

/-- x ^ y of bytes. -/
def xorI (x y : Int) : Int := bits BinOp.xor IntKind.u8 x y
theorem xorI_range (x y : Int) : 0 ≤ xorI x y ∧ xorI x y ≤ 255 := by
  unfold xorI bits
  simp only [IntKind.wrap, IntKind.bits, IntKind.signed]
  simp
  omega
theorem xorI_byte (c : UInt8) (y : Int) : xorI c.toNat y = ((UInt8.ofNat (xorI c.toNat y).toNat).toNat : Int) := by
  have := xorI_range c.toNat y
  simp only [UInt8.toNat_ofNat']
  omega
theorem xorI_same {x y : Int} (h0 : 0 ≤ x) (h1 : x ≤ 255) (g0 : 0 ≤ y) (g1 : y ≤ 255) : xorI x y = x ↔ y = 0 := by
  obtain ⟨a, rfl⟩ := Int.eq_ofNat_of_zero_le h0
  obtain ⟨b, rfl⟩ := Int.eq_ofNat_of_zero_le g0
  have e : xorI a b = ((BitVec.ofNat 8 a ^^^ BitVec.ofNat 8 b).toNat : Int) := by
    have hx := (BitVec.ofNat 8 a ^^^ BitVec.ofNat 8 b).isLt
    show IntKind.u8.wrap ((BitVec.ofInt 8 (a : Int) ^^^ BitVec.ofInt 8 (b : Int)).toNat : Int) = _
    rw [IntKind.wrap_u8, BitVec.ofInt_natCast, BitVec.ofInt_natCast]
    generalize (BitVec.ofNat 8 a ^^^ BitVec.ofNat 8 b).toNat = z at hx
    omega
  rw [e]
  have ha : (BitVec.ofNat 8 a).toNat = a := by simp; omega
  have hb : (BitVec.ofNat 8 b).toNat = b := by simp; omega
  constructor
  · intro h
    have h' : BitVec.ofNat 8 a ^^^ BitVec.ofNat 8 b = BitVec.ofNat 8 a := BitVec.eq_of_toNat_eq (by rw [ha]; omega)
    have h2 : BitVec.ofNat 8 b = 0#8 := by
      have := congrArg (fun z => BitVec.ofNat 8 a ^^^ z) h'
      simpa [← BitVec.xor_assoc] using this
    rw [h2] at hb
    simp at hb
    omega
  · intro h
    have : b = 0 := by omega
    subst this
    simp; omega

end Go.Proofs.YthaldkmjjpepjaaDoor
