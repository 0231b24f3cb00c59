/-
  Plain mathematics of layer 16: numbers of eight bytes, sums; no program.
-/
import Derived.WalkKit
namespace Go.Proofs.YthaldkmjjpepjaaDoor

/-- The sum of bytes. -/
def sumN (l : List UInt8) : Nat := l.foldl (fun n c => (n * 131 + c.toNat) % 18446744073709551616) 0
/-- A number out of bytes, the lowest first. -/
def rdN (l : List UInt8) : Nat := l.foldr (fun c n => n * 256 + c.toNat) 0
/-- Bytes of a number, the lowest first. -/
def leN : Nat → Nat → List UInt8
  | 0, _ => []
  | k + 1, n => UInt8.ofNat n :: leN k (n / 256)

theorem sumN_lt (l : List UInt8) : sumN l < 18446744073709551616 := by
  unfold sumN
  rcases List.eq_nil_or_concat l with rfl | ⟨l, c, rfl⟩
  · simp
  · simp only [List.concat_eq_append, List.foldl_append, List.foldl_cons, List.foldl_nil]
    omega

theorem sumN_snoc (l : List UInt8) (c : UInt8) : sumN (l ++ [c]) = (sumN l * 131 + c.toNat) % 18446744073709551616 := by
  simp [sumN, List.foldl_append]

theorem take_snoc {l : List UInt8} {k : Nat} (h : k < l.length) : l.take (k + 1) = l.take k ++ [l[k]] := by
  rw [List.take_succ_eq_append_getElem h]

theorem u64_wrap (a : Int) : IntKind.u64.wrap a = a % 18446744073709551616 := by
  simp [IntKind.wrap, IntKind.bits, IntKind.signed]

theorem sumN_step {l : List UInt8} {k : Nat} (h : k < l.length) :
    IntKind.u64.wrap (IntKind.u64.wrap ((sumN (l.take k) : Int) * 131) + IntKind.u64.wrap (l[k].toNat : Int)) = (sumN (l.take (k + 1)) : Int) := by
  have := l[k].toNat_lt
  rw [take_snoc h, sumN_snoc, u64_wrap, u64_wrap, u64_wrap]
  omega

theorem rdN_lt (l : List UInt8) : rdN l < 256 ^ l.length := by
  induction l with
  | nil => simp [rdN]
  | cons c l ih =>
    have := c.toNat_lt
    simp only [rdN, List.foldr_cons, List.length_cons, Nat.pow_succ] at *
    omega

theorem drop_cons {l : List UInt8} {k : Nat} (h : k < l.length) : l.drop k = l[k] :: l.drop (k + 1) := by
  rw [List.drop_eq_getElem_cons h]

theorem leN_length (k n : Nat) : (leN k n).length = k := by
  induction k generalizing n with
  | zero => rfl
  | succ k ih => simp [leN, ih]

theorem rdN_leN (k n : Nat) : rdN (leN k n) = n % 256 ^ k := by
  induction k generalizing n with
  | zero => simp [leN, rdN]; omega
  | succ k ih =>
    have h := ih (n / 256)
    simp only [rdN, leN, List.foldr_cons] at *
    rw [h, Nat.pow_succ, Nat.mul_comm (256 ^ k) 256, Nat.mod_mul]
    simp
    omega

theorem rdN_drop_lt {l : List UInt8} (k m : Nat) (h : l.length - k ≤ m) : rdN (l.drop k) < 256 ^ m := by
  have h1 := rdN_lt (l.drop k)
  rw [List.length_drop] at h1
  exact Nat.lt_of_lt_of_le h1 (Nat.pow_le_pow_right (by omega) h)

theorem rdN_cons (c : UInt8) (l : List UInt8) : rdN (c :: l) = rdN l * 256 + c.toNat := rfl

/-- One round of the number's loop: what was read, shifted, and the next byte. -/
theorem or8 (x y : Nat) (hx : x < 72057594037927936) (hy : y < 256) : bits BinOp.or IntKind.u64 (IntKind.u64.wrap ((x : Int) * 256)) (IntKind.u64.wrap (y : Int)) = ((x * 256 + y : Nat) : Int) := by
  rw [u64_wrap, u64_wrap]
  have := bits_join .u64 64 (by decide) (fun n h0 h1 => by rw [u64_wrap]; omega) 8 ((x : Int) * 256 % 18446744073709551616) ((y : Int) % 18446744073709551616) (by omega) (by omega) (by omega) (by omega) (by omega) (by omega)
  rw [this]
  omega

theorem rdN_step {l : List UInt8} {k : Nat} (hl : l.length = 8) (hk : k < 8) :
    bits BinOp.or IntKind.u64 (IntKind.u64.wrap ((rdN (l.drop (k + 1)) : Int) * 256)) (IntKind.u64.wrap ((l[k]?.getD 0).toNat : Int)) = (rdN (l.drop k) : Int) := by
  have h1 : _ < 72057594037927936 := rdN_drop_lt (l := l) (k + 1) 7 (by omega)
  have h2 := (l[k]?.getD 0).toNat_lt
  rw [or8 _ _ h1 (by omega), drop_cons (show k < l.length by omega), rdN_cons, List.getElem?_eq_getElem (show k < l.length by omega)]
  rfl

theorem leN_snoc (k n : Nat) : leN (k + 1) n = leN k n ++ [UInt8.ofNat (n / 256 ^ k)] := by
  induction k generalizing n with
  | zero => simp [leN]
  | succ k ih =>
    rw [leN, ih, leN, List.cons_append, Nat.div_div_eq_div_mul, Nat.pow_succ, Nat.mul_comm (256 ^ k) 256]

/-- A text's bytes. -/
def sl (s : ByteArray) : List UInt8 := s.data.toList
theorem sl_length (s : ByteArray) : (sl s).length = s.size := by simp [sl]
theorem sl_get (s : ByteArray) (k : Nat) (h : k < s.size) : s[k] = (sl s)[k]'(by rw [sl_length]; exact h) := rfl
theorem sl_mk (l : List UInt8) : sl ⟨l.toArray⟩ = l := by simp [sl]
theorem sl_inj {s t : ByteArray} (h : sl s = sl t) : s = t := by
  cases s with | mk a => cases t with | mk b => simp [sl] at h; rw [h]

theorem sumN_stepS {s : ByteArray} {k : Nat} (h : k < s.size) :
    IntKind.u64.wrap (IntKind.u64.wrap (131 * (sumN ((sl s).take k) : Int)) + IntKind.u64.wrap (s[k].toNat : Int)) = (sumN ((sl s).take (k + 1)) : Int) := by
  have := sumN_step (l := sl s) (k := k) (by rw [sl_length]; exact h)
  rw [← this, Int.mul_comm, sl_get]

/-- The first place at which two lists part. -/
def firstN : List UInt8 → List UInt8 → Option Nat
  | [], [] => none
  | a :: l, b :: m => if a = b then (firstN l m).map (· + 1) else some 0
  | _, _ => some 0

theorem firstN_take : ∀ (k : Nat) (a b : List UInt8), k ≤ a.length → k ≤ b.length → a.take k = b.take k → firstN a b = (firstN (a.drop k) (b.drop k)).map (· + k)
  | 0, a, b, _, _, _ => by simp
  | k + 1, [], b, h, _, _ => by simp at h
  | k + 1, a, [], _, h, _ => by simp at h
  | k + 1, x :: a, y :: b, ha, hb, h => by
    simp only [List.take_succ_cons, List.cons.injEq] at h
    obtain ⟨rfl, h⟩ := h
    have ih := firstN_take k a b (by simpa using ha) (by simpa using hb) h
    simp only [firstN, if_true, List.drop_succ_cons, ih, Option.map_map]
    rfl

theorem firstN_part {a b : List UInt8} {k : Nat} (ha : k < a.length) (hb : k < b.length) (h : a.take k = b.take k) (hne : a[k] ≠ b[k]) : firstN a b = some k := by
  rw [firstN_take k a b (by omega) (by omega) h, drop_cons ha, drop_cons hb]
  simp [firstN, hne]

theorem firstN_end {a b : List UInt8} {k : Nat} (ha : k ≤ a.length) (hb : k ≤ b.length) (h : a.take k = b.take k) (he : k = a.length ∨ k = b.length) :
    firstN a b = if a.length = b.length then none else some (min a.length b.length) := by
  rw [firstN_take k a b (by omega) (by omega) h]
  by_cases hab : a.length = b.length
  · rw [if_pos hab, List.drop_of_length_le (by omega), List.drop_of_length_le (by omega)]
    rfl
  · rw [if_neg hab]
    rcases he with rfl | rfl
    · rw [List.drop_of_length_le (Nat.le_refl _), drop_cons (show a.length < b.length by omega), Nat.min_eq_left (by omega)]
      simp [firstN]
    · rw [List.drop_of_length_le (l := b) (Nat.le_refl _), drop_cons (show b.length < a.length by omega), Nat.min_eq_right (by omega)]
      simp [firstN]

theorem firstN_self (a : List UInt8) : firstN a a = none := by
  induction a with
  | nil => rfl
  | cons x a ih => simp [firstN, ih]

theorem firstN_none : ∀ {a b : List UInt8}, firstN a b = none → a = b
  | [], [], _ => rfl
  | [], _ :: _, h => by simp [firstN] at h
  | _ :: _, [], h => by simp [firstN] at h
  | x :: a, y :: b, h => by
    by_cases e : x = y
    · simp only [firstN, if_pos e, Option.map_eq_none_iff] at h
      rw [e, firstN_none h]
    · simp [firstN, e] at h

theorem firstN_comm : ∀ (a b : List UInt8), firstN a b = firstN b a
  | [], [] => rfl
  | [], _ :: _ => rfl
  | _ :: _, [] => rfl
  | x :: a, y :: b => by
    simp only [firstN, firstN_comm a b, eq_comm]

theorem firstN_lt : ∀ {a b : List UInt8} {k : Nat}, firstN a b = some k → k ≤ min a.length b.length
  | [], [], k, h => by simp [firstN] at h
  | [], _ :: _, k, h => by simp [firstN] at h; omega
  | _ :: _, [], k, h => by simp [firstN] at h; omega
  | x :: a, y :: b, k, h => by
    by_cases e : x = y
    · simp only [firstN, if_pos e, Option.map_eq_some_iff] at h
      obtain ⟨j, hj, rfl⟩ := h
      have := firstN_lt hj
      simp only [List.length_cons]; omega
    · simp [firstN, e] at h; omega

theorem take_step {a b : List UInt8} {k : Nat} (ha : k < a.length) (hb : k < b.length) (h : a.take k = b.take k) (he : a[k] = b[k]) : a.take (k + 1) = b.take (k + 1) := by
  rw [take_snoc ha, take_snoc hb, h, he]

def u64N (h : Int) : Nat := (h % 18446744073709551616).toNat
theorem u64N_lt (h : Int) : u64N h < 18446744073709551616 := by unfold u64N; omega
theorem u64_wrapN (h : Int) : IntKind.u64.wrap h = (u64N h : Int) := by rw [u64_wrap]; unfold u64N; omega

theorem sl_append (a b : ByteArray) : sl (a ++ b) = sl a ++ sl b := by simp [sl]

/-- A number of eight bytes, as a text. -/
def numS (n : Nat) : ByteArray := ⟨(leN 8 n).toArray⟩
theorem numS_size (n : Nat) : (numS n).size = 8 := by
  show (leN 8 n).toArray.size = 8
  simp [leN_length]
theorem numS_sl (n : Nat) : (numS n).data.toList = leN 8 n := by simp [numS]

/-- The mark and the numbers ahead of the texts. -/
def headB (ns : List Int) : List UInt8 := [80, 82, 83, 49] ++ ns.flatMap fun n => leN 8 (u64N n)

theorem headB_step (ns : List Int) (k : Nat) (hk : k < ns.length) : headB (ns.take k) ++ leN 8 (u64N (ns.getD k 0)) = headB (ns.take (k + 1)) := by
  unfold headB
  rw [List.take_succ_eq_append_getElem hk, List.flatMap_append, List.append_assoc]
  simp [hk]

theorem u64N_nat (n : Nat) (h : n < 18446744073709551616) : u64N (n : Int) = n := by unfold u64N; omega

def bodyB (s d r : ByteArray) (h l : Int) : List UInt8 := headB [(s.size : Int), d.size, r.size, h, l] ++ (sl s ++ (sl d ++ sl r))
def printB (s d r : ByteArray) (h l : Int) : List UInt8 := bodyB s d r h l ++ leN 8 (sumN (bodyB s d r h l))
def fitI (a b c : Int) : Bool := decide (a ≤ 65536) && (decide (b ≤ 4096) && decide (c ≤ 4096))
theorem fitI_iff {a b c : Int} : fitI a b c = true ↔ a ≤ 65536 ∧ b ≤ 4096 ∧ c ≤ 4096 := by simp [fitI]

theorem sl_numS (n : Nat) : sl (numS n) = leN 8 n := numS_sl n

theorem bodyT_eq {s d r T : ByteArray} {h l : Int} (b1 : s.size < 18446744073709551616) (b2 : d.size < 18446744073709551616) (b3 : r.size < 18446744073709551616)
    (hT : T = ({ data := #[80, 82, 83, 49] } : ByteArray) ++ numS s.size ++ numS d.size ++ numS r.size ++ numS (u64N h) ++ numS (u64N l) ++ s ++ d ++ r) : sl T = bodyB s d r h l := by
  rw [hT]
  simp only [sl_append, sl_numS, bodyB, headB, List.flatMap_cons, List.flatMap_nil, u64N_nat _ b1, u64N_nat _ b2, u64N_nat _ b3, List.append_assoc, List.append_nil]
  rfl

/-- The numbers that bytes of a state begin with. -/
def numAt (l : List UInt8) (i : Nat) : Nat := rdN ((l.drop (4 + 8 * i)).take 8)
theorem numAt_lt (l : List UInt8) (i : Nat) : numAt l i < 18446744073709551616 := by
  have := rdN_lt ((l.drop (4 + 8 * i)).take 8)
  have h2 : ((l.drop (4 + 8 * i)).take 8).length ≤ 8 := by simp; omega
  exact Nat.lt_of_lt_of_le this (Nat.pow_le_pow_right (by omega) h2)

/-- Are these the bytes of a state? -/
def okL (l : List UInt8) : Bool :=
  decide (52 ≤ l.length) && decide (l.take 4 = [80, 82, 83, 49]) && fitI (numAt l 0) (numAt l 1) (numAt l 2) && decide (l.length = 52 + numAt l 0 + numAt l 1 + numAt l 2) &&
    decide (rdN (l.drop (l.length - 8)) = sumN (l.take (l.length - 8)))
def mkS (l : List UInt8) : ByteArray := ⟨l.toArray⟩
theorem sl_mkS (l : List UInt8) : sl (mkS l) = l := sl_mk l
theorem mkS_sl (s : ByteArray) : mkS (sl s) = s := sl_inj (sl_mkS _)
def part0 (l : List UInt8) : List UInt8 := (l.drop 44).take (numAt l 0)
def part1 (l : List UInt8) : List UInt8 := (l.drop (44 + numAt l 0)).take (numAt l 1)
def part2 (l : List UInt8) : List UInt8 := (l.drop (44 + numAt l 0 + numAt l 1)).take (numAt l 2)
/-- The state that bytes are of (that of nothing, if they are of none). -/
def parseA (l : List UInt8) : Value :=
  if okL l then .agg #[.string (mkS (part0 l)), .string (mkS (part1 l)), .string (mkS (part2 l)), .int .i64 (IntKind.i64.wrap (numAt l 3)), .int .i64 (IntKind.i64.wrap (numAt l 4))]
  else .agg #[.string ⟨#[]⟩, .string ⟨#[]⟩, .string ⟨#[]⟩, .int .i64 0, .int .i64 0]

theorem extract_mkS (s : ByteArray) (a b : Nat) : s.extract a b = mkS (((sl s).drop a).take (b - a)) := by
  apply sl_inj
  rw [sl_mkS]
  simp [sl, ByteArray.data_extract, List.extract_eq_take_drop]

theorem part_eq (l : List UInt8) (b a n k m : Nat) (h : a + n ≤ m) (hk : k = n) : ((((l.drop b).take m).drop a).take k) = (l.drop (b + a)).take n := by
  subst hk
  rw [List.drop_take, List.take_take, List.drop_drop, Nat.min_eq_left (by omega)]

/-- The region and the place at which texts part. -/
def diffV : List ByteArray → List ByteArray → Int → Int × Int
  | s :: l, t :: m, i => match firstN (sl s) (sl t) with
    | some k => (3 + i, (k : Int))
    | none => diffV l m (i + 1)
  | _, _, _ => (0, 0)

theorem diffV_same {L M : List ByteArray} {k : Nat} {s t : ByteArray} (hs : L[k]? = some s) (ht : M[k]? = some t) (h : firstN (sl s) (sl t) = none) :
    diffV (L.drop k) (M.drop k) k = diffV (L.drop (k + 1)) (M.drop (k + 1)) ((k + 1 : Nat) : Int) := by
  obtain ⟨h1, rfl⟩ := List.getElem?_eq_some_iff.1 hs
  obtain ⟨h2, rfl⟩ := List.getElem?_eq_some_iff.1 ht
  rw [List.drop_eq_getElem_cons h1, List.drop_eq_getElem_cons h2, diffV, h]
  simp only
  rw [show ((k : Int) + 1) = ((k + 1 : Nat) : Int) by omega]

theorem diffV_part {L M : List ByteArray} {k j : Nat} {s t : ByteArray} (hs : L[k]? = some s) (ht : M[k]? = some t) (h : firstN (sl s) (sl t) = some j) :
    diffV (L.drop k) (M.drop k) k = (3 + (k : Int), (j : Int)) := by
  obtain ⟨h1, rfl⟩ := List.getElem?_eq_some_iff.1 hs
  obtain ⟨h2, rfl⟩ := List.getElem?_eq_some_iff.1 ht
  rw [List.drop_eq_getElem_cons h1, List.drop_eq_getElem_cons h2, diffV, h]

theorem sl_beq (s t : ByteArray) : (s.toList == t.toList) = (firstN (sl s) (sl t)).isNone := by
  rw [ByteArray.toList_eq, ByteArray.toList_eq, Bool.eq_iff_iff, beq_iff_eq, Option.isNone_iff_eq_none]
  constructor
  · intro h; rw [show sl s = sl t from h]; exact firstN_self _
  · intro h; exact firstN_none h

theorem firstN_some : ∀ {a b : List UInt8} {k : Nat}, firstN a b = some k → a.take k = b.take k ∧ k ≤ a.length ∧ k ≤ b.length ∧ ∀ (h1 : k < a.length) (h2 : k < b.length), a[k] ≠ b[k]
  | [], [], k, h => by simp [firstN] at h
  | [], _ :: _, k, h => by simp [firstN] at h; subst h; simp
  | _ :: _, [], k, h => by simp [firstN] at h; subst h; simp
  | x :: a, y :: b, k, h => by
    by_cases e : x = y
    · simp only [firstN, if_pos e, Option.map_eq_some_iff] at h
      obtain ⟨j, hj, rfl⟩ := h
      obtain ⟨h1, h2, h3, h4⟩ := firstN_some hj
      refine ⟨by simp [e, h1], by simp; omega, by simp; omega, fun g1 g2 => ?_⟩
      simp only [List.getElem_cons_succ]
      exact h4 _ _
    · simp [firstN, e] at h
      subst h
      simpa using e

theorem diffV_comm : ∀ (L M : List ByteArray) (i : Int), diffV L M i = diffV M L i
  | [], [], _ => rfl
  | [], _ :: _, _ => rfl
  | _ :: _, [], _ => rfl
  | s :: l, t :: m, i => by
    simp only [diffV, firstN_comm (sl s) (sl t)]
    cases firstN (sl t) (sl s) with
    | none => exact diffV_comm l m (i + 1)
    | some k => rfl

end Go.Proofs.YthaldkmjjpepjaaDoor
