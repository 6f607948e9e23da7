/- Records over texts, in plain Lean. -/
import Derived.Test.YtggkhcdilbdifaaOwn11
import Derived.Test.YtggkhcdilbdifaaRpl
namespace Go.Proofs.Ytggkhcdilbdifaa.Ow
open Go Go.Proofs.Ytggkhcdilbdifaa.Rec
set_option linter.unusedVariables false
def bl (s : ByteArray) : List UInt8 := s.data.toList
def bo (l : List UInt8) : ByteArray := ⟨l.toArray⟩
theorem bl_size (s : ByteArray) : s.size = (bl s).length := by simp [bl]
theorem bl_append (a b : ByteArray) : bl (a ++ b) = bl a ++ bl b := by simp [bl]
theorem bl_bo (l : List UInt8) : bl (bo l) = l := by simp [bl, bo]
theorem bl_extract (s : ByteArray) (i j : Nat) : bl (s.extract i j) = ((bl s).take j).drop i := by simp [bl, List.drop_take]
theorem bl_inj {a b : ByteArray} (h : bl a = bl b) : a = b := ByteArray.ext (Array.toList_inj.1 h)
theorem bo_bl (s : ByteArray) : bo (bl s) = s := bl_inj (bl_bo _)
theorem bl_strOfNums (xs : List Int) : bl (strOfNums xs) = xs.map fun n => UInt8.ofNat n.toNat := by simp [bl, strOfNums]
theorem bo_append (a b : List UInt8) : bo (a ++ b) = bo a ++ bo b := bl_inj (by rw [bl_append, bl_bo, bl_bo, bl_bo])
theorem bl_nil : bl ⟨#[]⟩ = [] := rfl
theorem bo_nil : bo [] = ⟨#[]⟩ := rfl
theorem bo_size (l : List UInt8) : (bo l).size = l.length := by rw [bl_size, bl_bo]
theorem byte_at {s : ByteArray} {j : Nat} {x : UInt8} (h : (bl s)[j]? = some x) : ((s.data.toList.getD j 0).toNat : Int) = (x.toNat : Int) := by
  have : s.data.toList.getD j 0 = x := by rw [List.getD_eq_getElem?_getD]; show ((bl s)[j]?).getD 0 = x; rw [h]; rfl
  rw [this]
theorem byte_lt {s : ByteArray} {j : Nat} {x : UInt8} (h : (bl s)[j]? = some x) : j < s.size := by rw [bl_size]; exact (List.getElem?_eq_some_iff.1 h).1
def cit : Nat → Nat → Nat
  | 0, c => c
  | k + 1, c => cstep (cit k c)
theorem cit_lt {c : Nat} (h : c < 4294967296) : ∀ k, cit k c < 4294967296
  | 0 => h
  | k + 1 => cstep_lt (cit_lt h k)
theorem cit4 (c : Nat) : cit 4 c = chalf c := rfl
theorem cit8 (c : Nat) : cit 8 c = chalf (chalf c) := rfl
theorem cstep_odd {c : Nat} (h : c % 2 = 1) : cstep c = (c / 2) ^^^ 3988292384 := if_pos h
theorem cstep_even {c : Nat} (h : ¬ c % 2 = 1) : cstep c = c / 2 := if_neg h
theorem creg_take {l : List UInt8} {k : Nat} {x : UInt8} (h : l[k]? = some x) (c : Nat) : creg c (l.take (k + 1)) = cbyte (creg c (l.take k)) x := by
  rw [List.take_add_one, h, Option.toList_some, creg_append]
  rfl
def fourB (n : Nat) : ByteArray := bo (four n)
theorem fourB_size (n : Nat) : (fourB n).size = 4 := rfl
theorem fourB_nums (n : Nat) : strOfNums [((n % 256 : Nat) : Int), ((n / 256 % 256 : Nat) : Int), ((n / 65536 % 256 : Nat) : Int), ((n / 16777216 % 256 : Nat) : Int)] = fourB n := by
  apply bl_inj
  rw [bl_strOfNums, fourB, bl_bo]
  have e : ∀ n : Nat, UInt8.ofNat (n % 256) = UInt8.ofNat n := fun n => by apply UInt8.toNat_inj.1; simp
  simp only [List.map_cons, List.map_nil, Int.toNat_natCast, e, four]
def sumB (s : ByteArray) : Nat := crcL (bl s)
def recB (b : ByteArray) : ByteArray := bo (recL (bl b))
theorem recB_size (b : ByteArray) : (recB b).size = b.size + 9 := by rw [recB, bo_size, recL_length, bl_size]
def headB (b : ByteArray) : ByteArray := ⟨#[82]⟩ ++ fourB b.size ++ b
theorem recB_eq (b : ByteArray) : headB b ++ fourB (sumB (headB b)) = recB b := by
  have h : bl (headB b) = headL (bl b) := by
    rw [headB, bl_append, bl_append, fourB, bl_bo, bl_size]
    rfl
  apply bl_inj
  rw [bl_append, fourB, bl_bo, sumB, h, recB, bl_bo]
  rfl
def putB (b : ByteArray) : ByteArray × Int := if 65536 < b.size then (⟨#[]⟩, 5) else (recB b, 0)
def takeB (s : ByteArray) : ByteArray × ByteArray × Int := (bo (takeL (bl s)).2.1, bo (takeL (bl s)).2.2, ((takeL (bl s)).1 : Int))
theorem takeB_empty : takeB ⟨#[]⟩ = (⟨#[]⟩, ⟨#[]⟩, 2) := rfl
theorem takeB_form {s : ByteArray} {x : UInt8} (h : (bl s)[0]? = some x) (hx : ¬ (x.toNat : Int) = 82) : takeB s = (⟨#[]⟩, ⟨#[]⟩, 3) := by
  have hx' : x ≠ 82 := by rintro rfl; exact hx rfl
  unfold takeB takeL
  cases e : bl s with
  | nil => rw [e] at h; cases h
  | cons y t =>
    rw [e] at h
    simp at h
    subst h
    simp [hx']
    rfl
theorem takeB_short {s : ByteArray} {x : UInt8} (h : (bl s)[0]? = some x) (hx : (x.toNat : Int) = 82) (hl : (s.size : Int) < 5) : takeB s = (⟨#[]⟩, ⟨#[]⟩, 2) := by
  have hx' : x = 82 := by apply UInt8.toNat_inj.1; have : (82 : UInt8).toNat = 82 := rfl; omega
  rw [bl_size] at hl
  unfold takeB takeL
  match e : bl s, h with
  | [y], h => simp at h; subst h hx'; rfl
  | [y, _], h => simp at h; subst h hx'; rfl
  | [y, _, _], h => simp at h; subst h hx'; rfl
  | [y, _, _, _], h => simp at h; subst h hx'; rfl
  | y :: a :: b :: c :: d :: r, h => rw [e] at hl; simp at hl; omega
/-- The parts of a text whose beginning is a record's. -/
theorem parts {s : ByteArray} {x : UInt8} (h : (bl s)[0]? = some x) (hx : (x.toNat : Int) = 82) (hl : ¬ (s.size : Int) < 5) : ∃ a b c d r, bl s = 82 :: a :: b :: c :: d :: r := by
  have hx' : x = 82 := by apply UInt8.toNat_inj.1; have : (82 : UInt8).toNat = 82 := rfl; omega
  rw [bl_size] at hl
  match e : bl s, h with
  | [], h => cases h
  | [y], h => rw [e] at hl; simp at hl
  | [y, _], h => rw [e] at hl; simp at hl
  | [y, _, _], h => rw [e] at hl; simp at hl
  | [y, _, _, _], h => rw [e] at hl; simp at hl
  | y :: a :: b :: c :: d :: r, h => simp at h; subst h hx'; exact ⟨a, b, c, d, r, rfl⟩
theorem num4_lt (a b c d : UInt8) : num4 a b c d < 4294967296 := by
  have ha := a.toNat_lt; have hb := b.toNat_lt; have hc := c.toNat_lt; have hd := d.toNat_lt
  unfold num4
  omega
theorem takeB_long {s : ByteArray} {a b c d : UInt8} {r : List UInt8} (h : bl s = 82 :: a :: b :: c :: d :: r) {n : Nat} (hn : n = num4 a b c d) :
    takeB s = if 65536 < n then (⟨#[]⟩, ⟨#[]⟩, 3) else if s.size < n + 9 then (⟨#[]⟩, ⟨#[]⟩, 2) else
      if fourB (sumB (s.extract 0 (5 + n))) = s.extract (5 + n) (5 + n + 4) then (s.extract 5 (5 + n), s.extract (5 + n + 4) s.size, 0) else (⟨#[]⟩, ⟨#[]⟩, 4) := by
  have hs : s.size = r.length + 5 := by rw [bl_size, h]; rfl
  unfold takeB
  rw [h, takeL_long, ← hn]
  by_cases h1 : n > 65536
  · rw [if_pos h1, if_pos h1]; rfl
  rw [if_neg h1, if_neg h1]
  by_cases h2 : s.size < n + 9
  · rw [if_pos h2, if_pos (by omega)]; rfl
  rw [if_neg h2, if_neg (by omega)]
  have e1 : bl (s.extract 0 (5 + n)) = 82 :: a :: b :: c :: d :: r.take n := by
    rw [bl_extract, h, List.drop_zero, show 5 + n = n + 5 by omega]; rfl
  have e2 : bl (s.extract (5 + n) (5 + n + 4)) = (r.drop n).take 4 := by
    rw [bl_extract, h, show 5 + n + 4 = n + 4 + 5 by omega, show 5 + n = n + 5 by omega]
    show ((r.take (n + 4)).drop n) = _
    rw [List.drop_take]
    congr 1
    omega
  have e3 : bl (s.extract 5 (5 + n)) = r.take n := by
    rw [bl_extract, h, show 5 + n = n + 5 by omega]; rfl
  have e4 : bl (s.extract (5 + n + 4) s.size) = r.drop (n + 4) := by
    rw [bl_extract, List.take_of_length_le (by rw [bl_size]; omega), h, show 5 + n + 4 = n + 4 + 5 by omega]; rfl
  have e5 : (fourB (sumB (s.extract 0 (5 + n))) = s.extract (5 + n) (5 + n + 4)) = (four (crcL (82 :: a :: b :: c :: d :: r.take n)) = (r.drop n).take 4) := by
    apply propext
    constructor
    · intro he
      have := congrArg bl he
      rw [fourB, bl_bo, sumB, e1, e2] at this
      exact this
    · intro he
      apply bl_inj
      rw [fourB, bl_bo, sumB, e1, e2]
      exact he
  by_cases h3 : four (crcL (82 :: a :: b :: c :: d :: r.take n)) = (r.drop n).take 4
  · rw [if_pos h3, if_pos (e5.mpr h3)]
    show (bo _, bo _, _) = _
    rw [← e3, ← e4, bo_bl, bo_bl]
    rfl
  · rw [if_neg h3, if_neg (fun h => h3 (e5.mp h))]; rfl
/-- The reference's test: is the record what is put of the body? -/
theorem put_test {s : ByteArray} {a b c d : UInt8} {r : List UInt8} (h : bl s = 82 :: a :: b :: c :: d :: r) {n : Nat} (hn : n = num4 a b c d) (h2 : ¬ s.size < n + 9) :
    (recB (s.extract 5 (5 + n)) = s.extract 0 (n + 9)) = (fourB (sumB (s.extract 0 (5 + n))) = s.extract (5 + n) (5 + n + 4)) := by
  have hs : s.size = r.length + 5 := by rw [bl_size, h]; rfl
  have e1 : bl (s.extract 0 (5 + n)) = 82 :: a :: b :: c :: d :: r.take n := by
    rw [bl_extract, h, List.drop_zero, show 5 + n = n + 5 by omega]; rfl
  have e2 : bl (s.extract (5 + n) (5 + n + 4)) = (r.drop n).take 4 := by
    rw [bl_extract, h, show 5 + n + 4 = n + 4 + 5 by omega, show 5 + n = n + 5 by omega]
    show ((r.take (n + 4)).drop n) = _
    rw [List.drop_take]
    congr 1
    omega
  have e3 : bl (s.extract 5 (5 + n)) = r.take n := by
    rw [bl_extract, h, show 5 + n = n + 5 by omega]; rfl
  have hl : (r.take n).length = n := by rw [List.length_take]; omega
  have hh : headL (r.take n) = 82 :: a :: b :: c :: d :: r.take n := by
    unfold headL
    rw [hl, hn, four_num4]
    rfl
  have e4 : bl (s.extract 0 (n + 9)) = 82 :: a :: b :: c :: d :: r.take n ++ (r.drop n).take 4 := by
    rw [bl_extract, h, List.drop_zero, show n + 9 = n + 4 + 5 by omega]
    show 82 :: a :: b :: c :: d :: r.take (n + 4) = _
    rw [List.take_add]
    rfl
  apply propext
  constructor
  · intro he
    have := congrArg bl he
    rw [recB, bl_bo, e3, e4, recL, hh] at this
    have := List.append_cancel_left this
    apply bl_inj
    rw [fourB, bl_bo, sumB, e1, e2]
    exact this
  · intro he
    have := congrArg bl he
    rw [fourB, bl_bo, sumB, e1, e2] at this
    apply bl_inj
    rw [recB, bl_bo, e3, e4, recL, hh, this]
def allB (s : ByteArray) : List ByteArray × ByteArray := ((allL (bl s)).1.map bo, bo (allL (bl s)).2)
theorem allB_ok {s : ByteArray} (h : (takeB s).2.2 = 0) : allB s = ((takeB s).1 :: (allB (takeB s).2.1).1, (allB (takeB s).2.1).2) ∧ (takeB s).2.1.size + 9 ≤ s.size ∧ (takeB s).1.size ≤ s.size := by
  have h0 : (takeL (bl s)).1 = 0 := by unfold takeB at h; simpa using h
  obtain ⟨b, r, e, hl, _⟩ := takeL_ok h0
  have hlen := takeL_rest_lt h0
  have hsz := congrArg List.length hl
  rw [List.length_append, recL_length] at hsz
  refine ⟨?_, ?_, ?_⟩
  · unfold allB takeB
    rw [allL_ok e, e, bl_bo]
    rfl
  · unfold takeB
    rw [bo_size, bl_size]
    exact hlen
  · unfold takeB
    rw [bo_size, bl_size, e]
    show b.length ≤ _
    omega
theorem allB_bad {s : ByteArray} (h : ¬ (takeB s).2.2 = 0) : allB s = ([], s) := by
  have h0 : (takeL (bl s)).1 ≠ 0 := by unfold takeB at h; simpa using h
  unfold allB
  rw [allL_bad h0, bo_bl]
  rfl
theorem allB_len (s : ByteArray) : (allB s).1.length ≤ s.size := by
  unfold allB
  rw [List.length_map, bl_size]
  exact (allL_size _ _ (Nat.le_refl _)).1
def encS (s : ByteArray) : List Value := [.string s]
theorem encS_ok : Enc encS 1 := ⟨fun _ => rfl, fun x v hv => by simp [encS] at hv; subst hv; rfl⟩
def totS (l : List ByteArray) : Nat := (l.map (·.size)).sum
def small4 (many bytes : Int) (l : List ByteArray) : Bool := decide ((l.length : Int) ≤ many) && decide ((totS l : Int) ≤ bytes)
theorem totS_take {l : List ByteArray} {k : Nat} {f : ByteArray} (h : l[k]? = some f) : totS (l.take (k + 1)) = totS (l.take k) + f.size := by
  rw [List.take_add_one, h]
  simp [totS]
theorem totS_le {l : List ByteArray} {k : Nat} {f : ByteArray} (h : l[k]? = some f) : totS (l.take k) + f.size ≤ totS l := by
  have e : totS l = totS (l.take (k + 1)) + totS (l.drop (k + 1)) := by
    conv => lhs; rw [← List.take_append_drop (k + 1) l]
    simp only [totS, List.map_append, List.sum_append]
  rw [← totS_take h]
  omega
/-- The number in four bytes, read from behind. -/
def numR (a b c d : UInt8) : Nat → Nat
  | 0 => a.toNat + 256 * (b.toNat + 256 * (c.toNat + 256 * d.toNat))
  | 1 => b.toNat + 256 * (c.toNat + 256 * d.toNat)
  | 2 => c.toNat + 256 * d.toNat
  | 3 => d.toNat
  | _ => 0
theorem numR_lt (a b c d : UInt8) (i : Nat) : numR a b c d i < 4294967296 := by
  have ha := a.toNat_lt; have hb := b.toNat_lt; have hc := c.toNat_lt; have hd := d.toNat_lt
  match i with
  | 0 => simp only [numR]; omega
  | 1 => simp only [numR]; omega
  | 2 => simp only [numR]; omega
  | 3 => simp only [numR]; omega
  | _ + 4 => simp only [numR]; omega
theorem numR_zero (a b c d : UInt8) : numR a b c d 0 = num4 a b c d := by simp only [numR, num4]; omega
theorem numR_byte {s : ByteArray} {a b c d : UInt8} {r : List UInt8} (h : bl s = 82 :: a :: b :: c :: d :: r) (i : Nat) : ∃ y, ((bl s)[i]? = some y ∧ (0 < i → numR a b c d (i - 1) = 256 * numR a b c d i + y.toNat)) ∨ 4 < i := by
  match i with
  | 0 => exact ⟨82, .inl ⟨by rw [h]; rfl, fun h => absurd h (by omega)⟩⟩
  | 1 => exact ⟨a, .inl ⟨by rw [h]; rfl, fun _ => by simp only [numR]; omega⟩⟩
  | 2 => exact ⟨b, .inl ⟨by rw [h]; rfl, fun _ => by simp only [numR]; omega⟩⟩
  | 3 => exact ⟨c, .inl ⟨by rw [h]; rfl, fun _ => by simp only [numR]; omega⟩⟩
  | 4 => exact ⟨d, .inl ⟨by rw [h]; rfl, fun _ => by simp only [numR]; omega⟩⟩
  | _ + 5 => exact ⟨0, .inr (by omega)⟩
theorem list_eq {l m : List ByteArray} (hl : l.length = m.length) (h : ∀ p x y, p < l.length → l[p]? = some x → m[p]? = some y → x = y) : l = m := by
  apply List.ext_getElem hl
  intro i h1 h2
  exact h i _ _ h1 (List.getElem?_eq_getElem h1) (List.getElem?_eq_getElem h2)
end Go.Proofs.Ytggkhcdilbdifaa.Ow
