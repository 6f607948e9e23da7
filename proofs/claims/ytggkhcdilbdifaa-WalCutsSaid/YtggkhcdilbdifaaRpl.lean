/- Plain laws of records: no Go here. -/
namespace Go.Proofs.Ytggkhcdilbdifaa.Rec

/-- One bit of the checksum. -/
def cstep (c : Nat) : Nat := if c % 2 = 1 then (c / 2) ^^^ 3988292384 else c / 2
def chalf (c : Nat) : Nat := cstep (cstep (cstep (cstep c)))
def cbyte (c : Nat) (b : UInt8) : Nat := chalf (chalf (c ^^^ b.toNat))
def creg (c : Nat) (l : List UInt8) : Nat := l.foldl cbyte c
def crcL (l : List UInt8) : Nat := 4294967295 - creg 4294967295 l

theorem cstep_lt {c : Nat} (h : c < 4294967296) : cstep c < 4294967296 := by
  unfold cstep
  split
  · exact Nat.xor_lt_two_pow (n := 32) (by omega) (by omega)
  · omega
theorem chalf_lt {c : Nat} (h : c < 4294967296) : chalf c < 4294967296 := cstep_lt (cstep_lt (cstep_lt (cstep_lt h)))
theorem xor_byte_lt {c : Nat} (h : c < 4294967296) (b : UInt8) : c ^^^ b.toNat < 4294967296 :=
  Nat.xor_lt_two_pow (n := 32) h (by have := b.toNat_lt; omega)
theorem cbyte_lt {c : Nat} (h : c < 4294967296) (b : UInt8) : cbyte c b < 4294967296 := chalf_lt (chalf_lt (xor_byte_lt h b))
theorem creg_lt : ∀ (l : List UInt8) {c : Nat}, c < 4294967296 → creg c l < 4294967296
  | [], _, h => h
  | b :: r, _, h => creg_lt r (cbyte_lt h b)
theorem creg_append (c : Nat) (l m : List UInt8) : creg c (l ++ m) = creg (creg c l) m := by simp [creg, List.foldl_append]
theorem creg_cons (c : Nat) (b : UInt8) (m : List UInt8) : creg c (b :: m) = creg (cbyte c b) m := rfl
theorem crcL_lt (l : List UInt8) : crcL l < 4294967296 := by unfold crcL; omega

theorem xor_cancel {a b c : Nat} (h : a ^^^ c = b ^^^ c) : a = b := by
  have := congrArg (· ^^^ c) h
  simpa [Nat.xor_assoc] using this
theorem xor_cancel_left {a b c : Nat} (h : c ^^^ a = c ^^^ b) : a = b := by
  rw [Nat.xor_comm c a, Nat.xor_comm c b] at h
  exact xor_cancel h
theorem poly_top {a b : Nat} (ha : a < 2147483648) (hb : b < 2147483648) : a ^^^ 3988292384 ≠ b := by
  intro h
  have h2 : 3988292384 = a ^^^ b := by rw [← h, ← Nat.xor_assoc]; simp
  have h3 : a ^^^ b < 2147483648 := Nat.xor_lt_two_pow (n := 31) ha hb
  omega
theorem cstep_inj {c d : Nat} (hc : c < 4294967296) (hd : d < 4294967296) (h : cstep c = cstep d) : c = d := by
  unfold cstep at h
  by_cases p : c % 2 = 1 <;> by_cases q : d % 2 = 1
  · rw [if_pos p, if_pos q] at h
    have := xor_cancel h
    omega
  · rw [if_pos p, if_neg q] at h
    exact absurd h (poly_top (by omega) (by omega))
  · rw [if_neg p, if_pos q] at h
    exact absurd h.symm (poly_top (by omega) (by omega))
  · rw [if_neg p, if_neg q] at h
    omega
theorem chalf_inj {c d : Nat} (hc : c < 4294967296) (hd : d < 4294967296) (h : chalf c = chalf d) : c = d :=
  cstep_inj hc hd (cstep_inj (cstep_lt hc) (cstep_lt hd) (cstep_inj (cstep_lt (cstep_lt hc)) (cstep_lt (cstep_lt hd)) (cstep_inj (cstep_lt (cstep_lt (cstep_lt hc))) (cstep_lt (cstep_lt (cstep_lt hd))) h)))
theorem cbyte_inj {c d : Nat} (hc : c < 4294967296) (hd : d < 4294967296) (b : UInt8) (h : cbyte c b = cbyte d b) : c = d :=
  xor_cancel (chalf_inj (xor_byte_lt hc b) (xor_byte_lt hd b) (chalf_inj (chalf_lt (xor_byte_lt hc b)) (chalf_lt (xor_byte_lt hd b)) h))
theorem cbyte_inj_byte {c : Nat} (hc : c < 4294967296) (a b : UInt8) (h : cbyte c a = cbyte c b) : a = b :=
  UInt8.toNat_inj.1 (xor_cancel_left (chalf_inj (xor_byte_lt hc a) (xor_byte_lt hc b) (chalf_inj (chalf_lt (xor_byte_lt hc a)) (chalf_lt (xor_byte_lt hc b)) h)))
theorem creg_inj : ∀ (l : List UInt8) {c d : Nat}, c < 4294967296 → d < 4294967296 → creg c l = creg d l → c = d
  | [], _, _, _, _, h => h
  | b :: r, _, _, hc, hd, h => cbyte_inj hc hd b (creg_inj r (cbyte_lt hc b) (cbyte_lt hd b) h)
/-- One byte turned: another checksum. -/
theorem crc_turned (p q : List UInt8) (x y : UInt8) (h : crcL (p ++ x :: q) = crcL (p ++ y :: q)) : x = y := by
  have hp := creg_lt p (c := 4294967295) (by omega)
  have h1 := creg_lt (p ++ x :: q) (c := 4294967295) (by omega)
  have h2 := creg_lt (p ++ y :: q) (c := 4294967295) (by omega)
  have e : creg 4294967295 (p ++ x :: q) = creg 4294967295 (p ++ y :: q) := by unfold crcL at h; omega
  rw [creg_append, creg_append, creg_cons, creg_cons] at e
  exact cbyte_inj_byte hp x y (creg_inj q (cbyte_lt hp x) (cbyte_lt hp y) e)

/-- A number in four bytes. -/
def four (n : Nat) : List UInt8 := [UInt8.ofNat n, UInt8.ofNat (n / 256), UInt8.ofNat (n / 65536), UInt8.ofNat (n / 16777216)]
def num4 (a b c d : UInt8) : Nat := a.toNat + 256 * b.toNat + 65536 * c.toNat + 16777216 * d.toNat
theorem four_length (n : Nat) : (four n).length = 4 := rfl
theorem four_num4 (a b c d : UInt8) : four (num4 a b c d) = [a, b, c, d] := by
  have ha := a.toNat_lt; have hb := b.toNat_lt; have hc := c.toNat_lt; have hd := d.toNat_lt
  unfold four num4
  have e0 : UInt8.ofNat (a.toNat + 256 * b.toNat + 65536 * c.toNat + 16777216 * d.toNat) = a := by apply UInt8.toNat_inj.1; simp only [UInt8.toNat_ofNat']; omega
  have e1 : UInt8.ofNat ((a.toNat + 256 * b.toNat + 65536 * c.toNat + 16777216 * d.toNat) / 256) = b := by apply UInt8.toNat_inj.1; simp; omega
  have e2 : UInt8.ofNat ((a.toNat + 256 * b.toNat + 65536 * c.toNat + 16777216 * d.toNat) / 65536) = c := by apply UInt8.toNat_inj.1; simp; omega
  have e3 : UInt8.ofNat ((a.toNat + 256 * b.toNat + 65536 * c.toNat + 16777216 * d.toNat) / 16777216) = d := by apply UInt8.toNat_inj.1; simp; omega
  rw [e0, e1, e2, e3]
theorem num4_four {n : Nat} (h : n < 4294967296) : num4 (UInt8.ofNat n) (UInt8.ofNat (n / 256)) (UInt8.ofNat (n / 65536)) (UInt8.ofNat (n / 16777216)) = n := by
  unfold num4
  simp
  omega
theorem four_inj {n m : Nat} (hn : n < 4294967296) (hm : m < 4294967296) (h : four n = four m) : n = m := by
  unfold four at h
  injection h with h0 h; injection h with h1 h; injection h with h2 h; injection h with h3 h
  rw [← num4_four hn, ← num4_four hm, h0, h1, h2, h3]

/-- What the checksum is of. -/
def headL (b : List UInt8) : List UInt8 := 82 :: (four b.length ++ b)
/-- A record. -/
def recL (b : List UInt8) : List UInt8 := headL b ++ four (crcL (headL b))
theorem recL_length (b : List UInt8) : (recL b).length = b.length + 9 := by simp [recL, headL, four_length]; omega

/-- Taking: the error's number, the body, the rest. -/
def takeL (l : List UInt8) : Nat × List UInt8 × List UInt8 :=
  match l with
  | [] => (2, [], [])
  | h :: t => if h ≠ 82 then (3, [], []) else
    match t with
    | a :: b :: c :: d :: r =>
      if num4 a b c d > 65536 then (3, [], []) else
      if r.length < num4 a b c d + 4 then (2, [], []) else
      if four (crcL (82 :: a :: b :: c :: d :: r.take (num4 a b c d))) = (r.drop (num4 a b c d)).take 4 then (0, r.take (num4 a b c d), r.drop (num4 a b c d + 4)) else (4, [], [])
    | _ => (2, [], [])

theorem takeL_long (a b c d : UInt8) (r : List UInt8) : takeL (82 :: a :: b :: c :: d :: r) =
      if num4 a b c d > 65536 then (3, [], []) else
      if r.length < num4 a b c d + 4 then (2, [], []) else
      if four (crcL (82 :: a :: b :: c :: d :: r.take (num4 a b c d))) = (r.drop (num4 a b c d)).take 4 then (0, r.take (num4 a b c d), r.drop (num4 a b c d + 4)) else (4, [], []) := by
  simp [takeL]

theorem takeL_recL (b r : List UInt8) (hb : b.length ≤ 65536) : takeL (recL b ++ r) = (0, b, r) := by
  have hn := num4_four (n := b.length) (by omega)
  have e : recL b ++ r = 82 :: UInt8.ofNat b.length :: UInt8.ofNat (b.length / 256) :: UInt8.ofNat (b.length / 65536) :: UInt8.ofNat (b.length / 16777216) :: (b ++ (four (crcL (headL b)) ++ r)) := by
    simp [recL, headL, four]
  rw [e, takeL_long, hn, if_neg (by omega), if_neg (by simp [four_length])]
  have h1 : (b ++ (four (crcL (headL b)) ++ r)).take b.length = b := by simp
  have h2 : ((b ++ (four (crcL (headL b)) ++ r)).drop b.length).take 4 = four (crcL (headL b)) := by simp [four]
  have h3 : (b ++ (four (crcL (headL b)) ++ r)).drop (b.length + 4) = r := by simp [four]
  rw [h1, h2, h3, if_pos]
  rfl
theorem takeL_ok {l : List UInt8} (h : (takeL l).1 = 0) : ∃ b r, takeL l = (0, b, r) ∧ l = recL b ++ r ∧ b.length ≤ 65536 := by
  match l, h with
  | [], h => simp [takeL] at h
  | [x], h => simp only [takeL] at h; split at h <;> simp at h
  | [x, _], h => simp only [takeL] at h; split at h <;> simp at h
  | [x, _, _], h => simp only [takeL] at h; split at h <;> simp at h
  | [x, _, _, _], h => simp only [takeL] at h; split at h <;> simp at h
  | x :: a :: b :: c :: d :: r, h =>
    by_cases hx : x = 82
    · subst hx
      rw [takeL_long] at h ⊢
      by_cases h1 : num4 a b c d > 65536
      · rw [if_pos h1] at h; simp at h
      by_cases h2 : r.length < num4 a b c d + 4
      · rw [if_neg h1, if_pos h2] at h; simp at h
      by_cases h3 : four (crcL (82 :: a :: b :: c :: d :: r.take (num4 a b c d))) = (r.drop (num4 a b c d)).take 4
      · rw [if_neg h1, if_neg h2, if_pos h3]
        refine ⟨_, _, rfl, ?_, by simp; omega⟩
        have hl : (r.take (num4 a b c d)).length = num4 a b c d := by simp; omega
        have hh : headL (r.take (num4 a b c d)) = 82 :: a :: b :: c :: d :: r.take (num4 a b c d) := by
          unfold headL
          rw [hl, four_num4]
          rfl
        unfold recL
        rw [hh, h3]
        have : r = r.take (num4 a b c d) ++ ((r.drop (num4 a b c d)).take 4 ++ r.drop (num4 a b c d + 4)) := by
          rw [← List.drop_drop, List.take_append_drop, List.take_append_drop]
        simpa using this
      · rw [if_neg h1, if_neg h2, if_neg h3] at h; simp at h
    · simp [takeL, hx] at h
theorem takeL_bad {l : List UInt8} (h : (takeL l).1 ≠ 0) : (takeL l).2 = ([], []) := by
  unfold takeL at h ⊢
  split
  · rfl
  · split
    · rfl
    · split
      · split
        · rfl
        · split
          · rfl
          · split
            · simp_all
            · rfl
      · rfl

/-- All: with so many rounds at the most. -/
def allF : Nat → List UInt8 → List (List UInt8) × List UInt8
  | 0, l => ([], l)
  | n + 1, l => if (takeL l).1 = 0 then ((takeL l).2.1 :: (allF n (takeL l).2.2).1, (allF n (takeL l).2.2).2) else ([], l)
def allL (l : List UInt8) : List (List UInt8) × List UInt8 := allF l.length l
theorem takeL_rest_lt {l : List UInt8} (h : (takeL l).1 = 0) : (takeL l).2.2.length + 9 ≤ l.length := by
  obtain ⟨b, r, e, hl, _⟩ := takeL_ok h
  rw [e]
  have := congrArg List.length hl
  rw [List.length_append, recL_length] at this
  show r.length + 9 ≤ l.length
  omega
theorem takeL_nil : takeL [] = (2, [], []) := rfl
theorem allF_more : ∀ (n m : Nat) (l : List UInt8), l.length ≤ n → l.length ≤ m → allF n l = allF m l
  | 0, 0, _, _, _ => rfl
  | 0, m + 1, l, h, _ => by
    have : l = [] := List.eq_nil_of_length_eq_zero (by omega)
    subst this
    simp [allF, takeL_nil]
  | n + 1, 0, l, _, h => by
    have : l = [] := List.eq_nil_of_length_eq_zero (by omega)
    subst this
    simp [allF, takeL_nil]
  | n + 1, m + 1, l, h, h' => by
    unfold allF
    by_cases h0 : (takeL l).1 = 0
    · have := takeL_rest_lt h0
      rw [if_pos h0, if_pos h0, allF_more n m _ (by omega) (by omega)]
    · rw [if_neg h0, if_neg h0]
theorem allL_ok {l b r : List UInt8} (h : takeL l = (0, b, r)) : allL l = (b :: (allL r).1, (allL r).2) := by
  have h0 : (takeL l).1 = 0 := by rw [h]
  have hlt := takeL_rest_lt h0
  rw [h] at hlt
  simp only at hlt
  unfold allL
  obtain ⟨n, hn⟩ : ∃ n, l.length = n + 1 := ⟨l.length - 1, by omega⟩
  rw [hn]
  show (if (takeL l).1 = 0 then _ else _) = _
  rw [if_pos h0, h]
  simp only
  rw [allF_more n r.length r (by omega) (Nat.le_refl _)]
theorem allL_bad {l : List UInt8} (h : (takeL l).1 ≠ 0) : allL l = ([], l) := by
  unfold allL
  cases hn : l.length with
  | zero => rfl
  | succ n =>
    show (if (takeL l).1 = 0 then _ else _) = _
    rw [if_neg h]
/-- How long what is told is. -/
theorem allL_size : ∀ (n : Nat) (l : List UInt8), l.length ≤ n → (allL l).1.length ≤ n ∧ (allL l).2.length ≤ l.length
  | n, l, h => by
    by_cases h0 : (takeL l).1 = 0
    · have hlt := takeL_rest_lt h0
      obtain ⟨b, r, e, _, _⟩ := takeL_ok h0
      rw [e] at hlt
      rw [allL_ok e]
      have := allL_size (n - 1) r (by simp only at hlt; omega)
      simp only [List.length_cons] at hlt ⊢
      omega
    · rw [allL_bad h0]
      simp
termination_by n => n
decreasing_by omega

/-- Records one behind the other. -/
def rowL (bs : List (List UInt8)) : List UInt8 := (bs.map recL).flatten
theorem rowL_cons (b : List UInt8) (bs : List (List UInt8)) : rowL (b :: bs) = recL b ++ rowL bs := by simp [rowL]
theorem rowL_snoc (b : List UInt8) (bs : List (List UInt8)) : rowL (bs ++ [b]) = rowL bs ++ recL b := by simp [rowL]
theorem allL_row (bs : List (List UInt8)) (hb : ∀ b ∈ bs, b.length ≤ 65536) (l : List UInt8) : allL (rowL bs ++ l) = (bs ++ (allL l).1, (allL l).2) := by
  induction bs with
  | nil => simp [rowL]
  | cons b bs ih =>
    have h1 : b.length ≤ 65536 := hb b (by simp)
    rw [rowL_cons, List.append_assoc, allL_ok (takeL_recL b _ h1), ih (fun x hx => hb x (by simp [hx]))]
    simp
/-- A beginning of a record that is not the whole: nothing is told. -/
theorem takeL_cut (b : List UInt8) (hb : b.length ≤ 65536) (n : Nat) (hn : n < b.length + 9) : (takeL ((recL b).take n)).1 ≠ 0 := by
  intro h
  obtain ⟨x, r, e, hl, hx⟩ := takeL_ok h
  have h1 : recL b = recL x ++ (r ++ (recL b).drop n) := by rw [← List.append_assoc, ← hl, List.take_append_drop]
  have h2 := takeL_recL b [] hb
  rw [List.append_nil, h1, takeL_recL x _ hx] at h2
  simp only [Prod.mk.injEq, true_and] at h2
  have h3 := congrArg List.length hl
  have h4 := congrArg List.length h2.2
  rw [List.length_take, List.length_append, recL_length] at h3
  rw [h2.1] at h3
  rw [recL_length] at h3
  omega
/-- No record begins with another body's. -/
theorem recL_apart {a b r : List UInt8} (ha : a.length ≤ 65536) (hb : b.length ≤ 65536) (h : recL b = recL a ++ r) : a = b := by
  have h2 := takeL_recL b [] hb
  rw [List.append_nil, h, takeL_recL a _ ha] at h2
  simp only [Prod.mk.injEq, true_and] at h2
  exact h2.1
/-- One byte of a record turned: nothing is told, but where the length stands. -/
theorem takeL_turned (b more : List UInt8) (hb : b.length ≤ 65536) (at_ : Nat) (y : UInt8) (hlt : at_ < b.length + 9) (hat : at_ = 0 ∨ 5 ≤ at_)
    (hy : (recL b)[at_]? ≠ some y) : (takeL ((recL b).set at_ y ++ more)).1 ≠ 0 := by
  intro h
  have hn := num4_four (n := b.length) (by omega)
  have e : recL b = 82 :: UInt8.ofNat b.length :: UInt8.ofNat (b.length / 256) :: UInt8.ofNat (b.length / 65536) :: UInt8.ofNat (b.length / 16777216) :: (b ++ four (crcL (headL b))) := by
    simp [recL, headL, four]
  rcases hat with rfl | h5
  · rw [e] at h hy
    have : ¬ y = 82 := fun hh => hy (by simp [hh])
    simp [takeL, this] at h
  · obtain ⟨j, rfl⟩ : ∃ j, at_ = j + 5 := ⟨at_ - 5, by omega⟩
    rw [e] at h hy
    simp only [List.set_cons_succ, List.cons_append] at h
    simp only [List.getElem?_cons_succ] at hy
    rw [takeL_long, hn, if_neg (by omega), if_neg (by simp [four_length])] at h
    by_cases hj : j < b.length
    · rw [List.set_append_left _ _ hj] at h
      have h1 : (b.set j y ++ four (crcL (headL b)) ++ more).take b.length = b.set j y := by
        rw [List.append_assoc, List.take_append_of_le_length (by simp), List.take_of_length_le (by simp)]
      have h2 : ((b.set j y ++ four (crcL (headL b)) ++ more).drop b.length).take 4 = four (crcL (headL b)) := by
        rw [List.append_assoc, List.drop_append_of_le_length (by simp), List.drop_of_length_le (by simp)]; simp [four]
      rw [h1, h2] at h
      split at h
      · rename_i hf
        have hc := four_inj (crcL_lt _) (crcL_lt _) hf
        have hb' : b = b.take j ++ b[j] :: b.drop (j + 1) := by rw [← List.drop_eq_getElem_cons hj, List.take_append_drop]
        have hs : b.set j y = b.take j ++ y :: b.drop (j + 1) := by rw [List.set_eq_take_append_cons_drop, if_pos hj]
        rw [hs] at hc
        have hh : headL b = (82 :: four b.length ++ b.take j) ++ b[j] :: b.drop (j + 1) := by
          unfold headL
          rw [List.append_assoc, ← hb']
          simp
        rw [hh] at hc
        have := crc_turned (82 :: four b.length ++ b.take j) (b.drop (j + 1)) y b[j] (by rw [← hc]; simp [four])
        apply hy
        rw [List.getElem?_append_left hj, List.getElem?_eq_getElem hj, this]
      · simp at h
    · rw [List.set_append_right _ _ (by omega)] at h
      have h1 : (b ++ (four (crcL (headL b))).set (j - b.length) y ++ more).take b.length = b := by simp
      have h2 : ((b ++ (four (crcL (headL b))).set (j - b.length) y ++ more).drop b.length).take 4 = (four (crcL (headL b))).set (j - b.length) y := by
        rw [List.append_assoc, List.drop_left, List.take_append_of_le_length (by simp [four_length]), List.take_of_length_le (by simp [four_length])]
      rw [h1, h2] at h
      split at h
      · rename_i hf
        apply hy
        rw [List.getElem?_append_right (by omega)]
        have hf' : four (crcL (headL b)) = (four (crcL (headL b))).set (j - b.length) y := hf
        rw [hf', List.getElem?_set_self (by simp [four_length]; omega)]
      · simp at h
end Go.Proofs.Ytggkhcdilbdifaa.Rec
