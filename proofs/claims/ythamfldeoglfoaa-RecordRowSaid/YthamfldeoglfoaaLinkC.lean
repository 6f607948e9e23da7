import Derived.Test.YthamfldeoglfoaaPRecx5
import Derived.Test.YthamfldeoglfoaaLinkB
namespace Go.Proofs.Ythamfldeoglfoaa.Pure
open Go.RowKit Go.Proofs.Ythamfldeoglfoaa.PRec Go.Proofs.YthamfldeoglfoaaW.PrintWords Go.Proofs.YthamfldeoglfoaaW.PrintLast Go.Proofs.Ythamfldeoglfoaa.Plain

theorem xor_i64 (a b : Nat) (ha : a < 4611686018427387904) (hb : b < 4611686018427387904) : Go.bits .xor .i64 (a : Int) (b : Int) = ((a ^^^ b : Nat) : Int) :=
  bits_xor .i64 62 (by decide) (fun n h0 h1 => by rw [IntKind.wrap_i64]; omega) a b ha hb
theorem tdiv_nat (a : Nat) (d : Nat) : Int.tdiv (a : Int) (d : Int) = ((a / d : Nat) : Int) := rfl
theorem tmod_nat (a : Nat) (d : Nat) : Int.tmod (a : Int) (d : Int) = ((a % d : Nat) : Int) := rfl

theorem rsum_step (k : Nat) (s : ByteArray) (c i : Nat) (x4 : Int) (hc : c < 4294967296) (hi : i < 8) : corollaryref04_Sum.l1 (k + 1) s (c : Int) x4 (i : Int) = corollaryref04_Sum.l1 k s (cstep c : Int) x4 ((i + 1 : Nat) : Int) := by
  have hm : Int.tmod (c : Int) 2 = ((c % 2 : Nat) : Int) := tmod_nat c 2
  have hd : Int.tdiv (c : Int) 2 = ((c / 2 : Nat) : Int) := tdiv_nat c 2
  simp only [corollaryref04_Sum.l1]
  rw [if_pos (by omega), hm, hd, w64 (n := (i : Int) + 1) (by omega) (by omega), w64 (n := ((c / 2 : Nat) : Int)) (by omega) (by omega)]
  unfold cstep
  by_cases h : c % 2 = 1
  · rw [if_pos (by omega), if_pos h]
    have x := xor_i64 (c / 2) 3988292384 (by omega) (by omega)
    have x' : Go.bits .xor .i64 ((c / 2 : Nat) : Int) 3988292384 = ((c / 2 ^^^ 3988292384 : Nat) : Int) := x
    rw [x']
    congr 1
  · rw [if_neg (by omega), if_neg h]
    congr 1
theorem rsum_byte (k : Nat) (s : ByteArray) (c : Nat) (x4 : Int) (hc : c < 4294967296) : corollaryref04_Sum.l1 (k + 9) s (c : Int) x4 0 = corollaryref04_Sum.l0 k s (chalf (chalf c) : Int) (wrap64 (x4 + 1)) := by
  have h0 := rsum_step (k + 8) s c 0 x4 hc (by omega)
  have h1 := rsum_step (k + 7) s _ 1 x4 (cstep_lt hc) (by omega)
  have h2 := rsum_step (k + 6) s _ 2 x4 (cstep_lt (cstep_lt hc)) (by omega)
  have h3 := rsum_step (k + 5) s _ 3 x4 (cstep_lt (cstep_lt (cstep_lt hc))) (by omega)
  have h4 := rsum_step (k + 4) s _ 4 x4 (chalf_lt hc) (by omega)
  have h5 := rsum_step (k + 3) s _ 5 x4 (cstep_lt (chalf_lt hc)) (by omega)
  have h6 := rsum_step (k + 2) s _ 6 x4 (cstep_lt (cstep_lt (chalf_lt hc))) (by omega)
  have h7 := rsum_step (k + 1) s _ 7 x4 (cstep_lt (cstep_lt (cstep_lt (chalf_lt hc)))) (by omega)
  have h8 : corollaryref04_Sum.l1 (k + 1) s (chalf (chalf c) : Int) x4 ((7 + 1 : Nat) : Int) = corollaryref04_Sum.l0 k s (chalf (chalf c) : Int) (wrap64 (x4 + 1)) := by
    simp only [corollaryref04_Sum.l1]
    rw [if_neg (by omega)]
  exact h0.trans (h1.trans (h2.trans (h3.trans (h4.trans (h5.trans (h6.trans (h7.trans h8)))))))
theorem rsum_loop (s : ByteArray) (hs : s.size ≤ 4611686018427387904) (d : Nat) : ∀ (k c i : Nat), i + d = s.size → 10 * d + 1 ≤ k → c < 4294967296 →
    corollaryref04_Sum.l0 k s (c : Int) (i : Int) = some ((4294967295 - creg c ((bl s).drop i) : Nat) : Int) := by
  induction d with
  | zero =>
    intro k c i h hk hc
    obtain ⟨k, rfl⟩ : ∃ m, k = m + 1 := ⟨k - 1, by omega⟩
    simp only [corollaryref04_Sum.l0]
    rw [if_neg (by omega), w64 (by omega) (by omega), List.drop_of_length_le (by rw [← bl_size]; omega)]
    show some ((4294967295 : Int) - (c : Int)) = some ((4294967295 - c : Nat) : Int)
    congr 1
    omega
  | succ d ih =>
    intro k c i h hk hc
    obtain ⟨k, rfl⟩ : ∃ m, k = m + 9 + 1 := ⟨k - 10, by omega⟩
    have hi : i < (bl s).length := by rw [← bl_size]; omega
    have hb := ((bl s)[i]'hi).toNat_lt
    rw [corollaryref04_Sum.l0]
    rw [if_pos (by omega), if_pos (by omega), bt_eq s i hi, w64 (n := (((bl s)[i]'hi).toNat : Int)) (by omega) (by omega)]
    rw [xor_i64 c _ (by omega) (by omega), rsum_byte k s _ _ (xor_byte_lt hc _), w64 (by omega) (by omega)]
    have h1 := ih k (cbyte c ((bl s)[i]'hi)) (i + 1) (by omega) (by omega) (cbyte_lt hc _)
    rw [List.drop_eq_getElem_cons hi, creg_cons]
    exact h1
theorem rsum_eq (s : ByteArray) (hs : s.size ≤ 4611686018427387904) (k : Nat) (hk : 10 * s.size + 1 ≤ k) : corollaryref04_Sum.f k s = some (crcL (bl s) : Int) :=
  rsum_loop s hs s.size k 4294967295 0 (by omega) hk (by omega)
theorem rfour_eq (n : Nat) (hn : n < 4611686018427387904) : ∃ t, corollaryref04_Four.f (n : Int) = some t ∧ bl t = four n := by
  refine ⟨_, rfl, ?_⟩
  rw [bl_strOfNums]
  simp only [List.map_cons, List.map_nil, four]
  have e (m : Nat) : UInt8.ofNat ((Int.tmod (m : Int) 256 % 256).toNat) = UInt8.ofNat m := by
    have h : Int.tmod (m : Int) 256 = ((m % 256 : Nat) : Int) := tmod_nat m 256
    have : (Int.tmod (m : Int) 256 % 256).toNat = m % 256 := by rw [h]; omega
    rw [this]
    apply UInt8.toNat_inj.1
    simp
  have e1 : Int.tdiv (n : Int) 256 = ((n / 256 : Nat) : Int) := tdiv_nat n 256
  have e2 : Int.tdiv (n : Int) 65536 = ((n / 65536 : Nat) : Int) := tdiv_nat n 65536
  have e3 : Int.tdiv (n : Int) 16777216 = ((n / 16777216 : Nat) : Int) := tdiv_nat n 16777216
  rw [e1, e2, e3, w64 (n := ((n / 256 : Nat) : Int)) (by omega) (by omega), w64 (n := ((n / 65536 : Nat) : Int)) (by omega) (by omega), w64 (n := ((n / 16777216 : Nat) : Int)) (by omega) (by omega), e, e, e, e]
theorem rput_eq (b : ByteArray) (hb : b.size ≤ 4398046511104) (k : Nat) (hk : 10 * b.size + 60 ≤ k) : ∃ t, corollaryref04_Put.f k b = some t ∧ bl t = recL (bl b) := by
  obtain ⟨t1, h1, g1⟩ := rfour_eq b.size (by omega)
  have l1 : t1.size = 4 := by rw [bl_size, g1, four_length]
  have hh : bl ((⟨#[82]⟩ : ByteArray) ++ t1 ++ b) = headL (bl b) := by
    rw [bl_append, bl_append, g1, bl_lit, bl_size]
    rfl
  have hz : ((⟨#[82]⟩ : ByteArray) ++ t1 ++ b).size = b.size + 5 := by
    rw [bl_size, hh, bl_size]; simp [headL, four_length]; omega
  have hz0 : ((⟨#[82]⟩ : ByteArray) ++ t1).size = 5 := by rw [bl_size, bl_append, g1]; rfl
  have hc := crcL_lt (headL (bl b))
  obtain ⟨t2, h2, g2⟩ := rfour_eq (crcL (headL (bl b))) (by omega)
  have l2 : t2.size = 4 := by rw [bl_size, g2, four_length]
  refine ⟨((⟨#[82]⟩ : ByteArray) ++ t1 ++ b) ++ t2, ?_, ?_⟩
  · unfold corollaryref04_Put.f
    rw [h1]
    simp only [Option.bind_some]
    rw [if_pos (by omega), if_pos (by omega), rsum_eq _ (by omega) k (by omega), hh]
    simp only [Option.bind_some]
    rw [h2]
    simp only [Option.bind_some]
    rw [if_pos (by omega)]
  · rw [bl_append, hh, g2]
    rfl

theorem rtake_step (k : Nat) (s : ByteArray) (x v i : Nat) (h0 : 0 < i) (h1 : i < s.size) (hs : s.size ≤ 4398046511104) (hx : x ≤ 4294967296) (hv : v < 256) (hb : bt s (i : Int) = (v : Int)) :
    corollaryref04_Take.l0 (k + 1) s (x : Int) (i : Int) = corollaryref04_Take.l0 k s ((256 * x + v : Nat) : Int) ((i - 1 : Nat) : Int) := by
  rw [corollaryref04_Take.l0, if_pos (by omega), if_pos (by omega), if_pos (by omega), hb]
  clear hb
  rw [w64 (n := 256 * (x : Int)) (by omega) (by omega), w64 (n := (v : Int)) (by omega) (by omega), w64 (n := 256 * (x : Int) + (v : Int)) (by omega) (by omega), w64 (n := (i : Int) - 1) (by omega) (by omega)]
  rw [show 256 * (x : Int) + (v : Int) = ((256 * x + v : Nat) : Int) by omega, show (i : Int) - 1 = ((i - 1 : Nat) : Int) by omega]
theorem rtake_num (k : Nat) (s : ByteArray) (a b c d : UInt8) (r : List UInt8) (hl : bl s = 82 :: a :: b :: c :: d :: r) (hs : s.size ≤ 4398046511104) :
    corollaryref04_Take.l0 (k + 1 + 1 + 1 + 1) s 0 4 = corollaryref04_Take.l0 k s (num4 a b c d : Int) 0 := by
  have hz : s.size = r.length + 5 := by rw [bl_size, hl]; rfl
  have ha := a.toNat_lt; have hb := b.toNat_lt; have hc := c.toNat_lt; have hd := d.toNat_lt
  have h4 := rtake_step (k + 1 + 1 + 1) s 0 d.toNat 4 (by omega) (by omega) hs (by omega) (by omega) (by have := bt_eq s 4 (by rw [hl]; simp); simpa [hl] using this)
  have h3 := rtake_step (k + 1 + 1) s (256 * 0 + d.toNat) c.toNat 3 (by omega) (by omega) hs (by omega) (by omega) (by have := bt_eq s 3 (by rw [hl]; simp); simpa [hl] using this)
  have h2 := rtake_step (k + 1) s (256 * (256 * 0 + d.toNat) + c.toNat) b.toNat 2 (by omega) (by omega) hs (by omega) (by omega) (by have := bt_eq s 2 (by rw [hl]; simp); simpa [hl] using this)
  have h1 := rtake_step k s (256 * (256 * (256 * 0 + d.toNat) + c.toNat) + b.toNat) a.toNat 1 (by omega) (by omega) hs (by omega) (by omega) (by have := bt_eq s 1 (by rw [hl]; simp); simpa [hl] using this)
  have e : 256 * (256 * (256 * (256 * 0 + d.toNat) + c.toNat) + b.toNat) + a.toNat = num4 a b c d := by unfold num4; omega
  rw [e] at h1
  exact h4.trans (h3.trans (h2.trans h1))
/-- Take, as the document has it. -/
theorem rtake_eq (s : ByteArray) (hs : s.size ≤ 4398046511104) (k : Nat) (hk : 10 * s.size + 80 ≤ k) :
    ∃ a b, corollaryref04_Take.f k s = some (a, b, ((takeL (bl s)).1 : Int)) ∧ bl a = (takeL (bl s)).2.1 ∧ bl b = (takeL (bl s)).2.2 := by
  obtain ⟨k, rfl⟩ : ∃ m, k = m + 1 + 1 + 1 + 1 + 1 + 1 := ⟨k - 6, by omega⟩
  unfold corollaryref04_Take.f
  have hz := bl_size s
  match hl : bl s with
  | [] =>
    have hz0 : s.size = 0 := by rw [hz, hl]; rfl
    rw [if_neg (by omega)]
    simp only [corollaryref04_Take.j0]
    rw [if_neg (by decide), if_pos (by omega)]
    exact ⟨_, _, rfl, rfl, rfl⟩
  | h :: t =>
    have hz1 : s.size = t.length + 1 := by rw [hz, hl]; rfl
    have hb0 : bt s 0 = (h.toNat : Int) := by
      have := bt_eq s 0 (by rw [hl]; simp)
      simpa [hl] using this
    rw [if_pos (by omega), if_pos (by omega), hb0]
    by_cases hh : h = 82
    · subst hh
      rw [corollaryref04_Take.j0, if_neg (by decide)]
      match t, hz1, hl with
      | [], hz1, hl => rw [if_pos (by simp at hz1; omega)]; exact ⟨_, _, rfl, by simp [takeL]; rfl, by simp [takeL]; rfl⟩
      | [_], hz1, hl => rw [if_pos (by simp at hz1; omega)]; exact ⟨_, _, rfl, by simp [takeL]; rfl, by simp [takeL]; rfl⟩
      | [_, _], hz1, hl => rw [if_pos (by simp at hz1; omega)]; exact ⟨_, _, rfl, by simp [takeL]; rfl, by simp [takeL]; rfl⟩
      | [_, _, _], hz1, hl => rw [if_pos (by simp at hz1; omega)]; exact ⟨_, _, rfl, by simp [takeL]; rfl, by simp [takeL]; rfl⟩
      | a :: b :: c :: d :: r, hz1, hl =>
        simp only [List.length_cons] at hz1
        have hb1 : bt s 1 = (a.toNat : Int) := by have := bt_eq s 1 (by rw [hl]; simp); simpa [hl] using this
        have hb2 : bt s 2 = (b.toNat : Int) := by have := bt_eq s 2 (by rw [hl]; simp); simpa [hl] using this
        have hb3 : bt s 3 = (c.toNat : Int) := by have := bt_eq s 3 (by rw [hl]; simp); simpa [hl] using this
        have hb4 : bt s 4 = (d.toNat : Int) := by have := bt_eq s 4 (by rw [hl]; simp); simpa [hl] using this
        have ha' := a.toNat_lt; have hb' := b.toNat_lt; have hc' := c.toNat_lt; have hd' := d.toNat_lt
        rw [if_neg (by omega)]
        clear hb0 hb1 hb2 hb3 hb4
        rw [rtake_num (k + 1) s a b c d r hl hs]
        have hlt := num4_lt a b c d
        clear ha' hb' hc' hd'
        rw [takeL_long, corollaryref04_Take.l0, if_neg (by omega)]
        have hf4 := four_num4 a b c d
        generalize hn : num4 a b c d = n at *
        by_cases h1 : n > 65536
        · rw [if_pos (by omega), if_pos h1]; exact ⟨_, _, rfl, rfl, rfl⟩
        have e5 : wrap64 (5 + (n : Int)) = ((n + 5 : Nat) : Int) := by rw [w64 (by omega) (by omega)]; omega
        have e9 : wrap64 ((n : Int) + 9) = ((n + 9 : Nat) : Int) := by rw [w64 (by omega) (by omega)]; omega
        simp only [e5, e9]
        rw [if_neg (by omega), if_neg h1]
        by_cases h2 : r.length < n + 4
        · rw [if_pos (by omega), if_pos h2]; exact ⟨_, _, rfl, rfl, rfl⟩
        rw [if_neg (by omega), if_neg h2, if_pos (by omega), if_pos (by omega)]
        have hx : bl (s.extract 5 (((n + 5 : Nat) : Int)).toNat) = r.take n := by
          rw [bl_extract, hl, Int.toNat_natCast]
          simp
        have hxl : (r.take n).length = n := by simp; omega
        have hxz : (s.extract 5 (((n + 5 : Nat) : Int)).toNat).size = n := by rw [bl_size, hx, hxl]
        obtain ⟨t1, ht1, g1⟩ := rput_eq (s.extract 5 (((n + 5 : Nat) : Int)).toNat) (by omega) k (by omega)
        rw [ht1]
        simp only [Option.bind_some]
        rw [if_pos (by omega), if_pos (by omega), bl_toList, bl_toList, g1, hx, bl_extract, hl]
        have hh : headL (r.take n) = 82 :: a :: b :: c :: d :: r.take n := by
          unfold headL
          rw [hxl, hf4]
          rfl
        have hd : ((82 :: a :: b :: c :: d :: r).take (((n + 9 : Nat) : Int)).toNat).drop 0 = (82 :: a :: b :: c :: d :: r.take n) ++ (r.drop n).take 4 := by
          rw [Int.toNat_natCast, List.drop_zero, show n + 9 = n + 4 + 5 from rfl]
          simp [List.take_add]
        rw [hd]
        unfold recL
        rw [hh]
        have hiff : ((82 :: a :: b :: c :: d :: r.take n) ++ four (crcL (82 :: a :: b :: c :: d :: r.take n)) = (82 :: a :: b :: c :: d :: r.take n) ++ (r.drop n).take 4) ↔ (four (crcL (82 :: a :: b :: c :: d :: r.take n)) = (r.drop n).take 4) := List.append_right_inj _
        by_cases h3 : four (crcL (82 :: a :: b :: c :: d :: r.take n)) = (r.drop n).take 4
        · rw [if_pos (hiff.2 h3), if_pos h3]
          refine ⟨_, _, rfl, ?_, ?_⟩
          · rw [hx]
          · rw [bl_extract, hl, Int.toNat_natCast, List.take_of_length_le (by simp; omega)]; simp
        · rw [if_neg (fun h => h3 (hiff.1 h)), if_neg h3]; exact ⟨_, _, rfl, rfl, rfl⟩
    · have : ¬ (h.toNat : Int) = 82 := fun e => hh (UInt8.toNat_inj.1 (by simpa using (by omega : h.toNat = 82)))
      rw [corollaryref04_Take.j0, if_pos (by simpa using this)]
      have e : takeL (h :: t) = (3, [], []) := by simp [takeL, hh]
      rw [e]
      exact ⟨_, _, rfl, rfl, rfl⟩
theorem rall_loop (n : Nat) : ∀ (s : ByteArray) (acc : List ByteArray) (k : Nat), s.size ≤ n → n ≤ 4398046511104 → s.size + acc.length < 8796093022208 → 11 * n + 90 ≤ k →
    ∃ l r, corollaryref04_All.l0 k s acc = some (acc ++ l, r) ∧ bls l = (allL (bl s)).1 ∧ bl r = (allL (bl s)).2 := by
  induction n with
  | zero =>
    intro s acc k h _ _ hk
    obtain ⟨k, rfl⟩ : ∃ m, k = m + 1 := ⟨k - 1, by omega⟩
    obtain ⟨a, b, h1, _, _⟩ := rtake_eq s (by omega) k (by omega)
    have : bl s = [] := List.eq_nil_of_length_eq_zero (by rw [← bl_size]; omega)
    rw [this] at h1 ⊢
    refine ⟨[], s, ?_, rfl, this⟩
    simp only [corollaryref04_All.l0]
    rw [h1]
    simp [takeL]
  | succ n ih =>
    intro s acc k h hn hb hk
    obtain ⟨k, rfl⟩ : ∃ m, k = m + 1 := ⟨k - 1, by omega⟩
    obtain ⟨a, b, h1, ha, hb'⟩ := rtake_eq s (by omega) k (by omega)
    simp only [corollaryref04_All.l0]
    rw [h1]
    simp only [Option.bind_some]
    by_cases h0 : (takeL (bl s)).1 = 0
    · have hlt := takeL_rest_lt h0
      obtain ⟨x, y, e, _, _⟩ := takeL_ok h0
      rw [e] at ha hb' hlt
      rw [← bl_size] at hlt
      have hbz : b.size = y.length := by rw [bl_size, hb']
      simp only at hlt
      obtain ⟨l, r, hl, hl1, hl2⟩ := ih b (acc ++ [a]) k (by omega) (by omega) (by simp; omega) (by omega)
      rw [if_pos (by omega), if_pos (by omega), hl]
      refine ⟨a :: l, r, by simp, ?_, ?_⟩
      · rw [allL_ok e, bls, List.map_cons, ha]
        rw [bls, hb'] at hl1
        rw [hl1]
      · rw [allL_ok e, hl2, hb']
    · rw [if_neg (by omega), allL_bad h0]
      exact ⟨[], s, by simp, rfl, rfl⟩
theorem rall_eq (s : ByteArray) (hs : s.size ≤ 4398046511104) (k : Nat) (hk : 11 * s.size + 90 ≤ k) :
    ∃ l r, corollaryref04_All.f k s = some (l, r) ∧ bls l = (allL (bl s)).1 ∧ bl r = (allL (bl s)).2 := by
  obtain ⟨l, r, h, h1, h2⟩ := rall_loop s.size s [] k (Nat.le_refl _) (by omega) (by simp; omega) hk
  exact ⟨l, r, by unfold corollaryref04_All.f; simpa using h, h1, h2⟩
theorem same_loop (l m : List ByteArray) (hm : l.length ≤ 1152921504606846976) (he : bls l = bls m) (d : Nat) : ∀ (k i : Nat), i + d = l.length → d + 1 ≤ k → corollaryref04_Same.l0 k l m (i : Int) = some true := by
  have hlen : l.length = m.length := by simpa [bls] using congrArg List.length he
  induction d with
  | zero =>
    intro k i h hk
    obtain ⟨k, rfl⟩ : ∃ m, k = m + 1 := ⟨k - 1, by omega⟩
    simp only [corollaryref04_Same.l0]
    rw [if_neg (by omega)]
  | succ d ih =>
    intro k i h hk
    obtain ⟨k, rfl⟩ : ∃ m, k = m + 1 := ⟨k - 1, by omega⟩
    simp only [corollaryref04_Same.l0]
    rw [if_pos (by omega), if_pos (by omega), if_pos (by omega), bl_toList, bl_toList]
    have e : bl (rdOf ByteArray.empty l (i : Int)) = bl (rdOf ByteArray.empty m (i : Int)) := by
      unfold rdOf
      rw [Int.toNat_natCast]
      have h1 : (bls l)[i]? = (bls m)[i]? := by rw [he]
      simp only [bls, List.getElem?_map] at h1
      rw [List.getD_eq_getElem?_getD, List.getD_eq_getElem?_getD]
      rw [List.getElem?_eq_getElem (show i < l.length by omega), List.getElem?_eq_getElem (show i < m.length by omega)] at h1 ⊢
      simpa using h1
    rw [if_pos e, w64 (by omega) (by omega)]
    exact ih k (i + 1) (by omega) (by omega)
/-- Same, of the same lists. -/
theorem same_eq (l m : List ByteArray) (hm : l.length ≤ 1152921504606846976) (he : bls l = bls m) (k : Nat) (hk : l.length + 1 ≤ k) : corollaryref04_Same.f k l m = some true := by
  have hlen : l.length = m.length := by simpa [bls] using congrArg List.length he
  unfold corollaryref04_Same.f
  rw [if_pos (by omega)]
  exact same_loop l m hm he l.length k 0 (by omega) hk
end Go.Proofs.Ythamfldeoglfoaa.Pure
