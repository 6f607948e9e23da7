import Derived.Test.YthamfldeoglfoaaPRecx5
import Derived.Test.YthamfldeoglfoaaLinkA
namespace Go.Proofs.Ythamfldeoglfoaa.Pure
open Go.RowKit Go.Proofs.Ythamfldeoglfoaa.PRec Go.Proofs.YthamfldeoglfoaaW.PrintWords Go.Proofs.YthamfldeoglfoaaW.PrintLast Go.Proofs.Ythamfldeoglfoaa.Plain

theorem or_i64 (a b : Nat) (i : Nat) (hi : i ≤ 40) (ha : a < 2 ^ i) (hb : b % 2 ^ i = 0) (hb1 : b < 2 ^ 62) : Go.bits .or .i64 (a : Int) (b : Int) = ((a + b : Nat) : Int) := by
  have hc : Go.bits .or .i64 (a : Int) (b : Int) = Go.bits .or .i64 (b : Int) (a : Int) := by simp only [Go.bits, BitVec.or_comm]
  have hp : 2 ^ i ≤ 2 ^ 40 := Nat.pow_le_pow_right (by decide) hi
  have ha1 : a < 2 ^ 62 := by omega
  rw [hc, bits_join .i64 62 (by decide) (fun n h0 h1 => by rw [IntKind.wrap_i64]; omega) i (b : Int) (a : Int) (by omega) (by exact_mod_cast hb) (by exact_mod_cast hb1) (by omega) (by exact_mod_cast ha) (by exact_mod_cast ha1)]
  omega
theorem num_eq (a b c d : UInt8) : Go.bits .or .i64 (Go.bits .or .i64 (Go.bits .or .i64 (wrap64 (a.toNat : Int)) (wrap64 ((wrap64 (b.toNat : Int)) * 256))) (wrap64 ((wrap64 (c.toNat : Int)) * 65536))) (wrap64 ((wrap64 (d.toNat : Int)) * 16777216)) = (num4 a b c d : Int) := by
  have ha := a.toNat_lt; have hb := b.toNat_lt; have hc := c.toNat_lt; have hd := d.toNat_lt
  rw [w64 (n := (a.toNat : Int)) (by omega) (by omega), w64 (n := (b.toNat : Int)) (by omega) (by omega), w64 (n := (c.toNat : Int)) (by omega) (by omega), w64 (n := (d.toNat : Int)) (by omega) (by omega)]
  rw [w64 (n := (b.toNat : Int) * 256) (by omega) (by omega), w64 (n := (c.toNat : Int) * 65536) (by omega) (by omega), w64 (n := (d.toNat : Int) * 16777216) (by omega) (by omega)]
  have e1 : (b.toNat : Int) * 256 = ((b.toNat * 256 : Nat) : Int) := by omega
  have e2 : (c.toNat : Int) * 65536 = ((c.toNat * 65536 : Nat) : Int) := by omega
  have e3 : (d.toNat : Int) * 16777216 = ((d.toNat * 16777216 : Nat) : Int) := by omega
  rw [e1, e2, e3, or_i64 _ _ 8 (by omega) (by omega) (by omega) (by omega), or_i64 _ _ 16 (by omega) (by omega) (by omega) (by omega), or_i64 _ _ 24 (by omega) (by omega) (by omega) (by omega)]
  unfold num4
  omega
theorem num4_lt (a b c d : UInt8) : num4 a b c d < 4294967296 := by
  have ha := a.toNat_lt; have hb := b.toNat_lt; have hc := c.toNat_lt; have hd := d.toNat_lt
  unfold num4
  omega

/-- Take. -/
theorem take_eq (s : ByteArray) (hs : s.size ≤ 4611686018427387904) (k : Nat) (hk : s.size + 20 ≤ k) :
    ∃ a b, record_Take.f k s = some (a, b, ((takeL (bl s)).1 : Int)) ∧ bl a = (takeL (bl s)).2.1 ∧ bl b = (takeL (bl s)).2.2 := by
  unfold record_Take.f
  rw [bl_toList]
  have hz := bl_size s
  match hl : bl s with
  | [] => rw [if_pos rfl]; exact ⟨_, _, rfl, rfl, rfl⟩
  | h :: t =>
    have hz1 : s.size = t.length + 1 := by rw [hz, hl]; rfl
    have hb0 : bt s 0 = (h.toNat : Int) := by
      have := bt_eq s 0 (by rw [hl]; simp)
      simpa [hl] using this
    rw [if_neg (by simp), if_pos (by omega), hb0]
    by_cases hh : h = 82
    · subst hh
      rw [if_pos (by decide)]
      match t, hz1, hl with
      | [], hz1, hl => rw [if_pos (by simp at hz1; omega)]; exact ⟨_, _, rfl, by simp [takeL]; rfl, by simp [takeL]; rfl⟩
      | [_], hz1, hl => rw [if_pos (by simp at hz1; omega)]; exact ⟨_, _, rfl, by simp [takeL]; rfl, by simp [takeL]; rfl⟩
      | [_, _], hz1, hl => rw [if_pos (by simp at hz1; omega)]; exact ⟨_, _, rfl, by simp [takeL]; rfl, by simp [takeL]; rfl⟩
      | [_, _, _], hz1, hl => rw [if_pos (by simp at hz1; omega)]; exact ⟨_, _, rfl, by simp [takeL]; rfl, by simp [takeL]; rfl⟩
      | a :: b :: c :: d :: r, hz1, hl =>
        simp only [List.length_cons] at hz1
        have hb1 : bt s 1 = (a.toNat : Int) := by have := bt_eq s 1 (by rw [hl]; simp); simpa [hl] using this
        have hb2 : bt s 2 = (b.toNat : Int) := by have := bt_eq s 2 (by rw [hl]; simp); simpa [hl] using this
        have hb3 : bt s 3 = (c.toNat : Int) := by have := bt_eq s 3 (by rw [hl]; simp); simpa [hl] using this
        have hb4 : bt s 4 = (d.toNat : Int) := by have := bt_eq s 4 (by rw [hl]; simp); simpa [hl] using this
        have hN := num_eq a b c d
        have hlt := num4_lt a b c d
        rw [hb1, hb2, hb3, hb4]
        simp only [hN]
        clear hN hb0 hb1 hb2 hb3 hb4
        rw [takeL_long]
        generalize hn : num4 a b c d = n at *
        have e5 : wrap64 (5 + (n : Int)) = ((n + 5 : Nat) : Int) := by rw [w64 (by omega) (by omega)]; omega
        have e9 : wrap64 (((n + 5 : Nat) : Int) + 4) = ((n + 9 : Nat) : Int) := by rw [w64 (by omega) (by omega)]; omega
        simp only [e5, e9]
        rw [if_neg (by omega), if_pos (by omega), if_pos (by omega), if_pos (by omega), if_pos (by omega)]
        by_cases h1 : n > 65536
        · rw [if_pos (by omega), if_pos h1]; exact ⟨_, _, rfl, rfl, rfl⟩
        rw [if_neg (by omega), if_neg h1]
        by_cases h2 : r.length < n + 4
        · rw [if_pos (by omega), if_pos h2]; exact ⟨_, _, rfl, rfl, rfl⟩
        rw [if_neg (by omega), if_neg h2, if_pos (by omega), if_pos (by omega)]
        have hx : bl (s.extract 0 (((n + 5 : Nat) : Int)).toNat) = 82 :: a :: b :: c :: d :: r.take n := by
          rw [bl_extract, hl, Int.toNat_natCast, List.drop_zero]
          simp
        have hxz : (s.extract 0 (((n + 5 : Nat) : Int)).toNat).size = n + 5 := by rw [bl_size, hx]; simp; omega
        obtain ⟨t1, ht1, g1⟩ := four_eq (crcL (82 :: a :: b :: c :: d :: r.take n))
        rw [sum_eq _ (by omega) k (by omega), hx]
        simp only [Option.bind_some]
        rw [ht1]
        simp only [Option.bind_some]
        rw [if_pos (by omega), if_pos (by omega), bl_toList, bl_toList, g1, bl_extract, hl]
        have hd : ((82 :: a :: b :: c :: d :: r).take (((n + 9 : Nat) : Int)).toNat).drop (((n + 5 : Nat) : Int)).toNat = (r.drop n).take 4 := by
          rw [Int.toNat_natCast, Int.toNat_natCast, List.drop_take]
          simp
        rw [hd]
        by_cases h3 : four (crcL (82 :: a :: b :: c :: d :: r.take n)) = (r.drop n).take 4
        · rw [if_pos h3, if_pos h3, if_pos (by omega), if_pos (by omega)]
          refine ⟨_, _, rfl, ?_, ?_⟩
          · rw [bl_extract, hl, Int.toNat_natCast]; simp
          · rw [bl_extract, hl, Int.toNat_natCast, List.take_of_length_le (by simp; omega)]; simp
        · rw [if_neg h3, if_neg h3]; exact ⟨_, _, rfl, rfl, rfl⟩
    · have : ¬ (h.toNat : Int) = 82 := fun e => hh (UInt8.toNat_inj.1 (by simpa using (by omega : h.toNat = 82)))
      rw [if_neg this]
      have e : takeL (h :: t) = (3, [], []) := by simp [takeL, hh]
      rw [e]
      exact ⟨_, _, rfl, rfl, rfl⟩

/-- What a list of texts is as bytes. -/
def bls (l : List ByteArray) : List (List UInt8) := l.map bl
theorem all_loop (n : Nat) : ∀ (s : ByteArray) (acc : List ByteArray) (k : Nat), s.size ≤ n → n ≤ 1152921504606846976 → s.size + acc.length < 8796093022208 → 2 * n + 30 ≤ k →
    ∃ l r, record_All.l0 k s acc = some (acc ++ l, r) ∧ bls l = (allL (bl s)).1 ∧ bl r = (allL (bl s)).2 := by
  induction n with
  | zero =>
    intro s acc k h _ _ hk
    obtain ⟨k, rfl⟩ : ∃ m, k = m + 1 := ⟨k - 1, by omega⟩
    obtain ⟨a, b, h1, _, _⟩ := take_eq s (by omega) k (by omega)
    have : bl s = [] := List.eq_nil_of_length_eq_zero (by rw [← bl_size]; omega)
    rw [this] at h1 ⊢
    refine ⟨[], s, ?_, rfl, this⟩
    simp only [record_All.l0]
    rw [h1]
    simp [takeL]
  | succ n ih =>
    intro s acc k h hn hb hk
    obtain ⟨k, rfl⟩ : ∃ m, k = m + 1 := ⟨k - 1, by omega⟩
    obtain ⟨a, b, h1, ha, hb'⟩ := take_eq s (by omega) k (by omega)
    simp only [record_All.l0]
    rw [h1]
    simp only [Option.bind_some]
    by_cases h0 : (takeL (bl s)).1 = 0
    · have hlt := takeL_rest_lt h0
      obtain ⟨x, y, e, _, _⟩ := takeL_ok h0
      rw [e] at ha hb' hlt
      rw [← bl_size] at hlt
      have hbz : b.size = y.length := by rw [bl_size, hb']
      simp only at hlt
      obtain ⟨l, r, hl, hl1, hl2⟩ := ih b (acc ++ [a]) k (by omega) (by omega) (by simp; omega) (by omega)
      rw [if_pos (by omega), if_pos (by omega), hl]
      refine ⟨a :: l, r, by simp, ?_, ?_⟩
      · rw [allL_ok e, bls, List.map_cons, ha]
        rw [bls, hb'] at hl1
        rw [hl1]
      · rw [allL_ok e, hl2, hb']
    · rw [if_neg (by omega), allL_bad h0]
      exact ⟨[], s, by simp, rfl, rfl⟩
/-- All. -/
theorem all_eq (s : ByteArray) (hs : s.size < 8796093022208) (k : Nat) (hk : 2 * s.size + 30 ≤ k) :
    ∃ l r, record_All.f k s = some (l, r) ∧ bls l = (allL (bl s)).1 ∧ bl r = (allL (bl s)).2 := by
  obtain ⟨l, r, h, h1, h2⟩ := all_loop s.size s [] k (Nat.le_refl _) (by omega) (by simpa using hs) hk
  exact ⟨l, r, by unfold record_All.f; simpa using h, h1, h2⟩

/-- The fixed answer. -/
theorem awake_eq (k : Nat) (hk : 60 ≤ k) : corollarylaw04_awake.f k = some true := by
  unfold corollarylaw04_awake.f
  obtain ⟨t, ht, gt⟩ := put_eq (⟨#[97]⟩ : ByteArray) (by decide) k (by show 1 + 20 ≤ k; omega)
  have lt : t.size = 10 := by rw [bl_size, gt, recL_length]; rfl
  rw [ht]
  simp only [Option.bind_some]
  rw [if_pos (by omega)]
  have hz : (t ++ (⟨#[120]⟩ : ByteArray)).size = 11 := by rw [bl_size, bl_append, gt]; simp [recL_length, bl_lit]
  obtain ⟨a, b, h1, ha, hb⟩ := take_eq (t ++ (⟨#[120]⟩ : ByteArray)) (by omega) k (by omega)
  have e : takeL (bl (t ++ (⟨#[120]⟩ : ByteArray))) = (0, [97], [120]) := by
    rw [bl_append, gt, takeL_recL _ _ (by simp [bl_lit])]
    rfl
  rw [e] at h1 ha hb
  rw [h1]
  simp only [Option.bind_some]
  rw [sum_eq _ (by show 9 ≤ _; omega) k (by show 9 + 6 ≤ k; omega)]
  simp only [Option.bind_some]
  have hc : crcL (bl (⟨#[49, 50, 51, 52, 53, 54, 55, 56, 57]⟩ : ByteArray)) = 3421780262 := by decide +kernel
  rw [hc, if_pos (by decide), if_pos (by omega), if_pos trivial, bl_toList, ha, if_pos rfl, bl_toList, hb, if_pos rfl]
  rfl
end Go.Proofs.Ythamfldeoglfoaa.Pure
