import Derived.Test.YthamfldeoglfoaaPRecx1
import Derived.Test.YthamfldeoglfoaaPlain
import Derived.Lib.Strings
namespace Go.Proofs.Ythamfldeoglfoaa.Pure
open Go.RowKit Go.Proofs.Ythamfldeoglfoaa.PRec Go.Proofs.YthamfldeoglfoaaW.PrintWords Go.Proofs.YthamfldeoglfoaaW.PrintLast Go.Proofs.Ythamfldeoglfoaa.Plain

/-- A text's bytes. -/
def bl (s : ByteArray) : List UInt8 := s.data.toList
theorem bl_toList (s : ByteArray) : s.toList = bl s := Lib.toList_data s
theorem bl_size (s : ByteArray) : s.size = (bl s).length := by simp [bl]
theorem bl_append (a b : ByteArray) : bl (a ++ b) = bl a ++ bl b := by simp [bl]
theorem bl_mk (l : List UInt8) : bl ⟨l.toArray⟩ = l := by simp [bl]
theorem bl_lit (a : Array UInt8) : bl ⟨a⟩ = a.toList := rfl
theorem bl_extract (s : ByteArray) (i j : Nat) : bl (s.extract i j) = ((bl s).take j).drop i := by
  simp [bl, List.drop_take]
theorem bl_inj {a b : ByteArray} (h : bl a = bl b) : a = b := ByteArray.ext (Array.toList_inj.1 h)
theorem bl_strOfNums (xs : List Int) : bl (strOfNums xs) = xs.map fun n => UInt8.ofNat n.toNat := by simp [bl, strOfNums]
theorem bt_eq (s : ByteArray) (i : Nat) (h : i < (bl s).length) : bt s (i : Int) = (((bl s)[i]'h).toNat : Int) := by
  have h' : i < s.size := by rw [bl_size]; exact h
  rw [← bt_at s (i : Int) (by simpa using h')]
  simp [bl]
  rfl

theorem w64 {n : Int} (h0 : -9223372036854775808 ≤ n) (h1 : n < 9223372036854775808) : wrap64 n = n := by unfold wrap64; omega

theorem bits_xor (k : IntKind) (j : Nat) (hj : j ≤ k.bits) (hk : ∀ n : Int, 0 ≤ n → n < 2 ^ j → k.wrap n = n) (a b : Nat) (ha : a < 2 ^ j) (hb : b < 2 ^ j) :
    Go.bits .xor k a b = ((a ^^^ b : Nat) : Int) := by
  have hp : 2 ^ j ≤ 2 ^ k.bits := Nat.pow_le_pow_right (by decide) hj
  have ha' : a % 2 ^ k.bits = a := Nat.mod_eq_of_lt (Nat.lt_of_lt_of_le ha hp)
  have hb' : b % 2 ^ k.bits = b := Nat.mod_eq_of_lt (Nat.lt_of_lt_of_le hb hp)
  have cast : ∀ n : Nat, n < 2 ^ j → ((n : Nat) : Int) < 2 ^ j := fun n h => by exact_mod_cast h
  simp only [Go.bits, BitVec.ofInt_natCast, BitVec.toNat_xor, BitVec.toNat_ofNat, ha', hb']
  exact hk _ (Int.natCast_nonneg _) (cast _ (Nat.xor_lt_two_pow ha hb))
theorem xor_u32 (a b : Nat) (ha : a < 4294967296) (hb : b < 4294967296) : Go.bits .xor .u32 (a : Int) (b : Int) = ((a ^^^ b : Nat) : Int) :=
  bits_xor .u32 32 (by decide) (fun n h0 h1 => by rw [IntKind.wrap_u32]; omega) a b ha hb
theorem and1_u32 (a : Nat) (ha : a < 4294967296) : Go.bits .and .u32 (a : Int) 1 = ((a % 2 : Nat) : Int) := by
  have := (bits_nat .u32 32 (by decide) (fun n h0 h1 => by rw [IntKind.wrap_u32]; omega) a 1 ha (by decide)).1
  rw [Nat.and_one_is_mod] at this
  exact_mod_cast this
theorem not_u32 (a : Nat) (ha : a < 4294967296) : Go.bits .xor .u32 4294967295 (a : Int) = ((4294967295 - a : Nat) : Int) := by
  have h := xor_u32 4294967295 a (by omega) ha
  have e : (4294967295 : Nat) ^^^ a = 4294967295 - a := by
    have h1 : (BitVec.allOnes 32 ^^^ BitVec.ofNat 32 a).toNat = (~~~ BitVec.ofNat 32 a).toNat := by rw [BitVec.allOnes_xor]
    rw [BitVec.toNat_xor, BitVec.toNat_not, BitVec.toNat_allOnes, BitVec.toNat_ofNat, Nat.mod_eq_of_lt (show a < 2 ^ 32 from ha)] at h1
    exact h1
  rw [← e]
  exact h

theorem half_step (k c i : Nat) (hc : c < 4294967296) (hi : i < 4) : record_half.l0 (k + 1) (c : Int) (i : Int) = record_half.l0 k (cstep c : Int) ((i + 1 : Nat) : Int) := by
  simp only [record_half.l0]
  rw [if_pos (by omega), and1_u32 c hc, w64 (by omega) (by omega)]
  unfold cstep
  by_cases h : c % 2 = 1
  · rw [if_pos (by omega), if_pos h]
    have e : (c : Int) / 2 = ((c / 2 : Nat) : Int) := by omega
    have x := xor_u32 (c / 2) 3988292384 (by omega) (by omega)
    rw [e]
    congr 1
  · rw [if_neg (by omega), if_neg h]
    congr 1
theorem half_eq (k c : Nat) (hc : c < 4294967296) (hk : 5 ≤ k) : record_half.f k (c : Int) = some (chalf c : Int) := by
  obtain ⟨k, rfl⟩ : ∃ m, k = m + 1 + 1 + 1 + 1 + 1 := ⟨k - 5, by omega⟩
  unfold record_half.f
  have h0 := half_step (k + 1 + 1 + 1 + 1) c 0 hc (by omega)
  have h1 := half_step (k + 1 + 1 + 1) (cstep c) 1 (cstep_lt hc) (by omega)
  have h2 := half_step (k + 1 + 1) (cstep (cstep c)) 2 (cstep_lt (cstep_lt hc)) (by omega)
  have h3 := half_step (k + 1) (cstep (cstep (cstep c))) 3 (cstep_lt (cstep_lt (cstep_lt hc))) (by omega)
  have h4 : record_half.l0 (k + 1) (chalf c : Int) ((3 + 1 : Nat) : Int) = some (chalf c : Int) := by
    simp only [record_half.l0]
    rw [if_neg (by omega)]
  exact h0.trans (h1.trans (h2.trans (h3.trans h4)))
theorem sum_loop (s : ByteArray) (hs : s.size ≤ 4611686018427387904) (d : Nat) : ∀ (k c i : Nat), i + d = s.size → d + 6 ≤ k → c < 4294967296 →
    record_Sum.l0 k s (c : Int) (s.size : Int) (i : Int) = some ((4294967295 - creg c ((bl s).drop i) : Nat) : Int) := by
  induction d with
  | zero =>
    intro k c i h hk hc
    obtain ⟨k, rfl⟩ : ∃ m, k = m + 1 := ⟨k - 1, by omega⟩
    simp only [record_Sum.l0]
    rw [if_neg (by omega), not_u32 c hc, List.drop_of_length_le (by rw [← bl_size]; omega)]
    rfl
  | succ d ih =>
    intro k c i h hk hc
    obtain ⟨k, rfl⟩ : ∃ m, k = m + 1 := ⟨k - 1, by omega⟩
    have hi : i < (bl s).length := by rw [← bl_size]; omega
    have hb := ((bl s)[i]'hi).toNat_lt
    simp only [record_Sum.l0]
    rw [if_pos (by omega), if_pos (by omega), if_pos (by omega), bt_eq s i hi]
    have e : (((bl s)[i]'hi).toNat : Int) % 4294967296 = (((bl s)[i]'hi).toNat : Int) := by omega
    rw [e, xor_u32 c _ hc (by omega), half_eq k _ (xor_byte_lt hc _) (by omega)]
    simp only [Option.bind_some]
    rw [half_eq k _ (chalf_lt (xor_byte_lt hc _)) (by omega)]
    simp only [Option.bind_some]
    rw [w64 (by omega) (by omega)]
    have h1 := ih k (cbyte c ((bl s)[i]'hi)) (i + 1) (by omega) (by omega) (cbyte_lt hc _)
    rw [List.drop_eq_getElem_cons hi, creg_cons]
    exact h1
/-- Sum. -/
theorem sum_eq (s : ByteArray) (hs : s.size ≤ 4611686018427387904) (k : Nat) (hk : s.size + 6 ≤ k) : record_Sum.f k s = some (crcL (bl s) : Int) :=
  sum_loop s hs s.size k 4294967295 0 (by omega) (by omega) (by omega)
theorem four_eq (n : Nat) : ∃ t, record_four.f (n : Int) = some t ∧ bl t = four n := by
  refine ⟨_, rfl, ?_⟩
  rw [bl_strOfNums]
  simp only [List.map_cons, List.map_nil, four]
  have e (m : Nat) : UInt8.ofNat (((m : Int) % 256).toNat) = UInt8.ofNat m := by
    have : ((m : Int) % 256).toNat = m % 256 := by omega
    rw [this]
    apply UInt8.toNat_inj.1
    simp
  have e1 : (n : Int) / 256 = ((n / 256 : Nat) : Int) := by omega
  have e2 : (n : Int) / 65536 = ((n / 65536 : Nat) : Int) := by omega
  have e3 : (n : Int) / 16777216 = ((n / 16777216 : Nat) : Int) := by omega
  rw [e1, e2, e3, e, e, e, e]
/-- Put. -/
theorem put_eq (b : ByteArray) (hb : b.size ≤ 65536) (k : Nat) (hk : b.size + 20 ≤ k) : ∃ t, record_Put.f k b = some (t, 0) ∧ bl t = recL (bl b) := by
  obtain ⟨t1, h1, g1⟩ := four_eq b.size
  have l1 : t1.size = 4 := by rw [bl_size, g1, four_length]
  have hh : bl ((⟨#[82]⟩ : ByteArray) ++ t1 ++ b) = headL (bl b) := by
    rw [bl_append, bl_append, g1, bl_lit, bl_size]
    rfl
  have hz : ((⟨#[82]⟩ : ByteArray) ++ t1 ++ b).size = b.size + 5 := by
    rw [bl_size, hh, bl_size]; simp [headL, four_length]; omega
  have hz0 : ((⟨#[82]⟩ : ByteArray) ++ t1).size = 5 := by rw [bl_size, bl_append, g1]; rfl
  obtain ⟨t2, h2, g2⟩ := four_eq (crcL (headL (bl b)))
  have l2 : t2.size = 4 := by rw [bl_size, g2, four_length]
  refine ⟨((⟨#[82]⟩ : ByteArray) ++ t1 ++ b) ++ t2, ?_, ?_⟩
  · unfold record_Put.f
    rw [if_neg (by omega)]
    have e : (b.size : Int) % 4294967296 = (b.size : Int) := by omega
    rw [e, h1]
    simp only [Option.bind_some]
    rw [if_pos (by omega), if_pos (by omega), sum_eq _ (by omega) k (by omega), hh]
    simp only [Option.bind_some]
    rw [h2]
    simp only [Option.bind_some]
    rw [if_pos (by omega)]
  · rw [bl_append, hh, g2]
    rfl
theorem put_long (b : ByteArray) (hb : 65536 < b.size) (k : Nat) : record_Put.f k b = some (⟨#[]⟩, 5) := by
  unfold record_Put.f
  rw [if_pos (by omega)]
end Go.Proofs.Ythamfldeoglfoaa.Pure
