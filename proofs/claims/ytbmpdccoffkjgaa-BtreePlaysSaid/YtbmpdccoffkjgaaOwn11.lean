/- Operations on bits; bytes of texts. -/
import Derived.Test.YtbmpdccoffkjgaaOwn10
import Derived.Laws.BitsLemmas
import Derived.Laws.Entries
namespace Go.Proofs.Ytbmpdccoffkjgaa.Ow
open Go
set_option linter.unusedVariables false
section
variable {P : Program} {env : Env} {L : List Itm} {F : Mem} {d : Option Tmp} {ty : TypeId} {pos : String} {af : Array Edge} {gd : Option (Nat × Bool)} {x y : Operand} {xt yt : TypeId} {k k' : IntKind} {a b r : Int}
theorem OpV.band (hx : ev env x = some (.int k a)) (hy : ev env y = some (.int k b)) (h : Go.bits .and k a b = r) : OpV P ⟨d, .binOp .and xt x y yt, ty, pos, af, gd⟩ env L F (.int k r) :=
  .bin hx hy fun w => by simp [eqGuard, binOp, intBits_and, h]
theorem OpV.bor (hx : ev env x = some (.int k a)) (hy : ev env y = some (.int k b)) (h : Go.bits .or k a b = r) : OpV P ⟨d, .binOp .or xt x y yt, ty, pos, af, gd⟩ env L F (.int k r) :=
  .bin hx hy fun w => by simp [eqGuard, binOp, intBits_or, h]
theorem OpV.bxor (hx : ev env x = some (.int k a)) (hy : ev env y = some (.int k b)) (h : Go.bits .xor k a b = r) : OpV P ⟨d, .binOp .xor xt x y yt, ty, pos, af, gd⟩ env L F (.int k r) :=
  .bin hx hy fun w => by simp [eqGuard, binOp, intBits_xor, h]
theorem OpV.shrk (m : Nat) (hx : ev env x = some (.int k a)) (hy : ev env y = some (.int k' m)) (hm : m ≤ k.bits) (h : a / 2 ^ m = r) : OpV P ⟨d, .binOp .shr xt x y yt, ty, pos, af, gd⟩ env L F (.int k r) :=
  .bin hx hy fun w => by
    have := shift_shr k k' a m (by omega) (by omega)
    rw [Int.toNat_natCast, h] at this
    simp [eqGuard, binOp, this]
theorem OpV.shlk (m : Nat) (hx : ev env x = some (.int k a)) (hy : ev env y = some (.int k' m)) (hm : m ≤ k.bits) (h : k.wrap (a * 2 ^ m) = r) : OpV P ⟨d, .binOp .shl xt x y yt, ty, pos, af, gd⟩ env L F (.int k r) :=
  .bin hx hy fun w => by
    have := shift_shl k k' a m (by omega) (by omega)
    rw [Int.toNat_natCast, h] at this
    simp [eqGuard, binOp, this]
theorem OpV.bnot32 (hx : ev env x = some (.int .u32 a)) (h : Go.bits .xor .u32 4294967295 a = r) : OpV P ⟨d, .unOp .xor xt x, ty, pos, af, gd⟩ env L F (.int .u32 r) :=
  .of fun n a' w R hh _ => by
    have e : Op.unary .xor (.int .u32 a) = Op.intBits .xor .u32 4294967295 a := rfl
    simp [execOp, hh.eval hx, e, intBits_xor, h]
/-- A byte of a text, told otherwise. -/
theorem OpV.bytev {t : Nat} {s : ByteArray} {i : Int} (j : Nat) (v : Int) (hu : P.underlying t = some .string) (hx : ev env x = some (.string s)) (hy : ev env y = some (.int k i)) (h : i = j ∧ j < s.size) (hv : ((s.data.toList.getD j 0).toNat : Int) = v) :
    OpV P ⟨d, .index t x y, ty, pos, af, gd⟩ env L F (.int .u8 v) := by
  rw [← hv]; exact .byte j hu hx hy h
/-- A conversion of numbers, told otherwise. -/
theorem OpV.cvtv {src dst : TypeId} {k1 k2 : IntKind} {u : Int} {ds : TypeDesc} (v : Int) (hx : ev env x = some (.int k1 u)) (hs : P.underlying src = some ds) (hd : P.underlying dst = some (.int k2)) (hv : k2.wrap u = v) : OpV P ⟨d, .convert src dst x, ty, pos, af, gd⟩ env L F (.int k2 v) := by
  rw [← hv]; exact .cvt hx hs hd
theorem OpV.remv (v : Int) (hx : ev env x = some (.int k a)) (hy : ev env y = some (.int k b)) (h : 0 ≤ a ∧ 0 < b) (hv : a % b = v) : OpV P ⟨d, .binOp .rem xt x y yt, ty, pos, af, gd⟩ env L F (.int k v) := by
  rw [← hv]; exact .remk hx hy h
theorem OpV.quov (v : Int) (hx : ev env x = some (.int .i64 a)) (hy : ev env y = some (.int .i64 b)) (h : 0 ≤ a ∧ a ≤ 9223372036854775807 ∧ 0 < b) (hv : a / b = v) : OpV P ⟨d, .binOp .quo xt x y yt, ty, pos, af, gd⟩ env L F (.int .i64 v) := by
  rw [← hv]; exact .quo hx hy h
end
/-! ### Bits of small numbers -/
theorem bits_xor' (k : IntKind) (j : Nat) (hj : j ≤ k.bits) (hk : ∀ n : Int, 0 ≤ n → n < 2 ^ j → k.wrap n = n) (a b : Nat) (ha : a < 2 ^ j) (hb : b < 2 ^ j) :
    Go.bits .xor k a b = ((a ^^^ b : Nat) : Int) := by
  have hp : 2 ^ j ≤ 2 ^ k.bits := Nat.pow_le_pow_right (by decide) hj
  have ha' : a % 2 ^ k.bits = a := Nat.mod_eq_of_lt (Nat.lt_of_lt_of_le ha hp)
  have hb' : b % 2 ^ k.bits = b := Nat.mod_eq_of_lt (Nat.lt_of_lt_of_le hb hp)
  have cast : ∀ n : Nat, n < 2 ^ j → ((n : Nat) : Int) < 2 ^ j := fun n h => by exact_mod_cast h
  simp only [Go.bits, BitVec.ofInt_natCast, BitVec.toNat_xor, BitVec.toNat_ofNat, ha', hb']
  exact hk _ (Int.natCast_nonneg _) (cast _ (Nat.xor_lt_two_pow ha hb))
theorem xor_u32 (a b : Nat) (ha : a < 4294967296) (hb : b < 4294967296) : Go.bits .xor .u32 (a : Int) (b : Int) = ((a ^^^ b : Nat) : Int) :=
  bits_xor' .u32 32 (by decide) (fun n h0 h1 => by rw [IntKind.wrap_u32]; omega) a b ha hb
theorem xor_i64 (a b : Nat) (ha : a < 4611686018427387904) (hb : b < 4611686018427387904) : Go.bits .xor .i64 (a : Int) (b : Int) = ((a ^^^ b : Nat) : Int) :=
  bits_xor' .i64 62 (by decide) (fun n h0 h1 => by rw [IntKind.wrap_i64]; omega) a b ha hb
theorem and1_u32 (a : Nat) (ha : a < 4294967296) : Go.bits .and .u32 (a : Int) 1 = ((a % 2 : Nat) : Int) := by
  have := (bits_nat .u32 32 (by decide) (fun n h0 h1 => by rw [IntKind.wrap_u32]; omega) a 1 ha (by decide)).1
  rw [Nat.and_one_is_mod] at this
  exact_mod_cast this
theorem not_u32 (a : Nat) (ha : a < 4294967296) : Go.bits .xor .u32 4294967295 (a : Int) = ((4294967295 - a : Nat) : Int) := by
  have h := xor_u32 4294967295 a (by omega) ha
  have e : (4294967295 : Nat) ^^^ a = 4294967295 - a := by
    have h1 : (BitVec.allOnes 32 ^^^ BitVec.ofNat 32 a).toNat = (~~~ BitVec.ofNat 32 a).toNat := by rw [BitVec.allOnes_xor]
    rw [BitVec.toNat_xor, BitVec.toNat_not, BitVec.toNat_allOnes, BitVec.toNat_ofNat, Nat.mod_eq_of_lt (show a < 2 ^ 32 from ha)] at h1
    exact h1
  rw [← e]
  exact h
theorem or_i64 (a b : Nat) (i : Nat) (hi : i ≤ 40) (ha : a < 2 ^ i) (hb : b % 2 ^ i = 0) (hb1 : b < 2 ^ 62) : Go.bits .or .i64 (a : Int) (b : Int) = ((a + b : Nat) : Int) := by
  have hc : Go.bits .or .i64 (a : Int) (b : Int) = Go.bits .or .i64 (b : Int) (a : Int) := by simp only [Go.bits, BitVec.or_comm]
  have hp : 2 ^ i ≤ 2 ^ 40 := Nat.pow_le_pow_right (by decide) hi
  have ha1 : a < 2 ^ 62 := by omega
  rw [hc, bits_join .i64 62 (by decide) (fun n h0 h1 => by rw [IntKind.wrap_i64]; omega) i (b : Int) (a : Int) (by omega) (by exact_mod_cast hb) (by exact_mod_cast hb1) (by omega) (by exact_mod_cast ha) (by exact_mod_cast ha1)]
  omega
end Go.Proofs.Ytbmpdccoffkjgaa.Ow
