/- Scripts of acts. -/
import Derived.Test.YtbmpdccoffkjgaaByd
import Derived.Test.YtbmpdccoffkjgaaBto
namespace Go.Proofs.Ytbmpdccoffkjgaa.Ow
open Go
set_option linter.unusedVariables false
structure Ac where
  kind : Int
  n : Int
  key : ByteArray
  val : ByteArray
  hi : ByteArray
def encA (a : Ac) : List Value := [.int .i64 a.kind, .int .i64 a.n, .string a.key, .string a.val, .string a.hi]
theorem encA_ok : Enc encA 5 := ⟨fun _ => rfl, fun x v hv => by simp [encA] at hv; rcases hv with rfl | rfl | rfl | rfl | rfl <;> rfl⟩
def okA (a : Ac) : Bool := decide (a.key.size ≤ 100) && decide (a.hi.size ≤ 100) && decide (a.val.size ≤ 100)
def fewB (l : List Ac) (n : Nat) : Bool := (l.take n).all okA
theorem few_stop {l : List Ac} {n k : Nat} {x : Ac} (hx : l[k]? = some x) (hk : k < n) (h : okA x = false) : fewB l n = false := by
  unfold fewB
  rw [List.all_eq_false]
  refine ⟨x, List.mem_of_getElem? (i := k) (by rw [List.getElem?_take, if_pos hk]; exact hx), by simp [h]⟩
theorem few_next {l : List Ac} {k : Nat} {x : Ac} (hx : l[k]? = some x) (h : okA x = true) (h0 : fewB l k = true) : fewB l (k + 1) = true := by
  unfold fewB at *
  rw [List.take_add_one, hx, List.all_append, h0]
  simp [h]
theorem few_end {l : List Ac} {n k : Nat} (h0 : fewB l k = true) (h1 : k ≤ l.length) (h2 : k ≤ n) (h : ¬ k < l.length ∨ ¬ k < n) : fewB l n = true := by
  rcases h with h | h
  · have : l.take n = l.take k := by rw [List.take_of_length_le (by omega), List.take_of_length_le (by omega)]
    unfold fewB at *
    rw [this]; exact h0
  · rw [show n = k by omega]; exact h0
theorem wrapu_nn (x : Int) : 0 ≤ IntKind.u64.wrap x := by
  simp [IntKind.wrap, IntKind.bits, IntKind.signed]
  omega
theorem delS_not {l : List Pr} {k : ByteArray} (h : hasK l k = false) : delS l k = l := by
  unfold delS
  rw [List.filter_eq_self]
  intro p hp
  unfold hasK at h
  rw [List.any_eq_false] at h
  simpa using h p hp
theorem delS_putS {l : List Pr} {k v : ByteArray} (hs : Srt l) (h : hasK l k = false) : delS (putS l k v) k = l :=
  Srt_ext (delS_srt (putS_srt hs k v) k) hs fun p => by
    have hd : ∀ m : List Pr, p ∈ delS m k ↔ p ∈ m ∧ p.key ≠ k := fun m => by unfold delS; rw [List.mem_filter]; simp
    rw [hd, mem_putS]
    constructor
    · rintro ⟨⟨h1, _⟩ | rfl, h2⟩
      · exact h1
      · exact absurd rfl h2
    · intro hp
      unfold hasK at h
      rw [List.any_eq_false] at h
      have : p.key ≠ k := by simpa using h p hp
      exact ⟨.inl ⟨hp, this⟩, this⟩
structure BkZ where
  k : Nat
  it : Itm
  m : List Pr
end Go.Proofs.Ytbmpdccoffkjgaa.Ow
