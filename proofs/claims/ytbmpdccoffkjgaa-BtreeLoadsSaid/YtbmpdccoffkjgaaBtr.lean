/- What the steps of a tree are, one behind the other. -/
import Derived.Test.YtbmpdccoffkjgaaBtu
namespace Go.Proofs.Ytbmpdccoffkjgaa.Ow
open Go
set_option linter.unusedVariables false
theorem addL_root (T : TS) (n : Nd) : (addL T n).1.root = T.root ∧ (addL T n).1.count = T.count := by
  unfold addL
  split <;> exact ⟨rfl, rfl⟩
theorem splitT_root (T : TS) (i q c : Nat) (n f : Nd) (up : Pr) : (splitT T i q c n f up).root = T.root ∧ (splitT T i q c n f up).count = T.count := addL_root _ _
/-- Put, from a node on that is not full or whose child is not. -/
def PutR (k v : ByteArray) : Nat → TS → Nat → TS → Bool → Prop
  | 0, _, _, _, _ => False
  | m + 1, T, i, T', r => ∃ xi ki, T.nodes[i]? = some ⟨xi, ki⟩ ∧ Srt xi ∧ xi.length ≤ 5 ∧ ki.length ≤ 6 ∧ T.nodes.length ≤ 549755813888 ∧ T.count ≤ 549755813888 ∧ (∀ x ∈ T.free, x < T.nodes.length ∧ x ≠ i) ∧
      ((∃ p, hasK xi k = true ∧ xi[posK xi k]? = some p ∧ T' = T.setN i ⟨xi.set (posK xi k) ⟨p.key, v⟩, ki⟩ ∧ r = false) ∨
       (hasK xi k = false ∧ ki = [] ∧ T' = ⟨T.nodes.set i ⟨xi.take (posK xi k) ++ ⟨k, v⟩ :: xi.drop (posK xi k), ki⟩, T.free, T.root, T.count + 1⟩ ∧ r = true) ∨
       (∃ c xc kc up, hasK xi k = false ∧ ki[posK xi k]? = some c ∧ T.nodes[c]? = some ⟨xc, kc⟩ ∧ xc.length = 5 ∧ xc[2]? = some up ∧ c ≠ i ∧ (kc.length = 0 ∨ kc.length = 6) ∧ PutR k v m (splitT T i (posK xi k) c ⟨xi, ki⟩ ⟨xc, kc⟩ up) i T' r) ∨
       (∃ c xc kc, hasK xi k = false ∧ ki[posK xi k]? = some c ∧ T.nodes[c]? = some ⟨xc, kc⟩ ∧ xc.length < 5 ∧ PutR k v m T c T' r))
/-- Put. -/
def PutT (k v : ByteArray) (T T' : TS) (r : Bool) : Prop := ∃ xr kr, T.nodes[T.root]? = some ⟨xr, kr⟩ ∧ T.nodes.length ≤ 549755813888 ∧ (∀ x ∈ T.free, x < T.nodes.length) ∧
  ((xr.length < 5 ∧ ∃ m, PutR k v m T T.root T' r) ∨
   (xr.length = 5 ∧ ∃ T1 n up m, addL T ⟨[], [T.root]⟩ = (T1, n) ∧ xr[2]? = some up ∧ (kr.length = 0 ∨ kr.length = 6) ∧ T1.nodes[n]? = some ⟨[], [T.root]⟩ ∧ T1.nodes[T.root]? = some ⟨xr, kr⟩ ∧ T.root ≠ n ∧ (∀ x ∈ T1.free, x < T1.nodes.length ∧ x ≠ n) ∧ T1.nodes.length ≤ 549755813888 ∧
      PutR k v m (splitT ⟨T1.nodes, T1.free, n, T1.count⟩ n 0 T.root ⟨[], [T.root]⟩ ⟨xr, kr⟩ up) n T' r))
structure LpZ where
  m : Nat
  T : TS
  i : Nat
  it : Itm
end Go.Proofs.Ytbmpdccoffkjgaa.Ow
