/- The document's answer, as it goes through its list. -/
import Derived.Test.YtbmpdccoffkjgaaBye
namespace Go.Proofs.Ytbmpdccoffkjgaa.Ow
open Go
set_option linter.unusedVariables false
def pR (K v : ByteArray) : Bool → List Pr → List Pr
  | d, [] => if d then [] else [⟨K, v⟩]
  | d, x :: r => (if (!d && (slt K x.key || decide (K = x.key))) = true then [⟨K, v⟩] else []) ++ ((if x.key = K then [] else [x]) ++ pR K v (d || (slt K x.key || decide (K = x.key))) r)
theorem pR_cons {K v : ByteArray} {d : Bool} {x : Pr} {r : List Pr} : pR K v d (x :: r) = (if (!d && (slt K x.key || decide (K = x.key))) = true then [⟨K, v⟩] else []) ++ ((if x.key = K then [] else [x]) ++ pR K v (d || (slt K x.key || decide (K = x.key))) r) := by
  conv => lhs; unfold pR
theorem pR_yes {K v : ByteArray} {d : Bool} {x : Pr} {r : List Pr} (hd : d = false) (h : (slt K x.key || decide (K = x.key)) = true) : pR K v d (x :: r) = ⟨K, v⟩ :: ((if x.key = K then [] else [x]) ++ pR K v true r) := by
  subst hd
  rw [pR_cons, h]
  rfl
theorem pR_no {K v : ByteArray} {d : Bool} {x : Pr} {r : List Pr} (h : d = true ∨ (slt K x.key || decide (K = x.key)) = false) : pR K v d (x :: r) = (if x.key = K then [] else [x]) ++ pR K v d r := by
  rcases h with rfl | h
  · rw [pR_cons]
    rfl
  · rw [pR_cons, h]
    simp
theorem pR_true {K v : ByteArray} : ∀ {l : List Pr}, pR K v true l = delS l K
  | [] => rfl
  | x :: r => by
    rw [pR_no (.inl rfl), pR_true]
    unfold delS
    by_cases h : x.key = K <;> simp [h]
theorem above_all {x : Pr} {r : List Pr} (hs : Srt (x :: r)) : Above r x.key := fun p hp => (List.pairwise_cons.1 hs).1 p hp
theorem pR_putS {K v : ByteArray} : ∀ {l : List Pr}, Srt l → pR K v false l = putS l K v
  | [], _ => rfl
  | x :: r, hs => by
    have hr := (List.pairwise_cons.1 hs).2
    have ha := above_all hs
    rcases slt_tri x.key K with h | h | h
    · rw [pR_no (.inr (by rw [slt_asymm h, decide_eq_false (fun e => slt_ne h e.symm)]; rfl)), pR_putS hr, if_neg (slt_ne h)]
      unfold putS
      simp [h, slt_asymm h]
    · subst h
      rw [pR_yes rfl (by simp), if_pos rfl, pR_true, delS_not ha.has]
      have := putS_mid (A := []) (M := [x]) (B := r) v (fun p hp => by cases hp) ha
      rw [putS_one] at this
      simpa using this.symm
    · have ha' : Above (x :: r) K := fun p hp => by
        rcases List.mem_cons.1 hp with rfl | hp
        · exact h
        · exact slt_trans h (ha p hp)
      have har : Above r K := fun p hp => ha' p (List.mem_cons_of_mem _ hp)
      rw [pR_yes rfl (by rw [h]; rfl), if_neg (slt_ne h).symm, pR_true, delS_not har.has]
      have := putS_mid (A := []) (M := []) (B := x :: r) v (fun p hp => by cases hp) ha'
      rw [putS_nil] at this
      simpa using this.symm
theorem pR_len {K v : ByteArray} : ∀ {l : List Pr} {d : Bool}, (pR K v d l).length ≤ 2 * l.length + 1
  | [], d => by unfold pR; split <;> simp
  | x :: r, d => by
    have := pR_len (K := K) (v := v) (l := r) (d := d || (slt K x.key || decide (K = x.key)))
    rw [pR_cons]
    simp only [List.length_append, List.length_cons]
    split <;> split <;> simp <;> omega
theorem hasK_drop {l : List Pr} {k : Nat} {x : Pr} {K : ByteArray} (hx : l[k]? = some x) : hasK (l.drop k) K = (decide (x.key = K) || hasK (l.drop (k + 1)) K) := by
  obtain ⟨h1, h2⟩ := List.getElem?_eq_some_iff.1 hx
  rw [List.drop_eq_getElem_cons h1, h2, hasK_cons]
theorem drop_cons {α : Type} {l : List α} {k : Nat} {x : α} (hx : l[k]? = some x) : l.drop k = x :: l.drop (k + 1) := by
  obtain ⟨h1, h2⟩ := List.getElem?_eq_some_iff.1 hx
  rw [List.drop_eq_getElem_cons h1, h2]
structure RpZ where
  x : RowP Pr
  d : Bool
  f : Bool
  k : Nat
theorem delS_cons (x : Pr) (r : List Pr) (K : ByteArray) : delS (x :: r) K = (if x.key = K then [] else [x]) ++ delS r K := by
  unfold delS
  by_cases h : x.key = K <;> simp [h]
theorem getS_cons (x : Pr) (r : List Pr) (K : ByteArray) : getS (x :: r) K = if x.key = K then some x.val else getS r K := by
  unfold getS
  by_cases h : x.key = K <;> simp [h]
end Go.Proofs.Ytbmpdccoffkjgaa.Ow
