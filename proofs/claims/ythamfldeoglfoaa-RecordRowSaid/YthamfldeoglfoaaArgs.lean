/- How arguments that lie in memory read as lists. -/
import Derived.Test.YthamfldeoglfoaaWWords
import Derived.WalkKit
import Derived.ProofKit
import Derived.SizedLaws
namespace Go.Proofs.Ythamfldeoglfoaa.Args
open Go.ChangeShapes Go.WideShapes Go.RowKit Go.Proofs.YthamfldeoglfoaaW.PrintWords
variable {H : Type} {enc : TypeId × Value → H} {P : Program} {w : World} {base : Nat} {spare : Nat → Bool} {held : Bool}

theorem read_int {k : IntKind} {t : TypeId} (ht : P.underlying t = some (.int k)) {fuel : Nat} {cs : List Value} {x : DataW H × List MemPlace} (h : DataW.trod enc P w base spare held fuel t cs = some x) :
    ∃ n, (Kd.int k).K w n cs ∧ (Lit.int k n).wf = true := by
  obtain ⟨n, rfl, _, hw⟩ := DataW.trod_int ht h
  exact ⟨n, rfl, hw⟩
theorem read_bool {t : TypeId} (ht : P.underlying t = some .bool) {fuel : Nat} {cs : List Value} {x : DataW H × List MemPlace} (h : DataW.trod enc P w base spare held fuel t cs = some x) :
    ∃ n, Kd.bool.K w n cs := by
  obtain ⟨n, rfl, _⟩ := DataW.trod_bool ht h
  exact ⟨n, rfl⟩
theorem read_string {t : TypeId} (ht : P.underlying t = some .string) {fuel : Nat} {cs : List Value} {x : DataW H × List MemPlace} (h : DataW.trod enc P w base spare held fuel t cs = some x) :
    ∃ s, Kd.string.K w s cs ∧ s.size ≤ 9223372036854775807 := by
  obtain ⟨s, rfl, _, hs⟩ := DataW.trod_string ht h
  exact ⟨s, rfl, hs⟩

theorem choose_list {α : Type} (n : Nat) (Q : Nat → α → Prop) (h : ∀ i, i < n → ∃ v, Q i v) : ∃ l : List α, l.length = n ∧ ∀ i v, l[i]? = some v → Q i v := by
  induction n with
  | zero => exact ⟨[], rfl, fun i v hv => by simp at hv⟩
  | succ n ih =>
    obtain ⟨l, hl, hq⟩ := ih (fun i hi => h i (by omega))
    obtain ⟨v, hv⟩ := h n (by omega)
    refine ⟨l ++ [v], by simp [hl], fun i u hu => ?_⟩
    by_cases hi : i < n
    · rw [List.getElem?_append_left (by omega)] at hu
      exact hq i u hu
    · rw [List.getElem?_append_right (by omega)] at hu
      have : i - l.length = 0 := by
        have := (List.getElem?_eq_some_iff.1 hu).1
        simp at this
        omega
      rw [this] at hu
      simp at hu
      subst hu
      have : i = n := by omega
      rw [this]
      exact hv

/-- A slice, whatever its elements are: each element reads as the kind d, and is good. -/
theorem read_slice {α : Type} (d : Kd α) (G : α → Prop) {t e : TypeId} (ht : P.underlying t = some (.slice e)) (hz : P.cellsOf e = d.sz)
    (hel : ∀ (n : Nat) (cs : List Value) (y : DataW H × List MemPlace), DataW.trod enc P w base spare held n e cs = some y → ∃ v, d.K w v cs ∧ G v)
    {fuel : Nat} {cs : List Value} {x : DataW H × List MemPlace} (h : DataW.trod enc P w base spare held fuel t cs = some x) :
    ∃ A c xs, cs = [.slice A xs.length c] ∧ xs.length ≤ c ∧ d.C w A xs.length xs ∧ (∀ v ∈ xs, G v) ∧ (xs.length = 0 ∨ ∃ el sp, x.1 = .slice el sp ∧ xs.length ≤ el.length + sp.length) := by
  rcases DataW.trod_slice ht h with ⟨rfl, rfl⟩ | ⟨a, len, cap, elems, rest, n, _, rfl, rfl, hb, hl, hm, hlen, hel1, _, _⟩
  · exact ⟨none, 0, [], rfl, Nat.le_refl _, Kd.C_nil d w, by simp, .inl rfl⟩
  · obtain ⟨xs, hxl, hxs⟩ := choose_list len (fun i v => G v ∧ ∃ c, c.length = d.sz ∧ d.K w v c ∧ ∀ j u, c[j]? = some u → w.cell? (a.add (i * d.sz + j)) = some u) (by
      intro i hi
      have h1 := hel1 i hi
      obtain ⟨y, hy⟩ : ∃ y, elems[i]? = some y := ⟨elems[i]'(by omega), List.getElem?_eq_getElem (by omega)⟩
      rw [hy, Option.bind_eq_some_iff] at h1
      obtain ⟨c, hc, hd⟩ := h1
      obtain ⟨v, hk, hg⟩ := hel _ _ _ hd
      obtain ⟨_, hcl, hcc⟩ := World.cells?_some hc
      refine ⟨v, hg, c, by rw [hcl, hz], hk, fun j u hu => ?_⟩
      have hj := (List.getElem?_eq_some_iff.1 hu).1
      have h2 := hcc j (by omega)
      rw [hz, Addr.add_add] at h2
      rw [h2, hu])
    subst hxl
    refine ⟨some a, cap, xs, rfl, hl, ⟨rfl, Nat.le_trans hl hm, fun _ => ⟨a, rfl, fun j p hj => ?_⟩⟩, ?_, .inr ⟨_, _, rfl, by simp; omega⟩⟩
    · obtain ⟨_, c, hc1, hc2, hc3⟩ := hxs j p hj
      exact ⟨c, hc1, hc2, hc3⟩
    · intro v hv
      obtain ⟨i, hi⟩ := List.getElem?_of_mem hv
      exact (hxs i v hi).1
/-- A slice in a field of a struct that came in is no greater than its weight allows. -/
theorem sized_field {ts : List TypeId} {ds : List (DataW H)} (h : (DataW.weightsEach P ts ds).all (· ≤ reachBytes) = true) {j i : Nat} {t t' e : TypeId} {fs : Array Field} {parts elems sp : List (DataW H)}
    (ht : ts[j]? = some t) (hd : ds[j]? = some (.agg parts)) (hu : P.underlying t = some (.struct fs)) (hf : (fs.toList.map (·.type))[i]? = some t') (hp : parts[i]? = some (.slice elems sp)) (hu' : P.underlying t' = some (.slice e)) :
    (elems.length + sp.length) * P.bytesOf e ≤ reachBytes := by
  have h1 : (elems.length + sp.length) * P.bytesOf e ∈ DataW.weightsEach P (fs.toList.map (·.type)) parts := DataW.weights_mem_each hf hp _ (by simp [DataW.weights, hu'])
  have h2 := List.all_eq_true.1 h _ (DataW.weights_mem_each ht hd _ (by simpa [DataW.weights, hu] using h1))
  simpa using h2
end Go.Proofs.Ythamfldeoglfoaa.Args
