/- From the calculus to the rows: how arguments read, and that a call leaves what there was. -/
import Derived.Test.YtbmpdccoffkjgaaOwn8
import Derived.Below
import Derived.WalkKit
import Derived.ProofKit
import Derived.SizedLaws
namespace Go.Proofs.Ytbmpdccoffkjgaa.Ow
open Go
set_option linter.unusedVariables false
open Go.ChangeShapes Go.WideShapes Go.RowKit
theorem own_of (w : World) : Own w [] (Mem.of w) := ⟨by simp, fun b hb => by simp at hb, fun i o h => h, fun i o _ b hb => by simp at hb, rfl⟩
theorem Own.below {w w' : World} {Bs : List Blk} {F : Mem} (h : Own w' Bs F) (hle : Le (Mem.of w) F) : Below w.heap.size w w' := by
  have hr : rest w' = rest w := h.rs.trans hle.re.symm
  simp only [rest, Prod.mk.injEq] at hr
  have hb : ∀ k, k < w.heap.size → w'.heap[k]? = w.heap[k]? := fun k hk => by
    have e : w.heap[k]? = some w.heap[k] := Array.getElem?_eq_getElem hk
    rw [e]
    exact h.fr k _ (hle.le k _ e)
  refine ⟨hr.2.1, hr.1, hr.2.2, ?_, hb⟩
  rcases Nat.eq_zero_or_pos w.heap.size with e | e
  · omega
  · have h1 := hb (w.heap.size - 1) (by omega)
    rw [Array.getElem?_eq_getElem (by omega : w.heap.size - 1 < w.heap.size)] at h1
    have := (Array.getElem?_eq_some_iff.1 h1).1
    omega
/-- A call's end, as the rows ask. -/
theorem Fn.calls {P : Program} {f : FuncId} {args : Array Value} {w : World} {x : Value} (h : Fn P f args [] (Mem.of w) (fun v M G => M = [] ∧ v = x)) : Calls P f args w fun e w' => e = .returned x ∧ Below w.heap.size w w' :=
  (h.run w [] (own_of w)).mono (by
    rintro e w' ⟨v, M, G, rfl, hle, ⟨rfl, rfl⟩, ho⟩
    exact ⟨rfl, ho.below hle⟩)
section
variable {H : Type} {enc : TypeId × Value → H} {P : Program} {w : World} {base : Nat} {spare : Nat → Bool} {held : Bool}
theorem read_int {k : IntKind} {t : TypeId} (ht : P.underlying t = some (.int k)) {fuel : Nat} {cs : List Value} {x : DataW H × List MemPlace} (h : DataW.trod enc P w base spare held fuel t cs = some x) :
    ∃ n, cs = [.int k n] ∧ (Lit.int k n).wf = true := by
  obtain ⟨n, rfl, _, hw⟩ := DataW.trod_int ht h
  exact ⟨n, rfl, hw⟩
theorem read_bool {t : TypeId} (ht : P.underlying t = some .bool) {fuel : Nat} {cs : List Value} {x : DataW H × List MemPlace} (h : DataW.trod enc P w base spare held fuel t cs = some x) :
    ∃ b, cs = [.bool b] := by
  obtain ⟨n, rfl, _⟩ := DataW.trod_bool ht h
  exact ⟨n, rfl⟩
theorem read_string {t : TypeId} (ht : P.underlying t = some .string) {fuel : Nat} {cs : List Value} {x : DataW H × List MemPlace} (h : DataW.trod enc P w base spare held fuel t cs = some x) :
    ∃ s, cs = [.string s] := by
  obtain ⟨s, rfl, _⟩ := DataW.trod_string ht h
  exact ⟨s, rfl⟩
theorem choose_list {α : Type} (n : Nat) (Q : Nat → α → Prop) (h : ∀ i, i < n → ∃ v, Q i v) : ∃ l : List α, l.length = n ∧ ∀ i v, l[i]? = some v → Q i v := by
  induction n with
  | zero => exact ⟨[], rfl, fun i v hv => by simp at hv⟩
  | succ n ih =>
    obtain ⟨l, hl, hq⟩ := ih (fun i hi => h i (by omega))
    obtain ⟨v, hv⟩ := h n (by omega)
    refine ⟨l ++ [v], by simp [hl], fun i u hu => ?_⟩
    by_cases hi : i < n
    · rw [List.getElem?_append_left (by omega)] at hu
      exact hq i u hu
    · rw [List.getElem?_append_right (by omega)] at hu
      have : i - l.length = 0 := by
        have := (List.getElem?_eq_some_iff.1 hu).1
        simp at this
        omega
      rw [this] at hu
      simp at hu
      subst hu
      have : i = n := by omega
      rw [this]
      exact hv
theorem cell_some {a : Addr} {v : Value} (h : w.cell? a = some v) : ∃ c t fr, w.heap[a.block]? = some (.cells c t fr) ∧ a.spot = none ∧ c[a.off]? = some v := by
  unfold World.cell? at h
  split at h
  · rename_i c t fr e
    cases hs : a.spot with
    | none => rw [hs] at h; exact ⟨c, t, fr, e, rfl, by simpa using h⟩
    | some n => rw [hs] at h; simp at h
  · cases h
/-- A slice, whatever its elements are. -/
theorem read_slice {α : Type} {encv : α → List Value} {sz : Nat} (G : α → Prop) {t e : TypeId} (ht : P.underlying t = some (.slice e)) (hz : P.cellsOf e = sz) (hp : 0 < sz) (hE : ∀ v, (encv v).length = sz)
    (hel : ∀ (n : Nat) (cs : List Value) (y : DataW H × List MemPlace), DataW.trod enc P w base spare held n e cs = some y → ∃ v, cs = encv v ∧ G v)
    {fuel : Nat} {cs : List Value} {x : DataW H × List MemPlace} (h : DataW.trod enc P w base spare held fuel t cs = some x) :
    ∃ A c xs, cs = [.slice A xs.length c] ∧ Sl (Mem.of w) encv sz A c xs ∧ (∀ v ∈ xs, G v) ∧ (xs.length = 0 ∨ ∃ el sp, x.1 = .slice el sp ∧ xs.length ≤ el.length + sp.length) := by
  rcases DataW.trod_slice ht h with ⟨rfl, rfl⟩ | ⟨a, len, cap, elems, rest, n, _, rfl, rfl, hb, hl, hm, hlen, hel1, _, _⟩
  · exact ⟨none, 0, [], rfl, .nil, by simp, .inl rfl⟩
  · obtain ⟨xs, hxl, hxs⟩ := choose_list len (fun i v => G v ∧ ∀ j u, (encv v)[j]? = some u → w.cell? (a.add (i * sz + j)) = some u) (by
      intro i hi
      have h1 := hel1 i hi
      obtain ⟨y, hy⟩ : ∃ y, elems[i]? = some y := ⟨elems[i]'(by omega), List.getElem?_eq_getElem (by omega)⟩
      rw [hy, Option.bind_eq_some_iff] at h1
      obtain ⟨c, hc, hd⟩ := h1
      obtain ⟨v, rfl, hg⟩ := hel _ _ _ hd
      obtain ⟨_, hcl, hcc⟩ := World.cells?_some hc
      refine ⟨v, hg, fun j u hu => ?_⟩
      have hj := (List.getElem?_eq_some_iff.1 hu).1
      have h2 := hcc j (by rw [← hcl]; exact hj)
      rw [hz, Addr.add_add] at h2
      rw [h2, hu])
    subst hxl
    refine ⟨some a, cap, xs, rfl, ⟨hl, hm, ?_⟩, ?_, .inr ⟨_, _, rfl, by simp; omega⟩⟩
    · cases hx : xs with
      | nil => exact .inl rfl
      | cons x0 xr =>
        have h0 := (hxs 0 x0 (by rw [hx]; rfl)).2 0 ((encv x0)[0]'(by rw [hE]; exact hp)) (List.getElem?_eq_getElem _)
        obtain ⟨c, ty, fr, hh, hs, _⟩ := cell_some h0
        obtain ⟨blk, off, spot⟩ := a
        have hsp : spot = none := by
          cases spot with
          | none => rfl
          | some q => simp [Addr.add] at hs
        subst hsp
        rw [show Addr.add (⟨blk, off, none⟩ : Addr) (0 * sz + 0) = ⟨blk, off + (0 * sz + 0), none⟩ from add_at _ _ _] at hh
        refine .inr ⟨blk, off, rfl, fun i v hv => ⟨c, ty, fr, hh, fun j u hu => ?_⟩⟩
        rw [← hx] at hv
        have h1 := (hxs i v hv).2 j u hu
        obtain ⟨c', ty', fr', hh', _, hc'⟩ := cell_some h1
        rw [add_at] at hh' hc'
        have : (some (Obj.cells c ty fr)) = some (.cells c' ty' fr') := hh.symm.trans hh'
        injection this with this
        injection this with e1 e2 e3
        subst e1
        rw [show off + i * sz + j = off + (i * sz + j) by omega]
        exact hc'
    · intro v hv
      obtain ⟨i, hi⟩ := List.getElem?_of_mem hv
      exact (hxs i v hi).1
/-- A slice in a field of a struct that came in is no greater than its weight allows. -/
theorem sized_field {ts : List TypeId} {ds : List (DataW H)} (h : (DataW.weightsEach P ts ds).all (· ≤ reachBytes) = true) {j i : Nat} {t t' e : TypeId} {fs : Array Field} {parts elems sp : List (DataW H)}
    (ht : ts[j]? = some t) (hd : ds[j]? = some (.agg parts)) (hu : P.underlying t = some (.struct fs)) (hf : (fs.toList.map (·.type))[i]? = some t') (hp : parts[i]? = some (.slice elems sp)) (hu' : P.underlying t' = some (.slice e)) :
    (elems.length + sp.length) * P.bytesOf e ≤ reachBytes := by
  have h1 : (elems.length + sp.length) * P.bytesOf e ∈ DataW.weightsEach P (fs.toList.map (·.type)) parts := DataW.weights_mem_each hf hp _ (by simp [DataW.weights, hu'])
  have h2 := List.all_eq_true.1 h _ (DataW.weights_mem_each ht hd _ (by simpa [DataW.weights, hu] using h1))
  simpa using h2
end
theorem u8_range {n : Int} (h : (Lit.int .u8 n).wf = true) : 0 ≤ n ∧ n < 256 := by
  simp [Lit.wf, IntKind.min, IntKind.max, IntKind.bits, IntKind.signed] at h
  omega
theorem i8_range {n : Int} (h : (Lit.int .i8 n).wf = true) : -128 ≤ n ∧ n < 128 := by
  simp [Lit.wf, IntKind.min, IntKind.max, IntKind.bits, IntKind.signed] at h
  omega
end Go.Proofs.Ytbmpdccoffkjgaa.Ow
