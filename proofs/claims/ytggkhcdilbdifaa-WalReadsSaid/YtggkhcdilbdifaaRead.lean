/- How the arguments of layer 6 read. -/
import Derived.Test.YtggkhcdilbdifaaDsp
import Derived.Test.YtggkhcdilbdifaaOwn9
import Derived.Test.YtggkhcdilbdifaaProg
namespace Go.Proofs.Ytggkhcdilbdifaa.Ow
open Go
set_option linter.unusedVariables false
theorem read_File {H : Type} {enc : TypeId × Value → H} {w : World} {base : Nat} {spare : Nat → Bool} {held : Bool} (fuel : Nat) (cs : List Value) (x : DataW H × List MemPlace) (h : DataW.trod enc Try.prog w base spare held fuel 50 cs = some x) : ∃ v : Fl, cs = encF v ∧ True := by
  obtain ⟨xs, m, rfl, _, hcl, hl, hf⟩ := DataW.trod_struct Try.underlying50 h
  have e0 := hf 0 _ rfl
  obtain ⟨y0, hy0⟩ : ∃ y, xs[0]? = some y := ⟨xs[0]'(by simp at hl; omega), List.getElem?_eq_getElem _⟩
  rw [hy0] at e0
  have e1 := hf 1 _ rfl
  obtain ⟨y1, hy1⟩ : ∃ y, xs[1]? = some y := ⟨xs[1]'(by simp at hl; omega), List.getElem?_eq_getElem _⟩
  rw [hy1] at e1
  have e2 := hf 2 _ rfl
  obtain ⟨y2, hy2⟩ : ∃ y, xs[2]? = some y := ⟨xs[2]'(by simp at hl; omega), List.getElem?_eq_getElem _⟩
  rw [hy2] at e2
  have hlen : cs.length = 3 := hcl.trans (by kernel_rfl)
  obtain ⟨c0, c1, c2, rfl⟩ : ∃ c0 c1 c2, cs = [c0, c1, c2] := by
    match cs, hlen with | [c0, c1, c2], _ => exact ⟨_, _, _, rfl⟩
  clear hf hl hcl hlen
  have e0' : DataW.trod enc Try.prog w base spare held m 3 [c0] = some y0 := e0
  obtain ⟨x0, hk0, _⟩ := read_int Try.underlying3 e0'
  obtain rfl : c0 = .int .i64 x0 := by simpa using hk0
  have e1' : DataW.trod enc Try.prog w base spare held m 9 [c1] = some y1 := e1
  obtain ⟨x1, hk1⟩ := read_string Try.underlying9 e1'
  obtain rfl : c1 = .string x1 := by simpa using hk1
  have e2' : DataW.trod enc Try.prog w base spare held m 9 [c2] = some y2 := e2
  obtain ⟨x2, hk2⟩ := read_string Try.underlying9 e2'
  obtain rfl : c2 = .string x2 := by simpa using hk2
  exact ⟨⟨x0, x1, x2⟩, rfl, trivial⟩
end Go.Proofs.Ytggkhcdilbdifaa.Ow
