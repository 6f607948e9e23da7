/- How the arguments of layer 7 read. -/
import Derived.Test.YtbmpdccoffkjgaaBta
import Derived.Test.YtbmpdccoffkjgaaOwn9
import Derived.Test.YtbmpdccoffkjgaaProg
namespace Go.Proofs.Ytbmpdccoffkjgaa.Ow
open Go
set_option linter.unusedVariables false
theorem read_Pair {H : Type} {enc : TypeId × Value → H} {w : World} {base : Nat} {spare : Nat → Bool} {held : Bool} (fuel : Nat) (cs : List Value) (x : DataW H × List MemPlace) (h : DataW.trod enc Try.prog w base spare held fuel 47 cs = some x) : ∃ v : Pr, cs = encP v ∧ True := by
  obtain ⟨xs, m, rfl, _, hcl, hl, hf⟩ := DataW.trod_struct Try.underlying47 h
  have e0 := hf 0 _ rfl
  obtain ⟨y0, hy0⟩ : ∃ y, xs[0]? = some y := ⟨xs[0]'(by simp at hl; omega), List.getElem?_eq_getElem _⟩
  rw [hy0] at e0
  have e1 := hf 1 _ rfl
  obtain ⟨y1, hy1⟩ : ∃ y, xs[1]? = some y := ⟨xs[1]'(by simp at hl; omega), List.getElem?_eq_getElem _⟩
  rw [hy1] at e1
  have hlen : cs.length = 2 := hcl.trans (by kernel_rfl)
  obtain ⟨c0, c1, rfl⟩ : ∃ c0 c1, cs = [c0, c1] := by
    match cs, hlen with | [c0, c1], _ => exact ⟨_, _, rfl⟩
  clear hf hl hcl hlen
  have e0' : DataW.trod enc Try.prog w base spare held m 9 [c0] = some y0 := e0
  obtain ⟨x0, hk0⟩ := read_string Try.underlying9 e0'
  obtain rfl : c0 = .string x0 := by simpa using hk0
  have e1' : DataW.trod enc Try.prog w base spare held m 9 [c1] = some y1 := e1
  obtain ⟨x1, hk1⟩ := read_string Try.underlying9 e1'
  obtain rfl : c1 = .string x1 := by simpa using hk1
  exact ⟨⟨x0, x1⟩, rfl, trivial⟩
end Go.Proofs.Ytbmpdccoffkjgaa.Ow
