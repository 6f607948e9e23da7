/- How the arguments of layer 7 read. -/
import Derived.Test.YtbmpdccoffkjgaaBye
import Derived.Test.YtbmpdccoffkjgaaOwn9
import Derived.Test.YtbmpdccoffkjgaaProg
namespace Go.Proofs.Ytbmpdccoffkjgaa.Ow
open Go
set_option linter.unusedVariables false
theorem read_Act {H : Type} {enc : TypeId × Value → H} {w : World} {base : Nat} {spare : Nat → Bool} {held : Bool} (fuel : Nat) (cs : List Value) (x : DataW H × List MemPlace) (h : DataW.trod enc Try.prog w base spare held fuel 37 cs = some x) : ∃ v : Ac, cs = encA v ∧ True := by
  obtain ⟨xs, m, rfl, _, hcl, hl, hf⟩ := DataW.trod_struct Try.underlying37 h
  have e0 := hf 0 _ rfl
  obtain ⟨y0, hy0⟩ : ∃ y, xs[0]? = some y := ⟨xs[0]'(by simp at hl; omega), List.getElem?_eq_getElem _⟩
  rw [hy0] at e0
  have e1 := hf 1 _ rfl
  obtain ⟨y1, hy1⟩ : ∃ y, xs[1]? = some y := ⟨xs[1]'(by simp at hl; omega), List.getElem?_eq_getElem _⟩
  rw [hy1] at e1
  have e2 := hf 2 _ rfl
  obtain ⟨y2, hy2⟩ : ∃ y, xs[2]? = some y := ⟨xs[2]'(by simp at hl; omega), List.getElem?_eq_getElem _⟩
  rw [hy2] at e2
  have e3 := hf 3 _ rfl
  obtain ⟨y3, hy3⟩ : ∃ y, xs[3]? = some y := ⟨xs[3]'(by simp at hl; omega), List.getElem?_eq_getElem _⟩
  rw [hy3] at e3
  have e4 := hf 4 _ rfl
  obtain ⟨y4, hy4⟩ : ∃ y, xs[4]? = some y := ⟨xs[4]'(by simp at hl; omega), List.getElem?_eq_getElem _⟩
  rw [hy4] at e4
  have hlen : cs.length = 5 := hcl.trans (by kernel_rfl)
  obtain ⟨c0, c1, c2, c3, c4, rfl⟩ : ∃ c0 c1 c2 c3 c4, cs = [c0, c1, c2, c3, c4] := by
    match cs, hlen with | [c0, c1, c2, c3, c4], _ => exact ⟨_, _, _, _, _, rfl⟩
  clear hf hl hcl hlen
  have e0' : DataW.trod enc Try.prog w base spare held m 3 [c0] = some y0 := e0
  obtain ⟨x0, hk0, _⟩ := read_int Try.underlying3 e0'
  obtain rfl : c0 = .int .i64 x0 := by simpa using hk0
  have e1' : DataW.trod enc Try.prog w base spare held m 3 [c1] = some y1 := e1
  obtain ⟨x1, hk1, _⟩ := read_int Try.underlying3 e1'
  obtain rfl : c1 = .int .i64 x1 := by simpa using hk1
  have e2' : DataW.trod enc Try.prog w base spare held m 9 [c2] = some y2 := e2
  obtain ⟨x2, hk2⟩ := read_string Try.underlying9 e2'
  obtain rfl : c2 = .string x2 := by simpa using hk2
  have e3' : DataW.trod enc Try.prog w base spare held m 9 [c3] = some y3 := e3
  obtain ⟨x3, hk3⟩ := read_string Try.underlying9 e3'
  obtain rfl : c3 = .string x3 := by simpa using hk3
  have e4' : DataW.trod enc Try.prog w base spare held m 9 [c4] = some y4 := e4
  obtain ⟨x4, hk4⟩ := read_string Try.underlying9 e4'
  obtain rfl : c4 = .string x4 := by simpa using hk4
  exact ⟨⟨x0, x1, x2, x3, x4⟩, rfl, trivial⟩
end Go.Proofs.Ytbmpdccoffkjgaa.Ow
