/- Two ranges that meet at a key are one. -/
import Derived.Test.YtbmpdccoffkjgaaByi
import Derived.Test.YtbmpdccoffkjgaaBto
namespace Go.Proofs.Ytbmpdccoffkjgaa.Ow
open Go
set_option linter.unusedVariables false
theorem inR_iff {lo hi : ByteArray} {p : Pr} : inR lo hi p = true ↔ slt p.key lo = false ∧ (hi = ⟨#[]⟩ ∨ slt p.key hi = true) := by
  unfold inR
  rw [Bool.and_eq_true, Bool.or_eq_true]
  constructor
  · rintro ⟨h1, h2⟩
    exact ⟨by simpa using h1, h2.imp (fun h => ByteArray.size_eq_zero_iff.1 (of_decide_eq_true h)) id⟩
  · rintro ⟨h1, h2⟩
    exact ⟨by simp [h1], h2.imp (fun h => decide_eq_true (by rw [h]; rfl)) id⟩
theorem rng_filter {lo hi : ByteArray} {L : Nat} {l : List Pr} (hl : l.length ≤ L) : rng lo hi L [] l = l.filter (inR lo hi) := by
  unfold rng
  rw [List.nil_append, List.take_of_length_le]
  exact Nat.le_trans (List.length_filter_le _ _) (by simpa using hl)
theorem rng_parts {lo md hi : ByteArray} {L : Nat} {l : List Pr} (hs : Srt l) (hl : l.length ≤ L) (h0 : ¬ md = ⟨#[]⟩) (h1 : slt md lo = false) (h2 : hi = ⟨#[]⟩ ∨ slt hi md = false) :
    rng lo hi L [] l = rng lo md L [] l ++ rng md hi L [] l := by
  rw [rng_filter hl, rng_filter hl, rng_filter hl]
  have hlo : ∀ {k : ByteArray}, slt k md = false → slt k lo = false := fun {k} h => by
    cases e : slt k lo with
    | false => rfl
    | true => have := slt_of_lt_of_le e h1; rw [h] at this; cases this
  refine Srt_ext (hs.sub List.filter_sublist) (List.pairwise_append.2 ⟨hs.sub List.filter_sublist, hs.sub List.filter_sublist, fun p hp q hq => ?_⟩) fun p => ?_
  · have hp2 := (inR_iff.1 (List.mem_filter.1 hp).2).2.resolve_left h0
    have hq1 := (inR_iff.1 (List.mem_filter.1 hq).2).1
    exact slt_of_lt_of_le hp2 hq1
  · rw [List.mem_append, List.mem_filter, List.mem_filter, List.mem_filter, inR_iff, inR_iff, inR_iff]
    constructor
    · rintro ⟨hm, a1, a2⟩
      cases e : slt p.key md with
      | true => exact .inl ⟨hm, a1, .inr rfl⟩
      | false => exact .inr ⟨hm, rfl, a2⟩
    · rintro (⟨hm, a1, a2⟩ | ⟨hm, a1, a2⟩)
      · refine ⟨hm, a1, h2.imp id fun h => ?_⟩
        exact slt_of_lt_of_le (a2.resolve_left h0) h
      · exact ⟨hm, hlo a1, a2⟩
end Go.Proofs.Ytbmpdccoffkjgaa.Ow
