/- Whether keys rise, neighbour by neighbour. -/
import Derived.Test.YtbmpdccoffkjgaaByf
namespace Go.Proofs.Ytbmpdccoffkjgaa.Ow
open Go
set_option linter.unusedVariables false
theorem rix0 {l : List Pr} {k : Nat} {x : Pr} (h : l[k]? = some x) : l[((k : Int) + 1 - 1).toNat]? = some x := by
  rw [show ((k : Int) + 1 - 1).toNat = k by omega]; exact h
theorem rix1 {l : List Pr} {k : Nat} {x : Pr} (h : l[k + 1]? = some x) : l[((k : Int) + 1).toNat]? = some x := by
  rw [show ((k : Int) + 1).toNat = k + 1 by omega]; exact h
theorem srt_false {l : List Pr} (h : ¬ Srt l) : srt l = false := by
  cases e : srt l with
  | false => rfl
  | true => exact absurd (srt_iff.1 e) h
theorem rises_no {l : List Pr} {k : Nat} {p q : Pr} (hp : l[k]? = some p) (hq : l[k + 1]? = some q) (h : slt p.key q.key = false) : srt l = false :=
  srt_false fun hs => by have := hs.lt (Nat.lt_succ_self k) hp hq; rw [h] at this; cases this
theorem rises_yes : ∀ {l : List Pr}, (∀ i p q, i + 1 < l.length → l[i]? = some p → l[i + 1]? = some q → slt p.key q.key = true) → srt l = true := by
  have : ∀ {l : List Pr}, (∀ i p q, i + 1 < l.length → l[i]? = some p → l[i + 1]? = some q → slt p.key q.key = true) → Srt l := by
    intro l
    induction l with
    | nil => intro _; exact List.Pairwise.nil
    | cons x r ih =>
      intro h
      have hr := ih fun i p q hi hp hq => h (i + 1) p q (by simpa using hi) (by simpa using hp) (by simpa using hq)
      refine List.pairwise_cons.2 ⟨fun y hy => ?_, hr⟩
      cases r with
      | nil => cases hy
      | cons z r =>
        have hz : slt x.key z.key = true := h 0 x z (by simp) rfl rfl
        rcases List.mem_cons.1 hy with rfl | hy
        · exact hz
        · exact slt_trans hz ((List.pairwise_cons.1 hr).1 y hy)
  intro l h
  exact srt_iff.2 (this h)
end Go.Proofs.Ytbmpdccoffkjgaa.Ow
