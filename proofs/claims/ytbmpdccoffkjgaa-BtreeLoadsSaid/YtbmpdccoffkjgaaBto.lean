/- Lists whose keys rise, by what is in them. -/
import Derived.Test.YtbmpdccoffkjgaaBtn
namespace Go.Proofs.Ytbmpdccoffkjgaa.Ow
open Go
set_option linter.unusedVariables false
theorem Srt_ext : ∀ {a b : List Pr}, Srt a → Srt b → (∀ p, p ∈ a ↔ p ∈ b) → a = b
  | [], [], _, _, _ => rfl
  | [], y :: b, _, _, h => by have := (h y).2 (List.mem_cons_self ..); cases this
  | x :: a, [], _, _, h => by have := (h x).1 (List.mem_cons_self ..); cases this
  | x :: a, y :: b, ha, hb, h => by
    obtain ⟨ha1, ha2⟩ := List.pairwise_cons.1 ha
    obtain ⟨hb1, hb2⟩ := List.pairwise_cons.1 hb
    have e : x = y := by
      rcases List.mem_cons.1 ((h x).1 (List.mem_cons_self ..)) with h1 | h1
      · exact h1
      · rcases List.mem_cons.1 ((h y).2 (List.mem_cons_self ..)) with h2 | h2
        · exact h2.symm
        · have h3 := hb1 x h1
          have h4 := ha1 y h2
          rw [slt_asymm h3] at h4
          cases h4
    subst e
    rw [Srt_ext ha2 hb2 fun p => ⟨fun hp => ?_, fun hp => ?_⟩]
    · rcases List.mem_cons.1 ((h p).1 (List.mem_cons_of_mem _ hp)) with rfl | h1
      · have := ha1 p hp; rw [slt_irrefl] at this; cases this
      · exact h1
    · rcases List.mem_cons.1 ((h p).2 (List.mem_cons_of_mem _ hp)) with rfl | h1
      · have := hb1 p hp; rw [slt_irrefl] at this; cases this
      · exact h1
theorem mem_putS {l : List Pr} {k v : ByteArray} {p : Pr} : p ∈ putS l k v ↔ (p ∈ l ∧ p.key ≠ k) ∨ p = ⟨k, v⟩ := by
  unfold putS
  simp only [List.mem_append, List.mem_cons, List.mem_filter]
  constructor
  · rintro (⟨h1, h2⟩ | rfl | ⟨h1, h2⟩)
    · exact .inl ⟨h1, slt_ne h2⟩
    · exact .inr rfl
    · exact .inl ⟨h1, (slt_ne h2).symm⟩
  · rintro (⟨h1, h2⟩ | rfl)
    · rcases slt_tri p.key k with h | h | h
      · exact .inl ⟨h1, h⟩
      · exact absurd h h2
      · exact .inr (.inr ⟨h1, h⟩)
    · exact .inr (.inl rfl)
/-- Keys put, each with itself. -/
def putsK (l : List ByteArray) : List Pr := l.foldl (fun a k => putS a k k) []
theorem mem_puts : ∀ {l : List ByteArray} {a : List Pr} {p : Pr}, p ∈ l.foldl (fun a k => putS a k k) a ↔ (p ∈ a ∧ p.key ∉ l) ∨ (p.key ∈ l ∧ p.val = p.key)
  | [], a, p => by simp
  | k :: l, a, p => by
    rw [List.foldl_cons, mem_puts, mem_putS]
    constructor
    · rintro (⟨⟨h1, h2⟩ | rfl, h3⟩ | ⟨h1, h2⟩)
      · exact .inl ⟨h1, by simp [h2, h3]⟩
      · exact .inr ⟨by simp, rfl⟩
      · exact .inr ⟨by simp [h1], h2⟩
    · rintro (⟨h1, h2⟩ | ⟨h1, h2⟩)
      · simp at h2
        exact .inl ⟨.inl ⟨h1, h2.1⟩, h2.2⟩
      · rcases List.mem_cons.1 h1 with h3 | h3
        · by_cases h4 : p.key ∈ l
          · exact .inr ⟨h4, h2⟩
          · refine .inl ⟨.inr ?_, h4⟩
            cases p
            simp only at h2 h3
            rw [h2, h3]
        · exact .inr ⟨h3, h2⟩
theorem puts_srt : ∀ {l : List ByteArray} {a : List Pr}, Srt a → Srt (l.foldl (fun a k => putS a k k) a)
  | [], _, h => h
  | k :: l, a, h => puts_srt (l := l) (putS_srt h k k)
theorem putsK_rev (l : List ByteArray) : putsK l.reverse = putsK l :=
  Srt_ext (puts_srt List.Pairwise.nil) (puts_srt List.Pairwise.nil) fun p => by
    unfold putsK
    rw [mem_puts, mem_puts]
    simp
theorem putsK_take {l : List ByteArray} {k : Nat} {x : ByteArray} (h : l[k]? = some x) : putsK (l.take (k + 1)) = putS (putsK (l.take k)) x x := by
  unfold putsK
  rw [List.take_add_one, h, List.foldl_append]
  rfl
theorem putsK_len : ∀ (l : List ByteArray), (putsK l).length ≤ l.length := by
  have : ∀ (l : List ByteArray) (a : List Pr), Srt a → (l.foldl (fun a k => putS a k k) a).length ≤ a.length + l.length := by
    intro l
    induction l with
    | nil => intro a _; simp
    | cons k l ih =>
      intro a ha
      have h1 := ih (putS a k k) (putS_srt ha k k)
      have h2 := putS_len ha k k
      rw [List.foldl_cons, List.length_cons]
      split at h2 <;> omega
  intro l
  have h := this l [] List.Pairwise.nil
  rw [List.length_nil, Nat.zero_add] at h
  exact h
theorem rng_mem {lo hi : ByteArray} {L : Nat} {l : List Pr} {p : Pr} (h : p ∈ rng lo hi L [] l) : inR lo hi p = true := by
  unfold rng at h
  rw [List.nil_append] at h
  exact (List.mem_filter.1 (List.mem_of_mem_take h)).2
theorem inR_lo {lo hi : ByteArray} {p : Pr} (h : inR lo hi p = true) : slt p.key lo = false := by
  unfold inR at h
  rw [Bool.and_eq_true] at h
  simpa using h.1
theorem inR_hi {lo hi : ByteArray} {p : Pr} (h : inR lo hi p = true) (h0 : ¬ hi = ⟨#[]⟩) : slt p.key hi = true := by
  unfold inR at h
  rw [Bool.and_eq_true, Bool.or_eq_true] at h
  rcases h.2 with h1 | h1
  · exact absurd (ByteArray.size_eq_zero_iff.1 (of_decide_eq_true h1)) h0
  · exact h1
def encS (s : ByteArray) : List Value := [.string s]
theorem encS_ok : Enc encS 1 := ⟨fun _ => rfl, fun x v hv => by simp [encS] at hv; subst hv; rfl⟩
structure OrdZ where
  k : Nat
  a : Itm
  b : Itm
end Go.Proofs.Ytbmpdccoffkjgaa.Ow
