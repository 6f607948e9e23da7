/- B-trees in plain Lean: the order of keys, lists of pairs, the document's answer. -/
import Derived.Test.YtbmpdccoffkjgaaOwn6
import Derived.Sort.Walk0
import Derived.Lib.Bytealg
set_option linter.unusedVariables false
namespace Go.Proofs.Ytbmpdccoffkjgaa.Ow
open Go
/-! ### The order of keys -/
theorem slt_iff {a b : ByteArray} : slt a b = true ↔ a.toList < b.toList := by
  unfold slt
  rw [bytesLess_eq]
  simp
theorem slt_irrefl (a : ByteArray) : slt a a = false := by
  rw [Bool.eq_false_iff, ne_eq, slt_iff]
  exact List.lt_irrefl _
theorem slt_trans {a b c : ByteArray} (h1 : slt a b = true) (h2 : slt b c = true) : slt a c = true := by
  rw [slt_iff] at *
  exact List.lt_trans h1 h2
theorem slt_asymm {a b : ByteArray} (h1 : slt a b = true) : slt b a = false := by
  cases h : slt b a
  · rfl
  · have := slt_trans h1 h
    rw [slt_irrefl] at this
    cases this
theorem slt_tri (a b : ByteArray) : slt a b = true ∨ a = b ∨ slt b a = true := by
  rw [slt_iff, slt_iff]
  by_cases h1 : a.toList < b.toList
  · exact .inl h1
  by_cases h2 : b.toList < a.toList
  · exact .inr (.inr h2)
  · exact .inr (.inl (by
    have e : a.toList = b.toList := List.le_antisymm (List.not_lt.1 h2) (List.not_lt.1 h1)
    have := toList_inj (a := a) (b := b)
    rw [e] at this
    simpa using this.symm))
theorem slt_ne {a b : ByteArray} (h : slt a b = true) : a ≠ b := by
  rintro rfl
  rw [slt_irrefl] at h
  cases h
theorem slt_false {a b : ByteArray} (h : slt a b = false) : a = b ∨ slt b a = true := by
  rcases slt_tri a b with h' | h' | h'
  · rw [h'] at h; cases h
  · exact .inl h'
  · exact .inr h'
/-- a ≤ b < c -/
theorem slt_of_le_of_lt {a b c : ByteArray} (h1 : slt b a = false) (h2 : slt b c = true) : slt a c = true := by
  rcases slt_false h1 with rfl | h
  · exact h2
  · exact slt_trans h h2
theorem slt_of_lt_of_le {a b c : ByteArray} (h1 : slt a b = true) (h2 : slt c b = false) : slt a c = true := by
  rcases slt_false h2 with rfl | h
  · exact h1
  · exact slt_trans h1 h
/-- strings.Compare -/
def cmpK (x y : ByteArray) : Int := Lib.compareBytes x.data.toList y.data.toList
theorem cmpL_lt : ∀ {a b : List UInt8}, Lib.compareBytes a b < 0 ↔ Op.bytesLess a b = true
  | [], [] => by simp [Lib.compareBytes, Op.bytesLess]
  | [], _ :: _ => by simp [Lib.compareBytes, Op.bytesLess]
  | _ :: _, [] => by simp [Lib.compareBytes, Op.bytesLess]
  | a :: l, b :: m => by
    have ih := cmpL_lt (a := l) (b := m)
    unfold Lib.compareBytes Op.bytesLess
    by_cases h1 : a < b
    · simp [h1]
    · by_cases h2 : b < a
      · have : ¬ a = b := fun e => by subst e; exact h1 h2
        simp [h1, h2, this]
      · have : a = b := UInt8.le_antisymm (UInt8.not_lt.1 h2) (UInt8.not_lt.1 h1)
        subst this
        simp [UInt8.lt_irrefl, ih]
theorem cmpL_zero : ∀ {a b : List UInt8}, Lib.compareBytes a b = 0 ↔ a = b
  | [], [] => by simp [Lib.compareBytes]
  | [], _ :: _ => by simp [Lib.compareBytes]
  | _ :: _, [] => by simp [Lib.compareBytes]
  | a :: l, b :: m => by
    have ih := cmpL_zero (a := l) (b := m)
    unfold Lib.compareBytes
    by_cases h1 : a < b
    · have : ¬ a = b := fun e => by subst e; exact UInt8.lt_irrefl _ h1
      simp [h1, this]
    · by_cases h2 : b < a
      · have : ¬ a = b := fun e => by subst e; exact h1 h2
        simp [h1, h2, this]
      · have : a = b := UInt8.le_antisymm (UInt8.not_lt.1 h2) (UInt8.not_lt.1 h1)
        subst this
        simp [UInt8.lt_irrefl, ih]
theorem cmpK_lt {x y : ByteArray} : cmpK x y < 0 ↔ slt x y = true := by
  unfold cmpK slt
  rw [Lib.toList_data, Lib.toList_data]
  exact cmpL_lt
theorem cmpK_zero {x y : ByteArray} : cmpK x y = 0 ↔ x = y := by
  unfold cmpK
  rw [cmpL_zero]
  exact ⟨fun h => ByteArray.ext (Array.toList_inj.1 h), fun h => by rw [h]⟩
theorem run_cmpstr {P : Program} {f : FuncId} {fn : Func} (hf : P.funcs[f]? = some fn) (h1 : (fn.name == "runtime.NumGoroutine") = false) (h2 : fn.body.isNone = true) (h3 : (Extern.findNext fn).isNone = true) (h4 : Extern.find fn = some Extern.BytealgCompare.compare) (w : World) (x y : ByteArray) :
    (callFunc f #[.string x, .string y]).run P w = .ok (.value (.int .i64 (cmpK x y))) w := by
  rw [run_callFunc_extern hf h1 h2 (by simpa using h3) h4, Lib.run_compareString]
  rfl
/-! ### Pairs -/
structure Pr where
  key : ByteArray
  val : ByteArray
deriving DecidableEq
def encP (p : Pr) : List Value := [.string p.key, .string p.val]
theorem encP_ok : Enc encP 2 := ⟨fun _ => rfl, fun x v hv => by simp [encP] at hv; rcases hv with rfl | rfl <;> rfl⟩
/-- Keys rise. -/
def Srt (l : List Pr) : Prop := l.Pairwise fun a b => slt a.key b.key = true
def srt : List Pr → Bool
  | [] => true
  | p :: r => r.all (fun q => slt p.key q.key) && srt r
theorem srt_iff : ∀ {l : List Pr}, srt l = true ↔ Srt l
  | [] => by simp [srt, Srt]
  | p :: r => by
    have := srt_iff (l := r)
    simp only [srt, Srt, List.pairwise_cons, Bool.and_eq_true, List.all_eq_true, this]
def posK (l : List Pr) (k : ByteArray) : Nat := l.countP fun p => slt p.key k
def hasK (l : List Pr) (k : ByteArray) : Bool := l.any fun p => decide (p.key = k)
theorem posK_le (l : List Pr) (k : ByteArray) : posK l k ≤ l.length := List.countP_le_length
/-- Where a key's place is, the list parts. -/
theorem posK_split : ∀ {l : List Pr}, Srt l → ∀ (k : ByteArray), (∀ p ∈ l.take (posK l k), slt p.key k = true) ∧ ∀ p ∈ l.drop (posK l k), slt p.key k = false
  | [], _, k => by simp
  | p :: r, h, k => by
    have h' := List.pairwise_cons.1 h
    obtain ⟨ih1, ih2⟩ := posK_split h'.2 k
    cases hk : slt p.key k with
    | true =>
      have e : posK (p :: r) k = posK r k + 1 := by simp [posK, hk]
      rw [e]
      refine ⟨fun q hq => ?_, fun q hq => ih2 q (by simpa using hq)⟩
      rw [List.take_succ_cons, List.mem_cons] at hq
      rcases hq with rfl | hq
      · exact hk
      · exact ih1 q hq
    | false =>
      have hr : ∀ q ∈ r, slt q.key k = false := fun q hq => by
        cases hq' : slt q.key k with
        | false => rfl
        | true => rw [slt_trans (h'.1 q hq) hq'] at hk; cases hk
      have e : posK (p :: r) k = 0 := by
        unfold posK
        rw [List.countP_eq_zero]
        intro q hq
        rcases List.mem_cons.1 hq with rfl | hq
        · simp [hk]
        · simp [hr q hq]
      rw [e]
      refine ⟨by simp, fun q hq => ?_⟩
      rw [List.drop_zero, List.mem_cons] at hq
      rcases hq with rfl | hq
      · exact hk
      · exact hr q hq
theorem posK_of {l : List Pr} {k : ByteArray} {i : Nat} (hi : i ≤ l.length) (h1 : ∀ p f, p < i → l[p]? = some f → slt f.key k = true) (h2 : ∀ p f, i ≤ p → l[p]? = some f → slt f.key k = false) : posK l k = i := by
  unfold posK
  rw [← List.take_append_drop i l, List.countP_append]
  have e1 : (l.take i).countP (fun f => slt f.key k) = (l.take i).length := by
    rw [List.countP_eq_length]
    intro f hf
    obtain ⟨p, hp⟩ := List.getElem?_of_mem hf
    rw [List.getElem?_take] at hp
    split at hp
    · exact h1 p f (by assumption) hp
    · cases hp
  have e2 : (l.drop i).countP (fun f => slt f.key k) = 0 := by
    rw [List.countP_eq_zero]
    intro f hf
    obtain ⟨p, hp⟩ := List.getElem?_of_mem hf
    rw [List.getElem?_drop] at hp
    simp [h2 _ f (by omega) hp]
  rw [e1, e2, List.length_take]
  omega
theorem Srt.lt {l : List Pr} (h : Srt l) {i j : Nat} {p q : Pr} (hij : i < j) (hp : l[i]? = some p) (hq : l[j]? = some q) : slt p.key q.key = true := by
  obtain ⟨hi, rfl⟩ := List.getElem?_eq_some_iff.1 hp
  obtain ⟨hj, rfl⟩ := List.getElem?_eq_some_iff.1 hq
  exact List.pairwise_iff_getElem.1 h i j hi hj hij
theorem hasK_of {l : List Pr} {k : ByteArray} {i : Nat} {f : Pr} (hs : Srt l) (hf : l[i]? = some f) (h1 : ∀ p f, p < i → l[p]? = some f → slt f.key k = true) (h2 : slt f.key k = false) : hasK l k = decide (f.key = k) := by
  rw [Bool.eq_iff_iff]
  unfold hasK
  rw [List.any_eq_true]
  constructor
  · rintro ⟨g, hg, e⟩
    have e := of_decide_eq_true e
    obtain ⟨p, hp⟩ := List.getElem?_of_mem hg
    rcases Nat.lt_trichotomy p i with h | h | h
    · exact absurd e (slt_ne (h1 p g h hp))
    · subst h; rw [hf] at hp; injection hp with hp; subst hp; exact decide_eq_true e
    · have := hs.lt h hf hp; rw [e, h2] at this; cases this
  · exact fun e => ⟨f, List.mem_of_getElem? hf, e⟩
theorem hasK_none {l : List Pr} {k : ByteArray} (h1 : ∀ p f, p < l.length → l[p]? = some f → slt f.key k = true) : hasK l k = false := by
  unfold hasK
  rw [List.any_eq_false]
  intro g hg
  obtain ⟨p, hp⟩ := List.getElem?_of_mem hg
  have := slt_ne (h1 p g (List.getElem?_eq_some_iff.1 hp).1 hp)
  simpa using this
/-- A key that is there stands at its place. -/
theorem hasK_get {l : List Pr} {k : ByteArray} (hs : Srt l) (h : hasK l k = true) : ∃ p, l[posK l k]? = some p ∧ p.key = k := by
  unfold hasK at h
  rw [List.any_eq_true] at h
  obtain ⟨f, hf, e⟩ := h
  have e := of_decide_eq_true e
  obtain ⟨p, hp⟩ := List.getElem?_of_mem hf
  have hpl := (List.getElem?_eq_some_iff.1 hp).1
  have : posK l k = p := posK_of (by omega) (fun q g hq hg => by have := hs.lt hq hg hp; rw [e] at this; exact this) (fun q g hq hg => by
    rcases Nat.lt_or_eq_of_le hq with hq | rfl
    · have := hs.lt hq hp hg; rw [e] at this; exact slt_asymm this
    · rw [hp] at hg; injection hg with hg; subst hg; rw [e]; exact slt_irrefl _)
  rw [this]
  exact ⟨f, hp, e⟩
theorem hasK_append (a b : List Pr) (k : ByteArray) : hasK (a ++ b) k = (hasK a k || hasK b k) := by simp [hasK]
theorem hasK_cons (p : Pr) (b : List Pr) (k : ByteArray) : hasK (p :: b) k = (decide (p.key = k) || hasK b k) := by simp [hasK]
def Below' (l : List Pr) (k : ByteArray) : Prop := ∀ p ∈ l, slt p.key k = true
def Above (l : List Pr) (k : ByteArray) : Prop := ∀ p ∈ l, slt k p.key = true
theorem Below'.has {l : List Pr} {k : ByteArray} (h : Below' l k) : hasK l k = false := by
  unfold hasK
  rw [List.any_eq_false]
  intro p hp
  simpa using slt_ne (h p hp)
theorem Above.has {l : List Pr} {k : ByteArray} (h : Above l k) : hasK l k = false := by
  unfold hasK
  rw [List.any_eq_false]
  intro p hp
  simpa using (slt_ne (h p hp)).symm
/-! ### The document's answer, over lists whose keys rise -/
def putS (l : List Pr) (k v : ByteArray) : List Pr := l.filter (fun p => slt p.key k) ++ ⟨k, v⟩ :: l.filter (fun p => slt k p.key)
def delS (l : List Pr) (k : ByteArray) : List Pr := l.filter fun p => decide (p.key ≠ k)
def getS (l : List Pr) (k : ByteArray) : Option ByteArray := (l.find? fun p => decide (p.key = k)).map (·.val)
theorem filter_below {l : List Pr} {k : ByteArray} (h : Below' l k) : l.filter (fun p => slt p.key k) = l ∧ l.filter (fun p => slt k p.key) = [] := by
  refine ⟨List.filter_eq_self.2 h, ?_⟩
  rw [List.filter_eq_nil_iff]
  intro p hp
  simp [slt_asymm (h p hp)]
theorem filter_above {l : List Pr} {k : ByteArray} (h : Above l k) : l.filter (fun p => slt p.key k) = [] ∧ l.filter (fun p => slt k p.key) = l := by
  refine ⟨?_, List.filter_eq_self.2 h⟩
  rw [List.filter_eq_nil_iff]
  intro p hp
  simp [slt_asymm (h p hp)]
/-- What is put between what is below and what is above. -/
theorem putS_mid {A M B : List Pr} {k : ByteArray} (v : ByteArray) (hA : Below' A k) (hB : Above B k) : putS (A ++ M ++ B) k v = A ++ putS M k v ++ B := by
  simp [putS, filter_below hA, filter_above hB]
theorem delS_mid {A M B : List Pr} {k : ByteArray} (hA : Below' A k) (hB : Above B k) : delS (A ++ M ++ B) k = A ++ delS M k ++ B := by
  have h1 : A.filter (fun p => decide (p.key ≠ k)) = A := List.filter_eq_self.2 fun p hp => by simpa using slt_ne (hA p hp)
  have h2 : B.filter (fun p => decide (p.key ≠ k)) = B := List.filter_eq_self.2 fun p hp => by simpa using (slt_ne (hB p hp)).symm
  simp only [delS, List.filter_append, h1, h2]
theorem putS_nil (k v : ByteArray) : putS [] k v = [⟨k, v⟩] := rfl
theorem putS_one (p : Pr) (v : ByteArray) : putS [p] p.key v = [⟨p.key, v⟩] := by simp [putS, slt_irrefl]
theorem delS_one (p : Pr) : delS [p] p.key = [] := by simp [delS]
theorem Srt.app {a b : List Pr} (h : Srt (a ++ b)) : Srt a ∧ Srt b ∧ ∀ p ∈ a, ∀ q ∈ b, slt p.key q.key = true := List.pairwise_append.1 h
/-- The place of a key in a list whose keys rise. -/
theorem cut3 {l : List Pr} (hs : Srt l) (k : ByteArray) : Below' (l.take (posK l k)) k ∧ (hasK l k = false → Above (l.drop (posK l k)) k) ∧ (hasK l k = true → ∃ p, l[posK l k]? = some p ∧ p.key = k ∧ Above (l.drop (posK l k + 1)) k) := by
  obtain ⟨h1, h2⟩ := posK_split hs k
  refine ⟨h1, fun hn p hp => ?_, fun hy => ?_⟩
  · rcases slt_false (h2 p hp) with e | h
    · have := List.mem_of_mem_drop hp
      unfold hasK at hn
      rw [List.any_eq_false] at hn
      exact absurd (decide_eq_true e) (hn p this)
    · exact h
  · obtain ⟨p, hp, e⟩ := hasK_get hs hy
    refine ⟨p, hp, e, fun q hq => ?_⟩
    obtain ⟨j, hj⟩ := List.getElem?_of_mem hq
    rw [List.getElem?_drop] at hj
    have := hs.lt (show posK l k < posK l k + 1 + j by omega) hp hj
    rw [e] at this
    exact this
theorem putS_srt {l : List Pr} (hs : Srt l) (k v : ByteArray) : Srt (putS l k v) := by
  unfold putS Srt
  rw [List.pairwise_append, List.pairwise_cons]
  refine ⟨hs.filter _, ⟨fun p hp => by simpa using (List.mem_filter.1 hp).2, hs.filter _⟩, fun p hp q hq => ?_⟩
  have h1 := (List.mem_filter.1 hp).2
  rcases List.mem_cons.1 hq with rfl | hq
  · exact h1
  · exact slt_trans h1 (List.mem_filter.1 hq).2
theorem delS_srt {l : List Pr} (hs : Srt l) (k : ByteArray) : Srt (delS l k) := hs.filter _
theorem hasK_putS (l : List Pr) (k v k' : ByteArray) : hasK (putS l k v) k' = (decide (k = k') || hasK l k') := by
  rw [Bool.eq_iff_iff]
  simp only [hasK, putS, List.any_append, List.any_cons, Bool.or_eq_true, List.any_eq_true, List.mem_filter, decide_eq_true_eq]
  constructor
  · rintro (⟨p, ⟨hp, _⟩, e⟩ | e | ⟨p, ⟨hp, _⟩, e⟩)
    · exact .inr ⟨p, hp, e⟩
    · exact .inl e
    · exact .inr ⟨p, hp, e⟩
  · rintro (e | ⟨p, hp, e⟩)
    · exact .inr (.inl e)
    · rcases slt_tri p.key k with h | h | h
      · exact .inl ⟨p, ⟨hp, h⟩, e⟩
      · exact .inr (.inl (h ▸ e))
      · exact .inr (.inr ⟨p, ⟨hp, h⟩, e⟩)
/-- So many there are behind a put. -/
theorem putS_len {l : List Pr} (hs : Srt l) (k v : ByteArray) : (putS l k v).length = l.length + (if hasK l k then 0 else 1) := by
  obtain ⟨h1, h2, h3⟩ := cut3 hs k
  have e := List.take_append_drop (posK l k) l
  cases h : hasK l k with
  | false =>
    have := putS_mid (A := l.take (posK l k)) (M := []) (B := l.drop (posK l k)) v h1 (h2 h)
    rw [List.append_nil, e] at this
    rw [this, putS_nil]
    simp only [List.length_append, List.length_take, List.length_drop, List.length_singleton]
    have := posK_le l k
    simp
    omega
  | true =>
    obtain ⟨p, hp, ek, ha⟩ := h3 h
    have hd : l.drop (posK l k) = p :: l.drop (posK l k + 1) := by
      obtain ⟨h1, h2⟩ := List.getElem?_eq_some_iff.1 hp
      rw [List.drop_eq_getElem_cons h1, h2]
    have := putS_mid (A := l.take (posK l k)) (M := [p]) (B := l.drop (posK l k + 1)) v h1 ha
    rw [List.append_assoc, List.singleton_append, ← hd, e] at this
    rw [this, ← ek, putS_one]
    have hl : l.length = (l.take (posK l k)).length + (l.drop (posK l k)).length := by rw [← List.length_append, e]
    rw [hd] at hl
    have hpl := (List.getElem?_eq_some_iff.1 hp).1
    simp only [List.length_append, List.length_cons, List.length_nil, List.length_take, List.length_drop] at hl ⊢
    rw [ek]
    simp
    omega
theorem delS_len {l : List Pr} (hs : Srt l) (k : ByteArray) : (delS l k).length + (if hasK l k then 1 else 0) = l.length := by
  obtain ⟨h1, h2, h3⟩ := cut3 hs k
  have e := List.take_append_drop (posK l k) l
  cases h : hasK l k with
  | false =>
    have := delS_mid (A := l.take (posK l k)) (M := []) (B := l.drop (posK l k)) h1 (h2 h)
    rw [List.append_nil, e] at this
    rw [this]
    have hl : l.length = (l.take (posK l k)).length + (l.drop (posK l k)).length := by rw [← List.length_append, e]
    rw [show delS [] k = [] from rfl, List.append_nil, e]
    simp
  | true =>
    obtain ⟨p, hp, ek, ha⟩ := h3 h
    have hd : l.drop (posK l k) = p :: l.drop (posK l k + 1) := by
      obtain ⟨h1, h2⟩ := List.getElem?_eq_some_iff.1 hp
      rw [List.drop_eq_getElem_cons h1, h2]
    have := delS_mid (A := l.take (posK l k)) (M := [p]) (B := l.drop (posK l k + 1)) h1 ha
    rw [List.append_assoc, List.singleton_append, ← hd, e] at this
    rw [this, ← ek, delS_one]
    have hl : l.length = (l.take (posK l k)).length + (l.drop (posK l k)).length := by rw [← List.length_append, e]
    rw [hd] at hl
    have hpl := (List.getElem?_eq_some_iff.1 hp).1
    simp only [List.length_append, List.length_cons, List.length_nil, List.length_take, List.length_drop] at hl ⊢
    rw [ek]
    simp
    omega
end Go.Proofs.Ytbmpdccoffkjgaa.Ow
