/- Disks: how they lie, and what the program's functions do to them, in plain Lean. -/
import Derived.Test.YtggkhcdilbdifaaOwn6
set_option linter.unusedVariables false
namespace Go.Proofs.Ytggkhcdilbdifaa.Ow
open Go
structure Fl where
  id : Int
  firm : ByteArray
  loose : ByteArray
structure Dk where
  files : List Fl
  left : Int
  armed : Bool
  down : Bool
def encF (f : Fl) : List Value := [.int .i64 f.id, .string f.firm, .string f.loose]
theorem encF_ok : Enc encF 3 := ⟨fun _ => rfl, fun x v hv => by simp [encF] at hv; rcases hv with rfl | rfl | rfl <;> rfl⟩
abbrev dval (a : Option Addr) (c : Nat) (d : Dk) : Value := .agg #[.slice a d.files.length c, .int .i64 d.left, .bool d.armed, .bool d.down]
def number (n : Int) : Bool := decide (0 ≤ n) && decide (n ≤ 1099511627776)
def tot (l : List Fl) : Nat := (l.map fun f => f.firm.size + f.loose.size).sum
theorem tot_take {l : List Fl} {k : Nat} {f : Fl} (h : l[k]? = some f) : tot (l.take (k + 1)) = tot (l.take k) + (f.firm.size + f.loose.size) := by
  rw [List.take_add_one, h]
  simp [tot]
theorem tot_le {l : List Fl} {k : Nat} {f : Fl} (h : l[k]? = some f) : tot (l.take k) + (f.firm.size + f.loose.size) ≤ tot l := by
  have e : tot l = tot (l.take (k + 1)) + tot (l.drop (k + 1)) := by
    conv => lhs; rw [← List.take_append_drop (k + 1) l]
    simp only [tot, List.map_append, List.sum_append]
  rw [← tot_take h]
  omega
theorem drop_get {α : Type} {l : List α} {k : Nat} {f : α} (h : l[k]? = some f) : l.drop k = f :: l.drop (k + 1) := by
  obtain ⟨h1, h2⟩ := List.getElem?_eq_some_iff.1 h
  rw [List.drop_eq_getElem_cons h1, h2]
def rightFrom (last : Int) : List Fl → Bool
  | [] => true
  | f :: r => !decide (f.id ≤ last) && number f.id && rightFrom f.id r
def right (d : Dk) : Bool := rightFrom (-1) d.files && decide ((tot d.files : Int) ≤ 1048576) && number d.left && (d.armed || decide (d.left = 0))
def ready (d : Dk) (id : Int) : Int := if !right d || !number id then 1 else if d.down then 7 else 0
def spend (d : Dk) : Dk × Bool := if d.armed && decide (d.left = 0) then (⟨d.files, d.left, d.armed, true⟩, false) else if d.armed then (⟨d.files, d.left - 1, d.armed, d.down⟩, true) else (d, true)
def pos (l : List Fl) (id : Int) : Nat := l.countP fun f => decide (f.id < id)
def there (l : List Fl) (id : Int) : Bool := l.any fun f => decide (f.id = id)
theorem rightFrom_get : ∀ {l : List Fl} {last : Int}, rightFrom last l = true → ∀ {i : Nat} {f : Fl}, l[i]? = some f → last < f.id ∧ 0 ≤ f.id ∧ f.id ≤ 1099511627776
  | [], _, _, i, f, h => by simp at h
  | x :: l, last, h, i, f, hf => by
    simp only [rightFrom, number, Bool.and_eq_true, Bool.not_eq_true', decide_eq_false_iff_not, decide_eq_true_eq] at h
    cases i with
    | zero => simp at hf; subst hf; omega
    | succ i =>
      have := rightFrom_get h.2 (i := i) (by simpa using hf)
      omega
theorem rightFrom_lt : ∀ {l : List Fl} {last : Int}, rightFrom last l = true → ∀ {i j : Nat} {f g : Fl}, i < j → l[i]? = some f → l[j]? = some g → f.id < g.id
  | [], _, _, i, j, f, g, _, h, _ => by simp at h
  | x :: l, last, h, i, j, f, g, hij, hf, hg => by
    simp only [rightFrom, Bool.and_eq_true] at h
    cases j with
    | zero => omega
    | succ j =>
      cases i with
      | zero =>
        simp at hf; subst hf
        exact (rightFrom_get h.2 (i := j) (by simpa using hg)).1
      | succ i => exact rightFrom_lt h.2 (i := i) (j := j) (by omega) (by simpa using hf) (by simpa using hg)
theorem pos_of {l : List Fl} {id : Int} {i : Nat} (hi : i ≤ l.length) (h1 : ∀ p f, p < i → l[p]? = some f → f.id < id) (h2 : ∀ p f, i ≤ p → l[p]? = some f → id ≤ f.id) : pos l id = i := by
  unfold pos
  rw [← List.take_append_drop i l, List.countP_append]
  have e1 : (l.take i).countP (fun f => decide (f.id < id)) = (l.take i).length := by
    rw [List.countP_eq_length]
    intro f hf
    obtain ⟨p, hp⟩ := List.getElem?_of_mem hf
    rw [List.getElem?_take] at hp
    split at hp
    · exact decide_eq_true (h1 p f (by assumption) hp)
    · cases hp
  have e2 : (l.drop i).countP (fun f => decide (f.id < id)) = 0 := by
    rw [List.countP_eq_zero]
    intro f hf
    obtain ⟨p, hp⟩ := List.getElem?_of_mem hf
    rw [List.getElem?_drop] at hp
    have := h2 _ f (by omega) hp
    simp
    omega
  rw [e1, e2, List.length_take]
  omega
theorem there_of {l : List Fl} {id : Int} {i : Nat} {f : Fl} (hs : rightFrom (-1) l = true) (hf : l[i]? = some f) (h1 : ∀ p f, p < i → l[p]? = some f → f.id < id) (h2 : id ≤ f.id) : there l id = decide (f.id = id) := by
  rw [Bool.eq_iff_iff]
  unfold there
  rw [List.any_eq_true]
  constructor
  · rintro ⟨g, hg, e⟩
    have e := of_decide_eq_true e
    obtain ⟨p, hp⟩ := List.getElem?_of_mem hg
    rcases Nat.lt_trichotomy p i with h | h | h
    · have := h1 p g h hp; omega
    · subst h; rw [hf] at hp; injection hp with hp; subst hp; exact decide_eq_true e
    · have := rightFrom_lt hs h hf hp; omega
  · exact fun e => ⟨f, List.mem_of_getElem? hf, e⟩
theorem there_none {l : List Fl} {id : Int} (h1 : ∀ p f, p < l.length → l[p]? = some f → f.id < id) : there l id = false := by
  unfold there
  rw [List.any_eq_false]
  intro g hg
  obtain ⟨p, hp⟩ := List.getElem?_of_mem hg
  have := h1 p g (List.getElem?_eq_some_iff.1 hp).1 hp
  simp
  omega
theorem spend_files {d d1 : Dk} {ok : Bool} (h : spend d = (d1, ok)) : d1.files = d.files := by
  unfold spend at h
  split at h
  · cases h; rfl
  · split at h <;> cases h <;> rfl
theorem right_files {d : Dk} (h : right d = true) : rightFrom (-1) d.files = true ∧ tot d.files ≤ 1048576 ∧ 0 ≤ d.left ∧ d.left ≤ 1099511627776 := by
  simp only [right, number, Bool.and_eq_true, decide_eq_true_eq] at h
  exact ⟨h.1.1.1, by omega, by omega, by omega⟩
theorem rightFrom_len : ∀ {l : List Fl} {last : Int}, rightFrom last l = true → -1 ≤ last → last ≤ 1099511627776 → (l.length : Int) ≤ 1099511627776 - last
  | [], last, _, h1, h2 => by simp; omega
  | x :: l, last, h, h1, h2 => by
    simp only [rightFrom, number, Bool.and_eq_true, Bool.not_eq_true', decide_eq_false_iff_not, decide_eq_true_eq] at h
    have := rightFrom_len h.2 (by omega) (by omega)
    simp
    omega
theorem right_len {l : List Fl} (h : rightFrom (-1) l = true) : l.length ≤ 1099511627777 := by
  have := rightFrom_len h (by omega) (by omega)
  omega
theorem ready_zero {d : Dk} {id : Int} (h : ready d id = 0) : right d = true ∧ d.down = false ∧ 0 ≤ id ∧ id ≤ 1099511627776 := by
  unfold ready at h
  split at h
  · cases h
  · split at h
    · cases h
    · rename_i h1 h2
      simp only [Bool.or_eq_true, Bool.not_eq_true', not_or, Bool.not_eq_false] at h1
      have h3 := h1.2
      simp only [number, Bool.and_eq_true, decide_eq_true_eq] at h3
      exact ⟨h1.1, by simpa using h2, h3.1, h3.2⟩
theorem pos_le (l : List Fl) (id : Int) : pos l id ≤ l.length := List.countP_le_length
theorem there_get {l : List Fl} {id : Int} (hs : rightFrom (-1) l = true) (h : there l id = true) : ∃ f, l[pos l id]? = some f ∧ f.id = id := by
  unfold there at h
  rw [List.any_eq_true] at h
  obtain ⟨f, hf, e⟩ := h
  have e := of_decide_eq_true e
  obtain ⟨p, hp⟩ := List.getElem?_of_mem hf
  have hpl := (List.getElem?_eq_some_iff.1 hp).1
  have : pos l id = p := pos_of (by omega) (fun q g hq hg => by have := rightFrom_lt hs hq hg hp; omega) (fun q g hq hg => by
    rcases Nat.lt_or_eq_of_le hq with hq | rfl
    · have := rightFrom_lt hs hq hp hg; omega
    · rw [hp] at hg; injection hg with hg; subst hg; omega)
  rw [this]
  exact ⟨f, hp, e⟩
theorem tot_get {l : List Fl} {k : Nat} {f : Fl} (h : l[k]? = some f) : f.firm.size + f.loose.size ≤ tot l := by have := tot_le h; omega
def putFile (l : List Fl) (id : Int) : List Fl := if there l id then l else l.take (pos l id) ++ ⟨id, ⟨#[]⟩, ⟨#[]⟩⟩ :: l.drop (pos l id)
def append (d : Dk) (id : Int) (s : ByteArray) : Dk × Int :=
  if ready d id ≠ 0 then (d, ready d id)
  else if 1048576 - (tot d.files : Int) < s.size then (d, 6)
  else if (spend d).2 = false then ((spend d).1, 7)
  else (⟨(putFile d.files id).modify (pos d.files id) fun f => ⟨f.id, f.firm, f.loose ++ s⟩, (spend d).1.left, (spend d).1.armed, (spend d).1.down⟩, 0)
def sync (d : Dk) (id : Int) : Dk × Int :=
  if ready d id ≠ 0 then (d, ready d id)
  else if there d.files id = false then (d, 8)
  else if (spend d).2 = false then ((spend d).1, 7)
  else (⟨d.files.modify (pos d.files id) fun f => ⟨f.id, f.firm ++ f.loose, ⟨#[]⟩⟩, (spend d).1.left, (spend d).1.armed, (spend d).1.down⟩, 0)
def remove (d : Dk) (id : Int) : Dk × Int :=
  if ready d id ≠ 0 then (d, ready d id)
  else if there d.files id = false then (d, 8)
  else if (spend d).2 = false then ((spend d).1, 7)
  else (⟨d.files.take (pos d.files id) ++ d.files.drop (pos d.files id + 1), (spend d).1.left, (spend d).1.armed, (spend d).1.down⟩, 0)
def text (d : Dk) (id : Int) : ByteArray × Int :=
  if ready d id ≠ 0 then (⟨#[]⟩, ready d id)
  else match d.files[pos d.files id]? with
    | some f => if there d.files id = false then (⟨#[]⟩, 8) else (f.firm ++ f.loose, 0)
    | none => (⟨#[]⟩, 8)
theorem text_none {d : Dk} {id : Int} (h : there d.files id = false) : (match d.files[pos d.files id]? with | some f => if there d.files id = false then ((⟨#[]⟩ : ByteArray), (8 : Int)) else (f.firm ++ f.loose, 0) | none => (⟨#[]⟩, 8)) = (⟨#[]⟩, 8) := by
  split <;> simp [h]
theorem modify_set {α : Type} {l : List α} {i : Nat} {x : α} (g : α → α) (h : l[i]? = some x) : l.modify i g = l.set i (g x) := by
  induction l generalizing i with
  | nil => simp at h
  | cons y l ih =>
    cases i with
    | zero => simp at h; subst h; simp
    | succ i => simp at h; simp [ih h]
theorem putFile_get {l : List Fl} {id : Int} (hs : rightFrom (-1) l = true) : ∃ f, (putFile l id)[pos l id]? = some f ∧ f.loose.size ≤ tot l := by
  unfold putFile
  split
  · rename_i h
    obtain ⟨f, h1, _⟩ := there_get hs h
    have := tot_get h1
    exact ⟨f, h1, by omega⟩
  · refine ⟨⟨id, ⟨#[]⟩, ⟨#[]⟩⟩, ?_, Nat.zero_le _⟩
    rw [List.getElem?_append_right (by simp; exact Nat.min_le_left _ _)]
    simp [Nat.min_eq_left (pos_le l id)]
def encI (n : Int) : List Value := [.int .i64 n]
theorem encI_ok : Enc encI 1 := ⟨fun _ => rfl, fun x v hv => by simp [encI] at hv; subst hv; rfl⟩
def ids (d : Dk) : List Int := if !right d || d.down then [] else d.files.map (·.id)
def arm (d : Dk) (n : Int) : Dk := if right d then ⟨d.files, min (max n 0) 1099511627776, decide (0 ≤ n), d.down⟩ else d
def keepOf (keep : List Int) (i : Nat) (f : Fl) : Nat := match keep[i]? with
  | some k => (min (max k 0) f.loose.size).toNat
  | none => 0
def crashFrom (keep : List Int) : Nat → List Fl → List Fl
  | _, [] => []
  | i, f :: r => if f.firm ++ f.loose.extract 0 (keepOf keep i f) = ⟨#[]⟩ then crashFrom keep (i + 1) r else ⟨f.id, f.firm ++ f.loose.extract 0 (keepOf keep i f), ⟨#[]⟩⟩ :: crashFrom keep (i + 1) r
def crash (d : Dk) (keep : List Int) : Dk := if right d then ⟨crashFrom keep 0 d.files, 0, false, false⟩ else d
theorem take_snoc {α : Type} {l : List α} {k : Nat} {x : α} (h : l[k]? = some x) : l.take (k + 1) = l.take k ++ [x] := by rw [List.take_add_one, h]; rfl
theorem take_len {α : Type} {l : List α} {k : Nat} (h : k ≤ l.length) : (l.take k).length = k := by rw [List.length_take]; omega
def atF (l : List Fl) (id : Int) : Int := match l.findIdx? (fun f => decide (f.id = id)) with
  | some i => i
  | none => -1
theorem atF_some {l : List Fl} {id : Int} {i : Nat} {f : Fl} (h : l[i]? = some f) (e : f.id = id) (hb : ∀ p g, p < i → l[p]? = some g → g.id ≠ id) : atF l id = i := by
  have : l.findIdx? (fun f => decide (f.id = id)) = some i := by
    rw [List.findIdx?_eq_some_iff_getElem]
    obtain ⟨hi, hg⟩ := List.getElem?_eq_some_iff.1 h
    refine ⟨hi, by simp [hg, e], fun p hp => ?_⟩
    have := hb p _ hp (List.getElem?_eq_getElem (by omega))
    simpa using this
  rw [atF, this]
theorem atF_none {l : List Fl} {id : Int} (hb : ∀ p g, p < l.length → l[p]? = some g → g.id ≠ id) : atF l id = -1 := by
  have : l.findIdx? (fun f => decide (f.id = id)) = none := by
    rw [List.findIdx?_eq_none_iff]
    intro g hg
    obtain ⟨p, hp⟩ := List.getElem?_of_mem hg
    have := hb p g (List.getElem?_eq_some_iff.1 hp).1 hp
    simpa using this
  rw [atF, this]
def turnGo (f : Fl) : Bool → List Fl → List Fl
  | put, [] => if put then [] else [f]
  | put, x :: r => (if !put && decide (f.id ≤ x.id) then [f] else []) ++ ((if ¬ x.id = f.id then [x] else []) ++ turnGo f (put || decide (f.id ≤ x.id)) r)
def fEq (f g : Fl) : Bool := decide (f.id = g.id) && decide (f.firm = g.firm) && decide (f.loose = g.loose)
def sameD (a b : Dk) : Bool := decide (a.files.length = b.files.length) && decide (a.left = b.left) && decide (a.armed = b.armed) && decide (a.down = b.down) && (List.zipWith fEq a.files b.files).all id
def small (d : Dk) : Bool := decide (d.files.length ≤ 60) && d.files.all fun f => decide (f.firm.size ≤ 4096) && decide (f.loose.size ≤ 4096)
theorem keepOf_le (keep : List Int) (k : Nat) (f : Fl) : keepOf keep k f ≤ f.loose.size := by
  unfold keepOf
  split <;> omega
theorem keepOf_none {keep : List Int} {k : Nat} {f : Fl} (h : keep.length ≤ k) : keepOf keep k f = 0 := by
  unfold keepOf
  rw [List.getElem?_eq_none h]
theorem keepOf_min {keep : List Int} {k : Nat} {q : Int} (h : keep[k]? = some q) (f : Fl) : (keepOf keep k f : Int) = if (f.loose.size : Int) < (if (0 : Int) > q then 0 else q) then (f.loose.size : Int) else (if (0 : Int) > q then 0 else q) := by
  unfold keepOf
  rw [h]
  dsimp only
  split <;> split <;> omega
theorem crash_put {keep : List Int} {k n : Nat} {f : Fl} (r : List Fl) (hn : n = keepOf keep k f) (h : ¬ f.firm ++ f.loose.extract 0 n = ⟨#[]⟩) : crashFrom keep k (f :: r) = ⟨f.id, f.firm ++ f.loose.extract 0 n, ⟨#[]⟩⟩ :: crashFrom keep (k + 1) r := by
  subst hn
  rw [crashFrom, if_neg h]
theorem crash_skip {keep : List Int} {k n : Nat} {f : Fl} (r : List Fl) (hn : n = keepOf keep k f) (h : f.firm ++ f.loose.extract 0 n = ⟨#[]⟩) : crashFrom keep k (f :: r) = crashFrom keep (k + 1) r := by
  subst hn
  rw [crashFrom, if_pos h]
theorem at_cases {l : List Fl} (hs : rightFrom (-1) l = true) (id : Int) : (there l id = true ∧ atF l id = pos l id ∧ ∃ f, l[pos l id]? = some f ∧ f.id = id) ∨ (there l id = false ∧ atF l id = -1) := by
  cases h : there l id with
  | true =>
    obtain ⟨f, hf, e⟩ := there_get hs h
    exact .inl ⟨rfl, atF_some hf e fun p g hp hg => by have := rightFrom_lt hs hp hg hf; omega, f, hf, e⟩
  | false =>
    refine .inr ⟨rfl, atF_none fun p g _ hg e => ?_⟩
    unfold there at h
    rw [List.any_eq_false] at h
    exact h g (List.mem_of_getElem? hg) (decide_eq_true e)
theorem pos_cons (x : Fl) (l : List Fl) (id : Int) : pos (x :: l) id = pos l id + if x.id < id then 1 else 0 := by
  unfold pos
  rw [List.countP_cons]
  simp
theorem pos_zero : ∀ {l : List Fl} {last : Int}, rightFrom last l = true → ∀ {id : Int}, id ≤ last + 1 → pos l id = 0
  | [], _, _, _, _ => rfl
  | x :: l, last, h, id, hl => by
    simp only [rightFrom, Bool.and_eq_true, Bool.not_eq_true', decide_eq_false_iff_not] at h
    rw [pos_cons, pos_zero h.2 (by omega), if_neg (by omega)]
theorem there_zero : ∀ {l : List Fl} {last : Int}, rightFrom last l = true → ∀ {id : Int}, id ≤ last → there l id = false
  | [], _, _, _, _ => rfl
  | x :: l, last, h, id, hl => by
    simp only [rightFrom, Bool.and_eq_true, Bool.not_eq_true', decide_eq_false_iff_not] at h
    have := there_zero h.2 (id := id) (by omega)
    unfold there at this ⊢
    rw [List.any_cons, this]
    simp
    omega
theorem turnGo_true (f x : Fl) (r : List Fl) (h : ¬ x.id = f.id) : turnGo f true (x :: r) = x :: turnGo f true r := by simp [turnGo, h]
theorem turnGo_here (f x : Fl) (r : List Fl) (h : x.id = f.id) : turnGo f true (x :: r) = turnGo f true r := by simp [turnGo, h]
theorem turnGo_lt (f x : Fl) (r : List Fl) (h : x.id < f.id) : turnGo f false (x :: r) = x :: turnGo f false r := by
  rw [turnGo, decide_eq_false (by omega), if_pos (c := ¬ x.id = f.id) (by omega)]; rfl
theorem turnGo_eq (f x : Fl) (r : List Fl) (h : x.id = f.id) : turnGo f false (x :: r) = f :: turnGo f true r := by
  rw [turnGo, decide_eq_true (by omega), if_neg (c := ¬ x.id = f.id) (by omega)]; rfl
theorem turnGo_gt (f x : Fl) (r : List Fl) (h : f.id < x.id) : turnGo f false (x :: r) = f :: x :: turnGo f true r := by
  rw [turnGo, decide_eq_true (by omega), if_pos (c := ¬ x.id = f.id) (by omega)]; rfl
theorem turn_true_end : ∀ {l : List Fl} {last : Int}, rightFrom last l = true → ∀ {f : Fl}, f.id ≤ last → turnGo f true l = l
  | [], _, _, _, _ => rfl
  | x :: l, last, h, f, hl => by
    simp only [rightFrom, Bool.and_eq_true, Bool.not_eq_true', decide_eq_false_iff_not] at h
    rw [turnGo_true _ _ _ (by omega), turn_true_end h.2 (f := f) (by omega)]
theorem there_cons (x : Fl) (l : List Fl) (id : Int) : there (x :: l) id = (decide (x.id = id) || there l id) := List.any_cons
/-- The file is put in its place. -/
theorem turn_put : ∀ {l : List Fl} {last : Int}, rightFrom last l = true → ∀ (f : Fl), last < f.id → turnGo f false l = (putFile l f.id).set (pos l f.id) f
  | [], _, _, f, _ => rfl
  | x :: l, last, h, f, hl => by
    simp only [rightFrom, Bool.and_eq_true, Bool.not_eq_true', decide_eq_false_iff_not] at h
    rcases Int.lt_trichotomy x.id f.id with e | e | e
    · have ih := turn_put h.2 f e
      rw [turnGo_lt _ _ _ e, ih, pos_cons, if_pos e]
      unfold putFile
      rw [there_cons, decide_eq_false (by omega), Bool.false_or, pos_cons, if_pos e]
      split <;> simp
    · have e1 := turn_true_end h.2 (f := f) (by omega)
      rw [turnGo_eq _ _ _ e, e1, pos_cons, if_neg (by omega), pos_zero h.2 (by omega)]
      unfold putFile
      rw [there_cons, decide_eq_true e]
      simp
    · have e1 := turn_true_end h.2 (f := f) (by omega)
      have e2 := there_zero h.2 (id := f.id) (by omega)
      rw [turnGo_gt _ _ _ e, e1, pos_cons, if_neg (by omega), pos_zero h.2 (by omega)]
      unfold putFile
      rw [there_cons, decide_eq_false (by omega), e2, pos_cons, if_neg (c := x.id < f.id) (by omega), pos_zero h.2 (by omega)]
      simp
/-- The file is taken out. -/
theorem turn_out : ∀ {l : List Fl} {last : Int}, rightFrom last l = true → ∀ (f : Fl), there l f.id = true → turnGo f true l = l.take (pos l f.id) ++ l.drop (pos l f.id + 1)
  | [], _, _, f, h => by simp [there] at h
  | x :: l, last, h, f, ht => by
    simp only [rightFrom, Bool.and_eq_true, Bool.not_eq_true', decide_eq_false_iff_not] at h
    rw [there_cons] at ht
    rw [pos_cons]
    rcases Int.lt_trichotomy x.id f.id with e | e | e
    · rw [decide_eq_false (by omega), Bool.false_or] at ht
      rw [turnGo_true _ _ _ (by omega), turn_out h.2 f ht, if_pos e]
      simp
    · have e1 := turn_true_end h.2 (f := f) (by omega)
      rw [turnGo_here _ _ _ e, if_neg (by omega), pos_zero h.2 (by omega)]
      simp [e1]
    · rw [decide_eq_false (by omega), Bool.false_or, there_zero h.2 (by omega)] at ht
      cases ht
theorem ready_right {d : Dk} {id : Int} (h : right d = false) : ready d id = 1 := by simp [ready, h]
theorem ready_num {d : Dk} {id : Int} (h : number id = false) : ready d id = 1 := by simp [ready, h]
theorem ready_down {d : Dk} {id : Int} (h1 : right d = true) (h2 : number id = true) (h : d.down = true) : ready d id = 7 := by simp [ready, h, h1, h2]
theorem ready_ok {d : Dk} {id : Int} (h1 : right d = true) (h2 : number id = true) (h : d.down = false) : ready d id = 0 := by simp [ready, h, h1, h2]
theorem append_err {d : Dk} {id n : Int} {s : ByteArray} (h : ready d id = n) (hn : n ≠ 0) : append d id s = (d, n) := by unfold append; rw [h, if_pos hn]
theorem sync_err {d : Dk} {id n : Int} (h : ready d id = n) (hn : n ≠ 0) : sync d id = (d, n) := by unfold sync; rw [h, if_pos hn]
theorem remove_err {d : Dk} {id n : Int} (h : ready d id = n) (hn : n ≠ 0) : remove d id = (d, n) := by unfold remove; rw [h, if_pos hn]
theorem text_err {d : Dk} {id n : Int} (h : ready d id = n) (hn : n ≠ 0) : text d id = (⟨#[]⟩, n) := by unfold text; rw [h, if_pos hn]
theorem sameD_all {d e : Dk} (hl : d.files.length = e.files.length ∧ d.left = e.left ∧ d.armed = e.armed ∧ d.down = e.down) (h : ∀ p x y, p < d.files.length → d.files[p]? = some x → e.files[p]? = some y → fEq x y = true) : sameD d e = true := by
  simp only [sameD, hl, decide_true, Bool.true_and, List.all_eq_true]
  intro b hb
  obtain ⟨p, hp⟩ := List.getElem?_of_mem hb
  rw [List.getElem?_zipWith] at hp
  split at hp
  · rename_i x y h1 h2
    injection hp with hp
    rw [← hp]
    exact h p x y (List.getElem?_eq_some_iff.1 h1).1 h1 h2
  · cases hp
theorem sameD_skip {d e : Dk} (hl : d.files.length = e.files.length ∧ d.left = e.left ∧ d.armed = e.armed ∧ d.down = e.down) {p : Nat} {x y : Fl} (h1 : d.files[p]? = some x) (h2 : e.files[p]? = some y) (h : fEq x y = false) : sameD d e = false := by
  simp only [sameD, hl, decide_true, Bool.true_and]
  rw [List.all_eq_false]
  refine ⟨false, ?_, by simp⟩
  refine List.mem_of_getElem? (i := p) ?_
  rw [List.getElem?_zipWith, h1, h2]
  simp [h]
theorem small_no {d : Dk} {k : Nat} {f : Fl} (hf : d.files[k]? = some f) (h : ¬ (f.firm.size ≤ 4096 ∧ f.loose.size ≤ 4096)) : small d = false := by
  have : (d.files.all fun f => decide (f.firm.size ≤ 4096) && decide (f.loose.size ≤ 4096)) = false := by
    rw [List.all_eq_false]
    exact ⟨f, List.mem_of_getElem? hf, by simp; omega⟩
  simp only [small, this, Bool.and_false]
theorem small_yes {d : Dk} (hl : d.files.length ≤ 60) (h : ∀ p f, p < d.files.length → d.files[p]? = some f → f.firm.size ≤ 4096 ∧ f.loose.size ≤ 4096) : small d = true := by
  have : (d.files.all fun f => decide (f.firm.size ≤ 4096) && decide (f.loose.size ≤ 4096)) = true := by
    rw [List.all_eq_true]
    intro f hf
    obtain ⟨p, hp⟩ := List.getElem?_of_mem hf
    have := h p f (List.getElem?_eq_some_iff.1 hp).1 hp
    simp
    omega
  simp only [small, this, decide_eq_true hl, Bool.and_true]
theorem keepOf_step {keep : List Int} {k j : Nat} {q : Int} (h : keep[k]? = some q) {f : Fl} (h1 : (j : Int) < q) (h2 : j < f.loose.size) : j + 1 ≤ keepOf keep k f := by
  have := keepOf_min h f
  split at this <;> split at this <;> omega
theorem keepOf_end {keep : List Int} {k j : Nat} {q : Int} (h : keep[k]? = some q) {f : Fl} (h1 : ¬ (j : Int) < q) : keepOf keep k f ≤ j := by
  have := keepOf_min h f
  split at this <;> split at this <;> omega
theorem size_ne {s : ByteArray} (h : (s.size : Int) > 0) : ¬ s = ⟨#[]⟩ := by
  rintro rfl
  exact absurd h (by decide)
theorem size_eq {s : ByteArray} (h : ¬ (s.size : Int) > 0) : s = ⟨#[]⟩ := by
  have h : s.size = 0 := by omega
  cases s with | mk a =>
  have : a.size = 0 := h
  rw [Array.size_eq_zero_iff] at this
  rw [this]
theorem extract_grow (a s : ByteArray) {j : Nat} (h : j < s.size) : a ++ s.extract 0 j ++ s.extract (j : Int).toNat ((j : Int) + 1).toNat = a ++ s.extract 0 (j + 1) := by
  rw [show ((j : Int)).toNat = j by omega, show ((j : Int) + 1).toNat = j + 1 by omega, ByteArray.append_assoc, ByteArray.extract_append_extract]
  simp
set_option linter.unusedSimpArgs false
set_option linter.unusedVariables false
theorem ab_0 : (⟨#[]⟩ : ByteArray).size = 0 := rfl
theorem ab_2 : (⟨#[97, 98]⟩ : ByteArray).size = 2 := rfl
theorem ab_e (s : ByteArray) : (⟨#[]⟩ : ByteArray) ++ s = s := ByteArray.empty_append
theorem ab_f (s : ByteArray) : s ++ (⟨#[]⟩ : ByteArray) = s := ByteArray.append_empty
theorem awake_1 : append ⟨[], 0, false, false⟩ 1 ⟨#[97, 98]⟩ = (⟨[⟨1, ⟨#[]⟩, ⟨#[97, 98]⟩⟩], 0, false, false⟩, 0) := by
  simp [append, ready, right, rightFrom, number, tot, spend, putFile, there, pos, ab_0, ab_2, ab_e]
theorem awake_2 : sync ⟨[⟨1, ⟨#[]⟩, ⟨#[97, 98]⟩⟩], 0, false, false⟩ 1 = (⟨[⟨1, ⟨#[97, 98]⟩, ⟨#[]⟩⟩], 0, false, false⟩, 0) := by
  simp [sync, ready, right, rightFrom, number, tot, spend, putFile, there, pos, ab_0, ab_2, ab_e]
theorem awake_3 : crash ⟨[⟨1, ⟨#[97, 98]⟩, ⟨#[]⟩⟩], 0, false, false⟩ [] = ⟨[⟨1, ⟨#[97, 98]⟩, ⟨#[]⟩⟩], 0, false, false⟩ := by
  simp [crash, crashFrom, keepOf, ready, right, rightFrom, number, tot, spend, putFile, there, pos, ab_0, ab_2, ab_e]
theorem awake_4 : text ⟨[⟨1, ⟨#[97, 98]⟩, ⟨#[]⟩⟩], 0, false, false⟩ 1 = (⟨#[97, 98]⟩, 0) := by
  simp [text, ready, right, rightFrom, number, tot, spend, putFile, there, pos, ab_0, ab_2, ab_e, ab_f]
theorem awake_b1 : tot ([] : List Fl) ≤ 4611686018427387904 := by decide
theorem awake_b2 : tot [⟨1, ⟨#[]⟩, ⟨#[97, 98]⟩⟩] ≤ 4611686018427387904 := by decide
theorem awake_b3 : tot [⟨1, ⟨#[97, 98]⟩, ⟨#[]⟩⟩] ≤ 4611686018427387904 := by decide
/-- Act -/
structure Ac where
  kind : Int
  id : Int
  n : Int
  data : ByteArray
  keep : List Int
def kindOf (x : Ac) : Int := IntKind.u64.wrap x.kind % 8
def actD (d : Dk) (x : Ac) : Dk :=
  if kindOf x = 3 ∨ kindOf x = 4 then (sync d x.id).1
  else if kindOf x = 5 then (remove d x.id).1
  else if kindOf x = 6 then arm d x.n
  else if kindOf x = 7 then crash d x.keep
  else (append d x.id x.data).1
def fileOf (l : List Fl) (id : Int) : ByteArray × ByteArray := match l.find? (fun f => decide (f.id = id)) with
  | some f => (f.firm, f.firm ++ f.loose)
  | none => (⟨#[]⟩, ⟨#[]⟩)
theorem fileOf_some {l : List Fl} {id : Int} {i : Nat} {f : Fl} (h : l[i]? = some f) (e : f.id = id) (hb : ∀ p g, p < i → l[p]? = some g → g.id ≠ id) : fileOf l id = (f.firm, f.firm ++ f.loose) := by
  have : l.find? (fun f => decide (f.id = id)) = some f := by
    obtain ⟨hi, hg⟩ := List.getElem?_eq_some_iff.1 h
    rw [List.find?_eq_some_iff_getElem]
    refine ⟨by simpa using e, i, hi, hg, fun p hp => ?_⟩
    have := hb p _ hp (List.getElem?_eq_getElem (by omega))
    simpa using this
  rw [fileOf, this]
theorem fileOf_none {l : List Fl} {id : Int} (hb : ∀ p g, p < l.length → l[p]? = some g → g.id ≠ id) : fileOf l id = (⟨#[]⟩, ⟨#[]⟩) := by
  have : l.find? (fun f => decide (f.id = id)) = none := by
    rw [List.find?_eq_none]
    intro g hg
    obtain ⟨p, hp⟩ := List.getElem?_of_mem hg
    have := hb p g (List.getElem?_eq_some_iff.1 hp).1 hp
    simpa using this
  rw [fileOf, this]
def begins (a b : ByteArray) : Bool := decide (a.size ≤ b.size) && decide (b.extract 0 a.size = a)
theorem fEq_refl (f : Fl) : fEq f f = true := by simp [fEq]
theorem sameD_refl (d : Dk) : sameD d d = true := sameD_all ⟨rfl, rfl, rfl, rfl⟩ fun p x y _ h1 h2 => by rw [h1] at h2; injection h2 with h2; rw [h2, fEq_refl]
theorem small_len {d : Dk} (h : small d = true) : d.files.length ≤ 60 := by
  unfold small at h
  rw [Bool.and_eq_true] at h
  exact of_decide_eq_true h.1
theorem tot_small : ∀ {l : List Fl}, (l.all fun f => decide (f.firm.size ≤ 4096) && decide (f.loose.size ≤ 4096)) = true → tot l ≤ l.length * 8192
  | [], _ => by decide
  | f :: l, h => by
    rw [List.all_cons, Bool.and_eq_true, Bool.and_eq_true, decide_eq_true_eq, decide_eq_true_eq] at h
    have := tot_small h.2
    simp only [tot, List.map_cons, List.sum_cons, List.length_cons] at this ⊢
    omega
theorem small_tot {d : Dk} (h : small d = true) : tot d.files ≤ 491520 := by
  have h1 := small_len h
  unfold small at h
  rw [Bool.and_eq_true] at h
  have := tot_small h.2
  omega
theorem append_len (d : Dk) (id : Int) (s : ByteArray) : (append d id s).1.files.length ≤ d.files.length + 1 := by
  unfold append
  split
  · exact Nat.le_succ _
  · split
    · exact Nat.le_succ _
    · split
      · rw [spend_files (d := d) (d1 := (spend d).1) (ok := (spend d).2) rfl]; exact Nat.le_succ _
      · simp only [List.length_modify, putFile]
        split
        · exact Nat.le_succ _
        · have := pos_le d.files id
          simp
          omega
theorem sync_len (d : Dk) (id : Int) : (sync d id).1.files.length = d.files.length := by
  unfold sync
  split
  · rfl
  · split
    · rfl
    · split
      · rw [spend_files (d := d) (d1 := (spend d).1) (ok := (spend d).2) rfl]
      · simp only [List.length_modify]
theorem remove_len (d : Dk) (id : Int) : (remove d id).1.files.length ≤ d.files.length := by
  unfold remove
  split
  · exact Nat.le_refl _
  · split
    · exact Nat.le_refl _
    · split
      · rw [spend_files (d := d) (d1 := (spend d).1) (ok := (spend d).2) rfl]; exact Nat.le_refl _
      · simp
        omega
theorem set_parts {α : Type} {l : List α} {i : Nat} {x : α} (h : l[i]? = some x) (y : α) : l.set i y = l.take i ++ y :: l.drop (i + 1) ∧ l = l.take i ++ x :: l.drop (i + 1) := by
  obtain ⟨hi, hx⟩ := List.getElem?_eq_some_iff.1 h
  constructor
  · rw [List.set_eq_take_append_cons_drop, if_pos hi]
  · conv => lhs; rw [← List.take_append_drop i l, drop_get h]
theorem tot_app (l r : List Fl) : tot (l ++ r) = tot l + tot r := by simp [tot]
theorem tot_cons (f : Fl) (r : List Fl) : tot (f :: r) = f.firm.size + f.loose.size + tot r := by simp [tot]
theorem rightFrom_app : ∀ (l r : List Fl) (last : Int), rightFrom last (l ++ r) = (rightFrom last l && rightFrom ((l.getLast?.map (·.id)).getD last) r)
  | [], r, last => by simp [rightFrom]
  | x :: l, r, last => by
    rw [List.cons_append, rightFrom, rightFrom, rightFrom_app l r x.id, List.getLast?_cons]
    cases l.getLast? <;> simp [Bool.and_assoc]
theorem rightFrom_ids : ∀ (l r : List Fl) (last : Int), l.map (·.id) = r.map (·.id) → rightFrom last l = rightFrom last r
  | [], [], _, _ => rfl
  | [], _ :: _, _, h => by simp at h
  | _ :: _, [], _, h => by simp at h
  | x :: l, y :: r, last, h => by
    rw [List.map_cons, List.map_cons] at h
    injection h with h1 h2
    rw [rightFrom, rightFrom, h1, rightFrom_ids l r y.id h2]
theorem there_ids (l r : List Fl) (id : Int) (h : l.map (·.id) = r.map (·.id)) : there l id = there r id := by
  have e : ∀ l : List Fl, there l id = (l.map (·.id)).any (fun x => decide (x = id)) := fun l => by rw [List.any_map]; rfl
  rw [e, e, h]
theorem pos_ids (l r : List Fl) (id : Int) (h : l.map (·.id) = r.map (·.id)) : pos l id = pos r id := by
  have e : ∀ l : List Fl, pos l id = (l.map (·.id)).countP (fun x => decide (x < id)) := fun l => by rw [List.countP_map]; rfl
  rw [e, e, h]
theorem set_ids {l : List Fl} {i : Nat} {f g : Fl} (h : l[i]? = some f) (e : g.id = f.id) : (l.set i g).map (·.id) = l.map (·.id) := by
  obtain ⟨h1, h2⟩ := set_parts h g
  rw [h1]
  conv => rhs; rw [h2]
  simp [e]
theorem set_tot {l : List Fl} {i : Nat} {f g : Fl} (h : l[i]? = some f) : tot (l.set i g) + (f.firm.size + f.loose.size) = tot l + (g.firm.size + g.loose.size) := by
  obtain ⟨h1, h2⟩ := set_parts h g
  rw [h1]
  conv => rhs; rw [h2]
  simp only [tot_app, tot_cons]
  omega
/-- Sync, when it works. -/
theorem sync_ok {d : Dk} {id : Int} (h1 : ready d id = 0) (h2 : there d.files id = true) (h3 : (spend d).2 = true) : ∃ f, d.files[pos d.files id]? = some f ∧ f.id = id ∧ sync d id = (⟨d.files.set (pos d.files id) ⟨f.id, f.firm ++ f.loose, ⟨#[]⟩⟩, (spend d).1.left, (spend d).1.armed, (spend d).1.down⟩, 0) := by
  obtain ⟨hr, _, _⟩ := ready_zero h1
  obtain ⟨f, hf, e⟩ := there_get (right_files hr).1 h2
  refine ⟨f, hf, e, ?_⟩
  unfold sync
  rw [if_neg (by simp [h1]), if_neg (by simp [h2]), if_neg (by simp [h3]), modify_set _ hf]
theorem unarmed_spend {d : Dk} (h : d.armed = false) : spend d = (d, true) := by simp [spend, h]
theorem sync_cases (d : Dk) (id : Int) : (sync d id).1.files = d.files ∨ ∃ f, d.files[pos d.files id]? = some f ∧ f.id = id ∧ rightFrom (-1) d.files = true ∧ (sync d id).1.files = d.files.set (pos d.files id) ⟨f.id, f.firm ++ f.loose, ⟨#[]⟩⟩ := by
  by_cases h1 : ready d id = 0
  · cases h2 : there d.files id with
    | false => left; unfold sync; rw [if_neg (by simp [h1]), if_pos h2]
    | true =>
      cases h3 : (spend d).2 with
      | false => left; unfold sync; rw [if_neg (by simp [h1]), if_neg (by simp [h2]), if_pos h3]; exact spend_files (d1 := (spend d).1) (ok := (spend d).2) rfl
      | true =>
        obtain ⟨f, hf, e, hs⟩ := sync_ok h1 h2 h3
        exact .inr ⟨f, hf, e, (right_files (ready_zero h1).1).1, by rw [hs]⟩
  · left; unfold sync; rw [if_pos h1]
theorem sync_tot (d : Dk) (id : Int) : tot (sync d id).1.files = tot d.files := by
  rcases sync_cases d id with h | ⟨f, hf, _, _, h⟩
  · rw [h]
  · rw [h]
    have := set_tot hf (g := ⟨f.id, f.firm ++ f.loose, ⟨#[]⟩⟩)
    simp only [ByteArray.size_append, ab_0] at this
    omega
theorem sync_twice {d : Dk} {id : Int} (h : d.armed = false) : (sync (sync d id).1 id).1 = (sync d id).1 ∧ (sync (sync d id).1 id).2 = (sync d id).2 := by
  by_cases h1 : ready d id = 0
  · cases h2 : there d.files id with
    | false =>
      have e : sync d id = (d, 8) := by unfold sync; rw [if_neg (by simp [h1]), if_pos h2]
      rw [e]; rw [e]; exact ⟨rfl, rfl⟩
    | true =>
      obtain ⟨f, hf, e, hs⟩ := sync_ok h1 h2 (by rw [unarmed_spend h])
      rw [unarmed_spend h] at hs
      obtain ⟨hr, hd, hid⟩ := ready_zero h1
      have hi := (List.getElem?_eq_some_iff.1 hf).1
      have hids := set_ids hf (g := ⟨f.id, f.firm ++ f.loose, ⟨#[]⟩⟩) rfl
      have hpos := pos_ids _ _ id hids
      have hr2 : ready (sync d id).1 id = 0 := by
        have ht := sync_tot d id
        rw [hs] at ht ⊢
        dsimp only at ht ⊢
        unfold ready right number at h1 ⊢
        dsimp only
        rw [ht, rightFrom_ids _ _ _ hids]
        exact h1
      have ht2 : there (sync d id).1.files id = true := by rw [hs]; dsimp only; rw [there_ids _ _ _ hids]; exact h2
      obtain ⟨g, hg, _, hs2⟩ := sync_ok hr2 ht2 (by rw [unarmed_spend (by rw [hs]; exact h)])
      rw [unarmed_spend (by rw [hs]; exact h)] at hs2
      rw [hs2]
      rw [hs] at hg ⊢
      dsimp only at hg ⊢
      rw [hpos] at hg ⊢
      rw [List.getElem?_set_self hi] at hg
      injection hg with hg
      subst hg
      simp [ab_f]
  · have e : sync d id = (d, ready d id) := by unfold sync; rw [if_pos h1]
    rw [e]; rw [e]; exact ⟨rfl, rfl⟩
/-! ### What the laws say -/
theorem fileOf_skip {l r : List Fl} {x : Fl} {other : Int} (h : x.id ≠ other) : fileOf (l ++ x :: r) other = fileOf (l ++ r) other := by
  simp [fileOf, List.find?_append, List.find?_cons, h]
theorem fileOf_set {l : List Fl} {i : Nat} {f g : Fl} {other : Int} (hf : l[i]? = some f) (h1 : f.id ≠ other) (h2 : g.id ≠ other) : fileOf (l.set i g) other = fileOf l other := by
  obtain ⟨e1, e2⟩ := set_parts hf g
  rw [e1, fileOf_skip h2]
  conv => rhs; rw [e2, fileOf_skip h1]
theorem fileOf_put {l : List Fl} {id other : Int} (h : id ≠ other) : fileOf (putFile l id) other = fileOf l other := by
  unfold putFile
  split
  · rfl
  · rw [fileOf_skip h, List.take_append_drop]
theorem putFile_at {l : List Fl} {id : Int} (hs : rightFrom (-1) l = true) : ∃ f, (putFile l id)[pos l id]? = some f ∧ f.id = id ∧ ((there l id = true ∧ l[pos l id]? = some f) ∨ (there l id = false ∧ f = ⟨id, ⟨#[]⟩, ⟨#[]⟩⟩)) := by
  unfold putFile
  split
  · rename_i h
    obtain ⟨f, h1, h2⟩ := there_get hs h
    exact ⟨f, h1, h2, .inl ⟨h, h1⟩⟩
  · rename_i h
    refine ⟨⟨id, ⟨#[]⟩, ⟨#[]⟩⟩, ?_, rfl, .inr ⟨by simpa using h, rfl⟩⟩
    rw [List.getElem?_append_right (by simp; exact Nat.min_le_left _ _)]
    simp [Nat.min_eq_left (pos_le l id)]
/-- Append, when it works. -/
theorem append_cases (d : Dk) (id : Int) (s : ByteArray) : ((append d id s).1.files = d.files ∧ ((append d id s).1 = d ∨ (append d id s).1 = (spend d).1 ∧ right d = true)) ∨ ∃ f, (putFile d.files id)[pos d.files id]? = some f ∧ f.id = id ∧ ((there d.files id = true ∧ d.files[pos d.files id]? = some f) ∨ (there d.files id = false ∧ f = ⟨id, ⟨#[]⟩, ⟨#[]⟩⟩)) ∧ right d = true ∧ number id = true ∧ (tot d.files : Int) + s.size ≤ 1048576 ∧
    (append d id s).1 = ⟨(putFile d.files id).set (pos d.files id) ⟨f.id, f.firm, f.loose ++ s⟩, (spend d).1.left, (spend d).1.armed, (spend d).1.down⟩ := by
  by_cases h1 : ready d id = 0
  · obtain ⟨hr, _, hn⟩ := ready_zero h1
    by_cases h2 : 1048576 - (tot d.files : Int) < s.size
    · left; have e : append d id s = (d, 6) := by unfold append; rw [if_neg (by simp [h1]), if_pos h2]
      rw [e]; exact ⟨rfl, .inl rfl⟩
    · cases h3 : (spend d).2 with
      | false =>
        left; have e : append d id s = ((spend d).1, 7) := by unfold append; rw [if_neg (by simp [h1]), if_neg h2, if_pos h3]
        rw [e]; exact ⟨spend_files (d1 := (spend d).1) (ok := (spend d).2) rfl, .inr ⟨rfl, hr⟩⟩
      | true =>
        obtain ⟨f, hf, e, hc⟩ := putFile_at (id := id) (right_files hr).1
        refine .inr ⟨f, hf, e, hc, hr, by simp [number, hn], by omega, ?_⟩
        unfold append
        rw [if_neg (by simp [h1]), if_neg h2, if_neg (by simp [h3]), modify_set _ hf]
  · left; have e : append d id s = (d, ready d id) := by unfold append; rw [if_pos h1]
    rw [e]; exact ⟨rfl, .inl rfl⟩
theorem remove_cases (d : Dk) (id : Int) : ((remove d id).1.files = d.files ∧ ((remove d id).1 = d ∨ (remove d id).1 = (spend d).1 ∧ right d = true)) ∨ ∃ f, d.files[pos d.files id]? = some f ∧ f.id = id ∧ there d.files id = true ∧ right d = true ∧ (remove d id).1 = ⟨d.files.take (pos d.files id) ++ d.files.drop (pos d.files id + 1), (spend d).1.left, (spend d).1.armed, (spend d).1.down⟩ := by
  by_cases h1 : ready d id = 0
  · obtain ⟨hr, _, hn⟩ := ready_zero h1
    cases h2 : there d.files id with
    | false =>
      left; have e : remove d id = (d, 8) := by unfold remove; rw [if_neg (by simp [h1]), if_pos h2]
      rw [e]; exact ⟨rfl, .inl rfl⟩
    | true =>
      cases h3 : (spend d).2 with
      | false =>
        left; have e : remove d id = ((spend d).1, 7) := by unfold remove; rw [if_neg (by simp [h1]), if_neg (by simp [h2]), if_pos h3]
        rw [e]; exact ⟨spend_files (d1 := (spend d).1) (ok := (spend d).2) rfl, .inr ⟨rfl, hr⟩⟩
      | true =>
        obtain ⟨f, hf, e⟩ := there_get (right_files hr).1 h2
        refine .inr ⟨f, hf, e, rfl, hr, ?_⟩
        unfold remove
        rw [if_neg (by simp [h1]), if_neg (by simp [h2]), if_neg (by simp [h3])]
  · left; have e : remove d id = (d, ready d id) := by unfold remove; rw [if_pos h1]
    rw [e]; exact ⟨rfl, .inl rfl⟩
theorem append_apart {d : Dk} {id other : Int} {s : ByteArray} (h : id ≠ other) : fileOf (append d id s).1.files other = fileOf d.files other := by
  rcases append_cases d id s with h1 | ⟨f, hf, e, _, _, _, _, hs⟩
  · rw [h1.1]
  · rw [hs]
    exact (fileOf_set hf (by rw [e]; exact h) (by rw [e]; exact h)).trans (fileOf_put h)
theorem sync_apart {d : Dk} {id other : Int} (h : id ≠ other) : fileOf (sync d id).1.files other = fileOf d.files other := by
  rcases sync_cases d id with h1 | ⟨f, hf, e, _, hs⟩
  · rw [h1]
  · rw [hs]
    exact fileOf_set hf (by rw [e]; exact h) (by rw [e]; exact h)
theorem remove_apart {d : Dk} {id other : Int} (h : id ≠ other) : fileOf (remove d id).1.files other = fileOf d.files other := by
  rcases remove_cases d id with h1 | ⟨f, hf, e, _, _, hs⟩
  · rw [h1.1]
  · rw [hs]
    dsimp only
    conv => rhs; rw [(set_parts hf f).2, fileOf_skip (by rw [e]; exact h)]
theorem kind_small {x : Ac} (h : 0 ≤ x.kind ∧ x.kind < 6) : kindOf x = x.kind := by
  have e : IntKind.u64.wrap x.kind = x.kind % 18446744073709551616 := by simp [IntKind.wrap, IntKind.bits, IntKind.signed]
  rw [kindOf, e]
  omega
theorem act_apart {d : Dk} {x : Ac} {other : Int} (hk : 0 ≤ x.kind ∧ x.kind < 6) (h : x.id ≠ other) : fileOf (actD d x).files other = fileOf d.files other := by
  have e := kind_small hk
  unfold actD
  rw [e]
  split
  · exact sync_apart h
  · split
    · exact remove_apart h
    · rw [if_neg (by omega), if_neg (by omega)]
      exact append_apart h
/-! #### Right disks stay right -/
theorem rightFrom_weak : ∀ {l : List Fl} {a b : Int}, a ≤ b → rightFrom b l = true → rightFrom a l = true
  | [], _, _, _, _ => rfl
  | x :: l, a, b, h, hr => by
    simp only [rightFrom, Bool.and_eq_true, Bool.not_eq_true', decide_eq_false_iff_not] at hr ⊢
    exact ⟨⟨by omega, hr.1.2⟩, hr.2⟩
theorem right_turn : ∀ {l : List Fl} {last : Int}, rightFrom last l = true → ∀ (f : Fl), last < f.id → number f.id = true → rightFrom last (turnGo f false l) = true
  | [], last, _, f, h1, h2 => by simp [turnGo, rightFrom, h2, h1]
  | x :: l, last, h, f, h1, h2 => by
    simp only [rightFrom, Bool.and_eq_true, Bool.not_eq_true', decide_eq_false_iff_not] at h
    rcases Int.lt_trichotomy x.id f.id with e | e | e
    · rw [turnGo_lt _ _ _ e, rightFrom, right_turn h.2 f e h2, h.1.2]
      simp
      omega
    · rw [turnGo_eq _ _ _ e, turn_true_end h.2 (by omega), rightFrom, h2, ← e, h.2]
      simp
      omega
    · rw [turnGo_gt _ _ _ e, turn_true_end h.2 (by omega), rightFrom, rightFrom, h2, h.1.2, h.2]
      simp
      omega
theorem right_out : ∀ {l : List Fl} {last : Int}, rightFrom last l = true → ∀ (f : Fl), rightFrom last (turnGo f true l) = true
  | [], last, _, f => rfl
  | x :: l, last, h, f => by
    simp only [rightFrom, Bool.and_eq_true, Bool.not_eq_true', decide_eq_false_iff_not] at h
    by_cases e : x.id = f.id
    · rw [turnGo_here _ _ _ e]
      exact rightFrom_weak (by omega) (right_out h.2 f)
    · rw [turnGo_true _ _ _ e, rightFrom, right_out h.2 f, h.1.2]
      simp
      omega
theorem spend_right {d : Dk} (h : right d = true) : number (spend d).1.left = true ∧ ((spend d).1.armed || decide ((spend d).1.left = 0)) = true := by
  simp only [right, Bool.and_eq_true] at h
  have h1 := h.1.2
  have h2 := h.2
  unfold spend
  split
  · exact ⟨h1, h2⟩
  · split
    · rename_i h3 h4
      refine ⟨?_, by simp [h4]⟩
      simp [h4] at h3
      simp only [number, Bool.and_eq_true, decide_eq_true_eq] at h1 ⊢
      omega
    · exact ⟨h1, h2⟩
theorem right_of {l : List Fl} {n : Int} {a b : Bool} (h1 : rightFrom (-1) l = true) (h2 : (tot l : Int) ≤ 1048576) (h3 : number n = true ∧ (a || decide (n = 0)) = true) : right ⟨l, n, a, b⟩ = true := by
  simp [right, h1, h2, h3.1]
  simpa using h3.2
theorem spend_right' {d : Dk} (h : right d = true) : right (spend d).1 = true := by
  have h1 := right_files h
  have e := spend_files (d := d) (d1 := (spend d).1) (ok := (spend d).2) rfl
  have := right_of (b := (spend d).1.down) h1.1 (by omega) (spend_right h)
  rw [← e] at this
  exact this
theorem tot_put {l : List Fl} {id : Int} : tot (putFile l id) = tot l := by
  unfold putFile
  split
  · rfl
  · rw [tot_app, tot_cons, ab_0]
    conv => rhs; rw [← List.take_append_drop (pos l id) l, tot_app]
    omega
theorem append_right {d : Dk} (h : right d = true) (id : Int) (s : ByteArray) : right (append d id s).1 = true := by
  rcases append_cases d id s with ⟨_, h1 | ⟨h1, _⟩⟩ | ⟨f, hf, e, hc, _, hn, ht, hs⟩
  · rw [h1]; exact h
  · rw [h1]; exact spend_right' h
  · rw [hs]
    have h1 := right_files h
    refine right_of ?_ ?_ (spend_right h)
    · have := turn_put h1.1 ⟨f.id, f.firm, f.loose ++ s⟩ (by dsimp only; rw [e]; simp only [number, Bool.and_eq_true, decide_eq_true_eq] at hn; omega)
      dsimp only at this
      rw [e] at this ⊢
      rw [← this]
      exact right_turn h1.1 _ (by dsimp only; simp only [number, Bool.and_eq_true, decide_eq_true_eq] at hn; omega) hn
    · have := set_tot hf (g := ⟨f.id, f.firm, f.loose ++ s⟩)
      rw [tot_put] at this
      simp only [ByteArray.size_append] at this
      omega
theorem sync_right {d : Dk} (h : right d = true) (id : Int) : right (sync d id).1 = true := by
  by_cases h1 : ready d id = 0
  · cases h2 : there d.files id with
    | false => unfold sync; rw [if_neg (by simp [h1]), if_pos h2]; exact h
    | true =>
      cases h3 : (spend d).2 with
      | false => unfold sync; rw [if_neg (by simp [h1]), if_neg (by simp [h2]), if_pos h3]; exact spend_right' h
      | true =>
        obtain ⟨f, hf, e, hs⟩ := sync_ok h1 h2 h3
        have ht := sync_tot d id
        rw [hs] at ht ⊢
        have h4 := right_files h
        refine right_of ?_ (by rw [ht]; omega) (spend_right h)
        rw [rightFrom_ids _ _ _ (set_ids hf (g := ⟨f.id, f.firm ++ f.loose, ⟨#[]⟩⟩) rfl)]
        exact h4.1
  · unfold sync; rw [if_pos h1]; exact h
theorem remove_right {d : Dk} (h : right d = true) (id : Int) : right (remove d id).1 = true := by
  rcases remove_cases d id with ⟨_, h1 | ⟨h1, _⟩⟩ | ⟨f, hf, e, ht, _, hs⟩
  · rw [h1]; exact h
  · rw [h1]; exact spend_right' h
  · rw [hs]
    have h1 := right_files h
    refine right_of ?_ ?_ (spend_right h)
    · have := turn_out h1.1 f (by rw [e]; exact ht)
      rw [e] at this
      rw [← this]
      exact right_out h1.1 f
    · have := congrArg tot (set_parts hf f).2
      rw [tot_app, tot_cons] at this
      rw [tot_app]
      omega
theorem arm_right {d : Dk} (h : right d = true) (n : Int) : right (arm d n) = true := by
  unfold arm
  rw [if_pos h]
  have h1 := right_files h
  refine right_of h1.1 (by omega) ⟨?_, ?_⟩
  · simp only [number, Bool.and_eq_true, decide_eq_true_eq]
    omega
  · by_cases hn : 0 ≤ n
    · simp [hn]
    · simp [hn]; omega
theorem crashFrom_right (keep : List Int) : ∀ {l : List Fl} {last : Int} (k : Nat), rightFrom last l = true → rightFrom last (crashFrom keep k l) = true ∧ tot (crashFrom keep k l) ≤ tot l
  | [], _, _, _ => ⟨rfl, Nat.le_refl _⟩
  | x :: l, last, k, h => by
    simp only [rightFrom, Bool.and_eq_true, Bool.not_eq_true', decide_eq_false_iff_not] at h
    obtain ⟨ih1, ih2⟩ := crashFrom_right keep (k + 1) h.2
    rw [crashFrom]
    split
    · exact ⟨rightFrom_weak (by omega) ih1, by rw [tot_cons]; omega⟩
    · refine ⟨?_, ?_⟩
      · rw [rightFrom, ih1, h.1.2]
        simp
        omega
      · have := keepOf_le keep k x
        simp only [tot_cons, ByteArray.size_append, ByteArray.size_extract, ab_0]
        omega
theorem crash_right {d : Dk} (h : right d = true) (keep : List Int) : right (crash d keep) = true := by
  unfold crash
  rw [if_pos h]
  have h1 := right_files h
  have h2 := crashFrom_right keep 0 h1.1
  exact right_of h2.1 (by have := h2.2; omega) ⟨rfl, rfl⟩
theorem act_right {d : Dk} (h : right d = true) (x : Ac) : right (actD d x) = true := by
  unfold actD
  split
  · exact sync_right h _
  · split
    · exact remove_right h _
    · split
      · exact arm_right h _
      · split
        · exact crash_right h _
        · exact append_right h _ _
/-! #### Firm bytes -/
theorem begins_refl (a : ByteArray) : begins a a = true := by simp [begins]
theorem begins_app (a b : ByteArray) : begins a (a ++ b) = true := by
  simp [begins, ByteArray.extract_append]
theorem begins_nil (a : ByteArray) : begins ⟨#[]⟩ a = true := begins_app ⟨#[]⟩ a |> fun h => by rw [ab_e] at h; exact h
theorem begins_ext (a b : ByteArray) (n : Nat) (h : n ≤ b.size) : begins (a ++ b.extract 0 n) (a ++ b) = true := by
  have : a ++ b = (a ++ b.extract 0 n) ++ b.extract n b.size := by
    rw [ByteArray.append_assoc, ByteArray.extract_append_extract]
    simp [Nat.max_eq_right h]
  rw [this]
  exact begins_app _ _
theorem fileOf_at {l : List Fl} (hs : rightFrom (-1) l = true) {i : Nat} {f : Fl} (hf : l[i]? = some f) : fileOf l f.id = (f.firm, f.firm ++ f.loose) :=
  fileOf_some hf rfl fun p g hp hg => by have := rightFrom_lt hs hp hg hf; omega
theorem fileOf_there {l : List Fl} {id : Int} (h : there l id = false) : fileOf l id = (⟨#[]⟩, ⟨#[]⟩) :=
  fileOf_none fun p g _ hg e => by
    unfold there at h
    rw [List.any_eq_false] at h
    exact h g (List.mem_of_getElem? hg) (decide_eq_true e)
theorem append_firm {d : Dk} (h : right d = true) (id other : Int) (s : ByteArray) : begins (fileOf d.files other).1 (fileOf (append d id s).1.files other).1 = true := by
  by_cases e : id = other
  · subst e
    have hr := append_right h id s
    rcases append_cases d id s with h1 | ⟨f, hf, e, hc, _, hn, ht, hs⟩
    · rw [h1.1]; exact begins_refl _
    · rw [hs] at hr ⊢
      have hi := (List.getElem?_eq_some_iff.1 hf).1
      have h1 := fileOf_at (right_files hr).1 (i := pos d.files id) (f := ⟨f.id, f.firm, f.loose ++ s⟩) (by rw [List.getElem?_set_self hi])
      dsimp only at h1 ⊢
      rw [e] at h1 ⊢
      rw [h1]
      rcases hc with ⟨_, hc⟩ | ⟨hc, _⟩
      · have := fileOf_at (right_files h).1 hc
        rw [e] at this
        rw [this]
        exact begins_refl _
      · rw [fileOf_there hc]
        exact begins_nil _
  · rw [append_apart e]; exact begins_refl _
theorem sync_firm {d : Dk} (h : right d = true) (id other : Int) : begins (fileOf d.files other).1 (fileOf (sync d id).1.files other).1 = true := by
  by_cases e : id = other
  · subst e
    have hr := sync_right h id
    rcases sync_cases d id with h1 | ⟨f, hf, e, _, hs⟩
    · rw [h1]; exact begins_refl _
    · have hi := (List.getElem?_eq_some_iff.1 hf).1
      have h0 := (right_files hr).1
      rw [hs] at h0 ⊢
      have h1 := fileOf_at h0 (i := pos d.files id) (f := ⟨f.id, f.firm ++ f.loose, ⟨#[]⟩⟩) (by rw [List.getElem?_set_self hi])
      have h2 := fileOf_at (right_files h).1 hf
      dsimp only at h1
      rw [e] at h1 h2 ⊢
      rw [h1, h2]
      exact begins_app _ _
  · rw [sync_apart e]; exact begins_refl _
theorem fileOf_cons (x : Fl) (l : List Fl) (id : Int) : fileOf (x :: l) id = if x.id = id then (x.firm, x.firm ++ x.loose) else fileOf l id := by
  unfold fileOf
  rw [List.find?_cons]
  by_cases e : x.id = id <;> simp [e]
theorem crash_file (keep : List Int) (id : Int) : ∀ {l : List Fl} {last : Int} (k : Nat), rightFrom last l = true → (there l id = false → fileOf (crashFrom keep k l) id = (⟨#[]⟩, ⟨#[]⟩)) ∧ ∃ u, fileOf (crashFrom keep k l) id = (u, u) ∧ begins (fileOf l id).1 u = true ∧ begins u (fileOf l id).2 = true
  | [], _, _, _ => ⟨fun _ => rfl, ⟨#[]⟩, rfl, begins_refl _, begins_refl _⟩
  | x :: l, last, k, h => by
    simp only [rightFrom, Bool.and_eq_true, Bool.not_eq_true', decide_eq_false_iff_not] at h
    obtain ⟨ih1, u, ih2, ih3, ih4⟩ := crash_file keep id (k + 1) h.2
    rw [crashFrom, fileOf_cons, there_cons]
    by_cases e : x.id = id
    · have ht := there_zero h.2 (id := id) (by omega)
      have h0 := ih1 ht
      refine ⟨by simp [e], ?_⟩
      rw [if_pos e]
      split
      · rename_i hs
        refine ⟨⟨#[]⟩, h0, ?_, begins_nil _⟩
        have := begins_app x.firm (x.loose.extract 0 (keepOf keep k x))
        rw [hs] at this
        exact this
      · rw [fileOf_cons, if_pos e]
        exact ⟨_, by rw [ab_f], begins_app _ _, begins_ext _ _ _ (keepOf_le _ _ _)⟩
    · rw [if_neg e, decide_eq_false e, Bool.false_or]
      split
      · exact ⟨ih1, u, ih2, ih3, ih4⟩
      · rw [fileOf_cons, if_neg e]
        exact ⟨ih1, u, ih2, ih3, ih4⟩
theorem crash_firm {d : Dk} (h : right d = true) (keep : List Int) (id : Int) : ∃ u, fileOf (crash d keep).files id = (u, u) ∧ begins (fileOf d.files id).1 u = true ∧ begins u (fileOf d.files id).2 = true := by
  unfold crash
  rw [if_pos h]
  exact (crash_file keep id 0 (right_files h).1).2
theorem act_firm {d : Dk} (h : right d = true) (x : Ac) (id : Int) (hk : kindOf x ≠ 5) : begins (fileOf d.files id).1 (fileOf (actD d x).files id).1 = true := by
  unfold actD
  split
  · exact sync_firm h _ _
  · split
    · unfold arm
      rw [if_pos h]
      exact begins_refl _
    · split
      · obtain ⟨u, h1, h2, _⟩ := crash_firm h x.keep id
        rw [h1]; exact h2
      · exact append_firm h _ _ _
theorem act_crash {d : Dk} (h : right d = true) (x : Ac) (id : Int) (hk : kindOf x = 7) : (fileOf (actD d x).files id).2 = (fileOf (actD d x).files id).1 ∧ begins (fileOf (actD d x).files id).1 (fileOf d.files id).2 = true ∧ (actD d x).down = false ∧ (actD d x).armed = false := by
  have e : actD d x = crash d x.keep := by unfold actD; rw [if_neg (by omega), if_neg (by omega), if_neg (by omega), if_pos hk]
  rw [e]
  obtain ⟨u, h1, _, h3⟩ := crash_firm h x.keep id
  rw [h1]
  refine ⟨rfl, h3, ?_, ?_⟩ <;> (unfold crash; rw [if_pos h])
theorem right_empty : right ⟨[], 0, false, false⟩ = true := by decide
/-- An act, and where its kept numbers lie. -/
structure KA where
  x : Ac
  ak : Option Addr
  ck : Nat
def encA (y : KA) : List Value := [.int .i64 y.x.kind, .int .i64 y.x.id, .int .i64 y.x.n, .string y.x.data, .slice y.ak y.x.keep.length y.ck]
theorem arm_files (d : Dk) (n : Int) : (arm d n).files = d.files := by unfold arm; split <;> rfl
theorem crashFrom_len (keep : List Int) : ∀ (k : Nat) (l : List Fl), (crashFrom keep k l).length ≤ l.length
  | _, [] => Nat.le_refl _
  | k, f :: r => by
    have := crashFrom_len keep (k + 1) r
    rw [crashFrom]
    split
    · rw [List.length_cons]; omega
    · rw [List.length_cons, List.length_cons]; omega
theorem crash_len (d : Dk) (keep : List Int) : (crash d keep).files.length ≤ d.files.length := by
  unfold crash
  split
  · exact crashFrom_len _ _ _
  · exact Nat.le_refl _
theorem ids_len {d : Dk} (h : right d = true) (h2 : d.down = false) : (ids d).length = d.files.length := by simp [ids, h, h2]
theorem ids_get {d : Dk} {k : Nat} {n : Int} (h : (ids d)[k]? = some n) : ∃ f, d.files[k]? = some f ∧ f.id = n := by
  unfold ids at h
  split at h
  · simp at h
  · simpa using h
theorem ids_none {d : Dk} (h : right d = false ∨ d.down = true) : ids d = [] := by rcases h with h | h <;> simp [ids, h]
theorem arm_wrong {d : Dk} (h : right d = false) (n : Int) : arm d n = d := by simp [arm, h]
theorem crash_wrong {d : Dk} (h : right d = false) (keep : List Int) : crash d keep = d := by simp [crash, h]
theorem act_small {d : Dk} {x : Ac} (hb : tot d.files ≤ 4611686018427387904) (h1 : x.data.size ≤ 4096) (h2 : 0 ≤ x.kind ∧ x.kind < 6) : tot (actD d x).files ≤ 4611686018427387904 := by
  have e := kind_small h2
  unfold actD
  rw [e]
  split
  · rw [sync_tot]; exact hb
  · split
    · rcases remove_cases d x.id with h | ⟨f, hf, _, _, _, hs⟩
      · rw [h.1]; exact hb
      · rw [hs]
        have := congrArg tot (set_parts hf f).2
        rw [tot_app, tot_cons] at this
        rw [tot_app]
        omega
    · rw [if_neg (by omega), if_neg (by omega)]
      rcases append_cases d x.id x.data with h | ⟨f, hf, _, _, _, _, ht, hs⟩
      · rw [h.1]; exact hb
      · rw [hs]
        have := set_tot hf (g := ⟨f.id, f.firm, f.loose ++ x.data⟩)
        rw [tot_put] at this
        simp only [ByteArray.size_append] at this
        dsimp only
        omega
theorem ids_le (d : Dk) : (ids d).length ≤ d.files.length := by
  unfold ids
  split
  · exact Nat.zero_le _
  · rw [List.length_map]; exact Nat.le_refl _
end Go.Proofs.Ytggkhcdilbdifaa.Ow
