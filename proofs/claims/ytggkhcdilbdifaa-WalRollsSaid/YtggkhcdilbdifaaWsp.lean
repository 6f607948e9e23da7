/- The log, in plain Lean. -/
import Derived.Test.YtggkhcdilbdifaaRcb
import Derived.Test.YtggkhcdilbdifaaDsp
namespace Go.Proofs.Ytggkhcdilbdifaa.Ow
open Go Go.Proofs.Ytggkhcdilbdifaa.Rec
set_option linter.unusedVariables false
structure Sg where
  id : Int
  recs : List ByteArray
  op : Bool
def fileT (f : Fl) : ByteArray := f.firm ++ f.loose
def sgOf (f : Fl) : Sg := ⟨f.id, (allB (fileT f)).1, decide ((allB (fileT f)).2 = ⟨#[]⟩) && decide (((fileT f).size : Int) < 512)⟩
def badId (next id : Int) : Prop := id < 1 ∨ 549755813888 < id ∨ (0 < next ∧ id ≠ next)
instance (next id : Int) : Decidable (badId next id) := by unfold badId; infer_instance
def logF : Int → List Fl → List Sg × Int
  | next, [] => ([], next)
  | next, f :: r => if badId next f.id then (if 0 < next then ([], next) else logF next r) else (sgOf f :: (logF (f.id + (sgOf f).recs.length) r).1, (logF (f.id + (sgOf f).recs.length) r).2)
theorem logF_stop {next : Int} {f : Fl} (r : List Fl) (h : badId next f.id) (h0 : 0 < next) : logF next (f :: r) = ([], next) := by rw [logF, if_pos h, if_pos h0]
theorem logF_skip {next : Int} {f : Fl} (r : List Fl) (h : badId next f.id) (h0 : ¬ 0 < next) : logF next (f :: r) = logF next r := by rw [logF, if_pos h, if_neg h0]
theorem logF_take {next : Int} {f : Fl} (r : List Fl) (h : ¬ badId next f.id) : logF next (f :: r) = (sgOf f :: (logF (f.id + (sgOf f).recs.length) r).1, (logF (f.id + (sgOf f).recs.length) r).2) := by rw [logF, if_neg h]
def logE (d : Dk) : Int := if right d = false then 1 else if d.down then 7 else 0
def logD (d : Dk) : List Sg := (logF 0 d.files).1
def nextD (d : Dk) : Int := if 1 > (logF 0 d.files).2 then 1 else (logF 0 d.files).2
def logR (d : Dk) : List Sg × Int × Int := if logE d = 0 then (logD d, nextD d, 0) else ([], 0, logE d)
theorem logE_ok {d : Dk} (h1 : right d = true) (h2 : d.down = false) : logE d = 0 := by simp [logE, h1, h2]
theorem logR_ok {d : Dk} (h : logE d = 0) : logR d = (logD d, nextD d, 0) := if_pos h
theorem logR_bad {d : Dk} (h : logE d ≠ 0) : logR d = ([], 0, logE d) := if_neg h
theorem logE_zero {d : Dk} (h : logE d = 0) : right d = true ∧ d.down = false := by
  unfold logE at h
  split at h
  · cases h
  · split at h
    · cases h
    · rename_i h1 h2; exact ⟨by simpa using h1, by simpa using h2⟩
/-- A segment, and where its records lie. -/
structure KS where
  g : Sg
  ra : Option Addr
  rc : Nat
def encG (x : KS) : List Value := [.int .i64 x.g.id, .slice x.ra x.g.recs.length x.rc, .bool x.g.op]
theorem encG_ok : Enc encG 3 := ⟨fun _ => rfl, fun x v hv => by simp [encG] at hv; rcases hv with rfl | rfl | rfl <;> rfl⟩
theorem text_at {d : Dk} {k : Nat} {f : Fl} (hr : right d = true) (hd : d.down = false) (hf : d.files[k]? = some f) : text d f.id = (fileT f, 0) := by
  obtain ⟨hsf, _, _⟩ := right_files hr
  have h0 := rightFrom_get hsf hf
  have hrd : ready d f.id = 0 := ready_ok hr (by simp [number]; omega) hd
  have ht : there d.files f.id = true := by
    unfold there
    rw [List.any_eq_true]
    exact ⟨f, List.mem_of_getElem? hf, decide_eq_true rfl⟩
  have hp : pos d.files f.id = k := pos_of (by have := (List.getElem?_eq_some_iff.1 hf).1; omega) (fun p g hp hg => rightFrom_lt hsf hp hg hf) (fun p g hp hg => by
    rcases Nat.lt_or_eq_of_le hp with h | rfl
    · exact Int.le_of_lt (rightFrom_lt hsf h hf hg)
    · rw [hf] at hg; injection hg with hg; rw [hg]; exact Int.le_refl _)
  unfold text
  rw [if_neg (by rw [hrd]; simp), hp, hf]
  simp [ht, fileT]
theorem ids_all {d : Dk} (hr : right d = true) (hd : d.down = false) : ids d = d.files.map (·.id) := by simp [ids, hr, hd]
/-- What a log tells. -/
def firstL : List Sg → Int
  | [] => 1
  | s :: _ => s.id
def fromS (pos : Int) (l : List Sg) : List ByteArray := l.flatMap fun s => s.recs.drop (pos - s.id).toNat
def spanD (d : Dk) : Int × Int × Int := if logE d = 0 then (firstL (logD d), nextD d, 0) else (0, 0, logE d)
def fromD (d : Dk) (pos : Int) : List ByteArray × Int :=
  if logE d = 0 then (if pos < firstL (logD d) ∨ nextD d < pos then ([], 8) else (fromS pos (logD d), 0)) else ([], logE d)
theorem logF_next_lt {f : Fl} {next : Int} (h : ¬ badId next f.id) : 1 ≤ f.id ∧ f.id ≤ 549755813888 ∧ (next ≤ 0 ∨ f.id = next) := by
  unfold badId at h
  omega
theorem logF_len : ∀ (next : Int) (l : List Fl), (logF next l).1.length ≤ l.length
  | next, [] => by simp [logF]
  | next, f :: r => by
    unfold logF
    split
    · split
      · simp
      · have := logF_len next r
        simp
        omega
    · have := logF_len (f.id + (sgOf f).recs.length) r
      simp
      omega
/-- What follows on from place to place: each segment begins where the one ahead of it ends. -/
def Chain : Int → List Sg → Int → Prop
  | a, [], b => a = b
  | a, s :: r, b => s.id = a ∧ 1 ≤ s.id ∧ s.id ≤ 549755813888 ∧ Chain (a + s.recs.length) r b
theorem logF_chain : ∀ (l : List Fl) (next : Int), 0 < next → Chain next (logF next l).1 (logF next l).2
  | [], next, _ => rfl
  | f :: r, next, h => by
    by_cases hb : badId next f.id
    · rw [logF_stop r hb h]; exact rfl
    · rw [logF_take r hb]
      obtain ⟨h1, h2, h3⟩ := logF_next_lt hb
      have e : f.id = next := by omega
      exact ⟨e, h1, h2, by rw [← e]; exact logF_chain r _ (by omega)⟩
theorem logF_first : ∀ (l : List Fl), (logF 0 l = ([], 0)) ∨ ∃ a, 1 ≤ a ∧ (logF 0 l).1 ≠ [] ∧ Chain a (logF 0 l).1 (logF 0 l).2
  | [] => .inl rfl
  | f :: r => by
    by_cases hb : badId 0 f.id
    · rw [logF_skip r hb (by omega)]
      exact logF_first r
    · rw [logF_take r hb]
      obtain ⟨h1, h2, h3⟩ := logF_next_lt hb
      exact .inr ⟨f.id, h1, by simp, rfl, h1, h2, logF_chain r _ (by omega)⟩
theorem Chain.len : ∀ {l : List Sg} {a b : Int}, Chain a l b → b = a + (l.flatMap (·.recs)).length
  | [], a, b, h => by simp [Chain] at h; simp [h]
  | s :: r, a, b, h => by
    obtain ⟨h1, _, _, h2⟩ := h
    have := h2.len
    rw [List.flatMap_cons, List.length_append]
    omega
theorem Chain.from : ∀ {l : List Sg} {a b : Int}, Chain a l b → ∀ {pos : Int}, pos ≤ a → fromS pos l = l.flatMap (·.recs)
  | [], _, _, _, _, _ => rfl
  | s :: r, a, b, h, pos, hp => by
    obtain ⟨h1, _, _, h2⟩ := h
    have ih := h2.from (pos := pos) (by omega)
    unfold fromS at ih ⊢
    rw [List.flatMap_cons, List.flatMap_cons, ih, show (pos - s.id).toNat = 0 by omega]
    rfl
/-- The records from a position on. -/
theorem Chain.drop : ∀ {l : List Sg} {a b : Int}, Chain a l b → ∀ {pos : Int}, a ≤ pos → fromS pos l = (l.flatMap (·.recs)).drop (pos - a).toNat
  | [], _, _, _, _, _ => by simp [fromS]
  | s :: r, a, b, h, pos, hp => by
    obtain ⟨h1, _, _, h2⟩ := h
    unfold fromS
    rw [List.flatMap_cons, List.flatMap_cons, List.drop_append, h1]
    by_cases hq : pos ≤ a + s.recs.length
    · have := h2.from hq
      unfold fromS at this
      rw [this, show (pos - a).toNat - s.recs.length = 0 by omega]
      rfl
    · have := h2.drop (pos := pos) (by omega)
      unfold fromS at this
      rw [this]
      congr 2
      omega
theorem firstL_chain {l : List Sg} {a b : Int} (h : Chain a l b) (h0 : l ≠ []) : firstL l = a := by
  cases l with
  | nil => exact absurd rfl h0
  | cons s r => exact h.1
/-- The reference's way: of all records, and the IDs. -/
theorem log_ref (d : Dk) : (logD d = [] ∧ nextD d = 1 ∧ firstL (logD d) = 1) ∨ (logD d ≠ [] ∧ 1 ≤ firstL (logD d) ∧ nextD d = firstL (logD d) + ((logD d).flatMap (·.recs)).length ∧ ∀ pos, firstL (logD d) ≤ pos → fromS pos (logD d) = ((logD d).flatMap (·.recs)).drop (pos - firstL (logD d)).toNat) := by
  unfold logD nextD
  rcases logF_first d.files with h | ⟨a, h1, h2, h3⟩
  · rw [h]; exact .inl ⟨rfl, rfl, rfl⟩
  · have e := firstL_chain h3 h2
    have hl := h3.len
    refine .inr ⟨h2, by omega, ?_, fun pos hp => ?_⟩
    · rw [if_neg (by omega), e]; exact hl
    · rw [e]; exact h3.drop (by omega)
theorem Sl.drop {α : Type} {F : Mem} {enc : α → List Value} {sz : Nat} {a : Option Addr} {c : Nat} {xs : List α} (h : Sl F enc sz a c xs) {i : Nat} (hi : i ≤ xs.length) : Sl F enc sz (if c = i then a else a.map (·.add (i * sz))) (c - i) (xs.drop i) := by
  have hc := h.cap
  have hm := h.max
  refine ⟨by rw [List.length_drop]; omega, by omega, ?_⟩
  by_cases hx : xs.drop i = []
  · exact .inl hx
  · have hlt : i < xs.length := by
      rcases Nat.lt_or_ge i xs.length with h' | h'
      · exact h'
      · exact absurd (List.drop_eq_nil_of_le h') hx
    rw [if_neg (by omega)]
    rcases h.rd with rfl | ⟨b, o, rfl, hr⟩
    · simp at hlt
    · refine .inr ⟨b, o + i * sz, by simp [add_at], fun j x hj => ?_⟩
      rw [List.getElem?_drop] at hj
      have := hr _ x hj
      rwa [Nat.add_mul, ← Nat.add_assoc] at this
/-- A cut. -/
def cutL (below : Int) : Dk → List Sg → Dk × Int
  | d, s0 :: s1 :: r => if 0 < s1.recs.length ∧ s1.id ≤ below then (if (remove d s0.id).2 = 0 then cutL below (remove d s0.id).1 (s1 :: r) else remove d s0.id) else (d, 0)
  | d, _ => (d, 0)
def cutD (d : Dk) (below : Int) : Dk × Int := if logE d = 0 then cutL below d (logD d) else (d, logE d)
/-- A put. -/
def putTo (d : Dk) : Int := match (logD d).getLast? with
  | some s => if s.op then s.id else nextD d
  | none => nextD d
def lastOpen (d : Dk) : Bool := match (logD d).getLast? with
  | some s => s.op
  | none => false
def clearD (d : Dk) : Dk × Int := if lastOpen d then (d, 0) else if (text d (nextD d)).2 = 0 then remove d (nextD d) else (d, 0)
def putD (d : Dk) (body : ByteArray) : Dk × Int × Int :=
  if logE d ≠ 0 then (d, 0, logE d) else if (putB body).2 ≠ 0 then (d, 0, (putB body).2) else if 549755813888 ≤ nextD d then (d, 0, 6)
  else if (clearD d).2 ≠ 0 then ((clearD d).1, 0, (clearD d).2)
  else if (append (clearD d).1 (putTo d) (putB body).1).2 ≠ 0 then ((append (clearD d).1 (putTo d) (putB body).1).1, 0, (append (clearD d).1 (putTo d) (putB body).1).2)
  else if (sync (append (clearD d).1 (putTo d) (putB body).1).1 (putTo d)).2 ≠ 0 then ((sync (append (clearD d).1 (putTo d) (putB body).1).1 (putTo d)).1, 0, (sync (append (clearD d).1 (putTo d) (putB body).1).1 (putTo d)).2)
  else ((sync (append (clearD d).1 (putTo d) (putB body).1).1 (putTo d)).1, nextD d, 0)
theorem logR_err (d : Dk) : (logR d).2.2 = logE d := by
  unfold logR
  split
  · rename_i h; exact h.symm
  · rfl
theorem Chain.range : ∀ {l : List Sg} {a b : Int}, Chain a l b → ∀ s ∈ l, 1 ≤ s.id ∧ s.id ≤ 549755813888
  | [], _, _, _, s, hs => by cases hs
  | x :: r, a, b, h, s, hs => by
    obtain ⟨h1, h2, h3, h4⟩ := h
    rcases List.mem_cons.1 hs with rfl | hs
    · exact ⟨h2, h3⟩
    · exact h4.range s hs
theorem logD_range (d : Dk) : ∀ s ∈ logD d, 1 ≤ s.id ∧ s.id ≤ 549755813888 := by
  unfold logD
  rcases logF_first d.files with h | ⟨a, h1, h2, h3⟩
  · rw [h]; intro s hs; cases hs
  · exact h3.range
theorem logF_bound : ∀ (l : List Fl) (next : Int), next ≤ 549756862464 → (∀ f ∈ l, (fileT f).size ≤ 1048576) → (logF next l).2 ≤ 549756862464
  | [], next, h, _ => h
  | f :: r, next, h, hf => by
    have hr : ∀ g ∈ r, (fileT g).size ≤ 1048576 := fun g hg => hf g (List.mem_cons_of_mem _ hg)
    unfold logF
    split
    · split
      · exact h
      · exact logF_bound r next h hr
    · rename_i hb
      obtain ⟨h1, h2, h3⟩ := logF_next_lt hb
      have h4 := hf f (List.mem_cons_self ..)
      have h5 := allB_len (fileT f)
      have h6 : (sgOf f).recs.length = (allB (fileT f)).1.length := rfl
      exact logF_bound r _ (by omega) hr
theorem files_small {d : Dk} (h : right d = true) : ∀ f ∈ d.files, (fileT f).size ≤ 1048576 := by
  intro f hf
  obtain ⟨i, hi⟩ := List.getElem?_of_mem hf
  have h1 := tot_get hi
  have h2 := (right_files h).2.1
  rw [fileT, ByteArray.size_append]
  omega
theorem nextD_le {d : Dk} (h : right d = true) : 1 ≤ nextD d ∧ nextD d ≤ 549756862464 := by
  have := logF_bound d.files 0 (by decide) (files_small h)
  unfold nextD
  split <;> omega
theorem recs_le {d : Dk} (h : right d = true) : ((logD d).flatMap (·.recs)).length ≤ 549756862464 := by
  have h1 := nextD_le h
  rcases log_ref d with ⟨e, _, _⟩ | ⟨_, h2, h3, _⟩
  · rw [e]; exact Nat.zero_le _
  · omega
def trK (l : List KS) (k : Nat) : Nat := (((l.take k).map KS.g).flatMap (·.recs)).length
theorem trK_succ {l : List KS} {k : Nat} {x : KS} (h : l[k]? = some x) : trK l (k + 1) = trK l k + x.g.recs.length := by
  unfold trK
  rw [List.take_add_one, h]
  simp
theorem trK_le (l : List KS) (k : Nat) : trK l k ≤ ((l.map KS.g).flatMap (·.recs)).length := by
  unfold trK
  conv => rhs; rw [← List.take_append_drop k l]
  rw [List.map_append, List.flatMap_append, List.length_append]
  omega
theorem fromS_snoc {l : List KS} {k : Nat} {x : KS} (h : l[k]? = some x) (pos : Int) : fromS pos ((l.take (k + 1)).map KS.g) = fromS pos ((l.take k).map KS.g) ++ x.g.recs.drop (pos - x.g.id).toNat := by
  rw [List.take_add_one, h]
  simp [fromS]
theorem drop_grow {l : List ByteArray} {j p : Nat} {x : ByteArray} (h : l[j]? = some x) (hp : p ≤ j) : (l.take (j + 1)).drop p = (l.take j).drop p ++ [x] := by
  have hj := (List.getElem?_eq_some_iff.1 h).1
  rw [List.take_add_one, h, List.drop_append_of_le_length (by rw [List.length_take]; omega)]
  rfl
theorem drop_not {l : List ByteArray} {j p : Nat} (hp : j < p) : (l.take (j + 1)).drop p = (l.take j).drop p := by
  rw [List.drop_of_length_le (by rw [List.length_take]; omega), List.drop_of_length_le (by rw [List.length_take]; omega)]
theorem right_tot {d : Dk} (h : right d = true) : tot d.files ≤ 4611686018427387904 := by have := (right_files h).2.1; omega
theorem right_hn {d : Dk} (h : right d = true) : d.files.length * 40 ≤ 140737488355328 := by have := right_len (right_files h).1; omega
theorem put_open {d : Dk} {s : Sg} (h : (logD d).getLast? = some s) (ho : s.op = true) : putTo d = s.id ∧ clearD d = (d, 0) := by
  unfold putTo clearD lastOpen
  rw [h]
  simp [ho]
theorem put_shut {d : Dk} (h : lastOpen d = false) : putTo d = nextD d := by
  unfold lastOpen at h
  unfold putTo
  split
  · rename_i s hs; rw [hs] at h; simp at h; simp [h]
  · rfl
theorem shut_none {d : Dk} (h : logD d = []) : lastOpen d = false := by simp [lastOpen, h]
theorem shut_some {d : Dk} {s : Sg} (h : (logD d).getLast? = some s) (ho : s.op = false) : lastOpen d = false := by
  unfold lastOpen; rw [h]; exact ho
theorem clear_none {d : Dk} (h : lastOpen d = false) (ht : ¬ (text d (nextD d)).2 = 0) : clearD d = (d, 0) := by
  unfold clearD; rw [h, if_neg (by simp), if_neg ht]
theorem clear_gone {d : Dk} (h : lastOpen d = false) (ht : (text d (nextD d)).2 = 0) : clearD d = remove d (nextD d) := by
  unfold clearD; rw [h, if_neg (by simp), if_pos ht]
theorem last_of {l : List KS} {d : Dk} (hm : l.map KS.g = logD d) {x : KS} (h : l[l.length - 1]? = some x) : (logD d).getLast? = some x.g := by
  rw [← hm, List.getLast?_eq_getElem?, List.length_map, List.getElem?_map, h]
  rfl
theorem putD_err {d : Dk} (body : ByteArray) (h : ¬ logE d = 0) : putD d body = (d, 0, logE d) := if_pos h
theorem putD_long {d : Dk} {body : ByteArray} (h : logE d = 0) (h1 : ¬ (putB body).2 = 0) : putD d body = (d, 0, (putB body).2) := by
  unfold putD; rw [if_neg (by simpa using h), if_pos h1]
theorem putD_full {d : Dk} {body : ByteArray} (h : logE d = 0) (h1 : (putB body).2 = 0) (h2 : 549755813888 ≤ nextD d) : putD d body = (d, 0, 6) := by
  unfold putD; rw [if_neg (by simpa using h), if_neg (by simpa using h1), if_pos h2]
theorem putD_clear {d : Dk} {body : ByteArray} (h : logE d = 0) (h1 : (putB body).2 = 0) (h2 : ¬ 549755813888 ≤ nextD d) {D : Dk × Int} (hc : clearD d = D) (h3 : ¬ D.2 = 0) : putD d body = (D.1, 0, D.2) := by
  subst hc
  unfold putD; rw [if_neg (by simpa using h), if_neg (by simpa using h1), if_neg h2, if_pos h3]
theorem putD_app {d : Dk} {body : ByteArray} (h : logE d = 0) (h1 : (putB body).2 = 0) (h2 : ¬ 549755813888 ≤ nextD d) {D : Dk × Int} (hc : clearD d = D) (h3 : D.2 = 0) {id : Int} (hi : putTo d = id) (h4 : ¬ (append D.1 id (putB body).1).2 = 0) :
    putD d body = ((append D.1 id (putB body).1).1, 0, (append D.1 id (putB body).1).2) := by
  subst hc hi
  unfold putD; rw [if_neg (by simpa using h), if_neg (by simpa using h1), if_neg h2, if_neg (by simpa using h3), if_pos h4]
theorem putD_sync {d : Dk} {body : ByteArray} (h : logE d = 0) (h1 : (putB body).2 = 0) (h2 : ¬ 549755813888 ≤ nextD d) {D : Dk × Int} (hc : clearD d = D) (h3 : D.2 = 0) {id : Int} (hi : putTo d = id) (h4 : (append D.1 id (putB body).1).2 = 0)
    (h5 : ¬ (sync (append D.1 id (putB body).1).1 id).2 = 0) : putD d body = ((sync (append D.1 id (putB body).1).1 id).1, 0, (sync (append D.1 id (putB body).1).1 id).2) := by
  subst hc hi
  unfold putD; rw [if_neg (by simpa using h), if_neg (by simpa using h1), if_neg h2, if_neg (by simpa using h3), if_neg (by simpa using h4), if_pos h5]
theorem putD_ok {d : Dk} {body : ByteArray} (h : logE d = 0) (h1 : (putB body).2 = 0) (h2 : ¬ 549755813888 ≤ nextD d) {D : Dk × Int} (hc : clearD d = D) (h3 : D.2 = 0) {id : Int} (hi : putTo d = id) (h4 : (append D.1 id (putB body).1).2 = 0)
    (h5 : (sync (append D.1 id (putB body).1).1 id).2 = 0) : putD d body = ((sync (append D.1 id (putB body).1).1 id).1, nextD d, 0) := by
  subst hc hi
  unfold putD; rw [if_neg (by simpa using h), if_neg (by simpa using h1), if_neg h2, if_neg (by simpa using h3), if_neg (by simpa using h4), if_neg (by simpa using h5)]
/-- A cut, from place to place. -/
theorem cutL_go {below : Int} {d : Dk} {l : List Sg} {i : Nat} {s0 s1 : Sg} (h0 : l[i]? = some s0) (h1 : l[i + 1]? = some s1) (hc : 0 < s1.recs.length ∧ s1.id ≤ below) :
    cutL below d (l.drop i) = if (remove d s0.id).2 = 0 then cutL below (remove d s0.id).1 (l.drop (i + 1)) else remove d s0.id := by
  rw [drop_get h0, drop_get h1, cutL, if_pos hc]
theorem cutL_end {below : Int} {d : Dk} {l : List Sg} {i : Nat} (h : l.length ≤ i + 1) : cutL below d (l.drop i) = (d, 0) := by
  have : (l.drop i).length ≤ 1 := by rw [List.length_drop]; omega
  match e : l.drop i, this with
  | [], _ => rfl
  | [_], _ => rfl
theorem cutL_stop {below : Int} {d : Dk} {l : List Sg} {i : Nat} {s1 : Sg} (h1 : l[i + 1]? = some s1) (hc : ¬ (0 < s1.recs.length ∧ s1.id ≤ below)) : cutL below d (l.drop i) = (d, 0) := by
  have hi := (List.getElem?_eq_some_iff.1 h1).1
  rw [drop_get (List.getElem?_eq_getElem (show i < l.length by omega)), drop_get h1, cutL, if_neg hc]
structure Segs (F : Mem) (l : List KS) : Prop where
  at' : ∀ x ∈ l, Sl F encS 1 x.ra x.rc x.g.recs
theorem Segs.mono {F G : Mem} {l : List KS} (h : Segs F l) (hle : Le F G) : Segs G l := ⟨fun x hx => (h.at' x hx).mono hle⟩
theorem Segs.nil {F : Mem} : Segs F [] := ⟨fun x hx => by cases hx⟩
theorem Segs.snoc {F : Mem} {l : List KS} {x : KS} (h : Segs F l) (hx : Sl F encS 1 x.ra x.rc x.g.recs) : Segs F (l ++ [x]) := ⟨fun y hy => by
  rcases List.mem_append.1 hy with hy | hy
  · exact h.at' y hy
  · obtain rfl : y = x := by simpa using hy
    exact hx⟩
theorem Le.mono {F G H : Mem} (h : Le F G) (hle : Le G H) : Le F H := h.trans hle
theorem fileT_size (f : Fl) : (fileT f).size = f.firm.size + f.loose.size := ByteArray.size_append
end Go.Proofs.Ytggkhcdilbdifaa.Ow
