/- What is cut, and what is put, of a log: plain laws. -/
import Derived.Test.YtggkhcdilbdifaaWsp
namespace Go.Proofs.Ytggkhcdilbdifaa.Ow
open Go Go.Proofs.Ytggkhcdilbdifaa.Rec
set_option linter.unusedVariables false
/-! ### Cuts -/
theorem remove_ok {d : Dk} {k : Nat} {f : Fl} (hE : logE d = 0) (ha : d.armed = false) (hf : d.files[k]? = some f) : remove d f.id = (⟨d.files.take k ++ d.files.drop (k + 1), d.left, d.armed, d.down⟩, 0) := by
  obtain ⟨hr, hd⟩ := logE_zero hE
  obtain ⟨hsf, _, _⟩ := right_files hr
  have h0 := rightFrom_get hsf hf
  have hrd : ready d f.id = 0 := ready_ok hr (by simp [number]; omega) hd
  have ht : there d.files f.id = true := by
    unfold there
    rw [List.any_eq_true]
    exact ⟨f, List.mem_of_getElem? hf, decide_eq_true rfl⟩
  have hp : pos d.files f.id = k := pos_of (by have := (List.getElem?_eq_some_iff.1 hf).1; omega) (fun p g hp hg => rightFrom_lt hsf hp hg hf) (fun p g hp hg => by
    rcases Nat.lt_or_eq_of_le hp with h | rfl
    · exact Int.le_of_lt (rightFrom_lt hsf h hf hg)
    · rw [hf] at hg; injection hg with hg; rw [hg]; exact Int.le_refl _)
  unfold remove
  rw [if_neg (by simp [hrd]), if_neg (by simp [ht]), unarmed_spend ha, if_neg (by simp), hp]
theorem logF_zero : ∀ {l : List Fl} {nx n : Int} {s : Sg} {r : List Sg}, 0 < nx → logF nx l = (s :: r, n) → logF 0 l = (s :: r, n)
  | [], nx, n, s, r, _, h => by simp [logF] at h
  | g :: gs, nx, n, s, r, h0, h => by
    by_cases hb : badId nx g.id
    · rw [logF_stop gs hb h0] at h; simp at h
    · rw [logF_take gs hb] at h
      have hb' : ¬ badId 0 g.id := by unfold badId at hb ⊢; omega
      rw [logF_take gs hb']
      exact h
theorem cut_step : ∀ {l : List Fl} {s0 s1 : Sg} {r : List Sg} {n : Int}, logF 0 l = (s0 :: s1 :: r, n) → ∃ k f, l[k]? = some f ∧ f.id = s0.id ∧ logF 0 (l.take k ++ l.drop (k + 1)) = (s1 :: r, n)
  | [], s0, s1, r, n, h => by simp [logF] at h
  | f :: fs, s0, s1, r, n, h => by
    by_cases hb : badId 0 f.id
    · rw [logF_skip fs hb (by omega)] at h
      obtain ⟨k, g, h1, h2, h3⟩ := cut_step h
      refine ⟨k + 1, g, by simpa using h1, h2, ?_⟩
      rw [List.take_succ_cons, List.drop_succ_cons, List.cons_append, logF_skip _ hb (by omega)]
      exact h3
    · rw [logF_take fs hb] at h
      obtain ⟨h1, h2, h3⟩ := logF_next_lt hb
      simp only [Prod.mk.injEq, List.cons.injEq] at h
      refine ⟨0, f, rfl, by rw [← h.1.1]; rfl, ?_⟩
      have hp : logF (f.id + (sgOf f).recs.length) fs = (s1 :: r, n) := by rw [← h.1.2, ← h.2]
      simpa using logF_zero (by omega) hp
theorem cutL_law (below : Int) : ∀ (l : List Sg) (d : Dk) (n : Int), logE d = 0 → d.armed = false → logF 0 d.files = (l, n) →
    ∃ d' j, cutL below d l = (d', 0) ∧ logE d' = 0 ∧ d'.armed = false ∧ logF 0 d'.files = (l.drop j, n) ∧ (j = 0 ∨ ∃ s, l[j]? = some s ∧ s.id ≤ below)
  | [], d, n, hE, ha, h => ⟨d, 0, rfl, hE, ha, h, .inl rfl⟩
  | [s], d, n, hE, ha, h => ⟨d, 0, rfl, hE, ha, h, .inl rfl⟩
  | s0 :: s1 :: r, d, n, hE, ha, h => by
    by_cases hc : 0 < s1.recs.length ∧ s1.id ≤ below
    · obtain ⟨k, f, h1, h2, h3⟩ := cut_step h
      have hrm := remove_ok hE ha h1
      rw [h2] at hrm
      obtain ⟨hr, hd⟩ := logE_zero hE
      have hE' : logE (remove d s0.id).1 = 0 := logE_ok (remove_right hr _) (by rw [hrm]; exact hd)
      obtain ⟨d', j, g1, g2, g3, g4, g5⟩ := cutL_law below (s1 :: r) (remove d s0.id).1 n hE' (by rw [hrm]; exact ha) (by rw [hrm]; exact h3)
      refine ⟨d', j + 1, ?_, g2, g3, by simpa using g4, .inr ?_⟩
      · rw [cutL, if_pos hc, if_pos (by rw [hrm]), g1]
      · rcases g5 with rfl | ⟨s, hs, hsb⟩
        · exact ⟨s1, rfl, hc.2⟩
        · exact ⟨s, by simpa using hs, hsb⟩
    · exact ⟨d, 0, by rw [cutL, if_neg hc], hE, ha, h, .inl rfl⟩
theorem Chain.split : ∀ {A B : List Sg} {a b : Int}, Chain a (A ++ B) b → ∃ m, Chain a A m ∧ Chain m B b
  | [], B, a, b, h => ⟨a, rfl, h⟩
  | s :: A, B, a, b, h => by
    obtain ⟨h1, h2, h3, h4⟩ := h
    obtain ⟨m, g1, g2⟩ := Chain.split h4
    exact ⟨m, ⟨h1, h2, h3, g1⟩, g2⟩
theorem Chain.le {l : List Sg} {a b : Int} (h : Chain a l b) : a ≤ b := by have := h.len; omega
theorem fromS_app (pos : Int) (A B : List Sg) : fromS pos (A ++ B) = fromS pos A ++ fromS pos B := by simp [fromS]
/-- From where the rest begins, the whole tells what the rest tells. -/
theorem from_rest {l : List Sg} {a b : Int} (h : Chain a l b) {j : Nat} {s : Sg} (hs : l[j]? = some s) : a ≤ s.id ∧ s.id ≤ b ∧ firstL (l.drop j) = s.id ∧ fromS s.id l = fromS s.id (l.drop j) ∧ Chain s.id (l.drop j) b ∧ (l.drop j).flatMap (·.recs) = (l.flatMap (·.recs)).drop (s.id - a).toNat := by
  have e := List.take_append_drop j l
  have hd := drop_get hs
  rw [← e] at h
  obtain ⟨m, h1, h2⟩ := h.split
  have hm : s.id = m := by rw [hd] at h2; exact h2.1
  subst hm
  have hl := h1.len
  have hf : fromS s.id (l.take j) = [] := by
    rw [h1.drop h1.le, List.drop_of_length_le (by omega)]
  refine ⟨h1.le, h2.le, by rw [hd]; rfl, ?_, h2, ?_⟩
  · conv => lhs; rw [← e, fromS_app, hf, List.nil_append]
  · obtain ⟨A, hA⟩ : ∃ A, A = l.take j := ⟨_, rfl⟩
    obtain ⟨B, hB⟩ : ∃ B, B = l.drop j := ⟨_, rfl⟩
    rw [← hA] at hl
    have e' : l = A ++ B := by rw [hA, hB]; exact e.symm
    rw [← hB, e', List.flatMap_append, List.drop_append, List.drop_of_length_le (by omega), List.nil_append, show (s.id - a).toNat - (A.flatMap (·.recs)).length = 0 by omega]
    rfl
theorem logD_of {d : Dk} {l : List Sg} {n : Int} (h : logF 0 d.files = (l, n)) : logD d = l ∧ nextD d = if 1 > n then 1 else n := by unfold logD nextD; rw [h]; exact ⟨rfl, rfl⟩
theorem cut_law {d : Dk} (hE : logE d = 0) (ha : d.armed = false) (below : Int) : ∃ d', cutD d below = (d', 0) ∧ logE d' = 0 ∧ nextD d' = nextD d ∧ firstL (logD d) ≤ firstL (logD d') ∧ (firstL (logD d') ≤ firstL (logD d) ∨ firstL (logD d') ≤ below) ∧
    fromD d (firstL (logD d')) = fromD d' (firstL (logD d')) ∧ (fromD d (firstL (logD d'))).2 = 0 ∧ ∃ j, logD d' = (logD d).drop j ∧ (j = 0 ∨ j < (logD d).length) := by
  obtain ⟨l, n, hl⟩ : ∃ l n, logF 0 d.files = (l, n) := ⟨_, _, rfl⟩
  obtain ⟨e1, e2⟩ := logD_of hl
  obtain ⟨d', j, h1, h2, h3, h4, h5⟩ := cutL_law below l d n hE ha hl
  obtain ⟨f1, f2⟩ := logD_of h4
  have hcut : cutD d below = (d', 0) := by rw [cutD, if_pos hE, e1, h1]
  have hn : nextD d' = nextD d := by rw [f2, e2]
  refine ⟨d', hcut, h2, hn, ?_⟩
  rw [e1, f1]
  have hfrom : ∀ x, firstL l ≤ x → firstL (l.drop j) ≤ x → x ≤ nextD d → fromS x l = fromS x (l.drop j) → fromD d x = fromD d' x ∧ (fromD d x).2 = 0 := by
    intro x h1 h1' h2' h3
    have g1 : fromD d x = (fromS x l, 0) := by rw [fromD, if_pos hE, e1, if_neg (by omega)]
    have g2 : fromD d' x = (fromS x (l.drop j), 0) := by rw [fromD, if_pos h2, f1, hn, if_neg (by omega)]
    rw [g1, g2, h3]
    exact ⟨rfl, rfl⟩
  rcases logF_first d.files with h | ⟨a, g1, g2, g3⟩
  · rw [hl] at h
    injection h with h h'
    subst h h'
    have hx := hfrom 1 (by decide) (by simp [firstL]) (by rw [e2]; decide) (by simp)
    rw [List.drop_nil]
    exact ⟨Int.le_refl _, .inl (Int.le_refl _), hx.1, hx.2, 0, rfl, .inl rfl⟩
  · rw [hl] at g2 g3
    dsimp only at g2 g3
    have hfl := firstL_chain g3 g2
    have hnx : nextD d = n := by rw [e2, if_neg (by have := g3.le; omega)]
    rcases h5 with rfl | ⟨s, hs, hsb⟩
    · rw [List.drop_zero]
      have hx := hfrom (firstL l) (Int.le_refl _) (by simp) (by rw [hnx, hfl]; exact g3.le) (by rw [List.drop_zero])
      exact ⟨Int.le_refl _, .inl (Int.le_refl _), hx.1, hx.2, 0, rfl, .inl rfl⟩
    · obtain ⟨k1, k2, k3, k4, k5, k6⟩ := from_rest g3 hs
      rw [k3]
      have hx := hfrom s.id (by omega) (by omega) (by omega) k4
      exact ⟨by omega, .inr hsb, hx.1, hx.2, j, rfl, .inr (List.getElem?_eq_some_iff.1 hs).1⟩
/-! ### Puts, onto a disk that holds a log and nothing else -/
def rowB (bs : List ByteArray) : ByteArray := bo (rowL (bs.map bl))
theorem rowB_snoc (bs : List ByteArray) (b : ByteArray) : rowB (bs ++ [b]) = rowB bs ++ recB b := by
  unfold rowB recB
  rw [List.map_append, List.map_cons, List.map_nil, rowL_snoc, bo_append]
theorem rowB_nil : rowB [] = ⟨#[]⟩ := rfl
theorem allB_row {bs : List ByteArray} (h : ∀ b ∈ bs, b.size ≤ 65536) : allB (rowB bs) = (bs, ⟨#[]⟩) := by
  have h1 := allL_row (bs.map bl) (fun b hb => by
    obtain ⟨x, hx, rfl⟩ := List.mem_map.1 hb
    have := h x hx
    rwa [bl_size] at this) []
  rw [List.append_nil, show allL [] = ([], []) from rfl, List.append_nil] at h1
  unfold allB rowB
  rw [bl_bo, h1]
  show ((bs.map bl).map bo, bo []) = _
  rw [List.map_map, show (bo ∘ bl) = id from funext bo_bl, List.map_id]
  rfl
def segF (a : Int) (bs : List ByteArray) : Fl := ⟨a, rowB bs, ⟨#[]⟩⟩
def mkF : Int → List (List ByteArray) → List Fl
  | _, [] => []
  | a, bs :: r => segF a bs :: mkF (a + bs.length) r
def sgs : Int → List (List ByteArray) → List Sg
  | _, [] => []
  | a, bs :: r => sgOf (segF a bs) :: sgs (a + bs.length) r
def GoodS (l : List (List ByteArray)) : Prop := ∀ bs ∈ l, bs ≠ [] ∧ ∀ b ∈ bs, b.size ≤ 65536
theorem sgOf_seg {a : Int} {bs : List ByteArray} (h : ∀ b ∈ bs, b.size ≤ 65536) : (sgOf (segF a bs)).recs = bs ∧ (sgOf (segF a bs)).id = a ∧ (sgOf (segF a bs)).op = decide ((rowB bs).size < 512) := by
  have e : fileT (segF a bs) = rowB bs := by unfold fileT segF; exact ab_f _
  unfold sgOf
  rw [e, allB_row h]
  refine ⟨rfl, rfl, ?_⟩
  have ht : ∀ x : ByteArray, decide (x = x) = true := fun x => decide_eq_true rfl
  dsimp only
  rw [ht, Bool.true_and]
  exact decide_eq_decide.2 (by omega)
theorem mkF_snoc : ∀ (l : List (List ByteArray)) (a : Int) (bs : List ByteArray), mkF a (l ++ [bs]) = mkF a l ++ [segF (a + l.flatten.length) bs]
  | [], a, bs => by simp [mkF]
  | x :: r, a, bs => by
    rw [List.cons_append, mkF, mkF_snoc r, mkF, List.cons_append, List.flatten_cons, List.length_append]
    congr 4
    omega
theorem mkF_lt : ∀ {l : List (List ByteArray)} {a : Int}, GoodS l → ∀ f ∈ mkF a l, a ≤ f.id ∧ f.id < a + l.flatten.length
  | [], a, _, f, hf => by simp [mkF] at hf
  | bs :: r, a, h, f, hf => by
    obtain ⟨h1, h2⟩ := h bs (List.mem_cons_self ..)
    have hp : 0 < bs.length := List.length_pos_iff.2 h1
    rw [mkF, List.mem_cons] at hf
    rw [List.flatten_cons, List.length_append]
    rcases hf with rfl | hf
    · exact ⟨Int.le_refl _, by show a < _; omega⟩
    · have := mkF_lt (fun x hx => h x (List.mem_cons_of_mem _ hx)) f hf
      omega
theorem number_ok {n : Int} (h : 0 ≤ n ∧ n ≤ 1099511627776) : number n = true := by unfold number; rw [decide_eq_true h.1, decide_eq_true h.2]; rfl
theorem mkF_right : ∀ {l : List (List ByteArray)} {a last : Int}, GoodS l → last < a → 0 ≤ a → a + l.flatten.length ≤ 1099511627776 → rightFrom last (mkF a l) = true
  | [], _, _, _, _, _, _ => rfl
  | bs :: r, a, last, h, hl, ha, hb => by
    obtain ⟨h1, h2⟩ := h bs (List.mem_cons_self ..)
    have hp : 0 < bs.length := List.length_pos_iff.2 h1
    rw [List.flatten_cons, List.length_append] at hb
    have ih := mkF_right (l := r) (a := a + bs.length) (last := a) (fun x hx => h x (List.mem_cons_of_mem _ hx)) (by omega) (by omega) (by omega)
    unfold mkF
    have e1 : (!decide ((segF a bs).id ≤ last)) = true := by rw [decide_eq_false (show ¬ (segF a bs).id ≤ last by show ¬ a ≤ last; omega)]; rfl
    have e2 : number (segF a bs).id = true := number_ok (by show 0 ≤ a ∧ a ≤ 1099511627776; omega)
    unfold rightFrom
    rw [e1, e2]
    exact ih
theorem logF_mk : ∀ {l : List (List ByteArray)} {a : Int}, GoodS l → 1 ≤ a → a + l.flatten.length ≤ 549755813889 → logF a (mkF a l) = (sgs a l, a + l.flatten.length)
  | [], a, _, _, _ => by simp [mkF, sgs, logF]
  | bs :: r, a, h, ha, hb => by
    obtain ⟨h1, h2⟩ := h bs (List.mem_cons_self ..)
    have hp : 0 < bs.length := List.length_pos_iff.2 h1
    rw [List.flatten_cons, List.length_append] at hb ⊢
    have hs := (sgOf_seg (a := a) h2).1
    have hb' : ¬ badId a (segF a bs).id := by show ¬ badId a a; unfold badId; omega
    rw [mkF, logF_take _ hb', hs, sgs]
    show (_ :: (logF (a + bs.length) _).1, (logF (a + bs.length) _).2) = _
    rw [logF_mk (fun x hx => h x (List.mem_cons_of_mem _ hx)) (by omega) (by omega)]
    congr 1
    omega
theorem logF_mk0 {l : List (List ByteArray)} {a : Int} (h : GoodS l) (ha : 1 ≤ a) (hb : a + l.flatten.length ≤ 549755813889) (h0 : l ≠ []) : logF 0 (mkF a l) = (sgs a l, a + l.flatten.length) := by
  have := logF_mk h ha hb
  cases l with
  | nil => exact absurd rfl h0
  | cons bs r => exact logF_zero (by omega) this
theorem sgs_snoc : ∀ (l : List (List ByteArray)) (a : Int) (bs : List ByteArray), sgs a (l ++ [bs]) = sgs a l ++ [sgOf (segF (a + l.flatten.length) bs)]
  | [], a, bs => by simp [sgs]
  | x :: r, a, bs => by
    rw [List.cons_append, sgs, sgs_snoc r, sgs, List.cons_append, List.flatten_cons, List.length_append]
    congr 5
    omega
theorem sgs_flat : ∀ {l : List (List ByteArray)} {a : Int}, GoodS l → (sgs a l).flatMap (·.recs) = l.flatten
  | [], _, _ => rfl
  | bs :: r, a, h => by
    rw [sgs, List.flatMap_cons, sgs_flat (fun x hx => h x (List.mem_cons_of_mem _ hx)), List.flatten_cons, (sgOf_seg (h bs (List.mem_cons_self ..)).2).1]
theorem sgs_ne : ∀ {l : List (List ByteArray)} {a : Int}, GoodS l → ∀ s ∈ sgs a l, s.recs ≠ []
  | [], _, _, s, hs => by cases hs
  | bs :: r, a, h, s, hs => by
    rw [sgs, List.mem_cons] at hs
    rcases hs with rfl | hs
    · rw [(sgOf_seg (h bs (List.mem_cons_self ..)).2).1]; exact (h bs (List.mem_cons_self ..)).1
    · exact sgs_ne (fun x hx => h x (List.mem_cons_of_mem _ hx)) s hs
def cdisk (l : List (List ByteArray)) : Dk := ⟨mkF 1 l, 0, false, false⟩
/-- An append to the last file; to a file behind all; a sync of the last one. -/
theorem pos_last {A : List Fl} {f : Fl} (h : ∀ g ∈ A, g.id < f.id) : pos (A ++ [f]) f.id = A.length := pos_of (by simp) (fun p g hp hg => by
    rw [List.getElem?_append_left hp] at hg; exact h g (List.mem_of_getElem? hg)) (fun p g hp hg => by
    rw [List.getElem?_append_right hp] at hg
    have : p - A.length = 0 := by have := (List.getElem?_eq_some_iff.1 hg).1; simp at this; omega
    rw [this] at hg; simp at hg; subst hg; exact Int.le_refl _)
theorem pos_new {A : List Fl} {id : Int} (h : ∀ g ∈ A, g.id < id) : pos A id = A.length := pos_of (Nat.le_refl _) (fun p g hp hg => h g (List.mem_of_getElem? hg)) (fun p g hp hg => by
    have := (List.getElem?_eq_some_iff.1 hg).1; omega)
theorem there_new {A : List Fl} {id : Int} (h : ∀ g ∈ A, g.id < id) : there A id = false := by
  unfold there
  rw [List.any_eq_false]
  intro g hg
  have := h g hg
  simp
  omega
theorem there_last {A : List Fl} {f : Fl} : there (A ++ [f]) f.id = true := by simp [there]
theorem set_last {A : List Fl} {f g : Fl} : (A ++ [f]).set A.length g = A ++ [g] := by simp
theorem append_last {A : List Fl} {f : Fl} {s : ByteArray} (h : ∀ g ∈ A, g.id < f.id) (hr : right ⟨A ++ [f], 0, false, false⟩ = true) (hn : number f.id = true) (hs : tot (A ++ [f]) + s.size ≤ 1048576) :
    append ⟨A ++ [f], 0, false, false⟩ f.id s = (⟨A ++ [⟨f.id, f.firm, f.loose ++ s⟩], 0, false, false⟩, 0) := by
  unfold append
  have hg : (A ++ [f])[A.length]? = some f := by simp
  rw [if_neg (by rw [ready_ok hr hn rfl]; simp), if_neg (by dsimp only; omega), unarmed_spend rfl, if_neg (by simp)]
  dsimp only
  rw [putFile, there_last, if_pos rfl, pos_last h, modify_set _ hg, set_last]
theorem append_new {A : List Fl} {id : Int} {s : ByteArray} (h : ∀ g ∈ A, g.id < id) (hr : right ⟨A, 0, false, false⟩ = true) (hn : number id = true) (hs : tot A + s.size ≤ 1048576) :
    append ⟨A, 0, false, false⟩ id s = (⟨A ++ [⟨id, ⟨#[]⟩, s⟩], 0, false, false⟩, 0) := by
  unfold append
  have hg : (A ++ [(⟨id, ⟨#[]⟩, ⟨#[]⟩⟩ : Fl)])[A.length]? = some ⟨id, ⟨#[]⟩, ⟨#[]⟩⟩ := by simp
  rw [if_neg (by rw [ready_ok hr hn rfl]; simp), if_neg (by dsimp only; omega), unarmed_spend rfl, if_neg (by simp)]
  dsimp only
  rw [putFile, there_new h, if_neg (by simp), pos_new h, List.take_length, List.drop_length, modify_set _ hg, set_last, ab_e]
theorem sync_last {A : List Fl} {f : Fl} (h : ∀ g ∈ A, g.id < f.id) (hr : right ⟨A ++ [f], 0, false, false⟩ = true) (hn : number f.id = true) :
    sync ⟨A ++ [f], 0, false, false⟩ f.id = (⟨A ++ [⟨f.id, f.firm ++ f.loose, ⟨#[]⟩⟩], 0, false, false⟩, 0) := by
  unfold sync
  have hg : (A ++ [f])[A.length]? = some f := by simp
  rw [if_neg (by rw [ready_ok hr hn rfl]; simp), if_neg (by rw [there_last]; simp), unarmed_spend rfl, if_neg (by simp)]
  dsimp only
  rw [pos_last h, modify_set _ hg, set_last]
theorem cdisk_right {l : List (List ByteArray)} (h : GoodS l) (hn : l.flatten.length ≤ 1000) (ht : tot (mkF 1 l) ≤ 1048576) : right (cdisk l) = true :=
  right_of (mkF_right h (by omega) (by omega) (by omega)) (by omega) ⟨by decide, by decide⟩
theorem cdisk_log {l : List (List ByteArray)} (h : GoodS l) (hn : l.flatten.length ≤ 1000) : logD (cdisk l) = sgs 1 l ∧ nextD (cdisk l) = 1 + l.flatten.length := by
  cases l with
  | nil => exact ⟨rfl, rfl⟩
  | cons bs r =>
    have := logF_mk0 (a := 1) h (by omega) (by omega) (by simp)
    obtain ⟨h1, h2⟩ := logD_of (d := cdisk (bs :: r)) this
    refine ⟨h1, ?_⟩
    rw [h2, if_neg (by omega)]
theorem put_chain {l : List (List ByteArray)} (h : GoodS l) (hn : l.flatten.length ≤ 900) {b : ByteArray} (hb : b.size ≤ 65536) (ht : tot (mkF 1 l) + b.size + 9 ≤ 1048576) :
    ∃ l', putD (cdisk l) b = (cdisk l', (l.flatten.length : Int) + 1, 0) ∧ GoodS l' ∧ l'.flatten = l.flatten ++ [b] ∧ tot (mkF 1 l') = tot (mkF 1 l) + b.size + 9 := by
  have hr := cdisk_right h (by omega) (by omega)
  have hE : logE (cdisk l) = 0 := logE_ok hr rfl
  obtain ⟨h1, h2⟩ := cdisk_log h (by omega)
  have hpb : putB b = (recB b, 0) := if_neg (by omega)
  have hfull : ¬ 549755813888 ≤ nextD (cdisk l) := by rw [h2]; omega
  have hrs := recB_size b
  -- a new file
  have hnew : lastOpen (cdisk l) = false → ∃ l', putD (cdisk l) b = (cdisk l', (l.flatten.length : Int) + 1, 0) ∧ GoodS l' ∧ l'.flatten = l.flatten ++ [b] ∧ tot (mkF 1 l') = tot (mkF 1 l) + b.size + 9 := by
    intro ho
    have hlt : ∀ g ∈ mkF 1 l, g.id < 1 + (l.flatten.length : Int) := fun g hg => (mkF_lt h g hg).2
    have hnum : number (1 + (l.flatten.length : Int)) = true := number_ok (by omega)
    have htx : ¬ (text (cdisk l) (nextD (cdisk l))).2 = 0 := by
      rw [h2]
      have : text (cdisk l) (1 + (l.flatten.length : Int)) = (⟨#[]⟩, 8) := by
        unfold text
        rw [if_neg (by rw [ready_ok hr hnum rfl]; simp)]
        exact text_none (there_new hlt)
      rw [this]; decide
    have hcl := clear_none ho htx
    have hto := put_shut ho
    have happ := append_new (s := recB b) hlt hr hnum (by omega)
    have hG' : GoodS (l ++ [[b]]) := fun x hx => by
      rcases List.mem_append.1 hx with hx | hx
      · exact h x hx
      · obtain rfl : x = [b] := by simpa using hx
        exact ⟨by simp, fun y hy => by obtain rfl : y = b := by simpa using hy
                                       exact hb⟩
    have hfl : (l ++ [[b]]).flatten = l.flatten ++ [b] := by simp
    have hmk : mkF 1 (l ++ [[b]]) = mkF 1 l ++ [⟨1 + (l.flatten.length : Int), recB b, ⟨#[]⟩⟩] := by
      rw [mkF_snoc, segF, show ([b] : List ByteArray) = [] ++ [b] from rfl, rowB_snoc, rowB_nil, ab_e]
    have htot : tot (mkF 1 (l ++ [[b]])) = tot (mkF 1 l) + b.size + 9 := by
      rw [hmk, tot_app, tot_cons, ab_0, hrs]; simp [tot]; omega
    have hr2 : right ⟨mkF 1 l ++ [⟨1 + (l.flatten.length : Int), ⟨#[]⟩, recB b⟩], 0, false, false⟩ = true := by
      have := append_right hr (1 + (l.flatten.length : Int)) (recB b)
      rwa [show append (cdisk l) _ _ = _ from happ] at this
    have hsy := sync_last (f := ⟨1 + (l.flatten.length : Int), ⟨#[]⟩, recB b⟩) hlt hr2 hnum
    refine ⟨l ++ [[b]], ?_, hG', hfl, htot⟩
    rw [h2] at hto
    have happ' : append (cdisk l) (1 + (l.flatten.length : Int)) (recB b) = (⟨mkF 1 l ++ [⟨1 + (l.flatten.length : Int), ⟨#[]⟩, recB b⟩], 0, false, false⟩, 0) := happ
    have key := putD_ok (d := cdisk l) (body := b) hE (by rw [hpb]) hfull hcl rfl hto (by rw [hpb]; dsimp only; rw [happ']) (by rw [hpb]; dsimp only; rw [happ']; exact congrArg Prod.snd hsy)
    rw [key, hpb]
    dsimp only
    rw [happ', hsy, h2]
    simp only [cdisk, hmk, ab_e]
    congr 2
    omega
  -- the last file
  rcases List.eq_nil_or_concat l with rfl | ⟨A, bs, hl⟩
  · exact hnew (shut_none (by rw [h1]; rfl))
  · rw [List.concat_eq_append] at hl
    subst hl
    have hgA : GoodS A := fun x hx => h x (List.mem_append_left _ hx)
    obtain ⟨hb1, hb2⟩ := h bs (List.mem_append_right _ (List.mem_singleton_self _))
    obtain ⟨q1, q2, q3⟩ := sgOf_seg (a := 1 + (A.flatten.length : Int)) hb2
    have hla : (logD (cdisk (A ++ [bs]))).getLast? = some (sgOf (segF (1 + (A.flatten.length : Int)) bs)) := by rw [h1, sgs_snoc]; simp
    by_cases ho : (sgOf (segF (1 + (A.flatten.length : Int)) bs)).op = true
    · obtain ⟨hto, hcl⟩ := put_open hla ho
      rw [q2] at hto
      have hlt : ∀ g ∈ mkF 1 A, g.id < (segF (1 + (A.flatten.length : Int)) bs).id := fun g hg => (mkF_lt hgA g hg).2
      have hlen : (A ++ [bs]).flatten.length = A.flatten.length + bs.length := by simp
      have hnum : number (segF (1 + (A.flatten.length : Int)) bs).id = true := number_ok (by show 0 ≤ 1 + (A.flatten.length : Int) ∧ 1 + (A.flatten.length : Int) ≤ 1099511627776; omega)
      have hmk := mkF_snoc A 1 bs
      have hr' : right ⟨mkF 1 A ++ [segF (1 + (A.flatten.length : Int)) bs], 0, false, false⟩ = true := by rw [← hmk]; exact hr
      have happ := append_last (s := recB b) hlt hr' hnum (by rw [← hmk]; omega)
      rw [← hmk] at happ
      have hr2 : right ⟨mkF 1 A ++ [⟨(segF (1 + (A.flatten.length : Int)) bs).id, (segF (1 + (A.flatten.length : Int)) bs).firm, (segF (1 + (A.flatten.length : Int)) bs).loose ++ recB b⟩], 0, false, false⟩ = true := by
        have := append_right hr (segF (1 + (A.flatten.length : Int)) bs).id (recB b)
        rwa [show append (cdisk (A ++ [bs])) _ _ = _ from happ] at this
      have hsy := sync_last (f := ⟨(segF (1 + (A.flatten.length : Int)) bs).id, (segF (1 + (A.flatten.length : Int)) bs).firm, (segF (1 + (A.flatten.length : Int)) bs).loose ++ recB b⟩) hlt hr2 hnum
      have hG' : GoodS (A ++ [bs ++ [b]]) := fun x hx => by
        rcases List.mem_append.1 hx with hx | hx
        · exact hgA x hx
        · obtain rfl : x = bs ++ [b] := by simpa using hx
          exact ⟨by simp, fun y hy => by
            rcases List.mem_append.1 hy with hy | hy
            · exact hb2 y hy
            · obtain rfl : y = b := by simpa using hy
              exact hb⟩
      have hmk' : mkF 1 (A ++ [bs ++ [b]]) = mkF 1 A ++ [⟨1 + (A.flatten.length : Int), rowB bs ++ recB b, ⟨#[]⟩⟩] := by rw [mkF_snoc, segF, rowB_snoc]
      refine ⟨A ++ [bs ++ [b]], ?_, hG', by simp, ?_⟩
      · have happ' : append (cdisk (A ++ [bs])) (1 + (A.flatten.length : Int)) (recB b) = (⟨mkF 1 A ++ [⟨1 + (A.flatten.length : Int), rowB bs, ⟨#[]⟩ ++ recB b⟩], 0, false, false⟩, 0) := happ
        have hsy' : sync ⟨mkF 1 A ++ [⟨1 + (A.flatten.length : Int), rowB bs, ⟨#[]⟩ ++ recB b⟩], 0, false, false⟩ (1 + (A.flatten.length : Int)) = (⟨mkF 1 A ++ [⟨1 + (A.flatten.length : Int), rowB bs ++ (⟨#[]⟩ ++ recB b), ⟨#[]⟩⟩], 0, false, false⟩, 0) := hsy
        have key := putD_ok (d := cdisk (A ++ [bs])) (body := b) hE (by rw [hpb]) hfull hcl rfl hto (by rw [hpb]; dsimp only; rw [happ']) (by rw [hpb]; dsimp only; rw [happ']; exact congrArg Prod.snd hsy')
        rw [key, hpb]
        dsimp only
        rw [happ']
        dsimp only
        rw [hsy', h2]
        simp only [cdisk, hmk', segF, ab_e]
        congr 2
        omega
      · rw [hmk', hmk, tot_app, tot_app, tot_cons, tot_cons]
        simp only [segF, ByteArray.size_append, hrs, ab_0]
        simp [tot]
        omega
    · exact hnew (shut_some hla (by simpa using ho))
end Go.Proofs.Ytggkhcdilbdifaa.Ow
namespace Go.Proofs.Ytggkhcdilbdifaa.Ow
open Go Go.Proofs.Ytggkhcdilbdifaa.Rec
set_option linter.unusedVariables false
theorem rolls_law {s : List (List ByteArray)} {l : List ByteArray} (hg : GoodS s) (hf : s.flatten = l) (hn : l.length ≤ 60) (ht : tot (mkF 1 s) ≤ 1048576) :
    fromD (cdisk s) 1 = (l, 0) ∧ ∃ d' : Dk, ∃ A : Int, cutD (cdisk s) ((l.length : Int) + 1) = (d', 0) ∧ logE d' = 0 ∧ spanD d' = (A, (l.length : Int) + 1, 0) ∧ 1 ≤ A ∧ A ≤ l.length + 1 ∧ (0 < l.length → A < l.length + 1) ∧ fromD d' A = (l.drop (A - 1).toNat, 0) := by
  have hr := cdisk_right hg (by rw [hf]; omega) ht
  have hE : logE (cdisk s) = 0 := logE_ok hr rfl
  obtain ⟨h1, h2⟩ := cdisk_log hg (by rw [hf]; omega)
  have hfl := sgs_flat (a := 1) hg
  rw [hf] at h2 hfl
  obtain ⟨d', c1, c2, c3, c4, c5, c6, c7, j, c8, c9⟩ := cut_law hE rfl (l.length + 1 : Int)
  rcases log_ref (cdisk s) with ⟨e1, e2, e3⟩ | ⟨e1, e2, e3, e4⟩
  · have hl : l = [] := by rw [← hfl, ← h1, e1]; rfl
    have hd' : logD d' = [] := by rw [c8, e1, List.drop_nil]
    have hfd : firstL (logD d') = 1 := by rw [hd']; rfl
    refine ⟨?_, d', 1, c1, c2, ?_, by omega, by omega, (fun h => by rw [hl] at h; cases h), ?_⟩
    · rw [fromD, if_pos hE, e3, e2, if_neg (by decide), e1, hl]; rfl
    · rw [spanD, if_pos c2, hfd, c3, e2, hl]; rfl
    · rw [fromD, if_pos c2, hfd, c3, e2, if_neg (by decide), hd', hl]; rfl
  · rw [h1, hfl] at e3
    rw [h1] at e1 e2 e4
    have hfi : firstL (sgs 1 s) = 1 := by rw [h2] at e3; omega
    rw [hfi] at e2 e3 e4
    rw [hfl] at e4
    have hfr1 : fromD (cdisk s) 1 = (l, 0) := by
      rw [fromD, if_pos hE, h1, hfi, h2, if_neg (by omega), e4 1 (by omega)]
      rfl
    have h0 : 0 < l.length := by
      rcases Nat.eq_zero_or_pos l.length with h | h
      · have : (sgs 1 s).flatMap (·.recs) = [] := by rw [hfl]; exact List.eq_nil_of_length_eq_zero h
        cases e : sgs 1 s with
        | nil => exact absurd e e1
        | cons x r =>
          have hx := sgs_ne hg x (by rw [e]; exact List.mem_cons_self ..)
          rw [e, List.flatMap_cons] at this
          exact absurd (List.append_eq_nil_iff.1 this).1 hx
      · exact h
    rw [h1, hfi] at c4
    have hA : firstL (logD d') ≤ l.length := by
      rw [c8, h1]
      rcases c9 with rfl | hj
      · rw [List.drop_zero, hfi]; omega
      · rw [h1] at hj
        have hs : (sgs 1 s)[j]? = some (sgs 1 s)[j] := List.getElem?_eq_getElem hj
        rcases logF_first (cdisk s).files with h | ⟨a, g1, g2, g3⟩
        · have : logD (cdisk s) = [] := by unfold logD; rw [h]
          rw [h1] at this; exact absurd this e1
        · have hd : logD (cdisk s) = (logF 0 (cdisk s).files).1 := rfl
          rw [← hd, h1] at g2 g3
          have ha : a = 1 := by rw [← firstL_chain g3 g2, hfi]
          subst ha
          obtain ⟨k1, k2, k3, k4, k5, k6⟩ := from_rest g3 hs
          have hl1 := g3.len
          have hl2 := k5.len
          rw [hfl] at hl1
          rw [k3]
          have hne : 0 < (((sgs 1 s).drop j).flatMap (·.recs)).length := by
            rw [drop_get hs, List.flatMap_cons, List.length_append]
            have := List.length_pos_iff.2 (sgs_ne hg _ (List.mem_of_getElem? hs))
            omega
          omega
    refine ⟨hfr1, d', firstL (logD d'), c1, c2, ?_, c4, by omega, fun _ => by omega, ?_⟩
    · rw [spanD, if_pos c2, c3, h2]
      congr 2
      omega
    · rw [← c6, fromD, if_pos hE, h1, hfi, h2, if_neg (by omega), e4 _ (by omega)]
end Go.Proofs.Ytggkhcdilbdifaa.Ow
