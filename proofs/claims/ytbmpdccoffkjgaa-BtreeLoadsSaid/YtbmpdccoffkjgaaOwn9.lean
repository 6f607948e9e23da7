/- Regions whose order is drawn: each order that the edges allow comes to the same. -/
import Derived.Test.YtbmpdccoffkjgaaOwn6
import Derived.Laws.Externs
import Derived.Below
import Derived.WalkKit
import Derived.ProofKit
import Derived.SizedLaws
namespace Go.Proofs.Ytbmpdccoffkjgaa.Ow
open Go
set_option linter.unusedVariables false
def preds (ops : Array Oper) (i : Nat) : List Nat := match ops[i]? with
  | some o => o.after.toList.filterMap fun e => if Region.binds .any e then some e.on else none
  | none => []
def todo (listed : Array Bool) : Nat := (List.range listed.size).countP fun i => !listed.getD i false
/-- An operation that is known: its number, its slot, its value. -/
structure KE where
  i : Nat
  d : Option Nat
  v : Value
/-- A variable's making, whenever: its number, its slot, what lies there. -/
structure FE where
  i : Nat
  d : Nat
  ty : TypeId
  cs : List Value
structure OpG (P : Program) (ops : Array Oper) (o : Oper) (env : Env) (L : List Itm) (F : Mem) (v : Value) : Prop where
  run : ∀ n a w R (Q : Post) (K : Act → World → Prop), Has n env a → Own w (L.flatten ++ R) F → (∀ w', Own w' (L.flatten ++ R) F → K (a.put o.dst v) w') →
    if Region.wanted o (yielded ops a.tmps) then o.wp P a w K Q ∨ (o.asks P a w ∧ LetsOut Q) else K (a.put o.dst undef) w
section
variable {P : Program} {ops : Array Oper} {env : Env} {L : List Itm} {F : Mem} {dst : Option Tmp} {op : Op} {ty : TypeId} {pos : String} {af : Array Edge} {v : Value}
theorem OpG.n (h : OpV P ⟨dst, op, ty, pos, af, none⟩ env L F v) : OpG P ops ⟨dst, op, ty, pos, af, none⟩ env L F v :=
  ⟨fun n a w R Q K hh ho hk => by rw [if_pos (wanted_none _)]; exact .inl (h.run n a w R K Q hh ho hk)⟩
theorem OpG.g {j : Nat} {b : Bool} {o : Oper} {t : Nat} (hj : ops[j]? = some o) (ht : o.dst = some t) (hb : find env t = some (.bool b)) (h : OpV P ⟨dst, op, ty, pos, af, none⟩ env L F v) : OpG P ops ⟨dst, op, ty, pos, af, some (j, b)⟩ env L F v :=
  ⟨fun n a w R Q K hh ho hk => by
    rw [if_pos (by simp [Region.wanted, yielded_of hj ht hh hb])]
    exact .inl (h.run n a w R K Q hh ho hk)⟩
theorem OpG.s {j : Nat} {b : Bool} {o : Oper} {t : Nat} (hj : ops[j]? = some o) (ht : o.dst = some t) (hb : find env t = some (.bool !b)) : OpG P ops ⟨dst, op, ty, pos, af, some (j, b)⟩ env L F undef :=
  ⟨fun n a w R Q K hh ho hk => by
    rw [if_neg (by simp [Region.wanted, yielded_of hj ht hh hb])]
    exact hk w ho⟩
theorem OpG.u {j : Nat} {b : Bool} {o : Oper} {t : Nat} (hj : ops[j]? = some o) (ht : o.dst = some t) (hb : find env t = some undef) : OpG P ops ⟨dst, op, ty, pos, af, some (j, b)⟩ env L F undef :=
  ⟨fun n a w R Q K hh ho hk => by
    have h1 := hh.get _ _ hb
    rw [if_neg (by simp [Region.wanted, yielded, hj, ht, h1, undef])]
    exact hk w ho⟩
end
/-- What is listed. -/
def on (listed : Array Bool) (i : Nat) : Prop := listed.getD i false = true
def flBlks (Fl : List FE) (listed : Array Bool) (f : Nat → Nat) : List Blk := (Fl.filter fun x => listed.getD x.i false).map fun x => ⟨f x.i, x.ty, x.cs⟩
/-- The operation of number k.i yields what is known of it. -/
def OpA (P : Program) (ops : Array Oper) (n : Nat) (pt : List (List Nat)) (env : Env) (K : List KE) (L : List Itm) (F : Mem) (k : KE) : Prop :=
  ∀ (a : Act) (w : World) (R : List Blk) (Q : Post) (X : Act → World → Prop), Has n env a → (∀ k' ∈ K, k'.i ∈ pt.getD k.i [] → ∀ d, k'.d = some d → a.tmps[d]? = some k'.v) → Own w (L.flatten ++ R) F →
    (∀ w', Own w' (L.flatten ++ R) F → X (a.put k.d k.v) w') → wpOp P ops Q k.i X a w
theorem mem_ready {ops : Array Oper} {listed : Array Bool} {i : Nat} (hs : listed.size = ops.size) (h : i ∈ Region.ready .any ops listed) : i < ops.size ∧ ¬ on listed i ∧ ∀ p ∈ preds ops i, on listed p := by
  unfold Region.ready at h
  obtain ⟨h1, h2⟩ := List.mem_filter.1 h
  have hi := List.mem_range.1 h1
  rw [Bool.and_eq_true] at h2
  refine ⟨hi, ?_, ?_⟩
  · unfold on
    have h3 := h2.1
    rw [Array.getD_eq_getD_getElem?] at h3 ⊢
    rw [Array.getElem?_eq_getElem (by omega)] at h3 ⊢
    simpa using h3
  · intro p hp
    unfold preds at hp
    rw [Array.getElem?_eq_getElem hi] at hp
    have h3 := h2.2
    rw [Array.getElem?_eq_getElem hi] at h3
    simp only [Option.map_some, Option.getD_some, Array.all_eq_true'] at h3
    obtain ⟨e, he, hpe⟩ := List.mem_filterMap.1 hp
    have h4 := h3 e (Array.mem_toList_iff.1 he)
    split at hpe
    · rename_i hb
      injection hpe with hpe
      simp [hb] at h4
      unfold on
      rw [← hpe]
      simpa using h4
    · cases hpe
theorem ready_mem {ops : Array Oper} {listed : Array Bool} {i : Nat} (hs : listed.size = ops.size) (hi : i < ops.size) (hn : ¬ on listed i) (hp : ∀ p ∈ preds ops i, on listed p) : i ∈ Region.ready .any ops listed := by
  unfold Region.ready
  refine List.mem_filter.2 ⟨List.mem_range.2 hi, ?_⟩
  rw [Bool.and_eq_true]
  constructor
  · unfold on at hn
    rw [Array.getD_eq_getD_getElem?] at hn ⊢
    rw [Array.getElem?_eq_getElem (by omega)] at hn ⊢
    simpa using hn
  · rw [Array.getElem?_eq_getElem hi]
    simp only [Option.map_some, Option.getD_some, Array.all_eq_true']
    intro e he
    by_cases hb : Region.binds .any e = true
    · have := hp e.on (by
        unfold preds
        rw [Array.getElem?_eq_getElem hi]
        exact List.mem_filterMap.2 ⟨e, Array.mem_toList_iff.2 he, by simp [hb]⟩)
      unfold on at this
      simp [hb]
      simpa using this
    · simp [hb]
theorem on_set {listed : Array Bool} {i j : Nat} (hi : i < listed.size) : on (listed.setIfInBounds i true) j ↔ j = i ∨ on listed j := by
  unfold on
  rw [Array.getD_eq_getD_getElem?, Array.getD_eq_getD_getElem?]
  by_cases e : i = j
  · subst e
    simp [hi]
  · rw [Array.getElem?_setIfInBounds_ne e]
    constructor
    · exact .inr
    · rintro (h | h)
      · exact absurd h.symm e
      · exact h
theorem todo_set {listed : Array Bool} {i : Nat} (hi : i < listed.size) (hn : ¬ on listed i) : todo (listed.setIfInBounds i true) + 1 = todo listed := by
  unfold todo
  rw [Array.size_setIfInBounds]
  have : ∀ m, m ≤ listed.size → (List.range m).countP (fun j => !(listed.setIfInBounds i true).getD j false) + (if i < m then 1 else 0) = (List.range m).countP (fun j => !listed.getD j false) := by
    intro m
    induction m with
    | zero => intro _; simp
    | succ m ih =>
      intro hm
      have h := ih (by omega)
      rw [List.range_succ, List.countP_append, List.countP_append]
      by_cases e : i = m
      · subst e
        have h1 : (listed.setIfInBounds i true).getD i false = true := (on_set hi).2 (.inl rfl)
        have h2 : listed.getD i false = false := by unfold on at hn; simpa using hn
        rw [if_neg (Nat.lt_irrefl _)] at h
        rw [if_pos (Nat.lt_succ_self _)]
        simp only [List.countP_cons, List.countP_nil, h1, h2, Bool.not_true, Bool.not_false, Bool.false_eq_true, if_true, if_false]
        omega
      · have h1 : (listed.setIfInBounds i true).getD m false = listed.getD m false := by
          rw [Bool.eq_iff_iff]
          exact (on_set (j := m) hi).trans ⟨fun h => h.resolve_left (fun h => e h.symm), .inr⟩
        have h2 : (if i < m + 1 then 1 else 0) = (if i < m then 1 else 0) := by
          by_cases h3 : i < m
          · rw [if_pos h3, if_pos (by omega)]
          · rw [if_neg h3, if_neg (by omega)]
        rw [h2]
        simp only [List.countP_cons, List.countP_nil, h1]
        omega
  have h := this listed.size (Nat.le_refl _)
  rw [if_pos hi] at h
  exact h
theorem todo_pos {listed : Array Bool} {i : Nat} (hi : i < listed.size) (hn : ¬ on listed i) : 0 < todo listed := by have := todo_set hi hn; omega
/-- If not all is listed, something is ready. -/
theorem some_ready {ops : Array Oper} {listed : Array Bool} (hs : listed.size = ops.size) (hm : ∀ i, ∀ p ∈ preds ops i, p < i) {i : Nat} (hi : i < ops.size) (hn : ¬ on listed i) : ∃ j, j ∈ Region.ready .any ops listed := by
  induction i using Nat.strongRecOn with
  | _ i ih =>
    by_cases h : ∀ p ∈ preds ops i, on listed p
    · exact ⟨i, ready_mem hs hi hn h⟩
    · obtain ⟨p, hp⟩ := Classical.not_forall.1 h
      obtain ⟨hp1, hp2⟩ := Classical.not_imp.1 hp
      exact ih p (hm i p hp1) (by have := hm i p hp1; omega) hp2
theorem flBlks_set {Fl : List FE} {listed : Array Bool} {f : Nat → Nat} {i : Nat} (hi : i < listed.size) (hF : ∀ x ∈ Fl, x.i ≠ i) : flBlks Fl (listed.setIfInBounds i true) f = flBlks Fl listed f := by
  unfold flBlks
  congr 1
  apply List.filter_congr
  intro x hx
  rw [Bool.eq_iff_iff]
  exact (on_set (j := x.i) hi).trans ⟨fun h => h.resolve_left (hF x hx), .inr⟩
theorem put_keep {a : Act} {d : Option Nat} {v u : Value} {s : Nat} (hs : a.tmps[s]? = some u) (hne : d ≠ some s) : (a.put d v).tmps[s]? = some u := by
  cases d with
  | none => exact hs
  | some d => simp only [Act.put]; rw [Array.getElem?_setIfInBounds_ne (fun e => hne (by rw [e]))]; exact hs
theorem put_here {a : Act} {d : Nat} {v : Value} (hs : d < a.tmps.size) : (a.put (some d) v).tmps[d]? = some v := by simp [Act.put, hs]
theorem has_keep {n : Nat} {env : Env} {a : Act} {d : Option Nat} {v : Value} (h : Has n env a) (hd : ∀ x, d = some x → find env x = none) : Has n env (a.put d v) := by
  cases d with
  | none => exact h
  | some d => exact ⟨by simp [Act.put, h.size], h.defers, fun i u hi => put_keep (h.get i u hi) (fun e => by injection e with e; subst e; rw [hd d rfl] at hi; cases hi)⟩
/-- What is known of slots out of some operations that are known. -/
inductive PE (K : List KE) (ps : List Nat) : Env → Prop
  | nil : PE K ps []
  | cons {k : KE} {d : Nat} {e : Env} : k ∈ K → k.d = some d → ps.contains k.i = true → PE K ps e → PE K ps ((d, k.v) :: e)
theorem PE.has {n : Nat} {env : Env} {a : Act} {K : List KE} {ps : List Nat} {pe : Env} (h : PE K ps pe) (hh : Has n env a) (hk : ∀ k ∈ K, k.i ∈ ps → ∀ d, k.d = some d → a.tmps[d]? = some k.v) : Has n (pe ++ env) a := by
  induction h with
  | nil => exact hh
  | @cons k d e h1 h2 h3 _ ih =>
    refine ⟨hh.size, hh.defers, fun i u hi => ?_⟩
    simp only [List.cons_append, find] at hi
    by_cases ij : d = i
    · subst ij
      simp at hi
      rw [← hi]
      exact hk k h1 (by simpa using h3) d h2
    · rw [Bool.eq_false_iff.2 fun h => ij (Nat.eq_of_beq_eq_true h)] at hi
      exact ih.get i u hi
/-- The values of the operations that are known, by their slots. -/
def kenv : List KE → Env
  | [] => []
  | ⟨_, some d, v⟩ :: r => (d, v) :: kenv r
  | ⟨_, none, _⟩ :: r => kenv r
section
variable {P : Program} {ops : Array Oper} {Q : Post} {n : Nat} {pt : List (List Nat)} {Fl : List FE} {env : Env} {K : List KE} {D : List Nat} {L : List Itm} {F : Mem}
def slotOk (env : Env) (K : List KE) (Fl : List FE) (i : Nat) (d : Option Nat) : Bool :=
  (match d with | some x => (find env x).isNone && K.all (fun k => k.d != some x) && Fl.all (fun k => k.d != x) | none => true) && K.all (fun k => k.i != i) && Fl.all (fun k => k.i != i)
theorem slotOk.spec {i : Nat} {d : Option Nat} (h : slotOk env K Fl i d = true) : (∀ x, d = some x → find env x = none) ∧ (∀ k ∈ K, ∀ x, d = some x → k.d ≠ some x) ∧ (∀ k ∈ Fl, ∀ x, d = some x → k.d ≠ x) ∧ (∀ k ∈ K, k.i ≠ i) ∧ ∀ k ∈ Fl, k.i ≠ i := by
  unfold slotOk at h
  rw [Bool.and_eq_true, Bool.and_eq_true] at h
  obtain ⟨⟨h1, h2⟩, h3⟩ := h
  refine ⟨?_, ?_, ?_, fun k hk => by simpa using List.all_eq_true.1 h2 k hk, fun k hk => by simpa using List.all_eq_true.1 h3 k hk⟩
  · rintro x rfl
    simp only [Bool.and_eq_true] at h1
    simpa using h1.1.1
  · rintro k hk x rfl
    simp only [Bool.and_eq_true] at h1
    simpa using List.all_eq_true.1 h1.1.2 k hk
  · rintro k hk x rfl
    simp only [Bool.and_eq_true] at h1
    simpa using List.all_eq_true.1 h1.2 k hk
theorem OpG.a {i : Nat} {o : Oper} {v : Value} {pe : Env} {F : Mem} {L : List Itm} (ho : ops[i]? = some o) (hpe : PE K (pt.getD i []) pe) (h : OpG P ops o (pe ++ env) L F v) : OpA P ops n pt env K L F ⟨i, o.dst, v⟩ := by
  intro a w R Q X hh hk hown hX
  unfold wpOp
  simp only [ho]
  exact h.run n a w R Q X (hpe.has hh hk) hown hX
theorem OpA.more {k k' : KE} (h : OpA P ops n pt env K L F k) : OpA P ops n pt env (k' :: K) L F k :=
  fun a w R Q X hh hk ho hX => h a w R Q X hh (fun k1 h1 => hk k1 (List.mem_cons_of_mem _ h1)) ho hX
/-- Is i the one operation that is not known and may be ready? -/
def onlyOk (pt : List (List Nat)) (K : List Nat) (Fl : List Nat) (i m : Nat) : Bool :=
  (List.range m).all fun j => K.contains j || Fl.contains j || j == i || (pt.getD j []).any fun p => !(K.contains p || Fl.contains p)
/-- Is all of this listed for certain, when i is? -/
def doneOk (pt : List (List Nat)) (D : List Nat) (i : Nat) (seen : List Nat) : List Nat → Bool
  | [] => true
  | x :: r => (x == i || D.contains x || seen.any fun y => (pt.getD y []).contains x) && doneOk pt D i (x :: seen) r
theorem doneOk.spec {D : List Nat} {i : Nat} {listed : Array Bool} (hD : ∀ i ∈ D, on listed i) (hi : on listed i) (hc : ∀ i, on listed i → ∀ p ∈ pt.getD i [], on listed p) : ∀ (l seen : List Nat), doneOk pt D i seen l = true → (∀ x ∈ seen, on listed x) → ∀ x ∈ l, on listed x
  | [], _, _, _ => by simp
  | y :: r, seen, h, hs => by
    simp only [doneOk, Bool.and_eq_true, Bool.or_eq_true, List.any_eq_true] at h
    have hy : on listed y := by
      rcases h.1 with (h1 | h1) | ⟨z, hz, h1⟩
      · rw [show y = i by simpa using h1]; exact hi
      · exact hD y (by simpa using h1)
      · exact hc z (hs z hz) y (by simpa using h1)
    intro x hx
    rcases List.mem_cons.1 hx with rfl | hx
    · exact hy
    · exact doneOk.spec hD hi hc r (y :: seen) h.2 (fun z hz => by
        rcases List.mem_cons.1 hz with rfl | hz
        · exact hy
        · exact hs z hz) x hx
/-- What is looked at again, behind an operation that changes something. -/
inductive Rck (P : Program) (ops : Array Oper) (n : Nat) (pt : List (List Nat)) (env : Env) (K : List KE) (D : List Nat) (L : List Itm) (F : Mem) : List KE → Prop
  | nil : Rck P ops n pt env K D L F []
  | skip {k : KE} {r : List KE} : D.contains k.i = true → Rck P ops n pt env K D L F r → Rck P ops n pt env K D L F (k :: r)
  | again {i : Nat} {o : Oper} {v : Value} {r : List KE} (pe : Env) : ops[i]? = some o → PE K (pt.getD i []) pe → OpG P ops o (pe ++ env) L F v → Rck P ops n pt env K D L F r → Rck P ops n pt env K D L F (⟨i, o.dst, v⟩ :: r)
theorem Rck.all {l : List KE} (h : Rck P ops n pt env K D L F l) : ∀ k ∈ l, k.i ∈ D ∨ OpA P ops n pt env K L F k := by
  induction h with
  | nil => simp
  | skip h1 _ ih =>
    intro k hk
    rcases List.mem_cons.1 hk with rfl | hk
    · exact .inl (by simpa using h1)
    · exact ih k hk
  | again pe h1 h2 h3 _ ih =>
    intro k hk
    rcases List.mem_cons.1 hk with rfl | hk
    · exact .inr (OpG.a h1 h2 h3)
    · exact ih k hk
theorem wpAny_walk (X : Array Bool → Act → World → Prop) {listed : Array Bool} (fuel : Nat) (a : Act) (w : World) (hs : listed.size = ops.size) (hf : todo listed ≤ fuel) (hm : ∀ i, ∀ p ∈ preds ops i, p < i)
    (hend : (∀ i, i < ops.size → on listed i) → Q .normal a w)
    (hstep : ∀ i, i < ops.size → ¬ on listed i → (∀ p ∈ preds ops i, on listed p) → ∀ fuel', todo (listed.setIfInBounds i true) ≤ fuel' → fuel = fuel' + 1 → wpOp P ops Q i (wpAny P .any ops Q fuel' (listed.setIfInBounds i true)) a w) : wpAny P .any ops Q fuel listed a w := by
  have hrd : Region.ready .any ops listed = [] → Q .normal a w := by
    intro h0
    refine hend fun i hi => ?_
    refine Classical.byContradiction fun hn => ?_
    obtain ⟨j, hj⟩ := some_ready hs hm hi hn
    rw [h0] at hj
    cases hj
  cases fuel with
  | zero =>
    have h0 : Region.ready .any ops listed = [] := by
      cases e : Region.ready .any ops listed with
      | nil => rfl
      | cons j r =>
        obtain ⟨j1, j2, _⟩ := mem_ready hs (i := j) (by rw [e]; exact List.mem_cons_self ..)
        have := todo_pos (by omega) j2
        omega
    exact ⟨h0, hrd h0⟩
  | succ fuel =>
    refine ⟨hrd, fun i hi => ?_⟩
    obtain ⟨i1, i2, i3⟩ := mem_ready hs hi
    exact hstep i i1 i2 i3 fuel (by have := todo_set (by omega) i2; omega) rfl
/-- The memory with a floating variable. -/
theorem run_alloc_wpOp {i : Nat} {d : Nat} {ty t sz bytes : Nat} {pos : String} {af : Array Edge} {g : Bool} {zero : Value} {cs : List Value} (ho : ops[i]? = some ⟨some d, .alloc t, ty, pos, af, none⟩) (ht : Ty P t sz bytes g zero) (hz : zero.cells = cs.toArray)
    {a : Act} {w : World} {X : Act → World → Prop} (hX : X (a.put (some d) (.pointer (some ⟨w.heap.size, 0, none⟩))) (w.alloc (.cells cs.toArray t (0, 0)))) : wpOp P ops Q i X a w := by
  unfold wpOp
  simp only [ho]
  rw [if_pos (wanted_none _)]
  refine .inl ?_
  unfold Oper.wp
  have : (execOp a.eval ⟨some d, .alloc t, ty, pos, af, none⟩).run P w = .ok (.value (.pointer (some ⟨w.heap.size, 0, none⟩))) (w.alloc (.cells cs.toArray t (0, 0))) := by
    simp [execOp, Instr.alloc, ht.zeroV, newVar, newRow, hz]
  rw [this]
  exact hX
/-- How a floating variable is made. -/
def FlOk (P : Program) (ops : Array Oper) (Fl : List FE) : Prop := ∀ x ∈ Fl, ∃ ty pos af sz bytes g zero, ops[x.i]? = some ⟨some x.d, .alloc x.ty, ty, pos, af, none⟩ ∧ Ty P x.ty sz bytes g zero ∧ zero.cells = x.cs.toArray

/-- Slots and numbers of what is known do not meet. -/
structure Wf (P : Program) (ops : Array Oper) (n : Nat) (Fl : List FE) (env : Env) (K : List KE) : Prop where
  n1 : (K.map (·.i)).Nodup
  n2 : ∀ k ∈ K, ∀ x ∈ Fl, k.i ≠ x.i
  n3 : ∀ k ∈ K, ∀ x, k.d = some x → find env x = none
  n4 : ∀ k ∈ K, ∀ k' ∈ K, k.i ≠ k'.i → ∀ x, k.d = some x → k'.d ≠ some x
  n5 : ∀ k ∈ K, ∀ x ∈ Fl, k.d ≠ some x.d
  n6 : ∀ k ∈ K, ∀ d, k.d = some d → d < n
  n7 : ∀ x ∈ Fl, x.d < n ∧ find env x.d = none
  n8 : (Fl.map (·.i)).Nodup ∧ (Fl.map (·.d)).Nodup
  n9 : FlOk P ops Fl
structure Good (n : Nat) (ops : Array Oper) (pt : List (List Nat)) (Fl : List FE) (env : Env) (K : List KE) (D : List Nat) (L : List Itm) (F : Mem) (listed : Array Bool) (a : Act) (w : World) : Prop where
  sz : listed.size = ops.size
  kn : ∀ i, on listed i → (∃ k ∈ K, k.i = i) ∨ ∃ x ∈ Fl, x.i = i
  dn : ∀ i ∈ D, on listed i
  cl : ∀ i, on listed i → ∀ p ∈ pt.getD i [], on listed p
  hs : Has n env a
  vs : ∀ k ∈ K, on listed k.i → ∀ d, k.d = some d → a.tmps[d]? = some k.v
  mem : ∃ f : Nat → Nat, (∀ x ∈ Fl, on listed x.i → a.tmps[x.d]? = some (.pointer (some ⟨f x.i, 0, none⟩))) ∧ Own w (L.flatten ++ flBlks Fl listed f) F
theorem nodup_inj {α β : Type} (g : α → β) : ∀ {K : List α}, (K.map g).Nodup → ∀ {k k' : α}, k ∈ K → k' ∈ K → g k = g k' → k = k'
  | [], _, _, _, h, _, _ => by cases h
  | x :: K, hn, k, k', h1, h2, e => by
    rw [List.map_cons, List.nodup_cons] at hn
    rcases List.mem_cons.1 h1 with e1 | m1 <;> rcases List.mem_cons.1 h2 with e2 | m2
    · rw [e1, e2]
    · exact absurd (List.mem_map.2 ⟨k', m2, by rw [← e, e1]⟩) hn.1
    · exact absurd (List.mem_map.2 ⟨k, m1, by rw [e, e2]⟩) hn.1
    · exact nodup_inj g hn.2 m1 m2 e
/-- From a good state each known operation leads to a good state. -/
theorem Good.step {listed : Array Bool} {a : Act} {w : World} (h : Good n ops pt Fl env K D L F listed a w) (hpt : ∀ i, pt.getD i [] = preds ops i) (hw : Wf P ops n Fl env K) (hA : ∀ k ∈ K, k.i ∈ D ∨ OpA P ops n pt env K L F k)
    {k : KE} (hk : k ∈ K) (hlt : k.i < ops.size) (hn : ¬ on listed k.i) (hp : ∀ p ∈ preds ops k.i, on listed p) {X : Act → World → Prop} {Q : Post} (hX : ∀ a' w', Good n ops pt Fl env K D L F (listed.setIfInBounds k.i true) a' w' → X a' w') : wpOp P ops Q k.i X a w := by
  rcases hA k hk with hd | hop
  · exact absurd (h.dn _ hd) hn
  obtain ⟨f, hf1, hf2⟩ := h.mem
  have hlt' : k.i < listed.size := by rw [h.sz]; exact hlt
  refine hop a w (flBlks Fl listed f) Q X h.hs (fun k' hk' hp' d hd => h.vs k' hk' (hp _ (by rw [← hpt]; exact hp')) d hd) hf2 (fun w' ho' => hX _ _ ⟨by rw [Array.size_setIfInBounds]; exact h.sz, ?_, ?_, ?_, has_keep h.hs (hw.n3 k hk), ?_, f, ?_, ?_⟩)
  · intro i hi
    rcases (on_set hlt').1 hi with rfl | hi
    · exact .inl ⟨k, hk, rfl⟩
    · exact h.kn i hi
  · exact fun i hi => (on_set hlt').2 (.inr (h.dn i hi))
  · intro i hi p hp'
    rcases (on_set hlt').1 hi with rfl | hi
    · exact (on_set hlt').2 (.inr (hp p (by rw [← hpt]; exact hp')))
    · exact (on_set hlt').2 (.inr (h.cl i hi p hp'))
  · intro k' hk' hi d hd
    by_cases e : k'.i = k.i
    · obtain rfl : k' = k := nodup_inj (·.i) hw.n1 hk' hk e
      cases hdk : k'.d with
      | none => rw [hdk] at hd; cases hd
      | some x =>
        rw [hdk] at hd
        injection hd with hd
        subst hd
        exact put_here (by rw [h.hs.size]; exact hw.n6 _ hk _ hdk)
    · have hi' : on listed k'.i := ((on_set hlt').1 hi).resolve_left e
      exact put_keep (h.vs k' hk' hi' d hd) (fun e' => hw.n4 k hk k' hk' (fun x => e x.symm) d e' hd)
  · intro x hx hi
    have hi' : on listed x.i := ((on_set hlt').1 hi).resolve_left (fun e => hw.n2 k hk x hx e.symm)
    exact put_keep (hf1 x hx hi') (hw.n5 k hk x hx)
  · rw [flBlks_set hlt' (fun x hx => fun e => hw.n2 k hk x hx e.symm)]
    exact ho'
theorem flBlks_new {Fl : List FE} {listed : Array Bool} {f : Nat → Nat} {b : Nat} (hnd : (Fl.map (·.i)).Nodup) {x : FE} (hx : x ∈ Fl) (hi : x.i < listed.size) (hn : ¬ on listed x.i) :
    (flBlks Fl (listed.setIfInBounds x.i true) (fun j => if j = x.i then b else f j)).Perm (⟨b, x.ty, x.cs⟩ :: flBlks Fl listed f) := by
  induction Fl with
  | nil => cases hx
  | cons y Fl ih =>
    rw [List.map_cons, List.nodup_cons] at hnd
    by_cases e : y.i = x.i
    · obtain rfl : y = x := by
        rcases List.mem_cons.1 hx with h | h
        · exact h.symm
        · exact absurd (List.mem_map.2 ⟨x, h, e.symm⟩) hnd.1
      have h1 : (listed.setIfInBounds y.i true).getD y.i false = true := (on_set hi).2 (.inl rfl)
      have h2 : listed.getD y.i false = false := by unfold on at hn; simpa using hn
      have h3 : ∀ z ∈ Fl, z.i ≠ y.i := fun z hz e => hnd.1 (List.mem_map.2 ⟨z, hz, e⟩)
      have h4 : flBlks Fl (listed.setIfInBounds y.i true) (fun j => if j = y.i then b else f j) = flBlks Fl listed f := by
        have h5 : flBlks Fl (listed.setIfInBounds y.i true) (fun j => if j = y.i then b else f j) = flBlks Fl (listed.setIfInBounds y.i true) f := by
          unfold flBlks
          apply List.map_congr_left
          intro z hz
          have : (fun j => if j = y.i then b else f j) z.i = f z.i := if_neg (h3 z (List.mem_filter.1 hz).1)
          rw [this]
        rw [h5, flBlks_set hi h3]
      unfold flBlks at h4 ⊢
      rw [List.filter_cons, if_pos h1, List.filter_cons, if_neg (by rw [h2]; exact Bool.false_ne_true), List.map_cons, h4]
      have : (fun j => if j = y.i then b else f j) y.i = b := if_pos rfl
      rw [this]
    · have hx' : x ∈ Fl := by
        rcases List.mem_cons.1 hx with h | h
        · exact absurd (by rw [h]) e
        · exact h
      have ih' := ih hnd.2 hx'
      have h1 : (listed.setIfInBounds x.i true).getD y.i false = listed.getD y.i false := by
        rw [Bool.eq_iff_iff]
        exact (on_set (j := y.i) hi).trans ⟨fun h => h.resolve_left e, .inr⟩
      unfold flBlks at ih' ⊢
      rw [List.filter_cons, List.filter_cons, h1]
      split
      · have : (fun j => if j = x.i then b else f j) y.i = f y.i := if_neg e
        rw [List.map_cons, List.map_cons, this]
        exact (ih'.cons _).trans (List.Perm.swap _ _ _)
      · exact ih'
/-- From a good state each floating variable's making leads to a good state. -/
theorem Good.float {listed : Array Bool} {a : Act} {w : World} (h : Good n ops pt Fl env K D L F listed a w) (hpt : ∀ i, pt.getD i [] = preds ops i) (hw : Wf P ops n Fl env K)
    {x : FE} (hx : x ∈ Fl) (hlt : x.i < ops.size) (hn : ¬ on listed x.i) (hp : ∀ p ∈ preds ops x.i, on listed p) {X : Act → World → Prop} {Q : Post} (hX : ∀ a' w', Good n ops pt Fl env K D L F (listed.setIfInBounds x.i true) a' w' → X a' w') : wpOp P ops Q x.i X a w := by
  obtain ⟨f, hf1, hf2⟩ := h.mem
  have hlt' : x.i < listed.size := by rw [h.sz]; exact hlt
  obtain ⟨ty, pos, af, sz, bytes, g, zero, ho, ht, hz⟩ := hw.n9 x hx
  refine run_alloc_wpOp ho ht hz (hX _ _ ⟨by rw [Array.size_setIfInBounds]; exact h.sz, ?_, ?_, ?_, has_keep h.hs (fun d hd => by injection hd with hd; rw [← hd]; exact (hw.n7 x hx).2), ?_, (fun j => if j = x.i then w.heap.size else f j), ?_, ?_⟩)
  · intro i hi
    rcases (on_set hlt').1 hi with rfl | hi
    · exact .inr ⟨x, hx, rfl⟩
    · exact h.kn i hi
  · exact fun i hi => (on_set hlt').2 (.inr (h.dn i hi))
  · intro i hi p hp'
    rcases (on_set hlt').1 hi with rfl | hi
    · exact (on_set hlt').2 (.inr (hp p (by rw [← hpt]; exact hp')))
    · exact (on_set hlt').2 (.inr (h.cl i hi p hp'))
  · intro k' hk' hi d hd
    have hi' : on listed k'.i := ((on_set hlt').1 hi).resolve_left (hw.n2 k' hk' x hx)
    exact put_keep (h.vs k' hk' hi' d hd) (fun e => hw.n5 k' hk' x hx (by rw [hd]; exact e.symm))
  · intro y hy hi
    by_cases e : y.i = x.i
    · obtain rfl : y = x := nodup_inj (·.i) hw.n8.1 hy hx e
      simp only [if_pos]
      exact put_here (by rw [h.hs.size]; exact (hw.n7 y hy).1)
    · have hi' : on listed y.i := ((on_set hlt').1 hi).resolve_left e
      simp only [if_neg e]
      exact put_keep (hf1 y hy hi') (fun e' => by injection e' with e'; exact e (by rw [nodup_inj (·.d) hw.n8.2 hy hx e'.symm]))
  · have h1 := hf2.alloc x.ty x.cs
    refine h1.perm ?_
    have h2 := (flBlks_new (f := f) (b := w.heap.size) hw.n8.1 hx hlt' hn).symm
    have h3 : (⟨w.heap.size, x.ty, x.cs⟩ :: (L.flatten ++ flBlks Fl listed f)).Perm (L.flatten ++ (⟨w.heap.size, x.ty, x.cs⟩ :: flBlks Fl listed f)) := List.perm_middle.symm
    exact h3.trans (h2.append_left _)
structure AnyR (P : Program) (ops : Array Oper) (Q : Post) (n : Nat) (pt : List (List Nat)) (Fl : List FE) (env : Env) (K : List KE) (D : List Nat) (L : List Itm) (F : Mem) : Prop where
  run : ∀ fuel (listed : Array Bool) a w, (∀ i, pt.getD i [] = preds ops i) → (∀ i, ∀ p ∈ preds ops i, p < i) → todo listed ≤ fuel → Good n ops pt Fl env K D L F listed a w → Wf P ops n Fl env K →
    (∀ k ∈ K, k.i ∈ D ∨ OpA P ops n pt env K L F k) → wpAny P .any ops Q fuel listed a w
def dOk (n : Nat) : Option Nat → Bool
  | some x => Nat.blt x n
  | none => true
theorem Wf.cons {i : Nat} {d : Option Nat} {v : Value} (h : Wf P ops n Fl env K) (hs : slotOk env K Fl i d = true) (hn : dOk n d = true) : Wf P ops n Fl env (⟨i, d, v⟩ :: K) := by
  obtain ⟨s1, s2, s3, s4, s5⟩ := slotOk.spec hs
  refine ⟨?_, ?_, ?_, ?_, ?_, ?_, h.n7, h.n8, h.n9⟩
  · rw [List.map_cons, List.nodup_cons]
    exact ⟨fun hm => by obtain ⟨k, hk, e⟩ := List.mem_map.1 hm; exact s4 k hk e, h.n1⟩
  · intro k hk x hx
    rcases List.mem_cons.1 hk with rfl | hk
    · exact fun e => s5 x hx e.symm
    · exact h.n2 k hk x hx
  · intro k hk x hx
    rcases List.mem_cons.1 hk with rfl | hk
    · exact s1 x hx
    · exact h.n3 k hk x hx
  · intro k hk k' hk' hne x hx
    rcases List.mem_cons.1 hk with rfl | hk <;> rcases List.mem_cons.1 hk' with rfl | hk'
    · exact absurd rfl hne
    · exact s2 k' hk' x hx
    · exact fun e => s2 k hk x e hx
    · exact h.n4 k hk k' hk' hne x hx
  · intro k hk x hx e
    rcases List.mem_cons.1 hk with rfl | hk
    · exact s3 x hx x.d e rfl
    · exact h.n5 k hk x hx e
  · intro k hk x hx
    rcases List.mem_cons.1 hk with rfl | hk
    · cases hx
      have := Nat.le_of_ble_eq_true hn
      omega
    · exact h.n6 k hk x hx
/-- An operation that changes nothing: it may come whenever what it needs is there. -/
theorem AnyR.v {i : Nat} {o : Oper} {v : Value} (pe : Env) (ho : ops[i]? = some o) (hs : slotOk env K Fl i o.dst = true) (hn : dOk n o.dst = true) (hpe : PE K (pt.getD i []) pe) (h : OpG P ops o (pe ++ env) L F v)
    (k : AnyR P ops Q n pt Fl env (⟨i, o.dst, v⟩ :: K) D L F) : AnyR P ops Q n pt Fl env K D L F :=
  ⟨fun fuel listed a w h1 h2 h4 hg hw h12 => by
    obtain ⟨s1, s2, s3, s4, s5⟩ := slotOk.spec hs
    refine k.run fuel listed a w h1 h2 h4 ⟨hg.sz, fun j hj => (hg.kn j hj).imp (fun ⟨k, hk, e⟩ => ⟨k, List.mem_cons_of_mem _ hk, e⟩) id, hg.dn, hg.cl, hg.hs, ?_, hg.mem⟩ (hw.cons hs hn) ?_
    · intro k hk hj
      rcases List.mem_cons.1 hk with rfl | hk
      · rcases hg.kn _ hj with ⟨k', hk', e⟩ | ⟨x, hx, e⟩
        · exact absurd e (s4 k' hk')
        · exact absurd e (s5 x hx)
      · exact hg.vs k hk hj
    · intro k hk
      rcases List.mem_cons.1 hk with rfl | hk
      · exact .inr (OpA.more (OpG.a ho hpe h))
      · exact (h12 k hk).imp id OpA.more⟩
/-- A guard that is met. -/
inductive Grd (ops : Array Oper) (env : Env) : Option (Nat × Bool) → Prop
  | n : Grd ops env none
  | g {j t : Nat} {b : Bool} {o : Oper} : ops[j]? = some o → o.dst = some t → find env t = some (.bool b) → Grd ops env (some (j, b))
theorem Grd.wanted {d : Option Nat} {op : Op} {ty : TypeId} {pos : String} {af : Array Edge} {g : Option (Nat × Bool)} (h : Grd ops env g) {a : Act} (hh : Has n env a) : Region.wanted ⟨d, op, ty, pos, af, g⟩ (yielded ops a.tmps) = true := by
  cases h with
  | n => exact wanted_none _
  | g h1 h2 h3 => simp [Region.wanted, yielded_of h1 h2 hh h3]
/-- An operation that changes something: all that may come before it is known. -/
theorem AnyR.e {i : Nat} {op : Op} {d : Option Nat} {ty : TypeId} {pos : String} {af : Array Edge} {g : Option (Nat × Bool)} {post : Value → List Itm → Mem → Prop} (pe : Env) (D' : List Nat) (ho : ops[i]? = some ⟨d, op, ty, pos, af, g⟩) (hs : slotOk env K Fl i d = true) (hn : dOk n d = true)
    (hpe : PE K (pt.getD i []) pe) (honly : onlyOk pt (K.map (·.i)) (Fl.map (·.i)) i pt.length = true) (hlen : (pt.length == ops.size) = true) (hD : doneOk pt D i [] D' = true) (hgd : Grd ops (pe ++ env) g) (h : Op1 P ⟨d, op, ty, pos, af, none⟩ (pe ++ env) L F post)
    (k : ∀ v L' F', Le F F' → post v L' F' → Rck P ops n pt env K D' L' F' K ∧ (D'.contains i = true) ∧ AnyR P ops Q n pt Fl env (⟨i, d, v⟩ :: K) D' L' F') : AnyR P ops Q n pt Fl env K D L F := by
  obtain ⟨s1, s2, s3, s4, s5⟩ := slotOk.spec hs
  refine ⟨fun fuel => ?_⟩
  induction fuel with
  | zero =>
    intro listed a w h1 h2 h4 hg hw hA
    have hlt : i < ops.size := (Array.getElem?_eq_some_iff.1 ho).1
    have hni : ¬ on listed i := fun hi => by
      rcases hg.kn i hi with ⟨k, hk, e⟩ | ⟨x, hx, e⟩
      · exact s4 k hk e
      · exact s5 x hx e
    have := todo_pos (by rw [hg.sz]; exact hlt) hni
    omega
  | succ fuel ih =>
    intro listed a w h1 h2 h4 hg hw hA
    have hlt : i < ops.size := (Array.getElem?_eq_some_iff.1 ho).1
    have hni : ¬ on listed i := fun hi => by
      rcases hg.kn i hi with ⟨k, hk, e⟩ | ⟨x, hx, e⟩
      · exact s4 k hk e
      · exact s5 x hx e
    refine wpAny_walk (fun _ _ _ => True) (fuel + 1) a w hg.sz h4 h2 (fun hall => absurd (hall i hlt) hni) fun j hj hnj hpj fuel' hf' hfe => ?_
    obtain rfl : fuel = fuel' := by omega
    by_cases hji : j = i
    · subst hji
      obtain ⟨f, hf1, hf2⟩ := hg.mem
      have hlt' : j < listed.size := by rw [hg.sz]; exact hlt
      unfold wpOp
      simp only [ho]
      have hhas := hpe.has hg.hs (fun k' hk' hp' d hd => hg.vs k' hk' (hpj _ (by rw [← h1]; exact hp')) d hd)
      rw [if_pos (hgd.wanted hhas)]
      refine .inl (h.run n a w (flBlks Fl listed f) _ Q hhas hf2 fun v L' F' w' hle hp ho' => ?_)
      obtain ⟨hr, hDi, hk⟩ := k v L' F' hle hp
      refine hk.run fuel _ _ _ h1 h2 hf' ⟨by rw [Array.size_setIfInBounds]; exact hg.sz, ?_, ?_, ?_, has_keep hg.hs s1, ?_, f, ?_, ?_⟩ (hw.cons hs hn) ?_
      · intro x hx
        rcases (on_set hlt').1 hx with rfl | hx
        · exact .inl ⟨_, List.mem_cons_self .., rfl⟩
        · exact (hg.kn x hx).imp (fun ⟨k, hk, e⟩ => ⟨k, List.mem_cons_of_mem _ hk, e⟩) id
      · refine doneOk.spec (D := D) (i := j) (pt := pt) (fun x hx => (on_set hlt').2 (.inr (hg.dn x hx))) ((on_set hlt').2 (.inl rfl)) (fun x hx p hp' => ?_) D' [] hD (by simp)
        rcases (on_set hlt').1 hx with rfl | hx
        · exact (on_set hlt').2 (.inr (hpj p (by rw [← h1]; exact hp')))
        · exact (on_set hlt').2 (.inr (hg.cl x hx p hp'))
      · intro x hx p hp'
        rcases (on_set hlt').1 hx with rfl | hx
        · exact (on_set hlt').2 (.inr (hpj p (by rw [← h1]; exact hp')))
        · exact (on_set hlt').2 (.inr (hg.cl x hx p hp'))
      · intro k' hk' hi dd hd
        rcases List.mem_cons.1 hk' with rfl | hk'
        · cases hd
          refine put_here ?_
          rw [hg.hs.size]
          have := Nat.le_of_ble_eq_true hn
          omega
        · have hi' : on listed k'.i := ((on_set hlt').1 hi).resolve_left (s4 k' hk')
          exact put_keep (hg.vs k' hk' hi' dd hd) (fun e' => s2 k' hk' dd e' hd)
      · intro x hx hi
        have hi' : on listed x.i := ((on_set hlt').1 hi).resolve_left (s5 x hx)
        exact put_keep (hf1 x hx hi') (fun e => s3 x hx x.d e rfl)
      · rw [flBlks_set hlt' s5]
        exact ho'
      · intro k' hk'
        rcases List.mem_cons.1 hk' with rfl | hk'
        · exact .inl (by simpa using hDi)
        · exact (hr.all k' hk').imp id OpA.more
    · have hm : j ∈ List.range pt.length := List.mem_range.2 (by have : pt.length = ops.size := by simpa using hlen
                                                                 omega)
      have ho1 := List.all_eq_true.1 honly j hm
      have hne : (j == i) = false := by simpa using hji
      rw [hne, Bool.or_false] at ho1
      rw [Bool.or_eq_true, Bool.or_eq_true] at ho1
      rcases ho1 with (hkk | hff) | hp'
      · obtain ⟨k', hk', e⟩ := List.mem_map.1 (by simpa using hkk : j ∈ K.map (·.i))
        subst e
        exact hg.step h1 hw hA hk' hj hnj hpj fun a' w' hg' => ih _ a' w' h1 h2 (by assumption) hg' hw hA
      · obtain ⟨x, hx, e⟩ := List.mem_map.1 (by simpa using hff : j ∈ Fl.map (·.i))
        subst e
        exact hg.float h1 hw hx hj hnj hpj fun a' w' hg' => ih _ a' w' h1 h2 (by assumption) hg' hw hA
      · obtain ⟨p, hp1, hp2⟩ := List.any_eq_true.1 hp'
        have hop := hpj p (by rw [← h1]; exact hp1)
        rw [Bool.not_eq_true', Bool.or_eq_false_iff] at hp2
        rcases hg.kn p hop with ⟨k', hk', e⟩ | ⟨x, hx, e⟩
        · exact absurd (List.mem_map.2 ⟨k', hk', e⟩) (by simpa using hp2.1)
        · exact absurd (List.mem_map.2 ⟨x, hx, e⟩) (by simpa using hp2.2)
/-! ### The rest in its one order -/
theorem wpAny_seq (hm : ∀ i, ∀ p ∈ preds ops i, p < i) {m0 : Nat} (hsuf : ∀ j, m0 ≤ j → j < ops.size → ∀ (listed : Array Bool), (∀ i, on listed i → ∀ p ∈ preds ops i, on listed p) → on listed j → ∀ q, q < j → on listed q) :
    ∀ (fuel m : Nat) (listed : Array Bool) (a : Act) (w : World), m0 ≤ m → m ≤ ops.size → listed.size = ops.size → todo listed ≤ fuel → (∀ i, on listed i ↔ i < m) → wpList P ops Q (ops.toList.drop m) a w → wpAny P .any ops Q fuel listed a w := by
  intro fuel
  induction fuel with
  | zero =>
    intro m listed a w hm0 hms hs hf hon h
    refine wpAny_walk (fun _ _ _ => True) 0 a w hs hf hm (fun hall => ?_) fun j hj hnj hpj fuel' hf' hfe => by omega
    have : m = ops.size := by
      refine Nat.le_antisymm hms (Nat.le_of_not_lt fun hlt => ?_)
      exact Nat.lt_irrefl m ((hon m).1 (hall m hlt))
    subst this
    rw [List.drop_of_length_le (by simp)] at h
    exact h
  | succ fuel ih =>
    intro m listed a w hm0 hms hs hf hon h
    refine wpAny_walk (fun _ _ _ => True) (fuel + 1) a w hs hf hm (fun hall => ?_) fun j hj hnj hpj fuel' hf' hfe => ?_
    · have : m = ops.size := by
        refine Nat.le_antisymm hms (Nat.le_of_not_lt fun hlt => ?_)
        exact Nat.lt_irrefl m ((hon m).1 (hall m hlt))
      subst this
      rw [List.drop_of_length_le (by simp)] at h
      exact h
    · obtain rfl : fuel = fuel' := by omega
      have hjm : m ≤ j := Nat.le_of_not_lt fun h => hnj ((hon j).2 h)
      have hlt' : j < listed.size := by omega
      have hj' : j = m := by
        refine Nat.le_antisymm (Nat.le_of_not_lt fun hlt => ?_) hjm
        have h1 := hsuf j (by omega) hj (listed.setIfInBounds j true) (fun i hi p hp => by
          rcases (on_set hlt').1 hi with rfl | hi
          · exact (on_set hlt').2 (.inr (hpj p hp))
          · exact (on_set hlt').2 (.inr ((hon p).2 (by have := hm i p hp; have := (hon i).1 hi; omega)))) ((on_set hlt').2 (.inl rfl)) m hlt
        rcases (on_set hlt').1 h1 with e | h1
        · omega
        · exact Nat.lt_irrefl m ((hon m).1 h1)
      subst hj'
      have hd : ops.toList.drop j = ops[j] :: ops.toList.drop (j + 1) := by
        rw [List.drop_eq_getElem_cons (by simpa using hj)]
        simp
      rw [hd] at h
      unfold wpOp
      simp only [Array.getElem?_eq_getElem hj]
      have hon' : ∀ i, on (listed.setIfInBounds j true) i ↔ i < j + 1 := fun i => by
        rw [on_set hlt', hon]
        omega
      have hnext : ∀ a' w', wpList P ops Q (ops.toList.drop (j + 1)) a' w' → wpAny P .any ops Q fuel (listed.setIfInBounds j true) a' w' := fun a' w' h' =>
        ih (j + 1) _ a' w' (by omega) (by omega) (by rw [Array.size_setIfInBounds]; exact hs) hf' hon' h'
      unfold wpList at h
      split at h
      · rename_i hw
        rw [if_pos hw]
        rcases h with h | h
        · exact .inl (Oper.wp_mono hnext h)
        · exact .inr h
      · rename_i hw
        rw [if_neg hw]
        exact hnext _ _ h
/-- What comes behind all that is known comes in one order. -/
def tailOk (pt : List (List Nat)) (m : Nat) : List (List Nat) → Bool
  | [] => m == pt.length
  | l :: r => doneOk pt [] m [] l && ((List.range m).all fun q => l.contains q) && tailOk pt (m + 1) r
theorem tailOk.spec : ∀ (Ds : List (List Nat)) (m : Nat), tailOk pt m Ds = true → ∀ j, m ≤ j → j < pt.length → ∀ (listed : Array Bool), (∀ i, on listed i → ∀ p ∈ pt.getD i [], on listed p) → on listed j → ∀ q, q < j → on listed q
  | [], m, h, j, hj, hlt, _, _, _, _, _ => by
    have : m = pt.length := by simpa [tailOk] using h
    omega
  | l :: r, m, h, j, hj, hlt, listed, hc, hon, q, hq => by
    simp only [tailOk, Bool.and_eq_true] at h
    by_cases e : j = m
    · subst e
      have h1 := doneOk.spec (D := []) (i := j) (by simp) hon hc l [] h.1.1 (by simp)
      exact h1 q (by simpa using List.all_eq_true.1 h.1.2 q (List.mem_range.2 hq))
    · exact tailOk.spec r (m + 1) h.2 j (by omega) hlt listed hc hon q hq
def flEnv (Fl : List FE) (f : Nat → Nat) : Env := Fl.map fun x => (x.d, .pointer (some ⟨f x.i, 0, none⟩))
def flItms (Fl : List FE) (f : Nat → Nat) : List Itm := Fl.map fun x => [⟨f x.i, x.ty, x.cs⟩]
theorem find_append : ∀ (e1 e2 : Env) (i : Nat), find (e1 ++ e2) i = (find e1 i).or (find e2 i)
  | [], e2, i => by simp [find]
  | (k, v) :: e1, e2, i => by
    simp only [List.cons_append, find]
    cases Nat.beq k i
    · simpa using find_append e1 e2 i
    · simp
theorem find_kenv : ∀ (K : List KE) (i : Nat) (v : Value), find (kenv K) i = some v → ∃ k ∈ K, k.d = some i ∧ k.v = v
  | [], i, v, h => by simp [kenv, find] at h
  | ⟨_, none, _⟩ :: K, i, v, h => by
    simp only [kenv] at h
    obtain ⟨k', h1, h2⟩ := find_kenv K i v h
    exact ⟨k', List.mem_cons_of_mem _ h1, h2⟩
  | ⟨j, some d, u⟩ :: K, i, v, h => by
    simp only [kenv, find] at h
    by_cases e : d = i
    · subst e
      simp at h
      exact ⟨_, List.mem_cons_self .., rfl, h⟩
    · rw [Bool.eq_false_iff.2 fun h => e (Nat.eq_of_beq_eq_true h)] at h
      obtain ⟨k', h1, h2⟩ := find_kenv K i v h
      exact ⟨k', List.mem_cons_of_mem _ h1, h2⟩
theorem find_flEnv {f : Nat → Nat} : ∀ (Fl : List FE) (i : Nat) (v : Value), find (flEnv Fl f) i = some v → ∃ x ∈ Fl, x.d = i ∧ v = .pointer (some ⟨f x.i, 0, none⟩)
  | [], i, v, h => by simp [flEnv, find] at h
  | x :: Fl, i, v, h => by
    simp only [flEnv, List.map_cons, find] at h
    by_cases e : x.d = i
    · subst e
      simp at h
      exact ⟨x, List.mem_cons_self .., rfl, h.symm⟩
    · rw [Bool.eq_false_iff.2 fun h => e (Nat.eq_of_beq_eq_true h)] at h
      obtain ⟨k', h1, h2⟩ := find_flEnv Fl i v h
      exact ⟨k', List.mem_cons_of_mem _ h1, h2⟩
theorem AnyR.tail (m : Nat) (Ds : List (List Nat)) {e' : (Nat → Nat) → Env} (hlen : (pt.length == ops.size) = true) (hcov : ((List.range m).all fun j => (K.map (·.i)).contains j || (Fl.map (·.i)).contains j) = true) (hbel : ((K.map (·.i)).all (fun j => Nat.blt j m) && (Fl.map (·.i)).all (fun j => Nat.blt j m) && Nat.ble m pt.length) = true)
    (hsuf : tailOk pt m Ds = true) (he : ∀ f, flEnv Fl f ++ (kenv K ++ env) = e' f) (k : ∀ f : Nat → Nat, RL P ops Q (ops.toList.drop m) n (e' f) (flItms Fl f ++ L) F) : AnyR P ops Q n pt Fl env K D L F := by
  have hle : pt.length = ops.size := by simpa using hlen
  rw [Bool.and_eq_true, Bool.and_eq_true] at hbel
  have hb1 : ∀ k ∈ K, k.i < m := fun k hk => by
    have := Nat.le_of_ble_eq_true (List.all_eq_true.1 hbel.1.1 k.i (List.mem_map.2 ⟨k, hk, rfl⟩)); omega
  have hb2 : ∀ x ∈ Fl, x.i < m := fun k hk => by
    have := Nat.le_of_ble_eq_true (List.all_eq_true.1 hbel.1.2 k.i (List.mem_map.2 ⟨k, hk, rfl⟩)); omega
  have hmle : m ≤ ops.size := by have := Nat.le_of_ble_eq_true hbel.2; omega
  refine ⟨fun fuel => ?_⟩
  -- all that is known is done: the rest
  have hlast : ∀ fuel (listed : Array Bool) a w, (∀ i, pt.getD i [] = preds ops i) → (∀ i, ∀ p ∈ preds ops i, p < i) → todo listed ≤ fuel → Good n ops pt Fl env K D L F listed a w → (∀ q, q < m → on listed q) → wpAny P .any ops Q fuel listed a w := by
    intro fuel listed a w h1 h2 h4 hg hall
    have hon : ∀ i, on listed i ↔ i < m := fun i => ⟨fun hi => by
      rcases hg.kn i hi with ⟨k, hk, e⟩ | ⟨x, hx, e⟩
      · rw [← e]; exact hb1 k hk
      · rw [← e]; exact hb2 x hx, hall i⟩
    obtain ⟨f, hf1, hf2⟩ := hg.mem
    have hfl : flBlks Fl listed f = (flItms Fl f).flatten := by
      unfold flBlks flItms
      have hfs : Fl.filter (fun x => listed.getD x.i false) = Fl := List.filter_eq_self.2 fun x hx => (hon x.i).2 (hb2 x hx)
      rw [hfs]
      generalize Fl = l
      induction l with
      | nil => rfl
      | cons x l ih => simp [ih]
    refine wpAny_seq h2 (m0 := m) (fun j hj hlt listed' hc hon' q hq => tailOk.spec Ds m hsuf j hj (by omega) listed' (fun i hi p hp => hc i hi p (by rw [← h1]; exact hp)) hon' q hq) fuel m listed a w (Nat.le_refl _) hmle hg.sz h4 hon ((k f).run a w ?_ ?_)
    · rw [← he]
      refine ⟨hg.hs.size, hg.hs.defers, fun i v hi => ?_⟩
      rw [find_append, find_append] at hi
      cases h5 : find (flEnv Fl f) i with
      | some u =>
        rw [h5] at hi
        simp at hi
        subst hi
        obtain ⟨x, hx, rfl, rfl⟩ := find_flEnv Fl i u h5
        exact hf1 x hx (hall _ (hb2 x hx))
      | none =>
        rw [h5] at hi
        simp only [Option.none_or] at hi
        cases h6 : find (kenv K) i with
        | some u =>
          rw [h6] at hi
          simp at hi
          subst hi
          obtain ⟨k', hk', hd, rfl⟩ := find_kenv K i u h6
          exact hg.vs k' hk' (hall _ (hb1 k' hk')) i hd
        | none =>
          rw [h6] at hi
          simp only [Option.none_or] at hi
          exact hg.hs.get i v hi
    · rw [List.flatten_append, ← hfl]
      exact hf2.perm List.perm_append_comm
  induction fuel with
  | zero =>
    intro listed a w h1 h2 h4 hg hw hA
    refine hlast 0 listed a w h1 h2 h4 hg fun q hq => Classical.byContradiction fun hn => ?_
    have := todo_pos (by rw [hg.sz]; omega) hn
    omega
  | succ fuel ih =>
    intro listed a w h1 h2 h4 hg hw hA
    by_cases hall : ∀ q, q < m → on listed q
    · exact hlast _ listed a w h1 h2 h4 hg hall
    · refine wpAny_walk (fun _ _ _ => True) (fuel + 1) a w hg.sz h4 h2 (fun h => absurd (fun q hq => h q (by omega)) hall) fun j hj hnj hpj fuel' hf' hfe => ?_
      obtain rfl : fuel = fuel' := by omega
      have hlt' : j < listed.size := by rw [hg.sz]; exact hj
      have hjm : j < m := by
        refine Nat.lt_of_not_le fun hmj => hall fun q hq => ?_
        have h3 := tailOk.spec Ds m hsuf j hmj (by omega) (listed.setIfInBounds j true) (fun i hi p hp => by
          rcases (on_set hlt').1 hi with rfl | hi
          · exact (on_set hlt').2 (.inr (hpj p (by rw [← h1]; exact hp)))
          · exact (on_set hlt').2 (.inr (hg.cl i hi p hp))) ((on_set hlt').2 (.inl rfl)) q (by omega)
        rcases (on_set hlt').1 h3 with e | h3
        · omega
        · exact h3
      have hc := List.all_eq_true.1 hcov j (List.mem_range.2 hjm)
      rw [Bool.or_eq_true] at hc
      rcases hc with hkk | hff
      · obtain ⟨k', hk', e⟩ := List.mem_map.1 (by simpa using hkk : j ∈ K.map (·.i))
        subst e
        exact hg.step h1 hw hA hk' hj hnj hpj fun a' w' hg' => ih _ a' w' h1 h2 (by assumption) hg' hw hA
      · obtain ⟨x, hx, e⟩ := List.mem_map.1 (by simpa using hff : j ∈ Fl.map (·.i))
        subst e
        exact hg.float h1 hw hx hj hnj hpj fun a' w' hg' => ih _ a' w' h1 h2 (by assumption) hg' hw hA
end
section
variable {P : Program} {ops : Array Oper} {Q : Post} {n : Nat} {pt : List (List Nat)} {Fl : List FE} {env : Env} {K : List KE} {D : List Nat} {L : List Itm} {F : Mem}
/-- The same, without floating variables. -/
theorem AnyR.tail0 (m : Nat) (Ds : List (List Nat)) {e' : Env} (hlen : (pt.length == ops.size) = true) (hcov : ((List.range m).all fun j => (K.map (·.i)).contains j || (([] : List FE).map (·.i)).contains j) = true) (hbel : ((K.map (·.i)).all (fun j => Nat.blt j m) && (([] : List FE).map (·.i)).all (fun j => Nat.blt j m) && Nat.ble m pt.length) = true)
    (hsuf : tailOk pt m Ds = true) (he : kenv K ++ env = e') (k : RL P ops Q (ops.toList.drop m) n e' L F) : AnyR P ops Q n pt [] env K D L F :=
  AnyR.tail m Ds (e' := fun _ => e') hlen hcov hbel hsuf (fun _ => he) (fun _ => k)
/-- The same, with floating variables. -/
theorem AnyR.tail1 (m : Nat) (Ds : List (List Nat)) {e' : (Nat → Nat) → Env} {M : (Nat → Nat) → List Itm} (hlen : (pt.length == ops.size) = true) (hcov : ((List.range m).all fun j => (K.map (·.i)).contains j || (Fl.map (·.i)).contains j) = true) (hbel : ((K.map (·.i)).all (fun j => Nat.blt j m) && (Fl.map (·.i)).all (fun j => Nat.blt j m) && Nat.ble m pt.length) = true)
    (hsuf : tailOk pt m Ds = true) (he : ∀ f, flEnv Fl f ++ (kenv K ++ env) = e' f) (hM : ∀ f, flItms Fl f ++ L = M f) (k : ∀ f : Nat → Nat, RL P ops Q (ops.toList.drop m) n (e' f) (M f) F) : AnyR P ops Q n pt Fl env K D L F :=
  AnyR.tail m Ds hlen hcov hbel hsuf he (fun f => by rw [hM]; exact k f)
theorem AnyR.vs {i : Nat} {o : Oper} {p : Prop} [Decidable p] (pe : Env) (ho : ops[i]? = some o) (hs : slotOk env K Fl i o.dst = true) (hn : dOk n o.dst = true) (hpe : PE K (pt.getD i []) pe) (h : OpG P ops o (pe ++ env) L F (.bool (decide p)))
    (kt : p → AnyR P ops Q n pt Fl env (⟨i, o.dst, .bool true⟩ :: K) D L F) (kf : ¬ p → AnyR P ops Q n pt Fl env (⟨i, o.dst, .bool false⟩ :: K) D L F) : AnyR P ops Q n pt Fl env K D L F := by
  refine AnyR.v pe ho hs hn hpe h ?_
  by_cases hp : p
  · rw [decide_eq_true hp]; exact kt hp
  · rw [decide_eq_false hp]; exact kf hp
theorem AnyR.vb {i : Nat} {o : Oper} {b : Bool} (pe : Env) (ho : ops[i]? = some o) (hs : slotOk env K Fl i o.dst = true) (hn : dOk n o.dst = true) (hpe : PE K (pt.getD i []) pe) (h : OpG P ops o (pe ++ env) L F (.bool b))
    (kt : b = true → AnyR P ops Q n pt Fl env (⟨i, o.dst, .bool true⟩ :: K) D L F) (kf : b = false → AnyR P ops Q n pt Fl env (⟨i, o.dst, .bool false⟩ :: K) D L F) : AnyR P ops Q n pt Fl env K D L F := by
  refine AnyR.v pe ho hs hn hpe h ?_
  cases b
  · exact kf rfl
  · exact kt rfl
theorem AnyR.vT {i : Nat} {o : Oper} {p : Prop} [Decidable p] (pe : Env) (ho : ops[i]? = some o) (hs : slotOk env K Fl i o.dst = true) (hn : dOk n o.dst = true) (hpe : PE K (pt.getD i []) pe) (h : OpG P ops o (pe ++ env) L F (.bool (decide p))) (hp : p)
    (k : AnyR P ops Q n pt Fl env (⟨i, o.dst, .bool true⟩ :: K) D L F) : AnyR P ops Q n pt Fl env K D L F := AnyR.vs pe ho hs hn hpe h (fun _ => k) (fun h => absurd hp h)
theorem AnyR.vF {i : Nat} {o : Oper} {p : Prop} [Decidable p] (pe : Env) (ho : ops[i]? = some o) (hs : slotOk env K Fl i o.dst = true) (hn : dOk n o.dst = true) (hpe : PE K (pt.getD i []) pe) (h : OpG P ops o (pe ++ env) L F (.bool (decide p))) (hp : ¬ p)
    (k : AnyR P ops Q n pt Fl env (⟨i, o.dst, .bool false⟩ :: K) D L F) : AnyR P ops Q n pt Fl env K D L F := AnyR.vs pe ho hs hn hpe h (fun h => absurd h hp) (fun _ => k)
theorem AnyR.bT {i : Nat} {o : Oper} {b : Bool} (pe : Env) (ho : ops[i]? = some o) (hs : slotOk env K Fl i o.dst = true) (hn : dOk n o.dst = true) (hpe : PE K (pt.getD i []) pe) (h : OpG P ops o (pe ++ env) L F (.bool b)) (hp : b = true)
    (k : AnyR P ops Q n pt Fl env (⟨i, o.dst, .bool true⟩ :: K) D L F) : AnyR P ops Q n pt Fl env K D L F := AnyR.vb pe ho hs hn hpe h (fun _ => k) (fun h => by rw [hp] at h; cases h)
theorem AnyR.bF {i : Nat} {o : Oper} {b : Bool} (pe : Env) (ho : ops[i]? = some o) (hs : slotOk env K Fl i o.dst = true) (hn : dOk n o.dst = true) (hpe : PE K (pt.getD i []) pe) (h : OpG P ops o (pe ++ env) L F (.bool b)) (hp : b = false)
    (k : AnyR P ops Q n pt Fl env (⟨i, o.dst, .bool false⟩ :: K) D L F) : AnyR P ops Q n pt Fl env K D L F := AnyR.vb pe ho hs hn hpe h (fun h => by rw [hp] at h; cases h) (fun _ => k)
/-- A place in a slice whose memory never changes. -/
theorem AnyR.ix {i : Nat} {α : Type} {enc : α → List Value} {t sz c d : Nat} {a : Option Addr} {xs : List α} {x y : Operand} {j : Int} {ty : TypeId} {pos : String} {af : Array Edge} {g : Option (Nat × Bool)} (pe : Env) (ho : ops[i]? = some ⟨some d, .indexAddr t x y, ty, pos, af, g⟩)
    (hslot : slotOk env K Fl i (some d) = true) (hn : dOk n (some d) = true) (hpe : PE K (pt.getD i []) pe) (hS : Sl F enc sz a c xs) (el : α) (hg : 0 ≤ j ∧ xs[j.toNat]? = some el)
    (h : ∀ b o, Rd F b o (enc el) → a = some ⟨b, o - j.toNat * sz, none⟩ → j.toNat * sz ≤ o → OpG P ops ⟨some d, .indexAddr t x y, ty, pos, af, g⟩ (pe ++ env) L F (.pointer (some ⟨b, o, none⟩)))
    (k : ∀ b o, Rd F b o (enc el) → AnyR P ops Q n pt Fl env (⟨i, some d, .pointer (some ⟨b, o, none⟩)⟩ :: K) D L F) : AnyR P ops Q n pt Fl env K D L F := by
  have hlt := (List.getElem?_eq_some_iff.1 hg.2).1
  rcases hS.rd with rfl | ⟨b, o, rfl, hr⟩
  · simp at hlt
  · exact AnyR.v pe ho hslot hn hpe (h b _ (hr _ _ hg.2) (by rw [Nat.add_sub_cancel]) (Nat.le_add_left _ _)) (k b _ (hr _ _ hg.2))
/-- How the place itself is worked out. -/
theorem OpV.ixs {α : Type} {d : Option Tmp} {ty : TypeId} {pos : String} {af : Array Edge} {gd : Option (Nat × Bool)} {t e sz c b o : Nat} {a : Option Addr} {xs : List α} {x y : Operand} {kk : IntKind} {j : Int} (hs : Sld P t e sz) (hx : ev env x = some (.slice a xs.length c)) (hy : ev env y = some (.int kk j)) {el : α} (hg : 0 ≤ j ∧ xs[j.toNat]? = some el)
    (ha : a = some ⟨b, o - j.toNat * sz, none⟩) (hle : j.toNat * sz ≤ o) : OpV P ⟨d, .indexAddr t x y, ty, pos, af, gd⟩ env L F (.pointer (some ⟨b, o, none⟩)) := by
  subst ha
  have hlt := (List.getElem?_eq_some_iff.1 hg.2).1
  have := OpV.ixa (P := P) (d := d) (ty := ty) (pos := pos) (af := af) (gd := gd) (L := L) (F := F) hs hx hy ⟨hg.1, by omega⟩
  rw [Nat.sub_add_cancel hle] at this
  exact this
end
/-- Where the walk of such a region begins. -/
def monoOk (pt : List (List Nat)) (i : Nat) : List (List Nat) → Bool
  | [] => true
  | l :: r => l.all (fun p => Nat.blt p i) && monoOk pt (i + 1) r
theorem monoOk.spec {pt : List (List Nat)} : ∀ (l : List (List Nat)) (i : Nat), monoOk pt i l = true → ∀ j, ∀ p ∈ l.getD j [], p < i + j
  | [], i, _, j, p, hp => by simp at hp
  | x :: l, i, h, j, p, hp => by
    simp only [monoOk, Bool.and_eq_true] at h
    cases j with
    | zero =>
      have := Nat.le_of_ble_eq_true (List.all_eq_true.1 h.1 p (by simpa using hp))
      omega
    | succ j =>
      have := monoOk.spec l (i + 1) h.2 j p (by simpa using hp)
      omega
def flDisj (n : Nat) (env : Env) : List FE → Bool
  | [] => true
  | x :: r => r.all (fun y => y.i != x.i && y.d != x.d) && Nat.blt x.d n && (find env x.d).isNone && flDisj n env r
theorem flDisj.spec {n : Nat} {env : Env} : ∀ (Fl : List FE), flDisj n env Fl = true → (∀ x ∈ Fl, x.d < n ∧ find env x.d = none) ∧ (Fl.map (·.i)).Nodup ∧ (Fl.map (·.d)).Nodup
  | [], _ => by simp
  | x :: r, h => by
    simp only [flDisj, Bool.and_eq_true] at h
    obtain ⟨⟨⟨h1, h2⟩, h3⟩, h4⟩ := h
    obtain ⟨i1, i2, i3⟩ := flDisj.spec r h4
    refine ⟨fun y hy => ?_, ?_, ?_⟩
    · rcases List.mem_cons.1 hy with rfl | hy
      · have := Nat.le_of_ble_eq_true h2
        exact ⟨by omega, by simpa using h3⟩
      · exact i1 y hy
    · rw [List.map_cons, List.nodup_cons]
      refine ⟨fun hm => ?_, i2⟩
      obtain ⟨y, hy, e⟩ := List.mem_map.1 hm
      have := List.all_eq_true.1 h1 y hy
      simp at this
      exact this.1 e
    · rw [List.map_cons, List.nodup_cons]
      refine ⟨fun hm => ?_, i3⟩
      obtain ⟨y, hy, e⟩ := List.mem_map.1 hm
      have := List.all_eq_true.1 h1 y hy
      simp at this
      exact this.2 e
theorem WC.draw {P : Program} {Q : Post} {n : Nat} {env e1 : Env} {L : List Itm} {F : Mem} {id : Nat} {l : List Oper} (pt : List (List Nat)) (Fl : List FE) (hm : P.follows .mixedOrders = true) (hpt : (List.range l.length).map (preds l.toArray) = pt) (hmono : monoOk pt 0 pt = true)
    (hs : Sub e1 env) (hfl : FlOk P l.toArray Fl) (hfd : flDisj n e1 Fl = true) (k : AnyR P l.toArray Q n pt Fl e1 [] [] L F) : WC P (.region id l.toArray true) Q n env L F :=
  ⟨fun a w hh ho => by
    have h1 : ∀ i, pt.getD i [] = preds l.toArray i := fun i => by
      rw [← hpt]
      by_cases hi : i < l.length
      · simp [List.getD, hi]
      · rw [List.getD, List.getElem?_eq_none (by simp; omega)]
        unfold preds
        rw [Array.getElem?_eq_none (by simp; omega)]
        rfl
    obtain ⟨d1, d2, d3⟩ := flDisj.spec Fl hfd
    have hoff : ∀ i, ¬ on (Array.replicate l.toArray.size false) i := fun i => by
      unfold on
      rw [Array.getD_eq_getD_getElem?, Array.getElem?_replicate]
      split <;> simp
    refine wp_region_any hm (k.run l.toArray.size (Array.replicate l.toArray.size false) a _ h1 (fun i p hp => ?_) ?_ ⟨by simp, fun i hi => absurd hi (hoff i), by simp, fun i hi => absurd hi (hoff i), hh.sub hs, by simp, fun _ => 0, fun x hx hi => absurd hi (hoff _), ?_⟩ ⟨by simp, by simp, by simp, by simp, by simp, by simp, d1, ⟨d2, d3⟩, hfl⟩ (by simp))
    · rw [← h1] at hp
      have := monoOk.spec pt 0 hmono i p hp
      omega
    · unfold todo
      exact Nat.le_trans List.countP_le_length (by simp)
    · have hfs : Fl.filter (fun x => (Array.replicate l.toArray.size false).getD x.i false) = [] := by
        refine List.filter_eq_nil_iff.2 fun x _ => ?_
        exact hoff x.i
      have : flBlks Fl (Array.replicate l.toArray.size false) (fun _ => 0) = [] := by
        unfold flBlks
        rw [hfs]
        rfl
      rw [this, List.append_nil]
      exact ho.drew⟩
end Go.Proofs.Ytbmpdccoffkjgaa.Ow
namespace Go.Proofs.Ytbmpdccoffkjgaa.Ow
open Go
set_option linter.unusedVariables false
theorem Own.thaw2 {w w0 : World} {Bs Cs : List Blk} {F G : Mem} (h : Own w Cs G) (hle : Le (plus F Bs) G) (hB : Own w0 Bs F) : Own w (Bs ++ Cs) F := by
  have hin : ∀ b ∈ Bs, G b.id = some b.obj := fun b hb => hle.le _ _ (plus_mem hB hb)
  refine ⟨?_, fun b hb => ?_, fun i o hi => h.fr i o (hle.le _ _ ((plus_le F Bs).le _ _ hi)), fun i o hi b hb => ?_, h.rs.trans hle.re.symm⟩
  · rw [List.map_append, List.nodup_append]
    refine ⟨hB.nd, h.nd, fun x hx y hy e => ?_⟩
    obtain ⟨b, hb, rfl⟩ := List.mem_map.1 hx
    obtain ⟨c, hc, rfl⟩ := List.mem_map.1 hy
    exact h.ne _ _ (hin b hb) c hc e.symm
  · rcases List.mem_append.1 hb with hb | hb
    · exact h.fr _ _ (hin b hb)
    · exact h.at' b hb
  · rcases List.mem_append.1 hb with hb | hb
    · exact hB.ne i o hi b hb
    · exact h.ne i o (hle.le _ _ ((plus_le F Bs).le _ _ hi)) b hb
section
variable {P : Program} {env : Env} {L : List Itm} {F : Mem}
/-- A call that changes one item; all else is lent to it. -/
theorem Op1.lend {d : Option Tmp} {ty : TypeId} {pos : String} {af : Array Edge} {gd : Option (Nat × Bool)} {f : FuncId} {xs : List Operand} {ats : Array TypeId} {args : List Value} {fo : Operand} {it : Itm} {post : Value → Itm → Prop} (hf : ev env fo = some (.func (.func f) #[] #[]))
    (hxs : evs env xs = some args) (hr : ∀ w, (callFunc f args.toArray).run P w = .ok (.enter f args.toArray) w) (g : Itm → List Itm) (hu : ∀ it', Upd it it' L (g it'))
    (h : ∀ G, Le F G → (∀ b ∈ (g []).flatten, G b.id = some b.obj) → Fn P f args.toArray [it] G (fun v M H => ∃ it', M = [it'] ∧ post v it')) :
    Op1 P ⟨d, .call ⟨.value fo, xs.toArray, ats⟩, ty, pos, af, gd⟩ env L F (fun v M G => ∃ it', M = g it' ∧ G = F ∧ post v it') :=
  ⟨fun n a w R K Q hh ho hk => by
    have hm := evs_arr hh hxs
    have e : (execOp a.eval ⟨d, .call ⟨.value fo, xs.toArray, ats⟩, ty, pos, af, gd⟩).run P w = .ok (.enter f args.toArray) w := by
      have : (execOp a.eval ⟨d, .call ⟨.value fo, xs.toArray, ats⟩, ty, pos, af, gd⟩) = (do let dd ← Deferred.ofValue (a.eval fo) (xs.toArray.map a.eval); invoke dd.target dd.args) := rfl
      rw [this, hm, hh.eval hf]
      simp [Deferred.ofValue, invoke, hr]
    unfold Oper.wp
    rw [e]
    obtain ⟨T, p1, _⟩ := (hu it).perm
    have ho1 : Own w (T ++ (it ++ R)) F := ho.perm ((p1.append_right R).trans (by
      rw [List.append_assoc]
      exact (List.perm_append_comm (l₁ := it) (l₂ := T ++ R)).trans (by rw [List.append_assoc]; exact (List.perm_append_comm).append_left T)))
    have hT : Own w T F := ho1.sub (List.sublist_append_left _ _)
    obtain ⟨T0, r1, r2⟩ := (hu []).perm
    have hT0 : T0.Perm T := (List.perm_append_left_iff it).1 (r1.symm.trans p1)
    have hG := h (plus F T) (plus_le F _) (fun b hb => plus_mem hT (hT0.subset (by simpa using r2.subset hb)))
    refine (hG.run w R (by simpa using ho1.freeze)).mono ?_
    rintro e w' ⟨v, M, H, rfl, hle, ⟨it', rfl, hp⟩, ho'⟩
    have h2 := ho'.thaw2 hle hT
    obtain ⟨T', q1, q2⟩ := (hu it').perm
    have hTT : T.Perm T' := (List.perm_append_left_iff it).1 (p1.symm.trans q1)
    refine hk v (g it') F w' Le.rfl ⟨it', rfl, rfl, hp⟩ (h2.perm ?_)
    have h3 : (T ++ ([it'].flatten ++ R)).Perm (it' ++ T ++ R) := by
      rw [List.append_assoc]
      simp only [List.flatten_cons, List.flatten_nil, List.append_nil]
      exact (List.perm_append_comm (l₁ := T) (l₂ := it' ++ R)).trans (by rw [List.append_assoc]; exact (List.perm_append_comm).append_left it')
    exact h3.trans (((hTT.append_left it').trans q2.symm).append_right R)⟩
/-- A call that makes an item; all is lent to it. -/
theorem Op1.make {d : Option Tmp} {ty : TypeId} {pos : String} {af : Array Edge} {gd : Option (Nat × Bool)} {f : FuncId} {xs : List Operand} {ats : Array TypeId} {args : List Value} {fo : Operand} {post : Value → Itm → Prop} (hf : ev env fo = some (.func (.func f) #[] #[]))
    (hxs : evs env xs = some args) (hr : ∀ w, (callFunc f args.toArray).run P w = .ok (.enter f args.toArray) w)
    (h : ∀ G, Le F G → (∀ b ∈ L.flatten, G b.id = some b.obj) → Fn P f args.toArray [] G (fun v M H => ∃ it', M = [it'] ∧ post v it')) :
    Op1 P ⟨d, .call ⟨.value fo, xs.toArray, ats⟩, ty, pos, af, gd⟩ env L F (fun v M G => ∃ it', M = it' :: L ∧ G = F ∧ post v it') :=
  ⟨fun n a w R K Q hh ho hk => by
    have hm := evs_arr hh hxs
    have e : (execOp a.eval ⟨d, .call ⟨.value fo, xs.toArray, ats⟩, ty, pos, af, gd⟩).run P w = .ok (.enter f args.toArray) w := by
      have : (execOp a.eval ⟨d, .call ⟨.value fo, xs.toArray, ats⟩, ty, pos, af, gd⟩) = (do let dd ← Deferred.ofValue (a.eval fo) (xs.toArray.map a.eval); invoke dd.target dd.args) := rfl
      rw [this, hm, hh.eval hf]
      simp [Deferred.ofValue, invoke, hr]
    unfold Oper.wp
    rw [e]
    have hT : Own w L.flatten F := ho.sub (List.sublist_append_left _ _)
    have hG := h (plus F L.flatten) (plus_le F _) (fun b hb => plus_mem hT hb)
    refine (hG.run w R (by simpa using ho.freeze)).mono ?_
    rintro e w' ⟨v, M, H, rfl, hle, ⟨it', rfl, hp⟩, ho'⟩
    have h2 := ho'.thaw2 hle hT
    refine hk v (it' :: L) F w' Le.rfl ⟨it', rfl, rfl, hp⟩ (h2.perm ?_)
    simp only [List.flatten_cons, List.flatten_nil, List.append_nil]
    rw [← List.append_assoc]
    exact List.perm_append_comm.append_right R⟩
theorem RL.lend {ops : Array Oper} {Q : Post} {rest : List Oper} {n d : Nat} {op : Op} {ty : TypeId} {pos : String} {af : Array Edge} {post : Value → Itm → Prop} {g : Itm → List Itm} (h : Op1 P ⟨some d, op, ty, pos, af, none⟩ env L F (fun v M G => ∃ it', M = g it' ∧ G = F ∧ post v it')) (hd : Nat.blt d n = true)
    (k : ∀ v it', post v it' → RL P ops Q rest n ((d, v) :: env) (g it') F) : RL P ops Q (⟨some d, op, ty, pos, af, none⟩ :: rest) n env L F :=
  RL.w h hd (by rintro v _ _ _ ⟨it', rfl, rfl, hp⟩; exact k v it' hp)
/-- A function of the model's own, that answers and changes nothing. -/
theorem OpV.own {d : Option Tmp} {ty : TypeId} {pos : String} {af : Array Edge} {gd : Option (Nat × Bool)} {f : FuncId} {xs : List Operand} {ats : Array TypeId} {args : List Value} {fo : Operand} {v : Value} (hf : ev env fo = some (.func (.func f) #[] #[]))
    (hxs : evs env xs = some args) (hr : ∀ w R, Own w (L.flatten ++ R) F → (callFunc f args.toArray).run P w = .ok (.value v) w) : OpV P ⟨d, .call ⟨.value fo, xs.toArray, ats⟩, ty, pos, af, gd⟩ env L F v :=
  .of fun n a w R hh ho => by
    have hm := evs_arr hh hxs
    have : (execOp a.eval ⟨d, .call ⟨.value fo, xs.toArray, ats⟩, ty, pos, af, gd⟩) = (do let dd ← Deferred.ofValue (a.eval fo) (xs.toArray.map a.eval); invoke dd.target dd.args) := rfl
    rw [this, hm, hh.eval hf]
    simp [Deferred.ofValue, invoke, hr w R ho]
end
/-! ### Rows that are owned: pieces, copies -/
section
variable {P : Program} {env : Env} {L : List Itm} {F : Mem} {d : Option Tmp} {ty : TypeId} {pos : String} {af : Array Edge} {gd : Option (Nat × Bool)} {t e sz : Nat} {x y z : Operand}
/-- s[j:] of a row, not at its room's end. -/
theorem OpV.sfo {b o m c : Nat} {kk : IntKind} {i : Int} (j : Nat) (hs : Sld P t e sz) (hx : ev env x = some (.slice (some ⟨b, o, none⟩) m c)) (hy : ev env y = some (.int kk i)) (h : i = j ∧ j ≤ m ∧ j < c) :
    OpV P ⟨d, .slice t x (some y) none none, ty, pos, af, gd⟩ env L F (.slice (some ⟨b, o + j * sz, none⟩) (m - j) (c - j)) := by
  obtain ⟨rfl, h1, h2⟩ := h
  have := OpV.slFrom (P := P) (d := d) (ty := ty) (pos := pos) (af := af) (gd := gd) (L := L) (F := F) hs hx hy ⟨by omega, by omega⟩
  rw [if_neg (by simp; omega)] at this
  simpa [add_at] using this
theorem OpV.sio {b o m c : Nat} {kk kk' : IntKind} {i i' : Int} (j j' : Nat) (hs : Sld P t e sz) (hx : ev env x = some (.slice (some ⟨b, o, none⟩) m c)) (hy : ev env y = some (.int kk i)) (hz : ev env z = some (.int kk' i')) (h : i = j ∧ i' = j' ∧ j ≤ j' ∧ j' ≤ c ∧ j < c) :
    OpV P ⟨d, .slice t x (some y) (some z) none, ty, pos, af, gd⟩ env L F (.slice (some ⟨b, o + j * sz, none⟩) (j' - j) (c - j)) := by
  obtain ⟨rfl, rfl, h1, h2, h3⟩ := h
  have := OpV.slIn (P := P) (d := d) (ty := ty) (pos := pos) (af := af) (gd := gd) (L := L) (F := F) hs hx hy hz ⟨by omega, by omega, by omega⟩
  rw [if_neg (by simp; omega)] at this
  simpa [add_at] using this
/-- s[:j] of a row, within its room. -/
theorem OpV.sto {a : Option Addr} {m c : Nat} {kk : IntKind} {i : Int} (j : Nat) (hs : Sld P t e sz) (hx : ev env x = some (.slice a m c)) (hy : ev env y = some (.int kk i)) (h : i = j ∧ j ≤ c) :
    OpV P ⟨d, .slice t x none (some y) none, ty, pos, af, gd⟩ env L F (.slice a j c) := by
  obtain ⟨rfl, h1⟩ := h
  have := OpV.slTo (P := P) (d := d) (ty := ty) (pos := pos) (af := af) (gd := gd) (L := L) (F := F) hs hx hy ⟨by omega, by omega⟩
  simpa using this
/-- copy: so many cells are read, then written into a block that is owned. -/
theorem Op1.cpy {b o bt m c m' c' : Nat} {a2 : Option Addr} {cs cs' vs : List Value} {L' : List Itm} (k : Nat) (hs : Sld P t e sz) (hx : ev env x = some (.slice (some ⟨b, o, none⟩) m c)) (hy : ev env y = some (.slice a2 m' c'))
    (hk : Nat.min m' m = k) (hl : vs.length = k * sz) (h1 : ∀ v ∈ vs, v.oneCell' = true) (hr : ∀ w R, Own w (L.flatten ++ R) F → ∀ j v, vs[j]? = some v → ∃ ad, a2 = some ad ∧ w.cell? (ad.add j) = some v) (h0 : a2 = none → vs = []) (hb : o + k * sz ≤ cs.length)
    (hc : cs' = cs.take o ++ vs ++ cs.drop (o + k * sz)) (hu : Upd [⟨b, bt, cs⟩] [⟨b, bt, cs'⟩] L L') : Op1 P ⟨d, .call ⟨.builtin .copy, #[x, y], #[t, t]⟩, ty, pos, af, gd⟩ env L F (fun v M G => v = .int .i64 k ∧ M = L' ∧ G = F) :=
  .of fun n a w R hh ho => by
    obtain ⟨T, p1, p2⟩ := hu.perm
    have ho1 : Own w (⟨b, bt, cs⟩ :: (T ++ R)) F := by simpa using ho.perm (p1.append_right R)
    obtain ⟨w', hst, ho2⟩ := run_storeCells_own (P := P) o vs cs 0 w _ F ho1 (by omega) h1
    have hfirst : (Builtin.firstCells sz k (.slice a2 m' c')).run P w = .ok vs.toArray w := by
      cases a2 with
      | none =>
        have := h0 rfl
        subst this
        simp [Builtin.firstCells]
      | some ad =>
        exact run_firstCells_some w sz k ad _ _ vs hl fun j v hj => by
          obtain ⟨ad', e1, e2⟩ := hr w R ho j v hj
          cases e1
          exact e2
    refine ⟨_, w', L', F, ?_, Le.rfl, ⟨rfl, rfl, rfl⟩, ?_⟩
    · have e' : (execOp a.eval ⟨d, .call ⟨.builtin .copy, #[x, y], #[t, t]⟩, ty, pos, af, gd⟩) = (do pure (.value (← Builtin.copy_ #[t, t] ty #[a.eval x, a.eval y]))) := by simp [execOp, resolve, invoke, builtin]
      rw [e', hh.eval hx, hh.eval hy]
      simp [Builtin.copy_, run_underlying hs.un, Builtin.lenOf, hs.size, hk, hfirst, hst, goInt]
    · have : Own w' ((⟨b, bt, cs'⟩ : Blk) :: (T ++ R)) F := by rw [hc, ← hl]; simpa using ho2
      exact this.perm (by simpa using (p2.append_right R).symm)
/-- append within the room: so many cells are read, then written behind the elements. -/
theorem Op1.apc {b bt m c m' c' : Nat} {a2 : Option Addr} {cs cs' vs : List Value} {L' : List Itm} (k : Nat) (hs : Sld P t e sz) (hx : ev env x = some (.slice (some ⟨b, 0, none⟩) m c)) (hy : ev env y = some (.slice a2 m' c'))
    (hk : m' = k ∧ m + k ≤ c) (hl : vs.length = k * sz) (h1 : ∀ v ∈ vs, v.oneCell' = true) (hr : ∀ w R, Own w (L.flatten ++ R) F → ∀ j v, vs[j]? = some v → ∃ ad, a2 = some ad ∧ w.cell? (ad.add j) = some v) (h0 : a2 = none → vs = []) (hb : m * sz + k * sz ≤ cs.length)
    (hc : cs' = cs.take (m * sz) ++ vs ++ cs.drop (m * sz + k * sz)) (hu : Upd [⟨b, bt, cs⟩] [⟨b, bt, cs'⟩] L L') : Op1 P ⟨d, .call ⟨.builtin .append, #[x, y], #[t, t]⟩, ty, pos, af, gd⟩ env L F (fun v M G => v = .slice (some ⟨b, 0, none⟩) (m + k) c ∧ M = L' ∧ G = F) :=
  .of fun n a w R hh ho => by
    obtain ⟨rfl, hroom⟩ := hk
    obtain ⟨T, p1, p2⟩ := hu.perm
    have ho1 : Own w (⟨b, bt, cs⟩ :: (T ++ R)) F := by simpa using ho.perm (p1.append_right R)
    obtain ⟨w', hst, ho2⟩ := run_storeCells_own (P := P) (m * sz) vs cs 0 w _ F ho1 (by omega) h1
    have hfirst : (Builtin.firstCells sz m' (.slice a2 m' c')).run P w = .ok vs.toArray w := by
      cases a2 with
      | none =>
        have := h0 rfl
        subst this
        simp [Builtin.firstCells]
      | some ad =>
        exact run_firstCells_some w sz m' ad _ _ vs hl fun j v hj => by
          obtain ⟨ad', e1, e2⟩ := hr w R ho j v hj
          cases e1
          exact e2
    refine ⟨_, w', L', F, builtin_append_run hh hx hy ?_, Le.rfl, ⟨rfl, rfl, rfl⟩, ?_⟩
    · have hst' : (storeCells ((⟨b, 0, none⟩ : Addr).add (m * sz)) vs).run P w = .ok () w' := by rw [add_at, Nat.zero_add]; exact hst
      simp [Builtin.append_, run_underlying hs.un, hs.size, Builtin.lenOf, hroom, hfirst, hst']
    · have : Own w' ((⟨b, bt, cs'⟩ : Blk) :: (T ++ R)) F := by rw [hc, ← hl]; simpa using ho2
      exact this.perm (by simpa using (p2.append_right R).symm)
/-- s[j:] of a slice, its place told as it is. -/
theorem OpV.sfd {a : Option Addr} {m c : Nat} {kk : IntKind} {i : Int} (j : Nat) (hs : Sld P t e sz) (hx : ev env x = some (.slice a m c)) (hy : ev env y = some (.int kk i)) (h : i = j ∧ j ≤ m) :
    OpV P ⟨d, .slice t x (some y) none none, ty, pos, af, gd⟩ env L F (.slice (if c = j then a else a.map (·.add (j * sz))) (m - j) (c - j)) := by
  obtain ⟨rfl, h1⟩ := h
  have := OpV.slFrom (P := P) (d := d) (ty := ty) (pos := pos) (af := af) (gd := gd) (L := L) (F := F) hs hx hy ⟨by omega, by omega⟩
  simpa using this
/-- append(s[:i], make(T, m)...), behind the room: a new block. -/
theorem Op1.apz {bytes t2 : Nat} {g : Bool} {zero : Value} {b m c k : Nat} {i : Int} {bt : Nat} {cs : List Value} (hs : Sld P t e sz) (ht : Ty P e sz bytes g zero) (hz : zero.cells.size = sz) (hti : P.underlying t2 = some (.int .i64)) (hx : ev env x = some (.slice (some ⟨b, 0, none⟩) m c)) (hy : ev env y = some (.int .i64 i))
    (hi : Inn [⟨b, bt, cs⟩] L) (hl : m * sz ≤ cs.length) (hk : i = k ∧ 0 < k) (hgrow : c < m + k) (hsz : (m + k) * bytes ≤ 140737488355328) (hlen : m + k ≤ 140737488355328) (h0 : 0 < sz) (hb0 : 0 < bytes) :
    Op1 P ⟨d, .call ⟨.builtin .append, #[x, y], #[t, t2]⟩, ty, pos, af, gd⟩ env L F (fun v M G => ∃ b' C zs, v = .slice (some ⟨b', 0, none⟩) (m + k) C ∧ M = [⟨b', e, cs.take (m * sz) ++ zs⟩] :: L ∧ G = F ∧ m + k ≤ C ∧ C ≤ 9223372036854775807 ∧ zs.length = (C - m) * sz) :=
  .of fun n a w R hh ho => by
    obtain ⟨rfl, hk0⟩ := hk
    obtain ⟨inf, hinf, hiz, hisz, hib⟩ := ht.parts
    have hw : IntKind.i64.wrap (k : Int) = k := wrap_in (by omega) (by omega)
    have hneg : ¬ ((k : Int) < 0) := by omega
    have hkb : k * bytes ≤ 140737488355328 := Nat.le_trans (Nat.mul_le_mul_right _ (Nat.le_add_left k m)) hsz
    have hbig : ¬ (281474976710656 < (k : Int) * (bytes : Int)) := by rw [← Int.natCast_mul]; omega
    have hn : ¬ (m + k ≤ c) := by omega
    have hfit := growslice_fits hgrow hsz
    have h48 : ¬ (281474976710656 < Builtin.nextslicecap (m + k) c * bytes) := by omega
    have h63 : ¬ (9223372036854775807 < ((m : Int) + (k : Int))) := by omega
    have hold : (Builtin.firstCells sz m (.slice (some ⟨b, 0, none⟩) m c)).run P w.drew = .ok (cs.take (m * sz)).toArray w.drew :=
      run_firstCells_some w.drew sz m _ _ _ _ (by rw [List.length_take]; omega) fun j v hj => by
        have hj' : cs[j]? = some v := by rw [List.getElem?_take] at hj; split at hj; exact hj; cases hj
        rw [World.cell?_drew, add_at, Nat.zero_add, ho.cell (hi.one R)]
        exact hj'
    obtain ⟨C, hC⟩ : ∃ C, C = grownCap w (m + k) c e := ⟨_, rfl⟩
    have hC1 : m + k ≤ C := by rw [hC]; exact grownCap_ge w _ c e
    have hC2 : C ≤ 9223372036854775807 := by
      have := grownCap_le_maxLen w (m + k) c e (by unfold maxLen; omega)
      rw [← hC] at this
      unfold maxLen at this
      omega
    obtain ⟨zs, hzs⟩ : ∃ zs, zs = (Builtin.zeroCells zero.cells k ++ Builtin.zeroCells zero.cells (C - (m + k))).toList := ⟨_, rfl⟩
    refine ⟨_, w.drew.alloc (.cells (cs.take (m * sz) ++ zs).toArray e (0, 0)), _, F, ?_, Le.rfl, ⟨w.heap.size, C, zs, rfl, rfl, rfl, hC1, hC2, ?_⟩, ?_⟩
    · have e' : (execOp a.eval ⟨d, .call ⟨.builtin .append, #[x, y], #[t, t2]⟩, ty, pos, af, gd⟩) = (do pure (.value (← Builtin.append_ #[t, t2] ty #[a.eval x, a.eval y]))) := by simp [execOp, resolve, invoke, builtin]
      rw [e', hh.eval hx, hh.eval hy]
      have hm : (cs.take (m * sz) ++ zs).toArray = (cs.take (m * sz)).toArray ++ Builtin.zeroCells zero.cells k ++ Builtin.zeroCells zero.cells (C - (m + k)) := by
        rw [hzs]
        apply Array.ext'
        simp
      rw [hm, hC]
      simp [Builtin.append_, run_underlying hs.un, run_underlying hti, hs.size, asInt, asIntOf, hw, hneg, typeInfo, hinf, hib, hbig, hn, h63, h48, Question.forced, hold, zeroValue, hiz, newRow, grownCap]
      exact fun h => absurd h (Nat.mul_ne_zero (by omega) (by omega))
    · rw [hzs, Array.toList_append, List.length_append, zeroCells_length, zeroCells_length, hz, ← Nat.add_mul]
      congr 1
      omega
    · simpa using (ho.drew).alloc e (cs.take (m * sz) ++ zs)
/-- append of cells that can be read, whatever they lie in. -/
theorem Op1.appr {α : Type} {enc : α → List Value} {bytes : Nat} {g : Bool} {zero : Value} {a a2 : Option Addr} {c c2 : Nat} {xs ys : List α} {it : Itm} (hs : Sld P t e sz) (ht : Ty P e sz bytes g zero) (hz : zero.cells.size = sz) (hE : Enc enc sz) (hx : ev env x = some (.slice a xs.length c)) (hy : ev env y = some (.slice a2 ys.length c2))
    (hr : Row e enc sz a c xs it) (hrd : ∀ w R, Own w (L.flatten ++ R) F → ∀ j v, (ys.flatMap enc)[j]? = some v → ∃ ad, a2 = some ad ∧ w.cell? (ad.add j) = some v) (h0 : a2 = none → ys = []) (hsz : (xs.length + ys.length) * bytes ≤ 140737488355328) (hlen : xs.length + ys.length ≤ 9223372036854775807) (f : Itm → List Itm) (hu : ∀ it', Upd it it' L (f it')) :
    Op1 P ⟨d, .call ⟨.builtin .append, #[x, y], #[t, t]⟩, ty, pos, af, gd⟩ env L F (grown e enc sz F (xs ++ ys) f) :=
  .of fun n act w R hh ho => by
    obtain ⟨T, p1, _⟩ := (hu it).perm
    obtain ⟨a', c', it', w', h1, h2, h3⟩ := run_append_row (ty := ty) (w := w) (T := T ++ R) (F := F) (ys := ys) (a2 := a2) (c2 := c2) hs ht hz hE hr (by rw [← List.append_assoc]; exact ho.perm (p1.append_right R))
      (hrd w R ho) h0 hsz hlen
    obtain ⟨T', q1, q2⟩ := (hu it').perm
    refine ⟨_, w', f it', F, builtin_append_run hh hx hy h1, Le.rfl, ⟨a', c', it', rfl, h2, rfl, rfl⟩, ?_⟩
    have hTT : T.Perm T' := (List.perm_append_left_iff it).1 (p1.symm.trans q1)
    rw [← List.append_assoc] at h3
    exact h3.perm (((hTT.append_left it').append_right R).trans (q2.append_right R).symm)
/-- clear of cells of a block that is owned. -/
theorem Op1.clr {bytes : Nat} {g : Bool} {zero : Value} {b o m c bt : Nat} {cs cs' : List Value} {L' : List Itm} (hs : Sld P t e sz) (ht : Ty P e sz bytes g zero) (hz : zero.cells.size = sz) (h1 : zero.cells.toList.all (·.oneCell') = true) (h0 : (sz == 0) = false) (hx : ev env x = some (.slice (some ⟨b, o, none⟩) m c)) (hm : 0 < m) (hb : o + m * sz ≤ cs.length)
    (zs : List Value) (hzs : zs = (Builtin.zeroCells zero.cells m).toList) (hc : cs' = cs.take o ++ zs ++ cs.drop (o + m * sz)) (hu : Upd [⟨b, bt, cs⟩] [⟨b, bt, cs'⟩] L L') : Op1 P ⟨d, .call ⟨.builtin .clear, #[x], #[t]⟩, ty, pos, af, gd⟩ env L F (fun v M G => v = .tuple #[] ∧ M = L' ∧ G = F) :=
  .of fun n a w R hh ho => by
    obtain ⟨T, p1, p2⟩ := hu.perm
    have ho1 : Own w (⟨b, bt, cs⟩ :: (T ++ R)) F := by simpa using ho.perm (p1.append_right R)
    have hzl : zs.length = m * sz := by rw [hzs, zeroCells_length, hz]
    have hone : ∀ v ∈ zs, v.oneCell' = true := by
      intro v hv
      rw [hzs] at hv
      unfold Builtin.zeroCells at hv
      simp only [Array.toList_map, List.mem_map] at hv
      obtain ⟨i, _, rfl⟩ := hv
      have h0' : 0 < zero.cells.size := by rw [hz]; have : sz ≠ 0 := by simpa using h0
                                           omega
      have hlt : i % zero.cells.size < zero.cells.size := Nat.mod_lt _ h0'
      rw [getElem!_pos zero.cells _ hlt]
      exact List.all_eq_true.1 h1 _ (Array.getElem_mem_toList hlt)
    obtain ⟨w', hst, ho2⟩ := run_storeCells_own (P := P) o zs cs 0 w _ F ho1 (by omega) hone
    refine ⟨_, w', L', F, ?_, Le.rfl, ⟨rfl, rfl, rfl⟩, ?_⟩
    · have e' : (execOp a.eval ⟨d, .call ⟨.builtin .clear, #[x], #[t]⟩, ty, pos, af, gd⟩) = (do pure (.value (← Builtin.clear_ #[t] ty #[a.eval x]))) := by simp [execOp, resolve, invoke, builtin]
      rw [e', hh.eval hx]
      have hm0 : m ≠ 0 := by omega
      obtain ⟨m', rfl⟩ : ∃ m', m = m' + 1 := ⟨m - 1, by omega⟩
      simp [Builtin.clear_, run_underlying hs.un, ht.zeroV, ← hzs, hst]
    · have : Own w' ((⟨b, bt, cs'⟩ : Blk) :: (T ++ R)) F := by rw [hc, ← hzl]; simpa using ho2
      exact this.perm (by simpa using (p2.append_right R).symm)
end

section
variable {P : Program} {ops : Array Oper} {Q : Post} {rest : List Oper} {n : Nat} {env : Env} {L : List Itm} {F : Mem} {op : Op} {d : Nat} {ty : TypeId} {pos : String} {af : Array Edge}
theorem RL.cp {u : Value} {L' : List Itm} (h : Op1 P ⟨some d, op, ty, pos, af, none⟩ env L F (fun v M G => v = u ∧ M = L' ∧ G = F)) (hd : Nat.blt d n = true) (k : RL P ops Q rest n ((d, u) :: env) L' F) :
    RL P ops Q (⟨some d, op, ty, pos, af, none⟩ :: rest) n env L F := RL.w h hd (by rintro _ _ _ _ ⟨rfl, rfl, rfl⟩; exact k)
theorem RL.cp0 {u : Value} {L' : List Itm} (h : Op1 P ⟨none, op, ty, pos, af, none⟩ env L F (fun v M G => v = u ∧ M = L' ∧ G = F)) (k : RL P ops Q rest n env L' F) :
    RL P ops Q (⟨none, op, ty, pos, af, none⟩ :: rest) n env L F := RL.w0 h (by rintro _ _ _ _ ⟨rfl, rfl, rfl⟩; exact k)
theorem RL.az {m k sz e : Nat} {cs : List Value} (h : Op1 P ⟨some d, op, ty, pos, af, none⟩ env L F (fun v M G => ∃ b' C zs, v = .slice (some ⟨b', 0, none⟩) (m + k) C ∧ M = [⟨b', e, cs.take (m * sz) ++ zs⟩] :: L ∧ G = F ∧ m + k ≤ C ∧ C ≤ 9223372036854775807 ∧ zs.length = (C - m) * sz)) (hd : Nat.blt d n = true)
    (kk : ∀ (b C : Nat) (zs : List Value), m + k ≤ C → C ≤ 9223372036854775807 → zs.length = (C - m) * sz → RL P ops Q rest n ((d, .slice (some ⟨b, 0, Option.none⟩) (m + k) C) :: env) ([⟨b, e, cs.take (m * sz) ++ zs⟩] :: L) F) :
    RL P ops Q (⟨some d, op, ty, pos, af, none⟩ :: rest) n env L F := RL.w h hd (by rintro _ _ _ _ ⟨b, C, zs, rfl, rfl, rfl, h1, h2, h3⟩; exact kk b C zs h1 h2 h3)
end
/-- One cell of one element is stored. -/
theorem Enc.put1 {α : Type} {enc : α → List Value} {sz : Nat} (h : Enc enc sz) {xs : List α} {pad : List Value} {i j : Nat} {x y : α} {v : Value} (hx : xs[i]? = some x) (hj : j < sz) (hy : enc y = (enc x).set j v) :
    (xs.set i y).flatMap enc ++ pad = (xs.flatMap enc ++ pad).take (i * sz + j) ++ [v] ++ (xs.flatMap enc ++ pad).drop (i * sz + j + 1) := by
  have hi := (List.getElem?_eq_some_iff.1 hx).1
  rw [h.put xs pad i hi y, hy]
  have hlen : (xs.flatMap enc ++ pad).length = xs.length * sz + pad.length := by rw [List.length_append, h.fl]
  have hb : (i + 1) * sz ≤ xs.length * sz := Nat.mul_le_mul_right _ hi
  have hb' : (i + 1) * sz = i * sz + sz := by rw [Nat.succ_mul]
  have e : (xs.flatMap enc ++ pad).drop (i * sz) = enc x ++ (xs.flatMap enc ++ pad).drop ((i + 1) * sz) := by
    rw [h.drop xs pad i (by omega), h.drop xs pad (i + 1) hi]
    have h2 : xs.drop i = x :: xs.drop (i + 1) := by
      obtain ⟨h1, h2⟩ := List.getElem?_eq_some_iff.1 hx
      rw [List.drop_eq_getElem_cons h1, h2]
    rw [h2, List.flatMap_cons, List.append_assoc]
  have e1 : (xs.flatMap enc ++ pad).take (i * sz + j) = (xs.flatMap enc ++ pad).take (i * sz) ++ (enc x).take j := by
    rw [List.take_add, e, List.take_append_of_le_length (l₁ := enc x) (by rw [h.len]; omega)]
  have e2 : (xs.flatMap enc ++ pad).drop (i * sz + j + 1) = (enc x).drop (j + 1) ++ (xs.flatMap enc ++ pad).drop ((i + 1) * sz) := by
    rw [Nat.add_assoc, ← List.drop_drop, e, List.drop_append_of_le_length (by rw [h.len]; omega)]
  rw [e1, e2, List.set_eq_take_append_cons_drop, if_pos (by rw [h.len]; exact hj)]
  simp [List.append_assoc]
theorem Row.of {α : Type} {e : TypeId} {enc : α → List Value} {sz b c : Nat} {xs : List α} {cs : List Value} (pad : List Value) (h : cs = xs.flatMap enc ++ pad) (hp : pad.length = (c - xs.length) * sz) (h1 : xs.length ≤ c) (h2 : c ≤ 9223372036854775807) : Row e enc sz (some ⟨b, 0, none⟩) c xs [⟨b, e, cs⟩] :=
  ⟨h1, h2, .inr ⟨b, pad, rfl, by rw [h], hp⟩⟩
theorem Sl.none {α : Type} {F : Mem} {enc : α → List Value} {sz c : Nat} {xs : List α} (h : Sl F enc sz none c xs) : xs = [] := by
  rcases h.rd with h | ⟨_, _, h, _⟩
  · exact h
  · cases h
theorem Sl.one {α : Type} {F : Mem} {enc : α → List Value} {sz b : Nat} {x : α} (h : Rd F b 0 (enc x)) : Sl F enc sz (some ⟨b, 0, Option.none⟩) 1 [x] :=
  ⟨Nat.le_refl _, by omega, .inr ⟨b, 0, rfl, fun i y hy => by
    cases i with
    | zero => simp at hy; subst hy; simpa using h
    | succ i => simp at hy⟩⟩
theorem Rd.of0 {G : Mem} {b t : Nat} {cs : List Value} (hb : G b = some (.cells cs.toArray t (0, 0))) : Rd G b 0 cs := Rd.of hb 0 cs fun j v hj => by simpa using hj
/-- What inserting leaves, in a new block. -/
theorem ins_grow {A X D zs : List Value} {p s q : Nat} (ha : A.length = p) (hx : X.length = s) (hd : D.length = q) :
    (((A ++ zs).take p ++ X ++ (A ++ zs).drop (p + s)).take (p + s) ++ D ++ ((A ++ zs).take p ++ X ++ (A ++ zs).drop (p + s)).drop (p + s + q)) = A ++ X ++ D ++ zs.drop (s + q) := by
  subst ha; subst hx; subst hd
  have e1 : (A ++ zs).take A.length = A := List.take_left' rfl
  have e2 : (A ++ zs).drop (A.length + X.length) = zs.drop X.length := by rw [List.drop_append, List.drop_of_length_le (by omega)]; simp
  rw [e1, e2]
  have l1 : (A ++ X).length = A.length + X.length := by simp
  rw [List.take_left' l1, List.drop_append, List.drop_of_length_le (by rw [l1]; omega), l1, List.drop_drop]
  simp
/-- What inserting leaves, in the room that there is. -/
theorem ins_room {A X D pad : List Value} {p s q : Nat} (ha : A.length = p) (hx : X.length = s) (hd : D.length = q) (hp : s ≤ pad.length) :
    (((A ++ D ++ pad).take (p + s) ++ D ++ (A ++ D ++ pad).drop (p + s + q)).take p ++ X ++ ((A ++ D ++ pad).take (p + s) ++ D ++ (A ++ D ++ pad).drop (p + s + q)).drop (p + s)) = A ++ X ++ D ++ pad.drop s := by
  subst ha; subst hx; subst hd
  have l0 : (A ++ D ++ pad).length = A.length + D.length + pad.length := by simp [Nat.add_assoc]
  have l1 : ((A ++ D ++ pad).take (A.length + X.length)).length = A.length + X.length := by rw [List.length_take, l0]; omega
  have e1 : ((A ++ D ++ pad).take (A.length + X.length) ++ D ++ (A ++ D ++ pad).drop (A.length + X.length + D.length)).take A.length = A := by
    rw [List.append_assoc, List.take_append_of_le_length (by omega), List.take_take, Nat.min_eq_left (by omega), List.append_assoc, List.take_left' rfl]
  have e2 : ((A ++ D ++ pad).take (A.length + X.length) ++ D ++ (A ++ D ++ pad).drop (A.length + X.length + D.length)).drop (A.length + X.length) = D ++ pad.drop X.length := by
    rw [List.append_assoc, List.drop_left' l1, show A.length + X.length + D.length = (A ++ D).length + X.length by simp; omega, ← List.drop_drop, List.drop_left' rfl]
  rw [e1, e2]
  simp [List.append_assoc]
/-- What deleting leaves. -/
theorem del_cells {A V X pad zs : List Value} {p q n o s : Nat} (ha : A.length = p) (hv : V.length = q) (hx : X.length = n) (hr : p + q ≤ n) (ho : o = p + q) (hs : o + s = n) :
    ((A ++ V ++ (X ++ pad).drop (p + q)).take o ++ zs ++ (A ++ V ++ (X ++ pad).drop (p + q)).drop (o + s)) = A ++ V ++ (zs ++ pad) := by
  subst ha; subst hv; subst hx; subst ho
  have l1 : (A ++ V).length = A.length + V.length := by simp
  rw [List.take_left' l1, List.drop_append, List.drop_of_length_le (by rw [l1]; omega), l1, List.drop_drop, show A.length + V.length + (A.length + V.length + s - (A.length + V.length)) = X.length by omega, List.drop_left' rfl]
  simp [List.append_assoc]
/-- The overlap that slices.Insert asks for: none, between two blocks. -/
theorem run_overlaps {P : Program} {f : FuncId} {fn : Func} {tS tR e sz : Nat} (hf : P.funcs[f]? = some fn) (h1 : (fn.name == "runtime.NumGoroutine") = false) (h2 : fn.body.isNone = true) (h3 : (Extern.findNext fn).isNone = true) (h4 : Extern.find fn = some (Extern.SlicesOverlaps.overlaps #[tS, tS] #[tR])) (hs : Sld P tS e sz)
    {w : World} {Bs : List Blk} {F : Mem} (ho : Own w Bs F) {b b' o la ca lb cb t : Nat} {xs cs' : List Value} (hb : F b = some (.cells xs.toArray t (0, 0))) (hm : (⟨b', e, cs'⟩ : Blk) ∈ Bs) (h0 : 0 < cs'.length) :
    (callFunc f #[.slice (some ⟨b, 0, none⟩) la ca, .slice (some ⟨b', o, none⟩) lb cb]).run P w = .ok (.value (.bool false)) w := by
  have hne : b ≠ b' := fun e => ho.ne b _ hb _ hm e.symm
  have hw := ho.fr _ _ hb
  have hw' := ho.at' _ hm
  simp only [Blk.obj] at hw'
  rw [run_callFunc_extern hf h1 h2 (by simpa using h3) h4, Lib.run_overlaps_apart w tS tR e hs.un sz hs.size ⟨b, 0, none⟩ ⟨b', o, none⟩ la ca lb cb hne t e xs.length cs'.length (by simp [World.shape?, hw]) (by simp [World.shape?, hw']) (by omega) (by simp [World.frozen?, hw]) (by simp [World.frozen?, hw])]
  rfl
/-- Some items are kept. -/
theorem Inn.ob {b : Blk} {L : List Itm} (h : Inn [b] L) : b ∈ L.flatten := h.mem b (by simp)
theorem keep {L L' : List Itm} {R : Itm} {F : Mem} (h : (L' ++ [R]).Sublist L) : ∀ w, Own w L.flatten F → Own w (L'.flatten ++ R) F := fun w ho => by
  have := subl h w ho
  simpa using this
end Go.Proofs.Ytbmpdccoffkjgaa.Ow
namespace Go.Proofs.Ytbmpdccoffkjgaa.Ow
open Go
set_option linter.unusedVariables false
open Go.ChangeShapes Go.WideShapes Go.RowKit
theorem own_of (w : World) : Own w [] (Mem.of w) := ⟨by simp, fun b hb => by simp at hb, fun i o h => h, fun i o _ b hb => by simp at hb, rfl⟩
theorem Own.below {w w' : World} {Bs : List Blk} {F : Mem} (h : Own w' Bs F) (hle : Le (Mem.of w) F) : Below w.heap.size w w' := by
  have hr : rest w' = rest w := h.rs.trans hle.re.symm
  simp only [rest, Prod.mk.injEq] at hr
  have hb : ∀ k, k < w.heap.size → w'.heap[k]? = w.heap[k]? := fun k hk => by
    have e : w.heap[k]? = some w.heap[k] := Array.getElem?_eq_getElem hk
    rw [e]
    exact h.fr k _ (hle.le k _ e)
  refine ⟨hr.2.1, hr.1, hr.2.2, ?_, hb⟩
  rcases Nat.eq_zero_or_pos w.heap.size with e | e
  · omega
  · have h1 := hb (w.heap.size - 1) (by omega)
    rw [Array.getElem?_eq_getElem (by omega : w.heap.size - 1 < w.heap.size)] at h1
    have := (Array.getElem?_eq_some_iff.1 h1).1
    omega
/-- A call's end, as the rows ask. -/
theorem Fn.calls {P : Program} {f : FuncId} {args : Array Value} {w : World} {x : Value} (h : Fn P f args [] (Mem.of w) (fun v M G => M = [] ∧ v = x)) : Calls P f args w fun e w' => e = .returned x ∧ Below w.heap.size w w' :=
  (h.run w [] (own_of w)).mono (by
    rintro e w' ⟨v, M, G, rfl, hle, ⟨rfl, rfl⟩, ho⟩
    exact ⟨rfl, ho.below hle⟩)
section
variable {H : Type} {enc : TypeId × Value → H} {P : Program} {w : World} {base : Nat} {spare : Nat → Bool} {held : Bool}
theorem read_int {k : IntKind} {t : TypeId} (ht : P.underlying t = some (.int k)) {fuel : Nat} {cs : List Value} {x : DataW H × List MemPlace} (h : DataW.trod enc P w base spare held fuel t cs = some x) :
    ∃ n, cs = [.int k n] ∧ (Lit.int k n).wf = true := by
  obtain ⟨n, rfl, _, hw⟩ := DataW.trod_int ht h
  exact ⟨n, rfl, hw⟩
theorem read_bool {t : TypeId} (ht : P.underlying t = some .bool) {fuel : Nat} {cs : List Value} {x : DataW H × List MemPlace} (h : DataW.trod enc P w base spare held fuel t cs = some x) :
    ∃ b, cs = [.bool b] := by
  obtain ⟨n, rfl, _⟩ := DataW.trod_bool ht h
  exact ⟨n, rfl⟩
theorem read_string {t : TypeId} (ht : P.underlying t = some .string) {fuel : Nat} {cs : List Value} {x : DataW H × List MemPlace} (h : DataW.trod enc P w base spare held fuel t cs = some x) :
    ∃ s, cs = [.string s] := by
  obtain ⟨s, rfl, _⟩ := DataW.trod_string ht h
  exact ⟨s, rfl⟩
theorem choose_list {α : Type} (n : Nat) (Q : Nat → α → Prop) (h : ∀ i, i < n → ∃ v, Q i v) : ∃ l : List α, l.length = n ∧ ∀ i v, l[i]? = some v → Q i v := by
  induction n with
  | zero => exact ⟨[], rfl, fun i v hv => by simp at hv⟩
  | succ n ih =>
    obtain ⟨l, hl, hq⟩ := ih (fun i hi => h i (by omega))
    obtain ⟨v, hv⟩ := h n (by omega)
    refine ⟨l ++ [v], by simp [hl], fun i u hu => ?_⟩
    by_cases hi : i < n
    · rw [List.getElem?_append_left (by omega)] at hu
      exact hq i u hu
    · rw [List.getElem?_append_right (by omega)] at hu
      have : i - l.length = 0 := by
        have := (List.getElem?_eq_some_iff.1 hu).1
        simp at this
        omega
      rw [this] at hu
      simp at hu
      subst hu
      have : i = n := by omega
      rw [this]
      exact hv
theorem cell_some {a : Addr} {v : Value} (h : w.cell? a = some v) : ∃ c t fr, w.heap[a.block]? = some (.cells c t fr) ∧ a.spot = none ∧ c[a.off]? = some v := by
  unfold World.cell? at h
  split at h
  · rename_i c t fr e
    cases hs : a.spot with
    | none => rw [hs] at h; exact ⟨c, t, fr, e, rfl, by simpa using h⟩
    | some n => rw [hs] at h; simp at h
  · cases h
/-- A slice, whatever its elements are. -/
theorem read_slice {α : Type} {encv : α → List Value} {sz : Nat} (G : α → Prop) {t e : TypeId} (ht : P.underlying t = some (.slice e)) (hz : P.cellsOf e = sz) (hp : 0 < sz) (hE : ∀ v, (encv v).length = sz)
    (hel : ∀ (n : Nat) (cs : List Value) (y : DataW H × List MemPlace), DataW.trod enc P w base spare held n e cs = some y → ∃ v, cs = encv v ∧ G v)
    {fuel : Nat} {cs : List Value} {x : DataW H × List MemPlace} (h : DataW.trod enc P w base spare held fuel t cs = some x) :
    ∃ A c xs, cs = [.slice A xs.length c] ∧ Sl (Mem.of w) encv sz A c xs ∧ (∀ v ∈ xs, G v) ∧ (xs.length = 0 ∨ ∃ el sp, x.1 = .slice el sp ∧ xs.length ≤ el.length + sp.length) := by
  rcases DataW.trod_slice ht h with ⟨rfl, rfl⟩ | ⟨a, len, cap, elems, rest, n, _, rfl, rfl, hb, hl, hm, hlen, hel1, _, _⟩
  · exact ⟨none, 0, [], rfl, .nil, by simp, .inl rfl⟩
  · obtain ⟨xs, hxl, hxs⟩ := choose_list len (fun i v => G v ∧ ∀ j u, (encv v)[j]? = some u → w.cell? (a.add (i * sz + j)) = some u) (by
      intro i hi
      have h1 := hel1 i hi
      obtain ⟨y, hy⟩ : ∃ y, elems[i]? = some y := ⟨elems[i]'(by omega), List.getElem?_eq_getElem (by omega)⟩
      rw [hy, Option.bind_eq_some_iff] at h1
      obtain ⟨c, hc, hd⟩ := h1
      obtain ⟨v, rfl, hg⟩ := hel _ _ _ hd
      obtain ⟨_, hcl, hcc⟩ := World.cells?_some hc
      refine ⟨v, hg, fun j u hu => ?_⟩
      have hj := (List.getElem?_eq_some_iff.1 hu).1
      have h2 := hcc j (by rw [← hcl]; exact hj)
      rw [hz, Addr.add_add] at h2
      rw [h2, hu])
    subst hxl
    refine ⟨some a, cap, xs, rfl, ⟨hl, hm, ?_⟩, ?_, .inr ⟨_, _, rfl, by simp; omega⟩⟩
    · cases hx : xs with
      | nil => exact .inl rfl
      | cons x0 xr =>
        have h0 := (hxs 0 x0 (by rw [hx]; rfl)).2 0 ((encv x0)[0]'(by rw [hE]; exact hp)) (List.getElem?_eq_getElem _)
        obtain ⟨c, ty, fr, hh, hs, _⟩ := cell_some h0
        obtain ⟨blk, off, spot⟩ := a
        have hsp : spot = none := by
          cases spot with
          | none => rfl
          | some q => simp [Addr.add] at hs
        subst hsp
        rw [show Addr.add (⟨blk, off, none⟩ : Addr) (0 * sz + 0) = ⟨blk, off + (0 * sz + 0), none⟩ from add_at _ _ _] at hh
        refine .inr ⟨blk, off, rfl, fun i v hv => ⟨c, ty, fr, hh, fun j u hu => ?_⟩⟩
        rw [← hx] at hv
        have h1 := (hxs i v hv).2 j u hu
        obtain ⟨c', ty', fr', hh', _, hc'⟩ := cell_some h1
        rw [add_at] at hh' hc'
        have : (some (Obj.cells c ty fr)) = some (.cells c' ty' fr') := hh.symm.trans hh'
        injection this with this
        injection this with e1 e2 e3
        subst e1
        rw [show off + i * sz + j = off + (i * sz + j) by omega]
        exact hc'
    · intro v hv
      obtain ⟨i, hi⟩ := List.getElem?_of_mem hv
      exact (hxs i v hi).1
/-- A slice in a field of a struct that came in is no greater than its weight allows. -/
theorem sized_field {ts : List TypeId} {ds : List (DataW H)} (h : (DataW.weightsEach P ts ds).all (· ≤ reachBytes) = true) {j i : Nat} {t t' e : TypeId} {fs : Array Field} {parts elems sp : List (DataW H)}
    (ht : ts[j]? = some t) (hd : ds[j]? = some (.agg parts)) (hu : P.underlying t = some (.struct fs)) (hf : (fs.toList.map (·.type))[i]? = some t') (hp : parts[i]? = some (.slice elems sp)) (hu' : P.underlying t' = some (.slice e)) :
    (elems.length + sp.length) * P.bytesOf e ≤ reachBytes := by
  have h1 : (elems.length + sp.length) * P.bytesOf e ∈ DataW.weightsEach P (fs.toList.map (·.type)) parts := DataW.weights_mem_each hf hp _ (by simp [DataW.weights, hu'])
  have h2 := List.all_eq_true.1 h _ (DataW.weights_mem_each ht hd _ (by simpa [DataW.weights, hu] using h1))
  simpa using h2
end
theorem u8_range {n : Int} (h : (Lit.int .u8 n).wf = true) : 0 ≤ n ∧ n < 256 := by
  simp [Lit.wf, IntKind.min, IntKind.max, IntKind.bits, IntKind.signed] at h
  omega
theorem i8_range {n : Int} (h : (Lit.int .i8 n).wf = true) : -128 ≤ n ∧ n < 128 := by
  simp [Lit.wf, IntKind.min, IntKind.max, IntKind.bits, IntKind.signed] at h
  omega
end Go.Proofs.Ytbmpdccoffkjgaa.Ow
