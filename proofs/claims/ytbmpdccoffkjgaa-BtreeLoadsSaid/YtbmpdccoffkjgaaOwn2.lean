/- A calculus over the model: memory as blocks that are owned, beside memory that never changes any more; operations one by one. -/
import Derived.Orders
import Derived.Tactics
import Derived.Laws.Cells
import Derived.KernelRfl
namespace Go.Proofs.Ytbmpdccoffkjgaa.Ow
open Go
/-- What lies in memory and never changes any more. -/
abbrev Rest := (Nat → Question → Nat) × Os × Array (Nat × ByteArray)
/-- What is left of a world beside its memory. -/
def rest (w : World) : Rest := (w.tape, w.os, w.output)
structure Mem where
  at' : Nat → Option Obj
  rest : Rest
instance : CoeFun Mem (fun _ => Nat → Option Obj) := ⟨Mem.at'⟩
def Mem.of (w : World) : Mem := ⟨fun i => w.heap[i]?, Ow.rest w⟩
structure Blk where
  id : Nat
  ty : TypeId
  cs : List Value
def Blk.obj (b : Blk) : Obj := .cells b.cs.toArray b.ty (0, 0)
abbrev Itm := List Blk
abbrev Env := List (Nat × Value)
structure Le (F G : Mem) : Prop where
  le : ∀ b o, F b = some o → G b = some o
  re : F.rest = G.rest
theorem Le.rfl {F : Mem} : Le F F := ⟨fun _ _ h => h, Eq.refl _⟩
theorem Le.trans {F G H : Mem} (a : Le F G) (b : Le G H) : Le F H := ⟨fun _ _ h => b.le _ _ (a.le _ _ h), a.re.trans b.re⟩
/-- The blocks Bs lie in the world, each once, and beside them all that F knows. -/
structure Own (w : World) (Bs : List Blk) (F : Mem) : Prop where
  nd : (Bs.map Blk.id).Nodup
  at' : ∀ b ∈ Bs, w.heap[b.id]? = some b.obj
  fr : ∀ i o, F i = some o → w.heap[i]? = some o
  ne : ∀ i o, F i = some o → ∀ b ∈ Bs, b.id ≠ i
  rs : rest w = F.rest
section
variable {w : World} {Bs Cs : List Blk} {F : Mem}
theorem Own.lt (h : Own w Bs F) {b : Blk} (hb : b ∈ Bs) : b.id < w.heap.size := (Array.getElem?_eq_some_iff.1 (h.at' b hb)).1
theorem Own.flt (h : Own w Bs F) {i : Nat} {o : Obj} (hb : F i = some o) : i < w.heap.size := (Array.getElem?_eq_some_iff.1 (h.fr i o hb)).1
theorem Own.sub (h : Own w Bs F) (hs : Cs.Sublist Bs) : Own w Cs F :=
  ⟨h.nd.sublist (hs.map _), fun b hb => h.at' b (hs.subset hb), h.fr, fun i o hi b hb => h.ne i o hi b (hs.subset hb), h.rs⟩
theorem Own.perm (h : Own w Bs F) (hs : Bs.Perm Cs) : Own w Cs F :=
  ⟨(hs.map _).nodup_iff.1 h.nd, fun b hb => h.at' b (hs.symm.subset hb), h.fr, fun i o hi b hb => h.ne i o hi b (hs.symm.subset hb), h.rs⟩
theorem Own.world {w' : World} (h : Own w Bs F) (he : ∀ i : Nat, i < w.heap.size → w'.heap[i]? = w.heap[i]?) (hr : rest w' = rest w) : Own w' Bs F :=
  ⟨h.nd, fun b hb => by rw [he _ (h.lt hb)]; exact h.at' b hb, fun i o hi => by rw [he _ (h.flt hi)]; exact h.fr i o hi, h.ne, hr.trans h.rs⟩
theorem Own.le {G : Mem} (h : Own w Bs G) (hle : Le F G) : Own w Bs F := ⟨h.nd, h.at', fun i o hi => h.fr i o (hle.le _ _ hi), fun i o hi => h.ne i o (hle.le _ _ hi), h.rs.trans hle.re.symm⟩
theorem Own.drew (h : Own w Bs F) : Own w.drew Bs F := h.world (fun _ _ => rfl) rfl
theorem Own.alloc (h : Own w Bs F) (t : TypeId) (cs : List Value) : Own (w.alloc (.cells cs.toArray t (0, 0))) (⟨w.heap.size, t, cs⟩ :: Bs) F := by
  have he : ∀ i : Nat, i < w.heap.size → (w.alloc (.cells cs.toArray t (0, 0))).heap[i]? = w.heap[i]? := fun i hi => by
    show (w.heap.push _)[i]? = _
    rw [Array.getElem?_push, if_neg (Nat.ne_of_lt hi)]
  refine ⟨?_, ?_, (h.world he rfl).fr, ?_, h.rs⟩
  · rw [List.map_cons, List.nodup_cons]
    refine ⟨fun hm => ?_, h.nd⟩
    obtain ⟨b, hb, e⟩ := List.mem_map.1 hm
    have := h.lt hb
    exact Nat.lt_irrefl _ (e ▸ this)
  · intro b hb
    rcases List.mem_cons.1 hb with rfl | hb
    · show (w.heap.push _)[w.heap.size]? = _
      rw [Array.getElem?_push, if_pos rfl]
      rfl
    · exact (h.world he rfl).at' b hb
  · intro i o hi b hb
    rcases List.mem_cons.1 hb with rfl | hb
    · exact fun e => Nat.lt_irrefl _ (e ▸ h.flt hi)
    · exact h.ne i o hi b hb
/-- A new block, other than all that there was. -/
theorem Own.alloc_new (h : Own w Bs F) : ∀ i o, F i = some o → i ≠ w.heap.size := fun _ _ hi => Nat.ne_of_lt (h.flt hi)
theorem heap_setCell_same {b t : Nat} {cs : List Value} (hw : w.heap[b]? = some (.cells cs.toArray t (0, 0))) (off : Nat) (v : Value) :
    (w.setCell ⟨b, off, none⟩ v).heap[b]? = some (.cells (cs.set off v).toArray t (0, 0)) := by
  simp only [World.setCell, Array.getElem?_modify, if_true, hw, Option.map_some]
  simp
theorem heap_setCell_other {b i : Nat} (hne : b ≠ i) (off : Nat) (v : Value) : (w.setCell ⟨b, off, none⟩ v).heap[i]? = w.heap[i]? := by
  simp only [World.setCell, Array.getElem?_modify]
  simp [hne]
theorem Own.set {b t : Nat} {cs : List Value} (h : Own w (⟨b, t, cs⟩ :: Bs) F) (off : Nat) (v : Value) : Own (w.setCell ⟨b, off, none⟩ v) (⟨b, t, cs.set off v⟩ :: Bs) F := by
  have hnd := h.nd
  rw [List.map_cons, List.nodup_cons] at hnd
  refine ⟨by rw [List.map_cons, List.nodup_cons]; exact hnd, ?_, ?_, ?_, h.rs⟩
  · intro x hx
    rcases List.mem_cons.1 hx with rfl | hx
    · exact heap_setCell_same (h.at' _ (List.mem_cons_self ..)) off v
    · rw [heap_setCell_other (fun e => hnd.1 (List.mem_map.2 ⟨x, hx, e.symm⟩))]
      exact h.at' x (List.mem_cons_of_mem _ hx)
  · intro i o hi
    rw [heap_setCell_other (fun e => h.ne i o hi _ (List.mem_cons_self ..) e)]
    exact h.fr i o hi
  · intro i o hi x hx
    rcases List.mem_cons.1 hx with rfl | hx
    · exact h.ne i o hi ⟨b, t, cs⟩ (List.mem_cons_self ..)
    · exact h.ne i o hi x (List.mem_cons_of_mem _ hx)
theorem Own.cell {b t : Nat} {cs : List Value} (h : Own w Bs F) (hm : (⟨b, t, cs⟩ : Blk) ∈ Bs) (off : Nat) : w.cell? ⟨b, off, none⟩ = cs[off]? := by
  have := h.at' _ hm
  simp only [Blk.obj] at this
  simp [World.cell?, this]
theorem Own.free {b t : Nat} {cs : List Value} (h : Own w Bs F) (hm : (⟨b, t, cs⟩ : Blk) ∈ Bs) (off : Nat) : w.frozen? ⟨b, off, none⟩ = false := by
  have := h.at' _ hm
  simp only [Blk.obj] at this
  simp [World.frozen?, this]
end
/-- Blocks that are owned become memory that never changes. -/
def plus (F : Mem) (Bs : List Blk) : Mem := ⟨fun i => match F i with
  | some o => some o
  | none => (Bs.find? (·.id == i)).map Blk.obj, F.rest⟩
theorem plus_le (F : Mem) (Bs : List Blk) : Le F (plus F Bs) := ⟨fun b o h => by simp [plus, h], rfl⟩
theorem plus_mem {w : World} {F : Mem} {Bs : List Blk} (h : Own w Bs F) {b : Blk} (hb : b ∈ Bs) : plus F Bs b.id = some b.obj := by
  have hn : F b.id = none := by
    cases e : F b.id with
    | none => rfl
    | some o => exact absurd rfl (h.ne _ o e b hb)
  have hf : Bs.find? (·.id == b.id) = some b := by
    have : ∀ Bs : List Blk, (Bs.map Blk.id).Nodup → b ∈ Bs → Bs.find? (·.id == b.id) = some b := by
      intro Bs
      induction Bs with
      | nil => intro _ h; cases h
      | cons c Bs ih =>
        intro hnd hm
        rw [List.map_cons, List.nodup_cons] at hnd
        rcases List.mem_cons.1 hm with rfl | hm
        · simp
        · have : c.id ≠ b.id := fun e => hnd.1 (List.mem_map.2 ⟨b, hm, e.symm⟩)
          simp [this, ih hnd.2 hm]
    exact this Bs h.nd hb
  simp [plus, hn, hf]
theorem plus_inv {F : Mem} {Bs : List Blk} {i : Nat} {o : Obj} (h : plus F Bs i = some o) : F i = some o ∨ ∃ b ∈ Bs, b.id = i ∧ b.obj = o := by
  simp only [plus] at h
  split at h
  · rename_i o' ho
    exact .inl (by rw [ho]; exact h)
  · obtain ⟨b, hb, e⟩ := Option.map_eq_some_iff.1 h
    exact .inr ⟨b, List.mem_of_find?_eq_some hb, by simpa using List.find?_some hb, e⟩
theorem Own.freeze {w : World} {Bs Cs : List Blk} {F : Mem} (h : Own w (Bs ++ Cs) F) : Own w Cs (plus F Bs) := by
  have hB : Own w Bs F := h.sub (List.sublist_append_left _ _)
  have hC : Own w Cs F := h.sub (List.sublist_append_right _ _)
  refine ⟨hC.nd, hC.at', fun i o hi => ?_, fun i o hi b hb => ?_, h.rs⟩
  · rcases plus_inv hi with hi | ⟨b, hb, rfl, rfl⟩
    · exact h.fr i o hi
    · exact hB.at' b hb
  · rcases plus_inv hi with hi | ⟨c, hc, rfl, rfl⟩
    · exact hC.ne i o hi b hb
    · have := h.nd
      rw [List.map_append, List.nodup_append] at this
      exact fun e => this.2.2 c.id (List.mem_map.2 ⟨c, hc, rfl⟩) b.id (List.mem_map.2 ⟨b, hb, rfl⟩) e.symm
/-- Memory less some blocks. -/
def minus (F : Mem) (Bs : List Blk) : Mem := ⟨fun i => if (Bs.any (·.id == i)) then none else F i, F.rest⟩
theorem Own.thaw {w : World} {Bs Cs : List Blk} {F G : Mem} (h : Own w Cs G) (hle : Le (plus F Bs) G) {w0 : World} (h0 : Own w0 (Bs ++ Cs) F) : Own w (Bs ++ Cs) (minus G Bs) ∧ Le F (minus G Bs) := by
  have hB : Own w0 Bs F := h0.sub (List.sublist_append_left _ _)
  have hin : ∀ b ∈ Bs, G b.id = some b.obj := fun b hb => hle.le _ _ (plus_mem hB hb)
  have hm : ∀ i o, minus G Bs i = some o → G i = some o ∧ ∀ b ∈ Bs, b.id ≠ i := by
    intro i o hi
    simp only [minus] at hi
    split at hi
    · cases hi
    · rename_i hn
      refine ⟨hi, fun b hb e => hn ?_⟩
      rw [List.any_eq_true]
      exact ⟨b, hb, by simpa using e⟩
  refine ⟨⟨h0.nd, fun b hb => ?_, fun i o hi => h.fr i o (hm i o hi).1, fun i o hi b hb => ?_, h.rs⟩, ⟨fun i o hi => ?_, hle.re⟩⟩
  · rcases List.mem_append.1 hb with hb | hb
    · exact h.fr _ _ (hin b hb)
    · exact h.at' b hb
  · rcases List.mem_append.1 hb with hb | hb
    · exact (hm i o hi).2 b hb
    · exact h.ne i o (hm i o hi).1 b hb
  · have hG : G i = some o := hle.le _ _ ((plus_le F Bs).le _ _ hi)
    show (if (Bs.any (·.id == i)) then none else G i) = some o
    rw [if_neg]
    · exact hG
    · intro ha
      rw [List.any_eq_true] at ha
      obtain ⟨b, hb, e⟩ := ha
      exact hB.ne i o hi b hb (by simpa using e)
/-! ### What the slots hold -/
def find : Env → Nat → Option Value
  | [], _ => none
  | (k, v) :: r, i => bif Nat.beq k i then some v else find r i
structure Has (n : Nat) (env : Env) (a : Act) : Prop where
  size : a.tmps.size = n
  defers : a.defers = []
  get : ∀ i v, find env i = some v → a.tmps[i]? = some v
def ev (env : Env) : Operand → Option Value
  | .tmp t => find env t
  | .const v => some v
  | .global _ => none
  | .func f => some (.func (.func f) #[] #[])
theorem Has.eval {n : Nat} {env : Env} {a : Act} (h : Has n env a) {x : Operand} {v : Value} (hx : ev env x = some v) : a.eval x = v := by
  cases x with
  | tmp t => have := h.get t v hx; simp [Act.eval, this]
  | const c => simpa [ev, Act.eval] using hx
  | global g => simp [ev] at hx
  | func f => simpa [ev, Act.eval] using hx
theorem Has.put {n : Nat} {env : Env} {a : Act} (h : Has n env a) {d : Nat} (hd : Nat.blt d n = true) (v : Value) : Has n ((d, v) :: env) (a.put (some d) v) := by
  have hd' : d < n := by simp [Nat.blt] at hd; omega
  refine ⟨by simp [Act.put, h.size], by simp [Act.put, h.defers], fun i u hi => ?_⟩
  simp only [find] at hi
  by_cases e : d = i
  · subst e
    simp at hi
    simp [Act.put, h.size, hd', hi]
  · have : Nat.beq d i = false := Bool.eq_false_iff.2 fun h => e (Nat.eq_of_beq_eq_true h)
    rw [this] at hi
    simp only [cond_false] at hi
    simp [Act.put, Array.getElem?_setIfInBounds_ne e, h.get i u hi]
theorem Has.put_none {n : Nat} {env : Env} {a : Act} (h : Has n env a) (v : Value) : Has n env (a.put none v) := h
/-- What is known less. -/
structure Sub (e1 e2 : Env) : Prop where
  sub : ∀ i v, find e1 i = some v → find e2 i = some v
theorem Sub.nil {e : Env} : Sub [] e := ⟨fun _ _ h => by simp [find] at h⟩
theorem Sub.cons {e1 e2 : Env} {i : Nat} {v v' : Value} (h : find e2 i = some v') (e : v' = v) (hs : Sub e1 e2) : Sub ((i, v) :: e1) e2 := ⟨fun j u hj => by
  simp only [find] at hj
  by_cases ij : i = j
  · subst ij
    simp at hj
    rw [h, e, hj]
  · have : Nat.beq i j = false := Bool.eq_false_iff.2 fun h => ij (Nat.eq_of_beq_eq_true h)
    rw [this] at hj
    exact hs.sub j u hj⟩
theorem Has.sub {n : Nat} {e1 e2 : Env} {a : Act} (h : Has n e2 a) (hs : Sub e1 e2) : Has n e1 a := ⟨h.size, h.defers, fun i v hi => h.get i v (hs.sub i v hi)⟩
end Go.Proofs.Ytbmpdccoffkjgaa.Ow
namespace Go.Proofs.Ytbmpdccoffkjgaa.Ow
open Go
abbrev Post := Exit → Act → World → Prop
section
variable (P : Program)
/-- An operation yields a value, from what is known, and changes nothing that is known. -/
structure OpV (o : Oper) (env : Env) (L : List Itm) (F : Mem) (v : Value) : Prop where
  run : ∀ n a w R (K : Act → World → Prop) (Q : Post), Has n env a → Own w (L.flatten ++ R) F → (∀ w', Own w' (L.flatten ++ R) F → K (a.put o.dst v) w') → o.wp P a w K Q
/-- An operation yields a value and memory of which post holds. -/
structure Op1 (o : Oper) (env : Env) (L : List Itm) (F : Mem) (post : Value → List Itm → Mem → Prop) : Prop where
  run : ∀ n a w R (K : Act → World → Prop) (Q : Post), Has n env a → Own w (L.flatten ++ R) F →
    (∀ v L' F' w', Le F F' → post v L' F' → Own w' (L'.flatten ++ R) F' → K (a.put o.dst v) w') → o.wp P a w K Q
/-- The rest of a region's operations, one behind the other. -/
structure RL (ops : Array Oper) (Q : Post) (l : List Oper) (n : Nat) (env : Env) (L : List Itm) (F : Mem) : Prop where
  run : ∀ a w, Has n env a → Own w L.flatten F → wpList P ops Q l a w
structure WC (c : Code) (Q : Post) (n : Nat) (env : Env) (L : List Itm) (F : Mem) : Prop where
  run : ∀ a w, Has n env a → Own w L.flatten F → c.wp P Q a w
/-- What stands behind an exit. -/
structure Fin (Q : Post) (e : Exit) (n : Nat) (env : Env) (L : List Itm) (F : Mem) : Prop where
  run : ∀ a w, Has n env a → Own w L.flatten F → Q e a w
/-- A call's contract. -/
structure Fn (f : FuncId) (args : Array Value) (L : List Itm) (F : Mem) (post : Value → List Itm → Mem → Prop) : Prop where
  run : ∀ w R, Own w (L.flatten ++ R) F → Calls P f args w fun e w' => ∃ v L' F', e = .returned v ∧ Le F F' ∧ post v L' F' ∧ Own w' (L'.flatten ++ R) F'
end
variable {P : Program}
theorem OpV.op1 {o : Oper} {env : Env} {L : List Itm} {F : Mem} {v : Value} (h : OpV P o env L F v) : Op1 P o env L F fun v' L' F' => v' = v ∧ L' = L ∧ F' = F :=
  ⟨fun n a w R K Q hh ho hk => h.run n a w R K Q hh ho fun w' ho' => hk v L F w' Le.rfl ⟨rfl, rfl, rfl⟩ ho'⟩
/-! ### Lists of operations -/
section
variable {ops : Array Oper} {Q : Post} {rest : List Oper} {n : Nat} {env : Env} {L : List Itm} {F : Mem}
theorem RL.nil (h : Fin Q .normal n env L F) : RL P ops Q [] n env L F := ⟨fun a w hh ho => h.run a w hh ho⟩
theorem wpList_do {o : Oper} {a : Act} {w : World} (hg : Region.wanted o (yielded ops a.tmps) = true) (h : o.wp P a w (wpList P ops Q rest) Q) : wpList P ops Q (o :: rest) a w := by
  unfold wpList
  rw [if_pos hg]
  exact .inl h
theorem wanted_none {op : Op} {d : Option Tmp} {ty : TypeId} {pos : String} {af : Array Edge} (y : Nat → Option Bool) : Region.wanted ⟨d, op, ty, pos, af, none⟩ y = true := rfl
theorem RL.w {op : Op} {d : Nat} {ty : TypeId} {pos : String} {af : Array Edge} {post : Value → List Itm → Mem → Prop}
    (h : Op1 P ⟨some d, op, ty, pos, af, none⟩ env L F post) (hd : Nat.blt d n = true) (k : ∀ v L' F', Le F F' → post v L' F' → RL P ops Q rest n ((d, v) :: env) L' F') :
    RL P ops Q (⟨some d, op, ty, pos, af, none⟩ :: rest) n env L F :=
  ⟨fun a w hh ho => wpList_do (wanted_none _) (h.run n a w [] _ Q hh (by rw [List.append_nil]; exact ho) fun v L' F' w' hle hp ho' => (k v L' F' hle hp).run _ _ (hh.put hd v) (by rw [List.append_nil] at ho'; exact ho'))⟩
theorem RL.w0 {op : Op} {ty : TypeId} {pos : String} {af : Array Edge} {post : Value → List Itm → Mem → Prop}
    (h : Op1 P ⟨none, op, ty, pos, af, none⟩ env L F post) (k : ∀ v L' F', Le F F' → post v L' F' → RL P ops Q rest n env L' F') :
    RL P ops Q (⟨none, op, ty, pos, af, none⟩ :: rest) n env L F :=
  ⟨fun a w hh ho => wpList_do (wanted_none _) (h.run n a w [] _ Q hh (by rw [List.append_nil]; exact ho) fun v L' F' w' hle hp ho' => (k v L' F' hle hp).run _ _ (hh.put_none v) (by rw [List.append_nil] at ho'; exact ho'))⟩
/-- An operation that changes nothing. -/
theorem RL.v {op : Op} {d : Nat} {ty : TypeId} {pos : String} {af : Array Edge} {v : Value}
    (h : OpV P ⟨some d, op, ty, pos, af, none⟩ env L F v) (hd : Nat.blt d n = true) (k : RL P ops Q rest n ((d, v) :: env) L F) :
    RL P ops Q (⟨some d, op, ty, pos, af, none⟩ :: rest) n env L F :=
  RL.w h.op1 hd (by rintro _ _ _ _ ⟨rfl, rfl, rfl⟩; exact k)
/-- A test: each answer by itself. -/
theorem RL.vs {op : Op} {d : Nat} {ty : TypeId} {pos : String} {af : Array Edge} {p : Prop} [Decidable p]
    (h : OpV P ⟨some d, op, ty, pos, af, none⟩ env L F (.bool (decide p))) (hd : Nat.blt d n = true) (kt : p → RL P ops Q rest n ((d, .bool true) :: env) L F)
    (kf : ¬ p → RL P ops Q rest n ((d, .bool false) :: env) L F) : RL P ops Q (⟨some d, op, ty, pos, af, none⟩ :: rest) n env L F := by
  refine RL.v h hd ?_
  by_cases hp : p
  · rw [decide_eq_true hp]; exact kt hp
  · rw [decide_eq_false hp]; exact kf hp
theorem RL.vb {op : Op} {d : Nat} {ty : TypeId} {pos : String} {af : Array Edge} {b : Bool}
    (h : OpV P ⟨some d, op, ty, pos, af, none⟩ env L F (.bool b)) (hd : Nat.blt d n = true) (kt : b = true → RL P ops Q rest n ((d, .bool true) :: env) L F)
    (kf : b = false → RL P ops Q rest n ((d, .bool false) :: env) L F) : RL P ops Q (⟨some d, op, ty, pos, af, none⟩ :: rest) n env L F := by
  refine RL.v h hd ?_
  cases b
  · exact kf rfl
  · exact kt rfl
theorem yielded_of {j : Nat} {o : Oper} {t : Nat} {b : Bool} {a : Act} (hj : ops[j]? = some o) (ht : o.dst = some t) (hh : Has n env a) (hb : find env t = some (.bool b)) : yielded ops a.tmps j = some b := by
  have := hh.get t _ hb
  simp [yielded, hj, ht, this]
/-- A guarded operation that is done. -/
theorem RL.g {op : Op} {dst : Option Tmp} {ty : TypeId} {pos : String} {af : Array Edge} {j : Nat} {b : Bool} {o : Oper} {t : Nat} (hj : ops[j]? = some o) (ht : o.dst = some t)
    (hb : find env t = some (.bool b)) (k : RL P ops Q (⟨dst, op, ty, pos, af, none⟩ :: rest) n env L F) : RL P ops Q (⟨dst, op, ty, pos, af, some (j, b)⟩ :: rest) n env L F :=
  ⟨fun a w hh ho => by
    have h1 := k.run a w hh ho
    have hw : Region.wanted ⟨dst, op, ty, pos, af, some (j, b)⟩ (yielded ops a.tmps) = true := by simp [Region.wanted, yielded_of hj ht hh hb]
    unfold wpList at h1 ⊢
    rw [if_pos (wanted_none _)] at h1
    rw [if_pos hw]
    exact h1⟩
/-- A guarded operation that is passed by. -/
theorem RL.gs {op : Op} {d : Nat} {ty : TypeId} {pos : String} {af : Array Edge} {j : Nat} {b : Bool} {o : Oper} {t : Nat} (hj : ops[j]? = some o) (ht : o.dst = some t)
    (hb : find env t = some (.bool !b)) (hd : Nat.blt d n = true) (k : RL P ops Q rest n ((d, undef) :: env) L F) : RL P ops Q (⟨some d, op, ty, pos, af, some (j, b)⟩ :: rest) n env L F :=
  ⟨fun a w hh ho => by
    have hw : Region.wanted ⟨some d, op, ty, pos, af, some (j, b)⟩ (yielded ops a.tmps) = false := by
      simp [Region.wanted, yielded_of hj ht hh hb]
    unfold wpList
    rw [if_neg (by rw [hw]; exact Bool.false_ne_true)]
    exact k.run _ _ (hh.put hd undef) ho⟩
theorem RL.weak {e' : Env} (hs : Sub e' env) (k : RL P ops Q rest n e' L F) : RL P ops Q rest n env L F := ⟨fun a w hh ho => k.run a w (hh.sub hs) ho⟩
theorem RL.items {L' : List Itm} (hs : ∀ w, Own w L.flatten F → Own w L'.flatten F) (k : RL P ops Q rest n env L' F) : RL P ops Q rest n env L F := ⟨fun a w hh ho => k.run a w hh (hs w ho)⟩
/-! ### Code -/
theorem WC.seq {x y : Code} (h : WC P x (Exit.then (y.wp P Q) Q) n env L F) : WC P (.seq x y) Q n env L F := ⟨fun a w hh ho => wp_seq (h.run a w hh ho)⟩
theorem WC.region {id : Nat} {l : List Oper} (h : RL P l.toArray Q l n env L F) : WC P (.region id l.toArray false) Q n env L F := ⟨fun a w hh ho => wp_region_lit (h.run a w hh ho)⟩
theorem WC.skip (h : Fin Q .normal n env L F) : WC P .skip Q n env L F := ⟨fun a w hh ho => wp_skip (h.run a w hh ho)⟩
theorem WC.exit {id : Nat} (h : Fin Q (.exit id) n env L F) : WC P (.exit id) Q n env L F := ⟨fun a w hh ho => wp_exit (h.run a w hh ho)⟩
theorem WC.ret (h : Fin Q .ret n env L F) : WC P .ret Q n env L F := ⟨fun a w hh ho => wp_ret (h.run a w hh ho)⟩
theorem WC.block {id : Nat} {c : Code} (h : WC P c (Exit.inBlock id Q) n env L F) : WC P (.block id c) Q n env L F := ⟨fun a w hh ho => wp_block (h.run a w hh ho)⟩
theorem WC.scope {c : Code} (h : ∀ a w, Has n env a → Own w L.flatten F → (Code.scope c).wp P Q a w) : WC P (.scope c) Q n env L F := ⟨h⟩
theorem WC.condT {c : Operand} {x y : Code} (hc : ev env c = some (.bool true)) (h : WC P x Q n env L F) : WC P (.cond c x y) Q n env L F :=
  ⟨fun a w hh ho => wp_cond_true (hh.eval hc) (h.run a w hh ho)⟩
theorem WC.condF {c : Operand} {x y : Code} (hc : ev env c = some (.bool false)) (h : WC P y Q n env L F) : WC P (.cond c x y) Q n env L F :=
  ⟨fun a w hh ho => wp_cond_false (hh.eval hc) (h.run a w hh ho)⟩
theorem WC.weak {c : Code} {e' : Env} (hs : Sub e' env) (k : WC P c Q n e' L F) : WC P c Q n env L F := ⟨fun a w hh ho => k.run a w (hh.sub hs) ho⟩
theorem WC.items {c : Code} {L' : List Itm} (hs : ∀ w, Own w L.flatten F → Own w L'.flatten F) (k : WC P c Q n env L' F) : WC P c Q n env L F := ⟨fun a w hh ho => k.run a w hh (hs w ho)⟩
theorem Fin.items {e : Exit} {L' : List Itm} (hs : ∀ w, Own w L.flatten F → Own w L'.flatten F) (k : Fin Q e n env L' F) : Fin Q e n env L F := ⟨fun a w hh ho => k.run a w hh (hs w ho)⟩
theorem Fin.weak {e : Exit} {e' : Env} (hs : Sub e' env) (k : Fin Q e n e' L F) : Fin Q e n env L F := ⟨fun a w hh ho => k.run a w (hh.sub hs) ho⟩
theorem Fin.then {c : Code} (h : WC P c Q n env L F) : Fin (Exit.then (c.wp P Q) Q) .normal n env L F := ⟨fun a w hh ho => h.run a w hh ho⟩
theorem Fin.then_ret {K : Act → World → Prop} (h : Fin Q .ret n env L F) : Fin (Exit.then K Q) .ret n env L F := ⟨fun a w hh ho => h.run a w hh ho⟩
theorem Fin.then_exit {K : Act → World → Prop} {id : Nat} (h : Fin Q (.exit id) n env L F) : Fin (Exit.then K Q) (.exit id) n env L F := ⟨fun a w hh ho => h.run a w hh ho⟩
theorem Fin.blk {id : Nat} (h : Fin Q .normal n env L F) : Fin (Exit.inBlock id Q) .normal n env L F := ⟨fun a w hh ho => h.run a w hh ho⟩
theorem Fin.blk_ret {id : Nat} (h : Fin Q .ret n env L F) : Fin (Exit.inBlock id Q) .ret n env L F := ⟨fun a w hh ho => h.run a w hh ho⟩
theorem Fin.blk_exit {id : Nat} (h : Fin Q .normal n env L F) : Fin (Exit.inBlock id Q) (.exit id) n env L F := ⟨fun a w hh ho => by
  show (if id = id then Q .normal a w else _)
  rw [if_pos rfl]
  exact h.run a w hh ho⟩
theorem Fin.blk_other {id i' : Nat} (hne : (i' == id) = false) (h : Fin Q (.exit i') n env L F) : Fin (Exit.inBlock id Q) (.exit i') n env L F := ⟨fun a w hh ho => by
  show (if i' = id then _ else Q (.exit i') a w)
  rw [if_neg (by simpa using hne)]
  exact h.run a w hh ho⟩
end
/-! ### Loops -/
theorem wp_loop_ghost {c : Code} {Q : Post} {a : Act} {w : World} (I : Nat → Act → World → Prop) (m0 : Nat) (h₀ : I m0 a w)
    (round : ∀ m a w, I m a w → c.wp P (Exit.then (fun a' w' => ∃ m', m' < m ∧ I m' a' w') Q) a w) : (Code.loop c).wp P Q a w := by
  intro b k cs
  have key : ∀ m a w, I m a w → ∃ e a' w', Q e a' w' ∧ Arrives P (lone (b.at a (.code c :: .inLoop c :: k)) cs w) b k cs e a' w' := by
    intro m
    induction m using Nat.strongRecOn with
    | _ m ih =>
      intro a w hI
      obtain ⟨e, a₁, w₁, hq, harr⟩ := round m a w hI b (.inLoop c :: k) cs
      cases e with
      | normal =>
        obtain ⟨m', hlt, hI₁⟩ := hq
        obtain ⟨e₂, a₂, w₂, hq₂, harr₂⟩ := ih m' hlt a₁ w₁ hI₁
        exact ⟨e₂, a₂, w₂, hq₂, .of_steps (Steps.trans harr (.one step_inLoop)) harr₂⟩
      | exit id => exact ⟨_, a₁, w₁, hq, .pass (x := .inLoop c) rfl (fun _ _ => .inl (by simp)) harr⟩
      | goto l => exact ⟨_, a₁, w₁, hq, .pass (x := .inLoop c) rfl (fun _ _ => .inl (by simp)) harr⟩
      | ret => exact ⟨_, a₁, w₁, hq, .pass (x := .inLoop c) rfl (fun _ _ => .inl (by simp)) harr⟩
      | panic ch => exact ⟨_, a₁, w₁, hq, .pass (x := .inLoop c) rfl (fun _ _ => .inl (by simp)) harr⟩
      | outgrown => exact ⟨_, a₁, w₁, hq, .pass (x := .inLoop c) rfl (fun _ _ => .inl (by simp)) harr⟩
  obtain ⟨e, a', w', hq, harr⟩ := key m0 a w h₀
  exact ⟨e, a', w', hq, .of_steps (.one step_loop) harr⟩
/-- What a round may lead to: a state of the family, with a lower measure. -/
def Again {ι : Type} (n : Nat) (ok : ι → Prop) (μ : ι → Nat) (E : ι → Env) (M : ι → List Itm) (G : ι → Mem) (m : Nat) : Act → World → Prop :=
  fun a w => ∃ j, ok j ∧ μ j < m ∧ Has n (E j) a ∧ Own w (M j).flatten (G j)
section
variable {Q : Post} {n : Nat} {env : Env} {L : List Itm} {F : Mem} {ι : Type} {ok : ι → Prop} {μ : ι → Nat} {E : ι → Env} {M : ι → List Itm} {G : ι → Mem}
theorem WC.loop {c : Code} (ok : ι → Prop) (μ : ι → Nat) (E : ι → Env) (M : ι → List Itm) (G : ι → Mem) (i0 : ι) (h0 : ok i0) (he : Sub (E i0) env) (hm : ∀ w, Own w L.flatten F → Own w (M i0).flatten (G i0))
    (round : ∀ i, ok i → WC P c (Exit.then (Again n ok μ E M G (μ i)) Q) n (E i) (M i) (G i)) : WC P (.loop c) Q n env L F :=
  ⟨fun a w hh ho => wp_loop_ghost (fun m a w => ∃ j, ok j ∧ μ j = m ∧ Has n (E j) a ∧ Own w (M j).flatten (G j)) (μ i0) ⟨i0, h0, rfl, hh.sub he, hm w ho⟩ fun m a w ⟨j, hj, hμ, ha, hw⟩ =>
    wp_mono ((round j hj).run a w ha hw) fun e a w q => by
      cases e with
      | normal =>
        obtain ⟨i, h1, h2, h3, h4⟩ := q
        exact ⟨μ i, hμ ▸ h2, i, h1, rfl, h3, h4⟩
      | _ => exact q⟩
theorem Fin.again (j : ι) (hj : ok j) {m : Nat} (hlt : μ j < m) (he : Sub (E j) env) (hm : ∀ w, Own w L.flatten F → Own w (M j).flatten (G j)) : Fin (Exit.then (Again n ok μ E M G m) Q) .normal n env L F :=
  ⟨fun _ w hh ho => ⟨j, hj, hlt, hh.sub he, hm w ho⟩⟩
end
/-! ### Functions: contracts, calls, results -/
def retPost (F : Mem) (R : Itm) (post : Value → List Itm → Mem → Prop) : Ending → World → Prop :=
  fun e w' => ∃ v L' F', e = .returned v ∧ Le F F' ∧ post v L' F' ∧ Own w' (L'.flatten ++ R) F'
theorem Fn.intro {f : FuncId} {fn : Func} {c : Code} {args : List Value} {L : List Itm} {F : Mem} {post : Value → List Itm → Mem → Prop} {n : Nat} (env : Env)
    (hf : P.funcs[f]? = some fn) (hb : fn.body = some c) (hn : fn.ntmps = n) (hl : Nat.ble args.length n = true) (he : ∀ i v, find env i = some v → args[i]? = some v)
    (h : ∀ R : Itm, WC P c (bodyPost P fn (retPost F R post)) n env (L ++ [R]) F) : Fn P f args.toArray L F post :=
  ⟨fun w R ho => calls_of_wp hf hb ((h R).run _ _ ⟨by have := Nat.le_of_ble_eq_true hl; simp [hn]; omega, rfl, fun i v hi => by
    have h1 := he i v hi
    have h2 := (List.getElem?_eq_some_iff.1 h1).1
    rw [Array.getElem?_append_left (by simpa using h2)]
    simpa using h1⟩ (by simpa using ho))⟩
def argEnv (k : Nat) : List Value → Env
  | [] => []
  | v :: r => (k, v) :: argEnv (k + 1) r
theorem find_argEnv : ∀ (l : List Value) (k i : Nat) (v : Value), find (argEnv k l) i = some v → k ≤ i ∧ l[i - k]? = some v
  | [], k, i, v, h => by simp [argEnv, find] at h
  | u :: r, k, i, v, h => by
    simp only [argEnv, find] at h
    by_cases e : k = i
    · subst e
      simp at h
      simp [h]
    · have : Nat.beq k i = false := Bool.eq_false_iff.2 fun h => e (Nat.eq_of_beq_eq_true h)
      rw [this] at h
      obtain ⟨h1, h2⟩ := find_argEnv r (k + 1) i v h
      refine ⟨by omega, ?_⟩
      rw [show i - k = (i - (k + 1)) + 1 by omega]
      simpa using h2
theorem Fn.start {f : FuncId} {fn : Func} {c : Code} {args : List Value} {L : List Itm} {F : Mem} {post : Value → List Itm → Mem → Prop} {n : Nat}
    (hf : P.funcs[f]? = some fn) (hb : fn.body = some c) (hn : fn.ntmps = n) (hl : Nat.ble args.length n = true)
    (h : ∀ R : Itm, WC P c (bodyPost P fn (retPost F R post)) n (argEnv 0 args) (L ++ [R]) F) : Fn P f args.toArray L F post :=
  Fn.intro _ hf hb hn hl (fun i v hi => by simpa using (find_argEnv _ _ _ _ hi).2) h
theorem Fn.mono {f : FuncId} {args : Array Value} {L : List Itm} {F : Mem} {post post' : Value → List Itm → Mem → Prop} (h : Fn P f args L F post) (hp : ∀ v L' F', Le F F' → post v L' F' → post' v L' F') : Fn P f args L F post' :=
  ⟨fun w R ho => (h.run w R ho).mono fun _ _ ⟨v, L', F', he, hle, hq, ho'⟩ => ⟨v, L', F', he, hle, hp v L' F' hle hq, ho'⟩⟩
/-- A result: what the result variables hold. -/
structure Res (P : Program) (fn : Func) (n : Nat) (env : Env) (L : List Itm) (F : Mem) (v : Value) : Prop where
  run : ∀ a w, Has n env a → Own w L.flatten F → (results fn a.tmps).run P w = .ok v w
theorem fin_done {fn : Func} {n : Nat} {env : Env} {L : List Itm} {F F0 : Mem} {R : Itm} {post : Value → List Itm → Mem → Prop} {v : Value} {L' : List Itm}
    (hr : Res P fn n env L F v) (hle : Le F0 F) (hp : post v L' F) (hm : ∀ w, Own w L.flatten F → Own w (L'.flatten ++ R) F) :
    ∀ a w, Has n env a → Own w L.flatten F → a.defers = [] ∧ ∃ v, (results fn a.tmps).run P w = .ok v w ∧ retPost F0 R post (.returned v) w :=
  fun a w hh ho => ⟨hh.defers, v, hr.run a w hh ho, v, L', F, rfl, hle, hp, hm w ho⟩
theorem Fin.done {fn : Func} {n : Nat} {env : Env} {L : List Itm} {F F0 : Mem} {R : Itm} {post : Value → List Itm → Mem → Prop} (v : Value) (L' : List Itm)
    (hr : Res P fn n env L F v) (hle : Le F0 F) (hp : post v L' F) (hm : ∀ w, Own w L.flatten F → Own w (L'.flatten ++ R) F) : Fin (bodyPost P fn (retPost F0 R post)) .ret n env L F :=
  ⟨fin_done hr hle hp hm⟩
theorem Fin.end {fn : Func} {n : Nat} {env : Env} {L : List Itm} {F F0 : Mem} {R : Itm} {post : Value → List Itm → Mem → Prop} (v : Value) (L' : List Itm)
    (hr : Res P fn n env L F v) (hle : Le F0 F) (hp : post v L' F) (hm : ∀ w, Own w L.flatten F → Own w (L'.flatten ++ R) F) : Fin (bodyPost P fn (retPost F0 R post)) .normal n env L F :=
  ⟨fin_done hr hle hp hm⟩
/-! ### Items -/
/-- An item lies among others. -/
inductive Inn (x : Itm) : List Itm → Prop
  | here {T : List Itm} : Inn x (x :: T)
  | there {y : Itm} {T : List Itm} : Inn x T → Inn x (y :: T)
  | part {y : Itm} {T : List Itm} : x.Sublist y → Inn x (y :: T)
theorem Inn.mem {x : Itm} {L : List Itm} (h : Inn x L) : ∀ b ∈ x, b ∈ L.flatten := by
  induction h with
  | here => exact fun b hb => by simp [hb]
  | there _ ih => exact fun b hb => by rw [List.flatten_cons]; exact List.mem_append_right _ (ih b hb)
  | part h => exact fun b hb => by rw [List.flatten_cons]; exact List.mem_append_left _ (h.subset hb)
theorem Inn.one {b : Blk} {L : List Itm} (h : Inn [b] L) (R : List Blk) : b ∈ L.flatten ++ R := List.mem_append_left _ (h.mem b (by simp))
/-- One item is another one now. -/
inductive Upd (x x' : Itm) : List Itm → List Itm → Prop
  | here {T : List Itm} : Upd x x' (x :: T) (x' :: T)
  | there {y : Itm} {T T' : List Itm} : Upd x x' T T' → Upd x x' (y :: T) (y :: T')
  | part {y y' : Itm} {T : List Itm} (S : List Blk) : y.Perm (x ++ S) → y'.Perm (x' ++ S) → Upd x x' (y :: T) (y' :: T)
theorem Upd.perm {x x' : Itm} {L L' : List Itm} (h : Upd x x' L L') : ∃ T : List Blk, L.flatten.Perm (x ++ T) ∧ L'.flatten.Perm (x' ++ T) := by
  induction h with
  | @here T => exact ⟨T.flatten, by simp, by simp⟩
  | @part y y' T S h1 h2 => exact ⟨S ++ T.flatten, by rw [List.flatten_cons, ← List.append_assoc]; exact h1.append_right _, by rw [List.flatten_cons, ← List.append_assoc]; exact h2.append_right _⟩
  | @there y T T' _ ih =>
    obtain ⟨S, h1, h2⟩ := ih
    refine ⟨y ++ S, ?_, ?_⟩
    · rw [List.flatten_cons]
      exact (h1.append_left y).trans (by rw [← List.append_assoc, ← List.append_assoc]; exact List.perm_append_comm.append_right S)
    · rw [List.flatten_cons]
      exact (h2.append_left y).trans (by rw [← List.append_assoc, ← List.append_assoc]; exact List.perm_append_comm.append_right S)
theorem Upd.own {w w' : World} {x x' : Itm} {L L' : List Itm} {R : List Blk} {F F' : Mem} (h : Upd x x' L L') (ho : Own w (L.flatten ++ R) F)
    (hx : ∀ T, Own w (x ++ T) F → Own w' (x' ++ T) F') : Own w' (L'.flatten ++ R) F' := by
  obtain ⟨T, h1, h2⟩ := h.perm
  have := hx (T ++ R) (by rw [← List.append_assoc]; exact ho.perm (h1.append_right R))
  rw [← List.append_assoc] at this
  exact this.perm (h2.append_right R).symm
end Go.Proofs.Ytbmpdccoffkjgaa.Ow
