/- A calculus over the model: memory as blocks that are owned, beside memory that never changes any more; operations one by one. -/
import Derived.Orders
import Derived.Tactics
import Derived.Laws.Cells
import Derived.KernelRfl
namespace Go.Proofs.Ytbmpdccoffkjgaa.Ow
open Go
/-- What lies in memory and never changes any more. -/
abbrev Rest := (Nat → Question → Nat) × Os × Array (Nat × ByteArray)
/-- What is left of a world beside its memory. -/
def rest (w : World) : Rest := (w.tape, w.os, w.output)
structure Mem where
  at' : Nat → Option Obj
  rest : Rest
instance : CoeFun Mem (fun _ => Nat → Option Obj) := ⟨Mem.at'⟩
def Mem.of (w : World) : Mem := ⟨fun i => w.heap[i]?, Ow.rest w⟩
structure Blk where
  id : Nat
  ty : TypeId
  cs : List Value
def Blk.obj (b : Blk) : Obj := .cells b.cs.toArray b.ty (0, 0)
abbrev Itm := List Blk
abbrev Env := List (Nat × Value)
structure Le (F G : Mem) : Prop where
  le : ∀ b o, F b = some o → G b = some o
  re : F.rest = G.rest
theorem Le.rfl {F : Mem} : Le F F := ⟨fun _ _ h => h, Eq.refl _⟩
theorem Le.trans {F G H : Mem} (a : Le F G) (b : Le G H) : Le F H := ⟨fun _ _ h => b.le _ _ (a.le _ _ h), a.re.trans b.re⟩
/-- The blocks Bs lie in the world, each once, and beside them all that F knows. -/
structure Own (w : World) (Bs : List Blk) (F : Mem) : Prop where
  nd : (Bs.map Blk.id).Nodup
  at' : ∀ b ∈ Bs, w.heap[b.id]? = some b.obj
  fr : ∀ i o, F i = some o → w.heap[i]? = some o
  ne : ∀ i o, F i = some o → ∀ b ∈ Bs, b.id ≠ i
  rs : rest w = F.rest
section
variable {w : World} {Bs Cs : List Blk} {F : Mem}
theorem Own.lt (h : Own w Bs F) {b : Blk} (hb : b ∈ Bs) : b.id < w.heap.size := (Array.getElem?_eq_some_iff.1 (h.at' b hb)).1
theorem Own.flt (h : Own w Bs F) {i : Nat} {o : Obj} (hb : F i = some o) : i < w.heap.size := (Array.getElem?_eq_some_iff.1 (h.fr i o hb)).1
theorem Own.sub (h : Own w Bs F) (hs : Cs.Sublist Bs) : Own w Cs F :=
  ⟨h.nd.sublist (hs.map _), fun b hb => h.at' b (hs.subset hb), h.fr, fun i o hi b hb => h.ne i o hi b (hs.subset hb), h.rs⟩
theorem Own.perm (h : Own w Bs F) (hs : Bs.Perm Cs) : Own w Cs F :=
  ⟨(hs.map _).nodup_iff.1 h.nd, fun b hb => h.at' b (hs.symm.subset hb), h.fr, fun i o hi b hb => h.ne i o hi b (hs.symm.subset hb), h.rs⟩
theorem Own.world {w' : World} (h : Own w Bs F) (he : ∀ i : Nat, i < w.heap.size → w'.heap[i]? = w.heap[i]?) (hr : rest w' = rest w) : Own w' Bs F :=
  ⟨h.nd, fun b hb => by rw [he _ (h.lt hb)]; exact h.at' b hb, fun i o hi => by rw [he _ (h.flt hi)]; exact h.fr i o hi, h.ne, hr.trans h.rs⟩
theorem Own.le {G : Mem} (h : Own w Bs G) (hle : Le F G) : Own w Bs F := ⟨h.nd, h.at', fun i o hi => h.fr i o (hle.le _ _ hi), fun i o hi => h.ne i o (hle.le _ _ hi), h.rs.trans hle.re.symm⟩
theorem Own.drew (h : Own w Bs F) : Own w.drew Bs F := h.world (fun _ _ => rfl) rfl
theorem Own.alloc (h : Own w Bs F) (t : TypeId) (cs : List Value) : Own (w.alloc (.cells cs.toArray t (0, 0))) (⟨w.heap.size, t, cs⟩ :: Bs) F := by
  have he : ∀ i : Nat, i < w.heap.size → (w.alloc (.cells cs.toArray t (0, 0))).heap[i]? = w.heap[i]? := fun i hi => by
    show (w.heap.push _)[i]? = _
    rw [Array.getElem?_push, if_neg (Nat.ne_of_lt hi)]
  refine ⟨?_, ?_, (h.world he rfl).fr, ?_, h.rs⟩
  · rw [List.map_cons, List.nodup_cons]
    refine ⟨fun hm => ?_, h.nd⟩
    obtain ⟨b, hb, e⟩ := List.mem_map.1 hm
    have := h.lt hb
    exact Nat.lt_irrefl _ (e ▸ this)
  · intro b hb
    rcases List.mem_cons.1 hb with rfl | hb
    · show (w.heap.push _)[w.heap.size]? = _
      rw [Array.getElem?_push, if_pos rfl]
      rfl
    · exact (h.world he rfl).at' b hb
  · intro i o hi b hb
    rcases List.mem_cons.1 hb with rfl | hb
    · exact fun e => Nat.lt_irrefl _ (e ▸ h.flt hi)
    · exact h.ne i o hi b hb
/-- A new block, other than all that there was. -/
theorem Own.alloc_new (h : Own w Bs F) : ∀ i o, F i = some o → i ≠ w.heap.size := fun _ _ hi => Nat.ne_of_lt (h.flt hi)
theorem heap_setCell_same {b t : Nat} {cs : List Value} (hw : w.heap[b]? = some (.cells cs.toArray t (0, 0))) (off : Nat) (v : Value) :
    (w.setCell ⟨b, off, none⟩ v).heap[b]? = some (.cells (cs.set off v).toArray t (0, 0)) := by
  simp only [World.setCell, Array.getElem?_modify, if_true, hw, Option.map_some]
  simp
theorem heap_setCell_other {b i : Nat} (hne : b ≠ i) (off : Nat) (v : Value) : (w.setCell ⟨b, off, none⟩ v).heap[i]? = w.heap[i]? := by
  simp only [World.setCell, Array.getElem?_modify]
  simp [hne]
theorem Own.set {b t : Nat} {cs : List Value} (h : Own w (⟨b, t, cs⟩ :: Bs) F) (off : Nat) (v : Value) : Own (w.setCell ⟨b, off, none⟩ v) (⟨b, t, cs.set off v⟩ :: Bs) F := by
  have hnd := h.nd
  rw [List.map_cons, List.nodup_cons] at hnd
  refine ⟨by rw [List.map_cons, List.nodup_cons]; exact hnd, ?_, ?_, ?_, h.rs⟩
  · intro x hx
    rcases List.mem_cons.1 hx with rfl | hx
    · exact heap_setCell_same (h.at' _ (List.mem_cons_self ..)) off v
    · rw [heap_setCell_other (fun e => hnd.1 (List.mem_map.2 ⟨x, hx, e.symm⟩))]
      exact h.at' x (List.mem_cons_of_mem _ hx)
  · intro i o hi
    rw [heap_setCell_other (fun e => h.ne i o hi _ (List.mem_cons_self ..) e)]
    exact h.fr i o hi
  · intro i o hi x hx
    rcases List.mem_cons.1 hx with rfl | hx
    · exact h.ne i o hi ⟨b, t, cs⟩ (List.mem_cons_self ..)
    · exact h.ne i o hi x (List.mem_cons_of_mem _ hx)
theorem Own.cell {b t : Nat} {cs : List Value} (h : Own w Bs F) (hm : (⟨b, t, cs⟩ : Blk) ∈ Bs) (off : Nat) : w.cell? ⟨b, off, none⟩ = cs[off]? := by
  have := h.at' _ hm
  simp only [Blk.obj] at this
  simp [World.cell?, this]
theorem Own.free {b t : Nat} {cs : List Value} (h : Own w Bs F) (hm : (⟨b, t, cs⟩ : Blk) ∈ Bs) (off : Nat) : w.frozen? ⟨b, off, none⟩ = false := by
  have := h.at' _ hm
  simp only [Blk.obj] at this
  simp [World.frozen?, this]
end
/-- Blocks that are owned become memory that never changes. -/
def plus (F : Mem) (Bs : List Blk) : Mem := ⟨fun i => match F i with
  | some o => some o
  | none => (Bs.find? (·.id == i)).map Blk.obj, F.rest⟩
theorem plus_le (F : Mem) (Bs : List Blk) : Le F (plus F Bs) := ⟨fun b o h => by simp [plus, h], rfl⟩
theorem plus_mem {w : World} {F : Mem} {Bs : List Blk} (h : Own w Bs F) {b : Blk} (hb : b ∈ Bs) : plus F Bs b.id = some b.obj := by
  have hn : F b.id = none := by
    cases e : F b.id with
    | none => rfl
    | some o => exact absurd rfl (h.ne _ o e b hb)
  have hf : Bs.find? (·.id == b.id) = some b := by
    have : ∀ Bs : List Blk, (Bs.map Blk.id).Nodup → b ∈ Bs → Bs.find? (·.id == b.id) = some b := by
      intro Bs
      induction Bs with
      | nil => intro _ h; cases h
      | cons c Bs ih =>
        intro hnd hm
        rw [List.map_cons, List.nodup_cons] at hnd
        rcases List.mem_cons.1 hm with rfl | hm
        · simp
        · have : c.id ≠ b.id := fun e => hnd.1 (List.mem_map.2 ⟨b, hm, e.symm⟩)
          simp [this, ih hnd.2 hm]
    exact this Bs h.nd hb
  simp [plus, hn, hf]
theorem plus_inv {F : Mem} {Bs : List Blk} {i : Nat} {o : Obj} (h : plus F Bs i = some o) : F i = some o ∨ ∃ b ∈ Bs, b.id = i ∧ b.obj = o := by
  simp only [plus] at h
  split at h
  · rename_i o' ho
    exact .inl (by rw [ho]; exact h)
  · obtain ⟨b, hb, e⟩ := Option.map_eq_some_iff.1 h
    exact .inr ⟨b, List.mem_of_find?_eq_some hb, by simpa using List.find?_some hb, e⟩
theorem Own.freeze {w : World} {Bs Cs : List Blk} {F : Mem} (h : Own w (Bs ++ Cs) F) : Own w Cs (plus F Bs) := by
  have hB : Own w Bs F := h.sub (List.sublist_append_left _ _)
  have hC : Own w Cs F := h.sub (List.sublist_append_right _ _)
  refine ⟨hC.nd, hC.at', fun i o hi => ?_, fun i o hi b hb => ?_, h.rs⟩
  · rcases plus_inv hi with hi | ⟨b, hb, rfl, rfl⟩
    · exact h.fr i o hi
    · exact hB.at' b hb
  · rcases plus_inv hi with hi | ⟨c, hc, rfl, rfl⟩
    · exact hC.ne i o hi b hb
    · have := h.nd
      rw [List.map_append, List.nodup_append] at this
      exact fun e => this.2.2 c.id (List.mem_map.2 ⟨c, hc, rfl⟩) b.id (List.mem_map.2 ⟨b, hb, rfl⟩) e.symm
/-- Memory less some blocks. -/
def minus (F : Mem) (Bs : List Blk) : Mem := ⟨fun i => if (Bs.any (·.id == i)) then none else F i, F.rest⟩
theorem Own.thaw {w : World} {Bs Cs : List Blk} {F G : Mem} (h : Own w Cs G) (hle : Le (plus F Bs) G) {w0 : World} (h0 : Own w0 (Bs ++ Cs) F) : Own w (Bs ++ Cs) (minus G Bs) ∧ Le F (minus G Bs) := by
  have hB : Own w0 Bs F := h0.sub (List.sublist_append_left _ _)
  have hin : ∀ b ∈ Bs, G b.id = some b.obj := fun b hb => hle.le _ _ (plus_mem hB hb)
  have hm : ∀ i o, minus G Bs i = some o → G i = some o ∧ ∀ b ∈ Bs, b.id ≠ i := by
    intro i o hi
    simp only [minus] at hi
    split at hi
    · cases hi
    · rename_i hn
      refine ⟨hi, fun b hb e => hn ?_⟩
      rw [List.any_eq_true]
      exact ⟨b, hb, by simpa using e⟩
  refine ⟨⟨h0.nd, fun b hb => ?_, fun i o hi => h.fr i o (hm i o hi).1, fun i o hi b hb => ?_, h.rs⟩, ⟨fun i o hi => ?_, hle.re⟩⟩
  · rcases List.mem_append.1 hb with hb | hb
    · exact h.fr _ _ (hin b hb)
    · exact h.at' b hb
  · rcases List.mem_append.1 hb with hb | hb
    · exact (hm i o hi).2 b hb
    · exact h.ne i o (hm i o hi).1 b hb
  · have hG : G i = some o := hle.le _ _ ((plus_le F Bs).le _ _ hi)
    show (if (Bs.any (·.id == i)) then none else G i) = some o
    rw [if_neg]
    · exact hG
    · intro ha
      rw [List.any_eq_true] at ha
      obtain ⟨b, hb, e⟩ := ha
      exact hB.ne i o hi b hb (by simpa using e)
/-! ### What the slots hold -/
def find : Env → Nat → Option Value
  | [], _ => none
  | (k, v) :: r, i => bif Nat.beq k i then some v else find r i
structure Has (n : Nat) (env : Env) (a : Act) : Prop where
  size : a.tmps.size = n
  defers : a.defers = []
  get : ∀ i v, find env i = some v → a.tmps[i]? = some v
def ev (env : Env) : Operand → Option Value
  | .tmp t => find env t
  | .const v => some v
  | .global _ => none
  | .func f => some (.func (.func f) #[] #[])
theorem Has.eval {n : Nat} {env : Env} {a : Act} (h : Has n env a) {x : Operand} {v : Value} (hx : ev env x = some v) : a.eval x = v := by
  cases x with
  | tmp t => have := h.get t v hx; simp [Act.eval, this]
  | const c => simpa [ev, Act.eval] using hx
  | global g => simp [ev] at hx
  | func f => simpa [ev, Act.eval] using hx
theorem Has.put {n : Nat} {env : Env} {a : Act} (h : Has n env a) {d : Nat} (hd : Nat.blt d n = true) (v : Value) : Has n ((d, v) :: env) (a.put (some d) v) := by
  have hd' : d < n := by simp [Nat.blt] at hd; omega
  refine ⟨by simp [Act.put, h.size], by simp [Act.put, h.defers], fun i u hi => ?_⟩
  simp only [find] at hi
  by_cases e : d = i
  · subst e
    simp at hi
    simp [Act.put, h.size, hd', hi]
  · have : Nat.beq d i = false := Bool.eq_false_iff.2 fun h => e (Nat.eq_of_beq_eq_true h)
    rw [this] at hi
    simp only [cond_false] at hi
    simp [Act.put, Array.getElem?_setIfInBounds_ne e, h.get i u hi]
theorem Has.put_none {n : Nat} {env : Env} {a : Act} (h : Has n env a) (v : Value) : Has n env (a.put none v) := h
/-- What is known less. -/
structure Sub (e1 e2 : Env) : Prop where
  sub : ∀ i v, find e1 i = some v → find e2 i = some v
theorem Sub.nil {e : Env} : Sub [] e := ⟨fun _ _ h => by simp [find] at h⟩
theorem Sub.cons {e1 e2 : Env} {i : Nat} {v v' : Value} (h : find e2 i = some v') (e : v' = v) (hs : Sub e1 e2) : Sub ((i, v) :: e1) e2 := ⟨fun j u hj => by
  simp only [find] at hj
  by_cases ij : i = j
  · subst ij
    simp at hj
    rw [h, e, hj]
  · have : Nat.beq i j = false := Bool.eq_false_iff.2 fun h => ij (Nat.eq_of_beq_eq_true h)
    rw [this] at hj
    exact hs.sub j u hj⟩
theorem Has.sub {n : Nat} {e1 e2 : Env} {a : Act} (h : Has n e2 a) (hs : Sub e1 e2) : Has n e1 a := ⟨h.size, h.defers, fun i v hi => h.get i v (hs.sub i v hi)⟩
end Go.Proofs.Ytbmpdccoffkjgaa.Ow
