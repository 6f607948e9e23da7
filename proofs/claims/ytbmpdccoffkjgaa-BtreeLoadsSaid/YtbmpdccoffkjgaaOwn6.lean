/- Rows that are owned: slices that begin where their block begins; append, copy, clear. -/
import Derived.Test.YtbmpdccoffkjgaaOwn4
import Derived.Laws.MakeOwn
import Derived.Lib.Overlaps
namespace Go.Proofs.Ytbmpdccoffkjgaa.Ow
open Go
set_option linter.unusedVariables false
/-- How an element lies: in so many cells. -/
structure Enc {α : Type} (enc : α → List Value) (sz : Nat) : Prop where
  len : ∀ x, (enc x).length = sz
  one : ∀ x, ∀ v ∈ enc x, v.oneCell' = true
section
variable {α : Type} {enc : α → List Value} {sz : Nat}
theorem Enc.fl (h : Enc enc sz) : ∀ xs : List α, (xs.flatMap enc).length = xs.length * sz
  | [] => by simp
  | x :: xs => by rw [List.flatMap_cons, List.length_append, h.len, h.fl xs, List.length_cons, Nat.succ_mul, Nat.add_comm]
theorem Enc.fone (h : Enc enc sz) (xs : List α) : ∀ v ∈ xs.flatMap enc, v.oneCell' = true := fun v hv => by
  obtain ⟨x, _, hx⟩ := List.mem_flatMap.1 hv
  exact h.one x v hx
theorem Enc.get (h : Enc enc sz) : ∀ (xs : List α) (i : Nat) (x : α), xs[i]? = some x → ∀ (pad : List Value) (j : Nat) (v : Value), (enc x)[j]? = some v → (xs.flatMap enc ++ pad)[i * sz + j]? = some v
  | [], i, x, hx, _, _, _, _ => by simp at hx
  | y :: xs, 0, x, hx, pad, j, v, hj => by
    simp at hx
    subst hx
    rw [List.flatMap_cons, List.append_assoc, List.getElem?_append_left (by have := (List.getElem?_eq_some_iff.1 hj).1; omega)]
    simpa using hj
  | y :: xs, i + 1, x, hx, pad, j, v, hj => by
    simp at hx
    rw [List.flatMap_cons, List.append_assoc, List.getElem?_append_right (by rw [h.len, Nat.succ_mul]; omega), h.len, show (i + 1) * sz + j - sz = i * sz + j by rw [Nat.succ_mul]; omega]
    exact h.get xs i x hx pad j v hj
theorem Enc.take (h : Enc enc sz) (xs : List α) (pad : List Value) (i : Nat) (hi : i ≤ xs.length) : (xs.flatMap enc ++ pad).take (i * sz) = (xs.take i).flatMap enc := by
  have e : xs.flatMap enc = (xs.take i).flatMap enc ++ (xs.drop i).flatMap enc := by rw [← List.flatMap_append, List.take_append_drop]
  have hl : ((xs.take i).flatMap enc).length = i * sz := by rw [h.fl, List.length_take, Nat.min_eq_left hi]
  rw [e, List.append_assoc, List.take_left' hl]
theorem Enc.drop (h : Enc enc sz) (xs : List α) (pad : List Value) (i : Nat) (hi : i ≤ xs.length) : (xs.flatMap enc ++ pad).drop (i * sz) = (xs.drop i).flatMap enc ++ pad := by
  have e : xs.flatMap enc = (xs.take i).flatMap enc ++ (xs.drop i).flatMap enc := by rw [← List.flatMap_append, List.take_append_drop]
  have hl : ((xs.take i).flatMap enc).length = i * sz := by rw [h.fl, List.length_take, Nat.min_eq_left hi]
  rw [e, List.append_assoc, List.drop_left' hl]
theorem Enc.put (h : Enc enc sz) (xs : List α) (pad : List Value) (i : Nat) (hi : i < xs.length) (y : α) : (xs.set i y).flatMap enc ++ pad = (xs.flatMap enc ++ pad).take (i * sz) ++ enc y ++ (xs.flatMap enc ++ pad).drop ((i + 1) * sz) := by
  rw [h.take xs pad i (by omega), h.drop xs pad (i + 1) (by omega), List.set_eq_take_append_cons_drop, if_pos hi, List.flatMap_append, List.flatMap_cons]
  simp [List.append_assoc]
end
/-- A row that is owned, whole. -/
structure Row {α : Type} (e : TypeId) (enc : α → List Value) (sz : Nat) (a : Option Addr) (c : Nat) (xs : List α) (it : Itm) : Prop where
  cap : xs.length ≤ c
  max : c ≤ 9223372036854775807
  it : (a = none ∧ c = 0 ∧ it = []) ∨ ∃ b pad, a = some ⟨b, 0, none⟩ ∧ it = [⟨b, e, xs.flatMap enc ++ pad⟩] ∧ pad.length = (c - xs.length) * sz
section
variable {α : Type} {e : TypeId} {enc : α → List Value} {sz : Nat} {a : Option Addr} {c : Nat} {xs : List α} {it : Itm}
theorem Row.nil : Row e enc sz none 0 ([] : List α) [] := ⟨Nat.le_refl _, by omega, .inl ⟨rfl, rfl, rfl⟩⟩
theorem Row.len (h : Row e enc sz a c xs it) : xs.length ≤ 9223372036854775807 := Nat.le_trans h.cap h.max
/-- A row whose elements are there lies in a block. -/
theorem Row.blk (h : Row e enc sz a c xs it) (h0 : 0 < xs.length) : ∃ b pad, a = some ⟨b, 0, none⟩ ∧ it = [⟨b, e, xs.flatMap enc ++ pad⟩] ∧ pad.length = (c - xs.length) * sz := by
  rcases h.it with ⟨_, rfl, _⟩ | h'
  · exact absurd h.cap (by omega)
  · exact h'
theorem Rd.of {G : Mem} {b t : Nat} {cs : List Value} (hb : G b = some (.cells cs.toArray t (0, 0))) (o : Nat) (row : List Value) (h : ∀ j v, row[j]? = some v → cs[o + j]? = some v) : Rd G b o row :=
  ⟨⟨_, _, _, hb, fun j v hj => by simpa using h j v hj⟩⟩
/-- What a row owns reads as a slice where its block is known. -/
theorem Row.sl (hE : Enc enc sz) (h : Row e enc sz a c xs it) {G : Mem} (hG : ∀ b ∈ it, G b.id = some b.obj) : Sl G enc sz a c xs := by
  refine ⟨h.cap, h.max, ?_⟩
  rcases h.it with ⟨_, rfl, _⟩ | ⟨b, pad, ha, rfl, hp⟩
  · exact .inl (List.eq_nil_of_length_eq_zero (by have := h.cap; omega))
  · exact .inr ⟨b, 0, ha, fun i x hx => by
      rw [Nat.zero_add]
      exact Rd.of (hG _ (List.mem_singleton_self _)) _ _ fun j v hj => hE.get xs i x hx pad j v hj⟩
theorem Row.freeze (hE : Enc enc sz) (h : Row e enc sz a c xs it) {w : World} {Bs : List Blk} {F : Mem} (ho : Own w (it ++ Bs) F) : Own w Bs (plus F it) ∧ Sl (plus F it) enc sz a c xs :=
  ⟨ho.freeze, h.sl hE fun b hb => plus_mem (ho.sub (List.sublist_append_left _ _)) hb⟩
end
theorem zeroCells_length (z : Array Value) (n : Nat) : (Builtin.zeroCells z n).toList.length = n * z.size := by simp [Builtin.zeroCells]
section
variable {P : Program}
/-- append of cells that can be read, to a row that is owned. -/
theorem run_append_row {α : Type} {t e ty sz bytes : Nat} {g : Bool} {zero : Value} {enc : α → List Value} (hs : Sld P t e sz) (ht : Ty P e sz bytes g zero) (hz : zero.cells.size = sz) (hE : Enc enc sz)
    {w : World} {T : List Blk} {F : Mem} {a : Option Addr} {c : Nat} {xs ys : List α} {it : Itm} (hr : Row e enc sz a c xs it) (ho : Own w (it ++ T) F)
    {a2 : Option Addr} {c2 : Nat} (hy : ∀ j v, (ys.flatMap enc)[j]? = some v → ∃ ad, a2 = some ad ∧ w.cell? (ad.add j) = some v) (hy0 : a2 = none → ys = [])
    (hsz : (xs.length + ys.length) * bytes ≤ 140737488355328) (hlen : xs.length + ys.length ≤ 9223372036854775807) :
    ∃ a' c' it' w', (Builtin.append_ #[t, t] ty #[.slice a xs.length c, .slice a2 ys.length c2]).run P w = .ok (.slice a' (xs ++ ys).length c') w' ∧ Row e enc sz a' c' (xs ++ ys) it' ∧ Own w' (it' ++ T) F := by
  obtain ⟨i, hi, hiz, hisz, hib⟩ := ht.parts
  have hfirst : ∀ w1 : World, (∀ ad, w1.cell? ad = w.cell? ad) → (Builtin.firstCells sz ys.length (.slice a2 ys.length c2)).run P w1 = .ok (ys.flatMap enc).toArray w1 := by
    intro w1 hw1
    cases a2 with
    | none =>
      have := hy0 rfl
      subst this
      simp [Builtin.firstCells]
    | some ad =>
      exact run_firstCells_some w1 sz ys.length ad _ _ _ (hE.fl ys) fun j v hj => by
        obtain ⟨ad', h1, h2⟩ := hy j v hj
        cases h1
        rw [hw1, h2]
  by_cases hroom : xs.length + ys.length ≤ c
  · -- room
    rcases hr.it with ⟨rfl, rfl, rfl⟩ | ⟨b, pad, rfl, rfl, hp⟩
    · have hx0 : xs = [] := List.eq_nil_of_length_eq_zero (by omega)
      have hy00 : ys = [] := List.eq_nil_of_length_eq_zero (by omega)
      subst hx0; subst hy00
      refine ⟨none, 0, [], w, ?_, Row.nil, ho⟩
      have := hfirst w (fun _ => rfl)
      simp [Builtin.append_, run_underlying hs.un, hs.size, Builtin.lenOf] at this ⊢
      simp [this]
    · have hpl : pad.length = (c - xs.length) * sz := hp
      obtain ⟨w', hst, ho'⟩ := run_storeCells_own (P := P) (xs.length * sz) (ys.flatMap enc) (xs.flatMap enc ++ pad) 0 w T F (by simpa using ho)
        (by rw [List.length_append, hE.fl, hE.fl, hpl, Nat.add_zero]; exact Nat.add_le_add_left (Nat.mul_le_mul_right _ (by omega)) _) (hE.fone ys)
      refine ⟨some ⟨b, 0, none⟩, c, [⟨b, e, (xs ++ ys).flatMap enc ++ pad.drop (ys.length * sz)⟩], w', ?_, ⟨by simpa using hroom, hr.max, .inr ⟨b, _, rfl, rfl, ?_⟩⟩, ?_⟩
      · have := hfirst w (fun _ => rfl)
        have hst' : (storeCells ((⟨b, 0, none⟩ : Addr).add (xs.length * sz)) (ys.flatMap enc)).run P w = .ok () w' := by rw [add_at, Nat.zero_add]; exact hst
        simp [Builtin.append_, run_underlying hs.un, hs.size, Builtin.lenOf, hroom, this, hst']
      · rw [List.length_drop, hpl, List.length_append, ← Nat.sub_mul]
        congr 1
        omega
      · have e1 : (xs.flatMap enc ++ pad).take (xs.length * sz) = xs.flatMap enc := by
          rw [hE.take xs pad _ (Nat.le_refl _), List.take_length]
        have e2 : (xs.flatMap enc ++ pad).drop (xs.length * sz + ys.length * sz) = pad.drop (ys.length * sz) := by
          rw [← List.drop_drop, hE.drop xs pad _ (Nat.le_refl _), List.drop_length]; rfl
        simp only [Nat.add_zero] at ho'
        rw [e1, hE.fl ys, e2] at ho'
        simpa [List.flatMap_append, List.append_assoc] using ho'
  · -- a new block
    have hgrow : c < xs.length + ys.length := by omega
    have hfit := growslice_fits hgrow hsz
    have hold : ∀ w1 : World, (∀ ad, w1.cell? ad = w.cell? ad) → (Builtin.firstCells sz xs.length (.slice a xs.length c)).run P w1 = .ok (xs.flatMap enc).toArray w1 := by
      intro w1 hw1
      rcases hr.it with ⟨rfl, rfl, rfl⟩ | ⟨b, pad, rfl, rfl, hp⟩
      · have hx0 : xs = [] := List.eq_nil_of_length_eq_zero (by have := hr.cap; omega)
        subst hx0
        simp [Builtin.firstCells]
      · exact run_firstCells_some w1 sz xs.length _ _ _ _ (hE.fl xs) fun j v hj => by
          rw [hw1, add_at, Nat.zero_add, ho.cell (List.mem_append_left _ (List.mem_singleton_self _)), List.getElem?_append_left (List.getElem?_eq_some_iff.1 hj).1]
          exact hj
    have h1 := hold w.drew fun _ => rfl
    have h2 := hfirst w.drew fun _ => rfl
    have hn : ¬ (xs.length + ys.length ≤ c) := hroom
    have h63 : ¬ (9223372036854775807 < ((xs.length : Int) + (ys.length : Int))) := by omega
    have h48 : ¬ (281474976710656 < Builtin.nextslicecap (xs.length + ys.length) c * bytes) := by omega
    obtain ⟨C, hC⟩ : ∃ C, C = grownCap w (xs.length + ys.length) c e := ⟨_, rfl⟩
    have hC1 : xs.length + ys.length ≤ C := by rw [hC]; exact grownCap_ge w _ c e
    have hC2 : C ≤ 9223372036854775807 := by
      have := grownCap_le_maxLen w (xs.length + ys.length) c e (by unfold maxLen; omega)
      rw [← hC] at this
      unfold maxLen at this
      omega
    have ho1 : Own w.drew T F := (ho.sub (List.sublist_append_right _ _)).drew
    refine ⟨some ⟨w.heap.size, 0, none⟩, C, [⟨w.heap.size, e, (xs ++ ys).flatMap enc ++ (Builtin.zeroCells zero.cells (C - (xs.length + ys.length))).toList⟩], _, ?_, ⟨by simpa using hC1, hC2, .inr ⟨_, _, rfl, rfl, ?_⟩⟩, ho1.alloc e _⟩
    · have hm : ((xs.flatMap enc).toArray ++ (ys.flatMap enc).toArray ++ Builtin.zeroCells zero.cells (C - (xs.length + ys.length))) = ((xs ++ ys).flatMap enc ++ (Builtin.zeroCells zero.cells (C - (xs.length + ys.length))).toList).toArray := by
        apply Array.ext'
        simp [List.flatMap_append]
      rw [← hm]
      rw [hC]
      simp [Builtin.append_, run_underlying hs.un, hs.size, Builtin.lenOf, hn, h63, typeInfo, hi, hib, h48, Question.forced, h1, h2, zeroValue, hiz, newRow, grownCap]
      congr 2
      apply Array.ext'
      simp [List.append_assoc]
    · rw [zeroCells_length, hz, List.length_append]
section
variable {env : Env} {L : List Itm} {F : Mem} {d : Option Tmp} {pos : String} {af : Array Edge} {gd : Option (Nat × Bool)} {α : Type} {t e ty sz bytes : Nat} {g : Bool} {zero : Value} {enc : α → List Value} {x y : Operand} {a a2 : Option Addr} {c c2 m2 : Nat} {xs : List α} {it : Itm}
/-- What an append leaves. -/
def grown (e : TypeId) (enc : α → List Value) (sz : Nat) (F : Mem) (zs : List α) (f : Itm → List Itm) (v : Value) (M : List Itm) (G : Mem) : Prop := ∃ a c it, v = .slice a zs.length c ∧ Row e enc sz a c zs it ∧ M = f it ∧ G = F
theorem builtin_append_run {w : World} {u v r : Value} {w' : World} {n : Nat} {act : Act} {ts : Array TypeId} (hh : Has n env act) (hx : ev env x = some u) (hy : ev env y = some v) (h : (Builtin.append_ ts ty #[u, v]).run P w = .ok r w') :
    (execOp act.eval ⟨d, .call ⟨.builtin .append, #[x, y], ts⟩, ty, pos, af, gd⟩).run P w = .ok (.value r) w' := by
  have e' : (execOp act.eval ⟨d, .call ⟨.builtin .append, #[x, y], ts⟩, ty, pos, af, gd⟩) = (do pure (.value (← Builtin.append_ ts ty #[act.eval x, act.eval y]))) := by simp [execOp, resolve, invoke, builtin]
  rw [e', hh.eval hx, hh.eval hy, Sem.run_bind, h]
  rfl
/-- append(s, x): the element lies in a block of its own. -/
theorem Op1.app1 {b : Nat} (el : α) (hs : Sld P t e sz) (ht : Ty P e sz bytes g zero) (hz : zero.cells.size = sz) (hE : Enc enc sz) (hx : ev env x = some (.slice a xs.length c)) (hy : ev env y = some (.slice (some ⟨b, 0, none⟩) 1 1))
    (hr : Row e enc sz a c xs it) (hi : Inn [⟨b, e, enc el⟩] L) (hsz : (xs.length + 1) * bytes ≤ 140737488355328) (hlen : xs.length + 1 ≤ 9223372036854775807) (f : Itm → List Itm) (hu : ∀ it', Upd it it' L (f it')) :
    Op1 P ⟨d, .call ⟨.builtin .append, #[x, y], #[t, t]⟩, ty, pos, af, gd⟩ env L F (grown e enc sz F (xs ++ [el]) f) :=
  .of fun n act w R hh ho => by
    obtain ⟨T, p1, _⟩ := (hu it).perm
    obtain ⟨a', c', it', w', h1, h2, h3⟩ := run_append_row (ty := ty) (w := w) (T := T ++ R) (F := F) (ys := [el]) (a2 := some ⟨b, 0, none⟩) (c2 := 1) hs ht hz hE hr (by rw [← List.append_assoc]; exact ho.perm (p1.append_right R))
      (fun j v hj => ⟨_, rfl, by rw [add_at, ho.cell (hi.one R), Nat.zero_add]; simpa using hj⟩) (fun h => by cases h) hsz hlen
    obtain ⟨T', q1, q2⟩ := (hu it').perm
    refine ⟨_, w', f it', F, builtin_append_run hh hx hy h1, Le.rfl, ⟨a', c', it', rfl, h2, rfl, rfl⟩, ?_⟩
    have hTT : T.Perm T' := by
      have := p1.symm.trans q1
      exact (List.perm_append_left_iff it).1 this
    rw [← List.append_assoc] at h3
    exact h3.perm (((hTT.append_left it').append_right R).trans (q2.append_right R).symm)
/-- append(s, ys...): the elements lie in memory that is never changed. -/
theorem Op1.apps {ys : List α} (hs : Sld P t e sz) (ht : Ty P e sz bytes g zero) (hz : zero.cells.size = sz) (hE : Enc enc sz) (h0 : 0 < sz) (hx : ev env x = some (.slice a xs.length c)) (hy : ev env y = some (.slice a2 ys.length c2))
    (hr : Row e enc sz a c xs it) (hsl : ∀ w R, Own w (L.flatten ++ R) F → ∃ G Bs, Own w Bs G ∧ Sl G enc sz a2 c2 ys) (hsz : (xs.length + ys.length) * bytes ≤ 140737488355328) (hlen : xs.length + ys.length ≤ 9223372036854775807) (f : Itm → List Itm) (hu : ∀ it', Upd it it' L (f it')) :
    Op1 P ⟨d, .call ⟨.builtin .append, #[x, y], #[t, t]⟩, ty, pos, af, gd⟩ env L F (grown e enc sz F (xs ++ ys) f) :=
  .of fun n act w R hh ho => by
    obtain ⟨T, p1, _⟩ := (hu it).perm
    obtain ⟨G, Bs, hoG, hS⟩ := hsl w R ho
    obtain ⟨a', c', it', w', h1, h2, h3⟩ := run_append_row (ty := ty) (w := w) (T := T ++ R) (F := F) (ys := ys) (a2 := a2) (c2 := c2) hs ht hz hE hr (by rw [← List.append_assoc]; exact ho.perm (p1.append_right R))
      (fun j v hj => by
        rcases hS.rd with rfl | ⟨b, o, rfl, hrd⟩
        · simp at hj
        · refine ⟨_, rfl, ?_⟩
          have hjl := (List.getElem?_eq_some_iff.1 hj).1
          rw [hE.fl] at hjl
          have hq : j / sz < ys.length := Nat.div_lt_of_lt_mul (by rw [Nat.mul_comm]; exact hjl)
          have hy1 : ys[j / sz]? = some ys[j / sz] := List.getElem?_eq_getElem hq
          have hmod : j % sz < sz := Nat.mod_lt _ h0
          obtain ⟨vv, hel⟩ : ∃ vv, (enc ys[j / sz])[j % sz]? = some vv := ⟨(enc ys[j / sz])[j % sz]'(by rw [hE.len]; exact hmod), List.getElem?_eq_getElem _⟩
          have hsame := hE.get ys (j / sz) _ hy1 [] (j % sz) _ hel
          rw [List.append_nil, show j / sz * sz + j % sz = j by rw [Nat.mul_comm]; exact Nat.div_add_mod j sz, hj] at hsame
          have hc := (hrd _ _ hy1).cell hoG (j := j % sz) hel
          rw [add_at, hsame, ← hc, Nat.add_assoc, show j / sz * sz + j % sz = j by rw [Nat.mul_comm]; exact Nat.div_add_mod j sz]) (fun h => by
        rcases hS.rd with rfl | ⟨b, o, rfl, hrd⟩
        · rfl
        · cases h) hsz hlen
    obtain ⟨T', q1, q2⟩ := (hu it').perm
    refine ⟨_, w', f it', F, builtin_append_run hh hx hy h1, Le.rfl, ⟨a', c', it', rfl, h2, rfl, rfl⟩, ?_⟩
    have hTT : T.Perm T' := by
      have := p1.symm.trans q1
      exact (List.perm_append_left_iff it).1 this
    rw [← List.append_assoc] at h3
    exact h3.perm (((hTT.append_left it').append_right R).trans (q2.append_right R).symm)
/-- An empty slice's literal. -/
theorem Op1.lit0 (hs : Sld P t e sz) : Op1 P ⟨d, .buildSlice t 0 #[], ty, pos, af, gd⟩ env L F (newBlk L F (fun b => .slice (some ⟨b, 0, none⟩) 0 0) e []) :=
  .of fun n a w R hh ho => ⟨_, w.alloc (.cells #[] e (0, 0)), _, F, by
    simp [execOp, Instr.buildSlice, run_underlying hs.un, hs.size, newRow, Instr.fill]
    congr 2
    apply Array.ext'
    simp, Le.rfl, ⟨_, rfl, rfl, rfl⟩, ho.alloc' e []⟩
theorem Row.lit0 {b : Nat} : Row e enc sz (some ⟨b, 0, none⟩) 0 ([] : List α) [⟨b, e, []⟩] := ⟨Nat.le_refl _, by omega, .inr ⟨b, [], rfl, by simp, by simp⟩⟩
end
end
end Go.Proofs.Ytbmpdccoffkjgaa.Ow
namespace Go.Proofs.Ytbmpdccoffkjgaa.Ow
open Go
set_option linter.unusedVariables false
section
variable {P : Program} {ops : Array Oper} {Q : Post} {rest : List Oper} {n : Nat} {env : Env} {L : List Itm} {F : Mem} {op : Op} {d : Nat} {ty : TypeId} {pos : String} {af : Array Edge}
theorem RL.vT {p : Prop} [Decidable p] (h : OpV P ⟨some d, op, ty, pos, af, none⟩ env L F (.bool (decide p))) (hd : Nat.blt d n = true) (hp : p) (k : RL P ops Q rest n ((d, .bool true) :: env) L F) :
    RL P ops Q (⟨some d, op, ty, pos, af, none⟩ :: rest) n env L F := RL.vs h hd (fun _ => k) (fun h => absurd hp h)
theorem RL.vF {p : Prop} [Decidable p] (h : OpV P ⟨some d, op, ty, pos, af, none⟩ env L F (.bool (decide p))) (hd : Nat.blt d n = true) (hp : ¬ p) (k : RL P ops Q rest n ((d, .bool false) :: env) L F) :
    RL P ops Q (⟨some d, op, ty, pos, af, none⟩ :: rest) n env L F := RL.vs h hd (fun h => absurd h hp) (fun _ => k)
theorem RL.bT {b : Bool} (h : OpV P ⟨some d, op, ty, pos, af, none⟩ env L F (.bool b)) (hd : Nat.blt d n = true) (hp : b = true) (k : RL P ops Q rest n ((d, .bool true) :: env) L F) :
    RL P ops Q (⟨some d, op, ty, pos, af, none⟩ :: rest) n env L F := RL.vb h hd (fun _ => k) (fun h => by rw [hp] at h; cases h)
theorem RL.bF {b : Bool} (h : OpV P ⟨some d, op, ty, pos, af, none⟩ env L F (.bool b)) (hd : Nat.blt d n = true) (hp : b = false) (k : RL P ops Q rest n ((d, .bool false) :: env) L F) :
    RL P ops Q (⟨some d, op, ty, pos, af, none⟩ :: rest) n env L F := RL.vb h hd (fun h => by rw [hp] at h; cases h) (fun _ => k)
theorem RL.nb {f : Nat → Value} {t : TypeId} {cs : List Value} (h : Op1 P ⟨some d, op, ty, pos, af, none⟩ env L F (newBlk L F f t cs)) (hd : Nat.blt d n = true) (k : ∀ b, RL P ops Q rest n ((d, f b) :: env) ([⟨b, t, cs⟩] :: L) F) :
    RL P ops Q (⟨some d, op, ty, pos, af, none⟩ :: rest) n env L F := RL.w h hd (by rintro _ _ _ _ ⟨b, rfl, rfl, rfl⟩; exact k b)
theorem RL.st {L' : List Itm} (h : Op1 P ⟨none, op, ty, pos, af, none⟩ env L F (stored L' F)) (k : RL P ops Q rest n env L' F) :
    RL P ops Q (⟨none, op, ty, pos, af, none⟩ :: rest) n env L F := RL.w0 h (by rintro _ _ _ _ ⟨rfl, rfl, rfl⟩; exact k)
/-- A place in a slice whose memory never changes. -/
theorem RL.ix {α : Type} {enc : α → List Value} {t e sz c : Nat} {a : Option Addr} {xs : List α} {x y : Operand} {kk : IntKind} {i : Int} (hs : Sld P t e sz) (hx : ev env x = some (.slice a xs.length c)) (hy : ev env y = some (.int kk i)) (hS : Sl F enc sz a c xs)
    (hd : Nat.blt d n = true) (el : α) (hg : 0 ≤ i ∧ xs[i.toNat]? = some el) (k : ∀ b o, Rd F b o (enc el) → RL P ops Q rest n ((d, .pointer (some ⟨b, o, none⟩)) :: env) L F) :
    RL P ops Q (⟨some d, .indexAddr t x y, ty, pos, af, none⟩ :: rest) n env L F := by
  have hlt := (List.getElem?_eq_some_iff.1 hg.2).1
  rcases hS.rd with rfl | ⟨b, o, rfl, hr⟩
  · simp at hlt
  · exact RL.v (OpV.ixa hs hx hy ⟨hg.1, by omega⟩) hd (k b _ (hr _ _ hg.2))
/-- A call that leaves memory made of late, which never changes. -/
theorem RL.cf {f : FuncId} {xs : List Operand} {ats : Array TypeId} {args : List Value} {fo : Operand} {post : Value → Mem → Prop} (hf : ev env fo = some (.func (.func f) #[] #[])) (hxs : evs env xs = some args)
    (hr : ∀ w, (callFunc f args.toArray).run P w = .ok (.enter f args.toArray) w) (h : Fn P f args.toArray [] F (fun v M G => M = [] ∧ post v G)) (hd : Nat.blt d n = true) (k : ∀ v G, Le F G → post v G → RL P ops Q rest n ((d, v) :: env) L G) :
    RL P ops Q (⟨some d, .call ⟨.value fo, xs.toArray, ats⟩, ty, pos, af, none⟩ :: rest) n env L F :=
  RL.w (Op1.call hf hxs hr h L rfl) hd (by rintro v _ G hle ⟨_, rfl, rfl, hp⟩; exact k v G hle hp)
/-- A call that changes an item. -/
theorem RL.cm {f : FuncId} {xs : List Operand} {ats : Array TypeId} {args : List Value} {fo : Operand} {post : Value → Itm → Mem → Prop} {it : Itm} (hf : ev env fo = some (.func (.func f) #[] #[])) (hxs : evs env xs = some args)
    (hr : ∀ w, (callFunc f args.toArray).run P w = .ok (.enter f args.toArray) w) (h : Fn P f args.toArray [it] F (fun v M G => ∃ it', M = [it'] ∧ post v it' G)) (g : Itm → List Itm) (hu : ∀ it', Upd it it' L (g it')) (hd : Nat.blt d n = true)
    (k : ∀ v it' G, Le F G → post v it' G → RL P ops Q rest n ((d, v) :: env) (g it') G) :
    RL P ops Q (⟨some d, .call ⟨.value fo, xs.toArray, ats⟩, ty, pos, af, none⟩ :: rest) n env L F := by
  obtain ⟨T, p1, _⟩ := (hu it).perm
  refine RL.items (L' := [it, T]) (fun w ho => by simpa using ho.perm p1) ?_
  refine RL.w (Op1.call hf hxs hr h [T] rfl) hd ?_
  rintro v _ G hle ⟨_, rfl, it', rfl, hp⟩
  obtain ⟨T', q1, q2⟩ := (hu it').perm
  have hTT : T.Perm T' := (List.perm_append_left_iff it).1 (p1.symm.trans q1)
  refine RL.items (L' := g it') (fun w ho => ?_) (k v it' G hle hp)
  have : Own w (it' ++ T) G := by simpa using ho
  exact this.perm ((hTT.append_left it').trans q2.symm)
/-- A truth that a slot holds: each by itself. -/
theorem RL.cs {l : List Oper} {t : Nat} {b : Bool} (hb : find env t = some (.bool b)) (kt : b = true → RL P ops Q l n ((t, .bool true) :: env) L F) (kf : b = false → RL P ops Q l n ((t, .bool false) :: env) L F) : RL P ops Q l n env L F := by
  cases b
  · exact RL.weak ⟨fun i v hi => by
      simp only [find] at hi
      by_cases e : t = i
      · subst e; simp at hi; rw [hb, hi]
      · rw [Bool.eq_false_iff.2 fun h => e (Nat.eq_of_beq_eq_true h)] at hi; exact hi⟩ (kf rfl)
  · exact RL.weak ⟨fun i v hi => by
      simp only [find] at hi
      by_cases e : t = i
      · subst e; simp at hi; rw [hb, hi]
      · rw [Bool.eq_false_iff.2 fun h => e (Nat.eq_of_beq_eq_true h)] at hi; exact hi⟩ (kt rfl)
theorem WC.cs {l : Code} {t : Nat} {b : Bool} (hb : find env t = some (.bool b)) (kt : b = true → WC P l Q n ((t, .bool true) :: env) L F) (kf : b = false → WC P l Q n ((t, .bool false) :: env) L F) : WC P l Q n env L F := by
  cases b
  · exact WC.weak ⟨fun i v hi => by
      simp only [find] at hi
      by_cases e : t = i
      · subst e; simp at hi; rw [hb, hi]
      · rw [Bool.eq_false_iff.2 fun h => e (Nat.eq_of_beq_eq_true h)] at hi; exact hi⟩ (kf rfl)
  · exact WC.weak ⟨fun i v hi => by
      simp only [find] at hi
      by_cases e : t = i
      · subst e; simp at hi; rw [hb, hi]
      · rw [Bool.eq_false_iff.2 fun h => e (Nat.eq_of_beq_eq_true h)] at hi; exact hi⟩ (kt rfl)
/-- What a slot holds is known otherwise. -/
theorem RL.kn {l : List Oper} {t : Nat} {v v' : Value} (hb : find env t = some v') (h : v' = v) (k : RL P ops Q l n ((t, v) :: env) L F) : RL P ops Q l n env L F :=
  RL.weak ⟨fun i u hi => by
      simp only [find] at hi
      by_cases e : t = i
      · subst e; simp at hi; rw [hb, h, hi]
      · rw [Bool.eq_false_iff.2 fun h => e (Nat.eq_of_beq_eq_true h)] at hi; exact hi⟩ k
theorem WC.kn {l : Code} {t : Nat} {v v' : Value} (hb : find env t = some v') (h : v' = v) (k : WC P l Q n ((t, v) :: env) L F) : WC P l Q n env L F :=
  WC.weak ⟨fun i u hi => by
      simp only [find] at hi
      by_cases e : t = i
      · subst e; simp at hi; rw [hb, h, hi]
      · rw [Bool.eq_false_iff.2 fun h => e (Nat.eq_of_beq_eq_true h)] at hi; exact hi⟩ k
/-- A guarded operation whose guard was passed by. -/
theorem RL.gu {j : Nat} {b : Bool} {o : Oper} {t : Nat} (hj : ops[j]? = some o) (ht : o.dst = some t)
    (hb : find env t = some undef) (hd : Nat.blt d n = true) (k : RL P ops Q rest n ((d, undef) :: env) L F) : RL P ops Q (⟨some d, op, ty, pos, af, some (j, b)⟩ :: rest) n env L F :=
  ⟨fun a w hh ho => by
    have h1 := hh.get _ _ hb
    have hw : Region.wanted ⟨some d, op, ty, pos, af, some (j, b)⟩ (yielded ops a.tmps) = false := by
      simp [Region.wanted, yielded, hj, ht, h1, undef]
    unfold wpList
    rw [if_neg (by rw [hw]; exact Bool.false_ne_true)]
    exact k.run _ _ (hh.put hd undef) ho⟩
/-- An append's end. -/
theorem RL.ap {α : Type} {e sz : Nat} {enc : α → List Value} {zs : List α} {f : Itm → List Itm} (h : Op1 P ⟨some d, op, ty, pos, af, none⟩ env L F (grown e enc sz F zs f)) (hd : Nat.blt d n = true)
    (k : ∀ a c it, Row e enc sz a c zs it → RL P ops Q rest n ((d, .slice a zs.length c) :: env) (f it) F) :
    RL P ops Q (⟨some d, op, ty, pos, af, none⟩ :: rest) n env L F := RL.w h hd (by rintro _ _ _ _ ⟨a, c, it, rfl, hr, rfl, rfl⟩; exact k a c it hr)
/-! ### Memory that is given away for good -/
theorem freeze_own {it : Itm} {L' : List Itm} (hu : Upd it [] L L') {w : World} (ho : Own w L.flatten F) : Own w L'.flatten (plus F it) := by
  obtain ⟨T, p1, p2⟩ := hu.perm
  exact (ho.perm p1).freeze.perm (by simpa using p2.symm)
theorem mem_own {it : Itm} {L' : List Itm} (hu : Upd it [] L L') {w : World} (ho : Own w L.flatten F) : ∀ b ∈ it, plus F it b.id = some b.obj := by
  obtain ⟨T, p1, p2⟩ := hu.perm
  exact fun b hb => plus_mem ((ho.perm p1).sub (List.sublist_append_left _ _)) hb
theorem Fin.freeze {e : Exit} {it : Itm} {L' : List Itm} (hu : Upd it [] L L') (k : ∀ G, Le F G → (∀ b ∈ it, G b.id = some b.obj) → Fin Q e n env L' G) : Fin Q e n env L F :=
  ⟨fun a w hh ho => (k _ (plus_le F it) (mem_own hu ho)).run a w hh (freeze_own hu ho)⟩
theorem RL.freeze {it : Itm} {L' : List Itm} (hu : Upd it [] L L') (k : ∀ G, Le F G → (∀ b ∈ it, G b.id = some b.obj) → RL P ops Q rest n env L' G) : RL P ops Q rest n env L F :=
  ⟨fun a w hh ho => (k _ (plus_le F it) (mem_own hu ho)).run a w hh (freeze_own hu ho)⟩
theorem WC.freeze {c : Code} {it : Itm} {L' : List Itm} (hu : Upd it [] L L') (k : ∀ G, Le F G → (∀ b ∈ it, G b.id = some b.obj) → WC P c Q n env L' G) : WC P c Q n env L F :=
  ⟨fun a w hh ho => (k _ (plus_le F it) (mem_own hu ho)).run a w hh (freeze_own hu ho)⟩
/-- Only some items are looked at further. -/
theorem Inn.keep {x : Itm} (h : Inn x L) : ∀ w, Own w L.flatten F → Own w (([] : List Itm).flatten ++ x) F := by
  intro w ho
  have : x.Sublist L.flatten := by
    clear ho
    induction h with
    | here => exact List.sublist_append_left _ _
    | there _ ih => exact ih.trans (List.sublist_append_right _ _)
    | part h => exact h.trans (List.sublist_append_left _ _)
  simpa using ho.sub this
theorem subl {L' : List Itm} (h : L'.Sublist L) : ∀ w, Own w L.flatten F → Own w L'.flatten F := fun w ho => ho.sub (by
  induction h with
  | slnil => exact List.Sublist.refl _
  | cons a _ ih => exact ih (ho.sub (List.sublist_append_right _ _)) |>.trans (List.sublist_append_right _ _)
  | cons_cons a _ ih => exact List.Sublist.append_left (ih (ho.sub (List.sublist_append_right _ _))) _)
end
/-! ### Loops, as the walks use them -/
section
variable {P : Program} {Q : Post} {n : Nat} {env : Env} {L : List Itm} {F : Mem} {ι : Type}
/-- The memory that is known stays as it is. -/
theorem WC.loop0 {c : Code} {fx : Env} (hfx : Sub fx env) (ok : ι → Prop) (μ : ι → Nat) (vr : ι → Env) (i0 : ι) (h0 : ok i0) (he : Sub (vr i0 ++ fx) env)
    (round : ∀ i, ok i → WC P c (Exit.then (Again n ok μ (fun j => vr j ++ fx) (fun _ => L) (fun _ => F) (μ i)) Q) n (vr i ++ fx) L F) : WC P (.loop c) Q n env L F :=
  WC.loop ok μ (fun j => vr j ++ fx) (fun _ => L) (fun _ => F) i0 h0 he (fun _ h => h) round
/-- Some items turn; the others stay. -/
theorem WC.loopx {c : Code} {fx : Env} {pre fm : List Itm} (hL : pre ++ fm = L) (hfx : Sub fx env) (ok : ι → Prop) (μ : ι → Nat) (vr : ι → Env) (vm : ι → List Itm) (G : ι → Mem) (i0 : ι) (h0 : ok i0) (he : Sub (vr i0 ++ fx) env) (hm : ∀ w, Own w (pre ++ fm).flatten F → Own w (vm i0 ++ fm).flatten (G i0))
    (round : ∀ i, ok i → WC P c (Exit.then (Again n ok μ (fun j => vr j ++ fx) (fun j => vm j ++ fm) G (μ i)) Q) n (vr i ++ fx) (vm i ++ fm) (G i)) : WC P (.loop c) Q n env L F := by
  subst hL
  exact WC.loop ok μ (fun j => vr j ++ fx) (fun j => vm j ++ fm) G i0 h0 he hm round
/-- Some items turn, and memory grows. -/
theorem WC.loopm {c : Code} {fx : Env} (hfx : Sub fx env) (ok : ι → Prop) (μ : ι → Nat) (vr : ι → Env) (M : ι → List Itm) (G : ι → Mem) (i0 : ι) (h0 : ok i0) (he : Sub (vr i0 ++ fx) env) (hm : ∀ w, Own w L.flatten F → Own w (M i0).flatten (G i0))
    (round : ∀ i, ok i → WC P c (Exit.then (Again n ok μ (fun j => vr j ++ fx) M G (μ i)) Q) n (vr i ++ fx) (M i) (G i)) : WC P (.loop c) Q n env L F :=
  WC.loop ok μ (fun j => vr j ++ fx) M G i0 h0 he hm round
end
/-! ### Results -/
section
variable {P : Program} {fn : Func} {n : Nat} {env : Env} {L : List Itm} {F : Mem}
theorem Res.t1 {t : Nat} {v : Value} (h : fn.results = #[.tmp t]) (hv : find env t = some v) : Res P fn n env L F v :=
  ⟨fun a w hh ho => by rw [results_tmp h]; have := hh.get _ _ hv; simp [this]⟩
theorem Res.t2 {t u : Nat} {v v' : Value} (h : fn.results = #[.tmp t, .tmp u]) (hv : find env t = some v) (hv' : find env u = some v') : Res P fn n env L F (.tuple #[v, v']) :=
  ⟨fun a w hh ho => by rw [results_tmp2 h]; have h1 := hh.get _ _ hv; have h2 := hh.get _ _ hv'; simp [h1, h2]⟩
theorem Res.t0 (h : fn.results = #[]) : Res P fn n env L F (.tuple #[]) := ⟨fun a w hh ho => by rw [results_none h]⟩
theorem load_whole {ty sz bytes : Nat} {zero : Value} {b bt : Nat} {cs : List Value} (ht : Ty P ty sz bytes true zero) {w : World} {Bs : List Blk} (ho : Own w Bs F) (hm : (⟨b, bt, cs⟩ : Blk) ∈ Bs) (hl : cs.length = sz) : (loadVar ty ⟨b, 0, none⟩).run P w = .ok (.agg cs.toArray) w := by
  have h1 := run_loadCells_list (P := P) w ⟨b, 0, none⟩ cs (fun j v hj => by rw [add_at, ho.cell hm, Nat.zero_add]; exact hj)
  rw [hl] at h1
  simp [loadVar, ht.agg, ht.size, h1]
theorem Res.c1 {t ty sz bytes b bt : Nat} {zero : Value} {cs : List Value} (h : fn.results = #[.cell t ty]) (ht : Ty P ty sz bytes true zero) (hv : find env t = some (.pointer (some ⟨b, 0, none⟩))) (hi : Inn [⟨b, bt, cs⟩] L) (hl : cs.length = sz) : Res P fn n env L F (.agg cs.toArray) :=
  ⟨fun a w hh ho => by
    have h1 := hh.get _ _ hv
    have h2 := load_whole (P := P) ht ho (by simpa using hi.one []) hl
    simp [results, h, h1, asAddr, h2]⟩
theorem Res.ct {t ty sz bytes b bt u : Nat} {zero v : Value} {cs : List Value} (h : fn.results = #[.cell t ty, .tmp u]) (ht : Ty P ty sz bytes true zero) (hv : find env t = some (.pointer (some ⟨b, 0, none⟩))) (hi : Inn [⟨b, bt, cs⟩] L) (hl : cs.length = sz) (hu : find env u = some v) : Res P fn n env L F (.tuple #[.agg cs.toArray, v]) :=
  ⟨fun a w hh ho => by
    have h1 := hh.get _ _ hv
    have h3 := hh.get _ _ hu
    have h2 := load_whole (P := P) ht ho (by simpa using hi.one []) hl
    simp [results, h, h1, asAddr, h2, h3]⟩
end
/-! ### The beginning of a function's walk -/
theorem Fn.start0 {P : Program} {f : FuncId} {fn : Func} {c : Code} {args : List Value} {F : Mem} {post : Value → List Itm → Mem → Prop} {n : Nat} {env : Env} (hf : P.funcs[f]? = some fn) (hb : fn.body = some c) (hn : fn.ntmps = n) (hl : Nat.ble args.length n = true) (he : argEnv 0 args = env)
    (h : ∀ R : Itm, WC P c (bodyPost P fn (retPost F R post)) n env [R] F) : Fn P f args.toArray [] F post := Fn.start hf hb hn hl (by rw [he]; exact h)
theorem Fn.start1 {P : Program} {f : FuncId} {fn : Func} {c : Code} {args : List Value} {it : Itm} {F : Mem} {post : Value → List Itm → Mem → Prop} {n : Nat} {env : Env} (hf : P.funcs[f]? = some fn) (hb : fn.body = some c) (hn : fn.ntmps = n) (hl : Nat.ble args.length n = true) (he : argEnv 0 args = env)
    (h : ∀ R : Itm, WC P c (bodyPost P fn (retPost F R post)) n env [it, R] F) : Fn P f args.toArray [it] F post := Fn.start hf hb hn hl (by rw [he]; exact h)
end Go.Proofs.Ytbmpdccoffkjgaa.Ow
