/- Rows that are owned: slices that begin where their block begins; append, copy, clear. -/
import Derived.Test.YtbmpdccoffkjgaaOwn4
import Derived.Laws.MakeOwn
import Derived.Lib.Overlaps
namespace Go.Proofs.Ytbmpdccoffkjgaa.Ow
open Go
set_option linter.unusedVariables false
/-- How an element lies: in so many cells. -/
structure Enc {α : Type} (enc : α → List Value) (sz : Nat) : Prop where
  len : ∀ x, (enc x).length = sz
  one : ∀ x, ∀ v ∈ enc x, v.oneCell' = true
section
variable {α : Type} {enc : α → List Value} {sz : Nat}
theorem Enc.fl (h : Enc enc sz) : ∀ xs : List α, (xs.flatMap enc).length = xs.length * sz
  | [] => by simp
  | x :: xs => by rw [List.flatMap_cons, List.length_append, h.len, h.fl xs, List.length_cons, Nat.succ_mul, Nat.add_comm]
theorem Enc.fone (h : Enc enc sz) (xs : List α) : ∀ v ∈ xs.flatMap enc, v.oneCell' = true := fun v hv => by
  obtain ⟨x, _, hx⟩ := List.mem_flatMap.1 hv
  exact h.one x v hx
theorem Enc.get (h : Enc enc sz) : ∀ (xs : List α) (i : Nat) (x : α), xs[i]? = some x → ∀ (pad : List Value) (j : Nat) (v : Value), (enc x)[j]? = some v → (xs.flatMap enc ++ pad)[i * sz + j]? = some v
  | [], i, x, hx, _, _, _, _ => by simp at hx
  | y :: xs, 0, x, hx, pad, j, v, hj => by
    simp at hx
    subst hx
    rw [List.flatMap_cons, List.append_assoc, List.getElem?_append_left (by have := (List.getElem?_eq_some_iff.1 hj).1; omega)]
    simpa using hj
  | y :: xs, i + 1, x, hx, pad, j, v, hj => by
    simp at hx
    rw [List.flatMap_cons, List.append_assoc, List.getElem?_append_right (by rw [h.len, Nat.succ_mul]; omega), h.len, show (i + 1) * sz + j - sz = i * sz + j by rw [Nat.succ_mul]; omega]
    exact h.get xs i x hx pad j v hj
theorem Enc.take (h : Enc enc sz) (xs : List α) (pad : List Value) (i : Nat) (hi : i ≤ xs.length) : (xs.flatMap enc ++ pad).take (i * sz) = (xs.take i).flatMap enc := by
  have e : xs.flatMap enc = (xs.take i).flatMap enc ++ (xs.drop i).flatMap enc := by rw [← List.flatMap_append, List.take_append_drop]
  have hl : ((xs.take i).flatMap enc).length = i * sz := by rw [h.fl, List.length_take, Nat.min_eq_left hi]
  rw [e, List.append_assoc, List.take_left' hl]
theorem Enc.drop (h : Enc enc sz) (xs : List α) (pad : List Value) (i : Nat) (hi : i ≤ xs.length) : (xs.flatMap enc ++ pad).drop (i * sz) = (xs.drop i).flatMap enc ++ pad := by
  have e : xs.flatMap enc = (xs.take i).flatMap enc ++ (xs.drop i).flatMap enc := by rw [← List.flatMap_append, List.take_append_drop]
  have hl : ((xs.take i).flatMap enc).length = i * sz := by rw [h.fl, List.length_take, Nat.min_eq_left hi]
  rw [e, List.append_assoc, List.drop_left' hl]
theorem Enc.put (h : Enc enc sz) (xs : List α) (pad : List Value) (i : Nat) (hi : i < xs.length) (y : α) : (xs.set i y).flatMap enc ++ pad = (xs.flatMap enc ++ pad).take (i * sz) ++ enc y ++ (xs.flatMap enc ++ pad).drop ((i + 1) * sz) := by
  rw [h.take xs pad i (by omega), h.drop xs pad (i + 1) (by omega), List.set_eq_take_append_cons_drop, if_pos hi, List.flatMap_append, List.flatMap_cons]
  simp [List.append_assoc]
end
/-- A row that is owned, whole. -/
structure Row {α : Type} (e : TypeId) (enc : α → List Value) (sz : Nat) (a : Option Addr) (c : Nat) (xs : List α) (it : Itm) : Prop where
  cap : xs.length ≤ c
  max : c ≤ 9223372036854775807
  it : (a = none ∧ c = 0 ∧ it = []) ∨ ∃ b pad, a = some ⟨b, 0, none⟩ ∧ it = [⟨b, e, xs.flatMap enc ++ pad⟩] ∧ pad.length = (c - xs.length) * sz
section
variable {α : Type} {e : TypeId} {enc : α → List Value} {sz : Nat} {a : Option Addr} {c : Nat} {xs : List α} {it : Itm}
theorem Row.nil : Row e enc sz none 0 ([] : List α) [] := ⟨Nat.le_refl _, by omega, .inl ⟨rfl, rfl, rfl⟩⟩
theorem Row.len (h : Row e enc sz a c xs it) : xs.length ≤ 9223372036854775807 := Nat.le_trans h.cap h.max
/-- A row whose elements are there lies in a block. -/
theorem Row.blk (h : Row e enc sz a c xs it) (h0 : 0 < xs.length) : ∃ b pad, a = some ⟨b, 0, none⟩ ∧ it = [⟨b, e, xs.flatMap enc ++ pad⟩] ∧ pad.length = (c - xs.length) * sz := by
  rcases h.it with ⟨_, rfl, _⟩ | h'
  · exact absurd h.cap (by omega)
  · exact h'
theorem Rd.of {G : Mem} {b t : Nat} {cs : List Value} (hb : G b = some (.cells cs.toArray t (0, 0))) (o : Nat) (row : List Value) (h : ∀ j v, row[j]? = some v → cs[o + j]? = some v) : Rd G b o row :=
  ⟨⟨_, _, _, hb, fun j v hj => by simpa using h j v hj⟩⟩
/-- What a row owns reads as a slice where its block is known. -/
theorem Row.sl (hE : Enc enc sz) (h : Row e enc sz a c xs it) {G : Mem} (hG : ∀ b ∈ it, G b.id = some b.obj) : Sl G enc sz a c xs := by
  refine ⟨h.cap, h.max, ?_⟩
  rcases h.it with ⟨_, rfl, _⟩ | ⟨b, pad, ha, rfl, hp⟩
  · exact .inl (List.eq_nil_of_length_eq_zero (by have := h.cap; omega))
  · exact .inr ⟨b, 0, ha, fun i x hx => by
      rw [Nat.zero_add]
      exact Rd.of (hG _ (List.mem_singleton_self _)) _ _ fun j v hj => hE.get xs i x hx pad j v hj⟩
theorem Row.freeze (hE : Enc enc sz) (h : Row e enc sz a c xs it) {w : World} {Bs : List Blk} {F : Mem} (ho : Own w (it ++ Bs) F) : Own w Bs (plus F it) ∧ Sl (plus F it) enc sz a c xs :=
  ⟨ho.freeze, h.sl hE fun b hb => plus_mem (ho.sub (List.sublist_append_left _ _)) hb⟩
end
theorem zeroCells_length (z : Array Value) (n : Nat) : (Builtin.zeroCells z n).toList.length = n * z.size := by simp [Builtin.zeroCells]
section
variable {P : Program}
/-- append of cells that can be read, to a row that is owned. -/
theorem run_append_row {α : Type} {t e ty sz bytes : Nat} {g : Bool} {zero : Value} {enc : α → List Value} (hs : Sld P t e sz) (ht : Ty P e sz bytes g zero) (hz : zero.cells.size = sz) (hE : Enc enc sz)
    {w : World} {T : List Blk} {F : Mem} {a : Option Addr} {c : Nat} {xs ys : List α} {it : Itm} (hr : Row e enc sz a c xs it) (ho : Own w (it ++ T) F)
    {a2 : Option Addr} {c2 : Nat} (hy : ∀ j v, (ys.flatMap enc)[j]? = some v → ∃ ad, a2 = some ad ∧ w.cell? (ad.add j) = some v) (hy0 : a2 = none → ys = [])
    (hsz : (xs.length + ys.length) * bytes ≤ 140737488355328) (hlen : xs.length + ys.length ≤ 9223372036854775807) :
    ∃ a' c' it' w', (Builtin.append_ #[t, t] ty #[.slice a xs.length c, .slice a2 ys.length c2]).run P w = .ok (.slice a' (xs ++ ys).length c') w' ∧ Row e enc sz a' c' (xs ++ ys) it' ∧ Own w' (it' ++ T) F := by
  obtain ⟨i, hi, hiz, hisz, hib⟩ := ht.parts
  have hfirst : ∀ w1 : World, (∀ ad, w1.cell? ad = w.cell? ad) → (Builtin.firstCells sz ys.length (.slice a2 ys.length c2)).run P w1 = .ok (ys.flatMap enc).toArray w1 := by
    intro w1 hw1
    cases a2 with
    | none =>
      have := hy0 rfl
      subst this
      simp [Builtin.firstCells]
    | some ad =>
      exact run_firstCells_some w1 sz ys.length ad _ _ _ (hE.fl ys) fun j v hj => by
        obtain ⟨ad', h1, h2⟩ := hy j v hj
        cases h1
        rw [hw1, h2]
  by_cases hroom : xs.length + ys.length ≤ c
  · -- room
    rcases hr.it with ⟨rfl, rfl, rfl⟩ | ⟨b, pad, rfl, rfl, hp⟩
    · have hx0 : xs = [] := List.eq_nil_of_length_eq_zero (by omega)
      have hy00 : ys = [] := List.eq_nil_of_length_eq_zero (by omega)
      subst hx0; subst hy00
      refine ⟨none, 0, [], w, ?_, Row.nil, ho⟩
      have := hfirst w (fun _ => rfl)
      simp [Builtin.append_, run_underlying hs.un, hs.size, Builtin.lenOf] at this ⊢
      simp [this]
    · have hpl : pad.length = (c - xs.length) * sz := hp
      obtain ⟨w', hst, ho'⟩ := run_storeCells_own (P := P) (xs.length * sz) (ys.flatMap enc) (xs.flatMap enc ++ pad) 0 w T F (by simpa using ho)
        (by rw [List.length_append, hE.fl, hE.fl, hpl, Nat.add_zero]; exact Nat.add_le_add_left (Nat.mul_le_mul_right _ (by omega)) _) (hE.fone ys)
      refine ⟨some ⟨b, 0, none⟩, c, [⟨b, e, (xs ++ ys).flatMap enc ++ pad.drop (ys.length * sz)⟩], w', ?_, ⟨by simpa using hroom, hr.max, .inr ⟨b, _, rfl, rfl, ?_⟩⟩, ?_⟩
      · have := hfirst w (fun _ => rfl)
        have hst' : (storeCells ((⟨b, 0, none⟩ : Addr).add (xs.length * sz)) (ys.flatMap enc)).run P w = .ok () w' := by rw [add_at, Nat.zero_add]; exact hst
        simp [Builtin.append_, run_underlying hs.un, hs.size, Builtin.lenOf, hroom, this, hst']
      · rw [List.length_drop, hpl, List.length_append, ← Nat.sub_mul]
        congr 1
        omega
      · have e1 : (xs.flatMap enc ++ pad).take (xs.length * sz) = xs.flatMap enc := by
          rw [hE.take xs pad _ (Nat.le_refl _), List.take_length]
        have e2 : (xs.flatMap enc ++ pad).drop (xs.length * sz + ys.length * sz) = pad.drop (ys.length * sz) := by
          rw [← List.drop_drop, hE.drop xs pad _ (Nat.le_refl _), List.drop_length]; rfl
        simp only [Nat.add_zero] at ho'
        rw [e1, hE.fl ys, e2] at ho'
        simpa [List.flatMap_append, List.append_assoc] using ho'
  · -- a new block
    have hgrow : c < xs.length + ys.length := by omega
    have hfit := growslice_fits hgrow hsz
    have hold : ∀ w1 : World, (∀ ad, w1.cell? ad = w.cell? ad) → (Builtin.firstCells sz xs.length (.slice a xs.length c)).run P w1 = .ok (xs.flatMap enc).toArray w1 := by
      intro w1 hw1
      rcases hr.it with ⟨rfl, rfl, rfl⟩ | ⟨b, pad, rfl, rfl, hp⟩
      · have hx0 : xs = [] := List.eq_nil_of_length_eq_zero (by have := hr.cap; omega)
        subst hx0
        simp [Builtin.firstCells]
      · exact run_firstCells_some w1 sz xs.length _ _ _ _ (hE.fl xs) fun j v hj => by
          rw [hw1, add_at, Nat.zero_add, ho.cell (List.mem_append_left _ (List.mem_singleton_self _)), List.getElem?_append_left (List.getElem?_eq_some_iff.1 hj).1]
          exact hj
    have h1 := hold w.drew fun _ => rfl
    have h2 := hfirst w.drew fun _ => rfl
    have hn : ¬ (xs.length + ys.length ≤ c) := hroom
    have h63 : ¬ (9223372036854775807 < ((xs.length : Int) + (ys.length : Int))) := by omega
    have h48 : ¬ (281474976710656 < Builtin.nextslicecap (xs.length + ys.length) c * bytes) := by omega
    obtain ⟨C, hC⟩ : ∃ C, C = grownCap w (xs.length + ys.length) c e := ⟨_, rfl⟩
    have hC1 : xs.length + ys.length ≤ C := by rw [hC]; exact grownCap_ge w _ c e
    have hC2 : C ≤ 9223372036854775807 := by
      have := grownCap_le_maxLen w (xs.length + ys.length) c e (by unfold maxLen; omega)
      rw [← hC] at this
      unfold maxLen at this
      omega
    have ho1 : Own w.drew T F := (ho.sub (List.sublist_append_right _ _)).drew
    refine ⟨some ⟨w.heap.size, 0, none⟩, C, [⟨w.heap.size, e, (xs ++ ys).flatMap enc ++ (Builtin.zeroCells zero.cells (C - (xs.length + ys.length))).toList⟩], _, ?_, ⟨by simpa using hC1, hC2, .inr ⟨_, _, rfl, rfl, ?_⟩⟩, ho1.alloc e _⟩
    · have hm : ((xs.flatMap enc).toArray ++ (ys.flatMap enc).toArray ++ Builtin.zeroCells zero.cells (C - (xs.length + ys.length))) = ((xs ++ ys).flatMap enc ++ (Builtin.zeroCells zero.cells (C - (xs.length + ys.length))).toList).toArray := by
        apply Array.ext'
        simp [List.flatMap_append]
      rw [← hm]
      rw [hC]
      simp [Builtin.append_, run_underlying hs.un, hs.size, Builtin.lenOf, hn, h63, typeInfo, hi, hib, h48, Question.forced, h1, h2, zeroValue, hiz, newRow, grownCap]
      congr 2
      apply Array.ext'
      simp [List.append_assoc]
    · rw [zeroCells_length, hz, List.length_append]
section
variable {env : Env} {L : List Itm} {F : Mem} {d : Option Tmp} {pos : String} {af : Array Edge} {gd : Option (Nat × Bool)} {α : Type} {t e ty sz bytes : Nat} {g : Bool} {zero : Value} {enc : α → List Value} {x y : Operand} {a a2 : Option Addr} {c c2 m2 : Nat} {xs : List α} {it : Itm}
/-- What an append leaves. -/
def grown (e : TypeId) (enc : α → List Value) (sz : Nat) (F : Mem) (zs : List α) (f : Itm → List Itm) (v : Value) (M : List Itm) (G : Mem) : Prop := ∃ a c it, v = .slice a zs.length c ∧ Row e enc sz a c zs it ∧ M = f it ∧ G = F
theorem builtin_append_run {w : World} {u v r : Value} {w' : World} {n : Nat} {act : Act} {ts : Array TypeId} (hh : Has n env act) (hx : ev env x = some u) (hy : ev env y = some v) (h : (Builtin.append_ ts ty #[u, v]).run P w = .ok r w') :
    (execOp act.eval ⟨d, .call ⟨.builtin .append, #[x, y], ts⟩, ty, pos, af, gd⟩).run P w = .ok (.value r) w' := by
  have e' : (execOp act.eval ⟨d, .call ⟨.builtin .append, #[x, y], ts⟩, ty, pos, af, gd⟩) = (do pure (.value (← Builtin.append_ ts ty #[act.eval x, act.eval y]))) := by simp [execOp, resolve, invoke, builtin]
  rw [e', hh.eval hx, hh.eval hy, Sem.run_bind, h]
  rfl
/-- append(s, x): the element lies in a block of its own. -/
theorem Op1.app1 {b : Nat} (el : α) (hs : Sld P t e sz) (ht : Ty P e sz bytes g zero) (hz : zero.cells.size = sz) (hE : Enc enc sz) (hx : ev env x = some (.slice a xs.length c)) (hy : ev env y = some (.slice (some ⟨b, 0, none⟩) 1 1))
    (hr : Row e enc sz a c xs it) (hi : Inn [⟨b, e, enc el⟩] L) (hsz : (xs.length + 1) * bytes ≤ 140737488355328) (hlen : xs.length + 1 ≤ 9223372036854775807) (f : Itm → List Itm) (hu : ∀ it', Upd it it' L (f it')) :
    Op1 P ⟨d, .call ⟨.builtin .append, #[x, y], #[t, t]⟩, ty, pos, af, gd⟩ env L F (grown e enc sz F (xs ++ [el]) f) :=
  .of fun n act w R hh ho => by
    obtain ⟨T, p1, _⟩ := (hu it).perm
    obtain ⟨a', c', it', w', h1, h2, h3⟩ := run_append_row (ty := ty) (w := w) (T := T ++ R) (F := F) (ys := [el]) (a2 := some ⟨b, 0, none⟩) (c2 := 1) hs ht hz hE hr (by rw [← List.append_assoc]; exact ho.perm (p1.append_right R))
      (fun j v hj => ⟨_, rfl, by rw [add_at, ho.cell (hi.one R), Nat.zero_add]; simpa using hj⟩) (fun h => by cases h) hsz hlen
    obtain ⟨T', q1, q2⟩ := (hu it').perm
    refine ⟨_, w', f it', F, builtin_append_run hh hx hy h1, Le.rfl, ⟨a', c', it', rfl, h2, rfl, rfl⟩, ?_⟩
    have hTT : T.Perm T' := by
      have := p1.symm.trans q1
      exact (List.perm_append_left_iff it).1 this
    rw [← List.append_assoc] at h3
    exact h3.perm (((hTT.append_left it').append_right R).trans (q2.append_right R).symm)
/-- append(s, ys...): the elements lie in memory that is never changed. -/
theorem Op1.apps {ys : List α} (hs : Sld P t e sz) (ht : Ty P e sz bytes g zero) (hz : zero.cells.size = sz) (hE : Enc enc sz) (h0 : 0 < sz) (hx : ev env x = some (.slice a xs.length c)) (hy : ev env y = some (.slice a2 ys.length c2))
    (hr : Row e enc sz a c xs it) (hsl : ∀ w R, Own w (L.flatten ++ R) F → ∃ G Bs, Own w Bs G ∧ Sl G enc sz a2 c2 ys) (hsz : (xs.length + ys.length) * bytes ≤ 140737488355328) (hlen : xs.length + ys.length ≤ 9223372036854775807) (f : Itm → List Itm) (hu : ∀ it', Upd it it' L (f it')) :
    Op1 P ⟨d, .call ⟨.builtin .append, #[x, y], #[t, t]⟩, ty, pos, af, gd⟩ env L F (grown e enc sz F (xs ++ ys) f) :=
  .of fun n act w R hh ho => by
    obtain ⟨T, p1, _⟩ := (hu it).perm
    obtain ⟨G, Bs, hoG, hS⟩ := hsl w R ho
    obtain ⟨a', c', it', w', h1, h2, h3⟩ := run_append_row (ty := ty) (w := w) (T := T ++ R) (F := F) (ys := ys) (a2 := a2) (c2 := c2) hs ht hz hE hr (by rw [← List.append_assoc]; exact ho.perm (p1.append_right R))
      (fun j v hj => by
        rcases hS.rd with rfl | ⟨b, o, rfl, hrd⟩
        · simp at hj
        · refine ⟨_, rfl, ?_⟩
          have hjl := (List.getElem?_eq_some_iff.1 hj).1
          rw [hE.fl] at hjl
          have hq : j / sz < ys.length := Nat.div_lt_of_lt_mul (by rw [Nat.mul_comm]; exact hjl)
          have hy1 : ys[j / sz]? = some ys[j / sz] := List.getElem?_eq_getElem hq
          have hmod : j % sz < sz := Nat.mod_lt _ h0
          obtain ⟨vv, hel⟩ : ∃ vv, (enc ys[j / sz])[j % sz]? = some vv := ⟨(enc ys[j / sz])[j % sz]'(by rw [hE.len]; exact hmod), List.getElem?_eq_getElem _⟩
          have hsame := hE.get ys (j / sz) _ hy1 [] (j % sz) _ hel
          rw [List.append_nil, show j / sz * sz + j % sz = j by rw [Nat.mul_comm]; exact Nat.div_add_mod j sz, hj] at hsame
          have hc := (hrd _ _ hy1).cell hoG (j := j % sz) hel
          rw [add_at, hsame, ← hc, Nat.add_assoc, show j / sz * sz + j % sz = j by rw [Nat.mul_comm]; exact Nat.div_add_mod j sz]) (fun h => by
        rcases hS.rd with rfl | ⟨b, o, rfl, hrd⟩
        · rfl
        · cases h) hsz hlen
    obtain ⟨T', q1, q2⟩ := (hu it').perm
    refine ⟨_, w', f it', F, builtin_append_run hh hx hy h1, Le.rfl, ⟨a', c', it', rfl, h2, rfl, rfl⟩, ?_⟩
    have hTT : T.Perm T' := by
      have := p1.symm.trans q1
      exact (List.perm_append_left_iff it).1 this
    rw [← List.append_assoc] at h3
    exact h3.perm (((hTT.append_left it').append_right R).trans (q2.append_right R).symm)
/-- An empty slice's literal. -/
theorem Op1.lit0 (hs : Sld P t e sz) : Op1 P ⟨d, .buildSlice t 0 #[], ty, pos, af, gd⟩ env L F (newBlk L F (fun b => .slice (some ⟨b, 0, none⟩) 0 0) e []) :=
  .of fun n a w R hh ho => ⟨_, w.alloc (.cells #[] e (0, 0)), _, F, by
    simp [execOp, Instr.buildSlice, run_underlying hs.un, hs.size, newRow, Instr.fill]
    congr 2
    apply Array.ext'
    simp, Le.rfl, ⟨_, rfl, rfl, rfl⟩, ho.alloc' e []⟩
theorem Row.lit0 {b : Nat} : Row e enc sz (some ⟨b, 0, none⟩) 0 ([] : List α) [⟨b, e, []⟩] := ⟨Nat.le_refl _, by omega, .inr ⟨b, [], rfl, by simp, by simp⟩⟩
end
end
end Go.Proofs.Ytbmpdccoffkjgaa.Ow
