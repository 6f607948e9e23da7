/- The operations that make or change memory; slices; calls; results. -/
import Derived.Test.YtbmpdccoffkjgaaOwn3
namespace Go.Proofs.Ytbmpdccoffkjgaa.Ow
open Go
set_option linter.unusedVariables false
section
variable {P : Program} {env : Env} {L : List Itm} {F : Mem} {d : Option Tmp} {ty : TypeId} {pos : String} {af : Array Edge} {gd : Option (Nat × Bool)}
theorem Op1.of {op : Op} {post : Value → List Itm → Mem → Prop} (h : ∀ n a w R, Has n env a → Own w (L.flatten ++ R) F → ∃ v w' L' F', (execOp a.eval ⟨d, op, ty, pos, af, gd⟩).run P w = .ok (.value v) w' ∧ Le F F' ∧ post v L' F' ∧ Own w' (L'.flatten ++ R) F') :
    Op1 P ⟨d, op, ty, pos, af, gd⟩ env L F post :=
  ⟨fun n a w R K Q hh ho hk => by
    obtain ⟨v, w', L', F', he, hle, hp, ho'⟩ := h n a w R hh ho
    unfold Oper.wp
    rw [he]
    exact hk v L' F' w' hle hp ho'⟩
theorem Op1.ofs {op : Op} {post : Value → List Itm → Mem → Prop} (h : ∀ n a w R, Has n env a → Own w (L.flatten ++ R) F → ∃ w' L' F', (execOp a.eval ⟨d, op, ty, pos, af, gd⟩).run P w = .ok .skip w' ∧ Le F F' ∧ post undef L' F' ∧ Own w' (L'.flatten ++ R) F') :
    Op1 P ⟨d, op, ty, pos, af, gd⟩ env L F post :=
  ⟨fun n a w R K Q hh ho hk => by
    obtain ⟨w', L', F', he, hle, hp, ho'⟩ := h n a w R hh ho
    unfold Oper.wp
    rw [he]
    exact hk undef L' F' w' hle hp ho'⟩
/-- What a new block's making leaves. -/
def newBlk (L : List Itm) (F : Mem) (f : Nat → Value) (t : TypeId) (cs : List Value) (v : Value) (L' : List Itm) (F' : Mem) : Prop := ∃ b, v = f b ∧ L' = [⟨b, t, cs⟩] :: L ∧ F' = F
theorem Own.alloc' {w : World} {R : List Blk} (ho : Own w (L.flatten ++ R) F) (t : TypeId) (cs : List Value) : Own (w.alloc (.cells cs.toArray t (0, 0))) ((([⟨w.heap.size, t, cs⟩] : Itm) :: L).flatten ++ R) F := by
  simpa using ho.alloc t cs
theorem Op1.alloc {t sz bytes : Nat} {g : Bool} {zero : Value} {cs : List Value} (ht : Ty P t sz bytes g zero) (hz : zero.cells = cs.toArray) : Op1 P ⟨d, .alloc t, ty, pos, af, gd⟩ env L F (newBlk L F (fun b => .pointer (some ⟨b, 0, none⟩)) t cs) :=
  .of fun n a w R hh ho => ⟨_, _, _, F, by simp [execOp, Instr.alloc, ht.zeroV, newVar, newRow, hz], Le.rfl, ⟨_, rfl, rfl, rfl⟩, ho.alloc' t cs⟩
theorem Op1.box {t : Nat} {x : Operand} {v : Value} {cs : List Value} (hx : ev env x = some v) (hz : v.cells = cs.toArray) : Op1 P ⟨d, .box t x, ty, pos, af, gd⟩ env L F (newBlk L F (fun b => .pointer (some ⟨b, 0, none⟩)) t cs) :=
  .of fun n a w R hh ho => ⟨_, _, _, F, by simp [execOp, hh.eval hx, Instr.box, newVar, newRow, hz], Le.rfl, ⟨_, rfl, rfl, rfl⟩, ho.alloc' t cs⟩
def evp (env : Env) : List (Nat × Operand) → Option (List (Nat × Value))
  | [] => some []
  | x :: r => match ev env x.2, evp env r with
    | some v, some vs => some ((x.1, v) :: vs)
    | _, _ => none
theorem evp_map {n : Nat} {env : Env} {a : Act} (hh : Has n env a) : ∀ (l : List (Nat × Operand)) (m : List (Nat × Value)), evp env l = some m → l.map (fun x => (x.1, a.eval x.2)) = m
  | [], m, h => by simp [evp] at h; simp [h]
  | x :: l, m, h => by
    simp only [evp] at h
    split at h
    · rename_i v vs h1 h2
      injection h with h
      rw [← h, List.map_cons, evp_map hh l vs h2, hh.eval h1]
    · cases h
/-- A struct's value out of its parts: a run that is known beforehand. -/
theorem OpV.build {t : Nat} {parts : List (Nat × Operand)} {ps : List (Nat × Value)} {v : Value} (hp : evp env parts = some ps) (h : ∀ w, (Instr.build t ps.toArray).run P w = .ok v w) : OpV P ⟨d, .build t parts.toArray, ty, pos, af, gd⟩ env L F v :=
  .of fun n a w R hh _ => by
    have h2 : parts.toArray.map (fun x => (x.1, a.eval x.2)) = ps.toArray := by
      apply Array.toList_inj.1
      rw [Array.toList_map]
      exact evp_map hh _ _ hp
    have e : (execOp a.eval ⟨d, .build t parts.toArray, ty, pos, af, gd⟩) = (do pure (.value (← Instr.build t (parts.toArray.map fun x => (x.1, a.eval x.2))))) := rfl
    rw [e, h2, Sem.run_bind, h]
    rfl
/-- A slice of one element. -/
theorem foldl_set (v : Nat → Value) : ∀ (l : List Value) (c : List Value) (k : Nat), c.length = k + l.length → (l.zipIdx k).foldl (fun (cs : Array Value) x => cs.setIfInBounds x.2 x.1) c.toArray = (c.take k ++ l).toArray := by
  intro l
  induction l with
  | nil => intro c k hc; simp at hc; rw [List.take_of_length_le (by omega)]; simp
  | cons y l ih =>
    intro c k hc
    simp only [List.length_cons] at hc
    rw [List.zipIdx_cons, List.foldl_cons]
    show List.foldl _ (c.toArray.setIfInBounds k y) _ = _
    rw [List.setIfInBounds_toArray, ih (c.set k y) (k + 1) (by simp; omega)]
    congr 1
    rw [List.take_set, List.take_succ_eq_append_getElem (by omega), List.set_append_right _ _ (by simp; omega)]
    have : k - (c.take k).length = 0 := by simp; omega
    rw [this]
    simp
theorem fill_one {sz : Nat} {v : Value} {cs : List Value} {z : Array Value} (hv : v.cells = cs.toArray) (hl : cs.length = sz) (hz : z.size = sz) : Instr.fill (fun i => some (i * sz, sz)) z [(0, v)] = some cs.toArray := by
  simp only [Instr.fill]
  have e1 : v.cells.size = sz := by rw [hv]; simpa using hl
  have e2 : v.cells.zipIdx.foldl (fun cs x => cs.setIfInBounds (0 * sz + x.2) x.1) z = cs.toArray := by
    rw [hv, ← Array.foldl_toList]
    simp only [Nat.zero_mul, Nat.zero_add]
    have h3 := foldl_set (fun _ => v) cs z.toList 0 (by simp; omega)
    simpa using h3
  rw [if_neg (by simp [e1]; omega), e2]
theorem Op1.lit1 {t e sz bytes : Nat} {g : Bool} {zero : Value} {x : Operand} {v : Value} {cs : List Value} (hs : Sld P t e sz) (ht : Ty P e sz bytes g zero) (h0 : (sz == 0) = false) (hx : ev env x = some v) (hv : v.cells = cs.toArray) (hl : cs.length = sz) (hsm : Nat.ble sz 16777216 = true) :
    Op1 P ⟨d, .buildSlice t 1 #[(0, x)], ty, pos, af, gd⟩ env L F (newBlk L F (fun b => .slice (some ⟨b, 0, none⟩) 1 1) e cs) :=
  .of fun n a w R hh ho => ⟨_, _, _, F, by
    have h1 : ¬ (16777216 < sz) := by have := Nat.le_of_ble_eq_true hsm; omega
    have h0' : sz ≠ 0 := by simpa using h0
    have hf := fill_one (z := (Array.range (1 * sz)).map (fun x => zero.cells[x % zero.cells.size]!)) hv hl (by simp)
    simp only [Nat.one_mul] at hf
    simp [execOp, hh.eval hx, Instr.buildSlice, run_underlying hs.un, hs.size, h1, h0', ht.zeroV, hf, newRow]
    done, Le.rfl, ⟨_, rfl, rfl, rfl⟩, ho.alloc' e cs⟩
/-- What a store leaves. -/
def stored (L' : List Itm) (F : Mem) (v : Value) (M : List Itm) (G : Mem) : Prop := v = undef ∧ M = L' ∧ G = F
/-- Cells in the middle of a block that is owned are stored. -/
theorem Op1.stp {t sz bytes : Nat} {g : Bool} {zero : Value} {x y : Operand} {v : Value} {vs cs cs' : List Value} {b o bt : Nat} {L' : List Itm} (ht : Ty P t sz bytes g zero) (hx : ev env x = some (.pointer (some ⟨b, o, none⟩))) (hy : ev env y = some v)
    (hv : v.cells = vs.toArray) (hl : vs.length = sz) (h1 : ∀ u ∈ vs, u.oneCell' = true) (hb : o + sz ≤ cs.length) (hc : cs' = cs.take o ++ vs ++ cs.drop (o + sz)) (hu : Upd [⟨b, bt, cs⟩] [⟨b, bt, cs'⟩] L L') :
    Op1 P ⟨d, .store t x y, ty, pos, af, gd⟩ env L F (stored L' F) :=
  .ofs fun n a w R hh ho => by
    obtain ⟨T, p1, p2⟩ := hu.perm
    have ho1 : Own w (⟨b, bt, cs⟩ :: (T ++ R)) F := by
      have := ho.perm (p1.append_right R)
      simpa using this
    obtain ⟨w', hr, ho2⟩ := run_storeCells_own (P := P) o vs cs 0 w _ F ho1 (by omega) h1
    refine ⟨w', L', F, ?_, Le.rfl, ⟨rfl, rfl, rfl⟩, ?_⟩
    · have e : (execOp a.eval ⟨d, .store t x y, ty, pos, af, gd⟩) = (do Instr.storeAt t (a.eval x) (a.eval y); pure .skip) := rfl
      rw [e, hh.eval hx, hh.eval hy]
      have : v.cells.size = sz := by rw [hv]; simpa using hl
      have hvl : v.cells.toList = vs := by rw [hv]
      simp [Instr.storeAt, Instr.sureAddr, storeVar, ht.size, this, hvl, hr]
    · have : Own w' ((⟨b, bt, cs'⟩ : Blk) :: (T ++ R)) F := by rw [hc, ← hl]; simpa using ho2
      exact this.perm (by simpa using (p2.append_right R).symm)
/-- One cell of a list is another one. -/
inductive SetAt (v : Value) : List Value → Nat → List Value → Prop
  | here {x : Value} {T : List Value} : SetAt v (x :: T) 0 (v :: T)
  | there {x : Value} {T T' : List Value} {i : Nat} : SetAt v T i T' → SetAt v (x :: T) (i + 1) (x :: T')
theorem SetAt.eq {v : Value} {l l' : List Value} {i : Nat} (h : SetAt v l i l') : l' = l.set i v ∧ i < l.length := by
  induction h with
  | here => simp
  | there _ ih => exact ⟨by simp [ih.1], by simp; omega⟩
theorem st0 {v a : Value} {T : List Value} : SetAt v (a :: T) 0 (v :: T) := .here
theorem st1 {v a b : Value} {T : List Value} : SetAt v (a :: b :: T) 1 (a :: v :: T) := .there .here
theorem st2 {v a b c : Value} {T : List Value} : SetAt v (a :: b :: c :: T) 2 (a :: b :: v :: T) := .there (.there .here)
theorem st3 {v a b c d : Value} {T : List Value} : SetAt v (a :: b :: c :: d :: T) 3 (a :: b :: c :: v :: T) := .there (.there (.there .here))
theorem st4 {v a b c d e : Value} {T : List Value} : SetAt v (a :: b :: c :: d :: e :: T) 4 (a :: b :: c :: d :: v :: T) := .there (.there (.there (.there .here)))
/-- One cell of a block that is owned is stored. -/
theorem Op1.stb {t bytes : Nat} {zero : Value} {x y : Operand} {v : Value} {cs cs' : List Value} {b o bt : Nat} {L' : List Itm} (ht : Ty P t 1 bytes false zero) (hx : ev env x = some (.pointer (some ⟨b, o, none⟩))) (hy : ev env y = some v)
    (h1 : v.oneCell' = true) (hc : SetAt v cs o cs') (hu : Upd [⟨b, bt, cs⟩] [⟨b, bt, cs'⟩] L L') : Op1 P ⟨d, .store t x y, ty, pos, af, gd⟩ env L F (stored L' F) := by
  obtain ⟨hc, hlt⟩ := hc.eq
  refine Op1.stp (vs := [v]) ht hx hy (by cases v <;> simp [Value.oneCell'] at h1 <;> rfl) rfl (by simpa using h1) (by omega) ?_ hu
  rw [hc, List.set_eq_take_append_cons_drop, if_pos hlt]
  simp
/-- A whole block that is owned is stored. -/
theorem Op1.stw {t sz bytes : Nat} {zero : Value} {x y : Operand} {vs cs : List Value} {b bt : Nat} {L' : List Itm} (ht : Ty P t sz bytes true zero) (hx : ev env x = some (.pointer (some ⟨b, 0, none⟩))) (hy : ev env y = some (.agg vs.toArray))
    (h1 : vs.all (·.oneCell') = true) (hb : cs.length = sz) (hl : vs.length = sz) (hu : Upd [⟨b, bt, cs⟩] [⟨b, bt, vs⟩] L L') : Op1 P ⟨d, .store t x y, ty, pos, af, gd⟩ env L F (stored L' F) := by
  refine Op1.stp (vs := vs) ht hx hy rfl hl (fun u hu' => List.all_eq_true.1 h1 u hu') (by omega) ?_ hu
  rw [List.drop_of_length_le (by omega)]
  simp
/-! #### Slices of slices, of texts; bytes of texts -/
section
variable {t e sz : Nat} {x y z : Operand}
theorem bound_ok {k : IntKind} {i : Int} {m : Nat} {c : BoundsCode} {w : World} (h : 0 ≤ i ∧ i ≤ m) : (Instr.sliceBound (.int k i) m c).run P w = .ok i.toNat w := by
  simp [Instr.sliceBound, asIntOf, h]
/-- s[i:] of a slice, within its length. -/
theorem OpV.slFrom {a : Option Addr} {m c : Nat} {k : IntKind} {i : Int} (hs : Sld P t e sz) (hx : ev env x = some (.slice a m c)) (hy : ev env y = some (.int k i)) (h : 0 ≤ i ∧ i ≤ m) :
    OpV P ⟨d, .slice t x (some y) none none, ty, pos, af, gd⟩ env L F (.slice (if c = i.toNat then a else a.map (·.add (i.toNat * sz))) (m - i.toNat) (c - i.toNat)) :=
  .of fun n a' w R hh _ => by
    have e' : (execOp a'.eval ⟨d, .slice t x (some y) none none, ty, pos, af, gd⟩) = (do pure (.value (← Instr.sliceAt t (a'.eval x) (some (a'.eval y)) none none))) := rfl
    rw [e', hh.eval hx, hh.eval hy]
    simp [Instr.sliceAt, Instr.slice, run_underlying hs.un, Instr.sliceBounds, bound_ok h, hs.size]
/-- s[:i] of a slice, within its capacity. -/
theorem OpV.slTo {a : Option Addr} {m c : Nat} {k : IntKind} {i : Int} (hs : Sld P t e sz) (hx : ev env x = some (.slice a m c)) (hy : ev env y = some (.int k i)) (h : 0 ≤ i ∧ i ≤ c) :
    OpV P ⟨d, .slice t x none (some y) none, ty, pos, af, gd⟩ env L F (.slice a i.toNat c) :=
  .of fun n a' w R hh _ => by
    have e' : (execOp a'.eval ⟨d, .slice t x none (some y) none, ty, pos, af, gd⟩) = (do pure (.value (← Instr.sliceAt t (a'.eval x) none (some (a'.eval y)) none))) := rfl
    rw [e', hh.eval hx, hh.eval hy]
    have : (if c = 0 then a else Option.map (fun x => x.add 0) a) = a := by split; rfl; cases a <;> simp [add_zero]
    simp [Instr.sliceAt, Instr.slice, run_underlying hs.un, Instr.sliceBounds, bound_ok h, hs.size, this]
/-- s[i:j] of a slice, within its capacity. -/
theorem OpV.slIn {a : Option Addr} {m c : Nat} {k k' : IntKind} {i j : Int} (hs : Sld P t e sz) (hx : ev env x = some (.slice a m c)) (hy : ev env y = some (.int k i)) (hz : ev env z = some (.int k' j)) (h : 0 ≤ i ∧ i ≤ j ∧ j ≤ c) :
    OpV P ⟨d, .slice t x (some y) (some z) none, ty, pos, af, gd⟩ env L F (.slice (if c = i.toNat then a else a.map (·.add (i.toNat * sz))) (j.toNat - i.toNat) (c - i.toNat)) :=
  .of fun n a' w R hh _ => by
    have e' : (execOp a'.eval ⟨d, .slice t x (some y) (some z) none, ty, pos, af, gd⟩) = (do pure (.value (← Instr.sliceAt t (a'.eval x) (some (a'.eval y)) (some (a'.eval z)) none))) := rfl
    rw [e', hh.eval hx, hh.eval hy, hh.eval hz]
    simp [Instr.sliceAt, Instr.slice, run_underlying hs.un, Instr.sliceBounds, bound_ok (P := P) (i := j) (m := c) ⟨by omega, h.2.2⟩, bound_ok (P := P) (i := i) (m := j.toNat) ⟨h.1, by omega⟩, hs.size]
theorem OpV.slIn3 {u : Operand} {a : Option Addr} {m c : Nat} {k k' k'' : IntKind} {i j l : Int} (hs : Sld P t e sz) (hx : ev env x = some (.slice a m c)) (hy : ev env y = some (.int k i)) (hz : ev env z = some (.int k' j)) (hu : ev env u = some (.int k'' l)) (h : 0 ≤ i ∧ i ≤ j ∧ j ≤ l ∧ l ≤ c) :
    OpV P ⟨d, .slice t x (some y) (some z) (some u), ty, pos, af, gd⟩ env L F (.slice (if l.toNat = i.toNat then a else a.map (·.add (i.toNat * sz))) (j.toNat - i.toNat) (l.toNat - i.toNat)) :=
  .of fun n a' w R hh _ => by
    have e' : (execOp a'.eval ⟨d, .slice t x (some y) (some z) (some u), ty, pos, af, gd⟩) = (do pure (.value (← Instr.sliceAt t (a'.eval x) (some (a'.eval y)) (some (a'.eval z)) (some (a'.eval u))))) := rfl
    rw [e', hh.eval hx, hh.eval hy, hh.eval hz, hh.eval hu]
    simp [Instr.sliceAt, Instr.slice, run_underlying hs.un, Instr.sliceBounds, bound_ok (P := P) (i := l) (m := c) ⟨by omega, h.2.2.2⟩, bound_ok (P := P) (i := j) (m := l.toNat) ⟨by omega, by omega⟩, bound_ok (P := P) (i := i) (m := j.toNat) ⟨h.1, by omega⟩, hs.size]
theorem OpV.txTo {s : ByteArray} {k : IntKind} {i : Int} (hu : P.underlying t = some .string) (hx : ev env x = some (.string s)) (hy : ev env y = some (.int k i)) (h : 0 ≤ i ∧ i ≤ s.size) :
    OpV P ⟨d, .slice t x none (some y) none, ty, pos, af, gd⟩ env L F (.string (s.extract 0 i.toNat)) :=
  .of fun n a' w R hh _ => by
    have e' : (execOp a'.eval ⟨d, .slice t x none (some y) none, ty, pos, af, gd⟩) = (do pure (.value (← Instr.sliceAt t (a'.eval x) none (some (a'.eval y)) none))) := rfl
    rw [e', hh.eval hx, hh.eval hy]
    simp [Instr.sliceAt, Instr.slice, run_underlying hu, Instr.sliceBounds, bound_ok h]
theorem OpV.txFrom {s : ByteArray} {k : IntKind} {i : Int} (hu : P.underlying t = some .string) (hx : ev env x = some (.string s)) (hy : ev env y = some (.int k i)) (h : 0 ≤ i ∧ i ≤ s.size) :
    OpV P ⟨d, .slice t x (some y) none none, ty, pos, af, gd⟩ env L F (.string (s.extract i.toNat s.size)) :=
  .of fun n a' w R hh _ => by
    have e' : (execOp a'.eval ⟨d, .slice t x (some y) none none, ty, pos, af, gd⟩) = (do pure (.value (← Instr.sliceAt t (a'.eval x) (some (a'.eval y)) none none))) := rfl
    rw [e', hh.eval hx, hh.eval hy]
    simp [Instr.sliceAt, Instr.slice, run_underlying hu, Instr.sliceBounds, bound_ok h]
theorem OpV.txIn {s : ByteArray} {k k' : IntKind} {i j : Int} (hu : P.underlying t = some .string) (hx : ev env x = some (.string s)) (hy : ev env y = some (.int k i)) (hz : ev env z = some (.int k' j)) (h : 0 ≤ i ∧ i ≤ j ∧ j ≤ s.size) :
    OpV P ⟨d, .slice t x (some y) (some z) none, ty, pos, af, gd⟩ env L F (.string (s.extract i.toNat j.toNat)) :=
  .of fun n a' w R hh _ => by
    have e' : (execOp a'.eval ⟨d, .slice t x (some y) (some z) none, ty, pos, af, gd⟩) = (do pure (.value (← Instr.sliceAt t (a'.eval x) (some (a'.eval y)) (some (a'.eval z)) none))) := rfl
    rw [e', hh.eval hx, hh.eval hy, hh.eval hz]
    simp [Instr.sliceAt, Instr.slice, run_underlying hu, Instr.sliceBounds, bound_ok (P := P) (i := j) (m := s.size) ⟨by omega, h.2.2⟩, bound_ok (P := P) (i := i) (m := j.toNat) ⟨h.1, by omega⟩]
theorem OpV.byte {s : ByteArray} {k : IntKind} {i : Int} (j : Nat) (hu : P.underlying t = some .string) (hx : ev env x = some (.string s)) (hy : ev env y = some (.int k i)) (h : i = j ∧ j < s.size) :
    OpV P ⟨d, .index t x y, ty, pos, af, gd⟩ env L F (.int .u8 (s.data.toList.getD j 0).toNat) :=
  .of fun n a' w R hh _ => by
    obtain ⟨rfl, hj⟩ := h
    have e' : (execOp a'.eval ⟨d, .index t x y, ty, pos, af, gd⟩) = (do pure (.value (← Instr.index t (a'.eval x) (a'.eval y)))) := rfl
    rw [e', hh.eval hx, hh.eval hy, Sem.run_bind, run_index_string w t s k j hu, dif_pos ⟨by omega, by omega⟩]
    have : s.data.toList.getD j 0 = s[j] := by
      have : s.data.size = s.size := rfl
      rw [List.getD_eq_getElem?_getD, List.getElem?_eq_getElem (by rw [Array.length_toList]; omega)]
      rfl
    rw [this]
    rfl
end
/-! #### Calls -/
def evs (env : Env) : List Operand → Option (List Value)
  | [] => some []
  | x :: r => match ev env x, evs env r with
    | some v, some vs => some (v :: vs)
    | _, _ => none
theorem evs_map {n : Nat} {env : Env} {a : Act} (hh : Has n env a) : ∀ (l : List Operand) (m : List Value), evs env l = some m → l.map a.eval = m
  | [], m, h => by simp [evs] at h; simp [h]
  | x :: l, m, h => by
    simp only [evs] at h
    split at h
    · rename_i v vs h1 h2
      injection h with h
      rw [← h, List.map_cons, evs_map hh l vs h2, hh.eval h1]
    · cases h
theorem evs_arr {n : Nat} {env : Env} {a : Act} (hh : Has n env a) {l : List Operand} {m : List Value} (h : evs env l = some m) : (l.toArray).map a.eval = m.toArray := by
  apply Array.toList_inj.1
  rw [Array.toList_map]
  exact evs_map hh l m h
theorem Op1.call {f : FuncId} {xs : List Operand} {ats : Array TypeId} {args : List Value} {L' : List Itm} {post : Value → List Itm → Mem → Prop} {fo : Operand} (hf : ev env fo = some (.func (.func f) #[] #[]))
    (hxs : evs env xs = some args) (hr : ∀ w, (callFunc f args.toArray).run P w = .ok (.enter f args.toArray) w) (h : Fn P f args.toArray L' F post) (L0 : List Itm) (hL : L = L' ++ L0) :
    Op1 P ⟨d, .call ⟨.value fo, xs.toArray, ats⟩, ty, pos, af, gd⟩ env L F (fun v M G => ∃ M', M = M' ++ L0 ∧ post v M' G) :=
  ⟨fun n a w R K Q hh ho hk => by
    have hm := evs_arr hh hxs
    have e : (execOp a.eval ⟨d, .call ⟨.value fo, xs.toArray, ats⟩, ty, pos, af, gd⟩).run P w = .ok (.enter f args.toArray) w := by
      have : (execOp a.eval ⟨d, .call ⟨.value fo, xs.toArray, ats⟩, ty, pos, af, gd⟩) = (do let dd ← Deferred.ofValue (a.eval fo) (xs.toArray.map a.eval); invoke dd.target dd.args) := rfl
      rw [this, hm, hh.eval hf]
      simp [Deferred.ofValue, invoke, hr]
    unfold Oper.wp
    rw [e]
    subst hL
    refine (h.run w (L0.flatten ++ R) (by simpa [List.append_assoc] using ho)).mono ?_
    rintro e w' ⟨v, M, G, rfl, hle, hp, ho'⟩
    exact hk v (M ++ L0) G w' hle ⟨M, rfl, hp⟩ (by simpa [List.append_assoc] using ho')⟩
/-- A call that is lent all that is owned, and answers a value that hangs on nothing of it. -/
theorem OpV.call {f : FuncId} {xs : List Operand} {ats : Array TypeId} {args : List Value} {fo : Operand} {v : Value} (hf : ev env fo = some (.func (.func f) #[] #[]))
    (hxs : evs env xs = some args) (hr : ∀ w, (callFunc f args.toArray).run P w = .ok (.enter f args.toArray) w)
    (h : ∀ G, Le F G → (∀ b ∈ L.flatten, G b.id = some b.obj) → Fn P f args.toArray [] G (fun u _ _ => u = v)) :
    OpV P ⟨d, .call ⟨.value fo, xs.toArray, ats⟩, ty, pos, af, gd⟩ env L F v :=
  ⟨fun n a w R K Q hh ho hk => by
    have hm := evs_arr hh hxs
    have e : (execOp a.eval ⟨d, .call ⟨.value fo, xs.toArray, ats⟩, ty, pos, af, gd⟩).run P w = .ok (.enter f args.toArray) w := by
      have : (execOp a.eval ⟨d, .call ⟨.value fo, xs.toArray, ats⟩, ty, pos, af, gd⟩) = (do let dd ← Deferred.ofValue (a.eval fo) (xs.toArray.map a.eval); invoke dd.target dd.args) := rfl
      rw [this, hm, hh.eval hf]
      simp [Deferred.ofValue, invoke, hr]
    unfold Oper.wp
    rw [e]
    have hG := h (plus F L.flatten) (plus_le F _) (fun b hb => plus_mem (ho.sub (List.sublist_append_left _ _)) hb)
    refine (hG.run w R (by simpa using ho.freeze)).mono ?_
    rintro e w' ⟨u, M, G, rfl, hle, rfl, ho'⟩
    obtain ⟨h1, h2⟩ := (ho'.sub (List.sublist_append_right _ _)).thaw hle ho
    exact hk w' (h1.le h2)⟩
end
end Go.Proofs.Ytbmpdccoffkjgaa.Ow
