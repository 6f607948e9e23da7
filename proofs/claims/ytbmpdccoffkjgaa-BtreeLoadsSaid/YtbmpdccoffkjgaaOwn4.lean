/- One rule for each kind of operation. -/
import Derived.Test.YtbmpdccoffkjgaaOwn2
import Derived.Laws.Strings
import Derived.Laws.BitsLemmas
import Derived.Laws.AppendOwn
namespace Go.Proofs.Ytbmpdccoffkjgaa.Ow
open Go
set_option linter.unusedVariables false
/-- What is known of a type. -/
structure Ty (P : Program) (t : TypeId) (sz bytes : Nat) (agg : Bool) (zero : Value) : Prop where
  info : (P.info? t).map (fun i => (i.zero, i.size, i.bytes)) = some (some zero, sz, bytes)
  agg : ∀ w, (isAgg t).run P w = .ok agg w
section
variable {P : Program} {t : TypeId} {sz bytes : Nat} {g : Bool} {zero : Value}
theorem Ty.parts (h : Ty P t sz bytes g zero) : ∃ i, P.info? t = some i ∧ i.zero = some zero ∧ i.size = sz ∧ i.bytes = bytes := by
  obtain ⟨i, hi, e⟩ := Option.map_eq_some_iff.1 h.info
  simp only [Prod.mk.injEq] at e
  exact ⟨i, hi, e.1, e.2.1, e.2.2⟩
theorem Ty.size (h : Ty P t sz bytes g zero) (w : World) : (sizeOf t).run P w = .ok sz w := by
  obtain ⟨i, hi, _, h2, _⟩ := h.parts
  simp [sizeOf, typeInfo, hi, h2]
theorem Ty.zeroV (h : Ty P t sz bytes g zero) (w : World) : (zeroValue t).run P w = .ok zero w := by
  obtain ⟨i, hi, h1, _, _⟩ := h.parts
  simp [zeroValue, typeInfo, hi, h1]
theorem run_storeCells_own {b t : Nat} (off : Nat) : ∀ (vs cs : List Value) (k : Nat) (w : World) (Bs : List Blk) (F : Mem), Own w (⟨b, t, cs⟩ :: Bs) F → off + k + vs.length ≤ cs.length → (∀ v ∈ vs, v.oneCell' = true) →
    ∃ w', (storeCells ⟨b, off, none⟩ vs k).run P w = .ok () w' ∧ Own w' (⟨b, t, cs.take (off + k) ++ vs ++ cs.drop (off + k + vs.length)⟩ :: Bs) F
  | [], cs, k, w, Bs, F, ho, hl, _ => ⟨w, rfl, by simpa using ho⟩
  | v :: vs, cs, k, w, Bs, F, ho, hl, h1 => by
    have ha : (⟨b, off, none⟩ : Addr).add k = ⟨b, off + k, none⟩ := by unfold Addr.add; split <;> simp [*]
    have hm := List.mem_cons_self (a := (⟨b, t, cs⟩ : Blk)) (l := Bs)
    have hlt : off + k < cs.length := by simp at hl; omega
    have hc : w.cell? ⟨b, off + k, none⟩ = some cs[off + k] := by rw [ho.cell hm, List.getElem?_eq_getElem hlt]
    have hf := ho.free hm (off + k)
    obtain ⟨w', hr, ho'⟩ := run_storeCells_own off vs (cs.set (off + k) v) (k + 1) (w.setCell ⟨b, off + k, none⟩ v) Bs F (ho.set _ v) (by simp at hl ⊢; omega) (fun u hu => h1 u (List.mem_cons_of_mem _ hu))
    refine ⟨w', ?_, ?_⟩
    · simp only [storeCells, Sem.run_bind, ha, run_store P w _ v _ (h1 v (List.mem_cons_self ..)), hc, hf, Result.andThen]
      exact hr
    · have e : (cs.set (off + k) v).take (off + (k + 1)) ++ vs ++ (cs.set (off + k) v).drop (off + (k + 1) + vs.length) = cs.take (off + k) ++ v :: vs ++ cs.drop (off + k + (v :: vs).length) := by
        rw [show off + (k + 1) = off + k + 1 by omega, List.take_set, List.take_succ_eq_append_getElem hlt, List.set_append_right _ _ (by simp; omega)]
        rw [List.drop_set_of_lt (by omega)]
        have : off + k - (cs.take (off + k)).length = 0 := by simp; omega
        rw [this]
        simp [List.append_assoc, Nat.add_assoc, Nat.add_comm 1]
      rw [e] at ho'
      exact ho'
end
/-! ### Memory that never changes, as rows -/
structure Rd (F : Mem) (b o : Nat) (row : List Value) : Prop where
  rd : ∃ cs ty fr, F b = some (.cells cs ty fr) ∧ ∀ j v, row[j]? = some v → cs[o + j]? = some v
theorem Rd.mono {F G : Mem} {b o : Nat} {row : List Value} (h : Rd F b o row) (hle : Le F G) : Rd G b o row :=
  let ⟨cs, ty, fr, h1, h2⟩ := h.rd
  ⟨cs, ty, fr, hle.le _ _ h1, h2⟩
theorem Rd.cell {F : Mem} {b o : Nat} {row : List Value} (h : Rd F b o row) {w : World} {Bs : List Blk} (ho : Own w Bs F) {j : Nat} {v : Value} (hj : row[j]? = some v) : w.cell? ⟨b, o + j, none⟩ = some v := by
  obtain ⟨cs, ty, fr, h1, h2⟩ := h.rd
  simp [World.cell?, ho.fr _ _ h1, h2 j v hj]
structure Sl {α : Type} (F : Mem) (enc : α → List Value) (sz : Nat) (a : Option Addr) (c : Nat) (xs : List α) : Prop where
  cap : xs.length ≤ c
  max : c ≤ 9223372036854775807
  rd : xs = [] ∨ ∃ b o, a = some ⟨b, o, none⟩ ∧ ∀ i x, xs[i]? = some x → Rd F b (o + i * sz) (enc x)
theorem Sl.mono {α : Type} {F G : Mem} {enc : α → List Value} {sz : Nat} {a : Option Addr} {c : Nat} {xs : List α} (h : Sl F enc sz a c xs) (hle : Le F G) : Sl G enc sz a c xs :=
  ⟨h.cap, h.max, h.rd.imp id fun ⟨b, o, ha, hr⟩ => ⟨b, o, ha, fun i x hx => (hr i x hx).mono hle⟩⟩
theorem Sl.nil {α : Type} {F : Mem} {enc : α → List Value} {sz : Nat} : Sl F enc sz none 0 ([] : List α) := ⟨Nat.le_refl _, by omega, .inl rfl⟩
theorem Sl.len {α : Type} {F : Mem} {enc : α → List Value} {sz : Nat} {a : Option Addr} {c : Nat} {xs : List α} (h : Sl F enc sz a c xs) : xs.length ≤ 9223372036854775807 := Nat.le_trans h.cap h.max
section
variable {P : Program} {env : Env} {L : List Itm} {F : Mem} {d : Option Tmp} {ty : TypeId} {pos : String} {af : Array Edge} {gd : Option (Nat × Bool)}
theorem OpV.of {op : Op} {v : Value} (h : ∀ n a w R, Has n env a → Own w (L.flatten ++ R) F → (execOp a.eval ⟨d, op, ty, pos, af, gd⟩).run P w = .ok (.value v) w) : OpV P ⟨d, op, ty, pos, af, gd⟩ env L F v :=
  ⟨fun n a w R K Q hh ho hk => by unfold Oper.wp; rw [h n a w R hh ho]; exact hk w ho⟩
theorem OpV.mv {x : Operand} {v : Value} (hx : ev env x = some v) : OpV P ⟨d, .move x, ty, pos, af, gd⟩ env L F v :=
  .of fun n a w R hh _ => by simp [execOp, hh.eval hx]
theorem OpV.asn {x : Operand} {v : Value} (hx : ev env x = some v) : OpV P ⟨d, .assign x, ty, pos, af, gd⟩ env L F v :=
  .of fun n a w R hh _ => by simp [execOp, hh.eval hx]
theorem OpV.pkT {c x y : Operand} {v : Value} (hc : ev env c = some (.bool true)) (hx : ev env x = some v) : OpV P ⟨d, .pick c x y, ty, pos, af, gd⟩ env L F v :=
  .of fun n a w R hh _ => by simp [execOp, hh.eval hc, hh.eval hx, asBool]
theorem OpV.pkF {c x y : Operand} {v : Value} (hc : ev env c = some (.bool false)) (hy : ev env y = some v) : OpV P ⟨d, .pick c x y, ty, pos, af, gd⟩ env L F v :=
  .of fun n a w R hh _ => by simp [execOp, hh.eval hc, hh.eval hy, asBool]
def nth : List Value → Nat → Option Value
  | [], _ => none
  | v :: _, 0 => some v
  | _ :: r, i + 1 => nth r i
theorem nth_eq : ∀ (l : List Value) (i : Nat), nth l i = l[i]?
  | [], _ => by simp [nth]
  | v :: _, 0 => by simp [nth]
  | _ :: r, i + 1 => by simp [nth, nth_eq r i]
theorem OpV.ext {x : Operand} {i : Nat} {vs : List Value} {v : Value} (hx : ev env x = some (.tuple vs.toArray)) (hv : nth vs i = some v) : OpV P ⟨d, .extract x i, ty, pos, af, gd⟩ env L F v :=
  .of fun n a w R hh _ => by rw [nth_eq] at hv; simp [execOp, hh.eval hx, Instr.extract, hv]
theorem OpV.nilc {x : Operand} {a : Addr} (hx : ev env x = some (.pointer (some a))) : OpV P ⟨d, .nilCheck x, ty, pos, af, gd⟩ env L F (.pointer (some a)) :=
  .of fun n a w R hh _ => by simp [execOp, hh.eval hx]
theorem OpV.not {x : Operand} {b : Bool} {xt : TypeId} (hx : ev env x = some (.bool b)) : OpV P ⟨d, .unOp .not xt x, ty, pos, af, gd⟩ env L F (.bool (!b)) :=
  .of fun n a w R hh _ => by simp [execOp, hh.eval hx, Op.unary]
/-! #### Numbers -/
theorem OpV.bin {op : BinOp} {x y : Operand} {xt yt : TypeId} {u v r : Value} (hx : ev env x = some u) (hy : ev env y = some v) (h : ∀ w, (do eqGuard op xt x y u v; binOp op xt u v : Sem Value).run P w = .ok r w) :
    OpV P ⟨d, .binOp op xt x y yt, ty, pos, af, gd⟩ env L F r :=
  .of fun n a w R hh _ => by
    have h1 := h w
    simp only [execOp, hh.eval hx, hh.eval hy, Sem.run_bind] at h1 ⊢
    rw [h1]
    rfl
theorem wrapu_in {z : Int} (h1 : 0 ≤ z) (h2 : z < 18446744073709551616) : IntKind.u64.wrap z = z := by
  simp only [IntKind.wrap, IntKind.bits, IntKind.signed, Bool.false_and, Bool.false_eq_true, if_false]
  omega
theorem wrap_in {z : Int} (h1 : -9223372036854775808 ≤ z) (h2 : z ≤ 9223372036854775807) : IntKind.i64.wrap z = z := by rw [IntKind.wrap_i64]; omega
section
variable {x y : Operand} {xt yt : TypeId} {a b : Int}
theorem OpV.add (hx : ev env x = some (.int .i64 a)) (hy : ev env y = some (.int .i64 b)) (h : -9223372036854775808 ≤ a + b ∧ a + b ≤ 9223372036854775807) : OpV P ⟨d, .binOp .add xt x y yt, ty, pos, af, gd⟩ env L F (.int .i64 (a + b)) :=
  .bin hx hy fun w => by simp [eqGuard, binOp, Op.intArith, wrap_in h.1 h.2]
theorem OpV.sub (hx : ev env x = some (.int .i64 a)) (hy : ev env y = some (.int .i64 b)) (h : -9223372036854775808 ≤ a - b ∧ a - b ≤ 9223372036854775807) : OpV P ⟨d, .binOp .sub xt x y yt, ty, pos, af, gd⟩ env L F (.int .i64 (a - b)) :=
  .bin hx hy fun w => by simp [eqGuard, binOp, Op.intArith, wrap_in h.1 h.2]
theorem OpV.mul (hx : ev env x = some (.int .i64 a)) (hy : ev env y = some (.int .i64 b)) (h : -9223372036854775808 ≤ a * b ∧ a * b ≤ 9223372036854775807) : OpV P ⟨d, .binOp .mul xt x y yt, ty, pos, af, gd⟩ env L F (.int .i64 (a * b)) :=
  .bin hx hy fun w => by simp [eqGuard, binOp, Op.intArith, wrap_in h.1 h.2]
theorem OpV.addw (hx : ev env x = some (.int .i64 a)) (hy : ev env y = some (.int .i64 b)) : OpV P ⟨d, .binOp .add xt x y yt, ty, pos, af, gd⟩ env L F (.int .i64 (IntKind.i64.wrap (a + b))) :=
  .bin hx hy fun w => by simp [eqGuard, binOp, Op.intArith]
theorem OpV.subw (hx : ev env x = some (.int .i64 a)) (hy : ev env y = some (.int .i64 b)) : OpV P ⟨d, .binOp .sub xt x y yt, ty, pos, af, gd⟩ env L F (.int .i64 (IntKind.i64.wrap (a - b))) :=
  .bin hx hy fun w => by simp [eqGuard, binOp, Op.intArith]
theorem OpV.quo (hx : ev env x = some (.int .i64 a)) (hy : ev env y = some (.int .i64 b)) (h : 0 ≤ a ∧ a ≤ 9223372036854775807 ∧ 0 < b) : OpV P ⟨d, .binOp .quo xt x y yt, ty, pos, af, gd⟩ env L F (.int .i64 (a / b)) :=
  .bin hx hy fun w => by
    have h0 : b ≠ 0 := by omega
    have e : a.tdiv b = a / b := Int.tdiv_eq_ediv_of_nonneg h.1
    have h3 : a / b ≤ a := Int.ediv_le_self _ h.1
    have h4 : 0 ≤ a / b := Int.ediv_nonneg h.1 (by omega)
    have h5 : IntKind.i64.wrap (a / b) = a / b := wrap_in (by omega) (by omega)
    simp [eqGuard, binOp, Op.intDiv, h0, e, h5]
variable {k : IntKind}
theorem OpV.lt (hx : ev env x = some (.int k a)) (hy : ev env y = some (.int k b)) : OpV P ⟨d, .binOp .lss xt x y yt, ty, pos, af, gd⟩ env L F (.bool (decide (a < b))) :=
  .bin hx hy fun w => by simp [eqGuard, binOp, Op.intCmp]
theorem OpV.le (hx : ev env x = some (.int k a)) (hy : ev env y = some (.int k b)) : OpV P ⟨d, .binOp .leq xt x y yt, ty, pos, af, gd⟩ env L F (.bool (decide (a ≤ b))) :=
  .bin hx hy fun w => by simp [eqGuard, binOp, Op.intCmp]
theorem OpV.gt (hx : ev env x = some (.int k a)) (hy : ev env y = some (.int k b)) : OpV P ⟨d, .binOp .gtr xt x y yt, ty, pos, af, gd⟩ env L F (.bool (decide (b < a))) :=
  .bin hx hy fun w => by simp [eqGuard, binOp, Op.intCmp]
theorem OpV.ge (hx : ev env x = some (.int k a)) (hy : ev env y = some (.int k b)) : OpV P ⟨d, .binOp .geq xt x y yt, ty, pos, af, gd⟩ env L F (.bool (decide (b ≤ a))) :=
  .bin hx hy fun w => by simp [eqGuard, binOp, Op.intCmp]
theorem OpV.eq (hx : ev env x = some (.int k a)) (hy : ev env y = some (.int k b)) : OpV P ⟨d, .binOp .eql xt x y yt, ty, pos, af, gd⟩ env L F (.bool (decide (a = b))) :=
  .bin hx hy fun w => by
    have : (a == b) = decide (a = b) := by by_cases h : a = b <;> simp [h]
    simp [eqGuard, binOp, Op.intCmp, this]
theorem OpV.ne (hx : ev env x = some (.int k a)) (hy : ev env y = some (.int k b)) : OpV P ⟨d, .binOp .neq xt x y yt, ty, pos, af, gd⟩ env L F (.bool (decide (¬ a = b))) :=
  .bin hx hy fun w => by
    have : (a != b) = decide (¬ a = b) := by by_cases h : a = b <;> simp [h]
    simp [eqGuard, binOp, Op.intCmp, this]
theorem OpV.remu (hx : ev env x = some (.int .u64 a)) (hy : ev env y = some (.int .u64 b)) (h : 0 ≤ a ∧ 0 < b) : OpV P ⟨d, .binOp .rem xt x y yt, ty, pos, af, gd⟩ env L F (.int .u64 (a % b)) :=
  .bin hx hy fun w => by
    have h0 : b ≠ 0 := by omega
    have e : a.tmod b = a % b := Int.tmod_eq_emod_of_nonneg h.1
    simp [eqGuard, binOp, Op.intDiv, h0, e]
theorem OpV.remk (hx : ev env x = some (.int k a)) (hy : ev env y = some (.int k b)) (h : 0 ≤ a ∧ 0 < b) : OpV P ⟨d, .binOp .rem xt x y yt, ty, pos, af, gd⟩ env L F (.int k (a % b)) :=
  .bin hx hy fun w => by
    have h0 : b ≠ 0 := by omega
    have e : a.tmod b = a % b := Int.tmod_eq_emod_of_nonneg h.1
    simp [eqGuard, binOp, Op.intDiv, h0, e]
/-- Shifted right by one. -/
theorem OpV.shr1 (hx : ev env x = some (.int .u64 a)) (hy : ev env y = some (.int .u64 1)) : OpV P ⟨d, .binOp .shr xt x y yt, ty, pos, af, gd⟩ env L F (.int .u64 (a / 2)) :=
  .bin hx hy fun w => by
    have : a.fdiv 2 = a / 2 := Int.fdiv_eq_ediv_of_nonneg _ (by decide)
    simp [eqGuard, binOp, Op.shift, IntKind.bits, this]
theorem OpV.cvt {src dst : TypeId} {k1 k2 : IntKind} {u : Int} {ds : TypeDesc} (hx : ev env x = some (.int k1 u)) (hs : P.underlying src = some ds) (hd : P.underlying dst = some (.int k2)) : OpV P ⟨d, .convert src dst x, ty, pos, af, gd⟩ env L F (.int k2 (k2.wrap u)) :=
  .of fun n a w R hh _ => by simp [execOp, hh.eval hx, convert, run_underlying hs, run_underlying hd, Conv.intToInt]
/-- A conversion that changes no number. -/
theorem OpV.cvti {src dst : TypeId} {k1 k2 : IntKind} {u : Int} {ds : TypeDesc} (hx : ev env x = some (.int k1 u)) (hs : P.underlying src = some ds) (hd : P.underlying dst = some (.int k2)) (hw : k2.wrap u = u) : OpV P ⟨d, .convert src dst x, ty, pos, af, gd⟩ env L F (.int k2 u) := by
  have := OpV.cvt (P := P) (d := d) (ty := ty) (pos := pos) (af := af) (gd := gd) (L := L) (F := F) hx hs hd
  rw [hw] at this
  exact this
end
/-! #### Bools, texts, pointers -/
theorem run_equal_of {t : TypeId} {x y : Value} {w : World} {r : Result Bool} (h : ∀ d, (Op.equalIn (d + 1) t x y).run P w = r) : (Op.equal t x y).run P w = r := h 9999
theorem run_eql_of {t : TypeId} {x y : Value} {w : World} {b : Bool} (hb : binOp .eql t x y = (do pure (.bool (← Op.equal t x y)))) (h : ∀ d, (Op.equalIn (d + 1) t x y).run P w = .ok b w) : (binOp .eql t x y).run P w = .ok (.bool b) w := by
  rw [hb, Sem.run_bind, run_equal_of h]; rfl
theorem run_neq_of {t : TypeId} {x y : Value} {w : World} {b : Bool} (hb : binOp .neq t x y = (do pure (.bool (!(← Op.equal t x y))))) (h : ∀ d, (Op.equalIn (d + 1) t x y).run P w = .ok b w) : (binOp .neq t x y).run P w = .ok (.bool !b) w := by
  rw [hb, Sem.run_bind, run_equal_of h]; rfl
theorem guard_run {op : BinOp} {t : TypeId} {x y : Operand} {u v : Value} {w : World} {r : Result Value} (hg : eqGuard op t x y u v = pure ()) (h : (binOp op t u v).run P w = r) : (do eqGuard op t x y u v; binOp op t u v : Sem Value).run P w = r := by
  rw [hg]; exact h
section
variable {x y : Operand} {xt yt : TypeId}
theorem OpV.eqb {a b : Bool} (hu : P.underlying xt = some .bool) (hx : ev env x = some (.bool a)) (hy : ev env y = some (.bool b)) : OpV P ⟨d, .binOp .eql xt x y yt, ty, pos, af, gd⟩ env L F (.bool (decide (a = b))) :=
  .bin hx hy fun w => by
    have : (a == b) = decide (a = b) := by cases a <;> cases b <;> rfl
    exact guard_run rfl (run_eql_of rfl fun d => by simp [Op.equalIn, run_underlying hu, this])
theorem OpV.neb {a b : Bool} (hu : P.underlying xt = some .bool) (hx : ev env x = some (.bool a)) (hy : ev env y = some (.bool b)) : OpV P ⟨d, .binOp .neq xt x y yt, ty, pos, af, gd⟩ env L F (.bool (decide (¬ a = b))) :=
  .bin hx hy fun w => by
    have : (!(a == b)) = decide (¬ a = b) := by cases a <;> cases b <;> rfl
    rw [← this]
    exact guard_run rfl (run_neq_of rfl fun d => by simp [Op.equalIn, run_underlying hu])
theorem toList_inj {a b : ByteArray} : (a.toList == b.toList) = decide (a = b) := by
  rw [ByteArray.toList_eq, ByteArray.toList_eq]
  by_cases h : a = b
  · simp [h]
  · have : ¬ a.data.toList = b.data.toList := fun e => h (by cases a; cases b; simp_all)
    rw [decide_eq_false h]
    exact beq_eq_false_iff_ne.2 this
theorem bytes_beq (a b : ByteArray) : (a == b) = decide (a = b) := by
  cases a with | mk a =>
  cases b with | mk b =>
  show (a == b) = _
  by_cases h : a = b <;> simp [h]
theorem Ty.part {t b : Nat} {z : Value} (h : Ty P t 1 b false z) {cs : Array Value} {o : Nat} {v : Value} (hv : cs[o]? = some v) (w : World) : (Go.part t cs o).run P w = .ok v w := by
  unfold Go.part
  simp [h.agg, hv]
/-- Less, as texts are. -/
def slt (a b : ByteArray) : Bool := Op.bytesLess a.toList b.toList
theorem OpV.eqs {a b : ByteArray} (hx : ev env x = some (.string a)) (hy : ev env y = some (.string b)) : OpV P ⟨d, .binOp .eql xt x y yt, ty, pos, af, gd⟩ env L F (.bool (decide (a = b))) :=
  .bin hx hy fun w => by simp [eqGuard, binOp, Op.stringOp, toList_inj]
theorem OpV.nes {a b : ByteArray} (hx : ev env x = some (.string a)) (hy : ev env y = some (.string b)) : OpV P ⟨d, .binOp .neq xt x y yt, ty, pos, af, gd⟩ env L F (.bool (decide (¬ a = b))) :=
  .bin hx hy fun w => by simp [eqGuard, binOp, Op.stringOp, toList_inj]
theorem OpV.lts {a b : ByteArray} (hx : ev env x = some (.string a)) (hy : ev env y = some (.string b)) : OpV P ⟨d, .binOp .lss xt x y yt, ty, pos, af, gd⟩ env L F (.bool (slt a b)) :=
  .bin hx hy fun w => by simp [eqGuard, binOp, Op.stringOp, slt]
theorem OpV.ges {a b : ByteArray} (hx : ev env x = some (.string a)) (hy : ev env y = some (.string b)) : OpV P ⟨d, .binOp .geq xt x y yt, ty, pos, af, gd⟩ env L F (.bool (!slt a b)) :=
  .bin hx hy fun w => by simp [eqGuard, binOp, Op.stringOp, slt]
theorem OpV.les {a b : ByteArray} (hx : ev env x = some (.string a)) (hy : ev env y = some (.string b)) : OpV P ⟨d, .binOp .leq xt x y yt, ty, pos, af, gd⟩ env L F (.bool (slt a b || decide (a = b))) :=
  .bin hx hy fun w => by simp [eqGuard, binOp, Op.stringOp, slt, toList_inj]
theorem OpV.cat {a b : ByteArray} (hx : ev env x = some (.string a)) (hy : ev env y = some (.string b)) (h : a.size + b.size ≤ 9223372036854775807) : OpV P ⟨d, .binOp .add xt x y yt, ty, pos, af, gd⟩ env L F (.string (a ++ b)) :=
  .bin hx hy fun w => by
    have h' : ¬ (9223372036854775807 < (a.size : Int) + (b.size : Int)) := by omega
    have hm : IntKind.i64.max = 9223372036854775807 := by decide
    simp [eqGuard, binOp, Op.stringOp, hm, h']
theorem OpV.eqpn {e : TypeId} {a : Option Addr} (hu : P.underlying xt = some (.pointer e)) (hx : ev env x = some (.pointer a)) (hy : ev env y = some (.pointer none)) : OpV P ⟨d, .binOp .eql xt x y yt, ty, pos, af, gd⟩ env L F (.bool (decide (a = none))) :=
  .bin hx hy fun w => by
    cases a <;> exact guard_run rfl (run_eql_of rfl fun d => by simp [Op.equalIn, run_underlying hu])
theorem OpV.eqsl {e : TypeId} {a : Option Addr} {m c m' c' : Nat} (hu : P.underlying xt = some (.slice e)) (hx : ev env x = some (.slice a m c)) (hy : ev env y = some (.slice none m' c')) : OpV P ⟨d, .binOp .eql xt x y yt, ty, pos, af, gd⟩ env L F (.bool (decide (a = none))) :=
  .bin hx hy fun w => by
    cases a <;> exact guard_run rfl (run_eql_of rfl fun d => by simp [Op.equalIn, run_underlying hu])
/-! #### Lengths, min, max -/
variable {at' : TypeId} {cn : Array TypeId}
theorem OpV.lens {s : ByteArray} (hu : P.underlying at' = some .string) (hx : ev env x = some (.string s)) : OpV P ⟨d, .call ⟨.builtin .len, #[x], #[at']⟩, ty, pos, af, gd⟩ env L F (.int .i64 s.size) :=
  .of fun n a w R hh _ => by simp [execOp, hh.eval hx, resolve, invoke, builtin, Builtin.len_, run_underlying hu, goInt]
theorem OpV.lenl {e : TypeId} {a : Option Addr} {m c : Nat} (hu : P.underlying at' = some (.slice e)) (hx : ev env x = some (.slice a m c)) : OpV P ⟨d, .call ⟨.builtin .len, #[x], #[at']⟩, ty, pos, af, gd⟩ env L F (.int .i64 m) :=
  .of fun n a w R hh _ => by simp [execOp, hh.eval hx, resolve, invoke, builtin, Builtin.len_, run_underlying hu, goInt]
theorem OpV.capl {e : TypeId} {a : Option Addr} {m c : Nat} (hu : P.underlying at' = some (.slice e)) (hx : ev env x = some (.slice a m c)) : OpV P ⟨d, .call ⟨.builtin .cap, #[x], #[at']⟩, ty, pos, af, gd⟩ env L F (.int .i64 c) :=
  .of fun n a w R hh _ => by simp [execOp, hh.eval hx, resolve, invoke, builtin, Builtin.cap_, run_underlying hu, goInt]
theorem OpV.max {a b : Int} {k : IntKind} (hx : ev env x = some (.int k a)) (hy : ev env y = some (.int k b)) : OpV P ⟨d, .call ⟨.builtin .max, #[x, y], cn⟩, ty, pos, af, gd⟩ env L F (.int k (if b > a then b else a)) :=
  .of fun n a w R hh _ => by simp [execOp, hh.eval hx, hh.eval hy, resolve, invoke, builtin, Builtin.max_, Builtin.max2]
theorem OpV.min {a b : Int} {k : IntKind} (hx : ev env x = some (.int k a)) (hy : ev env y = some (.int k b)) : OpV P ⟨d, .call ⟨.builtin .min, #[x, y], cn⟩, ty, pos, af, gd⟩ env L F (.int k (if b < a then b else a)) :=
  .of fun n a w R hh _ => by simp [execOp, hh.eval hx, hh.eval hy, resolve, invoke, builtin, Builtin.min_, Builtin.min2]
/-! #### Addresses -/
structure Fld (P : Program) (s : TypeId) (f off : Nat) : Prop where
  run : ∀ a w, (Instr.fieldAt s (.pointer (some a)) f).run P w = .ok (.pointer (some (a.add off))) w
theorem add_zero (a : Addr) : a.add 0 = a := rfl
theorem add_at (b o k : Nat) : (⟨b, o, none⟩ : Addr).add k = ⟨b, o + k, none⟩ := by unfold Addr.add; split <;> simp [*]
variable {s : TypeId} {f : Nat} {b o k : Nat}
theorem OpV.fa0 (hf : Fld P s f 0) {a : Addr} (hx : ev env x = some (.pointer (some a))) : OpV P ⟨d, .fieldAddr s x f, ty, pos, af, gd⟩ env L F (.pointer (some a)) :=
  .of fun n a w R hh _ => by simp [execOp, hh.eval hx, hf.run, add_zero]
theorem OpV.fab (hf : Fld P s f k) (hx : ev env x = some (.pointer (some ⟨b, 0, none⟩))) : OpV P ⟨d, .fieldAddr s x f, ty, pos, af, gd⟩ env L F (.pointer (some ⟨b, k, none⟩)) :=
  .of fun n a w R hh _ => by simp [execOp, hh.eval hx, hf.run, add_at]
theorem OpV.fae (hf : Fld P s f k) (hx : ev env x = some (.pointer (some ⟨b, o, none⟩))) : OpV P ⟨d, .fieldAddr s x f, ty, pos, af, gd⟩ env L F (.pointer (some ⟨b, o + k, none⟩)) :=
  .of fun n a w R hh _ => by simp [execOp, hh.eval hx, hf.run, add_at]
/-- A slice type and its elements' size. -/
structure Sld (P : Program) (t e sz : Nat) : Prop where
  un : P.underlying t = some (.slice e)
  size : ∀ w, (sizeOf e).run P w = .ok sz w
variable {e sz : Nat}
theorem OpV.ixa (ht : Sld P s e sz) {m c : Nat} {i : Int} {kk : IntKind} (hx : ev env x = some (.slice (some ⟨b, o, none⟩) m c)) (hy : ev env y = some (.int kk i)) (hi : 0 ≤ i ∧ i < m) : OpV P ⟨d, .indexAddr s x y, ty, pos, af, gd⟩ env L F (.pointer (some ⟨b, o + i.toNat * sz, none⟩)) :=
  .of fun n a w R hh _ => by simp [execOp, hh.eval hx, hh.eval hy, Instr.indexAt, asIntOf, run_underlying ht.un, hi, ht.size, add_at]
/-- A place in a row that is owned from its beginning. -/
theorem OpV.ixo (ht : Sld P s e sz) {m c : Nat} {i : Int} {kk : IntKind} (hx : ev env x = some (.slice (some ⟨b, 0, none⟩) m c)) (hy : ev env y = some (.int kk i)) (j : Nat) (hi : i = j ∧ j < m) : OpV P ⟨d, .indexAddr s x y, ty, pos, af, gd⟩ env L F (.pointer (some ⟨b, j * sz, none⟩)) := by
  obtain ⟨rfl, hj⟩ := hi
  have := OpV.ixa (P := P) (d := d) (ty := ty) (pos := pos) (af := af) (gd := gd) (L := L) (F := F) ht hx hy ⟨by omega, by omega⟩
  simpa using this
/-! #### Loads -/
theorem OpV.ld {v : Value} {a : Addr} (hx : ev env x = some (.pointer (some a))) {t bytes : Nat} {zero : Value} (ht : Ty P t 1 bytes false zero) (hc : ∀ w R, Own w (L.flatten ++ R) F → w.cell? a = some v) : OpV P ⟨d, .load t x, ty, pos, af, gd⟩ env L F v :=
  .of fun n a w R hh ho => by simp [execOp, hh.eval hx, Instr.loadAt, Instr.sureAddr, loadVar, ht.agg, hc w R ho]
theorem OpV.lda {vs : List Value} {a : Addr} (hx : ev env x = some (.pointer (some a))) {t bytes : Nat} {zero : Value} (ht : Ty P t sz bytes true zero) (hl : vs.length = sz) (hc : ∀ w R, Own w (L.flatten ++ R) F → ∀ j v, vs[j]? = some v → w.cell? (a.add j) = some v) :
    OpV P ⟨d, .load t x, ty, pos, af, gd⟩ env L F (.agg vs.toArray) :=
  .of fun n a w R hh ho => by
    have h1 := run_loadCells_list (P := P) w _ vs (hc w R ho)
    rw [hl] at h1
    simp [execOp, hh.eval hx, Instr.loadAt, Instr.sureAddr, loadVar, ht.agg, ht.size, h1]
variable {t bytes : Nat} {zero : Value}
/-- A cell of a block that is owned. -/
theorem OpV.ldb {bt : TypeId} {cs : List Value} {v : Value} (ht : Ty P t 1 bytes false zero) (hx : ev env x = some (.pointer (some ⟨b, o, none⟩))) (hi : Inn [⟨b, bt, cs⟩] L) (hc : cs[o]? = some v) : OpV P ⟨d, .load t x, ty, pos, af, gd⟩ env L F v :=
  .ld hx ht fun w R ho => by rw [ho.cell (hi.one R)]; exact hc
/-- A whole block that is owned. -/
theorem OpV.ldw {bt : TypeId} {cs : List Value} (ht : Ty P t sz bytes true zero) (hx : ev env x = some (.pointer (some ⟨b, 0, none⟩))) (hi : Inn [⟨b, bt, cs⟩] L) (hl : cs.length = sz) : OpV P ⟨d, .load t x, ty, pos, af, gd⟩ env L F (.agg cs.toArray) :=
  .lda hx ht hl fun w R ho j v hj => by rw [add_at, ho.cell (hi.one R), Nat.zero_add]; exact hj
/-- Some cells of a block that is owned. -/
theorem OpV.ldp {bt : TypeId} {cs vs : List Value} (ht : Ty P t sz bytes true zero) (hx : ev env x = some (.pointer (some ⟨b, o, none⟩))) (hi : Inn [⟨b, bt, cs⟩] L) (hl : vs.length = sz) (hc : ∀ j v, vs[j]? = some v → cs[o + j]? = some v) :
    OpV P ⟨d, .load t x, ty, pos, af, gd⟩ env L F (.agg vs.toArray) :=
  .lda hx ht hl fun w R ho j v hj => by rw [add_at, ho.cell (hi.one R)]; exact hc j v hj
/-- The beginning of a row that never changes. -/
theorem OpV.ldr0 {row : List Value} {v : Value} (ht : Ty P t 1 bytes false zero) (hx : ev env x = some (.pointer (some ⟨b, o, none⟩))) (hr : Rd F b o row) (hj : row[0]? = some v) : OpV P ⟨d, .load t x, ty, pos, af, gd⟩ env L F v :=
  .ld hx ht fun w R ho => hr.cell ho (j := 0) hj
theorem OpV.ldr {row : List Value} {v : Value} {j : Nat} (ht : Ty P t 1 bytes false zero) (hx : ev env x = some (.pointer (some ⟨b, o + j, none⟩))) (hr : Rd F b o row) (hj : row[j]? = some v) : OpV P ⟨d, .load t x, ty, pos, af, gd⟩ env L F v :=
  .ld hx ht fun w R ho => hr.cell ho hj
theorem OpV.ldrw {row : List Value} (ht : Ty P t sz bytes true zero) (hx : ev env x = some (.pointer (some ⟨b, o, none⟩))) (hr : Rd F b o row) (hl : row.length = sz) : OpV P ⟨d, .load t x, ty, pos, af, gd⟩ env L F (.agg row.toArray) :=
  .lda hx ht hl fun w R ho j v hj => by rw [add_at]; exact hr.cell ho hj
end
end
end Go.Proofs.Ytbmpdccoffkjgaa.Ow
namespace Go.Proofs.Ytbmpdccoffkjgaa.Ow
open Go
set_option linter.unusedVariables false
section
variable {P : Program} {env : Env} {L : List Itm} {F : Mem} {d : Option Tmp} {ty : TypeId} {pos : String} {af : Array Edge} {gd : Option (Nat × Bool)}
theorem Op1.of {op : Op} {post : Value → List Itm → Mem → Prop} (h : ∀ n a w R, Has n env a → Own w (L.flatten ++ R) F → ∃ v w' L' F', (execOp a.eval ⟨d, op, ty, pos, af, gd⟩).run P w = .ok (.value v) w' ∧ Le F F' ∧ post v L' F' ∧ Own w' (L'.flatten ++ R) F') :
    Op1 P ⟨d, op, ty, pos, af, gd⟩ env L F post :=
  ⟨fun n a w R K Q hh ho hk => by
    obtain ⟨v, w', L', F', he, hle, hp, ho'⟩ := h n a w R hh ho
    unfold Oper.wp
    rw [he]
    exact hk v L' F' w' hle hp ho'⟩
theorem Op1.ofs {op : Op} {post : Value → List Itm → Mem → Prop} (h : ∀ n a w R, Has n env a → Own w (L.flatten ++ R) F → ∃ w' L' F', (execOp a.eval ⟨d, op, ty, pos, af, gd⟩).run P w = .ok .skip w' ∧ Le F F' ∧ post undef L' F' ∧ Own w' (L'.flatten ++ R) F') :
    Op1 P ⟨d, op, ty, pos, af, gd⟩ env L F post :=
  ⟨fun n a w R K Q hh ho hk => by
    obtain ⟨w', L', F', he, hle, hp, ho'⟩ := h n a w R hh ho
    unfold Oper.wp
    rw [he]
    exact hk undef L' F' w' hle hp ho'⟩
/-- What a new block's making leaves. -/
def newBlk (L : List Itm) (F : Mem) (f : Nat → Value) (t : TypeId) (cs : List Value) (v : Value) (L' : List Itm) (F' : Mem) : Prop := ∃ b, v = f b ∧ L' = [⟨b, t, cs⟩] :: L ∧ F' = F
theorem Own.alloc' {w : World} {R : List Blk} (ho : Own w (L.flatten ++ R) F) (t : TypeId) (cs : List Value) : Own (w.alloc (.cells cs.toArray t (0, 0))) ((([⟨w.heap.size, t, cs⟩] : Itm) :: L).flatten ++ R) F := by
  simpa using ho.alloc t cs
theorem Op1.alloc {t sz bytes : Nat} {g : Bool} {zero : Value} {cs : List Value} (ht : Ty P t sz bytes g zero) (hz : zero.cells = cs.toArray) : Op1 P ⟨d, .alloc t, ty, pos, af, gd⟩ env L F (newBlk L F (fun b => .pointer (some ⟨b, 0, none⟩)) t cs) :=
  .of fun n a w R hh ho => ⟨_, _, _, F, by simp [execOp, Instr.alloc, ht.zeroV, newVar, newRow, hz], Le.rfl, ⟨_, rfl, rfl, rfl⟩, ho.alloc' t cs⟩
theorem Op1.box {t : Nat} {x : Operand} {v : Value} {cs : List Value} (hx : ev env x = some v) (hz : v.cells = cs.toArray) : Op1 P ⟨d, .box t x, ty, pos, af, gd⟩ env L F (newBlk L F (fun b => .pointer (some ⟨b, 0, none⟩)) t cs) :=
  .of fun n a w R hh ho => ⟨_, _, _, F, by simp [execOp, hh.eval hx, Instr.box, newVar, newRow, hz], Le.rfl, ⟨_, rfl, rfl, rfl⟩, ho.alloc' t cs⟩
def evp (env : Env) : List (Nat × Operand) → Option (List (Nat × Value))
  | [] => some []
  | x :: r => match ev env x.2, evp env r with
    | some v, some vs => some ((x.1, v) :: vs)
    | _, _ => none
theorem evp_map {n : Nat} {env : Env} {a : Act} (hh : Has n env a) : ∀ (l : List (Nat × Operand)) (m : List (Nat × Value)), evp env l = some m → l.map (fun x => (x.1, a.eval x.2)) = m
  | [], m, h => by simp [evp] at h; simp [h]
  | x :: l, m, h => by
    simp only [evp] at h
    split at h
    · rename_i v vs h1 h2
      injection h with h
      rw [← h, List.map_cons, evp_map hh l vs h2, hh.eval h1]
    · cases h
/-- A struct's value out of its parts: a run that is known beforehand. -/
theorem OpV.build {t : Nat} {parts : List (Nat × Operand)} {ps : List (Nat × Value)} {v : Value} (hp : evp env parts = some ps) (h : ∀ w, (Instr.build t ps.toArray).run P w = .ok v w) : OpV P ⟨d, .build t parts.toArray, ty, pos, af, gd⟩ env L F v :=
  .of fun n a w R hh _ => by
    have h2 : parts.toArray.map (fun x => (x.1, a.eval x.2)) = ps.toArray := by
      apply Array.toList_inj.1
      rw [Array.toList_map]
      exact evp_map hh _ _ hp
    have e : (execOp a.eval ⟨d, .build t parts.toArray, ty, pos, af, gd⟩) = (do pure (.value (← Instr.build t (parts.toArray.map fun x => (x.1, a.eval x.2))))) := rfl
    rw [e, h2, Sem.run_bind, h]
    rfl
/-- A slice of one element. -/
theorem foldl_set (v : Nat → Value) : ∀ (l : List Value) (c : List Value) (k : Nat), c.length = k + l.length → (l.zipIdx k).foldl (fun (cs : Array Value) x => cs.setIfInBounds x.2 x.1) c.toArray = (c.take k ++ l).toArray := by
  intro l
  induction l with
  | nil => intro c k hc; simp at hc; rw [List.take_of_length_le (by omega)]; simp
  | cons y l ih =>
    intro c k hc
    simp only [List.length_cons] at hc
    rw [List.zipIdx_cons, List.foldl_cons]
    show List.foldl _ (c.toArray.setIfInBounds k y) _ = _
    rw [List.setIfInBounds_toArray, ih (c.set k y) (k + 1) (by simp; omega)]
    congr 1
    rw [List.take_set, List.take_succ_eq_append_getElem (by omega), List.set_append_right _ _ (by simp; omega)]
    have : k - (c.take k).length = 0 := by simp; omega
    rw [this]
    simp
theorem fill_one {sz : Nat} {v : Value} {cs : List Value} {z : Array Value} (hv : v.cells = cs.toArray) (hl : cs.length = sz) (hz : z.size = sz) : Instr.fill (fun i => some (i * sz, sz)) z [(0, v)] = some cs.toArray := by
  simp only [Instr.fill]
  have e1 : v.cells.size = sz := by rw [hv]; simpa using hl
  have e2 : v.cells.zipIdx.foldl (fun cs x => cs.setIfInBounds (0 * sz + x.2) x.1) z = cs.toArray := by
    rw [hv, ← Array.foldl_toList]
    simp only [Nat.zero_mul, Nat.zero_add]
    have h3 := foldl_set (fun _ => v) cs z.toList 0 (by simp; omega)
    simpa using h3
  rw [if_neg (by simp [e1]; omega), e2]
theorem Op1.lit1 {t e sz bytes : Nat} {g : Bool} {zero : Value} {x : Operand} {v : Value} {cs : List Value} (hs : Sld P t e sz) (ht : Ty P e sz bytes g zero) (h0 : (sz == 0) = false) (hx : ev env x = some v) (hv : v.cells = cs.toArray) (hl : cs.length = sz) (hsm : Nat.ble sz 16777216 = true) :
    Op1 P ⟨d, .buildSlice t 1 #[(0, x)], ty, pos, af, gd⟩ env L F (newBlk L F (fun b => .slice (some ⟨b, 0, none⟩) 1 1) e cs) :=
  .of fun n a w R hh ho => ⟨_, _, _, F, by
    have h1 : ¬ (16777216 < sz) := by have := Nat.le_of_ble_eq_true hsm; omega
    have h0' : sz ≠ 0 := by simpa using h0
    have hf := fill_one (z := (Array.range (1 * sz)).map (fun x => zero.cells[x % zero.cells.size]!)) hv hl (by simp)
    simp only [Nat.one_mul] at hf
    simp [execOp, hh.eval hx, Instr.buildSlice, run_underlying hs.un, hs.size, h1, h0', ht.zeroV, hf, newRow]
    done, Le.rfl, ⟨_, rfl, rfl, rfl⟩, ho.alloc' e cs⟩
/-- What a store leaves. -/
def stored (L' : List Itm) (F : Mem) (v : Value) (M : List Itm) (G : Mem) : Prop := v = undef ∧ M = L' ∧ G = F
/-- Cells in the middle of a block that is owned are stored. -/
theorem Op1.stp {t sz bytes : Nat} {g : Bool} {zero : Value} {x y : Operand} {v : Value} {vs cs cs' : List Value} {b o bt : Nat} {L' : List Itm} (ht : Ty P t sz bytes g zero) (hx : ev env x = some (.pointer (some ⟨b, o, none⟩))) (hy : ev env y = some v)
    (hv : v.cells = vs.toArray) (hl : vs.length = sz) (h1 : ∀ u ∈ vs, u.oneCell' = true) (hb : o + sz ≤ cs.length) (hc : cs' = cs.take o ++ vs ++ cs.drop (o + sz)) (hu : Upd [⟨b, bt, cs⟩] [⟨b, bt, cs'⟩] L L') :
    Op1 P ⟨d, .store t x y, ty, pos, af, gd⟩ env L F (stored L' F) :=
  .ofs fun n a w R hh ho => by
    obtain ⟨T, p1, p2⟩ := hu.perm
    have ho1 : Own w (⟨b, bt, cs⟩ :: (T ++ R)) F := by
      have := ho.perm (p1.append_right R)
      simpa using this
    obtain ⟨w', hr, ho2⟩ := run_storeCells_own (P := P) o vs cs 0 w _ F ho1 (by omega) h1
    refine ⟨w', L', F, ?_, Le.rfl, ⟨rfl, rfl, rfl⟩, ?_⟩
    · have e : (execOp a.eval ⟨d, .store t x y, ty, pos, af, gd⟩) = (do Instr.storeAt t (a.eval x) (a.eval y); pure .skip) := rfl
      rw [e, hh.eval hx, hh.eval hy]
      have : v.cells.size = sz := by rw [hv]; simpa using hl
      have hvl : v.cells.toList = vs := by rw [hv]
      simp [Instr.storeAt, Instr.sureAddr, storeVar, ht.size, this, hvl, hr]
    · have : Own w' ((⟨b, bt, cs'⟩ : Blk) :: (T ++ R)) F := by rw [hc, ← hl]; simpa using ho2
      exact this.perm (by simpa using (p2.append_right R).symm)
/-- One cell of a list is another one. -/
inductive SetAt (v : Value) : List Value → Nat → List Value → Prop
  | here {x : Value} {T : List Value} : SetAt v (x :: T) 0 (v :: T)
  | there {x : Value} {T T' : List Value} {i : Nat} : SetAt v T i T' → SetAt v (x :: T) (i + 1) (x :: T')
theorem SetAt.eq {v : Value} {l l' : List Value} {i : Nat} (h : SetAt v l i l') : l' = l.set i v ∧ i < l.length := by
  induction h with
  | here => simp
  | there _ ih => exact ⟨by simp [ih.1], by simp; omega⟩
theorem st0 {v a : Value} {T : List Value} : SetAt v (a :: T) 0 (v :: T) := .here
theorem st1 {v a b : Value} {T : List Value} : SetAt v (a :: b :: T) 1 (a :: v :: T) := .there .here
theorem st2 {v a b c : Value} {T : List Value} : SetAt v (a :: b :: c :: T) 2 (a :: b :: v :: T) := .there (.there .here)
theorem st3 {v a b c d : Value} {T : List Value} : SetAt v (a :: b :: c :: d :: T) 3 (a :: b :: c :: v :: T) := .there (.there (.there .here))
theorem st4 {v a b c d e : Value} {T : List Value} : SetAt v (a :: b :: c :: d :: e :: T) 4 (a :: b :: c :: d :: v :: T) := .there (.there (.there (.there .here)))
/-- One cell of a block that is owned is stored. -/
theorem Op1.stb {t bytes : Nat} {zero : Value} {x y : Operand} {v : Value} {cs cs' : List Value} {b o bt : Nat} {L' : List Itm} (ht : Ty P t 1 bytes false zero) (hx : ev env x = some (.pointer (some ⟨b, o, none⟩))) (hy : ev env y = some v)
    (h1 : v.oneCell' = true) (hc : SetAt v cs o cs') (hu : Upd [⟨b, bt, cs⟩] [⟨b, bt, cs'⟩] L L') : Op1 P ⟨d, .store t x y, ty, pos, af, gd⟩ env L F (stored L' F) := by
  obtain ⟨hc, hlt⟩ := hc.eq
  refine Op1.stp (vs := [v]) ht hx hy (by cases v <;> simp [Value.oneCell'] at h1 <;> rfl) rfl (by simpa using h1) (by omega) ?_ hu
  rw [hc, List.set_eq_take_append_cons_drop, if_pos hlt]
  simp
/-- A whole block that is owned is stored. -/
theorem Op1.stw {t sz bytes : Nat} {zero : Value} {x y : Operand} {vs cs : List Value} {b bt : Nat} {L' : List Itm} (ht : Ty P t sz bytes true zero) (hx : ev env x = some (.pointer (some ⟨b, 0, none⟩))) (hy : ev env y = some (.agg vs.toArray))
    (h1 : vs.all (·.oneCell') = true) (hb : cs.length = sz) (hl : vs.length = sz) (hu : Upd [⟨b, bt, cs⟩] [⟨b, bt, vs⟩] L L') : Op1 P ⟨d, .store t x y, ty, pos, af, gd⟩ env L F (stored L' F) := by
  refine Op1.stp (vs := vs) ht hx hy rfl hl (fun u hu' => List.all_eq_true.1 h1 u hu') (by omega) ?_ hu
  rw [List.drop_of_length_le (by omega)]
  simp
/-! #### Slices of slices, of texts; bytes of texts -/
section
variable {t e sz : Nat} {x y z : Operand}
theorem bound_ok {k : IntKind} {i : Int} {m : Nat} {c : BoundsCode} {w : World} (h : 0 ≤ i ∧ i ≤ m) : (Instr.sliceBound (.int k i) m c).run P w = .ok i.toNat w := by
  simp [Instr.sliceBound, asIntOf, h]
/-- s[i:] of a slice, within its length. -/
theorem OpV.slFrom {a : Option Addr} {m c : Nat} {k : IntKind} {i : Int} (hs : Sld P t e sz) (hx : ev env x = some (.slice a m c)) (hy : ev env y = some (.int k i)) (h : 0 ≤ i ∧ i ≤ m) :
    OpV P ⟨d, .slice t x (some y) none none, ty, pos, af, gd⟩ env L F (.slice (if c = i.toNat then a else a.map (·.add (i.toNat * sz))) (m - i.toNat) (c - i.toNat)) :=
  .of fun n a' w R hh _ => by
    have e' : (execOp a'.eval ⟨d, .slice t x (some y) none none, ty, pos, af, gd⟩) = (do pure (.value (← Instr.sliceAt t (a'.eval x) (some (a'.eval y)) none none))) := rfl
    rw [e', hh.eval hx, hh.eval hy]
    simp [Instr.sliceAt, Instr.slice, run_underlying hs.un, Instr.sliceBounds, bound_ok h, hs.size]
/-- s[:i] of a slice, within its capacity. -/
theorem OpV.slTo {a : Option Addr} {m c : Nat} {k : IntKind} {i : Int} (hs : Sld P t e sz) (hx : ev env x = some (.slice a m c)) (hy : ev env y = some (.int k i)) (h : 0 ≤ i ∧ i ≤ c) :
    OpV P ⟨d, .slice t x none (some y) none, ty, pos, af, gd⟩ env L F (.slice a i.toNat c) :=
  .of fun n a' w R hh _ => by
    have e' : (execOp a'.eval ⟨d, .slice t x none (some y) none, ty, pos, af, gd⟩) = (do pure (.value (← Instr.sliceAt t (a'.eval x) none (some (a'.eval y)) none))) := rfl
    rw [e', hh.eval hx, hh.eval hy]
    have : (if c = 0 then a else Option.map (fun x => x.add 0) a) = a := by split; rfl; cases a <;> simp [add_zero]
    simp [Instr.sliceAt, Instr.slice, run_underlying hs.un, Instr.sliceBounds, bound_ok h, hs.size, this]
/-- s[i:j] of a slice, within its capacity. -/
theorem OpV.slIn {a : Option Addr} {m c : Nat} {k k' : IntKind} {i j : Int} (hs : Sld P t e sz) (hx : ev env x = some (.slice a m c)) (hy : ev env y = some (.int k i)) (hz : ev env z = some (.int k' j)) (h : 0 ≤ i ∧ i ≤ j ∧ j ≤ c) :
    OpV P ⟨d, .slice t x (some y) (some z) none, ty, pos, af, gd⟩ env L F (.slice (if c = i.toNat then a else a.map (·.add (i.toNat * sz))) (j.toNat - i.toNat) (c - i.toNat)) :=
  .of fun n a' w R hh _ => by
    have e' : (execOp a'.eval ⟨d, .slice t x (some y) (some z) none, ty, pos, af, gd⟩) = (do pure (.value (← Instr.sliceAt t (a'.eval x) (some (a'.eval y)) (some (a'.eval z)) none))) := rfl
    rw [e', hh.eval hx, hh.eval hy, hh.eval hz]
    simp [Instr.sliceAt, Instr.slice, run_underlying hs.un, Instr.sliceBounds, bound_ok (P := P) (i := j) (m := c) ⟨by omega, h.2.2⟩, bound_ok (P := P) (i := i) (m := j.toNat) ⟨h.1, by omega⟩, hs.size]
theorem OpV.slIn3 {u : Operand} {a : Option Addr} {m c : Nat} {k k' k'' : IntKind} {i j l : Int} (hs : Sld P t e sz) (hx : ev env x = some (.slice a m c)) (hy : ev env y = some (.int k i)) (hz : ev env z = some (.int k' j)) (hu : ev env u = some (.int k'' l)) (h : 0 ≤ i ∧ i ≤ j ∧ j ≤ l ∧ l ≤ c) :
    OpV P ⟨d, .slice t x (some y) (some z) (some u), ty, pos, af, gd⟩ env L F (.slice (if l.toNat = i.toNat then a else a.map (·.add (i.toNat * sz))) (j.toNat - i.toNat) (l.toNat - i.toNat)) :=
  .of fun n a' w R hh _ => by
    have e' : (execOp a'.eval ⟨d, .slice t x (some y) (some z) (some u), ty, pos, af, gd⟩) = (do pure (.value (← Instr.sliceAt t (a'.eval x) (some (a'.eval y)) (some (a'.eval z)) (some (a'.eval u))))) := rfl
    rw [e', hh.eval hx, hh.eval hy, hh.eval hz, hh.eval hu]
    simp [Instr.sliceAt, Instr.slice, run_underlying hs.un, Instr.sliceBounds, bound_ok (P := P) (i := l) (m := c) ⟨by omega, h.2.2.2⟩, bound_ok (P := P) (i := j) (m := l.toNat) ⟨by omega, by omega⟩, bound_ok (P := P) (i := i) (m := j.toNat) ⟨h.1, by omega⟩, hs.size]
theorem OpV.txTo {s : ByteArray} {k : IntKind} {i : Int} (hu : P.underlying t = some .string) (hx : ev env x = some (.string s)) (hy : ev env y = some (.int k i)) (h : 0 ≤ i ∧ i ≤ s.size) :
    OpV P ⟨d, .slice t x none (some y) none, ty, pos, af, gd⟩ env L F (.string (s.extract 0 i.toNat)) :=
  .of fun n a' w R hh _ => by
    have e' : (execOp a'.eval ⟨d, .slice t x none (some y) none, ty, pos, af, gd⟩) = (do pure (.value (← Instr.sliceAt t (a'.eval x) none (some (a'.eval y)) none))) := rfl
    rw [e', hh.eval hx, hh.eval hy]
    simp [Instr.sliceAt, Instr.slice, run_underlying hu, Instr.sliceBounds, bound_ok h]
theorem OpV.txFrom {s : ByteArray} {k : IntKind} {i : Int} (hu : P.underlying t = some .string) (hx : ev env x = some (.string s)) (hy : ev env y = some (.int k i)) (h : 0 ≤ i ∧ i ≤ s.size) :
    OpV P ⟨d, .slice t x (some y) none none, ty, pos, af, gd⟩ env L F (.string (s.extract i.toNat s.size)) :=
  .of fun n a' w R hh _ => by
    have e' : (execOp a'.eval ⟨d, .slice t x (some y) none none, ty, pos, af, gd⟩) = (do pure (.value (← Instr.sliceAt t (a'.eval x) (some (a'.eval y)) none none))) := rfl
    rw [e', hh.eval hx, hh.eval hy]
    simp [Instr.sliceAt, Instr.slice, run_underlying hu, Instr.sliceBounds, bound_ok h]
theorem OpV.txIn {s : ByteArray} {k k' : IntKind} {i j : Int} (hu : P.underlying t = some .string) (hx : ev env x = some (.string s)) (hy : ev env y = some (.int k i)) (hz : ev env z = some (.int k' j)) (h : 0 ≤ i ∧ i ≤ j ∧ j ≤ s.size) :
    OpV P ⟨d, .slice t x (some y) (some z) none, ty, pos, af, gd⟩ env L F (.string (s.extract i.toNat j.toNat)) :=
  .of fun n a' w R hh _ => by
    have e' : (execOp a'.eval ⟨d, .slice t x (some y) (some z) none, ty, pos, af, gd⟩) = (do pure (.value (← Instr.sliceAt t (a'.eval x) (some (a'.eval y)) (some (a'.eval z)) none))) := rfl
    rw [e', hh.eval hx, hh.eval hy, hh.eval hz]
    simp [Instr.sliceAt, Instr.slice, run_underlying hu, Instr.sliceBounds, bound_ok (P := P) (i := j) (m := s.size) ⟨by omega, h.2.2⟩, bound_ok (P := P) (i := i) (m := j.toNat) ⟨h.1, by omega⟩]
theorem OpV.byte {s : ByteArray} {k : IntKind} {i : Int} (j : Nat) (hu : P.underlying t = some .string) (hx : ev env x = some (.string s)) (hy : ev env y = some (.int k i)) (h : i = j ∧ j < s.size) :
    OpV P ⟨d, .index t x y, ty, pos, af, gd⟩ env L F (.int .u8 (s.data.toList.getD j 0).toNat) :=
  .of fun n a' w R hh _ => by
    obtain ⟨rfl, hj⟩ := h
    have e' : (execOp a'.eval ⟨d, .index t x y, ty, pos, af, gd⟩) = (do pure (.value (← Instr.index t (a'.eval x) (a'.eval y)))) := rfl
    rw [e', hh.eval hx, hh.eval hy, Sem.run_bind, run_index_string w t s k j hu, dif_pos ⟨by omega, by omega⟩]
    have : s.data.toList.getD j 0 = s[j] := by
      have : s.data.size = s.size := rfl
      rw [List.getD_eq_getElem?_getD, List.getElem?_eq_getElem (by rw [Array.length_toList]; omega)]
      rfl
    rw [this]
    rfl
end
/-! #### Calls -/
def evs (env : Env) : List Operand → Option (List Value)
  | [] => some []
  | x :: r => match ev env x, evs env r with
    | some v, some vs => some (v :: vs)
    | _, _ => none
theorem evs_map {n : Nat} {env : Env} {a : Act} (hh : Has n env a) : ∀ (l : List Operand) (m : List Value), evs env l = some m → l.map a.eval = m
  | [], m, h => by simp [evs] at h; simp [h]
  | x :: l, m, h => by
    simp only [evs] at h
    split at h
    · rename_i v vs h1 h2
      injection h with h
      rw [← h, List.map_cons, evs_map hh l vs h2, hh.eval h1]
    · cases h
theorem evs_arr {n : Nat} {env : Env} {a : Act} (hh : Has n env a) {l : List Operand} {m : List Value} (h : evs env l = some m) : (l.toArray).map a.eval = m.toArray := by
  apply Array.toList_inj.1
  rw [Array.toList_map]
  exact evs_map hh l m h
theorem Op1.call {f : FuncId} {xs : List Operand} {ats : Array TypeId} {args : List Value} {L' : List Itm} {post : Value → List Itm → Mem → Prop} {fo : Operand} (hf : ev env fo = some (.func (.func f) #[] #[]))
    (hxs : evs env xs = some args) (hr : ∀ w, (callFunc f args.toArray).run P w = .ok (.enter f args.toArray) w) (h : Fn P f args.toArray L' F post) (L0 : List Itm) (hL : L = L' ++ L0) :
    Op1 P ⟨d, .call ⟨.value fo, xs.toArray, ats⟩, ty, pos, af, gd⟩ env L F (fun v M G => ∃ M', M = M' ++ L0 ∧ post v M' G) :=
  ⟨fun n a w R K Q hh ho hk => by
    have hm := evs_arr hh hxs
    have e : (execOp a.eval ⟨d, .call ⟨.value fo, xs.toArray, ats⟩, ty, pos, af, gd⟩).run P w = .ok (.enter f args.toArray) w := by
      have : (execOp a.eval ⟨d, .call ⟨.value fo, xs.toArray, ats⟩, ty, pos, af, gd⟩) = (do let dd ← Deferred.ofValue (a.eval fo) (xs.toArray.map a.eval); invoke dd.target dd.args) := rfl
      rw [this, hm, hh.eval hf]
      simp [Deferred.ofValue, invoke, hr]
    unfold Oper.wp
    rw [e]
    subst hL
    refine (h.run w (L0.flatten ++ R) (by simpa [List.append_assoc] using ho)).mono ?_
    rintro e w' ⟨v, M, G, rfl, hle, hp, ho'⟩
    exact hk v (M ++ L0) G w' hle ⟨M, rfl, hp⟩ (by simpa [List.append_assoc] using ho')⟩
/-- A call that is lent all that is owned, and answers a value that hangs on nothing of it. -/
theorem OpV.call {f : FuncId} {xs : List Operand} {ats : Array TypeId} {args : List Value} {fo : Operand} {v : Value} (hf : ev env fo = some (.func (.func f) #[] #[]))
    (hxs : evs env xs = some args) (hr : ∀ w, (callFunc f args.toArray).run P w = .ok (.enter f args.toArray) w)
    (h : ∀ G, Le F G → (∀ b ∈ L.flatten, G b.id = some b.obj) → Fn P f args.toArray [] G (fun u _ _ => u = v)) :
    OpV P ⟨d, .call ⟨.value fo, xs.toArray, ats⟩, ty, pos, af, gd⟩ env L F v :=
  ⟨fun n a w R K Q hh ho hk => by
    have hm := evs_arr hh hxs
    have e : (execOp a.eval ⟨d, .call ⟨.value fo, xs.toArray, ats⟩, ty, pos, af, gd⟩).run P w = .ok (.enter f args.toArray) w := by
      have : (execOp a.eval ⟨d, .call ⟨.value fo, xs.toArray, ats⟩, ty, pos, af, gd⟩) = (do let dd ← Deferred.ofValue (a.eval fo) (xs.toArray.map a.eval); invoke dd.target dd.args) := rfl
      rw [this, hm, hh.eval hf]
      simp [Deferred.ofValue, invoke, hr]
    unfold Oper.wp
    rw [e]
    have hG := h (plus F L.flatten) (plus_le F _) (fun b hb => plus_mem (ho.sub (List.sublist_append_left _ _)) hb)
    refine (hG.run w R (by simpa using ho.freeze)).mono ?_
    rintro e w' ⟨u, M, G, rfl, hle, rfl, ho'⟩
    obtain ⟨h1, h2⟩ := (ho'.sub (List.sublist_append_right _ _)).thaw hle ho
    exact hk w' (h1.le h2)⟩
end
end Go.Proofs.Ytbmpdccoffkjgaa.Ow
