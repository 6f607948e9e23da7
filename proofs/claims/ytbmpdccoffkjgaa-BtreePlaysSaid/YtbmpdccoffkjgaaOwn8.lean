/- More on rows: calls that are lent all else, slices of rows that are owned, copy, clear, what slices.Insert and slices.Delete need. -/
import Derived.Test.YtbmpdccoffkjgaaOwn7
import Derived.Laws.Externs
namespace Go.Proofs.Ytbmpdccoffkjgaa.Ow
open Go
set_option linter.unusedVariables false
theorem Own.thaw2 {w w0 : World} {Bs Cs : List Blk} {F G : Mem} (h : Own w Cs G) (hle : Le (plus F Bs) G) (hB : Own w0 Bs F) : Own w (Bs ++ Cs) F := by
  have hin : ∀ b ∈ Bs, G b.id = some b.obj := fun b hb => hle.le _ _ (plus_mem hB hb)
  refine ⟨?_, fun b hb => ?_, fun i o hi => h.fr i o (hle.le _ _ ((plus_le F Bs).le _ _ hi)), fun i o hi b hb => ?_, h.rs.trans hle.re.symm⟩
  · rw [List.map_append, List.nodup_append]
    refine ⟨hB.nd, h.nd, fun x hx y hy e => ?_⟩
    obtain ⟨b, hb, rfl⟩ := List.mem_map.1 hx
    obtain ⟨c, hc, rfl⟩ := List.mem_map.1 hy
    exact h.ne _ _ (hin b hb) c hc e.symm
  · rcases List.mem_append.1 hb with hb | hb
    · exact h.fr _ _ (hin b hb)
    · exact h.at' b hb
  · rcases List.mem_append.1 hb with hb | hb
    · exact hB.ne i o hi b hb
    · exact h.ne i o (hle.le _ _ ((plus_le F Bs).le _ _ hi)) b hb
section
variable {P : Program} {env : Env} {L : List Itm} {F : Mem}
/-- A call that changes one item; all else is lent to it. -/
theorem Op1.lend {d : Option Tmp} {ty : TypeId} {pos : String} {af : Array Edge} {gd : Option (Nat × Bool)} {f : FuncId} {xs : List Operand} {ats : Array TypeId} {args : List Value} {fo : Operand} {it : Itm} {post : Value → Itm → Prop} (hf : ev env fo = some (.func (.func f) #[] #[]))
    (hxs : evs env xs = some args) (hr : ∀ w, (callFunc f args.toArray).run P w = .ok (.enter f args.toArray) w) (g : Itm → List Itm) (hu : ∀ it', Upd it it' L (g it'))
    (h : ∀ G, Le F G → (∀ b ∈ (g []).flatten, G b.id = some b.obj) → Fn P f args.toArray [it] G (fun v M H => ∃ it', M = [it'] ∧ post v it')) :
    Op1 P ⟨d, .call ⟨.value fo, xs.toArray, ats⟩, ty, pos, af, gd⟩ env L F (fun v M G => ∃ it', M = g it' ∧ G = F ∧ post v it') :=
  ⟨fun n a w R K Q hh ho hk => by
    have hm := evs_arr hh hxs
    have e : (execOp a.eval ⟨d, .call ⟨.value fo, xs.toArray, ats⟩, ty, pos, af, gd⟩).run P w = .ok (.enter f args.toArray) w := by
      have : (execOp a.eval ⟨d, .call ⟨.value fo, xs.toArray, ats⟩, ty, pos, af, gd⟩) = (do let dd ← Deferred.ofValue (a.eval fo) (xs.toArray.map a.eval); invoke dd.target dd.args) := rfl
      rw [this, hm, hh.eval hf]
      simp [Deferred.ofValue, invoke, hr]
    unfold Oper.wp
    rw [e]
    obtain ⟨T, p1, _⟩ := (hu it).perm
    have ho1 : Own w (T ++ (it ++ R)) F := ho.perm ((p1.append_right R).trans (by
      rw [List.append_assoc]
      exact (List.perm_append_comm (l₁ := it) (l₂ := T ++ R)).trans (by rw [List.append_assoc]; exact (List.perm_append_comm).append_left T)))
    have hT : Own w T F := ho1.sub (List.sublist_append_left _ _)
    obtain ⟨T0, r1, r2⟩ := (hu []).perm
    have hT0 : T0.Perm T := (List.perm_append_left_iff it).1 (r1.symm.trans p1)
    have hG := h (plus F T) (plus_le F _) (fun b hb => plus_mem hT (hT0.subset (by simpa using r2.subset hb)))
    refine (hG.run w R (by simpa using ho1.freeze)).mono ?_
    rintro e w' ⟨v, M, H, rfl, hle, ⟨it', rfl, hp⟩, ho'⟩
    have h2 := ho'.thaw2 hle hT
    obtain ⟨T', q1, q2⟩ := (hu it').perm
    have hTT : T.Perm T' := (List.perm_append_left_iff it).1 (p1.symm.trans q1)
    refine hk v (g it') F w' Le.rfl ⟨it', rfl, rfl, hp⟩ (h2.perm ?_)
    have h3 : (T ++ ([it'].flatten ++ R)).Perm (it' ++ T ++ R) := by
      rw [List.append_assoc]
      simp only [List.flatten_cons, List.flatten_nil, List.append_nil]
      exact (List.perm_append_comm (l₁ := T) (l₂ := it' ++ R)).trans (by rw [List.append_assoc]; exact (List.perm_append_comm).append_left it')
    exact h3.trans (((hTT.append_left it').trans q2.symm).append_right R)⟩
/-- A call that makes an item; all is lent to it. -/
theorem Op1.make {d : Option Tmp} {ty : TypeId} {pos : String} {af : Array Edge} {gd : Option (Nat × Bool)} {f : FuncId} {xs : List Operand} {ats : Array TypeId} {args : List Value} {fo : Operand} {post : Value → Itm → Prop} (hf : ev env fo = some (.func (.func f) #[] #[]))
    (hxs : evs env xs = some args) (hr : ∀ w, (callFunc f args.toArray).run P w = .ok (.enter f args.toArray) w)
    (h : ∀ G, Le F G → (∀ b ∈ L.flatten, G b.id = some b.obj) → Fn P f args.toArray [] G (fun v M H => ∃ it', M = [it'] ∧ post v it')) :
    Op1 P ⟨d, .call ⟨.value fo, xs.toArray, ats⟩, ty, pos, af, gd⟩ env L F (fun v M G => ∃ it', M = it' :: L ∧ G = F ∧ post v it') :=
  ⟨fun n a w R K Q hh ho hk => by
    have hm := evs_arr hh hxs
    have e : (execOp a.eval ⟨d, .call ⟨.value fo, xs.toArray, ats⟩, ty, pos, af, gd⟩).run P w = .ok (.enter f args.toArray) w := by
      have : (execOp a.eval ⟨d, .call ⟨.value fo, xs.toArray, ats⟩, ty, pos, af, gd⟩) = (do let dd ← Deferred.ofValue (a.eval fo) (xs.toArray.map a.eval); invoke dd.target dd.args) := rfl
      rw [this, hm, hh.eval hf]
      simp [Deferred.ofValue, invoke, hr]
    unfold Oper.wp
    rw [e]
    have hT : Own w L.flatten F := ho.sub (List.sublist_append_left _ _)
    have hG := h (plus F L.flatten) (plus_le F _) (fun b hb => plus_mem hT hb)
    refine (hG.run w R (by simpa using ho.freeze)).mono ?_
    rintro e w' ⟨v, M, H, rfl, hle, ⟨it', rfl, hp⟩, ho'⟩
    have h2 := ho'.thaw2 hle hT
    refine hk v (it' :: L) F w' Le.rfl ⟨it', rfl, rfl, hp⟩ (h2.perm ?_)
    simp only [List.flatten_cons, List.flatten_nil, List.append_nil]
    rw [← List.append_assoc]
    exact List.perm_append_comm.append_right R⟩
theorem RL.lend {ops : Array Oper} {Q : Post} {rest : List Oper} {n d : Nat} {op : Op} {ty : TypeId} {pos : String} {af : Array Edge} {post : Value → Itm → Prop} {g : Itm → List Itm} (h : Op1 P ⟨some d, op, ty, pos, af, none⟩ env L F (fun v M G => ∃ it', M = g it' ∧ G = F ∧ post v it')) (hd : Nat.blt d n = true)
    (k : ∀ v it', post v it' → RL P ops Q rest n ((d, v) :: env) (g it') F) : RL P ops Q (⟨some d, op, ty, pos, af, none⟩ :: rest) n env L F :=
  RL.w h hd (by rintro v _ _ _ ⟨it', rfl, rfl, hp⟩; exact k v it' hp)
/-- A function of the model's own, that answers and changes nothing. -/
theorem OpV.own {d : Option Tmp} {ty : TypeId} {pos : String} {af : Array Edge} {gd : Option (Nat × Bool)} {f : FuncId} {xs : List Operand} {ats : Array TypeId} {args : List Value} {fo : Operand} {v : Value} (hf : ev env fo = some (.func (.func f) #[] #[]))
    (hxs : evs env xs = some args) (hr : ∀ w R, Own w (L.flatten ++ R) F → (callFunc f args.toArray).run P w = .ok (.value v) w) : OpV P ⟨d, .call ⟨.value fo, xs.toArray, ats⟩, ty, pos, af, gd⟩ env L F v :=
  .of fun n a w R hh ho => by
    have hm := evs_arr hh hxs
    have : (execOp a.eval ⟨d, .call ⟨.value fo, xs.toArray, ats⟩, ty, pos, af, gd⟩) = (do let dd ← Deferred.ofValue (a.eval fo) (xs.toArray.map a.eval); invoke dd.target dd.args) := rfl
    rw [this, hm, hh.eval hf]
    simp [Deferred.ofValue, invoke, hr w R ho]
end
/-! ### Rows that are owned: pieces, copies -/
section
variable {P : Program} {env : Env} {L : List Itm} {F : Mem} {d : Option Tmp} {ty : TypeId} {pos : String} {af : Array Edge} {gd : Option (Nat × Bool)} {t e sz : Nat} {x y z : Operand}
/-- s[j:] of a row, not at its room's end. -/
theorem OpV.sfo {b o m c : Nat} {kk : IntKind} {i : Int} (j : Nat) (hs : Sld P t e sz) (hx : ev env x = some (.slice (some ⟨b, o, none⟩) m c)) (hy : ev env y = some (.int kk i)) (h : i = j ∧ j ≤ m ∧ j < c) :
    OpV P ⟨d, .slice t x (some y) none none, ty, pos, af, gd⟩ env L F (.slice (some ⟨b, o + j * sz, none⟩) (m - j) (c - j)) := by
  obtain ⟨rfl, h1, h2⟩ := h
  have := OpV.slFrom (P := P) (d := d) (ty := ty) (pos := pos) (af := af) (gd := gd) (L := L) (F := F) hs hx hy ⟨by omega, by omega⟩
  rw [if_neg (by simp; omega)] at this
  simpa [add_at] using this
theorem OpV.sio {b o m c : Nat} {kk kk' : IntKind} {i i' : Int} (j j' : Nat) (hs : Sld P t e sz) (hx : ev env x = some (.slice (some ⟨b, o, none⟩) m c)) (hy : ev env y = some (.int kk i)) (hz : ev env z = some (.int kk' i')) (h : i = j ∧ i' = j' ∧ j ≤ j' ∧ j' ≤ c ∧ j < c) :
    OpV P ⟨d, .slice t x (some y) (some z) none, ty, pos, af, gd⟩ env L F (.slice (some ⟨b, o + j * sz, none⟩) (j' - j) (c - j)) := by
  obtain ⟨rfl, rfl, h1, h2, h3⟩ := h
  have := OpV.slIn (P := P) (d := d) (ty := ty) (pos := pos) (af := af) (gd := gd) (L := L) (F := F) hs hx hy hz ⟨by omega, by omega, by omega⟩
  rw [if_neg (by simp; omega)] at this
  simpa [add_at] using this
/-- s[:j] of a row, within its room. -/
theorem OpV.sto {a : Option Addr} {m c : Nat} {kk : IntKind} {i : Int} (j : Nat) (hs : Sld P t e sz) (hx : ev env x = some (.slice a m c)) (hy : ev env y = some (.int kk i)) (h : i = j ∧ j ≤ c) :
    OpV P ⟨d, .slice t x none (some y) none, ty, pos, af, gd⟩ env L F (.slice a j c) := by
  obtain ⟨rfl, h1⟩ := h
  have := OpV.slTo (P := P) (d := d) (ty := ty) (pos := pos) (af := af) (gd := gd) (L := L) (F := F) hs hx hy ⟨by omega, by omega⟩
  simpa using this
/-- copy: so many cells are read, then written into a block that is owned. -/
theorem Op1.cpy {b o bt m c m' c' : Nat} {a2 : Option Addr} {cs cs' vs : List Value} {L' : List Itm} (k : Nat) (hs : Sld P t e sz) (hx : ev env x = some (.slice (some ⟨b, o, none⟩) m c)) (hy : ev env y = some (.slice a2 m' c'))
    (hk : Nat.min m' m = k) (hl : vs.length = k * sz) (h1 : ∀ v ∈ vs, v.oneCell' = true) (hr : ∀ w R, Own w (L.flatten ++ R) F → ∀ j v, vs[j]? = some v → ∃ ad, a2 = some ad ∧ w.cell? (ad.add j) = some v) (h0 : a2 = none → vs = []) (hb : o + k * sz ≤ cs.length)
    (hc : cs' = cs.take o ++ vs ++ cs.drop (o + k * sz)) (hu : Upd [⟨b, bt, cs⟩] [⟨b, bt, cs'⟩] L L') : Op1 P ⟨d, .call ⟨.builtin .copy, #[x, y], #[t, t]⟩, ty, pos, af, gd⟩ env L F (fun v M G => v = .int .i64 k ∧ M = L' ∧ G = F) :=
  .of fun n a w R hh ho => by
    obtain ⟨T, p1, p2⟩ := hu.perm
    have ho1 : Own w (⟨b, bt, cs⟩ :: (T ++ R)) F := by simpa using ho.perm (p1.append_right R)
    obtain ⟨w', hst, ho2⟩ := run_storeCells_own (P := P) o vs cs 0 w _ F ho1 (by omega) h1
    have hfirst : (Builtin.firstCells sz k (.slice a2 m' c')).run P w = .ok vs.toArray w := by
      cases a2 with
      | none =>
        have := h0 rfl
        subst this
        simp [Builtin.firstCells]
      | some ad =>
        exact run_firstCells_some w sz k ad _ _ vs hl fun j v hj => by
          obtain ⟨ad', e1, e2⟩ := hr w R ho j v hj
          cases e1
          exact e2
    refine ⟨_, w', L', F, ?_, Le.rfl, ⟨rfl, rfl, rfl⟩, ?_⟩
    · have e' : (execOp a.eval ⟨d, .call ⟨.builtin .copy, #[x, y], #[t, t]⟩, ty, pos, af, gd⟩) = (do pure (.value (← Builtin.copy_ #[t, t] ty #[a.eval x, a.eval y]))) := by simp [execOp, resolve, invoke, builtin]
      rw [e', hh.eval hx, hh.eval hy]
      simp [Builtin.copy_, run_underlying hs.un, Builtin.lenOf, hs.size, hk, hfirst, hst, goInt]
    · have : Own w' ((⟨b, bt, cs'⟩ : Blk) :: (T ++ R)) F := by rw [hc, ← hl]; simpa using ho2
      exact this.perm (by simpa using (p2.append_right R).symm)
/-- append within the room: so many cells are read, then written behind the elements. -/
theorem Op1.apc {b bt m c m' c' : Nat} {a2 : Option Addr} {cs cs' vs : List Value} {L' : List Itm} (k : Nat) (hs : Sld P t e sz) (hx : ev env x = some (.slice (some ⟨b, 0, none⟩) m c)) (hy : ev env y = some (.slice a2 m' c'))
    (hk : m' = k ∧ m + k ≤ c) (hl : vs.length = k * sz) (h1 : ∀ v ∈ vs, v.oneCell' = true) (hr : ∀ w R, Own w (L.flatten ++ R) F → ∀ j v, vs[j]? = some v → ∃ ad, a2 = some ad ∧ w.cell? (ad.add j) = some v) (h0 : a2 = none → vs = []) (hb : m * sz + k * sz ≤ cs.length)
    (hc : cs' = cs.take (m * sz) ++ vs ++ cs.drop (m * sz + k * sz)) (hu : Upd [⟨b, bt, cs⟩] [⟨b, bt, cs'⟩] L L') : Op1 P ⟨d, .call ⟨.builtin .append, #[x, y], #[t, t]⟩, ty, pos, af, gd⟩ env L F (fun v M G => v = .slice (some ⟨b, 0, none⟩) (m + k) c ∧ M = L' ∧ G = F) :=
  .of fun n a w R hh ho => by
    obtain ⟨rfl, hroom⟩ := hk
    obtain ⟨T, p1, p2⟩ := hu.perm
    have ho1 : Own w (⟨b, bt, cs⟩ :: (T ++ R)) F := by simpa using ho.perm (p1.append_right R)
    obtain ⟨w', hst, ho2⟩ := run_storeCells_own (P := P) (m * sz) vs cs 0 w _ F ho1 (by omega) h1
    have hfirst : (Builtin.firstCells sz m' (.slice a2 m' c')).run P w = .ok vs.toArray w := by
      cases a2 with
      | none =>
        have := h0 rfl
        subst this
        simp [Builtin.firstCells]
      | some ad =>
        exact run_firstCells_some w sz m' ad _ _ vs hl fun j v hj => by
          obtain ⟨ad', e1, e2⟩ := hr w R ho j v hj
          cases e1
          exact e2
    refine ⟨_, w', L', F, builtin_append_run hh hx hy ?_, Le.rfl, ⟨rfl, rfl, rfl⟩, ?_⟩
    · have hst' : (storeCells ((⟨b, 0, none⟩ : Addr).add (m * sz)) vs).run P w = .ok () w' := by rw [add_at, Nat.zero_add]; exact hst
      simp [Builtin.append_, run_underlying hs.un, hs.size, Builtin.lenOf, hroom, hfirst, hst']
    · have : Own w' ((⟨b, bt, cs'⟩ : Blk) :: (T ++ R)) F := by rw [hc, ← hl]; simpa using ho2
      exact this.perm (by simpa using (p2.append_right R).symm)
/-- s[j:] of a slice, its place told as it is. -/
theorem OpV.sfd {a : Option Addr} {m c : Nat} {kk : IntKind} {i : Int} (j : Nat) (hs : Sld P t e sz) (hx : ev env x = some (.slice a m c)) (hy : ev env y = some (.int kk i)) (h : i = j ∧ j ≤ m) :
    OpV P ⟨d, .slice t x (some y) none none, ty, pos, af, gd⟩ env L F (.slice (if c = j then a else a.map (·.add (j * sz))) (m - j) (c - j)) := by
  obtain ⟨rfl, h1⟩ := h
  have := OpV.slFrom (P := P) (d := d) (ty := ty) (pos := pos) (af := af) (gd := gd) (L := L) (F := F) hs hx hy ⟨by omega, by omega⟩
  simpa using this
/-- append(s[:i], make(T, m)...), behind the room: a new block. -/
theorem Op1.apz {bytes t2 : Nat} {g : Bool} {zero : Value} {b m c k : Nat} {i : Int} {bt : Nat} {cs : List Value} (hs : Sld P t e sz) (ht : Ty P e sz bytes g zero) (hz : zero.cells.size = sz) (hti : P.underlying t2 = some (.int .i64)) (hx : ev env x = some (.slice (some ⟨b, 0, none⟩) m c)) (hy : ev env y = some (.int .i64 i))
    (hi : Inn [⟨b, bt, cs⟩] L) (hl : m * sz ≤ cs.length) (hk : i = k ∧ 0 < k) (hgrow : c < m + k) (hsz : (m + k) * bytes ≤ 140737488355328) (hlen : m + k ≤ 140737488355328) (h0 : 0 < sz) (hb0 : 0 < bytes) :
    Op1 P ⟨d, .call ⟨.builtin .append, #[x, y], #[t, t2]⟩, ty, pos, af, gd⟩ env L F (fun v M G => ∃ b' C zs, v = .slice (some ⟨b', 0, none⟩) (m + k) C ∧ M = [⟨b', e, cs.take (m * sz) ++ zs⟩] :: L ∧ G = F ∧ m + k ≤ C ∧ C ≤ 9223372036854775807 ∧ zs.length = (C - m) * sz) :=
  .of fun n a w R hh ho => by
    obtain ⟨rfl, hk0⟩ := hk
    obtain ⟨inf, hinf, hiz, hisz, hib⟩ := ht.parts
    have hw : IntKind.i64.wrap (k : Int) = k := wrap_in (by omega) (by omega)
    have hneg : ¬ ((k : Int) < 0) := by omega
    have hkb : k * bytes ≤ 140737488355328 := Nat.le_trans (Nat.mul_le_mul_right _ (Nat.le_add_left k m)) hsz
    have hbig : ¬ (281474976710656 < (k : Int) * (bytes : Int)) := by rw [← Int.natCast_mul]; omega
    have hn : ¬ (m + k ≤ c) := by omega
    have hfit := growslice_fits hgrow hsz
    have h48 : ¬ (281474976710656 < Builtin.nextslicecap (m + k) c * bytes) := by omega
    have h63 : ¬ (9223372036854775807 < ((m : Int) + (k : Int))) := by omega
    have hold : (Builtin.firstCells sz m (.slice (some ⟨b, 0, none⟩) m c)).run P w.drew = .ok (cs.take (m * sz)).toArray w.drew :=
      run_firstCells_some w.drew sz m _ _ _ _ (by rw [List.length_take]; omega) fun j v hj => by
        have hj' : cs[j]? = some v := by rw [List.getElem?_take] at hj; split at hj; exact hj; cases hj
        rw [World.cell?_drew, add_at, Nat.zero_add, ho.cell (hi.one R)]
        exact hj'
    obtain ⟨C, hC⟩ : ∃ C, C = grownCap w (m + k) c e := ⟨_, rfl⟩
    have hC1 : m + k ≤ C := by rw [hC]; exact grownCap_ge w _ c e
    have hC2 : C ≤ 9223372036854775807 := by
      have := grownCap_le_maxLen w (m + k) c e (by unfold maxLen; omega)
      rw [← hC] at this
      unfold maxLen at this
      omega
    obtain ⟨zs, hzs⟩ : ∃ zs, zs = (Builtin.zeroCells zero.cells k ++ Builtin.zeroCells zero.cells (C - (m + k))).toList := ⟨_, rfl⟩
    refine ⟨_, w.drew.alloc (.cells (cs.take (m * sz) ++ zs).toArray e (0, 0)), _, F, ?_, Le.rfl, ⟨w.heap.size, C, zs, rfl, rfl, rfl, hC1, hC2, ?_⟩, ?_⟩
    · have e' : (execOp a.eval ⟨d, .call ⟨.builtin .append, #[x, y], #[t, t2]⟩, ty, pos, af, gd⟩) = (do pure (.value (← Builtin.append_ #[t, t2] ty #[a.eval x, a.eval y]))) := by simp [execOp, resolve, invoke, builtin]
      rw [e', hh.eval hx, hh.eval hy]
      have hm : (cs.take (m * sz) ++ zs).toArray = (cs.take (m * sz)).toArray ++ Builtin.zeroCells zero.cells k ++ Builtin.zeroCells zero.cells (C - (m + k)) := by
        rw [hzs]
        apply Array.ext'
        simp
      rw [hm, hC]
      simp [Builtin.append_, run_underlying hs.un, run_underlying hti, hs.size, asInt, asIntOf, hw, hneg, typeInfo, hinf, hib, hbig, hn, h63, h48, Question.forced, hold, zeroValue, hiz, newRow, grownCap]
      exact fun h => absurd h (Nat.mul_ne_zero (by omega) (by omega))
    · rw [hzs, Array.toList_append, List.length_append, zeroCells_length, zeroCells_length, hz, ← Nat.add_mul]
      congr 1
      omega
    · simpa using (ho.drew).alloc e (cs.take (m * sz) ++ zs)
/-- append of cells that can be read, whatever they lie in. -/
theorem Op1.appr {α : Type} {enc : α → List Value} {bytes : Nat} {g : Bool} {zero : Value} {a a2 : Option Addr} {c c2 : Nat} {xs ys : List α} {it : Itm} (hs : Sld P t e sz) (ht : Ty P e sz bytes g zero) (hz : zero.cells.size = sz) (hE : Enc enc sz) (hx : ev env x = some (.slice a xs.length c)) (hy : ev env y = some (.slice a2 ys.length c2))
    (hr : Row e enc sz a c xs it) (hrd : ∀ w R, Own w (L.flatten ++ R) F → ∀ j v, (ys.flatMap enc)[j]? = some v → ∃ ad, a2 = some ad ∧ w.cell? (ad.add j) = some v) (h0 : a2 = none → ys = []) (hsz : (xs.length + ys.length) * bytes ≤ 140737488355328) (hlen : xs.length + ys.length ≤ 9223372036854775807) (f : Itm → List Itm) (hu : ∀ it', Upd it it' L (f it')) :
    Op1 P ⟨d, .call ⟨.builtin .append, #[x, y], #[t, t]⟩, ty, pos, af, gd⟩ env L F (grown e enc sz F (xs ++ ys) f) :=
  .of fun n act w R hh ho => by
    obtain ⟨T, p1, _⟩ := (hu it).perm
    obtain ⟨a', c', it', w', h1, h2, h3⟩ := run_append_row (ty := ty) (w := w) (T := T ++ R) (F := F) (ys := ys) (a2 := a2) (c2 := c2) hs ht hz hE hr (by rw [← List.append_assoc]; exact ho.perm (p1.append_right R))
      (hrd w R ho) h0 hsz hlen
    obtain ⟨T', q1, q2⟩ := (hu it').perm
    refine ⟨_, w', f it', F, builtin_append_run hh hx hy h1, Le.rfl, ⟨a', c', it', rfl, h2, rfl, rfl⟩, ?_⟩
    have hTT : T.Perm T' := (List.perm_append_left_iff it).1 (p1.symm.trans q1)
    rw [← List.append_assoc] at h3
    exact h3.perm (((hTT.append_left it').append_right R).trans (q2.append_right R).symm)
/-- clear of cells of a block that is owned. -/
theorem Op1.clr {bytes : Nat} {g : Bool} {zero : Value} {b o m c bt : Nat} {cs cs' : List Value} {L' : List Itm} (hs : Sld P t e sz) (ht : Ty P e sz bytes g zero) (hz : zero.cells.size = sz) (h1 : zero.cells.toList.all (·.oneCell') = true) (h0 : (sz == 0) = false) (hx : ev env x = some (.slice (some ⟨b, o, none⟩) m c)) (hm : 0 < m) (hb : o + m * sz ≤ cs.length)
    (zs : List Value) (hzs : zs = (Builtin.zeroCells zero.cells m).toList) (hc : cs' = cs.take o ++ zs ++ cs.drop (o + m * sz)) (hu : Upd [⟨b, bt, cs⟩] [⟨b, bt, cs'⟩] L L') : Op1 P ⟨d, .call ⟨.builtin .clear, #[x], #[t]⟩, ty, pos, af, gd⟩ env L F (fun v M G => v = .tuple #[] ∧ M = L' ∧ G = F) :=
  .of fun n a w R hh ho => by
    obtain ⟨T, p1, p2⟩ := hu.perm
    have ho1 : Own w (⟨b, bt, cs⟩ :: (T ++ R)) F := by simpa using ho.perm (p1.append_right R)
    have hzl : zs.length = m * sz := by rw [hzs, zeroCells_length, hz]
    have hone : ∀ v ∈ zs, v.oneCell' = true := by
      intro v hv
      rw [hzs] at hv
      unfold Builtin.zeroCells at hv
      simp only [Array.toList_map, List.mem_map] at hv
      obtain ⟨i, _, rfl⟩ := hv
      have h0' : 0 < zero.cells.size := by rw [hz]; have : sz ≠ 0 := by simpa using h0
                                           omega
      have hlt : i % zero.cells.size < zero.cells.size := Nat.mod_lt _ h0'
      rw [getElem!_pos zero.cells _ hlt]
      exact List.all_eq_true.1 h1 _ (Array.getElem_mem_toList hlt)
    obtain ⟨w', hst, ho2⟩ := run_storeCells_own (P := P) o zs cs 0 w _ F ho1 (by omega) hone
    refine ⟨_, w', L', F, ?_, Le.rfl, ⟨rfl, rfl, rfl⟩, ?_⟩
    · have e' : (execOp a.eval ⟨d, .call ⟨.builtin .clear, #[x], #[t]⟩, ty, pos, af, gd⟩) = (do pure (.value (← Builtin.clear_ #[t] ty #[a.eval x]))) := by simp [execOp, resolve, invoke, builtin]
      rw [e', hh.eval hx]
      have hm0 : m ≠ 0 := by omega
      obtain ⟨m', rfl⟩ : ∃ m', m = m' + 1 := ⟨m - 1, by omega⟩
      simp [Builtin.clear_, run_underlying hs.un, ht.zeroV, ← hzs, hst]
    · have : Own w' ((⟨b, bt, cs'⟩ : Blk) :: (T ++ R)) F := by rw [hc, ← hzl]; simpa using ho2
      exact this.perm (by simpa using (p2.append_right R).symm)
end

section
variable {P : Program} {ops : Array Oper} {Q : Post} {rest : List Oper} {n : Nat} {env : Env} {L : List Itm} {F : Mem} {op : Op} {d : Nat} {ty : TypeId} {pos : String} {af : Array Edge}
theorem RL.cp {u : Value} {L' : List Itm} (h : Op1 P ⟨some d, op, ty, pos, af, none⟩ env L F (fun v M G => v = u ∧ M = L' ∧ G = F)) (hd : Nat.blt d n = true) (k : RL P ops Q rest n ((d, u) :: env) L' F) :
    RL P ops Q (⟨some d, op, ty, pos, af, none⟩ :: rest) n env L F := RL.w h hd (by rintro _ _ _ _ ⟨rfl, rfl, rfl⟩; exact k)
theorem RL.cp0 {u : Value} {L' : List Itm} (h : Op1 P ⟨none, op, ty, pos, af, none⟩ env L F (fun v M G => v = u ∧ M = L' ∧ G = F)) (k : RL P ops Q rest n env L' F) :
    RL P ops Q (⟨none, op, ty, pos, af, none⟩ :: rest) n env L F := RL.w0 h (by rintro _ _ _ _ ⟨rfl, rfl, rfl⟩; exact k)
theorem RL.az {m k sz e : Nat} {cs : List Value} (h : Op1 P ⟨some d, op, ty, pos, af, none⟩ env L F (fun v M G => ∃ b' C zs, v = .slice (some ⟨b', 0, none⟩) (m + k) C ∧ M = [⟨b', e, cs.take (m * sz) ++ zs⟩] :: L ∧ G = F ∧ m + k ≤ C ∧ C ≤ 9223372036854775807 ∧ zs.length = (C - m) * sz)) (hd : Nat.blt d n = true)
    (kk : ∀ (b C : Nat) (zs : List Value), m + k ≤ C → C ≤ 9223372036854775807 → zs.length = (C - m) * sz → RL P ops Q rest n ((d, .slice (some ⟨b, 0, Option.none⟩) (m + k) C) :: env) ([⟨b, e, cs.take (m * sz) ++ zs⟩] :: L) F) :
    RL P ops Q (⟨some d, op, ty, pos, af, none⟩ :: rest) n env L F := RL.w h hd (by rintro _ _ _ _ ⟨b, C, zs, rfl, rfl, rfl, h1, h2, h3⟩; exact kk b C zs h1 h2 h3)
end
/-- One cell of one element is stored. -/
theorem Enc.put1 {α : Type} {enc : α → List Value} {sz : Nat} (h : Enc enc sz) {xs : List α} {pad : List Value} {i j : Nat} {x y : α} {v : Value} (hx : xs[i]? = some x) (hj : j < sz) (hy : enc y = (enc x).set j v) :
    (xs.set i y).flatMap enc ++ pad = (xs.flatMap enc ++ pad).take (i * sz + j) ++ [v] ++ (xs.flatMap enc ++ pad).drop (i * sz + j + 1) := by
  have hi := (List.getElem?_eq_some_iff.1 hx).1
  rw [h.put xs pad i hi y, hy]
  have hlen : (xs.flatMap enc ++ pad).length = xs.length * sz + pad.length := by rw [List.length_append, h.fl]
  have hb : (i + 1) * sz ≤ xs.length * sz := Nat.mul_le_mul_right _ hi
  have hb' : (i + 1) * sz = i * sz + sz := by rw [Nat.succ_mul]
  have e : (xs.flatMap enc ++ pad).drop (i * sz) = enc x ++ (xs.flatMap enc ++ pad).drop ((i + 1) * sz) := by
    rw [h.drop xs pad i (by omega), h.drop xs pad (i + 1) hi]
    have h2 : xs.drop i = x :: xs.drop (i + 1) := by
      obtain ⟨h1, h2⟩ := List.getElem?_eq_some_iff.1 hx
      rw [List.drop_eq_getElem_cons h1, h2]
    rw [h2, List.flatMap_cons, List.append_assoc]
  have e1 : (xs.flatMap enc ++ pad).take (i * sz + j) = (xs.flatMap enc ++ pad).take (i * sz) ++ (enc x).take j := by
    rw [List.take_add, e, List.take_append_of_le_length (l₁ := enc x) (by rw [h.len]; omega)]
  have e2 : (xs.flatMap enc ++ pad).drop (i * sz + j + 1) = (enc x).drop (j + 1) ++ (xs.flatMap enc ++ pad).drop ((i + 1) * sz) := by
    rw [Nat.add_assoc, ← List.drop_drop, e, List.drop_append_of_le_length (by rw [h.len]; omega)]
  rw [e1, e2, List.set_eq_take_append_cons_drop, if_pos (by rw [h.len]; exact hj)]
  simp [List.append_assoc]
theorem Row.of {α : Type} {e : TypeId} {enc : α → List Value} {sz b c : Nat} {xs : List α} {cs : List Value} (pad : List Value) (h : cs = xs.flatMap enc ++ pad) (hp : pad.length = (c - xs.length) * sz) (h1 : xs.length ≤ c) (h2 : c ≤ 9223372036854775807) : Row e enc sz (some ⟨b, 0, none⟩) c xs [⟨b, e, cs⟩] :=
  ⟨h1, h2, .inr ⟨b, pad, rfl, by rw [h], hp⟩⟩
theorem Sl.none {α : Type} {F : Mem} {enc : α → List Value} {sz c : Nat} {xs : List α} (h : Sl F enc sz none c xs) : xs = [] := by
  rcases h.rd with h | ⟨_, _, h, _⟩
  · exact h
  · cases h
theorem Sl.one {α : Type} {F : Mem} {enc : α → List Value} {sz b : Nat} {x : α} (h : Rd F b 0 (enc x)) : Sl F enc sz (some ⟨b, 0, Option.none⟩) 1 [x] :=
  ⟨Nat.le_refl _, by omega, .inr ⟨b, 0, rfl, fun i y hy => by
    cases i with
    | zero => simp at hy; subst hy; simpa using h
    | succ i => simp at hy⟩⟩
theorem Rd.of0 {G : Mem} {b t : Nat} {cs : List Value} (hb : G b = some (.cells cs.toArray t (0, 0))) : Rd G b 0 cs := Rd.of hb 0 cs fun j v hj => by simpa using hj
/-- What inserting leaves, in a new block. -/
theorem ins_grow {A X D zs : List Value} {p s q : Nat} (ha : A.length = p) (hx : X.length = s) (hd : D.length = q) :
    (((A ++ zs).take p ++ X ++ (A ++ zs).drop (p + s)).take (p + s) ++ D ++ ((A ++ zs).take p ++ X ++ (A ++ zs).drop (p + s)).drop (p + s + q)) = A ++ X ++ D ++ zs.drop (s + q) := by
  subst ha; subst hx; subst hd
  have e1 : (A ++ zs).take A.length = A := List.take_left' rfl
  have e2 : (A ++ zs).drop (A.length + X.length) = zs.drop X.length := by rw [List.drop_append, List.drop_of_length_le (by omega)]; simp
  rw [e1, e2]
  have l1 : (A ++ X).length = A.length + X.length := by simp
  rw [List.take_left' l1, List.drop_append, List.drop_of_length_le (by rw [l1]; omega), l1, List.drop_drop]
  simp
/-- What inserting leaves, in the room that there is. -/
theorem ins_room {A X D pad : List Value} {p s q : Nat} (ha : A.length = p) (hx : X.length = s) (hd : D.length = q) (hp : s ≤ pad.length) :
    (((A ++ D ++ pad).take (p + s) ++ D ++ (A ++ D ++ pad).drop (p + s + q)).take p ++ X ++ ((A ++ D ++ pad).take (p + s) ++ D ++ (A ++ D ++ pad).drop (p + s + q)).drop (p + s)) = A ++ X ++ D ++ pad.drop s := by
  subst ha; subst hx; subst hd
  have l0 : (A ++ D ++ pad).length = A.length + D.length + pad.length := by simp [Nat.add_assoc]
  have l1 : ((A ++ D ++ pad).take (A.length + X.length)).length = A.length + X.length := by rw [List.length_take, l0]; omega
  have e1 : ((A ++ D ++ pad).take (A.length + X.length) ++ D ++ (A ++ D ++ pad).drop (A.length + X.length + D.length)).take A.length = A := by
    rw [List.append_assoc, List.take_append_of_le_length (by omega), List.take_take, Nat.min_eq_left (by omega), List.append_assoc, List.take_left' rfl]
  have e2 : ((A ++ D ++ pad).take (A.length + X.length) ++ D ++ (A ++ D ++ pad).drop (A.length + X.length + D.length)).drop (A.length + X.length) = D ++ pad.drop X.length := by
    rw [List.append_assoc, List.drop_left' l1, show A.length + X.length + D.length = (A ++ D).length + X.length by simp; omega, ← List.drop_drop, List.drop_left' rfl]
  rw [e1, e2]
  simp [List.append_assoc]
/-- What deleting leaves. -/
theorem del_cells {A V X pad zs : List Value} {p q n o s : Nat} (ha : A.length = p) (hv : V.length = q) (hx : X.length = n) (hr : p + q ≤ n) (ho : o = p + q) (hs : o + s = n) :
    ((A ++ V ++ (X ++ pad).drop (p + q)).take o ++ zs ++ (A ++ V ++ (X ++ pad).drop (p + q)).drop (o + s)) = A ++ V ++ (zs ++ pad) := by
  subst ha; subst hv; subst hx; subst ho
  have l1 : (A ++ V).length = A.length + V.length := by simp
  rw [List.take_left' l1, List.drop_append, List.drop_of_length_le (by rw [l1]; omega), l1, List.drop_drop, show A.length + V.length + (A.length + V.length + s - (A.length + V.length)) = X.length by omega, List.drop_left' rfl]
  simp [List.append_assoc]
/-- The overlap that slices.Insert asks for: none, between two blocks. -/
theorem run_overlaps {P : Program} {f : FuncId} {fn : Func} {tS tR e sz : Nat} (hf : P.funcs[f]? = some fn) (h1 : (fn.name == "runtime.NumGoroutine") = false) (h2 : fn.body.isNone = true) (h3 : (Extern.findNext fn).isNone = true) (h4 : Extern.find fn = some (Extern.SlicesOverlaps.overlaps #[tS, tS] #[tR])) (hs : Sld P tS e sz)
    {w : World} {Bs : List Blk} {F : Mem} (ho : Own w Bs F) {b b' o la ca lb cb t : Nat} {xs cs' : List Value} (hb : F b = some (.cells xs.toArray t (0, 0))) (hm : (⟨b', e, cs'⟩ : Blk) ∈ Bs) (h0 : 0 < cs'.length) :
    (callFunc f #[.slice (some ⟨b, 0, none⟩) la ca, .slice (some ⟨b', o, none⟩) lb cb]).run P w = .ok (.value (.bool false)) w := by
  have hne : b ≠ b' := fun e => ho.ne b _ hb _ hm e.symm
  have hw := ho.fr _ _ hb
  have hw' := ho.at' _ hm
  simp only [Blk.obj] at hw'
  rw [run_callFunc_extern hf h1 h2 (by simpa using h3) h4, Lib.run_overlaps_apart w tS tR e hs.un sz hs.size ⟨b, 0, none⟩ ⟨b', o, none⟩ la ca lb cb hne t e xs.length cs'.length (by simp [World.shape?, hw]) (by simp [World.shape?, hw']) (by omega) (by simp [World.frozen?, hw]) (by simp [World.frozen?, hw])]
  rfl
/-- Some items are kept. -/
theorem Inn.ob {b : Blk} {L : List Itm} (h : Inn [b] L) : b ∈ L.flatten := h.mem b (by simp)
theorem keep {L L' : List Itm} {R : Itm} {F : Mem} (h : (L' ++ [R]).Sublist L) : ∀ w, Own w L.flatten F → Own w (L'.flatten ++ R) F := fun w ho => by
  have := subl h w ho
  simpa using this
end Go.Proofs.Ytbmpdccoffkjgaa.Ow
