/- The rules as the walks use them; results; memory that is given away. -/
import Derived.Test.YtbmpdccoffkjgaaOwn5
namespace Go.Proofs.Ytbmpdccoffkjgaa.Ow
open Go
set_option linter.unusedVariables false
section
variable {P : Program} {ops : Array Oper} {Q : Post} {rest : List Oper} {n : Nat} {env : Env} {L : List Itm} {F : Mem} {op : Op} {d : Nat} {ty : TypeId} {pos : String} {af : Array Edge}
theorem RL.vT {p : Prop} [Decidable p] (h : OpV P ⟨some d, op, ty, pos, af, none⟩ env L F (.bool (decide p))) (hd : Nat.blt d n = true) (hp : p) (k : RL P ops Q rest n ((d, .bool true) :: env) L F) :
    RL P ops Q (⟨some d, op, ty, pos, af, none⟩ :: rest) n env L F := RL.vs h hd (fun _ => k) (fun h => absurd hp h)
theorem RL.vF {p : Prop} [Decidable p] (h : OpV P ⟨some d, op, ty, pos, af, none⟩ env L F (.bool (decide p))) (hd : Nat.blt d n = true) (hp : ¬ p) (k : RL P ops Q rest n ((d, .bool false) :: env) L F) :
    RL P ops Q (⟨some d, op, ty, pos, af, none⟩ :: rest) n env L F := RL.vs h hd (fun h => absurd h hp) (fun _ => k)
theorem RL.bT {b : Bool} (h : OpV P ⟨some d, op, ty, pos, af, none⟩ env L F (.bool b)) (hd : Nat.blt d n = true) (hp : b = true) (k : RL P ops Q rest n ((d, .bool true) :: env) L F) :
    RL P ops Q (⟨some d, op, ty, pos, af, none⟩ :: rest) n env L F := RL.vb h hd (fun _ => k) (fun h => by rw [hp] at h; cases h)
theorem RL.bF {b : Bool} (h : OpV P ⟨some d, op, ty, pos, af, none⟩ env L F (.bool b)) (hd : Nat.blt d n = true) (hp : b = false) (k : RL P ops Q rest n ((d, .bool false) :: env) L F) :
    RL P ops Q (⟨some d, op, ty, pos, af, none⟩ :: rest) n env L F := RL.vb h hd (fun h => by rw [hp] at h; cases h) (fun _ => k)
theorem RL.nb {f : Nat → Value} {t : TypeId} {cs : List Value} (h : Op1 P ⟨some d, op, ty, pos, af, none⟩ env L F (newBlk L F f t cs)) (hd : Nat.blt d n = true) (k : ∀ b, RL P ops Q rest n ((d, f b) :: env) ([⟨b, t, cs⟩] :: L) F) :
    RL P ops Q (⟨some d, op, ty, pos, af, none⟩ :: rest) n env L F := RL.w h hd (by rintro _ _ _ _ ⟨b, rfl, rfl, rfl⟩; exact k b)
theorem RL.st {L' : List Itm} (h : Op1 P ⟨none, op, ty, pos, af, none⟩ env L F (stored L' F)) (k : RL P ops Q rest n env L' F) :
    RL P ops Q (⟨none, op, ty, pos, af, none⟩ :: rest) n env L F := RL.w0 h (by rintro _ _ _ _ ⟨rfl, rfl, rfl⟩; exact k)
/-- A place in a slice whose memory never changes. -/
theorem RL.ix {α : Type} {enc : α → List Value} {t e sz c : Nat} {a : Option Addr} {xs : List α} {x y : Operand} {kk : IntKind} {i : Int} (hs : Sld P t e sz) (hx : ev env x = some (.slice a xs.length c)) (hy : ev env y = some (.int kk i)) (hS : Sl F enc sz a c xs)
    (hd : Nat.blt d n = true) (el : α) (hg : 0 ≤ i ∧ xs[i.toNat]? = some el) (k : ∀ b o, Rd F b o (enc el) → RL P ops Q rest n ((d, .pointer (some ⟨b, o, none⟩)) :: env) L F) :
    RL P ops Q (⟨some d, .indexAddr t x y, ty, pos, af, none⟩ :: rest) n env L F := by
  have hlt := (List.getElem?_eq_some_iff.1 hg.2).1
  rcases hS.rd with rfl | ⟨b, o, rfl, hr⟩
  · simp at hlt
  · exact RL.v (OpV.ixa hs hx hy ⟨hg.1, by omega⟩) hd (k b _ (hr _ _ hg.2))
/-- A call that leaves memory made of late, which never changes. -/
theorem RL.cf {f : FuncId} {xs : List Operand} {ats : Array TypeId} {args : List Value} {fo : Operand} {post : Value → Mem → Prop} (hf : ev env fo = some (.func (.func f) #[] #[])) (hxs : evs env xs = some args)
    (hr : ∀ w, (callFunc f args.toArray).run P w = .ok (.enter f args.toArray) w) (h : Fn P f args.toArray [] F (fun v M G => M = [] ∧ post v G)) (hd : Nat.blt d n = true) (k : ∀ v G, Le F G → post v G → RL P ops Q rest n ((d, v) :: env) L G) :
    RL P ops Q (⟨some d, .call ⟨.value fo, xs.toArray, ats⟩, ty, pos, af, none⟩ :: rest) n env L F :=
  RL.w (Op1.call hf hxs hr h L rfl) hd (by rintro v _ G hle ⟨_, rfl, rfl, hp⟩; exact k v G hle hp)
/-- A call that changes an item. -/
theorem RL.cm {f : FuncId} {xs : List Operand} {ats : Array TypeId} {args : List Value} {fo : Operand} {post : Value → Itm → Mem → Prop} {it : Itm} (hf : ev env fo = some (.func (.func f) #[] #[])) (hxs : evs env xs = some args)
    (hr : ∀ w, (callFunc f args.toArray).run P w = .ok (.enter f args.toArray) w) (h : Fn P f args.toArray [it] F (fun v M G => ∃ it', M = [it'] ∧ post v it' G)) (g : Itm → List Itm) (hu : ∀ it', Upd it it' L (g it')) (hd : Nat.blt d n = true)
    (k : ∀ v it' G, Le F G → post v it' G → RL P ops Q rest n ((d, v) :: env) (g it') G) :
    RL P ops Q (⟨some d, .call ⟨.value fo, xs.toArray, ats⟩, ty, pos, af, none⟩ :: rest) n env L F := by
  obtain ⟨T, p1, _⟩ := (hu it).perm
  refine RL.items (L' := [it, T]) (fun w ho => by simpa using ho.perm p1) ?_
  refine RL.w (Op1.call hf hxs hr h [T] rfl) hd ?_
  rintro v _ G hle ⟨_, rfl, it', rfl, hp⟩
  obtain ⟨T', q1, q2⟩ := (hu it').perm
  have hTT : T.Perm T' := (List.perm_append_left_iff it).1 (p1.symm.trans q1)
  refine RL.items (L' := g it') (fun w ho => ?_) (k v it' G hle hp)
  have : Own w (it' ++ T) G := by simpa using ho
  exact this.perm ((hTT.append_left it').trans q2.symm)
/-- A truth that a slot holds: each by itself. -/
theorem RL.cs {l : List Oper} {t : Nat} {b : Bool} (hb : find env t = some (.bool b)) (kt : b = true → RL P ops Q l n ((t, .bool true) :: env) L F) (kf : b = false → RL P ops Q l n ((t, .bool false) :: env) L F) : RL P ops Q l n env L F := by
  cases b
  · exact RL.weak ⟨fun i v hi => by
      simp only [find] at hi
      by_cases e : t = i
      · subst e; simp at hi; rw [hb, hi]
      · rw [Bool.eq_false_iff.2 fun h => e (Nat.eq_of_beq_eq_true h)] at hi; exact hi⟩ (kf rfl)
  · exact RL.weak ⟨fun i v hi => by
      simp only [find] at hi
      by_cases e : t = i
      · subst e; simp at hi; rw [hb, hi]
      · rw [Bool.eq_false_iff.2 fun h => e (Nat.eq_of_beq_eq_true h)] at hi; exact hi⟩ (kt rfl)
theorem WC.cs {l : Code} {t : Nat} {b : Bool} (hb : find env t = some (.bool b)) (kt : b = true → WC P l Q n ((t, .bool true) :: env) L F) (kf : b = false → WC P l Q n ((t, .bool false) :: env) L F) : WC P l Q n env L F := by
  cases b
  · exact WC.weak ⟨fun i v hi => by
      simp only [find] at hi
      by_cases e : t = i
      · subst e; simp at hi; rw [hb, hi]
      · rw [Bool.eq_false_iff.2 fun h => e (Nat.eq_of_beq_eq_true h)] at hi; exact hi⟩ (kf rfl)
  · exact WC.weak ⟨fun i v hi => by
      simp only [find] at hi
      by_cases e : t = i
      · subst e; simp at hi; rw [hb, hi]
      · rw [Bool.eq_false_iff.2 fun h => e (Nat.eq_of_beq_eq_true h)] at hi; exact hi⟩ (kt rfl)
/-- What a slot holds is known otherwise. -/
theorem RL.kn {l : List Oper} {t : Nat} {v v' : Value} (hb : find env t = some v') (h : v' = v) (k : RL P ops Q l n ((t, v) :: env) L F) : RL P ops Q l n env L F :=
  RL.weak ⟨fun i u hi => by
      simp only [find] at hi
      by_cases e : t = i
      · subst e; simp at hi; rw [hb, h, hi]
      · rw [Bool.eq_false_iff.2 fun h => e (Nat.eq_of_beq_eq_true h)] at hi; exact hi⟩ k
theorem WC.kn {l : Code} {t : Nat} {v v' : Value} (hb : find env t = some v') (h : v' = v) (k : WC P l Q n ((t, v) :: env) L F) : WC P l Q n env L F :=
  WC.weak ⟨fun i u hi => by
      simp only [find] at hi
      by_cases e : t = i
      · subst e; simp at hi; rw [hb, h, hi]
      · rw [Bool.eq_false_iff.2 fun h => e (Nat.eq_of_beq_eq_true h)] at hi; exact hi⟩ k
/-- A guarded operation whose guard was passed by. -/
theorem RL.gu {j : Nat} {b : Bool} {o : Oper} {t : Nat} (hj : ops[j]? = some o) (ht : o.dst = some t)
    (hb : find env t = some undef) (hd : Nat.blt d n = true) (k : RL P ops Q rest n ((d, undef) :: env) L F) : RL P ops Q (⟨some d, op, ty, pos, af, some (j, b)⟩ :: rest) n env L F :=
  ⟨fun a w hh ho => by
    have h1 := hh.get _ _ hb
    have hw : Region.wanted ⟨some d, op, ty, pos, af, some (j, b)⟩ (yielded ops a.tmps) = false := by
      simp [Region.wanted, yielded, hj, ht, h1, undef]
    unfold wpList
    rw [if_neg (by rw [hw]; exact Bool.false_ne_true)]
    exact k.run _ _ (hh.put hd undef) ho⟩
/-- An append's end. -/
theorem RL.ap {α : Type} {e sz : Nat} {enc : α → List Value} {zs : List α} {f : Itm → List Itm} (h : Op1 P ⟨some d, op, ty, pos, af, none⟩ env L F (grown e enc sz F zs f)) (hd : Nat.blt d n = true)
    (k : ∀ a c it, Row e enc sz a c zs it → RL P ops Q rest n ((d, .slice a zs.length c) :: env) (f it) F) :
    RL P ops Q (⟨some d, op, ty, pos, af, none⟩ :: rest) n env L F := RL.w h hd (by rintro _ _ _ _ ⟨a, c, it, rfl, hr, rfl, rfl⟩; exact k a c it hr)
/-! ### Memory that is given away for good -/
theorem freeze_own {it : Itm} {L' : List Itm} (hu : Upd it [] L L') {w : World} (ho : Own w L.flatten F) : Own w L'.flatten (plus F it) := by
  obtain ⟨T, p1, p2⟩ := hu.perm
  exact (ho.perm p1).freeze.perm (by simpa using p2.symm)
theorem mem_own {it : Itm} {L' : List Itm} (hu : Upd it [] L L') {w : World} (ho : Own w L.flatten F) : ∀ b ∈ it, plus F it b.id = some b.obj := by
  obtain ⟨T, p1, p2⟩ := hu.perm
  exact fun b hb => plus_mem ((ho.perm p1).sub (List.sublist_append_left _ _)) hb
theorem Fin.freeze {e : Exit} {it : Itm} {L' : List Itm} (hu : Upd it [] L L') (k : ∀ G, Le F G → (∀ b ∈ it, G b.id = some b.obj) → Fin Q e n env L' G) : Fin Q e n env L F :=
  ⟨fun a w hh ho => (k _ (plus_le F it) (mem_own hu ho)).run a w hh (freeze_own hu ho)⟩
theorem RL.freeze {it : Itm} {L' : List Itm} (hu : Upd it [] L L') (k : ∀ G, Le F G → (∀ b ∈ it, G b.id = some b.obj) → RL P ops Q rest n env L' G) : RL P ops Q rest n env L F :=
  ⟨fun a w hh ho => (k _ (plus_le F it) (mem_own hu ho)).run a w hh (freeze_own hu ho)⟩
theorem WC.freeze {c : Code} {it : Itm} {L' : List Itm} (hu : Upd it [] L L') (k : ∀ G, Le F G → (∀ b ∈ it, G b.id = some b.obj) → WC P c Q n env L' G) : WC P c Q n env L F :=
  ⟨fun a w hh ho => (k _ (plus_le F it) (mem_own hu ho)).run a w hh (freeze_own hu ho)⟩
/-- Only some items are looked at further. -/
theorem Inn.keep {x : Itm} (h : Inn x L) : ∀ w, Own w L.flatten F → Own w (([] : List Itm).flatten ++ x) F := by
  intro w ho
  have : x.Sublist L.flatten := by
    clear ho
    induction h with
    | here => exact List.sublist_append_left _ _
    | there _ ih => exact ih.trans (List.sublist_append_right _ _)
    | part h => exact h.trans (List.sublist_append_left _ _)
  simpa using ho.sub this
theorem subl {L' : List Itm} (h : L'.Sublist L) : ∀ w, Own w L.flatten F → Own w L'.flatten F := fun w ho => ho.sub (by
  induction h with
  | slnil => exact List.Sublist.refl _
  | cons a _ ih => exact ih (ho.sub (List.sublist_append_right _ _)) |>.trans (List.sublist_append_right _ _)
  | cons_cons a _ ih => exact List.Sublist.append_left (ih (ho.sub (List.sublist_append_right _ _))) _)
end
/-! ### Loops, as the walks use them -/
section
variable {P : Program} {Q : Post} {n : Nat} {env : Env} {L : List Itm} {F : Mem} {ι : Type}
/-- The memory that is known stays as it is. -/
theorem WC.loop0 {c : Code} {fx : Env} (hfx : Sub fx env) (ok : ι → Prop) (μ : ι → Nat) (vr : ι → Env) (i0 : ι) (h0 : ok i0) (he : Sub (vr i0 ++ fx) env)
    (round : ∀ i, ok i → WC P c (Exit.then (Again n ok μ (fun j => vr j ++ fx) (fun _ => L) (fun _ => F) (μ i)) Q) n (vr i ++ fx) L F) : WC P (.loop c) Q n env L F :=
  WC.loop ok μ (fun j => vr j ++ fx) (fun _ => L) (fun _ => F) i0 h0 he (fun _ h => h) round
/-- Some items turn; the others stay. -/
theorem WC.loopx {c : Code} {fx : Env} {pre fm : List Itm} (hL : pre ++ fm = L) (hfx : Sub fx env) (ok : ι → Prop) (μ : ι → Nat) (vr : ι → Env) (vm : ι → List Itm) (G : ι → Mem) (i0 : ι) (h0 : ok i0) (he : Sub (vr i0 ++ fx) env) (hm : ∀ w, Own w (pre ++ fm).flatten F → Own w (vm i0 ++ fm).flatten (G i0))
    (round : ∀ i, ok i → WC P c (Exit.then (Again n ok μ (fun j => vr j ++ fx) (fun j => vm j ++ fm) G (μ i)) Q) n (vr i ++ fx) (vm i ++ fm) (G i)) : WC P (.loop c) Q n env L F := by
  subst hL
  exact WC.loop ok μ (fun j => vr j ++ fx) (fun j => vm j ++ fm) G i0 h0 he hm round
/-- Some items turn, and memory grows. -/
theorem WC.loopm {c : Code} {fx : Env} (hfx : Sub fx env) (ok : ι → Prop) (μ : ι → Nat) (vr : ι → Env) (M : ι → List Itm) (G : ι → Mem) (i0 : ι) (h0 : ok i0) (he : Sub (vr i0 ++ fx) env) (hm : ∀ w, Own w L.flatten F → Own w (M i0).flatten (G i0))
    (round : ∀ i, ok i → WC P c (Exit.then (Again n ok μ (fun j => vr j ++ fx) M G (μ i)) Q) n (vr i ++ fx) (M i) (G i)) : WC P (.loop c) Q n env L F :=
  WC.loop ok μ (fun j => vr j ++ fx) M G i0 h0 he hm round
end
/-! ### Results -/
section
variable {P : Program} {fn : Func} {n : Nat} {env : Env} {L : List Itm} {F : Mem}
theorem Res.t1 {t : Nat} {v : Value} (h : fn.results = #[.tmp t]) (hv : find env t = some v) : Res P fn n env L F v :=
  ⟨fun a w hh ho => by rw [results_tmp h]; have := hh.get _ _ hv; simp [this]⟩
theorem Res.t2 {t u : Nat} {v v' : Value} (h : fn.results = #[.tmp t, .tmp u]) (hv : find env t = some v) (hv' : find env u = some v') : Res P fn n env L F (.tuple #[v, v']) :=
  ⟨fun a w hh ho => by rw [results_tmp2 h]; have h1 := hh.get _ _ hv; have h2 := hh.get _ _ hv'; simp [h1, h2]⟩
theorem Res.t0 (h : fn.results = #[]) : Res P fn n env L F (.tuple #[]) := ⟨fun a w hh ho => by rw [results_none h]⟩
theorem load_whole {ty sz bytes : Nat} {zero : Value} {b bt : Nat} {cs : List Value} (ht : Ty P ty sz bytes true zero) {w : World} {Bs : List Blk} (ho : Own w Bs F) (hm : (⟨b, bt, cs⟩ : Blk) ∈ Bs) (hl : cs.length = sz) : (loadVar ty ⟨b, 0, none⟩).run P w = .ok (.agg cs.toArray) w := by
  have h1 := run_loadCells_list (P := P) w ⟨b, 0, none⟩ cs (fun j v hj => by rw [add_at, ho.cell hm, Nat.zero_add]; exact hj)
  rw [hl] at h1
  simp [loadVar, ht.agg, ht.size, h1]
theorem Res.c1 {t ty sz bytes b bt : Nat} {zero : Value} {cs : List Value} (h : fn.results = #[.cell t ty]) (ht : Ty P ty sz bytes true zero) (hv : find env t = some (.pointer (some ⟨b, 0, none⟩))) (hi : Inn [⟨b, bt, cs⟩] L) (hl : cs.length = sz) : Res P fn n env L F (.agg cs.toArray) :=
  ⟨fun a w hh ho => by
    have h1 := hh.get _ _ hv
    have h2 := load_whole (P := P) ht ho (by simpa using hi.one []) hl
    simp [results, h, h1, asAddr, h2]⟩
theorem Res.ct {t ty sz bytes b bt u : Nat} {zero v : Value} {cs : List Value} (h : fn.results = #[.cell t ty, .tmp u]) (ht : Ty P ty sz bytes true zero) (hv : find env t = some (.pointer (some ⟨b, 0, none⟩))) (hi : Inn [⟨b, bt, cs⟩] L) (hl : cs.length = sz) (hu : find env u = some v) : Res P fn n env L F (.tuple #[.agg cs.toArray, v]) :=
  ⟨fun a w hh ho => by
    have h1 := hh.get _ _ hv
    have h3 := hh.get _ _ hu
    have h2 := load_whole (P := P) ht ho (by simpa using hi.one []) hl
    simp [results, h, h1, asAddr, h2, h3]⟩
end
/-! ### The beginning of a function's walk -/
theorem Fn.start0 {P : Program} {f : FuncId} {fn : Func} {c : Code} {args : List Value} {F : Mem} {post : Value → List Itm → Mem → Prop} {n : Nat} {env : Env} (hf : P.funcs[f]? = some fn) (hb : fn.body = some c) (hn : fn.ntmps = n) (hl : Nat.ble args.length n = true) (he : argEnv 0 args = env)
    (h : ∀ R : Itm, WC P c (bodyPost P fn (retPost F R post)) n env [R] F) : Fn P f args.toArray [] F post := Fn.start hf hb hn hl (by rw [he]; exact h)
theorem Fn.start1 {P : Program} {f : FuncId} {fn : Func} {c : Code} {args : List Value} {it : Itm} {F : Mem} {post : Value → List Itm → Mem → Prop} {n : Nat} {env : Env} (hf : P.funcs[f]? = some fn) (hb : fn.body = some c) (hn : fn.ntmps = n) (hl : Nat.ble args.length n = true) (he : argEnv 0 args = env)
    (h : ∀ R : Itm, WC P c (bodyPost P fn (retPost F R post)) n env [it, R] F) : Fn P f args.toArray [it] F post := Fn.start hf hb hn hl (by rw [he]; exact h)
end Go.Proofs.Ytbmpdccoffkjgaa.Ow
