/- The walk over the calculus: lists of operations, code, loops, calls, results. -/
import Derived.Test.YtbmpdccoffkjgaaOwn1
namespace Go.Proofs.Ytbmpdccoffkjgaa.Ow
open Go
abbrev Post := Exit → Act → World → Prop
section
variable (P : Program)
/-- An operation yields a value, from what is known, and changes nothing that is known. -/
structure OpV (o : Oper) (env : Env) (L : List Itm) (F : Mem) (v : Value) : Prop where
  run : ∀ n a w R (K : Act → World → Prop) (Q : Post), Has n env a → Own w (L.flatten ++ R) F → (∀ w', Own w' (L.flatten ++ R) F → K (a.put o.dst v) w') → o.wp P a w K Q
/-- An operation yields a value and memory of which post holds. -/
structure Op1 (o : Oper) (env : Env) (L : List Itm) (F : Mem) (post : Value → List Itm → Mem → Prop) : Prop where
  run : ∀ n a w R (K : Act → World → Prop) (Q : Post), Has n env a → Own w (L.flatten ++ R) F →
    (∀ v L' F' w', Le F F' → post v L' F' → Own w' (L'.flatten ++ R) F' → K (a.put o.dst v) w') → o.wp P a w K Q
/-- The rest of a region's operations, one behind the other. -/
structure RL (ops : Array Oper) (Q : Post) (l : List Oper) (n : Nat) (env : Env) (L : List Itm) (F : Mem) : Prop where
  run : ∀ a w, Has n env a → Own w L.flatten F → wpList P ops Q l a w
structure WC (c : Code) (Q : Post) (n : Nat) (env : Env) (L : List Itm) (F : Mem) : Prop where
  run : ∀ a w, Has n env a → Own w L.flatten F → c.wp P Q a w
/-- What stands behind an exit. -/
structure Fin (Q : Post) (e : Exit) (n : Nat) (env : Env) (L : List Itm) (F : Mem) : Prop where
  run : ∀ a w, Has n env a → Own w L.flatten F → Q e a w
/-- A call's contract. -/
structure Fn (f : FuncId) (args : Array Value) (L : List Itm) (F : Mem) (post : Value → List Itm → Mem → Prop) : Prop where
  run : ∀ w R, Own w (L.flatten ++ R) F → Calls P f args w fun e w' => ∃ v L' F', e = .returned v ∧ Le F F' ∧ post v L' F' ∧ Own w' (L'.flatten ++ R) F'
end
variable {P : Program}
theorem OpV.op1 {o : Oper} {env : Env} {L : List Itm} {F : Mem} {v : Value} (h : OpV P o env L F v) : Op1 P o env L F fun v' L' F' => v' = v ∧ L' = L ∧ F' = F :=
  ⟨fun n a w R K Q hh ho hk => h.run n a w R K Q hh ho fun w' ho' => hk v L F w' Le.rfl ⟨rfl, rfl, rfl⟩ ho'⟩
/-! ### Lists of operations -/
section
variable {ops : Array Oper} {Q : Post} {rest : List Oper} {n : Nat} {env : Env} {L : List Itm} {F : Mem}
theorem RL.nil (h : Fin Q .normal n env L F) : RL P ops Q [] n env L F := ⟨fun a w hh ho => h.run a w hh ho⟩
theorem wpList_do {o : Oper} {a : Act} {w : World} (hg : Region.wanted o (yielded ops a.tmps) = true) (h : o.wp P a w (wpList P ops Q rest) Q) : wpList P ops Q (o :: rest) a w := by
  unfold wpList
  rw [if_pos hg]
  exact .inl h
theorem wanted_none {op : Op} {d : Option Tmp} {ty : TypeId} {pos : String} {af : Array Edge} (y : Nat → Option Bool) : Region.wanted ⟨d, op, ty, pos, af, none⟩ y = true := rfl
theorem RL.w {op : Op} {d : Nat} {ty : TypeId} {pos : String} {af : Array Edge} {post : Value → List Itm → Mem → Prop}
    (h : Op1 P ⟨some d, op, ty, pos, af, none⟩ env L F post) (hd : Nat.blt d n = true) (k : ∀ v L' F', Le F F' → post v L' F' → RL P ops Q rest n ((d, v) :: env) L' F') :
    RL P ops Q (⟨some d, op, ty, pos, af, none⟩ :: rest) n env L F :=
  ⟨fun a w hh ho => wpList_do (wanted_none _) (h.run n a w [] _ Q hh (by rw [List.append_nil]; exact ho) fun v L' F' w' hle hp ho' => (k v L' F' hle hp).run _ _ (hh.put hd v) (by rw [List.append_nil] at ho'; exact ho'))⟩
theorem RL.w0 {op : Op} {ty : TypeId} {pos : String} {af : Array Edge} {post : Value → List Itm → Mem → Prop}
    (h : Op1 P ⟨none, op, ty, pos, af, none⟩ env L F post) (k : ∀ v L' F', Le F F' → post v L' F' → RL P ops Q rest n env L' F') :
    RL P ops Q (⟨none, op, ty, pos, af, none⟩ :: rest) n env L F :=
  ⟨fun a w hh ho => wpList_do (wanted_none _) (h.run n a w [] _ Q hh (by rw [List.append_nil]; exact ho) fun v L' F' w' hle hp ho' => (k v L' F' hle hp).run _ _ (hh.put_none v) (by rw [List.append_nil] at ho'; exact ho'))⟩
/-- An operation that changes nothing. -/
theorem RL.v {op : Op} {d : Nat} {ty : TypeId} {pos : String} {af : Array Edge} {v : Value}
    (h : OpV P ⟨some d, op, ty, pos, af, none⟩ env L F v) (hd : Nat.blt d n = true) (k : RL P ops Q rest n ((d, v) :: env) L F) :
    RL P ops Q (⟨some d, op, ty, pos, af, none⟩ :: rest) n env L F :=
  RL.w h.op1 hd (by rintro _ _ _ _ ⟨rfl, rfl, rfl⟩; exact k)
/-- A test: each answer by itself. -/
theorem RL.vs {op : Op} {d : Nat} {ty : TypeId} {pos : String} {af : Array Edge} {p : Prop} [Decidable p]
    (h : OpV P ⟨some d, op, ty, pos, af, none⟩ env L F (.bool (decide p))) (hd : Nat.blt d n = true) (kt : p → RL P ops Q rest n ((d, .bool true) :: env) L F)
    (kf : ¬ p → RL P ops Q rest n ((d, .bool false) :: env) L F) : RL P ops Q (⟨some d, op, ty, pos, af, none⟩ :: rest) n env L F := by
  refine RL.v h hd ?_
  by_cases hp : p
  · rw [decide_eq_true hp]; exact kt hp
  · rw [decide_eq_false hp]; exact kf hp
theorem RL.vb {op : Op} {d : Nat} {ty : TypeId} {pos : String} {af : Array Edge} {b : Bool}
    (h : OpV P ⟨some d, op, ty, pos, af, none⟩ env L F (.bool b)) (hd : Nat.blt d n = true) (kt : b = true → RL P ops Q rest n ((d, .bool true) :: env) L F)
    (kf : b = false → RL P ops Q rest n ((d, .bool false) :: env) L F) : RL P ops Q (⟨some d, op, ty, pos, af, none⟩ :: rest) n env L F := by
  refine RL.v h hd ?_
  cases b
  · exact kf rfl
  · exact kt rfl
theorem yielded_of {j : Nat} {o : Oper} {t : Nat} {b : Bool} {a : Act} (hj : ops[j]? = some o) (ht : o.dst = some t) (hh : Has n env a) (hb : find env t = some (.bool b)) : yielded ops a.tmps j = some b := by
  have := hh.get t _ hb
  simp [yielded, hj, ht, this]
/-- A guarded operation that is done. -/
theorem RL.g {op : Op} {dst : Option Tmp} {ty : TypeId} {pos : String} {af : Array Edge} {j : Nat} {b : Bool} {o : Oper} {t : Nat} (hj : ops[j]? = some o) (ht : o.dst = some t)
    (hb : find env t = some (.bool b)) (k : RL P ops Q (⟨dst, op, ty, pos, af, none⟩ :: rest) n env L F) : RL P ops Q (⟨dst, op, ty, pos, af, some (j, b)⟩ :: rest) n env L F :=
  ⟨fun a w hh ho => by
    have h1 := k.run a w hh ho
    have hw : Region.wanted ⟨dst, op, ty, pos, af, some (j, b)⟩ (yielded ops a.tmps) = true := by simp [Region.wanted, yielded_of hj ht hh hb]
    unfold wpList at h1 ⊢
    rw [if_pos (wanted_none _)] at h1
    rw [if_pos hw]
    exact h1⟩
/-- A guarded operation that is passed by. -/
theorem RL.gs {op : Op} {d : Nat} {ty : TypeId} {pos : String} {af : Array Edge} {j : Nat} {b : Bool} {o : Oper} {t : Nat} (hj : ops[j]? = some o) (ht : o.dst = some t)
    (hb : find env t = some (.bool !b)) (hd : Nat.blt d n = true) (k : RL P ops Q rest n ((d, undef) :: env) L F) : RL P ops Q (⟨some d, op, ty, pos, af, some (j, b)⟩ :: rest) n env L F :=
  ⟨fun a w hh ho => by
    have hw : Region.wanted ⟨some d, op, ty, pos, af, some (j, b)⟩ (yielded ops a.tmps) = false := by
      simp [Region.wanted, yielded_of hj ht hh hb]
    unfold wpList
    rw [if_neg (by rw [hw]; exact Bool.false_ne_true)]
    exact k.run _ _ (hh.put hd undef) ho⟩
theorem RL.weak {e' : Env} (hs : Sub e' env) (k : RL P ops Q rest n e' L F) : RL P ops Q rest n env L F := ⟨fun a w hh ho => k.run a w (hh.sub hs) ho⟩
theorem RL.items {L' : List Itm} (hs : ∀ w, Own w L.flatten F → Own w L'.flatten F) (k : RL P ops Q rest n env L' F) : RL P ops Q rest n env L F := ⟨fun a w hh ho => k.run a w hh (hs w ho)⟩
/-! ### Code -/
theorem WC.seq {x y : Code} (h : WC P x (Exit.then (y.wp P Q) Q) n env L F) : WC P (.seq x y) Q n env L F := ⟨fun a w hh ho => wp_seq (h.run a w hh ho)⟩
theorem WC.region {id : Nat} {l : List Oper} (h : RL P l.toArray Q l n env L F) : WC P (.region id l.toArray false) Q n env L F := ⟨fun a w hh ho => wp_region_lit (h.run a w hh ho)⟩
theorem WC.skip (h : Fin Q .normal n env L F) : WC P .skip Q n env L F := ⟨fun a w hh ho => wp_skip (h.run a w hh ho)⟩
theorem WC.exit {id : Nat} (h : Fin Q (.exit id) n env L F) : WC P (.exit id) Q n env L F := ⟨fun a w hh ho => wp_exit (h.run a w hh ho)⟩
theorem WC.ret (h : Fin Q .ret n env L F) : WC P .ret Q n env L F := ⟨fun a w hh ho => wp_ret (h.run a w hh ho)⟩
theorem WC.block {id : Nat} {c : Code} (h : WC P c (Exit.inBlock id Q) n env L F) : WC P (.block id c) Q n env L F := ⟨fun a w hh ho => wp_block (h.run a w hh ho)⟩
theorem WC.scope {c : Code} (h : ∀ a w, Has n env a → Own w L.flatten F → (Code.scope c).wp P Q a w) : WC P (.scope c) Q n env L F := ⟨h⟩
theorem WC.condT {c : Operand} {x y : Code} (hc : ev env c = some (.bool true)) (h : WC P x Q n env L F) : WC P (.cond c x y) Q n env L F :=
  ⟨fun a w hh ho => wp_cond_true (hh.eval hc) (h.run a w hh ho)⟩
theorem WC.condF {c : Operand} {x y : Code} (hc : ev env c = some (.bool false)) (h : WC P y Q n env L F) : WC P (.cond c x y) Q n env L F :=
  ⟨fun a w hh ho => wp_cond_false (hh.eval hc) (h.run a w hh ho)⟩
theorem WC.weak {c : Code} {e' : Env} (hs : Sub e' env) (k : WC P c Q n e' L F) : WC P c Q n env L F := ⟨fun a w hh ho => k.run a w (hh.sub hs) ho⟩
theorem WC.items {c : Code} {L' : List Itm} (hs : ∀ w, Own w L.flatten F → Own w L'.flatten F) (k : WC P c Q n env L' F) : WC P c Q n env L F := ⟨fun a w hh ho => k.run a w hh (hs w ho)⟩
theorem Fin.items {e : Exit} {L' : List Itm} (hs : ∀ w, Own w L.flatten F → Own w L'.flatten F) (k : Fin Q e n env L' F) : Fin Q e n env L F := ⟨fun a w hh ho => k.run a w hh (hs w ho)⟩
theorem Fin.weak {e : Exit} {e' : Env} (hs : Sub e' env) (k : Fin Q e n e' L F) : Fin Q e n env L F := ⟨fun a w hh ho => k.run a w (hh.sub hs) ho⟩
theorem Fin.then {c : Code} (h : WC P c Q n env L F) : Fin (Exit.then (c.wp P Q) Q) .normal n env L F := ⟨fun a w hh ho => h.run a w hh ho⟩
theorem Fin.then_ret {K : Act → World → Prop} (h : Fin Q .ret n env L F) : Fin (Exit.then K Q) .ret n env L F := ⟨fun a w hh ho => h.run a w hh ho⟩
theorem Fin.then_exit {K : Act → World → Prop} {id : Nat} (h : Fin Q (.exit id) n env L F) : Fin (Exit.then K Q) (.exit id) n env L F := ⟨fun a w hh ho => h.run a w hh ho⟩
theorem Fin.blk {id : Nat} (h : Fin Q .normal n env L F) : Fin (Exit.inBlock id Q) .normal n env L F := ⟨fun a w hh ho => h.run a w hh ho⟩
theorem Fin.blk_ret {id : Nat} (h : Fin Q .ret n env L F) : Fin (Exit.inBlock id Q) .ret n env L F := ⟨fun a w hh ho => h.run a w hh ho⟩
theorem Fin.blk_exit {id : Nat} (h : Fin Q .normal n env L F) : Fin (Exit.inBlock id Q) (.exit id) n env L F := ⟨fun a w hh ho => by
  show (if id = id then Q .normal a w else _)
  rw [if_pos rfl]
  exact h.run a w hh ho⟩
theorem Fin.blk_other {id i' : Nat} (hne : (i' == id) = false) (h : Fin Q (.exit i') n env L F) : Fin (Exit.inBlock id Q) (.exit i') n env L F := ⟨fun a w hh ho => by
  show (if i' = id then _ else Q (.exit i') a w)
  rw [if_neg (by simpa using hne)]
  exact h.run a w hh ho⟩
end
/-! ### Loops -/
theorem wp_loop_ghost {c : Code} {Q : Post} {a : Act} {w : World} (I : Nat → Act → World → Prop) (m0 : Nat) (h₀ : I m0 a w)
    (round : ∀ m a w, I m a w → c.wp P (Exit.then (fun a' w' => ∃ m', m' < m ∧ I m' a' w') Q) a w) : (Code.loop c).wp P Q a w := by
  intro b k cs
  have key : ∀ m a w, I m a w → ∃ e a' w', Q e a' w' ∧ Arrives P (lone (b.at a (.code c :: .inLoop c :: k)) cs w) b k cs e a' w' := by
    intro m
    induction m using Nat.strongRecOn with
    | _ m ih =>
      intro a w hI
      obtain ⟨e, a₁, w₁, hq, harr⟩ := round m a w hI b (.inLoop c :: k) cs
      cases e with
      | normal =>
        obtain ⟨m', hlt, hI₁⟩ := hq
        obtain ⟨e₂, a₂, w₂, hq₂, harr₂⟩ := ih m' hlt a₁ w₁ hI₁
        exact ⟨e₂, a₂, w₂, hq₂, .of_steps (Steps.trans harr (.one step_inLoop)) harr₂⟩
      | exit id => exact ⟨_, a₁, w₁, hq, .pass (x := .inLoop c) rfl (fun _ _ => .inl (by simp)) harr⟩
      | goto l => exact ⟨_, a₁, w₁, hq, .pass (x := .inLoop c) rfl (fun _ _ => .inl (by simp)) harr⟩
      | ret => exact ⟨_, a₁, w₁, hq, .pass (x := .inLoop c) rfl (fun _ _ => .inl (by simp)) harr⟩
      | panic ch => exact ⟨_, a₁, w₁, hq, .pass (x := .inLoop c) rfl (fun _ _ => .inl (by simp)) harr⟩
      | outgrown => exact ⟨_, a₁, w₁, hq, .pass (x := .inLoop c) rfl (fun _ _ => .inl (by simp)) harr⟩
  obtain ⟨e, a', w', hq, harr⟩ := key m0 a w h₀
  exact ⟨e, a', w', hq, .of_steps (.one step_loop) harr⟩
/-- What a round may lead to: a state of the family, with a lower measure. -/
def Again {ι : Type} (n : Nat) (ok : ι → Prop) (μ : ι → Nat) (E : ι → Env) (M : ι → List Itm) (G : ι → Mem) (m : Nat) : Act → World → Prop :=
  fun a w => ∃ j, ok j ∧ μ j < m ∧ Has n (E j) a ∧ Own w (M j).flatten (G j)
section
variable {Q : Post} {n : Nat} {env : Env} {L : List Itm} {F : Mem} {ι : Type} {ok : ι → Prop} {μ : ι → Nat} {E : ι → Env} {M : ι → List Itm} {G : ι → Mem}
theorem WC.loop {c : Code} (ok : ι → Prop) (μ : ι → Nat) (E : ι → Env) (M : ι → List Itm) (G : ι → Mem) (i0 : ι) (h0 : ok i0) (he : Sub (E i0) env) (hm : ∀ w, Own w L.flatten F → Own w (M i0).flatten (G i0))
    (round : ∀ i, ok i → WC P c (Exit.then (Again n ok μ E M G (μ i)) Q) n (E i) (M i) (G i)) : WC P (.loop c) Q n env L F :=
  ⟨fun a w hh ho => wp_loop_ghost (fun m a w => ∃ j, ok j ∧ μ j = m ∧ Has n (E j) a ∧ Own w (M j).flatten (G j)) (μ i0) ⟨i0, h0, rfl, hh.sub he, hm w ho⟩ fun m a w ⟨j, hj, hμ, ha, hw⟩ =>
    wp_mono ((round j hj).run a w ha hw) fun e a w q => by
      cases e with
      | normal =>
        obtain ⟨i, h1, h2, h3, h4⟩ := q
        exact ⟨μ i, hμ ▸ h2, i, h1, rfl, h3, h4⟩
      | _ => exact q⟩
theorem Fin.again (j : ι) (hj : ok j) {m : Nat} (hlt : μ j < m) (he : Sub (E j) env) (hm : ∀ w, Own w L.flatten F → Own w (M j).flatten (G j)) : Fin (Exit.then (Again n ok μ E M G m) Q) .normal n env L F :=
  ⟨fun _ w hh ho => ⟨j, hj, hlt, hh.sub he, hm w ho⟩⟩
end
/-! ### Functions: contracts, calls, results -/
def retPost (F : Mem) (R : Itm) (post : Value → List Itm → Mem → Prop) : Ending → World → Prop :=
  fun e w' => ∃ v L' F', e = .returned v ∧ Le F F' ∧ post v L' F' ∧ Own w' (L'.flatten ++ R) F'
theorem Fn.intro {f : FuncId} {fn : Func} {c : Code} {args : List Value} {L : List Itm} {F : Mem} {post : Value → List Itm → Mem → Prop} {n : Nat} (env : Env)
    (hf : P.funcs[f]? = some fn) (hb : fn.body = some c) (hn : fn.ntmps = n) (hl : Nat.ble args.length n = true) (he : ∀ i v, find env i = some v → args[i]? = some v)
    (h : ∀ R : Itm, WC P c (bodyPost P fn (retPost F R post)) n env (L ++ [R]) F) : Fn P f args.toArray L F post :=
  ⟨fun w R ho => calls_of_wp hf hb ((h R).run _ _ ⟨by have := Nat.le_of_ble_eq_true hl; simp [hn]; omega, rfl, fun i v hi => by
    have h1 := he i v hi
    have h2 := (List.getElem?_eq_some_iff.1 h1).1
    rw [Array.getElem?_append_left (by simpa using h2)]
    simpa using h1⟩ (by simpa using ho))⟩
def argEnv (k : Nat) : List Value → Env
  | [] => []
  | v :: r => (k, v) :: argEnv (k + 1) r
theorem find_argEnv : ∀ (l : List Value) (k i : Nat) (v : Value), find (argEnv k l) i = some v → k ≤ i ∧ l[i - k]? = some v
  | [], k, i, v, h => by simp [argEnv, find] at h
  | u :: r, k, i, v, h => by
    simp only [argEnv, find] at h
    by_cases e : k = i
    · subst e
      simp at h
      simp [h]
    · have : Nat.beq k i = false := Bool.eq_false_iff.2 fun h => e (Nat.eq_of_beq_eq_true h)
      rw [this] at h
      obtain ⟨h1, h2⟩ := find_argEnv r (k + 1) i v h
      refine ⟨by omega, ?_⟩
      rw [show i - k = (i - (k + 1)) + 1 by omega]
      simpa using h2
theorem Fn.start {f : FuncId} {fn : Func} {c : Code} {args : List Value} {L : List Itm} {F : Mem} {post : Value → List Itm → Mem → Prop} {n : Nat}
    (hf : P.funcs[f]? = some fn) (hb : fn.body = some c) (hn : fn.ntmps = n) (hl : Nat.ble args.length n = true)
    (h : ∀ R : Itm, WC P c (bodyPost P fn (retPost F R post)) n (argEnv 0 args) (L ++ [R]) F) : Fn P f args.toArray L F post :=
  Fn.intro _ hf hb hn hl (fun i v hi => by simpa using (find_argEnv _ _ _ _ hi).2) h
theorem Fn.mono {f : FuncId} {args : Array Value} {L : List Itm} {F : Mem} {post post' : Value → List Itm → Mem → Prop} (h : Fn P f args L F post) (hp : ∀ v L' F', Le F F' → post v L' F' → post' v L' F') : Fn P f args L F post' :=
  ⟨fun w R ho => (h.run w R ho).mono fun _ _ ⟨v, L', F', he, hle, hq, ho'⟩ => ⟨v, L', F', he, hle, hp v L' F' hle hq, ho'⟩⟩
/-- A result: what the result variables hold. -/
structure Res (P : Program) (fn : Func) (n : Nat) (env : Env) (L : List Itm) (F : Mem) (v : Value) : Prop where
  run : ∀ a w, Has n env a → Own w L.flatten F → (results fn a.tmps).run P w = .ok v w
theorem fin_done {fn : Func} {n : Nat} {env : Env} {L : List Itm} {F F0 : Mem} {R : Itm} {post : Value → List Itm → Mem → Prop} {v : Value} {L' : List Itm}
    (hr : Res P fn n env L F v) (hle : Le F0 F) (hp : post v L' F) (hm : ∀ w, Own w L.flatten F → Own w (L'.flatten ++ R) F) :
    ∀ a w, Has n env a → Own w L.flatten F → a.defers = [] ∧ ∃ v, (results fn a.tmps).run P w = .ok v w ∧ retPost F0 R post (.returned v) w :=
  fun a w hh ho => ⟨hh.defers, v, hr.run a w hh ho, v, L', F, rfl, hle, hp, hm w ho⟩
theorem Fin.done {fn : Func} {n : Nat} {env : Env} {L : List Itm} {F F0 : Mem} {R : Itm} {post : Value → List Itm → Mem → Prop} (v : Value) (L' : List Itm)
    (hr : Res P fn n env L F v) (hle : Le F0 F) (hp : post v L' F) (hm : ∀ w, Own w L.flatten F → Own w (L'.flatten ++ R) F) : Fin (bodyPost P fn (retPost F0 R post)) .ret n env L F :=
  ⟨fin_done hr hle hp hm⟩
theorem Fin.end {fn : Func} {n : Nat} {env : Env} {L : List Itm} {F F0 : Mem} {R : Itm} {post : Value → List Itm → Mem → Prop} (v : Value) (L' : List Itm)
    (hr : Res P fn n env L F v) (hle : Le F0 F) (hp : post v L' F) (hm : ∀ w, Own w L.flatten F → Own w (L'.flatten ++ R) F) : Fin (bodyPost P fn (retPost F0 R post)) .normal n env L F :=
  ⟨fin_done hr hle hp hm⟩
/-! ### Items -/
/-- An item lies among others. -/
inductive Inn (x : Itm) : List Itm → Prop
  | here {T : List Itm} : Inn x (x :: T)
  | there {y : Itm} {T : List Itm} : Inn x T → Inn x (y :: T)
  | part {y : Itm} {T : List Itm} : x.Sublist y → Inn x (y :: T)
theorem Inn.mem {x : Itm} {L : List Itm} (h : Inn x L) : ∀ b ∈ x, b ∈ L.flatten := by
  induction h with
  | here => exact fun b hb => by simp [hb]
  | there _ ih => exact fun b hb => by rw [List.flatten_cons]; exact List.mem_append_right _ (ih b hb)
  | part h => exact fun b hb => by rw [List.flatten_cons]; exact List.mem_append_left _ (h.subset hb)
theorem Inn.one {b : Blk} {L : List Itm} (h : Inn [b] L) (R : List Blk) : b ∈ L.flatten ++ R := List.mem_append_left _ (h.mem b (by simp))
/-- One item is another one now. -/
inductive Upd (x x' : Itm) : List Itm → List Itm → Prop
  | here {T : List Itm} : Upd x x' (x :: T) (x' :: T)
  | there {y : Itm} {T T' : List Itm} : Upd x x' T T' → Upd x x' (y :: T) (y :: T')
  | part {y y' : Itm} {T : List Itm} (S : List Blk) : y.Perm (x ++ S) → y'.Perm (x' ++ S) → Upd x x' (y :: T) (y' :: T)
theorem Upd.perm {x x' : Itm} {L L' : List Itm} (h : Upd x x' L L') : ∃ T : List Blk, L.flatten.Perm (x ++ T) ∧ L'.flatten.Perm (x' ++ T) := by
  induction h with
  | @here T => exact ⟨T.flatten, by simp, by simp⟩
  | @part y y' T S h1 h2 => exact ⟨S ++ T.flatten, by rw [List.flatten_cons, ← List.append_assoc]; exact h1.append_right _, by rw [List.flatten_cons, ← List.append_assoc]; exact h2.append_right _⟩
  | @there y T T' _ ih =>
    obtain ⟨S, h1, h2⟩ := ih
    refine ⟨y ++ S, ?_, ?_⟩
    · rw [List.flatten_cons]
      exact (h1.append_left y).trans (by rw [← List.append_assoc, ← List.append_assoc]; exact List.perm_append_comm.append_right S)
    · rw [List.flatten_cons]
      exact (h2.append_left y).trans (by rw [← List.append_assoc, ← List.append_assoc]; exact List.perm_append_comm.append_right S)
theorem Upd.own {w w' : World} {x x' : Itm} {L L' : List Itm} {R : List Blk} {F F' : Mem} (h : Upd x x' L L') (ho : Own w (L.flatten ++ R) F)
    (hx : ∀ T, Own w (x ++ T) F → Own w' (x' ++ T) F') : Own w' (L'.flatten ++ R) F' := by
  obtain ⟨T, h1, h2⟩ := h.perm
  have := hx (T ++ R) (by rw [← List.append_assoc]; exact ho.perm (h1.append_right R))
  rw [← List.append_assoc] at this
  exact this.perm (h2.append_right R).symm
end Go.Proofs.Ytbmpdccoffkjgaa.Ow
