/- More operations: literal slices of some elements, made slices, texts out of bytes, cells in the middle of blocks. -/
import Derived.Test.YtbmpdccoffkjgaaOwn9
import Derived.Laws.BytesArg
import Derived.Laws.MakeOwn
import Derived.Laws.BitsLemmas
import Derived.Laws.Entries
namespace Go.Proofs.Ytbmpdccoffkjgaa.Ow
open Go
set_option linter.unusedVariables false
section
variable {P : Program} {fn : Func} {n : Nat} {env : Env} {L : List Itm} {F : Mem}
theorem Res.t3 {t u r : Nat} {v v' v'' : Value} (h : fn.results = #[.tmp t, .tmp u, .tmp r]) (hv : find env t = some v) (hv' : find env u = some v') (hv'' : find env r = some v'') : Res P fn n env L F (.tuple #[v, v', v'']) :=
  ⟨fun a w hh ho => by
    have h1 := hh.get _ _ hv
    have h2 := hh.get _ _ hv'
    have h3 := hh.get _ _ hv''
    simp [results, h, h1, h2, h3]⟩
theorem Res.ctt {t ty sz bytes b bt u r : Nat} {zero v v' : Value} {cs : List Value} (h : fn.results = #[.cell t ty, .tmp u, .tmp r]) (ht : Ty P ty sz bytes true zero) (hv : find env t = some (.pointer (some ⟨b, 0, none⟩))) (hi : Inn [⟨b, bt, cs⟩] L) (hl : cs.length = sz) (hu : find env u = some v) (hr : find env r = some v') : Res P fn n env L F (.tuple #[.agg cs.toArray, v, v']) :=
  ⟨fun a w hh ho => by
    have h1 := hh.get _ _ hv
    have h3 := hh.get _ _ hu
    have h4 := hh.get _ _ hr
    have h2 := load_whole (P := P) ht ho (by simpa using hi.one []) hl
    simp [results, h, h1, asAddr, h2, h3, h4]⟩
end
theorem RL.emp {P : Program} {ops : Array Oper} {Q : Post} {rest : List Oper} {n : Nat} {env : Env} {L : List Itm} {F : Mem} (k : RL P ops Q rest n env ([] :: L) F) : RL P ops Q rest n env L F := RL.items (fun w ho => by simpa using ho) k
theorem WC.emp {P : Program} {c : Code} {Q : Post} {n : Nat} {env : Env} {L : List Itm} {F : Mem} (k : WC P c Q n env ([] :: L) F) : WC P c Q n env L F := WC.items (fun w ho => by simpa using ho) k
theorem Sl.drop {α : Type} {F : Mem} {enc : α → List Value} {sz : Nat} {a : Option Addr} {c : Nat} {xs : List α} (h : Sl F enc sz a c xs) {i : Nat} (hi : i ≤ xs.length) : Sl F enc sz (if c = i then a else a.map (·.add (i * sz))) (c - i) (xs.drop i) := by
  have hc := h.cap
  have hm := h.max
  refine ⟨by rw [List.length_drop]; omega, by omega, ?_⟩
  by_cases hx : xs.drop i = []
  · exact .inl hx
  · have hlt : i < xs.length := by
      rcases Nat.lt_or_ge i xs.length with h' | h'
      · exact h'
      · exact absurd (List.drop_eq_nil_of_le h') hx
    rw [if_neg (by omega)]
    rcases h.rd with rfl | ⟨b, o, rfl, hr⟩
    · simp at hlt
    · refine .inr ⟨b, o + i * sz, by simp [add_at], fun j x hj => ?_⟩
      rw [List.getElem?_drop] at hj
      have := hr _ x hj
      rwa [Nat.add_mul, ← Nat.add_assoc] at this
theorem Sl.take {α : Type} {F : Mem} {enc : α → List Value} {sz : Nat} {a : Option Addr} {c : Nat} {xs : List α} (h : Sl F enc sz a c xs) (k : Nat) : Sl F enc sz a c (xs.take k) := by
  refine ⟨Nat.le_trans (by rw [List.length_take]; omega) h.cap, h.max, ?_⟩
  rcases h.rd with rfl | ⟨b, o, rfl, hr⟩
  · exact .inl (by simp)
  · refine .inr ⟨b, o, rfl, fun i x hx => hr i x ?_⟩
    rw [List.getElem?_take] at hx
    split at hx
    · exact hx
    · cases hx
section
variable {P : Program} {env : Env} {L : List Itm} {F : Mem} {d : Option Tmp} {ty : TypeId} {pos : String} {af : Array Edge} {gd : Option (Nat × Bool)} {t e sz : Nat} {x y : Operand} {α : Type}
/-- s[j:], s[:j] of a list. -/
theorem OpV.sfl {a : Option Addr} {c : Nat} {kk : IntKind} {i : Int} (xs : List α) (j : Nat) (hs : Sld P t e sz) (hx : ev env x = some (.slice a xs.length c)) (hy : ev env y = some (.int kk i)) (h : i = j ∧ j ≤ xs.length) :
    OpV P ⟨d, .slice t x (some y) none none, ty, pos, af, gd⟩ env L F (.slice (if c = j then a else a.map (·.add (j * sz))) (xs.drop j).length (c - j)) := by
  rw [List.length_drop]; exact .sfd j hs hx hy h
theorem OpV.stl {a : Option Addr} {c : Nat} {kk : IntKind} {i : Int} (xs : List α) (j : Nat) (hs : Sld P t e sz) (hx : ev env x = some (.slice a xs.length c)) (hy : ev env y = some (.int kk i)) (h : i = j ∧ j ≤ xs.length ∧ xs.length ≤ c) :
    OpV P ⟨d, .slice t x none (some y) none, ty, pos, af, gd⟩ env L F (.slice a (xs.take j).length c) := by
  rw [List.length_take, Nat.min_eq_left h.2.1]; exact .sto j hs hx hy ⟨h.1, by omega⟩
end
def evps (env : Env) : List (Nat × Operand) → Option (List (Nat × Value))
  | [] => some []
  | (i, x) :: r => match ev env x, evps env r with
    | some v, some vs => some ((i, v) :: vs)
    | _, _ => none
theorem evps_map {n : Nat} {env : Env} {a : Act} (hh : Has n env a) : ∀ (l : List (Nat × Operand)) (m : List (Nat × Value)), evps env l = some m → l.map (fun p => (p.1, a.eval p.2)) = m
  | [], m, h => by simp [evps] at h; simp [h]
  | (i, x) :: l, m, h => by
    simp only [evps] at h
    split at h
    · rename_i v vs h1 h2
      injection h with h
      rw [← h, List.map_cons, evps_map hh l vs h2, hh.eval h1]
    · cases h
section
variable {P : Program} {env : Env} {L : List Itm} {F : Mem} {d : Option Tmp} {ty : TypeId} {pos : String} {af : Array Edge} {gd : Option (Nat × Bool)} {t e sz bytes : Nat} {g : Bool} {zero : Value} {x y : Operand}
theorem Op1.litn {n : Nat} {ps : List (Nat × Operand)} {qs : List (Nat × Value)} {cs : List Value} (hs : Sld P t e sz) (ht : Ty P e sz bytes g zero) (h0 : (n * sz == 0) = false) (hps : evps env ps = some qs)
    (hf : Instr.fill (fun i => some (i * sz, sz)) ((Array.range (n * sz)).map fun x => zero.cells[x % zero.cells.size]!) qs = some cs.toArray) (hsm : Nat.ble (n * sz) 16777216 = true) :
    Op1 P ⟨d, .buildSlice t n ps.toArray, ty, pos, af, gd⟩ env L F (newBlk L F (fun b => .slice (some ⟨b, 0, none⟩) n n) e cs) :=
  .of fun n' a w R hh ho => ⟨_, _, _, F, by
    have h1 : ¬ (16777216 < n * sz) := by have := Nat.le_of_ble_eq_true hsm; omega
    have h0' : ¬ (n * sz = 0) := by simpa using h0
    have hm : (ps.toArray.map fun p => (p.1, a.eval p.2)).toList = qs := by
      rw [Array.toList_map]
      exact evps_map hh _ _ hps
    have e' : (execOp a.eval ⟨d, .buildSlice t n ps.toArray, ty, pos, af, gd⟩) = (do pure (.value (← Instr.buildSlice t n (ps.toArray.map fun p => (p.1, a.eval p.2))))) := rfl
    rw [e']
    simp only [Instr.buildSlice, run_underlying hs.un, hs.size, ht.zeroV, hm, Sem.run_bind, Result.andThen, Sem.run_pure, if_neg h1, if_neg h0', hf]
    simp [newRow]
    done, Le.rfl, ⟨_, rfl, rfl, rfl⟩, ho.alloc' e cs⟩
theorem Op1.mks {k k' : IntKind} {i : Int} {cs : List Value} (n : Nat) (hs : Sld P t e sz) (ht : Ty P e sz bytes g zero) (hx : ev env x = some (.int k i)) (hy : ev env y = some (.int k' i)) (hi : i = n) (hb : bytes * n ≤ 281474976710656) (h63 : n ≤ 9223372036854775807)
    (hc : madeCells zero.cells (n * sz) = cs.toArray) : Op1 P ⟨d, .makeSlice t x y, ty, pos, af, gd⟩ env L F (newBlk L F (fun b => .slice (some ⟨b, 0, none⟩) n n) e cs) :=
  .of fun n' a w R hh ho => ⟨_, _, _, F, by
    obtain ⟨inf, hinf, hiz, hisz, hib⟩ := ht.parts
    subst hi
    have hb' : (inf.bytes : Int) * (n : Int) ≤ 281474976710656 := by
      have h : ((inf.bytes * n : Nat) : Int) ≤ 281474976710656 := by rw [hib]; omega
      rwa [Int.natCast_mul] at h
    have hr := run_make (P := P) w t e inf zero hs.un hinf hiz k k' (n : Int) (n : Int) (by omega) (Int.le_refl _) hb' (by omega)
    have e' : (execOp a.eval ⟨d, .makeSlice t x y, ty, pos, af, gd⟩) = (do pure (.value (← Instr.makeSlice t (a.eval x) (a.eval y)))) := rfl
    rw [e', hh.eval hx, hh.eval hy, Sem.run_bind, hr, hisz]
    simp only [Int.toNat_natCast, hc]
    rfl
    done, Le.rfl, ⟨_, rfl, rfl, rfl⟩, ho.alloc' e cs⟩
theorem made_one (z : Value) (n : Nat) : madeCells #[z] (n * 1) = (List.replicate n z).toArray := by
  rw [Nat.mul_one]
  apply Array.ext'
  unfold madeCells
  rw [Array.toList_map]
  apply List.ext_getElem?
  intro i
  by_cases h : i < n
  · rw [List.getElem?_map, List.getElem?_eq_getElem (by simpa using h)]
    simp [h, Nat.mod_one]
  · rw [List.getElem?_eq_none (by simpa using h), List.getElem?_eq_none (by simpa using h)]
/-- The text out of bytes that lie in a block that is owned. -/
theorem OpV.cvb {src dst e b bt c : Nat} {cs : List Value} (xs : List Int) (hs : P.underlying src = some (.slice e)) (he : P.underlying e = some (.int .u8)) (hd : P.underlying dst = some .string) {m : Nat} (hx : ev env x = some (.slice (some ⟨b, 0, none⟩) m c)) (hm : m = xs.length)
    (hi : Inn [⟨b, bt, cs⟩] L) (hc : cs = xs.map (Value.int .u8)) : OpV P ⟨d, .convert src dst x, ty, pos, af, gd⟩ env L F (.string (strOfNums xs)) :=
  .of fun n a w R hh ho => by
    subst hc; subst hm
    have hr := run_convert_bytes_arg (P := P) w src e hs he b 0 xs.length c xs rfl (fun i hi' => by
      rw [Nat.zero_add, ho.cell (hi.one R), List.getElem?_map, List.getElem?_eq_getElem hi']
      simp [List.getD, List.getElem?_eq_getElem hi']) dst hd
    have e' : (execOp a.eval ⟨d, .convert src dst x, ty, pos, af, gd⟩) = (do pure (.value (← convert src dst (a.eval x)))) := rfl
    rw [e', hh.eval hx, Sem.run_bind, hr]
    rfl
end
theorem zeros_map (n : Nat) : List.replicate n (Value.int .u8 0) = (List.replicate n (0 : Int)).map (Value.int .u8) := by simp
theorem zeros_size (n : Nat) : (strOfNums (List.replicate n 0)).size = n := by rw [strOfNums_size]; simp
/-! ### A region whose order is drawn: an operation that comes behind the variable that floats -/
section
variable {P : Program} {ops : Array Oper} {Q : Post} {n : Nat} {pt : List (List Nat)} {env : Env} {K : List KE} {D : List Nat} {L : List Itm} {F : Mem}
theorem Has.cons {n : Nat} {e : Env} {a : Act} {s : Nat} {v : Value} (h : Has n e a) (hs : a.tmps[s]? = some v) : Has n ((s, v) :: e) a := ⟨h.size, h.defers, fun i u hi => by
  simp only [find] at hi
  by_cases ij : s = i
  · subst ij
    simp at hi
    rw [← hi]
    exact hs
  · rw [Bool.eq_false_iff.2 fun h => ij (Nat.eq_of_beq_eq_true h)] at hi
    exact h.get i u hi⟩
theorem Wf.unfl {x : FE} (h : Wf P ops n [x] env K) (v : Value) : Wf P ops n [] env (⟨x.i, some x.d, v⟩ :: K) := by
  have hx : x ∈ [x] := List.mem_singleton_self x
  refine ⟨?_, ?_, ?_, ?_, ?_, ?_, ?_, ⟨by simp, by simp⟩, fun y hy => by cases hy⟩
  · rw [List.map_cons, List.nodup_cons]
    exact ⟨fun hm => by obtain ⟨k, hk, e⟩ := List.mem_map.1 hm; exact h.n2 k hk x hx e, h.n1⟩
  · intro k hk y hy; cases hy
  · intro k hk y hy
    rcases List.mem_cons.1 hk with rfl | hk
    · cases hy; exact (h.n7 x hx).2
    · exact h.n3 k hk y hy
  · intro k hk k' hk' hne y hy
    rcases List.mem_cons.1 hk with rfl | hk <;> rcases List.mem_cons.1 hk' with rfl | hk'
    · exact absurd rfl hne
    · cases hy; exact fun e => h.n5 k' hk' x hx e
    · intro e; cases e; exact h.n5 k hk x hx hy
    · exact h.n4 k hk k' hk' hne y hy
  · intro k hk y hy; cases hy
  · intro k hk y hy
    rcases List.mem_cons.1 hk with rfl | hk
    · cases hy; exact (h.n7 x hx).1
    · exact h.n6 k hk y hy
  · intro y hy; cases hy
theorem AnyR.ef {x : FE} {i : Nat} {op : Op} {d : Option Nat} {ty : TypeId} {pos : String} {af : Array Edge} {g : Option (Nat × Bool)} {post : Nat → Value → List Itm → Mem → Prop} (pe : Env) (D' : List Nat) (ho : ops[i]? = some ⟨d, op, ty, pos, af, g⟩) (hs : slotOk env K [x] i d = true) (hn : dOk n d = true)
    (hpe : PE K (pt.getD i []) pe) (hxp : (pt.getD i []).contains x.i = true) (honly : onlyOk pt (K.map (·.i)) [x.i] i pt.length = true) (hlen : (pt.length == ops.size) = true) (hD : doneOk pt D i [] D' = true) (hgd : Grd ops (pe ++ env) g)
    (h : ∀ b, Op1 P ⟨d, op, ty, pos, af, none⟩ ((x.d, .pointer (some ⟨b, 0, none⟩)) :: (pe ++ env)) ([⟨b, x.ty, x.cs⟩] :: L) F (post b))
    (k : ∀ b v L' F', Le F F' → post b v L' F' → Rck P ops n pt env (⟨x.i, some x.d, .pointer (some ⟨b, 0, none⟩)⟩ :: K) D' L' F' K ∧ (D'.contains i && D'.contains x.i) = true ∧
      AnyR P ops Q n pt [] env (⟨i, d, v⟩ :: ⟨x.i, some x.d, .pointer (some ⟨b, 0, none⟩)⟩ :: K) D' L' F') : AnyR P ops Q n pt [x] env K D L F := by
  obtain ⟨s1, s2, s3, s4, s5⟩ := slotOk.spec hs
  have hx : x ∈ [x] := List.mem_singleton_self x
  refine ⟨fun fuel => ?_⟩
  induction fuel with
  | zero =>
    intro listed a w h1 h2 h4 hg hw hA
    have hlt : i < ops.size := (Array.getElem?_eq_some_iff.1 ho).1
    have hni : ¬ on listed i := fun hi => by
      rcases hg.kn i hi with ⟨k, hk, e⟩ | ⟨x, hx, e⟩
      · exact s4 k hk e
      · exact s5 x hx e
    have := todo_pos (by rw [hg.sz]; exact hlt) hni
    omega
  | succ fuel ih =>
    intro listed a w h1 h2 h4 hg hw hA
    have hlt : i < ops.size := (Array.getElem?_eq_some_iff.1 ho).1
    have hni : ¬ on listed i := fun hi => by
      rcases hg.kn i hi with ⟨k, hk, e⟩ | ⟨x, hx, e⟩
      · exact s4 k hk e
      · exact s5 x hx e
    refine wpAny_walk (fun _ _ _ => True) (fuel + 1) a w hg.sz h4 h2 (fun hall => absurd (hall i hlt) hni) fun j hj hnj hpj fuel' hf' hfe => ?_
    obtain rfl : fuel = fuel' := by omega
    by_cases hji : j = i
    · subst hji
      obtain ⟨f, hf1, hf2⟩ := hg.mem
      have hlt' : j < listed.size := by rw [hg.sz]; exact hlt
      have hxo : on listed x.i := hpj _ (by rw [← h1]; simpa using hxp)
      have hfl : flBlks [x] listed f = [⟨f x.i, x.ty, x.cs⟩] := by
        have : listed.getD x.i false = true := hxo
        unfold flBlks
        rw [List.filter_cons, this]
        rfl
      unfold wpOp
      simp only [ho]
      have hhas := hpe.has hg.hs (fun k' hk' hp' d hd => hg.vs k' hk' (hpj _ (by rw [← h1]; exact hp')) d hd)
      rw [if_pos (hgd.wanted hhas)]
      have hown : Own w (([⟨f x.i, x.ty, x.cs⟩] :: L).flatten ++ []) F := by
        rw [hfl] at hf2
        refine hf2.perm ?_
        rw [List.append_nil, List.flatten_cons]
        exact List.perm_append_comm
      refine .inl ((h (f x.i)).run n a w [] _ Q (hhas.cons (hf1 x hx hxo)) hown fun v L' F' w' hle hp ho' => ?_)
      obtain ⟨hr, hDi, hk⟩ := k (f x.i) v L' F' hle hp
      rw [Bool.and_eq_true] at hDi
      have hw1 := hw.unfl (.pointer (some ⟨f x.i, 0, none⟩))
      have hs1 : slotOk env (⟨x.i, some x.d, .pointer (some ⟨f x.i, 0, none⟩)⟩ :: K) [] j d = true := by
        unfold slotOk at hs ⊢
        cases d with
        | none => simp at hs ⊢; exact ⟨s5 x hx, hs.1⟩
        | some d => simp at hs ⊢; exact ⟨⟨hs.1.1.1.1, s3 x hx d rfl, hs.1.1.1.2⟩, s5 x hx, hs.1.2⟩
      refine hk.run fuel _ _ _ h1 h2 hf' ⟨by rw [Array.size_setIfInBounds]; exact hg.sz, ?_, ?_, ?_, has_keep hg.hs s1, ?_, f, ?_, ?_⟩ (hw1.cons hs1 hn) ?_
      · intro y hy
        rcases (on_set hlt').1 hy with rfl | hy
        · exact .inl ⟨_, List.mem_cons_self .., rfl⟩
        · rcases hg.kn y hy with ⟨k, hk, e⟩ | ⟨z, hz, e⟩
          · exact .inl ⟨k, List.mem_cons_of_mem _ (List.mem_cons_of_mem _ hk), e⟩
          · obtain rfl : z = x := by simpa using hz
            exact .inl ⟨_, List.mem_cons_of_mem _ (List.mem_cons_self ..), e⟩
      · refine doneOk.spec (D := D) (i := j) (pt := pt) (fun x hx => (on_set hlt').2 (.inr (hg.dn x hx))) ((on_set hlt').2 (.inl rfl)) (fun x hx p hp' => ?_) D' [] hD (by simp)
        rcases (on_set hlt').1 hx with rfl | hx
        · exact (on_set hlt').2 (.inr (hpj p (by rw [← h1]; exact hp')))
        · exact (on_set hlt').2 (.inr (hg.cl x hx p hp'))
      · intro x hx p hp'
        rcases (on_set hlt').1 hx with rfl | hx
        · exact (on_set hlt').2 (.inr (hpj p (by rw [← h1]; exact hp')))
        · exact (on_set hlt').2 (.inr (hg.cl x hx p hp'))
      · intro k' hk' hi dd hd
        rcases List.mem_cons.1 hk' with rfl | hk'
        · cases hd
          refine put_here ?_
          rw [hg.hs.size]
          have := Nat.le_of_ble_eq_true hn
          omega
        · rcases List.mem_cons.1 hk' with rfl | hk'
          · cases hd
            exact put_keep (hf1 x hx hxo) (fun e => s3 x hx x.d e rfl)
          · have hi' : on listed k'.i := ((on_set hlt').1 hi).resolve_left (s4 k' hk')
            exact put_keep (hg.vs k' hk' hi' dd hd) (fun e' => s2 k' hk' dd e' hd)
      · intro y hy; cases hy
      · simpa [flBlks] using ho'
      · intro k' hk'
        rcases List.mem_cons.1 hk' with rfl | hk'
        · exact .inl (by simpa using hDi.1)
        · rcases List.mem_cons.1 hk' with rfl | hk'
          · exact .inl (by simpa using hDi.2)
          · exact (hr.all k' hk').imp id OpA.more
    · have hm : j ∈ List.range pt.length := List.mem_range.2 (by have : pt.length = ops.size := by simpa using hlen
                                                                 omega)
      have ho1 := List.all_eq_true.1 honly j hm
      have hne : (j == i) = false := by simpa using hji
      rw [hne, Bool.or_false] at ho1
      rw [Bool.or_eq_true, Bool.or_eq_true] at ho1
      rcases ho1 with (hkk | hff) | hp'
      · obtain ⟨k', hk', e⟩ := List.mem_map.1 (by simpa using hkk : j ∈ K.map (·.i))
        subst e
        exact hg.step h1 hw hA hk' hj hnj hpj fun a' w' hg' => ih _ a' w' h1 h2 (by assumption) hg' hw hA
      · obtain rfl : j = x.i := by simpa using hff
        exact hg.float h1 hw hx hj hnj hpj fun a' w' hg' => ih _ a' w' h1 h2 (by assumption) hg' hw hA
      · obtain ⟨p, hp1, hp2⟩ := List.any_eq_true.1 hp'
        have hop := hpj p (by rw [← h1]; exact hp1)
        rw [Bool.not_eq_true', Bool.or_eq_false_iff] at hp2
        rcases hg.kn p hop with ⟨k', hk', e⟩ | ⟨y, hy, e⟩
        · exact absurd (List.mem_map.2 ⟨k', hk', e⟩) (by simpa using hp2.1)
        · obtain rfl : y = x := by simpa using hy
          exact absurd e.symm (by simpa using hp2.2)
end
end Go.Proofs.Ytbmpdccoffkjgaa.Ow
namespace Go.Proofs.Ytbmpdccoffkjgaa.Ow
open Go
set_option linter.unusedVariables false
section
variable {P : Program} {env : Env} {L : List Itm} {F : Mem} {d : Option Tmp} {ty : TypeId} {pos : String} {af : Array Edge} {gd : Option (Nat × Bool)} {x y : Operand} {xt yt : TypeId} {k k' : IntKind} {a b r : Int}
theorem OpV.band (hx : ev env x = some (.int k a)) (hy : ev env y = some (.int k b)) (h : Go.bits .and k a b = r) : OpV P ⟨d, .binOp .and xt x y yt, ty, pos, af, gd⟩ env L F (.int k r) :=
  .bin hx hy fun w => by simp [eqGuard, binOp, intBits_and, h]
theorem OpV.bor (hx : ev env x = some (.int k a)) (hy : ev env y = some (.int k b)) (h : Go.bits .or k a b = r) : OpV P ⟨d, .binOp .or xt x y yt, ty, pos, af, gd⟩ env L F (.int k r) :=
  .bin hx hy fun w => by simp [eqGuard, binOp, intBits_or, h]
theorem OpV.bxor (hx : ev env x = some (.int k a)) (hy : ev env y = some (.int k b)) (h : Go.bits .xor k a b = r) : OpV P ⟨d, .binOp .xor xt x y yt, ty, pos, af, gd⟩ env L F (.int k r) :=
  .bin hx hy fun w => by simp [eqGuard, binOp, intBits_xor, h]
theorem OpV.shrk (m : Nat) (hx : ev env x = some (.int k a)) (hy : ev env y = some (.int k' m)) (hm : m ≤ k.bits) (h : a / 2 ^ m = r) : OpV P ⟨d, .binOp .shr xt x y yt, ty, pos, af, gd⟩ env L F (.int k r) :=
  .bin hx hy fun w => by
    have := shift_shr k k' a m (by omega) (by omega)
    rw [Int.toNat_natCast, h] at this
    simp [eqGuard, binOp, this]
theorem OpV.shlk (m : Nat) (hx : ev env x = some (.int k a)) (hy : ev env y = some (.int k' m)) (hm : m ≤ k.bits) (h : k.wrap (a * 2 ^ m) = r) : OpV P ⟨d, .binOp .shl xt x y yt, ty, pos, af, gd⟩ env L F (.int k r) :=
  .bin hx hy fun w => by
    have := shift_shl k k' a m (by omega) (by omega)
    rw [Int.toNat_natCast, h] at this
    simp [eqGuard, binOp, this]
theorem OpV.bnot32 (hx : ev env x = some (.int .u32 a)) (h : Go.bits .xor .u32 4294967295 a = r) : OpV P ⟨d, .unOp .xor xt x, ty, pos, af, gd⟩ env L F (.int .u32 r) :=
  .of fun n a' w R hh _ => by
    have e : Op.unary .xor (.int .u32 a) = Op.intBits .xor .u32 4294967295 a := rfl
    simp [execOp, hh.eval hx, e, intBits_xor, h]
/-- A byte of a text, told otherwise. -/
theorem OpV.bytev {t : Nat} {s : ByteArray} {i : Int} (j : Nat) (v : Int) (hu : P.underlying t = some .string) (hx : ev env x = some (.string s)) (hy : ev env y = some (.int k i)) (h : i = j ∧ j < s.size) (hv : ((s.data.toList.getD j 0).toNat : Int) = v) :
    OpV P ⟨d, .index t x y, ty, pos, af, gd⟩ env L F (.int .u8 v) := by
  rw [← hv]; exact .byte j hu hx hy h
/-- A conversion of numbers, told otherwise. -/
theorem OpV.cvtv {src dst : TypeId} {k1 k2 : IntKind} {u : Int} {ds : TypeDesc} (v : Int) (hx : ev env x = some (.int k1 u)) (hs : P.underlying src = some ds) (hd : P.underlying dst = some (.int k2)) (hv : k2.wrap u = v) : OpV P ⟨d, .convert src dst x, ty, pos, af, gd⟩ env L F (.int k2 v) := by
  rw [← hv]; exact .cvt hx hs hd
theorem OpV.remv (v : Int) (hx : ev env x = some (.int k a)) (hy : ev env y = some (.int k b)) (h : 0 ≤ a ∧ 0 < b) (hv : a % b = v) : OpV P ⟨d, .binOp .rem xt x y yt, ty, pos, af, gd⟩ env L F (.int k v) := by
  rw [← hv]; exact .remk hx hy h
theorem OpV.quov (v : Int) (hx : ev env x = some (.int .i64 a)) (hy : ev env y = some (.int .i64 b)) (h : 0 ≤ a ∧ a ≤ 9223372036854775807 ∧ 0 < b) (hv : a / b = v) : OpV P ⟨d, .binOp .quo xt x y yt, ty, pos, af, gd⟩ env L F (.int .i64 v) := by
  rw [← hv]; exact .quo hx hy h
end
/-! ### Bits of small numbers -/
theorem bits_xor' (k : IntKind) (j : Nat) (hj : j ≤ k.bits) (hk : ∀ n : Int, 0 ≤ n → n < 2 ^ j → k.wrap n = n) (a b : Nat) (ha : a < 2 ^ j) (hb : b < 2 ^ j) :
    Go.bits .xor k a b = ((a ^^^ b : Nat) : Int) := by
  have hp : 2 ^ j ≤ 2 ^ k.bits := Nat.pow_le_pow_right (by decide) hj
  have ha' : a % 2 ^ k.bits = a := Nat.mod_eq_of_lt (Nat.lt_of_lt_of_le ha hp)
  have hb' : b % 2 ^ k.bits = b := Nat.mod_eq_of_lt (Nat.lt_of_lt_of_le hb hp)
  have cast : ∀ n : Nat, n < 2 ^ j → ((n : Nat) : Int) < 2 ^ j := fun n h => by exact_mod_cast h
  simp only [Go.bits, BitVec.ofInt_natCast, BitVec.toNat_xor, BitVec.toNat_ofNat, ha', hb']
  exact hk _ (Int.natCast_nonneg _) (cast _ (Nat.xor_lt_two_pow ha hb))
theorem xor_u32 (a b : Nat) (ha : a < 4294967296) (hb : b < 4294967296) : Go.bits .xor .u32 (a : Int) (b : Int) = ((a ^^^ b : Nat) : Int) :=
  bits_xor' .u32 32 (by decide) (fun n h0 h1 => by rw [IntKind.wrap_u32]; omega) a b ha hb
theorem xor_i64 (a b : Nat) (ha : a < 4611686018427387904) (hb : b < 4611686018427387904) : Go.bits .xor .i64 (a : Int) (b : Int) = ((a ^^^ b : Nat) : Int) :=
  bits_xor' .i64 62 (by decide) (fun n h0 h1 => by rw [IntKind.wrap_i64]; omega) a b ha hb
theorem and1_u32 (a : Nat) (ha : a < 4294967296) : Go.bits .and .u32 (a : Int) 1 = ((a % 2 : Nat) : Int) := by
  have := (bits_nat .u32 32 (by decide) (fun n h0 h1 => by rw [IntKind.wrap_u32]; omega) a 1 ha (by decide)).1
  rw [Nat.and_one_is_mod] at this
  exact_mod_cast this
theorem not_u32 (a : Nat) (ha : a < 4294967296) : Go.bits .xor .u32 4294967295 (a : Int) = ((4294967295 - a : Nat) : Int) := by
  have h := xor_u32 4294967295 a (by omega) ha
  have e : (4294967295 : Nat) ^^^ a = 4294967295 - a := by
    have h1 : (BitVec.allOnes 32 ^^^ BitVec.ofNat 32 a).toNat = (~~~ BitVec.ofNat 32 a).toNat := by rw [BitVec.allOnes_xor]
    rw [BitVec.toNat_xor, BitVec.toNat_not, BitVec.toNat_allOnes, BitVec.toNat_ofNat, Nat.mod_eq_of_lt (show a < 2 ^ 32 from ha)] at h1
    exact h1
  rw [← e]
  exact h
theorem or_i64 (a b : Nat) (i : Nat) (hi : i ≤ 40) (ha : a < 2 ^ i) (hb : b % 2 ^ i = 0) (hb1 : b < 2 ^ 62) : Go.bits .or .i64 (a : Int) (b : Int) = ((a + b : Nat) : Int) := by
  have hc : Go.bits .or .i64 (a : Int) (b : Int) = Go.bits .or .i64 (b : Int) (a : Int) := by simp only [Go.bits, BitVec.or_comm]
  have hp : 2 ^ i ≤ 2 ^ 40 := Nat.pow_le_pow_right (by decide) hi
  have ha1 : a < 2 ^ 62 := by omega
  rw [hc, bits_join .i64 62 (by decide) (fun n h0 h1 => by rw [IntKind.wrap_i64]; omega) i (b : Int) (a : Int) (by omega) (by exact_mod_cast hb) (by exact_mod_cast hb1) (by omega) (by exact_mod_cast ha) (by exact_mod_cast ha1)]
  omega
end Go.Proofs.Ytbmpdccoffkjgaa.Ow
