/- Function values that hold variables; what the steps of a removal are. -/
import Derived.Test.YtbmpdccoffkjgaaBtr
namespace Go.Proofs.Ytbmpdccoffkjgaa.Ow
open Go
set_option linter.unusedVariables false
section
variable {P : Program} {env : Env} {L : List Itm} {F : Mem} {d : Option Tmp} {ty : TypeId} {pos : String} {af : Array Edge} {gd : Option (Nat × Bool)} {f : FuncId} {xs : List Operand} {ats : Array TypeId} {args caps : List Value} {fo : Operand}
/-- A function value that holds variables. -/
theorem OpV.mkf {cs : List Operand} (hcs : evs env cs = some caps) : OpV P ⟨d, .makeFunc (.func f) #[] cs.toArray, ty, pos, af, gd⟩ env L F (.func (.func f) #[] caps.toArray) :=
  .of fun n a w R hh _ => by
    have hm := evs_arr hh hcs
    have e : (execOp a.eval ⟨d, .makeFunc (.func f) #[] cs.toArray, ty, pos, af, gd⟩) = (do pure (.value (← Instr.makeFunc (.func f) (#[].map a.eval) (cs.toArray.map a.eval)))) := rfl
    rw [e, hm]
    simp [Instr.makeFunc]
/-- A call of a function value that holds variables; all is lent to it. -/
theorem OpV.callc {v : Value} (hf : ev env fo = some (.func (.func f) #[] caps.toArray))
    (hxs : evs env xs = some args) (hr : ∀ w, (callFunc f (args ++ caps).toArray).run P w = .ok (.enter f (args ++ caps).toArray) w)
    (h : ∀ G, Le F G → (∀ b ∈ L.flatten, G b.id = some b.obj) → Fn P f (args ++ caps).toArray [] G (fun u _ _ => u = v)) :
    OpV P ⟨d, .call ⟨.value fo, xs.toArray, ats⟩, ty, pos, af, gd⟩ env L F v :=
  ⟨fun n a w R K Q hh ho hk => by
    have hm := evs_arr hh hxs
    have e : (execOp a.eval ⟨d, .call ⟨.value fo, xs.toArray, ats⟩, ty, pos, af, gd⟩).run P w = .ok (.enter f (args ++ caps).toArray) w := by
      have : (execOp a.eval ⟨d, .call ⟨.value fo, xs.toArray, ats⟩, ty, pos, af, gd⟩) = (do let dd ← Deferred.ofValue (a.eval fo) (xs.toArray.map a.eval); invoke dd.target dd.args) := rfl
      rw [this, hm, hh.eval hf]
      simp [Deferred.ofValue, invoke, hr]
    unfold Oper.wp
    rw [e]
    have hT : Own w L.flatten F := ho.sub (List.sublist_append_left _ _)
    have hG := h (plus F L.flatten) (plus_le F _) (fun b hb => plus_mem hT hb)
    refine (hG.run w R (by simpa using ho.freeze)).mono ?_
    rintro e w' ⟨u, M, H, rfl, hle, rfl, ho'⟩
    have h2 := (ho'.sub (List.sublist_append_right _ _)).thaw2 hle hT
    exact hk w' h2⟩
end
section
variable {P : Program} {ops : Array Oper} {Q : Post} {l : List Oper} {n : Nat} {env : Env} {F : Mem} {T : List Itm} {c : Code}
/-- A node's rows stand by themselves, and it has none. -/
theorem unplace_own {w : World} {pn : List PN} {i : Nat} {nd : PN} (h : pn[i]? = some nd) (ho : Own w (own pn :: T).flatten F) : Own w (nd.own :: own (pn.set i noN) :: T).flatten F := by
  obtain ⟨S, h1, h2⟩ := own_at h noN
  simp only [List.flatten_cons] at ho ⊢
  have h3 : (own (pn.set i noN)).Perm S := h2
  refine ho.perm ((h1.append_right _).trans ?_)
  rw [List.append_assoc]
  exact (h3.symm.append_right _).append_left _
theorem RL.unplace {pn : List PN} {i : Nat} {nd : PN} (h : pn[i]? = some nd) (k : RL P ops Q l n env (nd.own :: own (pn.set i noN) :: T) F) : RL P ops Q l n env (own pn :: T) F := RL.items (fun w ho => unplace_own h ho) k
end
theorem lendL_at {T : TS} {i q t f : Nat} {n nt nf : Nd} {p u : Pr} (h : i < T.nodes.length) (hf : f ≠ i) : (lendL T i q t f n nt nf p u).nodes[i]? = some ⟨n.ps.set (q - 1) u, n.ks⟩ := by
  unfold lendL TS.setN
  rw [List.getElem?_set_ne hf, List.getElem?_set_self (by simpa using h)]
theorem lendR_at {T : TS} {i q t f : Nat} {n nt nf : Nd} {p u : Pr} (h : i < T.nodes.length) (hf : f ≠ i) : (lendR T i q t f n nt nf p u).nodes[i]? = some ⟨n.ps.set q u, n.ks⟩ := by
  unfold lendR TS.setN
  rw [List.getElem?_set_ne hf, List.getElem?_set_self (by simpa using h)]
theorem mergeT_at {T : TS} {i q l r : Nat} {n nl nr : Nd} {p : Pr} (h : i < T.nodes.length) (hr : r ≠ i) : (mergeT T i q l r n nl nr p).nodes[i]? = some ⟨n.ps.take q ++ n.ps.drop (q + 1), n.ks.take (q + 1) ++ n.ks.drop (q + 2)⟩ := by
  unfold mergeT dropL TS.setN
  rw [List.getElem?_set_ne hr, List.getElem?_set_self (by simpa using h)]
/-- The child at a place has more keys than the least. -/
def FeedR (T : TS) (i q : Nat) (T' : TS) (c' : Nat) : Prop := ∃ xi ki t xt kt, T.nodes[i]? = some ⟨xi, ki⟩ ∧ xi.length ≤ 5 ∧ ki.length ≤ 6 ∧ T.free.length ≤ 1099511627776 ∧ ki[q]? = some t ∧ T.nodes[t]? = some ⟨xt, kt⟩ ∧ t ≠ i ∧ xt.length ≤ 5 ∧ kt.length ≤ 6 ∧
  ((2 < xt.length ∧ T' = T ∧ c' = t) ∨
   (∃ f xf kf p u, xt.length ≤ 2 ∧ 1 ≤ q ∧ ki[q - 1]? = some f ∧ T.nodes[f]? = some ⟨xf, kf⟩ ∧ 2 < xf.length ∧ xf.length ≤ 5 ∧ kf.length ≤ 6 ∧ f ≠ i ∧ t ≠ f ∧ xi[q - 1]? = some p ∧ xf[xf.length - 1]? = some u ∧ T' = lendL T i q t f ⟨xi, ki⟩ ⟨xt, kt⟩ ⟨xf, kf⟩ p u ∧ c' = t) ∨
   (∃ f xf kf p u, xt.length ≤ 2 ∧ (q = 0 ∨ ∃ e xe ke, 1 ≤ q ∧ ki[q - 1]? = some e ∧ T.nodes[e]? = some ⟨xe, ke⟩ ∧ xe.length ≤ 2) ∧ ki[q + 1]? = some f ∧ T.nodes[f]? = some ⟨xf, kf⟩ ∧ 2 < xf.length ∧ xf.length ≤ 5 ∧ kf.length ≤ 6 ∧ f ≠ i ∧ t ≠ f ∧ xi[q]? = some p ∧ xf[0]? = some u ∧ T' = lendR T i q t f ⟨xi, ki⟩ ⟨xt, kt⟩ ⟨xf, kf⟩ p u ∧ c' = t) ∨
   (∃ l xl kl p, xt.length ≤ 2 ∧ 1 ≤ q ∧ ki[q - 1]? = some l ∧ T.nodes[l]? = some ⟨xl, kl⟩ ∧ xl.length ≤ 2 ∧ kl.length ≤ 6 ∧ l ≠ i ∧ l ≠ t ∧ (ki.length = q + 1 ∨ ∃ e xe ke, ki[q + 1]? = some e ∧ T.nodes[e]? = some ⟨xe, ke⟩ ∧ xe.length ≤ 2) ∧ xi[q - 1]? = some p ∧ T' = mergeT T i (q - 1) l t ⟨xi, ki⟩ ⟨xl, kl⟩ ⟨xt, kt⟩ p ∧ c' = l) ∨
   (∃ r xr kr p, xt.length ≤ 2 ∧ q = 0 ∧ ki[q + 1]? = some r ∧ T.nodes[r]? = some ⟨xr, kr⟩ ∧ xr.length ≤ 2 ∧ kr.length ≤ 6 ∧ r ≠ i ∧ t ≠ r ∧ xi[q]? = some p ∧ T' = mergeT T i q t r ⟨xi, ki⟩ ⟨xt, kt⟩ ⟨xr, kr⟩ p ∧ c' = t))
def popAt (last : Bool) (n : Nat) : Nat := if last then n - 1 else 0
def PopR (last : Bool) : Nat → TS → Nat → TS → Pr → Prop
  | 0, _, _, _, _ => False
  | m + 1, T, i, T', p => ∃ xi ki, T.nodes[i]? = some ⟨xi, ki⟩ ∧ xi.length ≤ 5 ∧ ki.length ≤ 6 ∧
      ((ki = [] ∧ xi[popAt last xi.length]? = some p ∧ T' = T.setN i ⟨xi.take (popAt last xi.length) ++ xi.drop (popAt last xi.length + 1), ki⟩) ∨
       (∃ T1 c, 0 < ki.length ∧ FeedR T i (popAt last ki.length) T1 c ∧ PopR last m T1 c T' p))
def RemR (k : ByteArray) : Nat → TS → Nat → TS → Prop
  | 0, _, _, _ => False
  | m + 1, T, i, T' => ∃ xi ki, T.nodes[i]? = some ⟨xi, ki⟩ ∧ Srt xi ∧ xi.length ≤ 5 ∧ ki.length ≤ 6 ∧ T.free.length ≤ 1099511627776 ∧
      ((ki = [] ∧ hasK xi k = true ∧ T' = T.setN i ⟨xi.take (posK xi k) ++ xi.drop (posK xi k + 1), ki⟩) ∨
       (∃ T1 c, 0 < ki.length ∧ hasK xi k = false ∧ FeedR T i (posK xi k) T1 c ∧ RemR k m T1 c T') ∨
       (∃ c xc kc T1 p x1 k1 m', 0 < ki.length ∧ hasK xi k = true ∧ ki[posK xi k]? = some c ∧ T.nodes[c]? = some ⟨xc, kc⟩ ∧ 2 < xc.length ∧ xc.length ≤ 5 ∧ PopR true m' T c T1 p ∧ T1.nodes[i]? = some ⟨x1, k1⟩ ∧ posK xi k < x1.length ∧ T' = T1.setN i ⟨x1.set (posK xi k) p, k1⟩) ∨
       (∃ c xc kc e xe ke T1 p x1 k1 m', 0 < ki.length ∧ hasK xi k = true ∧ ki[posK xi k]? = some c ∧ T.nodes[c]? = some ⟨xc, kc⟩ ∧ xc.length ≤ 2 ∧ ki[posK xi k + 1]? = some e ∧ T.nodes[e]? = some ⟨xe, ke⟩ ∧ 2 < xe.length ∧ xe.length ≤ 5 ∧ PopR false m' T e T1 p ∧ T1.nodes[i]? = some ⟨x1, k1⟩ ∧ posK xi k < x1.length ∧ T' = T1.setN i ⟨x1.set (posK xi k) p, k1⟩) ∨
       (∃ c xc kc e xe ke p, 0 < ki.length ∧ hasK xi k = true ∧ ki[posK xi k]? = some c ∧ T.nodes[c]? = some ⟨xc, kc⟩ ∧ xc.length ≤ 2 ∧ kc.length ≤ 6 ∧ ki[posK xi k + 1]? = some e ∧ T.nodes[e]? = some ⟨xe, ke⟩ ∧ xe.length ≤ 2 ∧ ke.length ≤ 6 ∧ c ≠ i ∧ e ≠ i ∧ c ≠ e ∧ xi[posK xi k]? = some p ∧
          RemR k m (mergeT T i (posK xi k) c e ⟨xi, ki⟩ ⟨xc, kc⟩ ⟨xe, ke⟩ p) c T'))
/-- Delete of a key that is there. -/
def DelT (k : ByteArray) (T T' : TS) : Prop := ∃ m T1 x1 k1, RemR k m T T.root T1 ∧ (1 ≤ T1.count ∧ T1.count ≤ 549755813888) ∧ T1.nodes[T1.root]? = some ⟨x1, k1⟩ ∧ x1.length ≤ 5 ∧ k1.length ≤ 6 ∧ T1.free.length ≤ 1099511627776 ∧
  (((x1 ≠ [] ∨ k1 = []) ∧ T' = ⟨T1.nodes, T1.free, T1.root, T1.count - 1⟩) ∨
   (∃ c, x1 = [] ∧ k1[0]? = some c ∧ T' = ⟨(dropL T1 T1.root).nodes, (dropL T1 T1.root).free, c, T1.count - 1⟩))
end Go.Proofs.Ytbmpdccoffkjgaa.Ow
