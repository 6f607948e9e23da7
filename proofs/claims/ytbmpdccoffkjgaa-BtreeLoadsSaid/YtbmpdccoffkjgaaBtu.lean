/- Calls that are lent a tree, and give it back as it was. -/
import Derived.Test.YtbmpdccoffkjgaaBtq
namespace Go.Proofs.Ytbmpdccoffkjgaa.Ow
open Go
set_option linter.unusedVariables false
theorem sel4 {a n f o : Itm} {L L1 L2 L3 L4 : List Itm} (s1 : Sel a L L1) (s2 : Sel n L1 L2) (s3 : Sel f L2 L3) (s4 : Sel o L3 L4) : L.flatten.Perm ((a ++ (n ++ (f ++ o))) ++ L4.flatten) := by
  have h4 := (s4.perm.append_left f).append_left n |>.append_left a
  have h3 := (s3.perm.append_left n).append_left a
  have h2 := s2.perm.append_left a
  have h1 := s1.perm
  simp only [List.flatten_cons] at h1 h2 h3 h4
  refine h1.trans (h2.trans (h3.trans (h4.trans ?_)))
  simp only [List.append_assoc]
  exact List.Perm.refl _
theorem sel1 {a : Itm} {L L1 : List Itm} (s1 : Sel a L L1) : L.flatten.Perm (a ++ L1.flatten) := s1.perm
section
variable {P : Program} {env : Env} {L : List Itm} {F : Mem} {d : Option Tmp} {ty : TypeId} {pos : String} {af : Array Edge} {gd : Option (Nat × Bool)} {f : FuncId} {xs : List Operand} {ats : Array TypeId} {args : List Value} {fo : Operand}
/-- A call that reads what is owned, and answers a value. -/
theorem OpV.ro {v : Value} {it S : Itm} (hf : ev env fo = some (.func (.func f) #[] #[]))
    (hxs : evs env xs = some args) (hr : ∀ w, (callFunc f args.toArray).run P w = .ok (.enter f args.toArray) w) (hp : L.flatten.Perm (it ++ S))
    (h : Fn P f args.toArray [it] F (fun u M G => M = [it] ∧ G = F ∧ u = v)) : OpV P ⟨d, .call ⟨.value fo, xs.toArray, ats⟩, ty, pos, af, gd⟩ env L F v :=
  ⟨fun n a w R K Q hh ho hk => by
    have hm := evs_arr hh hxs
    have e : (execOp a.eval ⟨d, .call ⟨.value fo, xs.toArray, ats⟩, ty, pos, af, gd⟩).run P w = .ok (.enter f args.toArray) w := by
      have : (execOp a.eval ⟨d, .call ⟨.value fo, xs.toArray, ats⟩, ty, pos, af, gd⟩) = (do let dd ← Deferred.ofValue (a.eval fo) (xs.toArray.map a.eval); invoke dd.target dd.args) := rfl
      rw [this, hm, hh.eval hf]
      simp [Deferred.ofValue, invoke, hr]
    unfold Oper.wp
    rw [e]
    have hp' := hp.append_right R
    rw [List.append_assoc] at hp'
    refine (h.run w (S ++ R) (by simpa using ho.perm hp')).mono ?_
    rintro e w' ⟨u, M, H, rfl, hle, ⟨rfl, rfl, rfl⟩, ho'⟩
    exact hk w' (Own.perm (by simpa using ho') hp'.symm)⟩
/-- A call that reads what is owned, and turns an item beside it. -/
theorem Op1.rox {it S : Itm} {o : Itm} {post : Value → Itm → Prop} {L0 : List Itm} (hf : ev env fo = some (.func (.func f) #[] #[]))
    (hxs : evs env xs = some args) (hr : ∀ w, (callFunc f args.toArray).run P w = .ok (.enter f args.toArray) w) (g : Itm → List Itm) (hL : L = g o) (hs : ∀ o', Sel o' (g o') L0) (hp : L0.flatten.Perm (it ++ S))
    (h : Fn P f args.toArray [it ++ o] F (fun u M G => ∃ o', M = [it ++ o'] ∧ G = F ∧ post u o')) : Op1 P ⟨d, .call ⟨.value fo, xs.toArray, ats⟩, ty, pos, af, gd⟩ env L F (fun v M G => ∃ it', M = g it' ∧ G = F ∧ post v it') :=
  ⟨fun n a w R K Q hh ho hk => by
    subst hL
    have hm := evs_arr hh hxs
    have e : (execOp a.eval ⟨d, .call ⟨.value fo, xs.toArray, ats⟩, ty, pos, af, gd⟩).run P w = .ok (.enter f args.toArray) w := by
      have : (execOp a.eval ⟨d, .call ⟨.value fo, xs.toArray, ats⟩, ty, pos, af, gd⟩) = (do let dd ← Deferred.ofValue (a.eval fo) (xs.toArray.map a.eval); invoke dd.target dd.args) := rfl
      rw [this, hm, hh.eval hf]
      simp [Deferred.ofValue, invoke, hr]
    unfold Oper.wp
    rw [e]
    have hq : ∀ o', ((g o').flatten ++ R).Perm ((it ++ o') ++ (S ++ R)) := fun o' => by
      have h1 := ((hs o').perm.append_right R)
      simp only [List.flatten_cons, List.append_assoc] at h1
      refine h1.trans (((hp.append_right R).append_left o').trans ?_)
      simp only [List.append_assoc]
      exact List.perm_append_comm_assoc _ _ _
    refine (h.run w (S ++ R) (by simpa using ho.perm (hq o))).mono ?_
    rintro e w' ⟨u, M, H, rfl, hle, ⟨o', rfl, rfl, hpost⟩, ho'⟩
    exact hk u (g o') _ w' Le.rfl ⟨o', rfl, rfl, hpost⟩ (Own.perm (by simpa using ho') (hq o').symm)⟩
/-- A call that reads what is owned, and makes an item. -/
theorem Op1.rom {it S : Itm} {post : Value → Itm → Prop} (hf : ev env fo = some (.func (.func f) #[] #[]))
    (hxs : evs env xs = some args) (hr : ∀ w, (callFunc f args.toArray).run P w = .ok (.enter f args.toArray) w) (hp : L.flatten.Perm (it ++ S))
    (h : Fn P f args.toArray [it] F (fun u M G => ∃ o', M = [it, o'] ∧ G = F ∧ post u o')) : Op1 P ⟨d, .call ⟨.value fo, xs.toArray, ats⟩, ty, pos, af, gd⟩ env L F (fun v M G => ∃ it', M = it' :: L ∧ G = F ∧ post v it') :=
  ⟨fun n a w R K Q hh ho hk => by
    have hm := evs_arr hh hxs
    have e : (execOp a.eval ⟨d, .call ⟨.value fo, xs.toArray, ats⟩, ty, pos, af, gd⟩).run P w = .ok (.enter f args.toArray) w := by
      have : (execOp a.eval ⟨d, .call ⟨.value fo, xs.toArray, ats⟩, ty, pos, af, gd⟩) = (do let dd ← Deferred.ofValue (a.eval fo) (xs.toArray.map a.eval); invoke dd.target dd.args) := rfl
      rw [this, hm, hh.eval hf]
      simp [Deferred.ofValue, invoke, hr]
    unfold Oper.wp
    rw [e]
    have hp' := hp.append_right R
    rw [List.append_assoc] at hp'
    refine (h.run w (S ++ R) (by simpa using ho.perm hp')).mono ?_
    rintro e w' ⟨u, M, H, rfl, hle, ⟨o', rfl, rfl, hpost⟩, ho'⟩
    refine hk u (o' :: L) _ w' Le.rfl ⟨o', rfl, rfl, hpost⟩ ?_
    have h1 : ([it, o'].flatten ++ (S ++ R)).Perm ((o' :: L).flatten ++ R) := by
      simp only [List.flatten_cons, List.flatten_nil, List.append_nil, List.append_assoc]
      refine (List.perm_append_comm_assoc _ _ _).trans ?_
      exact (hp'.symm.append_left o')
    exact ho'.perm h1⟩
end
/-- A tree that lies as it must. -/
structure TInv (T : TS) (h : Nat) (t : Tr) : Prop where
  lay : Lay T.nodes h t
  siz : Siz h 0 t
  rt : h ≠ 0 → 1 ≤ t.ps.length
  srt : Srt (flat h t)
  root : T.root = t.i
  cnt : T.count = (flat h t).length
  nd : (ids h t ++ T.free).Nodup
  lt : ∀ x ∈ ids h t ++ T.free, x < T.nodes.length
theorem rng_all {l : List Pr} {L : Nat} (h : l.length ≤ L) : rng ⟨#[]⟩ ⟨#[]⟩ L [] l = l := by
  have : l.filter (inR ⟨#[]⟩ ⟨#[]⟩) = l := by
    rw [List.filter_eq_self]
    intro p hp
    have : slt p.key ⟨#[]⟩ = false := by
      unfold slt
      rw [show (⟨#[]⟩ : ByteArray).toList = [] by rw [ByteArray.toList_eq]]
      cases h : p.key.toList <;> rfl
    simp [inR, this]
    rfl
  unfold rng
  rw [this, List.nil_append, List.take_of_length_le (by simpa using h)]
/-- A tree without keys has no height. -/
theorem TInv.deep {T : TS} {h : Nat} {t : Tr} (hI : TInv T h t) (h0 : T.count = 0) : h = 0 := by
  cases h with
  | zero => rfl
  | succ h =>
    have h1 := hI.rt (by omega)
    have h2 := (flat_ps hI.lay).length_le
    have := hI.cnt
    omega
end Go.Proofs.Ytbmpdccoffkjgaa.Ow
