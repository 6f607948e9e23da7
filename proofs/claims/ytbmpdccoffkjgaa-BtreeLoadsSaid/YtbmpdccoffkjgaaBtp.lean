/- How a tree lies: nodes as rows of pairs and of kids, all in one row. -/
import Derived.Test.YtbmpdccoffkjgaaOwn11
import Derived.Test.YtbmpdccoffkjgaaBta
namespace Go.Proofs.Ytbmpdccoffkjgaa.Ow
open Go
set_option linter.unusedVariables false
def encK (n : Nat) : List Value := [.int .i64 (n : Int)]
theorem encK_ok : Enc encK 1 := ⟨fun _ => rfl, fun x v hv => by simp [encK] at hv; subst hv; rfl⟩
structure RowP (α : Type) where
  xs : List α
  a : Option Addr
  c : Nat
  it : Itm
structure PN where
  p : RowP Pr
  k : RowP Nat
def encN (n : PN) : List Value := [.slice n.p.a n.p.xs.length n.p.c, .slice n.k.a n.k.xs.length n.k.c]
theorem encN_ok : Enc encN 2 := ⟨fun _ => rfl, fun x v hv => by simp [encN] at hv; rcases hv with rfl | rfl <;> rfl⟩
def PN.own (n : PN) : Itm := n.p.it ++ n.k.it
def own (l : List PN) : Itm := l.flatMap PN.own
def noN : PN := ⟨⟨[], none, 0, []⟩, ⟨[], none, 0, []⟩⟩
structure PN.Ok (n : PN) : Prop where
  p : Row 47 encP 2 n.p.a n.p.c n.p.xs n.p.it
  k : Row 3 encK 1 n.k.a n.k.c n.k.xs n.k.it
theorem noN_ok : noN.Ok := ⟨Row.nil, Row.nil⟩
structure Nd where
  ps : List Pr
  ks : List Nat
def PN.nd (n : PN) : Nd := ⟨n.p.xs, n.k.xs⟩
structure TS where
  nodes : List Nd
  free : List Nat
  root : Nat
  count : Nat
/-- How a tree lies. -/
structure Phys (b : Nat) (T : TS) (pn : List PN) (na : Option Addr) (nc : Nat) (nit : Itm) (fa : Option Addr) (fc : Nat) (fit : Itm) (it : Itm) : Prop where
  rn : Row 68 encN 2 na nc pn nit
  rf : Row 3 encK 1 fa fc T.free fit
  ok : ∀ n ∈ pn, n.Ok
  nd : pn.map PN.nd = T.nodes
  it : it = ⟨b, 60, [.slice na pn.length nc, .slice fa T.free.length fc, .int .i64 (T.root : Int), .int .i64 (T.count : Int)]⟩ :: (nit ++ (fit ++ own pn))
def Lies (b : Nat) (T : TS) (it : Itm) : Prop := ∃ pn na nc nit fa fc fit, Phys b T pn na nc nit fa fc fit it
theorem own_cons (n : PN) (l : List PN) : own (n :: l) = n.own ++ own l := rfl
theorem own_app (l m : List PN) : own (l ++ m) = own l ++ own m := by simp [own]
/-- A node among all. -/
theorem own_at {pn : List PN} {i : Nat} {n : PN} (h : pn[i]? = some n) (m : PN) : ∃ S, (own pn).Perm (n.own ++ S) ∧ (own (pn.set i m)).Perm (m.own ++ S) := by
  obtain ⟨h1, h2⟩ := List.getElem?_eq_some_iff.1 h
  have e1 : pn = pn.take i ++ n :: pn.drop (i + 1) := by rw [← h2, ← List.drop_eq_getElem_cons h1, List.take_append_drop]
  have e2 : pn.set i m = pn.take i ++ m :: pn.drop (i + 1) := by rw [List.set_eq_take_append_cons_drop, if_pos h1]
  refine ⟨own (pn.take i) ++ own (pn.drop (i + 1)), ?_, ?_⟩
  · conv => lhs; rw [e1, own_app, own_cons]
    rw [← List.append_assoc, ← List.append_assoc]
    exact (List.perm_append_comm).append_right _
  · rw [e2, own_app, own_cons, ← List.append_assoc, ← List.append_assoc]
    exact (List.perm_append_comm).append_right _
theorem sub_at {pn : List PN} {i : Nat} {n : PN} (h : pn[i]? = some n) : n.own.Sublist (own pn) := by
  obtain ⟨h1, h2⟩ := List.getElem?_eq_some_iff.1 h
  have e1 : pn = pn.take i ++ n :: pn.drop (i + 1) := by rw [← h2, ← List.drop_eq_getElem_cons h1, List.take_append_drop]
  rw [e1, own_app, own_cons]
  exact (List.sublist_append_left _ _).trans (List.sublist_append_right _ _)
theorem sub_p {pn : List PN} {i : Nat} {n : PN} (h : pn[i]? = some n) : n.p.it.Sublist (own pn) := (List.sublist_append_left _ _).trans (sub_at h)
theorem sub_k {pn : List PN} {i : Nat} {n : PN} (h : pn[i]? = some n) : n.k.it.Sublist (own pn) := (List.sublist_append_right _ _).trans (sub_at h)
/-- A row of a node is another one. -/
theorem upd_p {pn : List PN} {i : Nat} {n : PN} (h : pn[i]? = some n) (x : Itm) {T : List Itm} : Upd n.p.it x (own pn :: T) (own (pn.set i ⟨⟨[], none, 0, x⟩, n.k⟩) :: T) := by
  obtain ⟨S, h1, h2⟩ := own_at h ⟨⟨[], none, 0, x⟩, n.k⟩
  exact .part (n.k.it ++ S) (by rw [← List.append_assoc]; exact h1) (by rw [← List.append_assoc]; exact h2)
theorem upd_k {pn : List PN} {i : Nat} {n : PN} (h : pn[i]? = some n) (x : Itm) {T : List Itm} : Upd n.k.it x (own pn :: T) (own (pn.set i ⟨n.p, ⟨[], none, 0, x⟩⟩) :: T) := by
  obtain ⟨S, h1, h2⟩ := own_at h ⟨n.p, ⟨[], none, 0, x⟩⟩
  refine .part (n.p.it ++ S) (h1.trans ?_) (h2.trans ?_)
  · exact ((List.perm_append_comm).append_right S).trans (by rw [List.append_assoc])
  · exact ((List.perm_append_comm).append_right S).trans (by rw [List.append_assoc])
theorem own_same_p (pn : List PN) (i : Nat) (n : PN) (r : RowP Pr) : own (pn.set i ⟨⟨[], none, 0, r.it⟩, n.k⟩) = own (pn.set i ⟨r, n.k⟩) := by
  simp only [own, List.flatMap_def, List.map_set]
  rfl
theorem own_same_k (pn : List PN) (i : Nat) (n : PN) (r : RowP Nat) : own (pn.set i ⟨n.p, ⟨[], none, 0, r.it⟩⟩) = own (pn.set i ⟨n.p, r⟩) := by
  simp only [own, List.flatMap_def, List.map_set]
  rfl
/-- A row is shorter. -/
theorem Row.shrink {α : Type} {e : TypeId} {enc : α → List Value} {sz : Nat} {a : Option Addr} {c : Nat} {xs : List α} {it : Itm} (hE : Enc enc sz) (h : Row e enc sz a c xs it) {k : Nat} (hk : k ≤ xs.length) : Row e enc sz a c (xs.take k) it := by
  have hl : (xs.take k).length = k := by rw [List.length_take]; omega
  have hc := h.cap
  refine ⟨by omega, h.max, ?_⟩
  rcases h.it with h1 | ⟨b, pad, ha, hit, hp⟩
  · exact .inl h1
  · refine .inr ⟨b, (xs.drop k).flatMap enc ++ pad, ha, ?_, ?_⟩
    · rw [hit, ← List.append_assoc, ← List.flatMap_append, List.take_append_drop]
    · rw [List.length_append, hE.fl, List.length_drop, hp, hl, ← Nat.add_mul]
      congr 1
      omega
/-- A struct in the middle of a block that is owned. -/
theorem OpV.ldm {P : Program} {env : Env} {L : List Itm} {F : Mem} {d : Option Tmp} {ty : TypeId} {pos : String} {af : Array Edge} {gd : Option (Nat × Bool)} {x : Operand} {t sz bytes b o bt : Nat} {zero : Value} {cs : List Value} (row : List Value) (ht : Ty P t sz bytes true zero) (hx : ev env x = some (.pointer (some ⟨b, o, none⟩))) (hi : Inn [⟨b, bt, cs⟩] L) (hl : row.length = sz)
    (hg : ∀ j v, row[j]? = some v → cs[o + j]? = some v) : OpV P ⟨d, .load t x, ty, pos, af, gd⟩ env L F (.agg row.toArray) :=
  .lda hx ht hl fun w R ho j v hj => by rw [add_at, ho.cell (hi.one R)]; exact hg j v hj
/-! ### Items, moved and joined -/
inductive Sel (x : Itm) : List Itm → List Itm → Prop
  | here {T : List Itm} : Sel x (x :: T) T
  | there {y : Itm} {T T' : List Itm} : Sel x T T' → Sel x (y :: T) (y :: T')
theorem Sel.perm {x : Itm} {L L' : List Itm} (h : Sel x L L') : L.flatten.Perm (x :: L').flatten := by
  induction h with
  | here => exact List.Perm.refl _
  | @there y T T' _ ih =>
    simp only [List.flatten_cons] at ih ⊢
    refine (ih.append_left y).trans ?_
    rw [← List.append_assoc, ← List.append_assoc]
    exact (List.perm_append_comm).append_right _
section
variable {P : Program} {ops : Array Oper} {Q : Post} {l : List Oper} {n : Nat} {env : Env} {L L' : List Itm} {F : Mem} {x y : Itm} {T : List Itm} {c : Code} {e : Exit}
theorem RL.front (h : Sel x L L') (k : RL P ops Q l n env (x :: L') F) : RL P ops Q l n env L F := RL.items (fun w ho => ho.perm h.perm) k
theorem WC.front (h : Sel x L L') (k : WC P c Q n env (x :: L') F) : WC P c Q n env L F := WC.items (fun w ho => ho.perm h.perm) k
theorem Fin.front (h : Sel x L L') (k : Fin Q e n env (x :: L') F) : Fin Q e n env L F := Fin.items (fun w ho => ho.perm h.perm) k
theorem RL.join (k : RL P ops Q l n env ((x ++ y) :: T) F) : RL P ops Q l n env (x :: y :: T) F := RL.items (fun w ho => by simpa [List.append_assoc] using ho) k
theorem WC.join (k : WC P c Q n env ((x ++ y) :: T) F) : WC P c Q n env (x :: y :: T) F := WC.items (fun w ho => by simpa [List.append_assoc] using ho) k
theorem Fin.join (k : Fin Q e n env ((x ++ y) :: T) F) : Fin Q e n env (x :: y :: T) F := Fin.items (fun w ho => by simpa [List.append_assoc] using ho) k
theorem RL.part (k : RL P ops Q l n env (x :: y :: T) F) : RL P ops Q l n env ((x ++ y) :: T) F := RL.items (fun w ho => by simpa [List.append_assoc] using ho) k
theorem WC.part (k : WC P c Q n env (x :: y :: T) F) : WC P c Q n env ((x ++ y) :: T) F := WC.items (fun w ho => by simpa [List.append_assoc] using ho) k
theorem place_own {w : World} {pn : List PN} {i : Nat} {nd m : PN} (h : pn[i]? = some nd) (ho : Own w (m.own :: own pn :: T).flatten F) : Own w (own (pn.set i m) :: T).flatten F := by
  obtain ⟨S, h1, h2⟩ := own_at h m
  simp only [List.flatten_cons] at ho ⊢
  have p1 : (m.own ++ (own pn ++ T.flatten)).Perm (nd.own ++ (own (pn.set i m) ++ T.flatten)) := by
    refine ((h1.append_right _).append_left m.own).trans ?_
    refine List.Perm.trans ?_ (((h2.append_right T.flatten).append_left nd.own)).symm
    simp only [List.append_assoc]
    exact List.perm_append_comm_assoc _ _ _
  exact (ho.perm p1).sub (List.sublist_append_right _ _)
theorem RL.place {pn : List PN} {i : Nat} {nd m : PN} (h : pn[i]? = some nd) (k : RL P ops Q l n env (own (pn.set i m) :: T) F) : RL P ops Q l n env (m.own :: own pn :: T) F := RL.items (fun w ho => place_own h ho) k
theorem WC.place {pn : List PN} {i : Nat} {nd m : PN} (h : pn[i]? = some nd) (k : WC P c Q n env (own (pn.set i m) :: T) F) : WC P c Q n env (m.own :: own pn :: T) F := WC.items (fun w ho => place_own h ho) k
/-- A node's row of pairs is another one, that stood by itself. -/
theorem place_own_p {w : World} {pn : List PN} {i : Nat} {nd : PN} {r : RowP Pr} (h : pn[i]? = some nd) (ho : Own w (r.it :: own pn :: T).flatten F) : Own w (own (pn.set i ⟨r, nd.k⟩) :: T).flatten F := by
  obtain ⟨S, h1, h2⟩ := own_at h ⟨r, nd.k⟩
  simp only [List.flatten_cons] at ho ⊢
  have p1 : (r.it ++ (own pn ++ T.flatten)).Perm (nd.p.it ++ (own (pn.set i ⟨r, nd.k⟩) ++ T.flatten)) := by
    refine ((h1.append_right _).append_left r.it).trans ?_
    refine List.Perm.trans ?_ (((h2.append_right T.flatten).append_left nd.p.it)).symm
    simp only [PN.own, List.append_assoc]
    exact List.perm_append_comm_assoc _ _ _
  exact (ho.perm p1).sub (List.sublist_append_right _ _)
theorem RL.place_p {pn : List PN} {i : Nat} {nd : PN} {r : RowP Pr} (h : pn[i]? = some nd) (k : RL P ops Q l n env (own (pn.set i ⟨r, nd.k⟩) :: T) F) : RL P ops Q l n env (r.it :: own pn :: T) F := RL.items (fun w ho => place_own_p h ho) k
end
theorem set_get {α : Type} {l : List α} {i : Nat} {x y : α} (h : l[i]? = some x) : (l.set i y)[i]? = some y := List.getElem?_set_self (List.getElem?_eq_some_iff.1 h).1
theorem set_other {α : Type} {l : List α} {i j : Nat} {x y : α} (hne : i ≠ j) (h : l[j]? = some x) : (l.set i y)[j]? = some x := by rw [List.getElem?_set_ne hne]; exact h
theorem set_other' {α : Type} {l l' : List α} {i j : Nat} {x y : α} (e : l' = l.set i y) (hne : i ≠ j) (h : l[j]? = some x) : l'[j]? = some x := by rw [e]; exact set_other hne h
theorem set_get' {α : Type} {l l' : List α} {i : Nat} {x y : α} (e : l' = l.set i y) (h : l[i]? = some x) : l'[i]? = some y := by rw [e]; exact set_get h
theorem set_ok {pn : List PN} (h : ∀ n ∈ pn, n.Ok) {i : Nat} {m : PN} (hm : m.Ok) : ∀ n ∈ pn.set i m, n.Ok := fun n hn => by
  rcases List.mem_or_eq_of_mem_set hn with h1 | rfl
  · exact h n h1
  · exact hm
theorem get_ok {pn : List PN} (h : ∀ n ∈ pn, n.Ok) {i : Nat} {m : PN} (hm : pn[i]? = some m) : m.Ok := h m (List.mem_of_getElem? hm)
/-- A logical node, and how it lies. -/
theorem nd_get {pn : List PN} {l : List Nd} (h : pn.map PN.nd = l) {i : Nat} {n : Nd} (hn : l[i]? = some n) : ∃ m : PN, pn[i]? = some m ∧ m.nd = n := by
  rw [← h, List.getElem?_map] at hn
  exact Option.map_eq_some_iff.1 hn
theorem Row.append_ok {α : Type} {e : TypeId} {enc : α → List Value} {sz : Nat} {a : Option Addr} {c : Nat} {xs : List α} {it : Itm} (h : Row e enc sz a c xs it) : xs.length ≤ c := h.cap
/-- How the steps turn a tree. -/
def TS.setN (T : TS) (i : Nat) (n : Nd) : TS := ⟨T.nodes.set i n, T.free, T.root, T.count⟩
def addL (T : TS) (n : Nd) : TS × Nat := match T.free.getLast? with
  | some i => (⟨T.nodes.set i n, T.free.dropLast, T.root, T.count⟩, i)
  | none => (⟨T.nodes ++ [n], T.free, T.root, T.count⟩, T.nodes.length)
theorem addL_free {T : TS} {i : Nat} (n : Nd) (h : T.free[T.free.length - 1]? = some i) : addL T n = (⟨T.nodes.set i n, T.free.take (T.free.length - 1), T.root, T.count⟩, i) := by
  unfold addL
  rw [List.getLast?_eq_getElem?, h, List.dropLast_eq_take]
theorem addL_none {T : TS} (n : Nd) (h : T.free.length = 0) : addL T n = (⟨T.nodes ++ [n], T.free, T.root, T.count⟩, T.nodes.length) := by
  unfold addL
  rw [List.eq_nil_of_length_eq_zero h]
  rfl
section
variable {P : Program} {ops : Array Oper} {Q : Post} {l : List Oper} {n : Nat} {env : Env} {F : Mem} {x : Blk} {y z u : Itm} {T : List Itm} {c : Code}
theorem RL.parts (k : RL P ops Q l n env ([x] :: y :: z :: u :: T) F) : RL P ops Q l n env ((x :: (y ++ (z ++ u))) :: T) F := RL.items (fun w ho => by simpa [List.append_assoc] using ho) k
theorem WC.parts (k : WC P c Q n env ([x] :: y :: z :: u :: T) F) : WC P c Q n env ((x :: (y ++ (z ++ u))) :: T) F := WC.items (fun w ho => by simpa [List.append_assoc] using ho) k
end
def dropL (T : TS) (i : Nat) : TS := ⟨T.nodes.set i ⟨[], []⟩, T.free ++ [i], T.root, T.count⟩
theorem addL_get {T : TS} {n m : Nd} {i : Nat} (h : T.nodes[i]? = some m) (hf : i ∉ T.free) : (addL T n).1.nodes[i]? = some m := by
  have hi := (List.getElem?_eq_some_iff.1 h).1
  unfold addL
  split
  · rename_i j hj
    have : j ∈ T.free := List.mem_of_getLast? hj
    exact set_other (fun e => hf (e ▸ this)) h
  · show (T.nodes ++ [n])[i]? = some m
    rw [List.getElem?_append_left hi]
    exact h
theorem addL_len (T : TS) (n : Nd) : T.nodes.length ≤ (addL T n).1.nodes.length ∧ (addL T n).1.nodes.length ≤ T.nodes.length + 1 := by
  unfold addL
  split
  · simp
  · simp
theorem addL_free_sub (T : TS) (n : Nd) : ∀ x ∈ (addL T n).1.free, x ∈ T.free := by
  unfold addL
  split
  · exact fun x hx => List.dropLast_subset _ hx
  · exact fun x hx => hx
/-- A child that is full is two. -/
def leftN (f : Nd) : Nd := ⟨f.ps.take 2, if f.ks.length = 0 then f.ks else f.ks.take 3⟩
def rightN (f : Nd) : Nd := ⟨f.ps.drop 3, if f.ks.length = 0 then [] else f.ks.drop 3⟩
def splitT (T : TS) (i q c : Nat) (n f : Nd) (up : Pr) : TS :=
  (addL (T.setN c (leftN f)) (rightN f)).1.setN i ⟨n.ps.take q ++ up :: n.ps.drop q, n.ks.take (q + 1) ++ (addL (T.setN c (leftN f)) (rightN f)).2 :: n.ks.drop (q + 1)⟩
theorem Row.rdAll {α : Type} {e : TypeId} {enc : α → List Value} {sz : Nat} {a : Option Addr} {c : Nat} {xs : List α} {it : Itm} (h : Row e enc sz a c xs it) {L : List Itm} {F : Mem} (hi : Inn it L) :
    ∀ w R, Own w (L.flatten ++ R) F → ∀ j v, (xs.flatMap enc)[j]? = some v → ∃ ad, a = some ad ∧ w.cell? (ad.add j) = some v := by
  intro w R ho j v hj
  rcases h.it with ⟨_, h2, _⟩ | ⟨b, pad, ha, hit, _⟩
  · have : xs = [] := List.eq_nil_of_length_eq_zero (by have := h.cap; omega)
    subst this
    simp at hj
  · subst hit
    refine ⟨_, ha, ?_⟩
    rw [add_at, ho.cell (hi.one R), Nat.zero_add, List.getElem?_append_left (List.getElem?_eq_some_iff.1 hj).1]
    exact hj
theorem Row.nil_of {α : Type} {e : TypeId} {enc : α → List Value} {sz : Nat} {a : Option Addr} {c : Nat} {xs : List α} {it : Itm} (h : Row e enc sz a c xs it) (ha : a = none) : xs = [] := by
  rcases h.it with ⟨_, h2, _⟩ | ⟨b, pad, ha', _, _⟩
  · exact List.eq_nil_of_length_eq_zero (by have := h.cap; omega)
  · rw [ha] at ha'; cases ha'
theorem set_id {α : Type} : ∀ {l : List α} {i : Nat} {x : α}, l[i]? = some x → l.set i x = l
  | [], _, _, h => by simp at h
  | y :: l, 0, x, h => by simp at h; subst h; rfl
  | y :: l, i + 1, x, h => by simp at h; simp [set_id h]
/-- A header stays as it is. -/
theorem flat_same {pn : List PN} {i : Nat} {n m : PN} (h : pn[i]? = some n) (he : encN m = encN n) : (pn.set i m).flatMap encN = pn.flatMap encN := by
  have : (pn.set i m).map encN = pn.map encN := by
    rw [List.map_set, he]
    exact set_id (by rw [List.getElem?_map, h]; rfl)
  rw [List.flatMap_def, List.flatMap_def, this]
theorem own_keep {pn : List PN} {i : Nat} {n m : PN} (h : pn[i]? = some n) (he : m.own = n.own) : own (pn.set i m) = own pn := by
  have : (pn.set i m).map PN.own = pn.map PN.own := by
    rw [List.map_set, he]
    exact set_id (by rw [List.getElem?_map, h]; rfl)
  unfold own
  rw [List.flatMap_def, List.flatMap_def, this]
theorem drop_one {α : Type} {l : List α} {z : α} (h : l[l.length - 1]? = some z) (h0 : 0 < l.length) : l.drop (l.length - 1) = [z] := by
  have h1 := (List.getElem?_eq_some_iff.1 h)
  rw [List.drop_eq_getElem_cons h1.1, h1.2, List.drop_of_length_le (by omega)]
theorem sets5 {α : Type} (l : List α) {t i f : Nat} (hti : t ≠ i) (hfi : f ≠ i) (htf : t ≠ f) (A1 A2 B C1 C2 : α) : ((((l.set t A1).set i B).set f C1).set t A2).set f C2 = ((l.set t A2).set i B).set f C2 := by
  rw [List.set_comm (i := f) (j := t) C1 A2 (Ne.symm htf), List.set_set, List.set_comm (i := i) (j := t) B A2 (Ne.symm hti), List.set_set]
/-- Two children are one. -/
def mergeT (T : TS) (i q l r : Nat) (n nl nr : Nd) (p : Pr) : TS :=
  dropL ((T.setN l ⟨nl.ps ++ p :: nr.ps, nl.ks ++ nr.ks⟩).setN i ⟨n.ps.take q ++ n.ps.drop (q + 1), n.ks.take (q + 1) ++ n.ks.drop (q + 2)⟩) r
/-- A child gets a key of the one at its side. -/
def lendL (T : TS) (i q t f : Nat) (n nt nf : Nd) (p u : Pr) : TS :=
  ((T.setN t ⟨p :: nt.ps, if nf.ks.length = 0 then nt.ks else nf.ks.drop (nf.ks.length - 1) ++ nt.ks⟩).setN i ⟨n.ps.set (q - 1) u, n.ks⟩).setN f ⟨nf.ps.take (nf.ps.length - 1), nf.ks.take (nf.ks.length - 1)⟩
def lendR (T : TS) (i q t f : Nat) (n nt nf : Nd) (p u : Pr) : TS :=
  ((T.setN t ⟨nt.ps ++ [p], if nf.ks.length = 0 then nt.ks else nt.ks ++ nf.ks.take 1⟩).setN i ⟨n.ps.set q u, n.ks⟩).setN f ⟨nf.ps.drop 1, nf.ks.drop 1⟩
end Go.Proofs.Ytbmpdccoffkjgaa.Ow
