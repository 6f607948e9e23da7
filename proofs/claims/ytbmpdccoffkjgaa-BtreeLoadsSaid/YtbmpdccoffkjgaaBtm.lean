/- A tree is put into: what it holds then. -/
import Derived.Test.YtbmpdccoffkjgaaBtr
namespace Go.Proofs.Ytbmpdccoffkjgaa.Ow
open Go
set_option linter.unusedVariables false
def idl (h : Nat) (K : List Tr) : List Nat := K.flatMap (ids h)
theorem idl_app (h : Nat) (A B : List Tr) : idl h (A ++ B) = idl h A ++ idl h B := by simp [idl]
theorem idl_cons (h : Nat) (c : Tr) (B : List Tr) : idl h (c :: B) = ids h c ++ idl h B := rfl
theorem ids_succ (h i : Nat) (ps : List Pr) (ks : List Tr) : ids (h + 1) (.node i ps ks) = i :: idl h ks := rfl
theorem ids_self : ∀ (h : Nat) (t : Tr), t.i ∈ ids h t
  | 0, t => List.mem_singleton.2 rfl
  | h + 1, t => List.mem_cons_self ..
theorem kid_ids {h : Nat} {k : Tr} {K : List Tr} (hk : k ∈ K) {j : Nat} (hj : j ∈ ids h k) : j ∈ idl h K := List.mem_flatMap.2 ⟨k, hk, hj⟩
theorem Lay.frame {N N' : List Nd} : ∀ {h : Nat} {t : Tr}, Lay N h t → (∀ j ∈ ids h t, N'[j]? = N[j]?) → Lay N' h t
  | 0, t, hl, hf => ⟨hl.1, by rw [hf _ (ids_self 0 t)]; exact hl.2⟩
  | h + 1, t, hl, hf => ⟨hl.1, by rw [hf _ (ids_self (h + 1) t)]; exact hl.2.1, fun k hk => (hl.2.2 k hk).frame fun j hj => hf j (List.mem_cons_of_mem _ (kid_ids hk hj))⟩
/-- A tree below a place; where it lies, and what its nodes hold. -/
structure Gd (T : TS) (h lo : Nat) (t : Tr) : Prop where
  lay : Lay T.nodes h t
  siz : Siz h lo t
  nd : (ids h t ++ T.free).Nodup
  lt : ∀ x ∈ ids h t ++ T.free, x < T.nodes.length
/-- What a step leaves. -/
structure Step (T : TS) (h : Nat) (t : Tr) (T' : TS) (h' : Nat) (t' : Tr) : Prop where
  root : T'.root = T.root
  fr : ∀ j, j < T.nodes.length → j ∉ ids h t → j ∉ T.free → T'.nodes[j]? = T.nodes[j]?
  new : ∀ x ∈ ids h' t' ++ T'.free, x ∈ ids h t ++ T.free ∨ T.nodes.length ≤ x
  len : T.nodes.length ≤ T'.nodes.length
theorem Step.trans {T T1 T2 : TS} {h h1 h2 : Nat} {t t1 t2 : Tr} (a : Step T h t T1 h1 t1) (b : Step T1 h1 t1 T2 h2 t2) : Step T h t T2 h2 t2 := by
  refine ⟨b.root.trans a.root, fun j hj h1 h2 => ?_, fun x hx => ?_, Nat.le_trans a.len b.len⟩
  · have hn : ¬ (j ∈ ids _ t1 ++ T1.free) := fun hm => by
      rcases a.new j hm with h | h
      · rcases List.mem_append.1 h with h | h
        · exact h1 h
        · exact h2 h
      · omega
    rw [b.fr j (Nat.lt_of_lt_of_le hj a.len) (fun hm => hn (List.mem_append_left _ hm)) (fun hm => hn (List.mem_append_right _ hm)), a.fr j hj h1 h2]
  · rcases b.new x hx with h | h
    · exact a.new x h
    · exact .inr (Nat.le_trans a.len h)
theorem Step.refl (T : TS) (h : Nat) (t : Tr) : Step T h t T h t := ⟨rfl, fun _ _ _ _ => rfl, fun _ hx => .inl hx, Nat.le_refl _⟩
theorem addL_spec {T T2 : TS} {n : Nd} {r : Nat} (e : addL T n = (T2, r)) (hnd : T.free.Nodup) (hlt : ∀ x ∈ T.free, x < T.nodes.length) :
    T2.nodes[r]? = some n ∧ (∀ j, j ≠ r → j < T.nodes.length → T2.nodes[j]? = T.nodes[j]?) ∧ T2.free.Sublist T.free ∧ (r :: T2.free).Nodup ∧ (r ∈ T.free ∨ r = T.nodes.length) ∧ T.nodes.length ≤ T2.nodes.length ∧ T2.nodes.length ≤ T.nodes.length + 1 ∧ r < T2.nodes.length ∧ T2.root = T.root ∧ T2.count = T.count := by
  unfold addL at e
  split at e
  · rename_i i hi
    injection e with e1 e2
    subst e1; subst e2
    have hm : i ∈ T.free := List.mem_of_getLast? hi
    have hl := hlt i hm
    have hfr : T.free = T.free.dropLast ++ [i] := by
      obtain ⟨hne, hg⟩ := List.getLast?_eq_some_iff.1 hi
      rw [hg]; simp
    refine ⟨?_, fun j hj hjl => List.getElem?_set_ne (Ne.symm hj), List.dropLast_sublist _, ?_, .inl hm, by simp, by simp, by simpa using hl, rfl, rfl⟩
    · exact List.getElem?_set_self hl
    · rw [hfr, List.nodup_append] at hnd
      rw [List.nodup_cons]
      exact ⟨fun hc => hnd.2.2 i hc i (List.mem_singleton.2 rfl) rfl, hnd.1⟩
  · rename_i hn
    injection e with e1 e2
    subst e1; subst e2
    have hf : T.free = [] := List.getLast?_eq_none_iff.1 hn
    refine ⟨by simp, fun j _ hjl => List.getElem?_append_left hjl, List.Sublist.refl _, by rw [hf]; simp, .inr rfl, by simp, by simp, by simp, rfl, rfl⟩
theorem leftN_tr (ps : List Pr) (ks : List Tr) : leftN ⟨ps, ks.map Tr.i⟩ = ⟨ps.take 2, (ks.take 3).map Tr.i⟩ := by
  unfold leftN
  split
  · rename_i h
    have : ks = [] := by simpa using h
    subst this
    rfl
  · rw [List.map_take]
theorem rightN_tr (ps : List Pr) (ks : List Tr) : rightN ⟨ps, ks.map Tr.i⟩ = ⟨ps.drop 3, (ks.drop 3).map Tr.i⟩ := by
  unfold rightN
  split
  · rename_i h
    have : ks = [] := by simpa using h
    subst this
    rfl
  · rw [List.map_drop]
/-- A node of parts of another one's kids. -/
theorem lay_part {N N' : List Nd} {h : Nat} {c : Tr} (hl : Lay N h c) {j : Nat} {ps : List Pr} {A : List Tr} (hA : ∀ k ∈ A, k ∈ c.ks) (hn : N'[j]? = some ⟨ps, A.map Tr.i⟩) (hlen : h ≠ 0 → A.length = ps.length + 1) (hf : ∀ x ∈ ids h c, x ≠ c.i → N'[x]? = N[x]?) (hnd : (ids h c).Nodup) : Lay N' h (.node j ps A) := by
  cases h with
  | zero =>
    have hc : c.ks = [] := hl.1
    have : A = [] := List.eq_nil_iff_forall_not_mem.2 fun k hk => by have := hA k hk; rw [hc] at this; cases this
    subst this
    exact ⟨rfl, hn⟩
  | succ h =>
    refine ⟨hlen (by omega), hn, fun k hk => (hl.2.2 k (hA k hk)).frame fun x hx => hf x (List.mem_cons_of_mem _ (kid_ids (hA k hk) hx)) fun e => ?_⟩
    have := (List.nodup_cons.1 (show (c.i :: idl h c.ks).Nodup from hnd)).1
    exact this (e ▸ kid_ids (hA k hk) hx)
theorem siz_part {h lo : Nat} {c : Tr} (hs : Siz h lo c) {j : Nat} {ps : List Pr} {A : List Tr} (hA : ∀ k ∈ A, k ∈ c.ks) {lo' : Nat} (h1 : lo' ≤ ps.length) (h2 : ps.length ≤ 5) : Siz h lo' (.node j ps A) := by
  cases h with
  | zero => exact ⟨h1, h2⟩
  | succ h => exact ⟨h1, h2, fun k hk => hs.2.2 k (hA k hk)⟩
theorem ids_parts (h j : Nat) (c : Tr) (ps ps' : List Pr) (k : Nat) : (ids h (.node c.i ps (c.ks.take k)) ++ ids h (.node j ps' (c.ks.drop k))).Perm (j :: ids h c) := by
  cases h with
  | zero => exact List.Perm.swap _ _ _
  | succ h =>
    show (c.i :: idl h (c.ks.take k) ++ j :: idl h (c.ks.drop k)).Perm (j :: c.i :: idl h c.ks)
    refine (List.perm_middle).trans ?_
    rw [List.cons_append, ← idl_app, List.take_append_drop]
theorem flat_parts {N : List Nd} {h i j : Nat} {c : Tr} {up : Pr} (hl : Lay N h c) (h5 : c.ps.length = 5) (hup : c.ps[2]? = some up) : flat h c = flat h (.node i (c.ps.take 2) (c.ks.take 3)) ++ up :: flat h (.node j (c.ps.drop 3) (c.ks.drop 3)) := by
  have e : c.ps = c.ps.take 2 ++ up :: c.ps.drop 3 := by
    obtain ⟨h1, h2⟩ := List.getElem?_eq_some_iff.1 hup
    rw [← h2, ← List.drop_eq_getElem_cons h1, List.take_append_drop]
  cases h with
  | zero => exact e
  | succ h =>
    show inter (c.ks.map (flat h)) c.ps = inter ((c.ks.take 3).map (flat h)) (c.ps.take 2) ++ up :: inter ((c.ks.drop 3).map (flat h)) (c.ps.drop 3)
    have hk := hl.1
    rw [← inter_join up (by simp; omega) (by simp; omega), ← List.map_append, List.take_append_drop, ← e]
theorem split_good {T : TS} {h lo i q : Nat} {ps : List Pr} {K1 K2 : List Tr} {c : Tr} {up : Pr} (g : Gd T (h + 1) lo (.node i ps (K1 ++ c :: K2))) (hq : K1.length = q) (h5 : c.ps.length = 5) (hp : ps.length < 5) (hup : c.ps[2]? = some up) :
    ∃ r, Gd (splitT T i q c.i ⟨ps, (K1 ++ c :: K2).map Tr.i⟩ ⟨c.ps, c.ks.map Tr.i⟩ up) (h + 1) lo (.node i (ps.take q ++ up :: ps.drop q) (K1 ++ .node c.i (c.ps.take 2) (c.ks.take 3) :: .node r (c.ps.drop 3) (c.ks.drop 3) :: K2))
      ∧ Step T (h + 1) (.node i ps (K1 ++ c :: K2)) (splitT T i q c.i ⟨ps, (K1 ++ c :: K2).map Tr.i⟩ ⟨c.ps, c.ks.map Tr.i⟩ up) (h + 1) (.node i (ps.take q ++ up :: ps.drop q) (K1 ++ .node c.i (c.ps.take 2) (c.ks.take 3) :: .node r (c.ps.drop 3) (c.ks.drop 3) :: K2))
      ∧ flat (h + 1) (.node i (ps.take q ++ up :: ps.drop q) (K1 ++ .node c.i (c.ps.take 2) (c.ks.take 3) :: .node r (c.ps.drop 3) (c.ks.drop 3) :: K2)) = flat (h + 1) (.node i ps (K1 ++ c :: K2))
      ∧ (splitT T i q c.i ⟨ps, (K1 ++ c :: K2).map Tr.i⟩ ⟨c.ps, c.ks.map Tr.i⟩ up).nodes.length ≤ T.nodes.length + 1
      ∧ (splitT T i q c.i ⟨ps, (K1 ++ c :: K2).map Tr.i⟩ ⟨c.ps, c.ks.map Tr.i⟩ up).count = T.count := by
  obtain ⟨hlay, hsiz, hnd, hlt⟩ := g
  have hkl : (K1 ++ c :: K2).length = ps.length + 1 := hlay.1
  have hkl2 : K1.length + (K2.length + 1) = ps.length + 1 := by simpa using hkl
  have hmc : c ∈ K1 ++ c :: K2 := by simp
  have hlc : Lay T.nodes h c := hlay.2.2 c hmc
  have hsc : Siz h 2 c := hsiz.2.2 c hmc
  have hni : T.nodes[i]? = some ⟨ps, (K1 ++ c :: K2).map Tr.i⟩ := hlay.2.1
  rw [ids_succ, idl_app, idl_cons] at hnd hlt
  have hndf : T.free.Nodup := (List.nodup_append.1 hnd).2.1
  have hndc : (ids h c).Nodup := by
    have h1 := (List.nodup_append.1 hnd).1
    have h2 := (List.nodup_cons.1 h1).2
    exact (List.nodup_append.1 (List.nodup_append.1 h2).2.1).1
  have hci : c.i ∈ ids h c := ids_self h c
  have hil : i < T.nodes.length := hlt i (by simp)
  have hcl : c.i < T.nodes.length := hlt c.i (by simp [hci])
  have hcne : c.i ≠ i := by grind
  obtain ⟨T2, r, hadd⟩ : ∃ T2 r, addL (T.setN c.i (leftN ⟨c.ps, c.ks.map Tr.i⟩)) (rightN ⟨c.ps, c.ks.map Tr.i⟩) = (T2, r) := ⟨_, _, rfl⟩
  have hlen0 : (T.setN c.i (leftN ⟨c.ps, c.ks.map Tr.i⟩)).nodes.length = T.nodes.length := List.length_set
  obtain ⟨a1, a2, a3, a4, a5, a6, a7, a8, a9, a10⟩ := addL_spec hadd hndf (fun x hx => by rw [hlen0]; exact hlt x (List.mem_append_right _ hx))
  rw [hlen0] at a2 a5 a6 a7
  replace a5 : r ∈ T.free ∨ r = T.nodes.length := a5
  replace a3 : T2.free.Sublist T.free := a3
  have hrn : r ∉ i :: (idl h K1 ++ (ids h c ++ idl h K2)) := fun hm => by
    rcases a5 with h1 | h1
    · exact (List.nodup_append.1 hnd).2.2 r hm r h1 rfl
    · have := hlt r (List.mem_append_left _ hm); omega
  have hri : r ≠ i := fun e => hrn (by simp [e])
  have hrc : r ≠ c.i := fun e => hrn (by simp [e, hci])
  have hsp : splitT T i q c.i ⟨ps, (K1 ++ c :: K2).map Tr.i⟩ ⟨c.ps, c.ks.map Tr.i⟩ up = T2.setN i ⟨ps.take q ++ up :: ps.drop q, ((K1 ++ c :: K2).map Tr.i).take (q + 1) ++ r :: ((K1 ++ c :: K2).map Tr.i).drop (q + 1)⟩ := by
    unfold splitT
    rw [hadd]
  have hks : ((K1 ++ c :: K2).map Tr.i).take (q + 1) ++ r :: ((K1 ++ c :: K2).map Tr.i).drop (q + 1) = (K1 ++ .node c.i (c.ps.take 2) (c.ks.take 3) :: .node r (c.ps.drop 3) (c.ks.drop 3) :: K2).map Tr.i := by
    have e1 : (K1 ++ c :: K2).map Tr.i = (K1.map Tr.i ++ [c.i]) ++ K2.map Tr.i := by simp
    have e2 : (K1.map Tr.i ++ [c.i]).length = q + 1 := by simp [hq]
    rw [e1, List.take_left' e2, List.drop_left' e2]
    simp [Tr.i]
  rw [hks] at hsp
  rw [hsp]
  refine ⟨r, ?_⟩
  generalize hl : Tr.node c.i (c.ps.take 2) (c.ks.take 3) = l at *
  generalize hr : Tr.node r (c.ps.drop 3) (c.ks.drop 3) = rr at *
  have hpl : ps.take q ++ up :: ps.drop q = ps.take q ++ (up :: ps.drop q) := rfl
  have hplen : (ps.take q ++ up :: ps.drop q).length = ps.length + 1 := by simp; omega
  have hN : ∀ j, j ≠ i → j ≠ r → j ≠ c.i → j < T.nodes.length → (T2.nodes.set i ⟨ps.take q ++ up :: ps.drop q, (K1 ++ l :: rr :: K2).map Tr.i⟩)[j]? = T.nodes[j]? := fun j h1 h2 h3 h4 => by
    rw [List.getElem?_set_ne (Ne.symm h1), a2 j h2 h4]
    exact List.getElem?_set_ne (Ne.symm h3)
  have hperm : (ids h l ++ ids h rr).Perm (r :: ids h c) := by rw [← hl, ← hr]; exact ids_parts h r c _ _ 3
  have hidp : (ids (h + 1) (.node i (ps.take q ++ up :: ps.drop q) (K1 ++ l :: rr :: K2))).Perm (r :: (i :: (idl h K1 ++ (ids h c ++ idl h K2)))) := by
    rw [ids_succ, idl_app, idl_cons, idl_cons]
    refine List.Perm.trans ?_ (List.Perm.swap _ _ _)
    refine List.Perm.cons _ ?_
    rw [← List.append_assoc (ids h l)]
    refine ((hperm.append_right _).append_left _).trans ?_
    rw [List.cons_append]
    exact List.perm_middle
  have hflat : flat h c = flat h l ++ up :: flat h rr := by rw [← hl, ← hr]; exact flat_parts hlc h5 hup
  refine ⟨⟨⟨?_, ?_, ?_⟩, ⟨?_, ?_, ?_⟩, ?_, ?_⟩, ⟨a9, ?_, ?_, ?_⟩, ?_, ?_, a10⟩
  · show (K1 ++ l :: rr :: K2).length = (ps.take q ++ up :: ps.drop q).length + 1
    rw [hplen]; simp; omega
  · exact List.getElem?_set_self (by omega)
  · intro k hk
    have hfr : ∀ k ∈ K1 ++ c :: K2, k ∈ K1 ∨ k ∈ K2 → Lay (T2.setN i ⟨ps.take q ++ up :: ps.drop q, (K1 ++ l :: rr :: K2).map Tr.i⟩).nodes h k := fun k hk hk' => (hlay.2.2 k hk).frame fun j hj => by
      have hjm : j ∈ idl h K1 ∨ j ∈ idl h K2 := by
        rcases hk' with h1 | h1
        · exact .inl (kid_ids h1 hj)
        · exact .inr (kid_ids h1 hj)
      have hj1 : j ∈ i :: (idl h K1 ++ (ids h c ++ idl h K2)) := by rcases hjm with h1 | h1 <;> simp [h1]
      refine hN j ?_ (fun e => hrn (e ▸ hj1)) ?_ (hlt j (List.mem_append_left _ hj1))
      · clear hperm hidp hN hrn; grind
      · clear hperm hidp hN hrn; grind
    have hgc : ∀ x ∈ ids h c, x ≠ c.i → (T2.setN i ⟨ps.take q ++ up :: ps.drop q, (K1 ++ l :: rr :: K2).map Tr.i⟩).nodes[x]? = T.nodes[x]? := fun x hx hxc => by
      have hj1 : x ∈ i :: (idl h K1 ++ (ids h c ++ idl h K2)) := by simp [hx]
      refine hN x ?_ (fun e => hrn (e ▸ hj1)) hxc (hlt x (List.mem_append_left _ hj1))
      clear hperm hidp hN hrn; grind
    rcases List.mem_append.1 (show k ∈ K1 ++ l :: rr :: K2 from hk) with h1 | h1
    · exact hfr k (by simp [h1]) (.inl h1)
    · rcases List.mem_cons.1 h1 with rfl | h1
      · refine Eq.mp (congrArg (Lay _ h) hl) (lay_part hlc (fun k hk => List.mem_of_mem_take hk) ?_ (fun h0 => ?_) hgc hndc)
        · show (T2.nodes.set i _)[c.i]? = _
          rw [List.getElem?_set_ne (Ne.symm hcne), a2 c.i (Ne.symm hrc) hcl]
          rw [← leftN_tr]
          exact List.getElem?_set_self hcl
        · cases h with
          | zero => exact absurd rfl h0
          | succ h => have := hlc.1; simp; omega
      · rcases List.mem_cons.1 h1 with rfl | h1
        · refine Eq.mp (congrArg (Lay _ h) hr) (lay_part hlc (fun k hk => List.mem_of_mem_drop hk) ?_ (fun h0 => ?_) hgc hndc)
          · show (T2.nodes.set i _)[r]? = _
            rw [List.getElem?_set_ne (Ne.symm hri), a1, rightN_tr]
          · cases h with
            | zero => exact absurd rfl h0
            | succ h => have := hlc.1; simp; omega
        · exact hfr k (by simp [h1]) (.inr h1)
  · show lo ≤ (ps.take q ++ up :: ps.drop q).length
    rw [hplen]; have : lo ≤ ps.length := hsiz.1; omega
  · show (ps.take q ++ up :: ps.drop q).length ≤ 5
    rw [hplen]; omega
  · intro k hk
    rcases List.mem_append.1 (show k ∈ K1 ++ l :: rr :: K2 from hk) with h1 | h1
    · exact hsiz.2.2 k (List.mem_append_left _ h1)
    · rcases List.mem_cons.1 h1 with rfl | h1
      · rw [← hl]; exact siz_part hsc (fun k hk => List.mem_of_mem_take hk) (by simp; omega) (by simp; omega)
      · rcases List.mem_cons.1 h1 with rfl | h1
        · rw [← hr]; exact siz_part hsc (fun k hk => List.mem_of_mem_drop hk) (by simp; omega) (by simp; omega)
        · exact hsiz.2.2 k (List.mem_append_right _ (List.mem_cons_of_mem _ h1))
  · refine ((hidp.append_right T2.free).nodup_iff).2 ?_
    show (r :: (i :: (idl h K1 ++ (ids h c ++ idl h K2)) ++ T2.free)).Nodup
    rw [List.nodup_cons]
    refine ⟨fun hm => ?_, hnd.sublist (List.Sublist.append_left a3 _)⟩
    rcases List.mem_append.1 hm with h1 | h1
    · exact hrn h1
    · exact (List.nodup_cons.1 a4).1 h1
  · intro x hx
    show x < (T2.nodes.set i _).length
    rw [List.length_set]
    rcases List.mem_append.1 hx with h1 | h1
    · rcases List.mem_cons.1 (hidp.subset h1) with rfl | h1
      · exact a8
      · exact Nat.lt_of_lt_of_le (hlt x (List.mem_append_left _ h1)) a6
    · exact Nat.lt_of_lt_of_le (hlt x (List.mem_append_right _ (a3.subset h1))) a6
  · intro j hj h1 h2
    rw [ids_succ, idl_app, idl_cons] at h1
    refine hN j (fun e => h1 (by simp [e])) (fun e => ?_) (fun e => h1 (by simp [e, hci])) hj
    subst e
    rcases a5 with h3 | h3
    · exact h2 h3
    · omega
  · intro x hx
    rw [ids_succ h i, idl_app, idl_cons]
    rcases List.mem_append.1 hx with h1 | h1
    · rcases List.mem_cons.1 (hidp.subset h1) with rfl | h1
      · rcases a5 with h3 | h3
        · exact .inl (List.mem_append_right _ h3)
        · exact .inr (by omega)
      · exact .inl (List.mem_append_left _ h1)
    · exact .inl (List.mem_append_right _ (a3.subset h1))
  · show T.nodes.length ≤ (T2.nodes.set i _).length
    rw [List.length_set]; exact a6
  · show inter ((K1 ++ l :: rr :: K2).map (flat h)) (ps.take q ++ up :: ps.drop q) = inter ((K1 ++ c :: K2).map (flat h)) ps
    have e1 := inter_split (K1 := K1.map (flat h)) (A := ps.take q) (flat h l) ((rr :: K2).map (flat h)) (up :: ps.drop q) (by simp; omega)
    have e2 := inter_split (K1 := K1.map (flat h)) (A := ps.take q) (flat h c) (K2.map (flat h)) (ps.drop q) (by simp; omega)
    rw [List.take_append_drop] at e2
    have g1 : (K1 ++ l :: rr :: K2).map (flat h) = K1.map (flat h) ++ flat h l :: (rr :: K2).map (flat h) := by simp
    have g2 : (K1 ++ c :: K2).map (flat h) = K1.map (flat h) ++ flat h c :: K2.map (flat h) := by simp
    rw [g1, g2, e1, e2, hflat]
    simp [suf]
  · show (T2.nodes.set i _).length ≤ _
    rw [List.length_set]; exact a7
end Go.Proofs.Ytbmpdccoffkjgaa.Ow
namespace Go.Proofs.Ytbmpdccoffkjgaa.Ow
open Go
set_option linter.unusedVariables false
theorem Gd.kid {T : TS} {h lo i : Nat} {ps : List Pr} {K1 K2 : List Tr} {c : Tr} (g : Gd T (h + 1) lo (.node i ps (K1 ++ c :: K2))) : Gd T h 2 c := by
  have hm : c ∈ K1 ++ c :: K2 := by simp
  have hsub : (ids h c).Sublist (ids (h + 1) (.node i ps (K1 ++ c :: K2))) := by
    rw [ids_succ, idl_app, idl_cons]
    exact List.Sublist.cons _ ((List.sublist_append_left _ _).trans (List.sublist_append_right _ _))
  exact ⟨g.lay.2.2 c hm, g.siz.2.2 c hm, g.nd.sublist (hsub.append_right _), fun x hx => g.lt x ((hsub.append_right _).subset hx)⟩
/-- A step at a kid is one at its node. -/
theorem up_good {T T' : TS} {h lo i : Nat} {ps : List Pr} {K1 K2 : List Tr} {c c' : Tr} (g : Gd T (h + 1) lo (.node i ps (K1 ++ c :: K2))) (g' : Gd T' h 2 c') (s : Step T h c T' h c') (hi : c'.i = c.i) :
    Gd T' (h + 1) lo (.node i ps (K1 ++ c' :: K2)) ∧ Step T (h + 1) (.node i ps (K1 ++ c :: K2)) T' (h + 1) (.node i ps (K1 ++ c' :: K2)) := by
  obtain ⟨hlay, hsiz, hnd, hlt⟩ := g
  rw [ids_succ, idl_app, idl_cons] at hnd hlt
  have hp0 : (i :: (idl h K1 ++ (ids h c ++ idl h K2))).Perm ((i :: (idl h K1 ++ idl h K2)) ++ ids h c) := by
    rw [List.cons_append]
    refine List.Perm.cons _ ?_
    rw [List.append_assoc]
    exact (List.perm_append_comm).append_left _
  have hp1 : (ids (h + 1) (.node i ps (K1 ++ c' :: K2))).Perm ((i :: (idl h K1 ++ idl h K2)) ++ ids h c') := by
    rw [ids_succ, idl_app, idl_cons, List.cons_append]
    refine List.Perm.cons _ ?_
    rw [List.append_assoc]
    exact (List.perm_append_comm).append_left _
  have hn2 : ((i :: (idl h K1 ++ idl h K2)) ++ (ids h c ++ T.free)).Nodup := by
    rw [← List.append_assoc]; exact (hp0.append_right _).nodup_iff.1 hnd
  obtain ⟨n1, n2, n3⟩ := List.nodup_append.1 hn2
  have hlt1 : ∀ x ∈ i :: (idl h K1 ++ idl h K2), x < T.nodes.length := fun x hx => hlt x (List.mem_append_left _ (hp0.symm.subset (List.mem_append_left _ hx)))
  have hN : ∀ j ∈ i :: (idl h K1 ++ idl h K2), T'.nodes[j]? = T.nodes[j]? := fun j hj => s.fr j (hlt1 j hj) (fun hc => n3 j hj j (List.mem_append_left _ hc) rfl) (fun hc => n3 j hj j (List.mem_append_right _ hc) rfl)
  have hks : (K1 ++ c' :: K2).map Tr.i = (K1 ++ c :: K2).map Tr.i := by simp [hi]
  refine ⟨⟨⟨?_, ?_, ?_⟩, ⟨hsiz.1, hsiz.2.1, ?_⟩, ?_, ?_⟩, ⟨s.root, ?_, ?_, s.len⟩⟩
  · have : (K1 ++ c :: K2).length = ps.length + 1 := hlay.1
    show (K1 ++ c' :: K2).length = ps.length + 1
    simpa using this
  · show T'.nodes[i]? = some ⟨ps, (K1 ++ c' :: K2).map Tr.i⟩
    rw [hN i (List.mem_cons_self ..), hks]
    exact hlay.2.1
  · intro k hk
    have hf : ∀ k, (k ∈ K1 ∨ k ∈ K2) → Lay T'.nodes h k := fun k hk => (hlay.2.2 k (by rcases hk with hk | hk <;> simp [Tr.ks, hk])).frame fun j hj => hN j (List.mem_cons_of_mem _ (by
      rcases hk with hk | hk
      · exact List.mem_append_left _ (kid_ids hk hj)
      · exact List.mem_append_right _ (kid_ids hk hj)))
    rcases List.mem_append.1 (show k ∈ K1 ++ c' :: K2 from hk) with h1 | h1
    · exact hf k (.inl h1)
    · rcases List.mem_cons.1 h1 with rfl | h1
      · exact g'.lay
      · exact hf k (.inr h1)
  · intro k hk
    rcases List.mem_append.1 (show k ∈ K1 ++ c' :: K2 from hk) with h1 | h1
    · exact hsiz.2.2 k (List.mem_append_left _ h1)
    · rcases List.mem_cons.1 h1 with rfl | h1
      · exact g'.siz
      · exact hsiz.2.2 k (List.mem_append_right _ (List.mem_cons_of_mem _ h1))
  · refine ((hp1.append_right _).nodup_iff).2 ?_
    rw [List.append_assoc, List.nodup_append]
    refine ⟨n1, g'.nd, fun x hx y hy e => ?_⟩
    subst e
    rcases s.new x hy with h1 | h1
    · exact n3 x hx x h1 rfl
    · have := hlt1 x hx; omega
  · intro x hx
    rcases List.mem_append.1 ((hp1.append_right _).subset hx) with h1 | h1
    · rcases List.mem_append.1 h1 with h1 | h1
      · exact Nat.lt_of_lt_of_le (hlt1 x h1) s.len
      · exact g'.lt x (List.mem_append_left _ h1)
    · exact g'.lt x (List.mem_append_right _ h1)
  · intro j hj h1 h2
    rw [ids_succ, idl_app, idl_cons] at h1
    exact s.fr j hj (fun hc => h1 (by simp [hc])) h2
  · intro x hx
    rw [ids_succ h i ps (K1 ++ c :: K2), idl_app, idl_cons]
    rcases List.mem_append.1 ((hp1.append_right _).subset hx) with h1 | h1
    · rcases List.mem_append.1 h1 with h1 | h1
      · exact .inl (List.mem_append_left _ (hp0.symm.subset (List.mem_append_left _ h1)))
      · rcases s.new x (List.mem_append_left _ h1) with h3 | h3
        · rcases List.mem_append.1 h3 with h3 | h3
          · exact .inl (List.mem_append_left _ (by simp [h3]))
          · exact .inl (List.mem_append_right _ h3)
        · exact .inr h3
    · rcases s.new x (List.mem_append_right _ h1) with h3 | h3
      · rcases List.mem_append.1 h3 with h3 | h3
        · exact .inl (List.mem_append_left _ (by simp [h3]))
        · exact .inl (List.mem_append_right _ h3)
      · exact .inr h3
/-- A node's keys are other ones; its kids stay. -/
theorem set_good {T : TS} {h lo lo' i : Nat} {ps ps' : List Pr} {ks : List Tr} (g : Gd T h lo (.node i ps ks)) (hl : h ≠ 0 → ps'.length = ps.length) (h1 : lo' ≤ ps'.length) (h5 : ps'.length ≤ 5) (n : Nat) :
    Gd ⟨T.nodes.set i ⟨ps', ks.map Tr.i⟩, T.free, T.root, n⟩ h lo' (.node i ps' ks) ∧ Step T h (.node i ps ks) ⟨T.nodes.set i ⟨ps', ks.map Tr.i⟩, T.free, T.root, n⟩ h (.node i ps' ks) := by
  have hids : ids h (.node i ps' ks) = ids h (.node i ps ks) := by cases h <;> rfl
  obtain ⟨hlay, hsiz, hnd, hlt⟩ := g
  have hi : i ∈ ids h (.node i ps ks) := ids_self h (.node i ps ks)
  have hil : i < T.nodes.length := hlt i (List.mem_append_left _ hi)
  have hN : ∀ j, j ≠ i → (T.nodes.set i ⟨ps', ks.map Tr.i⟩)[j]? = T.nodes[j]? := fun j hj => List.getElem?_set_ne (Ne.symm hj)
  refine ⟨⟨?_, ?_, by rw [hids]; exact hnd, fun x hx => by rw [hids] at hx; show x < (T.nodes.set i _).length; rw [List.length_set]; exact hlt x hx⟩, ⟨rfl, fun j hj h1 h2 => hN j (fun e => h1 (e ▸ hi)), fun x hx => by rw [hids] at hx; exact .inl hx, by show _ ≤ (T.nodes.set i _).length; rw [List.length_set]; exact Nat.le_refl _⟩⟩
  · cases h with
    | zero =>
      have hk : ks = [] := hlay.1
      subst hk
      exact ⟨rfl, List.getElem?_set_self hil⟩
    | succ h =>
      refine ⟨by rw [show (Tr.node i ps' ks).ps.length = ps.length from hl (by omega)]; exact hlay.1, List.getElem?_set_self hil, fun k hk => (hlay.2.2 k hk).frame fun j hj => hN j fun e => ?_⟩
      have h2 := (List.nodup_append.1 hnd).1
      rw [ids_succ, List.nodup_cons] at h2
      exact h2.1 (e ▸ kid_ids hk hj)
  · cases h with
    | zero => exact ⟨h1, h5⟩
    | succ h => exact ⟨h1, h5, hsiz.2.2⟩
/-- What stands at both sides of a node's key. -/
theorem sep_cut {K : List (List Pr)} {B : List Pr} {q : Nat} {p : Pr} {c c2 : List Pr} (hl : K.length = B.length + 1) (hp : B[q]? = some p) (hc : K[q]? = some c) (hc2 : K[q + 1]? = some c2) (p' : Pr) :
    inter K (B.set q p') = (pre (K.take q) (B.take q) ++ c) ++ p' :: (c2 ++ suf (B.drop (q + 1)) (K.drop (q + 2))) := by
  obtain ⟨f1, f2⟩ := List.getElem?_eq_some_iff.1 hp
  obtain ⟨g1, g2⟩ := List.getElem?_eq_some_iff.1 hc
  obtain ⟨k1, k2⟩ := List.getElem?_eq_some_iff.1 hc2
  have e1 : K = K.take q ++ c :: c2 :: K.drop (q + 2) := by
    rw [← k2, ← List.drop_eq_getElem_cons k1, ← g2, ← List.drop_eq_getElem_cons g1, List.take_append_drop]
  have e2 : B.set q p' = B.take q ++ p' :: B.drop (q + 1) := by rw [List.set_eq_take_append_cons_drop, if_pos f1]
  have := inter_split (K1 := K.take q) (A := B.take q) c (c2 :: K.drop (q + 2)) (p' :: B.drop (q + 1)) (by rw [List.length_take, List.length_take]; omega)
  rw [← e1, ← e2] at this
  rw [this]
  simp [suf]
theorem flat_set {N : List Nd} {h : Nat} {t : Tr} {q : Nat} {p : Pr} (hl : Lay N h t) (hp : t.ps[q]? = some p) : ∃ X Y, ∀ p', flat h (.node t.i (t.ps.set q p') t.ks) = X ++ p' :: Y := by
  obtain ⟨f1, f2⟩ := List.getElem?_eq_some_iff.1 hp
  cases h with
  | zero => exact ⟨t.ps.take q, t.ps.drop (q + 1), fun p' => by show t.ps.set q p' = _; rw [List.set_eq_take_append_cons_drop, if_pos f1]⟩
  | succ h =>
    have hk : (t.ks.map (flat h)).length = t.ps.length + 1 := by rw [List.length_map]; exact hl.1
    obtain ⟨c, hc⟩ : ∃ c, (t.ks.map (flat h))[q]? = some c := ⟨_, List.getElem?_eq_getElem (by omega)⟩
    obtain ⟨c2, hc2⟩ : ∃ c, (t.ks.map (flat h))[q + 1]? = some c := ⟨_, List.getElem?_eq_getElem (by omega)⟩
    exact ⟨_, _, fun p' => sep_cut hk hp hc hc2 p'⟩
theorem mid_sides {X Y : List Pr} {p : Pr} (hs : Srt (X ++ p :: Y)) : Below' X p.key ∧ Above Y p.key := by
  obtain ⟨_, h2, h3⟩ := hs.app
  exact ⟨fun x hx => h3 x hx p (List.mem_cons_self ..), fun y hy => (List.pairwise_cons.1 h2).1 y hy⟩
theorem hasK_at {X Y : List Pr} {p : Pr} : hasK (X ++ p :: Y) p.key = true := by rw [hasK_append, hasK_cons]; simp
def PutOk (k v : ByteArray) (n : Nat) (T : TS) (h lo : Nat) (t : Tr) : Prop := ∃ m T' t', PutR k v m T t.i T' (!hasK (flat h t) k) ∧ Gd T' h lo t' ∧ Step T h t T' h t' ∧ t'.i = t.i ∧ flat h t' = putS (flat h t) k v ∧ T'.count = T.count + (if hasK (flat h t) k then 0 else 1) ∧ T'.nodes.length ≤ T.nodes.length + n
theorem PutOk.mono {k v : ByteArray} {n n' : Nat} {T : TS} {h lo : Nat} {t : Tr} (hp : PutOk k v n T h lo t) (hn : n ≤ n') : PutOk k v n' T h lo t := by
  obtain ⟨m, T', t', h1, h2, h3, h4, h5, h6, h7⟩ := hp
  exact ⟨m, T', t', h1, h2, h3, h4, h5, h6, by omega⟩
theorem ks_len {N : List Nd} {h lo : Nat} {t : Tr} (hl : Lay N h t) (hs : Siz h lo t) : (t.ks.map Tr.i).length ≤ 6 := by
  rw [List.length_map]
  have := hs.le
  cases h with
  | zero => rw [hl.1]; simp
  | succ h => rw [hl.1]; omega
theorem put_hit {k v : ByteArray} {n : Nat} {T : TS} {h lo : Nat} {t : Tr} (g : Gd T h lo t) (hs : Srt (flat h t)) (hb : T.nodes.length ≤ 549755813888) (hc : T.count ≤ 549755813888) (hk : hasK t.ps k = true) : PutOk k v n T h lo t := by
  obtain ⟨i, ps, ks⟩ := t
  have hsp : Srt ps := hs.sub (flat_ps g.lay)
  obtain ⟨p, hp, hpk⟩ := hasK_get hsp hk
  have hlen : (ps.set (posK ps k) ⟨p.key, v⟩).length = ps.length := List.length_set
  obtain ⟨g', s'⟩ := set_good (ps' := ps.set (posK ps k) ⟨p.key, v⟩) g (fun _ => hlen) (by rw [hlen]; exact g.siz.ge) (by rw [hlen]; exact g.siz.le) T.count
  obtain ⟨X, Y, hXY⟩ := flat_set g.lay hp
  have e0 : flat h (.node i ps ks) = X ++ p :: Y := by
    have := hXY p
    rw [show (Tr.node i ps ks).ps.set (posK ps k) p = ps from set_id hp] at this
    exact this
  have hsd := mid_sides (e0 ▸ hs)
  have hh : hasK (flat h (.node i ps ks)) k = true := by rw [e0, ← hpk]; exact hasK_at
  refine ⟨1, _, _, ⟨ps, ks.map Tr.i, g.lay.at, hsp, g.siz.le, ks_len g.lay g.siz, by omega, hc, fun x hx => ⟨g.lt x (List.mem_append_right _ hx), fun e => ?_⟩, .inl ⟨p, hk, hp, rfl, by rw [hh]; rfl⟩⟩, g', s', rfl, ?_, ?_, by show (T.nodes.set i _).length ≤ _; rw [List.length_set]; omega⟩
  · exact (List.nodup_append.1 g.nd).2.2 i (ids_self h (.node i ps ks)) x hx e.symm
  · have h1 := hXY ⟨p.key, v⟩
    rw [show flat h (.node i (ps.set (posK ps k) ⟨p.key, v⟩) ks) = X ++ ⟨p.key, v⟩ :: Y from h1, e0]
    have h2 := putS_mid (A := X) (M := [p]) (B := Y) v (hpk ▸ hsd.1) (hpk ▸ hsd.2)
    rw [← hpk, putS_one, hpk] at h2
    simpa [hpk] using h2.symm
  · rw [hh]; rfl
/-- The way down through a child that is not full. -/
theorem put_down {k v : ByteArray} {T : TS} {h lo : Nat} {t : Tr} (ih : ∀ c, Gd T h 2 c → Srt (flat h c) → c.ps.length < 5 → PutOk k v h T h 2 c) (g : Gd T (h + 1) lo t) (hs : Srt (flat (h + 1) t)) (hb : T.nodes.length + h + 1 ≤ 549755813888) (hc : T.count ≤ 549755813888)
    (hf : hasK t.ps k = false → ∀ c, t.ks[posK t.ps k]? = some c → c.ps.length < 5) : PutOk k v h T (h + 1) lo t := by
  cases hk : hasK t.ps k with
  | true => 
    obtain ⟨m, T', t', h1, h2, h3, h4, h5, h6, h7⟩ := put_hit (v := v) g hs (by omega) hc hk
    exact ⟨m, T', t', h1, h2, h3, h4, h5, h6, h7⟩
  | false =>
  obtain ⟨i, ps, ks⟩ := t
  have hsp : Srt ps := hs.sub (flat_ps g.lay)
  have hkl : ks.length = ps.length + 1 := g.lay.1
  obtain ⟨q, hq⟩ : ∃ q, q = posK ps k := ⟨_, rfl⟩
  have hqle : q ≤ ps.length := hq ▸ posK_le ps k
  obtain ⟨cf, h1, h2, h3, h4, _⟩ := node_cut (k := k) (show (ks.map (flat h)).length = ps.length + 1 by rw [List.length_map]; exact hkl) hs
  rw [← hq, List.getElem?_map] at h1
  obtain ⟨c, hcq, rfl⟩ := Option.map_eq_some_iff.1 h1
  obtain ⟨f1, f2⟩ := List.getElem?_eq_some_iff.1 hcq
  obtain ⟨K1, K2, rfl, hK1⟩ : ∃ K1 K2, ks = K1 ++ c :: K2 ∧ K1.length = q := ⟨ks.take q, ks.drop (q + 1), by rw [← f2, ← List.drop_eq_getElem_cons f1, List.take_append_drop], by rw [List.length_take]; omega⟩
  have gc := g.kid
  have hsc : Srt (flat h c) := hs.sub (flat_kid g.lay (by simp [Tr.ks]))
  have hcl : c.ps.length < 5 := hf hk c (hq ▸ hcq)
  obtain ⟨m, T', c', p1, p2, p3, p4, p5, p6, p7⟩ := ih c gc hsc hcl
  obtain ⟨g', s'⟩ := up_good g p2 p3 p4
  have hfl : flat (h + 1) (.node i ps (K1 ++ c :: K2)) = pre ((K1.map (flat h))) (ps.take q) ++ (flat h c ++ suf (ps.drop q) (K2.map (flat h))) := by
    have := inter_split (K1 := K1.map (flat h)) (A := ps.take q) (flat h c) (K2.map (flat h)) (ps.drop q) (by simp; omega)
    rw [List.take_append_drop] at this
    show inter ((K1 ++ c :: K2).map (flat h)) ps = _
    rw [List.map_append, List.map_cons]; exact this
  have hfl' : flat (h + 1) (.node i ps (K1 ++ c' :: K2)) = pre ((K1.map (flat h))) (ps.take q) ++ (flat h c' ++ suf (ps.drop q) (K2.map (flat h))) := by
    have := inter_split (K1 := K1.map (flat h)) (A := ps.take q) (flat h c') (K2.map (flat h)) (ps.drop q) (by simp; omega)
    rw [List.take_append_drop] at this
    show inter ((K1 ++ c' :: K2).map (flat h)) ps = _
    rw [List.map_append, List.map_cons]; exact this
  have hk2 : hasK (inter ((K1 ++ c :: K2).map (flat h)) ps) k = hasK (flat h c) k := by rw [h2]; exact hasK_mid h3 (h4 hk)
  have hA : Below' (pre ((K1.map (flat h))) (ps.take q)) k := by
    have : List.take (posK ps k) ((K1 ++ c :: K2).map (flat h)) = K1.map (flat h) := by rw [← hq, ← hK1, List.map_append, List.take_left' (by simp)]
    rw [this, ← hq] at h3; exact h3
  have hB : Above (suf (ps.drop q) (K2.map (flat h))) k := by
    have e : ((K1 ++ c :: K2).map (flat h)).drop (posK ps k + 1) = K2.map (flat h) := by
      rw [← hq, ← hK1, show K1 ++ c :: K2 = (K1 ++ [c]) ++ K2 by simp, List.map_append, List.drop_left' (by simp)]
    have := h4 hk
    rw [e, ← hq] at this; exact this
  refine ⟨m + 1, T', _, ⟨ps, (K1 ++ c :: K2).map Tr.i, g.lay.at, hsp, g.siz.le, ks_len g.lay g.siz, by omega, hc, fun x hx => ⟨g.lt x (List.mem_append_right _ hx), fun e => ?_⟩, .inr (.inr (.inr ⟨c.i, c.ps, c.ks.map Tr.i, hk, ?_, gc.lay.at, hcl, ?_⟩))⟩, g', s', rfl, ?_, ?_, by omega⟩
  · exact (List.nodup_append.1 g.nd).2.2 i (ids_self (h + 1) (.node i ps (K1 ++ c :: K2))) x hx e.symm
  · rw [← hq, List.getElem?_map, hcq]; rfl
  · show PutR k v m T c.i T' (!hasK (inter ((K1 ++ c :: K2).map (flat h)) ps) k)
    rw [hk2]; exact p1
  · rw [hfl', hfl, p5]
    have := putS_mid (A := pre ((K1.map (flat h))) (ps.take q)) (M := flat h c) (B := suf (ps.drop q) (K2.map (flat h))) v hA hB
    rw [List.append_assoc, List.append_assoc] at this
    exact this.symm
  · show T'.count = T.count + if hasK (inter ((K1 ++ c :: K2).map (flat h)) ps) k then 0 else 1
    rw [hk2]; exact p6
theorem put_leaf {k v : ByteArray} {T : TS} {lo : Nat} {t : Tr} (g : Gd T 0 lo t) (hs : Srt (flat 0 t)) (hb : T.nodes.length + 1 ≤ 549755813888) (hc : T.count ≤ 549755813888) (h5 : t.ps.length < 5) : PutOk k v 0 T 0 lo t := by
  cases hk : hasK t.ps k with
  | true => exact put_hit (v := v) g hs (by omega) hc hk
  | false =>
  obtain ⟨i, ps, ks⟩ := t
  have hk0 : ks = [] := g.lay.1
  subst hk0
  have hsp : Srt ps := hs
  have hlen : (ps.take (posK ps k) ++ ⟨k, v⟩ :: ps.drop (posK ps k)).length = ps.length + 1 := by
    rw [List.length_append, List.length_cons, ← Nat.add_assoc, ← List.length_append, List.take_append_drop]
  have hg : lo ≤ ps.length := g.siz.1
  have h5' : ps.length < 5 := h5
  obtain ⟨g', s'⟩ := set_good (ps' := ps.take (posK ps k) ++ ⟨k, v⟩ :: ps.drop (posK ps k)) g (fun h => absurd rfl h) (show lo ≤ _ by rw [hlen]; omega) (by rw [hlen]; omega) (T.count + 1)
  obtain ⟨c1, c2, _⟩ := cut3 hsp k
  have hh : hasK (flat 0 (.node i ps [])) k = false := hk
  refine ⟨1, _, _, ⟨ps, [], g.lay.at, hsp, g.siz.le, by simp, by omega, hc, fun x hx => ⟨g.lt x (List.mem_append_right _ hx), fun e => ?_⟩, .inr (.inl ⟨hk, rfl, rfl, by rw [hh]; rfl⟩)⟩, g', s', rfl, ?_, by rw [hh]; rfl, by show (T.nodes.set i _).length ≤ _; rw [List.length_set]; omega⟩
  · exact (List.nodup_append.1 g.nd).2.2 i (ids_self 0 (.node i ps [])) x hx e.symm
  · show ps.take (posK ps k) ++ ⟨k, v⟩ :: ps.drop (posK ps k) = putS ps k v
    have := putS_mid (A := ps.take (posK ps k)) (M := []) (B := ps.drop (posK ps k)) v c1 (c2 hk)
    rw [List.append_nil, List.take_append_drop, putS_nil] at this
    rw [this]; simp
theorem put_law {k v : ByteArray} : ∀ {h : Nat} {T : TS} {lo : Nat} {t : Tr}, Gd T h lo t → Srt (flat h t) → T.nodes.length + h + 1 ≤ 549755813888 → T.count ≤ 549755813888 → t.ps.length < 5 → PutOk k v h T h lo t
  | 0, T, lo, t, g, hs, hb, hc, h5 => put_leaf g hs hb hc h5
  | h + 1, T, lo, t, g, hs, hb, hc, h5 => by
    cases hk : hasK t.ps k with
    | true => exact put_hit (v := v) g hs (by omega) hc hk
    | false =>
    obtain ⟨i, ps, ks⟩ := t
    have hsp : Srt ps := hs.sub (flat_ps g.lay)
    have hkl : ks.length = ps.length + 1 := g.lay.1
    have h5' : ps.length < 5 := h5
    obtain ⟨q, hq⟩ : ∃ q, q = posK ps k := ⟨_, rfl⟩
    have hqle : q ≤ ps.length := hq ▸ posK_le ps k
    obtain ⟨c, hcq⟩ : ∃ c, ks[q]? = some c := ⟨_, List.getElem?_eq_getElem (by omega)⟩
    obtain ⟨f1, f2⟩ := List.getElem?_eq_some_iff.1 hcq
    have hcm : c ∈ ks := List.mem_of_getElem? hcq
    have hc5 : c.ps.length ≤ 5 := (g.siz.2.2 c hcm).le
    by_cases hcl : c.ps.length < 5
    · refine (put_down (fun c gc hsc hl => put_law gc hsc (by omega) hc hl) g hs (by omega) hc fun _ c' hc' => ?_).mono (Nat.le_succ h)
      have : ks[posK ps k]? = some c' := hc'
      rw [← hq, hcq] at this; injection this with this; subst this; exact hcl
    · have hc55 : c.ps.length = 5 := by omega
      obtain ⟨up, hup⟩ : ∃ up, c.ps[2]? = some up := ⟨_, List.getElem?_eq_getElem (by omega)⟩
      obtain ⟨K1, K2, rfl, hK1⟩ : ∃ K1 K2, ks = K1 ++ c :: K2 ∧ K1.length = q := ⟨ks.take q, ks.drop (q + 1), by rw [← f2, ← List.drop_eq_getElem_cons f1, List.take_append_drop], by rw [List.length_take]; omega⟩
      obtain ⟨r, g1, s1, fl1, ln1, ct1⟩ := split_good g hK1 hc55 h5' hup
      obtain ⟨T1, hT1⟩ : ∃ T1, T1 = splitT T i q c.i ⟨ps, (K1 ++ c :: K2).map Tr.i⟩ ⟨c.ps, c.ks.map Tr.i⟩ up := ⟨_, rfl⟩
      rw [← hT1] at g1 s1 ln1 ct1
      have hs1 := hs
      rw [← fl1] at hs1
      have hps1 : Srt (ps.take q ++ up :: ps.drop q) := hs1.sub (flat_ps g1.lay)
      have hpc := posK_split hsp k
      rw [← hq] at hpc
      have hd := put_down (k := k) (v := v) (fun c gc hsc hl => put_law gc hsc (by omega) (by omega) hl) g1 hs1 (by omega) (by omega) (fun hn c' hc' => by
        have hpos : posK (ps.take q ++ up :: ps.drop q) k = q ∨ posK (ps.take q ++ up :: ps.drop q) k = q + 1 := by
          have e1 : posK (ps.take q) k = q := by
            unfold posK; rw [List.countP_eq_length.2 hpc.1, List.length_take]; omega
          have e2 : posK (ps.drop q) k = 0 := by
            unfold posK; rw [List.countP_eq_zero]; intro p hp; simp [hpc.2 p hp]
          have e3 : posK (ps.take q ++ up :: ps.drop q) k = posK (ps.take q) k + ((if slt up.key k then 1 else 0) + posK (ps.drop q) k) := by
            unfold posK; rw [List.countP_append, List.countP_cons]; omega
          rw [e3, e1, e2]
          cases slt up.key k <;> simp
        have hlt : (K1 ++ Tr.node c.i (c.ps.take 2) (c.ks.take 3) :: Tr.node r (c.ps.drop 3) (c.ks.drop 3) :: K2)[posK (ps.take q ++ up :: ps.drop q) k]? = some c' := hc'
        rcases hpos with e | e
        · rw [e, List.getElem?_append_right (by omega), hK1, Nat.sub_self] at hlt
          injection hlt with hlt; subst hlt
          show (c.ps.take 2).length < 5
          rw [List.length_take]; omega
        · rw [e, List.getElem?_append_right (by omega), hK1, show q + 1 - q = 1 by omega] at hlt
          injection hlt with hlt; subst hlt
          show (c.ps.drop 3).length < 5
          rw [List.length_drop]; omega)
      obtain ⟨m, T', t', p1, p2, p3, p4, p5, p6, p7⟩ := hd
      rw [fl1] at p1 p5 p6
      have hgc := g.kid
      refine ⟨m + 1, T', t', ⟨ps, (K1 ++ c :: K2).map Tr.i, g.lay.at, hsp, g.siz.le, ks_len g.lay g.siz, by omega, hc, fun x hx => ⟨g.lt x (List.mem_append_right _ hx), fun e => ?_⟩, .inr (.inr (.inl ⟨c.i, c.ps, c.ks.map Tr.i, up, hk, ?_, hgc.lay.at, hc55, hup, ?_, ?_, ?_⟩))⟩, p2, s1.trans p3, p4, p5, by rw [p6, ct1], by omega⟩
      · exact (List.nodup_append.1 g.nd).2.2 i (ids_self (h + 1) (.node i ps (K1 ++ c :: K2))) x hx e.symm
      · rw [← hq, List.getElem?_map, hcq]; rfl
      · have hnd := (List.nodup_append.1 g.nd).1
        rw [ids_succ, List.nodup_cons] at hnd
        exact fun e => hnd.1 (by rw [show i = c.i from e.symm]; exact kid_ids (by simp) (ids_self h c))
      · have := hgc.lay
        cases h with
        | zero => left; rw [List.length_map, this.1]; rfl
        | succ h => right; rw [List.length_map, this.1]; omega
      · rw [← hq]; rw [hT1] at p1; exact p1
end Go.Proofs.Ytbmpdccoffkjgaa.Ow
