/- A tree is put into: what it holds then. -/
import Derived.Test.YtbmpdccoffkjgaaBtr
namespace Go.Proofs.Ytbmpdccoffkjgaa.Ow
open Go
set_option linter.unusedVariables false
def idl (h : Nat) (K : List Tr) : List Nat := K.flatMap (ids h)
theorem idl_app (h : Nat) (A B : List Tr) : idl h (A ++ B) = idl h A ++ idl h B := by simp [idl]
theorem idl_cons (h : Nat) (c : Tr) (B : List Tr) : idl h (c :: B) = ids h c ++ idl h B := rfl
theorem ids_succ (h i : Nat) (ps : List Pr) (ks : List Tr) : ids (h + 1) (.node i ps ks) = i :: idl h ks := rfl
theorem ids_self : ∀ (h : Nat) (t : Tr), t.i ∈ ids h t
  | 0, t => List.mem_singleton.2 rfl
  | h + 1, t => List.mem_cons_self ..
theorem kid_ids {h : Nat} {k : Tr} {K : List Tr} (hk : k ∈ K) {j : Nat} (hj : j ∈ ids h k) : j ∈ idl h K := List.mem_flatMap.2 ⟨k, hk, hj⟩
theorem Lay.frame {N N' : List Nd} : ∀ {h : Nat} {t : Tr}, Lay N h t → (∀ j ∈ ids h t, N'[j]? = N[j]?) → Lay N' h t
  | 0, t, hl, hf => ⟨hl.1, by rw [hf _ (ids_self 0 t)]; exact hl.2⟩
  | h + 1, t, hl, hf => ⟨hl.1, by rw [hf _ (ids_self (h + 1) t)]; exact hl.2.1, fun k hk => (hl.2.2 k hk).frame fun j hj => hf j (List.mem_cons_of_mem _ (kid_ids hk hj))⟩
/-- A tree below a place; where it lies, and what its nodes hold. -/
structure Gd (T : TS) (h lo : Nat) (t : Tr) : Prop where
  lay : Lay T.nodes h t
  siz : Siz h lo t
  nd : (ids h t ++ T.free).Nodup
  lt : ∀ x ∈ ids h t ++ T.free, x < T.nodes.length
/-- What a step leaves. -/
structure Step (T : TS) (h : Nat) (t : Tr) (T' : TS) (h' : Nat) (t' : Tr) : Prop where
  root : T'.root = T.root
  fr : ∀ j, j < T.nodes.length → j ∉ ids h t → j ∉ T.free → T'.nodes[j]? = T.nodes[j]?
  new : ∀ x ∈ ids h' t' ++ T'.free, x ∈ ids h t ++ T.free ∨ T.nodes.length ≤ x
  len : T.nodes.length ≤ T'.nodes.length
theorem Step.trans {T T1 T2 : TS} {h h1 h2 : Nat} {t t1 t2 : Tr} (a : Step T h t T1 h1 t1) (b : Step T1 h1 t1 T2 h2 t2) : Step T h t T2 h2 t2 := by
  refine ⟨b.root.trans a.root, fun j hj h1 h2 => ?_, fun x hx => ?_, Nat.le_trans a.len b.len⟩
  · have hn : ¬ (j ∈ ids _ t1 ++ T1.free) := fun hm => by
      rcases a.new j hm with h | h
      · rcases List.mem_append.1 h with h | h
        · exact h1 h
        · exact h2 h
      · omega
    rw [b.fr j (Nat.lt_of_lt_of_le hj a.len) (fun hm => hn (List.mem_append_left _ hm)) (fun hm => hn (List.mem_append_right _ hm)), a.fr j hj h1 h2]
  · rcases b.new x hx with h | h
    · exact a.new x h
    · exact .inr (Nat.le_trans a.len h)
theorem Step.refl (T : TS) (h : Nat) (t : Tr) : Step T h t T h t := ⟨rfl, fun _ _ _ _ => rfl, fun _ hx => .inl hx, Nat.le_refl _⟩
theorem addL_spec {T T2 : TS} {n : Nd} {r : Nat} (e : addL T n = (T2, r)) (hnd : T.free.Nodup) (hlt : ∀ x ∈ T.free, x < T.nodes.length) :
    T2.nodes[r]? = some n ∧ (∀ j, j ≠ r → j < T.nodes.length → T2.nodes[j]? = T.nodes[j]?) ∧ T2.free.Sublist T.free ∧ (r :: T2.free).Nodup ∧ (r ∈ T.free ∨ r = T.nodes.length) ∧ T.nodes.length ≤ T2.nodes.length ∧ T2.nodes.length ≤ T.nodes.length + 1 ∧ r < T2.nodes.length ∧ T2.root = T.root ∧ T2.count = T.count := by
  unfold addL at e
  split at e
  · rename_i i hi
    injection e with e1 e2
    subst e1; subst e2
    have hm : i ∈ T.free := List.mem_of_getLast? hi
    have hl := hlt i hm
    have hfr : T.free = T.free.dropLast ++ [i] := by
      obtain ⟨hne, hg⟩ := List.getLast?_eq_some_iff.1 hi
      rw [hg]; simp
    refine ⟨?_, fun j hj hjl => List.getElem?_set_ne (Ne.symm hj), List.dropLast_sublist _, ?_, .inl hm, by simp, by simp, by simpa using hl, rfl, rfl⟩
    · exact List.getElem?_set_self hl
    · rw [hfr, List.nodup_append] at hnd
      rw [List.nodup_cons]
      exact ⟨fun hc => hnd.2.2 i hc i (List.mem_singleton.2 rfl) rfl, hnd.1⟩
  · rename_i hn
    injection e with e1 e2
    subst e1; subst e2
    have hf : T.free = [] := List.getLast?_eq_none_iff.1 hn
    refine ⟨by simp, fun j _ hjl => List.getElem?_append_left hjl, List.Sublist.refl _, by rw [hf]; simp, .inr rfl, by simp, by simp, by simp, rfl, rfl⟩
theorem leftN_tr (ps : List Pr) (ks : List Tr) : leftN ⟨ps, ks.map Tr.i⟩ = ⟨ps.take 2, (ks.take 3).map Tr.i⟩ := by
  unfold leftN
  split
  · rename_i h
    have : ks = [] := by simpa using h
    subst this
    rfl
  · rw [List.map_take]
theorem rightN_tr (ps : List Pr) (ks : List Tr) : rightN ⟨ps, ks.map Tr.i⟩ = ⟨ps.drop 3, (ks.drop 3).map Tr.i⟩ := by
  unfold rightN
  split
  · rename_i h
    have : ks = [] := by simpa using h
    subst this
    rfl
  · rw [List.map_drop]
/-- A node of parts of another one's kids. -/
theorem lay_part {N N' : List Nd} {h : Nat} {c : Tr} (hl : Lay N h c) {j : Nat} {ps : List Pr} {A : List Tr} (hA : ∀ k ∈ A, k ∈ c.ks) (hn : N'[j]? = some ⟨ps, A.map Tr.i⟩) (hlen : h ≠ 0 → A.length = ps.length + 1) (hf : ∀ x ∈ ids h c, x ≠ c.i → N'[x]? = N[x]?) (hnd : (ids h c).Nodup) : Lay N' h (.node j ps A) := by
  cases h with
  | zero =>
    have hc : c.ks = [] := hl.1
    have : A = [] := List.eq_nil_iff_forall_not_mem.2 fun k hk => by have := hA k hk; rw [hc] at this; cases this
    subst this
    exact ⟨rfl, hn⟩
  | succ h =>
    refine ⟨hlen (by omega), hn, fun k hk => (hl.2.2 k (hA k hk)).frame fun x hx => hf x (List.mem_cons_of_mem _ (kid_ids (hA k hk) hx)) fun e => ?_⟩
    have := (List.nodup_cons.1 (show (c.i :: idl h c.ks).Nodup from hnd)).1
    exact this (e ▸ kid_ids (hA k hk) hx)
theorem siz_part {h lo : Nat} {c : Tr} (hs : Siz h lo c) {j : Nat} {ps : List Pr} {A : List Tr} (hA : ∀ k ∈ A, k ∈ c.ks) {lo' : Nat} (h1 : lo' ≤ ps.length) (h2 : ps.length ≤ 5) : Siz h lo' (.node j ps A) := by
  cases h with
  | zero => exact ⟨h1, h2⟩
  | succ h => exact ⟨h1, h2, fun k hk => hs.2.2 k (hA k hk)⟩
theorem ids_parts (h j : Nat) (c : Tr) (ps ps' : List Pr) (k : Nat) : (ids h (.node c.i ps (c.ks.take k)) ++ ids h (.node j ps' (c.ks.drop k))).Perm (j :: ids h c) := by
  cases h with
  | zero => exact List.Perm.swap _ _ _
  | succ h =>
    show (c.i :: idl h (c.ks.take k) ++ j :: idl h (c.ks.drop k)).Perm (j :: c.i :: idl h c.ks)
    refine (List.perm_middle).trans ?_
    rw [List.cons_append, ← idl_app, List.take_append_drop]
theorem flat_parts {N : List Nd} {h i j : Nat} {c : Tr} {up : Pr} (hl : Lay N h c) (h5 : c.ps.length = 5) (hup : c.ps[2]? = some up) : flat h c = flat h (.node i (c.ps.take 2) (c.ks.take 3)) ++ up :: flat h (.node j (c.ps.drop 3) (c.ks.drop 3)) := by
  have e : c.ps = c.ps.take 2 ++ up :: c.ps.drop 3 := by
    obtain ⟨h1, h2⟩ := List.getElem?_eq_some_iff.1 hup
    rw [← h2, ← List.drop_eq_getElem_cons h1, List.take_append_drop]
  cases h with
  | zero => exact e
  | succ h =>
    show inter (c.ks.map (flat h)) c.ps = inter ((c.ks.take 3).map (flat h)) (c.ps.take 2) ++ up :: inter ((c.ks.drop 3).map (flat h)) (c.ps.drop 3)
    have hk := hl.1
    rw [← inter_join up (by simp; omega) (by simp; omega), ← List.map_append, List.take_append_drop, ← e]
theorem split_good {T : TS} {h lo i q : Nat} {ps : List Pr} {K1 K2 : List Tr} {c : Tr} {up : Pr} (g : Gd T (h + 1) lo (.node i ps (K1 ++ c :: K2))) (hq : K1.length = q) (h5 : c.ps.length = 5) (hp : ps.length < 5) (hup : c.ps[2]? = some up) :
    ∃ r, Gd (splitT T i q c.i ⟨ps, (K1 ++ c :: K2).map Tr.i⟩ ⟨c.ps, c.ks.map Tr.i⟩ up) (h + 1) lo (.node i (ps.take q ++ up :: ps.drop q) (K1 ++ .node c.i (c.ps.take 2) (c.ks.take 3) :: .node r (c.ps.drop 3) (c.ks.drop 3) :: K2))
      ∧ Step T (h + 1) (.node i ps (K1 ++ c :: K2)) (splitT T i q c.i ⟨ps, (K1 ++ c :: K2).map Tr.i⟩ ⟨c.ps, c.ks.map Tr.i⟩ up) (h + 1) (.node i (ps.take q ++ up :: ps.drop q) (K1 ++ .node c.i (c.ps.take 2) (c.ks.take 3) :: .node r (c.ps.drop 3) (c.ks.drop 3) :: K2))
      ∧ flat (h + 1) (.node i (ps.take q ++ up :: ps.drop q) (K1 ++ .node c.i (c.ps.take 2) (c.ks.take 3) :: .node r (c.ps.drop 3) (c.ks.drop 3) :: K2)) = flat (h + 1) (.node i ps (K1 ++ c :: K2))
      ∧ (splitT T i q c.i ⟨ps, (K1 ++ c :: K2).map Tr.i⟩ ⟨c.ps, c.ks.map Tr.i⟩ up).nodes.length ≤ T.nodes.length + 1
      ∧ (splitT T i q c.i ⟨ps, (K1 ++ c :: K2).map Tr.i⟩ ⟨c.ps, c.ks.map Tr.i⟩ up).count = T.count := by
  obtain ⟨hlay, hsiz, hnd, hlt⟩ := g
  have hkl : (K1 ++ c :: K2).length = ps.length + 1 := hlay.1
  have hkl2 : K1.length + (K2.length + 1) = ps.length + 1 := by simpa using hkl
  have hmc : c ∈ K1 ++ c :: K2 := by simp
  have hlc : Lay T.nodes h c := hlay.2.2 c hmc
  have hsc : Siz h 2 c := hsiz.2.2 c hmc
  have hni : T.nodes[i]? = some ⟨ps, (K1 ++ c :: K2).map Tr.i⟩ := hlay.2.1
  rw [ids_succ, idl_app, idl_cons] at hnd hlt
  have hndf : T.free.Nodup := (List.nodup_append.1 hnd).2.1
  have hndc : (ids h c).Nodup := by
    have h1 := (List.nodup_append.1 hnd).1
    have h2 := (List.nodup_cons.1 h1).2
    exact (List.nodup_append.1 (List.nodup_append.1 h2).2.1).1
  have hci : c.i ∈ ids h c := ids_self h c
  have hil : i < T.nodes.length := hlt i (by simp)
  have hcl : c.i < T.nodes.length := hlt c.i (by simp [hci])
  have hcne : c.i ≠ i := by grind
  obtain ⟨T2, r, hadd⟩ : ∃ T2 r, addL (T.setN c.i (leftN ⟨c.ps, c.ks.map Tr.i⟩)) (rightN ⟨c.ps, c.ks.map Tr.i⟩) = (T2, r) := ⟨_, _, rfl⟩
  have hlen0 : (T.setN c.i (leftN ⟨c.ps, c.ks.map Tr.i⟩)).nodes.length = T.nodes.length := List.length_set
  obtain ⟨a1, a2, a3, a4, a5, a6, a7, a8, a9, a10⟩ := addL_spec hadd hndf (fun x hx => by rw [hlen0]; exact hlt x (List.mem_append_right _ hx))
  rw [hlen0] at a2 a5 a6 a7
  replace a5 : r ∈ T.free ∨ r = T.nodes.length := a5
  replace a3 : T2.free.Sublist T.free := a3
  have hrn : r ∉ i :: (idl h K1 ++ (ids h c ++ idl h K2)) := fun hm => by
    rcases a5 with h1 | h1
    · exact (List.nodup_append.1 hnd).2.2 r hm r h1 rfl
    · have := hlt r (List.mem_append_left _ hm); omega
  have hri : r ≠ i := fun e => hrn (by simp [e])
  have hrc : r ≠ c.i := fun e => hrn (by simp [e, hci])
  have hsp : splitT T i q c.i ⟨ps, (K1 ++ c :: K2).map Tr.i⟩ ⟨c.ps, c.ks.map Tr.i⟩ up = T2.setN i ⟨ps.take q ++ up :: ps.drop q, ((K1 ++ c :: K2).map Tr.i).take (q + 1) ++ r :: ((K1 ++ c :: K2).map Tr.i).drop (q + 1)⟩ := by
    unfold splitT
    rw [hadd]
  have hks : ((K1 ++ c :: K2).map Tr.i).take (q + 1) ++ r :: ((K1 ++ c :: K2).map Tr.i).drop (q + 1) = (K1 ++ .node c.i (c.ps.take 2) (c.ks.take 3) :: .node r (c.ps.drop 3) (c.ks.drop 3) :: K2).map Tr.i := by
    have e1 : (K1 ++ c :: K2).map Tr.i = (K1.map Tr.i ++ [c.i]) ++ K2.map Tr.i := by simp
    have e2 : (K1.map Tr.i ++ [c.i]).length = q + 1 := by simp [hq]
    rw [e1, List.take_left' e2, List.drop_left' e2]
    simp [Tr.i]
  rw [hks] at hsp
  rw [hsp]
  refine ⟨r, ?_⟩
  generalize hl : Tr.node c.i (c.ps.take 2) (c.ks.take 3) = l at *
  generalize hr : Tr.node r (c.ps.drop 3) (c.ks.drop 3) = rr at *
  have hpl : ps.take q ++ up :: ps.drop q = ps.take q ++ (up :: ps.drop q) := rfl
  have hplen : (ps.take q ++ up :: ps.drop q).length = ps.length + 1 := by simp; omega
  have hN : ∀ j, j ≠ i → j ≠ r → j ≠ c.i → j < T.nodes.length → (T2.nodes.set i ⟨ps.take q ++ up :: ps.drop q, (K1 ++ l :: rr :: K2).map Tr.i⟩)[j]? = T.nodes[j]? := fun j h1 h2 h3 h4 => by
    rw [List.getElem?_set_ne (Ne.symm h1), a2 j h2 h4]
    exact List.getElem?_set_ne (Ne.symm h3)
  have hperm : (ids h l ++ ids h rr).Perm (r :: ids h c) := by rw [← hl, ← hr]; exact ids_parts h r c _ _ 3
  have hidp : (ids (h + 1) (.node i (ps.take q ++ up :: ps.drop q) (K1 ++ l :: rr :: K2))).Perm (r :: (i :: (idl h K1 ++ (ids h c ++ idl h K2)))) := by
    rw [ids_succ, idl_app, idl_cons, idl_cons]
    refine List.Perm.trans ?_ (List.Perm.swap _ _ _)
    refine List.Perm.cons _ ?_
    rw [← List.append_assoc (ids h l)]
    refine ((hperm.append_right _).append_left _).trans ?_
    rw [List.cons_append]
    exact List.perm_middle
  have hflat : flat h c = flat h l ++ up :: flat h rr := by rw [← hl, ← hr]; exact flat_parts hlc h5 hup
  refine ⟨⟨⟨?_, ?_, ?_⟩, ⟨?_, ?_, ?_⟩, ?_, ?_⟩, ⟨a9, ?_, ?_, ?_⟩, ?_, ?_, a10⟩
  · show (K1 ++ l :: rr :: K2).length = (ps.take q ++ up :: ps.drop q).length + 1
    rw [hplen]; simp; omega
  · exact List.getElem?_set_self (by omega)
  · intro k hk
    have hfr : ∀ k ∈ K1 ++ c :: K2, k ∈ K1 ∨ k ∈ K2 → Lay (T2.setN i ⟨ps.take q ++ up :: ps.drop q, (K1 ++ l :: rr :: K2).map Tr.i⟩).nodes h k := fun k hk hk' => (hlay.2.2 k hk).frame fun j hj => by
      have hjm : j ∈ idl h K1 ∨ j ∈ idl h K2 := by
        rcases hk' with h1 | h1
        · exact .inl (kid_ids h1 hj)
        · exact .inr (kid_ids h1 hj)
      have hj1 : j ∈ i :: (idl h K1 ++ (ids h c ++ idl h K2)) := by rcases hjm with h1 | h1 <;> simp [h1]
      refine hN j ?_ (fun e => hrn (e ▸ hj1)) ?_ (hlt j (List.mem_append_left _ hj1))
      · clear hperm hidp hN hrn; grind
      · clear hperm hidp hN hrn; grind
    have hgc : ∀ x ∈ ids h c, x ≠ c.i → (T2.setN i ⟨ps.take q ++ up :: ps.drop q, (K1 ++ l :: rr :: K2).map Tr.i⟩).nodes[x]? = T.nodes[x]? := fun x hx hxc => by
      have hj1 : x ∈ i :: (idl h K1 ++ (ids h c ++ idl h K2)) := by simp [hx]
      refine hN x ?_ (fun e => hrn (e ▸ hj1)) hxc (hlt x (List.mem_append_left _ hj1))
      clear hperm hidp hN hrn; grind
    rcases List.mem_append.1 (show k ∈ K1 ++ l :: rr :: K2 from hk) with h1 | h1
    · exact hfr k (by simp [h1]) (.inl h1)
    · rcases List.mem_cons.1 h1 with rfl | h1
      · refine Eq.mp (congrArg (Lay _ h) hl) (lay_part hlc (fun k hk => List.mem_of_mem_take hk) ?_ (fun h0 => ?_) hgc hndc)
        · show (T2.nodes.set i _)[c.i]? = _
          rw [List.getElem?_set_ne (Ne.symm hcne), a2 c.i (Ne.symm hrc) hcl]
          rw [← leftN_tr]
          exact List.getElem?_set_self hcl
        · cases h with
          | zero => exact absurd rfl h0
          | succ h => have := hlc.1; simp; omega
      · rcases List.mem_cons.1 h1 with rfl | h1
        · refine Eq.mp (congrArg (Lay _ h) hr) (lay_part hlc (fun k hk => List.mem_of_mem_drop hk) ?_ (fun h0 => ?_) hgc hndc)
          · show (T2.nodes.set i _)[r]? = _
            rw [List.getElem?_set_ne (Ne.symm hri), a1, rightN_tr]
          · cases h with
            | zero => exact absurd rfl h0
            | succ h => have := hlc.1; simp; omega
        · exact hfr k (by simp [h1]) (.inr h1)
  · show lo ≤ (ps.take q ++ up :: ps.drop q).length
    rw [hplen]; have : lo ≤ ps.length := hsiz.1; omega
  · show (ps.take q ++ up :: ps.drop q).length ≤ 5
    rw [hplen]; omega
  · intro k hk
    rcases List.mem_append.1 (show k ∈ K1 ++ l :: rr :: K2 from hk) with h1 | h1
    · exact hsiz.2.2 k (List.mem_append_left _ h1)
    · rcases List.mem_cons.1 h1 with rfl | h1
      · rw [← hl]; exact siz_part hsc (fun k hk => List.mem_of_mem_take hk) (by simp; omega) (by simp; omega)
      · rcases List.mem_cons.1 h1 with rfl | h1
        · rw [← hr]; exact siz_part hsc (fun k hk => List.mem_of_mem_drop hk) (by simp; omega) (by simp; omega)
        · exact hsiz.2.2 k (List.mem_append_right _ (List.mem_cons_of_mem _ h1))
  · refine ((hidp.append_right T2.free).nodup_iff).2 ?_
    show (r :: (i :: (idl h K1 ++ (ids h c ++ idl h K2)) ++ T2.free)).Nodup
    rw [List.nodup_cons]
    refine ⟨fun hm => ?_, hnd.sublist (List.Sublist.append_left a3 _)⟩
    rcases List.mem_append.1 hm with h1 | h1
    · exact hrn h1
    · exact (List.nodup_cons.1 a4).1 h1
  · intro x hx
    show x < (T2.nodes.set i _).length
    rw [List.length_set]
    rcases List.mem_append.1 hx with h1 | h1
    · rcases List.mem_cons.1 (hidp.subset h1) with rfl | h1
      · exact a8
      · exact Nat.lt_of_lt_of_le (hlt x (List.mem_append_left _ h1)) a6
    · exact Nat.lt_of_lt_of_le (hlt x (List.mem_append_right _ (a3.subset h1))) a6
  · intro j hj h1 h2
    rw [ids_succ, idl_app, idl_cons] at h1
    refine hN j (fun e => h1 (by simp [e])) (fun e => ?_) (fun e => h1 (by simp [e, hci])) hj
    subst e
    rcases a5 with h3 | h3
    · exact h2 h3
    · omega
  · intro x hx
    rw [ids_succ h i, idl_app, idl_cons]
    rcases List.mem_append.1 hx with h1 | h1
    · rcases List.mem_cons.1 (hidp.subset h1) with rfl | h1
      · rcases a5 with h3 | h3
        · exact .inl (List.mem_append_right _ h3)
        · exact .inr (by omega)
      · exact .inl (List.mem_append_left _ h1)
    · exact .inl (List.mem_append_right _ (a3.subset h1))
  · show T.nodes.length ≤ (T2.nodes.set i _).length
    rw [List.length_set]; exact a6
  · show inter ((K1 ++ l :: rr :: K2).map (flat h)) (ps.take q ++ up :: ps.drop q) = inter ((K1 ++ c :: K2).map (flat h)) ps
    have e1 := inter_split (K1 := K1.map (flat h)) (A := ps.take q) (flat h l) ((rr :: K2).map (flat h)) (up :: ps.drop q) (by simp; omega)
    have e2 := inter_split (K1 := K1.map (flat h)) (A := ps.take q) (flat h c) (K2.map (flat h)) (ps.drop q) (by simp; omega)
    rw [List.take_append_drop] at e2
    have g1 : (K1 ++ l :: rr :: K2).map (flat h) = K1.map (flat h) ++ flat h l :: (rr :: K2).map (flat h) := by simp
    have g2 : (K1 ++ c :: K2).map (flat h) = K1.map (flat h) ++ flat h c :: K2.map (flat h) := by simp
    rw [g1, g2, e1, e2, hflat]
    simp [suf]
  · show (T2.nodes.set i _).length ≤ _
    rw [List.length_set]; exact a7
end Go.Proofs.Ytbmpdccoffkjgaa.Ow
