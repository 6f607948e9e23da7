/- A node of a tree and two of its kids: keys lent, kids merged. -/
import Derived.Test.YtbmpdccoffkjgaaBtn
import Derived.Test.YtbmpdccoffkjgaaBtx
namespace Go.Proofs.Ytbmpdccoffkjgaa.Ow
open Go
set_option linter.unusedVariables false
def kidl : Nat → List Tr → List Nat
  | 0, _ => []
  | h + 1, A => idl h A
theorem ids_kidl : ∀ (h : Nat) (t : Tr), ids h t = t.i :: kidl h t.ks
  | 0, _ => rfl
  | _ + 1, _ => rfl
theorem kidl_app : ∀ (h : Nat) (A B : List Tr), kidl h (A ++ B) = kidl h A ++ kidl h B
  | 0, _, _ => rfl
  | h + 1, A, B => idl_app h A B
def KLay (N : List Nd) : Nat → List Tr → Prop
  | 0, A => A = []
  | h + 1, A => ∀ k ∈ A, Lay N h k
def KSiz : Nat → List Tr → Prop
  | 0, _ => True
  | h + 1, A => ∀ k ∈ A, Siz h 2 k
theorem KLay.app {N : List Nd} : ∀ {h : Nat} {A B : List Tr}, KLay N h (A ++ B) ↔ KLay N h A ∧ KLay N h B
  | 0, A, B => by simp [KLay]
  | h + 1, A, B => by simp [KLay, or_imp, forall_and]
theorem KSiz.app : ∀ {h : Nat} {A B : List Tr}, KSiz h (A ++ B) ↔ KSiz h A ∧ KSiz h B
  | 0, A, B => by simp [KSiz]
  | h + 1, A, B => by simp [KSiz, or_imp, forall_and]
theorem KLay.frame {N N' : List Nd} : ∀ {h : Nat} {A : List Tr}, KLay N h A → (∀ x ∈ kidl h A, N'[x]? = N[x]?) → KLay N' h A
  | 0, A, hl, _ => hl
  | h + 1, A, hl, hf => fun k hk => (hl k hk).frame fun j hj => hf j (kid_ids hk hj)
theorem lay_iff {N : List Nd} : ∀ {h : Nat} {t : Tr}, Lay N h t ↔ N[t.i]? = some ⟨t.ps, t.ks.map Tr.i⟩ ∧ KLay N h t.ks ∧ (h ≠ 0 → t.ks.length = t.ps.length + 1)
  | 0, t => by
    constructor
    · intro hl; exact ⟨hl.at, hl.1, fun h => absurd rfl h⟩
    · rintro ⟨h1, h2, _⟩
      have h2 : t.ks = [] := h2
      rw [h2] at h1
      exact ⟨h2, h1⟩
  | h + 1, t => by
    constructor
    · intro hl; exact ⟨hl.2.1, hl.2.2, fun _ => hl.1⟩
    · rintro ⟨h1, h2, h3⟩; exact ⟨h3 (by omega), h1, h2⟩
theorem siz_iff {lo : Nat} : ∀ {h : Nat} {t : Tr}, Siz h lo t ↔ lo ≤ t.ps.length ∧ t.ps.length ≤ 5 ∧ KSiz h t.ks
  | 0, t => ⟨fun hl => ⟨hl.1, hl.2, trivial⟩, fun hl => ⟨hl.1, hl.2.1⟩⟩
  | h + 1, t => Iff.rfl
theorem mem_idl {h : Nat} {k : Tr} {K : List Tr} (hk : k ∈ K) : k.i ∈ idl h K := kid_ids hk (ids_self h k)
section
variable {T : TS} {h lo i : Nat} {A B : List Pr} {p u : Pr} {K1 K2 : List Tr} {a b a' b' : Tr} {N' : List Nd}
theorem pair_perm (h i : Nat) (ps : List Pr) (K1 K2 : List Tr) (a b : Tr) : (ids (h + 1) (.node i ps (K1 ++ a :: b :: K2))).Perm (i :: a.i :: b.i :: (idl h K1 ++ (idl h K2 ++ (kidl h a.ks ++ kidl h b.ks)))) := by
  rw [ids_succ, idl_app, idl_cons, idl_cons, ids_kidl h a, ids_kidl h b]
  refine List.perm_iff_count.2 fun x => ?_
  simp only [List.count_append, List.count_cons]
  omega
theorem one_perm (h i : Nat) (ps : List Pr) (K1 K2 : List Tr) (a : Tr) : (ids (h + 1) (.node i ps (K1 ++ a :: K2))).Perm (i :: a.i :: (idl h K1 ++ (idl h K2 ++ kidl h a.ks))) := by
  rw [ids_succ, idl_app, idl_cons, ids_kidl h a]
  refine List.perm_iff_count.2 fun x => ?_
  simp only [List.count_append, List.count_cons]
  omega
/-- What is known of a node and two of its kids. -/
theorem pair_known (g : Gd T (h + 1) lo (.node i (A ++ p :: B) (K1 ++ a :: b :: K2))) :
    a.i ≠ i ∧ b.i ≠ i ∧ a.i ≠ b.i ∧ (∀ x ∈ idl h K1 ++ (idl h K2 ++ (kidl h a.ks ++ kidl h b.ks)), x ≠ i ∧ x ≠ a.i ∧ x ≠ b.i) ∧ i < T.nodes.length ∧ a.i < T.nodes.length ∧ b.i < T.nodes.length
      ∧ (i :: a.i :: b.i :: (idl h K1 ++ (idl h K2 ++ (kidl h a.ks ++ kidl h b.ks))) ++ T.free).Nodup := by
  have hp := (pair_perm h i (A ++ p :: B) K1 K2 a b).append_right T.free
  have hn := hp.nodup_iff.1 g.nd
  have hlt : ∀ x ∈ i :: a.i :: b.i :: (idl h K1 ++ (idl h K2 ++ (kidl h a.ks ++ kidl h b.ks))) ++ T.free, x < T.nodes.length := fun x hx => g.lt x (hp.symm.subset hx)
  have n1 := List.nodup_cons.1 hn
  have n2 := List.nodup_cons.1 n1.2
  have n3 := List.nodup_cons.1 n2.2
  refine ⟨fun e => n1.1 (by simp [e]), fun e => n1.1 (by simp [e]), fun e => n2.1 (by simp [e]), fun x hx => ⟨fun e => n1.1 ?_, fun e => n2.1 ?_, fun e => n3.1 ?_⟩, hlt i (by simp), hlt a.i (by simp), hlt b.i (by simp), hn⟩
  · rw [← e]; exact List.mem_cons_of_mem _ (List.mem_cons_of_mem _ (List.mem_append_left _ hx))
  · rw [← e]; exact List.mem_cons_of_mem _ (List.mem_append_left _ hx)
  · rw [← e]; exact List.mem_append_left _ hx
theorem pair_good (g : Gd T (h + 1) lo (.node i (A ++ p :: B) (K1 ++ a :: b :: K2))) (hl : N'.length = T.nodes.length) (hi : N'[i]? = some ⟨A ++ u :: B, (K1 ++ a :: b :: K2).map Tr.i⟩)
    (ha : N'[a.i]? = some ⟨a'.ps, a'.ks.map Tr.i⟩) (hb : N'[b.i]? = some ⟨b'.ps, b'.ks.map Tr.i⟩) (hN : ∀ j, j ≠ i → j ≠ a.i → j ≠ b.i → N'[j]? = T.nodes[j]?)
    (ea : a'.i = a.i) (eb : b'.i = b.i) (hks : a'.ks ++ b'.ks = a.ks ++ b.ks) (la : h ≠ 0 → a'.ks.length = a'.ps.length + 1) (lb : h ≠ 0 → b'.ks.length = b'.ps.length + 1)
    (sa : 2 ≤ a'.ps.length ∧ a'.ps.length ≤ 5) (sb : 2 ≤ b'.ps.length ∧ b'.ps.length ≤ 5) :
    Gd ⟨N', T.free, T.root, T.count⟩ (h + 1) lo (.node i (A ++ u :: B) (K1 ++ a' :: b' :: K2)) ∧ Step T (h + 1) (.node i (A ++ p :: B) (K1 ++ a :: b :: K2)) ⟨N', T.free, T.root, T.count⟩ (h + 1) (.node i (A ++ u :: B) (K1 ++ a' :: b' :: K2)) := by
  obtain ⟨n1, n2, n3, n4, l1, l2, l3, hnd⟩ := pair_known g
  have hp0 := pair_perm h i (A ++ p :: B) K1 K2 a b
  have hp1 := pair_perm h i (A ++ u :: B) K1 K2 a' b'
  rw [← kidl_app, hks, kidl_app, ea, eb] at hp1
  have hpp := hp1.trans hp0.symm
  have hlay := g.lay
  have hsiz := g.siz
  have hka : a ∈ K1 ++ a :: b :: K2 := by simp
  have hkb : b ∈ K1 ++ a :: b :: K2 := by simp
  obtain ⟨_, ka2, _⟩ := lay_iff.1 (hlay.2.2 a hka)
  obtain ⟨_, kb2, _⟩ := lay_iff.1 (hlay.2.2 b hkb)
  obtain ⟨_, _, za⟩ := siz_iff.1 (hsiz.2.2 a hka)
  obtain ⟨_, _, zb⟩ := siz_iff.1 (hsiz.2.2 b hkb)
  have hNx : ∀ x ∈ idl h K1 ++ (idl h K2 ++ (kidl h a.ks ++ kidl h b.ks)), N'[x]? = T.nodes[x]? := fun x hx => hN x (n4 x hx).1 (n4 x hx).2.1 (n4 x hx).2.2
  have hkl : KLay N' h (a'.ks ++ b'.ks) := by
    rw [hks]
    refine KLay.frame (KLay.app.2 ⟨ka2, kb2⟩) fun x hx => hNx x ?_
    rw [kidl_app] at hx
    exact List.mem_append_right _ (List.mem_append_right _ hx)
  have hks' : KSiz h (a'.ks ++ b'.ks) := by rw [hks]; exact KSiz.app.2 ⟨za, zb⟩
  have hlk : ∀ k, k ∈ K1 ∨ k ∈ K2 → Lay N' h k := fun k hk => (hlay.2.2 k (by rcases hk with hk | hk <;> simp [Tr.ks, hk])).frame fun j hj => hNx j (by
    rcases hk with hk | hk
    · exact List.mem_append_left _ (kid_ids hk hj)
    · exact List.mem_append_right _ (List.mem_append_left _ (kid_ids hk hj)))
  have hAl : (A ++ u :: B).length = (A ++ p :: B).length := by simp
  refine ⟨⟨⟨?_, ?_, ?_⟩, ⟨?_, ?_, ?_⟩, ((hpp.append_right _).nodup_iff).2 g.nd, fun x hx => ?_⟩, ⟨rfl, fun j hj h1 h2 => hN j (fun e => h1 (hp0.symm.subset (by simp [e]))) (fun e => h1 (hp0.symm.subset (by simp [e]))) (fun e => h1 (hp0.symm.subset (by simp [e]))), fun x hx => .inl ((hpp.append_right _).subset hx), by show _ ≤ N'.length; omega⟩⟩
  · have h1 : (K1 ++ a :: b :: K2).length = (A ++ p :: B).length + 1 := hlay.1
    show (K1 ++ a' :: b' :: K2).length = (A ++ u :: B).length + 1
    rw [hAl, ← h1]; simp
  · show N'[i]? = some ⟨A ++ u :: B, (K1 ++ a' :: b' :: K2).map Tr.i⟩
    rw [hi]; simp [ea, eb]
  · intro k hk
    rcases List.mem_append.1 (show k ∈ K1 ++ a' :: b' :: K2 from hk) with h1 | h1
    · exact hlk k (.inl h1)
    · rcases List.mem_cons.1 h1 with rfl | h1
      · exact lay_iff.2 ⟨by rw [ea]; exact ha, (KLay.app.1 hkl).1, la⟩
      · rcases List.mem_cons.1 h1 with rfl | h1
        · exact lay_iff.2 ⟨by rw [eb]; exact hb, (KLay.app.1 hkl).2, lb⟩
        · exact hlk k (.inr h1)
  · show lo ≤ (A ++ u :: B).length
    rw [hAl]; exact hsiz.1
  · show (A ++ u :: B).length ≤ 5
    rw [hAl]; exact hsiz.2.1
  · intro k hk
    rcases List.mem_append.1 (show k ∈ K1 ++ a' :: b' :: K2 from hk) with h1 | h1
    · exact hsiz.2.2 k (List.mem_append_left _ h1)
    · rcases List.mem_cons.1 h1 with rfl | h1
      · exact siz_iff.2 ⟨sa.1, sa.2, (KSiz.app.1 hks').1⟩
      · rcases List.mem_cons.1 h1 with rfl | h1
        · exact siz_iff.2 ⟨sb.1, sb.2, (KSiz.app.1 hks').2⟩
        · exact hsiz.2.2 k (by simp [Tr.ks, h1])
  · show x < N'.length
    rw [hl]; exact g.lt x ((hpp.append_right _).subset hx)
theorem merge_good (g : Gd T (h + 1) lo (.node i (A ++ p :: B) (K1 ++ a :: b :: K2))) {lo' : Nat} (hlo : lo' ≤ (A ++ B).length) (hl : N'.length = T.nodes.length) (hi : N'[i]? = some ⟨A ++ B, (K1 ++ a :: K2).map Tr.i⟩)
    (ha : N'[a.i]? = some ⟨a'.ps, a'.ks.map Tr.i⟩) (hN : ∀ j, j ≠ i → j ≠ a.i → j ≠ b.i → N'[j]? = T.nodes[j]?)
    (ea : a'.i = a.i) (hks : a'.ks = a.ks ++ b.ks) (la : h ≠ 0 → a'.ks.length = a'.ps.length + 1) (sa : 2 ≤ a'.ps.length ∧ a'.ps.length ≤ 5) :
    Gd ⟨N', T.free ++ [b.i], T.root, T.count⟩ (h + 1) lo' (.node i (A ++ B) (K1 ++ a' :: K2)) ∧ Step T (h + 1) (.node i (A ++ p :: B) (K1 ++ a :: b :: K2)) ⟨N', T.free ++ [b.i], T.root, T.count⟩ (h + 1) (.node i (A ++ B) (K1 ++ a' :: K2)) := by
  obtain ⟨n1, n2, n3, n4, l1, l2, l3, hnd⟩ := pair_known g
  have hp0 := pair_perm h i (A ++ p :: B) K1 K2 a b
  have hp1 := one_perm h i (A ++ B) K1 K2 a'
  rw [hks, kidl_app, ea] at hp1
  have hpp : (ids (h + 1) (.node i (A ++ B) (K1 ++ a' :: K2)) ++ (T.free ++ [b.i])).Perm (ids (h + 1) (.node i (A ++ p :: B) (K1 ++ a :: b :: K2)) ++ T.free) := by
    refine (hp1.append_right _).trans (List.Perm.trans ?_ (hp0.append_right _).symm)
    refine List.perm_iff_count.2 fun x => ?_
    simp only [List.count_append, List.count_cons, List.count_nil]
    omega
  have hlay := g.lay
  have hsiz := g.siz
  have hka : a ∈ K1 ++ a :: b :: K2 := by simp
  have hkb : b ∈ K1 ++ a :: b :: K2 := by simp
  obtain ⟨_, ka2, _⟩ := lay_iff.1 (hlay.2.2 a hka)
  obtain ⟨_, kb2, _⟩ := lay_iff.1 (hlay.2.2 b hkb)
  obtain ⟨_, _, za⟩ := siz_iff.1 (hsiz.2.2 a hka)
  obtain ⟨_, _, zb⟩ := siz_iff.1 (hsiz.2.2 b hkb)
  have hNx : ∀ x ∈ idl h K1 ++ (idl h K2 ++ (kidl h a.ks ++ kidl h b.ks)), N'[x]? = T.nodes[x]? := fun x hx => hN x (n4 x hx).1 (n4 x hx).2.1 (n4 x hx).2.2
  have hkl : KLay N' h a'.ks := by
    rw [hks]
    refine KLay.frame (KLay.app.2 ⟨ka2, kb2⟩) fun x hx => hNx x ?_
    rw [kidl_app] at hx
    exact List.mem_append_right _ (List.mem_append_right _ hx)
  have hks' : KSiz h a'.ks := by rw [hks]; exact KSiz.app.2 ⟨za, zb⟩
  have hlk : ∀ k, k ∈ K1 ∨ k ∈ K2 → Lay N' h k := fun k hk => (hlay.2.2 k (by rcases hk with hk | hk <;> simp [Tr.ks, hk])).frame fun j hj => hNx j (by
    rcases hk with hk | hk
    · exact List.mem_append_left _ (kid_ids hk hj)
    · exact List.mem_append_right _ (List.mem_append_left _ (kid_ids hk hj)))
  have hAl : (A ++ p :: B).length = (A ++ B).length + 1 := by simp; omega
  refine ⟨⟨⟨?_, ?_, ?_⟩, ⟨hlo, ?_, ?_⟩, (hpp.nodup_iff).2 g.nd, fun x hx => ?_⟩, ⟨rfl, fun j hj h1 h2 => hN j (fun e => h1 (hp0.symm.subset (by simp [e]))) (fun e => h1 (hp0.symm.subset (by simp [e]))) (fun e => h1 (hp0.symm.subset (by simp [e]))), fun x hx => .inl (hpp.subset hx), by show _ ≤ N'.length; omega⟩⟩
  · have h1 : (K1 ++ a :: b :: K2).length = (A ++ p :: B).length + 1 := hlay.1
    show (K1 ++ a' :: K2).length = (A ++ B).length + 1
    rw [hAl] at h1; simp at h1 ⊢; omega
  · show N'[i]? = some ⟨A ++ B, (K1 ++ a' :: K2).map Tr.i⟩
    rw [hi]; simp [ea]
  · intro k hk
    rcases List.mem_append.1 (show k ∈ K1 ++ a' :: K2 from hk) with h1 | h1
    · exact hlk k (.inl h1)
    · rcases List.mem_cons.1 h1 with rfl | h1
      · exact lay_iff.2 ⟨by rw [ea]; exact ha, hkl, la⟩
      · exact hlk k (.inr h1)
  · show (A ++ B).length ≤ 5
    have := hsiz.2.1
    have h2 : (A ++ p :: B).length ≤ 5 := this
    omega
  · intro k hk
    rcases List.mem_append.1 (show k ∈ K1 ++ a' :: K2 from hk) with h1 | h1
    · exact hsiz.2.2 k (List.mem_append_left _ h1)
    · rcases List.mem_cons.1 h1 with rfl | h1
      · exact siz_iff.2 ⟨sa.1, sa.2, hks'⟩
      · exact hsiz.2.2 k (by simp [Tr.ks, h1])
  · show x < N'.length
    rw [hl]; exact g.lt x (hpp.subset hx)
end
end Go.Proofs.Ytbmpdccoffkjgaa.Ow
