/- A child is fed: the tree holds what it held. -/
import Derived.Test.YtbmpdccoffkjgaaBtz
namespace Go.Proofs.Ytbmpdccoffkjgaa.Ow
open Go
set_option linter.unusedVariables false
theorem split_at {α : Type} {l : List α} {n : Nat} (h : n < l.length) : ∃ A p B, l = A ++ p :: B ∧ A.length = n :=
  ⟨l.take n, l[n], l.drop (n + 1), by rw [← List.drop_eq_getElem_cons h, List.take_append_drop], by rw [List.length_take]; omega⟩
theorem at_mid {α : Type} {A B : List α} {p : α} {n : Nat} (h : A.length = n) : (A ++ p :: B)[n]? = some p := by
  rw [List.getElem?_append_right (by omega), h, Nat.sub_self]; rfl
theorem at_mid1 {α : Type} {A B : List α} {p q : α} {n : Nat} (h : A.length = n) : (A ++ p :: q :: B)[n + 1]? = some q := by
  rw [List.getElem?_append_right (by omega), h, show n + 1 - n = 1 by omega]; rfl
theorem take_mid {α : Type} {A B : List α} {p : α} {n : Nat} (h : A.length = n) : (A ++ p :: B).take n = A := List.take_left' h
theorem drop_mid {α : Type} {A B : List α} {p : α} {n : Nat} (h : A.length = n) : (A ++ p :: B).drop (n + 1) = B := by
  rw [show A ++ p :: B = (A ++ [p]) ++ B by simp, List.drop_left' (by simp [h])]
theorem set_mid {α : Type} {A B : List α} {p u : α} {n : Nat} (h : A.length = n) : (A ++ p :: B).set n u = A ++ u :: B := by
  rw [List.set_append_right _ _ (by omega), h, Nat.sub_self]; rfl
/-- Two nodes' keys and kids together. -/
theorem flat_join {h j j1 j2 : Nat} {P P' : List Pr} {p : Pr} {Q Q' : List Tr} (h1 : h ≠ 0 → Q.length = P.length + 1) (h2 : h ≠ 0 → Q'.length = P'.length + 1) :
    flat h (.node j (P ++ p :: P') (Q ++ Q')) = flat h (.node j1 P Q) ++ p :: flat h (.node j2 P' Q') := by
  cases h with
  | zero => rfl
  | succ h =>
    show inter ((Q ++ Q').map (flat h)) (P ++ p :: P') = inter (Q.map (flat h)) P ++ p :: inter (Q'.map (flat h)) P'
    rw [List.map_append]
    exact inter_join p (by rw [List.length_map]; exact h1 (by omega)) (by rw [List.length_map]; exact h2 (by omega))
theorem flat_pair {h i : Nat} {A B : List Pr} {p : Pr} {K1 K2 : List Tr} {a b : Tr} (hl : K1.length = A.length) : flat (h + 1) (.node i (A ++ p :: B) (K1 ++ a :: b :: K2)) = pre (K1.map (flat h)) A ++ ((flat h a ++ p :: flat h b) ++ suf B (K2.map (flat h))) := by
  have := inter_split (K1 := K1.map (flat h)) (A := A) (flat h a) ((b :: K2).map (flat h)) (p :: B) (by simpa using hl)
  show inter ((K1 ++ a :: b :: K2).map (flat h)) (A ++ p :: B) = _
  rw [List.map_append, List.map_cons, this]
  simp [suf]
theorem flat_one {h i : Nat} {A B : List Pr} {K1 K2 : List Tr} {a : Tr} (hl : K1.length = A.length) : flat (h + 1) (.node i (A ++ B) (K1 ++ a :: K2)) = pre (K1.map (flat h)) A ++ (flat h a ++ suf B (K2.map (flat h))) := by
  have := inter_split (K1 := K1.map (flat h)) (A := A) (flat h a) (K2.map (flat h)) B (by simpa using hl)
  show inter ((K1 ++ a :: K2).map (flat h)) (A ++ B) = _
  rw [List.map_append, List.map_cons, this]
theorem hasK_sub {l m : List Pr} {k : ByteArray} (hs : ∀ p ∈ l, p ∈ m) (h : hasK l k = true) : hasK m k = true := by
  unfold hasK at *
  rw [List.any_eq_true] at *
  obtain ⟨p, hp, e⟩ := h
  exact ⟨p, hs p hp, e⟩
theorem last_take {α : Type} {l : List α} {u : α} (h : l[l.length - 1]? = some u) (h0 : 0 < l.length) : l.take (l.length - 1) ++ [u] = l := by
  rw [← drop_one h h0, List.take_append_drop]
theorem kl (N : List Nd) {h : Nat} {c : Tr} (hl : Lay N h c) : h ≠ 0 → c.ks.length = c.ps.length + 1 := (lay_iff.1 hl).2.2
theorem ks0 {N : List Nd} {h : Nat} {c : Tr} (hl : Lay N h c) (h0 : h = 0) : c.ks = [] := by subst h0; exact hl.1
structure FeedOk (T : TS) (h lo i : Nat) (ps : List Pr) (K1 : List Tr) (c : Tr) (K2 : List Tr) (T1 : TS) (ps1 : List Pr) (L1 : List Tr) (c' : Tr) (L2 : List Tr) : Prop where
  feed : FeedR T i K1.length T1 c'.i
  good : Gd T1 (h + 1) lo (.node i ps1 (L1 ++ c' :: L2))
  step : Step T (h + 1) (.node i ps (K1 ++ c :: K2)) T1 (h + 1) (.node i ps1 (L1 ++ c' :: L2))
  flat : flat (h + 1) (.node i ps1 (L1 ++ c' :: L2)) = flat (h + 1) (.node i ps (K1 ++ c :: K2))
  more : 3 ≤ c'.ps.length
  has : ∀ p ∈ Ow.flat h c, p ∈ Ow.flat h c'
  cnt : T1.count = T.count
  len : T1.nodes.length = T.nodes.length
  fst : K1 = [] → L1 = []
  lst : K2 = [] → L2 = []
  fr : T1.free.length ≤ T.free.length + 1
section
variable {T : TS} {h lo i : Nat} {A B : List Pr} {p : Pr} {K1 K2 : List Tr} {a b : Tr}
/-- The kid at the right gets a key of the one at the left. -/
theorem feed_lendL (g : Gd T (h + 1) lo (.node i (A ++ p :: B) (K1 ++ a :: b :: K2))) (hl : K1.length = A.length) (ha : 2 < a.ps.length) (hb : b.ps.length ≤ 2) (hf : T.free.length ≤ 1099511627776) :
    ∃ T1 ps1 L1 c' L2, FeedOk T h lo i (A ++ p :: B) (K1 ++ [a]) b K2 T1 ps1 L1 c' L2 := by
  obtain ⟨n1, n2, n3, n4, l1, l2, l3, hnd⟩ := pair_known g
  have hla := g.lay.2.2 a (by simp [Tr.ks])
  have hlb := g.lay.2.2 b (by simp [Tr.ks])
  have hsa := g.siz.2.2 a (by simp [Tr.ks])
  have hsb := g.siz.2.2 b (by simp [Tr.ks])
  have ha5 := hsa.le
  have hb2 := hsb.ge
  have ka := kl _ hla
  have kb := kl _ hlb
  obtain ⟨u, hu⟩ : ∃ u, a.ps[a.ps.length - 1]? = some u := ⟨_, List.getElem?_eq_getElem (by omega)⟩
  have hau := last_take hu (by omega)
  have hl0 : (A ++ p :: B).length ≤ 5 := g.siz.2.1
  have hk0 : (K1 ++ a :: b :: K2).length = (A ++ p :: B).length + 1 := g.lay.1
  have hlen : A.length + 1 - 1 = A.length := by omega
  obtain ⟨N', hN'⟩ : ∃ N', N' = (lendL T i (A.length + 1) b.i a.i ⟨A ++ p :: B, (K1 ++ a :: b :: K2).map Tr.i⟩ ⟨b.ps, b.ks.map Tr.i⟩ ⟨a.ps, a.ks.map Tr.i⟩ p u).nodes := ⟨_, rfl⟩
  have hT1 : lendL T i (A.length + 1) b.i a.i ⟨A ++ p :: B, (K1 ++ a :: b :: K2).map Tr.i⟩ ⟨b.ps, b.ks.map Tr.i⟩ ⟨a.ps, a.ks.map Tr.i⟩ p u = ⟨N', T.free, T.root, T.count⟩ := by rw [hN']; rfl
  have hNl : N'.length = T.nodes.length := by rw [hN']; simp [lendL, TS.setN]
  have hkd : (if (a.ks.map Tr.i).length = 0 then b.ks.map Tr.i else (a.ks.map Tr.i).drop ((a.ks.map Tr.i).length - 1) ++ b.ks.map Tr.i) = (a.ks.drop (a.ks.length - 1) ++ b.ks).map Tr.i := by
    split
    · rename_i h0
      have : a.ks = [] := by simpa using h0
      rw [this]; rfl
    · simp
  obtain ⟨g', s'⟩ := pair_good (u := u) (a' := .node a.i (a.ps.take (a.ps.length - 1)) (a.ks.take (a.ks.length - 1))) (b' := .node b.i (p :: b.ps) (a.ks.drop (a.ks.length - 1) ++ b.ks)) g hNl
    (by rw [hN']; unfold lendL TS.setN; dsimp only; rw [List.getElem?_set_ne n1, List.getElem?_set_self (by simpa using l1), hlen, set_mid rfl])
    (by rw [hN']; unfold lendL TS.setN; dsimp only; rw [List.getElem?_set_self (by simpa using l2)]; simp [Tr.ps, Tr.ks])
    (by rw [hN']; unfold lendL TS.setN; dsimp only; rw [List.getElem?_set_ne n3, List.getElem?_set_ne (Ne.symm n2), List.getElem?_set_self (by simpa using l3), hkd]; rfl)
    (fun j h1 h2 h3 => by rw [hN']; unfold lendL TS.setN; dsimp only; rw [List.getElem?_set_ne (Ne.symm h2), List.getElem?_set_ne (Ne.symm h1), List.getElem?_set_ne (Ne.symm h3)])
    rfl rfl (by show a.ks.take _ ++ (a.ks.drop _ ++ b.ks) = _; rw [← List.append_assoc, List.take_append_drop])
    (fun h0 => by have := ka h0; show (a.ks.take _).length = (a.ps.take _).length + 1; rw [List.length_take, List.length_take]; omega)
    (fun h0 => by have := ka h0; have := kb h0; show (a.ks.drop _ ++ b.ks).length = (p :: b.ps).length + 1; rw [List.length_append, List.length_drop, List.length_cons]; omega)
    (by show 2 ≤ (a.ps.take _).length ∧ (a.ps.take _).length ≤ 5; rw [List.length_take]; omega)
    (by show 2 ≤ (p :: b.ps).length ∧ (p :: b.ps).length ≤ 5; rw [List.length_cons]; omega)
  have e1 := flat_join (h := h) (j := 0) (j1 := a.i) (j2 := b.i) (P := a.ps) (P' := b.ps) (p := p) (Q := a.ks) (Q' := b.ks) ka kb
  have e2 := flat_join (h := h) (j := 0) (j1 := a.i) (j2 := b.i) (P := a.ps.take (a.ps.length - 1)) (P' := p :: b.ps) (p := u) (Q := a.ks.take (a.ks.length - 1)) (Q' := a.ks.drop (a.ks.length - 1) ++ b.ks)
    (fun h0 => by have := ka h0; rw [List.length_take, List.length_take]; omega) (fun h0 => by have := ka h0; have := kb h0; rw [List.length_append, List.length_drop, List.length_cons]; omega)
  rw [← List.append_assoc, List.take_append_drop, show a.ps.take (a.ps.length - 1) ++ u :: p :: b.ps = (a.ps.take (a.ps.length - 1) ++ [u]) ++ p :: b.ps by simp, hau, e1, Tr.eta, Tr.eta] at e2
  have e3 := flat_join (h := h) (j := b.i) (j1 := 0) (j2 := b.i) (P := []) (P' := b.ps) (p := p) (Q := a.ks.drop (a.ks.length - 1)) (Q' := b.ks) (fun h0 => by have := ka h0; rw [List.length_drop]; simp; omega) kb
  rw [Tr.eta, List.nil_append] at e3
  have hq : (K1 ++ [a]).length = A.length + 1 := by simp [hl]
  have hks : (K1 ++ [a]) ++ b :: K2 = K1 ++ a :: b :: K2 := by simp
  refine ⟨⟨N', T.free, T.root, T.count⟩, A ++ u :: B, K1 ++ [.node a.i (a.ps.take (a.ps.length - 1)) (a.ks.take (a.ks.length - 1))], .node b.i (p :: b.ps) (a.ks.drop (a.ks.length - 1) ++ b.ks), K2, ⟨?_, ?_, ?_, ?_, ?_, ?_, rfl, hNl, fun h0 => by simp at h0, fun h0 => h0, Nat.le_succ _⟩⟩
  · rw [hq]
    refine ⟨A ++ p :: B, (K1 ++ a :: b :: K2).map Tr.i, b.i, b.ps, b.ks.map Tr.i, g.lay.2.1, hl0, by rw [List.length_map]; omega, hf, ?_, hlb.at, n2, by omega, ks_len hlb hsb, .inr (.inl ⟨a.i, a.ps, a.ks.map Tr.i, p, u, hb, by omega, ?_, hla.at, ha, ha5, ks_len hla hsa, n1, Ne.symm n3, ?_, hu, hT1.symm, rfl⟩)⟩
    · rw [List.getElem?_map, at_mid1 hl]; rfl
    · rw [hlen, List.getElem?_map, at_mid hl]; rfl
    · rw [hlen]; exact at_mid rfl
  · rw [List.append_assoc]; exact g'
  · rw [hks, List.append_assoc]; exact s'
  · rw [hks, List.append_assoc, List.singleton_append, flat_pair hl, flat_pair hl, e2]
  · show 3 ≤ (p :: b.ps).length
    rw [List.length_cons]; omega
  · intro x hx
    rw [e3]; simp [hx]
/-- The kid at the left gets a key of the one at the right. -/
theorem feed_lendR (g : Gd T (h + 1) lo (.node i (A ++ p :: B) (K1 ++ a :: b :: K2))) (hl : K1.length = A.length) (ha : a.ps.length ≤ 2) (hb : 2 < b.ps.length) (hf : T.free.length ≤ 1099511627776)
    (hno : K1 = [] ∨ ∃ K0 e, K1 = K0 ++ [e] ∧ e.ps.length ≤ 2) :
    ∃ T1 ps1 L1 c' L2, FeedOk T h lo i (A ++ p :: B) K1 a (b :: K2) T1 ps1 L1 c' L2 := by
  obtain ⟨n1, n2, n3, n4, l1, l2, l3, hnd⟩ := pair_known g
  have hla := g.lay.2.2 a (by simp [Tr.ks])
  have hlb := g.lay.2.2 b (by simp [Tr.ks])
  have hsa := g.siz.2.2 a (by simp [Tr.ks])
  have hsb := g.siz.2.2 b (by simp [Tr.ks])
  have hb5 := hsb.le
  have ha2 := hsa.ge
  have ka := kl _ hla
  have kb := kl _ hlb
  obtain ⟨u, hu⟩ : ∃ u, b.ps[0]? = some u := ⟨_, List.getElem?_eq_getElem (by omega)⟩
  have hbu : u :: b.ps.drop 1 = b.ps := by
    obtain ⟨h1, h2⟩ := List.getElem?_eq_some_iff.1 hu
    rw [← h2, ← List.drop_eq_getElem_cons h1]; rfl
  have hl0 : (A ++ p :: B).length ≤ 5 := g.siz.2.1
  have hk0 : (K1 ++ a :: b :: K2).length = (A ++ p :: B).length + 1 := g.lay.1
  obtain ⟨N', hN'⟩ : ∃ N', N' = (lendR T i A.length a.i b.i ⟨A ++ p :: B, (K1 ++ a :: b :: K2).map Tr.i⟩ ⟨a.ps, a.ks.map Tr.i⟩ ⟨b.ps, b.ks.map Tr.i⟩ p u).nodes := ⟨_, rfl⟩
  have hT1 : lendR T i A.length a.i b.i ⟨A ++ p :: B, (K1 ++ a :: b :: K2).map Tr.i⟩ ⟨a.ps, a.ks.map Tr.i⟩ ⟨b.ps, b.ks.map Tr.i⟩ p u = ⟨N', T.free, T.root, T.count⟩ := by rw [hN']; rfl
  have hNl : N'.length = T.nodes.length := by rw [hN']; simp [lendR, TS.setN]
  have hkd : (if (b.ks.map Tr.i).length = 0 then a.ks.map Tr.i else a.ks.map Tr.i ++ (b.ks.map Tr.i).take 1) = (a.ks ++ b.ks.take 1).map Tr.i := by
    split
    · rename_i h0
      have : b.ks = [] := by simpa using h0
      rw [this]; simp
    · simp
  obtain ⟨g', s'⟩ := pair_good (u := u) (a' := .node a.i (a.ps ++ [p]) (a.ks ++ b.ks.take 1)) (b' := .node b.i (b.ps.drop 1) (b.ks.drop 1)) g hNl
    (by rw [hN']; unfold lendR TS.setN; dsimp only; rw [List.getElem?_set_ne n2, List.getElem?_set_self (by simpa using l1), set_mid rfl])
    (by rw [hN']; unfold lendR TS.setN; dsimp only; rw [List.getElem?_set_ne (Ne.symm n3), List.getElem?_set_ne (Ne.symm n1), List.getElem?_set_self (by simpa using l2), hkd]; rfl)
    (by rw [hN']; unfold lendR TS.setN; dsimp only; rw [List.getElem?_set_self (by simpa using l3)]; simp [Tr.ps, Tr.ks])
    (fun j h1 h2 h3 => by rw [hN']; unfold lendR TS.setN; dsimp only; rw [List.getElem?_set_ne (Ne.symm h3), List.getElem?_set_ne (Ne.symm h1), List.getElem?_set_ne (Ne.symm h2)])
    rfl rfl (by show (a.ks ++ b.ks.take 1) ++ b.ks.drop 1 = _; rw [List.append_assoc, List.take_append_drop])
    (fun h0 => by have := ka h0; have := kb h0; show (a.ks ++ b.ks.take 1).length = (a.ps ++ [p]).length + 1; rw [List.length_append, List.length_append, List.length_take, List.length_singleton]; omega)
    (fun h0 => by have := kb h0; show (b.ks.drop 1).length = (b.ps.drop 1).length + 1; rw [List.length_drop, List.length_drop]; omega)
    (by show 2 ≤ (a.ps ++ [p]).length ∧ (a.ps ++ [p]).length ≤ 5; rw [List.length_append, List.length_singleton]; omega)
    (by show 2 ≤ (b.ps.drop 1).length ∧ (b.ps.drop 1).length ≤ 5; rw [List.length_drop]; omega)
  have e1 := flat_join (h := h) (j := 0) (j1 := a.i) (j2 := b.i) (P := a.ps) (P' := b.ps) (p := p) (Q := a.ks) (Q' := b.ks) ka kb
  have e2 := flat_join (h := h) (j := 0) (j1 := a.i) (j2 := b.i) (P := a.ps ++ [p]) (P' := b.ps.drop 1) (p := u) (Q := a.ks ++ b.ks.take 1) (Q' := b.ks.drop 1)
    (fun h0 => by have := ka h0; have := kb h0; rw [List.length_append, List.length_append, List.length_take, List.length_singleton]; omega) (fun h0 => by have := kb h0; rw [List.length_drop, List.length_drop]; omega)
  rw [List.append_assoc a.ks, List.take_append_drop, List.append_assoc, List.singleton_append, hbu, e1, Tr.eta, Tr.eta] at e2
  have e3 := flat_join (h := h) (j := a.i) (j1 := a.i) (j2 := 0) (P := a.ps) (P' := []) (p := p) (Q := a.ks) (Q' := b.ks.take 1) ka (fun h0 => by have := kb h0; rw [List.length_take]; simp; omega)
  rw [Tr.eta] at e3
  refine ⟨⟨N', T.free, T.root, T.count⟩, A ++ u :: B, K1, .node a.i (a.ps ++ [p]) (a.ks ++ b.ks.take 1), .node b.i (b.ps.drop 1) (b.ks.drop 1) :: K2, ⟨?_, g', s', ?_, ?_, ?_, rfl, hNl, fun h0 => h0, fun h0 => (by cases h0), Nat.le_succ _⟩⟩
  · rw [hl]
    refine ⟨A ++ p :: B, (K1 ++ a :: b :: K2).map Tr.i, a.i, a.ps, a.ks.map Tr.i, g.lay.2.1, hl0, by rw [List.length_map]; omega, hf, ?_, hla.at, n1, by omega, ks_len hla hsa, .inr (.inr (.inl ⟨b.i, b.ps, b.ks.map Tr.i, p, u, ha, ?_, ?_, hlb.at, hb, hb5, ks_len hlb hsb, n2, n3, at_mid rfl, hu, hT1.symm, rfl⟩))⟩
    · rw [List.getElem?_map, at_mid hl]; rfl
    · rcases hno with h0 | ⟨K0, e, h0, h1⟩
      · left; rw [← hl, h0]; rfl
      · right
        have he : e ∈ K1 ++ a :: b :: K2 := by rw [h0]; simp
        have hK : A.length = K0.length + 1 := by rw [← hl, h0]; simp
        refine ⟨e.i, e.ps, e.ks.map Tr.i, by omega, ?_, (g.lay.2.2 e he).at, h1⟩
        rw [hK, List.getElem?_map, h0, show K0 ++ [e] ++ a :: b :: K2 = K0 ++ e :: a :: b :: K2 by simp, show K0.length + 1 - 1 = K0.length by omega, at_mid rfl]; rfl
    · rw [List.getElem?_map, at_mid1 hl]; rfl
  · rw [flat_pair hl, flat_pair hl, e2]
  · show 3 ≤ (a.ps ++ [p]).length
    rw [List.length_append, List.length_singleton]; omega
  · intro x hx
    rw [e3]; simp [hx]
end
end Go.Proofs.Ytbmpdccoffkjgaa.Ow
