/- A child is fed: the tree holds what it held. -/
import Derived.Test.YtbmpdccoffkjgaaBtz
namespace Go.Proofs.Ytbmpdccoffkjgaa.Ow
open Go
set_option linter.unusedVariables false
theorem split_at {α : Type} {l : List α} {n : Nat} (h : n < l.length) : ∃ A p B, l = A ++ p :: B ∧ A.length = n :=
  ⟨l.take n, l[n], l.drop (n + 1), by rw [← List.drop_eq_getElem_cons h, List.take_append_drop], by rw [List.length_take]; omega⟩
theorem at_mid {α : Type} {A B : List α} {p : α} {n : Nat} (h : A.length = n) : (A ++ p :: B)[n]? = some p := by
  rw [List.getElem?_append_right (by omega), h, Nat.sub_self]; rfl
theorem at_mid1 {α : Type} {A B : List α} {p q : α} {n : Nat} (h : A.length = n) : (A ++ p :: q :: B)[n + 1]? = some q := by
  rw [List.getElem?_append_right (by omega), h, show n + 1 - n = 1 by omega]; rfl
theorem take_mid {α : Type} {A B : List α} {p : α} {n : Nat} (h : A.length = n) : (A ++ p :: B).take n = A := List.take_left' h
theorem drop_mid {α : Type} {A B : List α} {p : α} {n : Nat} (h : A.length = n) : (A ++ p :: B).drop (n + 1) = B := by
  rw [show A ++ p :: B = (A ++ [p]) ++ B by simp, List.drop_left' (by simp [h])]
theorem set_mid {α : Type} {A B : List α} {p u : α} {n : Nat} (h : A.length = n) : (A ++ p :: B).set n u = A ++ u :: B := by
  rw [List.set_append_right _ _ (by omega), h, Nat.sub_self]; rfl
/-- Two nodes' keys and kids together. -/
theorem flat_join {h j j1 j2 : Nat} {P P' : List Pr} {p : Pr} {Q Q' : List Tr} (h1 : h ≠ 0 → Q.length = P.length + 1) (h2 : h ≠ 0 → Q'.length = P'.length + 1) :
    flat h (.node j (P ++ p :: P') (Q ++ Q')) = flat h (.node j1 P Q) ++ p :: flat h (.node j2 P' Q') := by
  cases h with
  | zero => rfl
  | succ h =>
    show inter ((Q ++ Q').map (flat h)) (P ++ p :: P') = inter (Q.map (flat h)) P ++ p :: inter (Q'.map (flat h)) P'
    rw [List.map_append]
    exact inter_join p (by rw [List.length_map]; exact h1 (by omega)) (by rw [List.length_map]; exact h2 (by omega))
theorem flat_pair {h i : Nat} {A B : List Pr} {p : Pr} {K1 K2 : List Tr} {a b : Tr} (hl : K1.length = A.length) : flat (h + 1) (.node i (A ++ p :: B) (K1 ++ a :: b :: K2)) = pre (K1.map (flat h)) A ++ ((flat h a ++ p :: flat h b) ++ suf B (K2.map (flat h))) := by
  have := inter_split (K1 := K1.map (flat h)) (A := A) (flat h a) ((b :: K2).map (flat h)) (p :: B) (by simpa using hl)
  show inter ((K1 ++ a :: b :: K2).map (flat h)) (A ++ p :: B) = _
  rw [List.map_append, List.map_cons, this]
  simp [suf]
theorem flat_one {h i : Nat} {A B : List Pr} {K1 K2 : List Tr} {a : Tr} (hl : K1.length = A.length) : flat (h + 1) (.node i (A ++ B) (K1 ++ a :: K2)) = pre (K1.map (flat h)) A ++ (flat h a ++ suf B (K2.map (flat h))) := by
  have := inter_split (K1 := K1.map (flat h)) (A := A) (flat h a) (K2.map (flat h)) B (by simpa using hl)
  show inter ((K1 ++ a :: K2).map (flat h)) (A ++ B) = _
  rw [List.map_append, List.map_cons, this]
theorem hasK_sub {l m : List Pr} {k : ByteArray} (hs : ∀ p ∈ l, p ∈ m) (h : hasK l k = true) : hasK m k = true := by
  unfold hasK at *
  rw [List.any_eq_true] at *
  obtain ⟨p, hp, e⟩ := h
  exact ⟨p, hs p hp, e⟩
theorem last_take {α : Type} {l : List α} {u : α} (h : l[l.length - 1]? = some u) (h0 : 0 < l.length) : l.take (l.length - 1) ++ [u] = l := by
  rw [← drop_one h h0, List.take_append_drop]
theorem kl (N : List Nd) {h : Nat} {c : Tr} (hl : Lay N h c) : h ≠ 0 → c.ks.length = c.ps.length + 1 := (lay_iff.1 hl).2.2
theorem ks0 {N : List Nd} {h : Nat} {c : Tr} (hl : Lay N h c) (h0 : h = 0) : c.ks = [] := by subst h0; exact hl.1
structure FeedOk (T : TS) (h lo i : Nat) (ps : List Pr) (K1 : List Tr) (c : Tr) (K2 : List Tr) (T1 : TS) (ps1 : List Pr) (L1 : List Tr) (c' : Tr) (L2 : List Tr) : Prop where
  feed : FeedR T i K1.length T1 c'.i
  good : Gd T1 (h + 1) lo (.node i ps1 (L1 ++ c' :: L2))
  step : Step T (h + 1) (.node i ps (K1 ++ c :: K2)) T1 (h + 1) (.node i ps1 (L1 ++ c' :: L2))
  flat : flat (h + 1) (.node i ps1 (L1 ++ c' :: L2)) = flat (h + 1) (.node i ps (K1 ++ c :: K2))
  more : 3 ≤ c'.ps.length
  has : ∀ p ∈ Ow.flat h c, p ∈ Ow.flat h c'
  cnt : T1.count = T.count
  len : T1.nodes.length = T.nodes.length
  fst : K1 = [] → L1 = []
  lst : K2 = [] → L2 = []
  fr : T1.free.length ≤ T.free.length + 1
section
variable {T : TS} {h lo i : Nat} {A B : List Pr} {p : Pr} {K1 K2 : List Tr} {a b : Tr}
/-- The kid at the right gets a key of the one at the left. -/
theorem feed_lendL (g : Gd T (h + 1) lo (.node i (A ++ p :: B) (K1 ++ a :: b :: K2))) (hl : K1.length = A.length) (ha : 2 < a.ps.length) (hb : b.ps.length ≤ 2) (hf : T.free.length ≤ 1099511627776) :
    ∃ T1 ps1 L1 c' L2, FeedOk T h lo i (A ++ p :: B) (K1 ++ [a]) b K2 T1 ps1 L1 c' L2 := by
  obtain ⟨n1, n2, n3, n4, l1, l2, l3, hnd⟩ := pair_known g
  have hla := g.lay.2.2 a (by simp [Tr.ks])
  have hlb := g.lay.2.2 b (by simp [Tr.ks])
  have hsa := g.siz.2.2 a (by simp [Tr.ks])
  have hsb := g.siz.2.2 b (by simp [Tr.ks])
  have ha5 := hsa.le
  have hb2 := hsb.ge
  have ka := kl _ hla
  have kb := kl _ hlb
  obtain ⟨u, hu⟩ : ∃ u, a.ps[a.ps.length - 1]? = some u := ⟨_, List.getElem?_eq_getElem (by omega)⟩
  have hau := last_take hu (by omega)
  have hl0 : (A ++ p :: B).length ≤ 5 := g.siz.2.1
  have hk0 : (K1 ++ a :: b :: K2).length = (A ++ p :: B).length + 1 := g.lay.1
  have hlen : A.length + 1 - 1 = A.length := by omega
  obtain ⟨N', hN'⟩ : ∃ N', N' = (lendL T i (A.length + 1) b.i a.i ⟨A ++ p :: B, (K1 ++ a :: b :: K2).map Tr.i⟩ ⟨b.ps, b.ks.map Tr.i⟩ ⟨a.ps, a.ks.map Tr.i⟩ p u).nodes := ⟨_, rfl⟩
  have hT1 : lendL T i (A.length + 1) b.i a.i ⟨A ++ p :: B, (K1 ++ a :: b :: K2).map Tr.i⟩ ⟨b.ps, b.ks.map Tr.i⟩ ⟨a.ps, a.ks.map Tr.i⟩ p u = ⟨N', T.free, T.root, T.count⟩ := by rw [hN']; rfl
  have hNl : N'.length = T.nodes.length := by rw [hN']; simp [lendL, TS.setN]
  have hkd : (if (a.ks.map Tr.i).length = 0 then b.ks.map Tr.i else (a.ks.map Tr.i).drop ((a.ks.map Tr.i).length - 1) ++ b.ks.map Tr.i) = (a.ks.drop (a.ks.length - 1) ++ b.ks).map Tr.i := by
    split
    · rename_i h0
      have : a.ks = [] := by simpa using h0
      rw [this]; rfl
    · simp
  obtain ⟨g', s'⟩ := pair_good (u := u) (a' := .node a.i (a.ps.take (a.ps.length - 1)) (a.ks.take (a.ks.length - 1))) (b' := .node b.i (p :: b.ps) (a.ks.drop (a.ks.length - 1) ++ b.ks)) g hNl
    (by rw [hN']; unfold lendL TS.setN; dsimp only; rw [List.getElem?_set_ne n1, List.getElem?_set_self (by simpa using l1), hlen, set_mid rfl])
    (by rw [hN']; unfold lendL TS.setN; dsimp only; rw [List.getElem?_set_self (by simpa using l2)]; simp [Tr.ps, Tr.ks])
    (by rw [hN']; unfold lendL TS.setN; dsimp only; rw [List.getElem?_set_ne n3, List.getElem?_set_ne (Ne.symm n2), List.getElem?_set_self (by simpa using l3), hkd]; rfl)
    (fun j h1 h2 h3 => by rw [hN']; unfold lendL TS.setN; dsimp only; rw [List.getElem?_set_ne (Ne.symm h2), List.getElem?_set_ne (Ne.symm h1), List.getElem?_set_ne (Ne.symm h3)])
    rfl rfl (by show a.ks.take _ ++ (a.ks.drop _ ++ b.ks) = _; rw [← List.append_assoc, List.take_append_drop])
    (fun h0 => by have := ka h0; show (a.ks.take _).length = (a.ps.take _).length + 1; rw [List.length_take, List.length_take]; omega)
    (fun h0 => by have := ka h0; have := kb h0; show (a.ks.drop _ ++ b.ks).length = (p :: b.ps).length + 1; rw [List.length_append, List.length_drop, List.length_cons]; omega)
    (by show 2 ≤ (a.ps.take _).length ∧ (a.ps.take _).length ≤ 5; rw [List.length_take]; omega)
    (by show 2 ≤ (p :: b.ps).length ∧ (p :: b.ps).length ≤ 5; rw [List.length_cons]; omega)
  have e1 := flat_join (h := h) (j := 0) (j1 := a.i) (j2 := b.i) (P := a.ps) (P' := b.ps) (p := p) (Q := a.ks) (Q' := b.ks) ka kb
  have e2 := flat_join (h := h) (j := 0) (j1 := a.i) (j2 := b.i) (P := a.ps.take (a.ps.length - 1)) (P' := p :: b.ps) (p := u) (Q := a.ks.take (a.ks.length - 1)) (Q' := a.ks.drop (a.ks.length - 1) ++ b.ks)
    (fun h0 => by have := ka h0; rw [List.length_take, List.length_take]; omega) (fun h0 => by have := ka h0; have := kb h0; rw [List.length_append, List.length_drop, List.length_cons]; omega)
  rw [← List.append_assoc, List.take_append_drop, show a.ps.take (a.ps.length - 1) ++ u :: p :: b.ps = (a.ps.take (a.ps.length - 1) ++ [u]) ++ p :: b.ps by simp, hau, e1, Tr.eta, Tr.eta] at e2
  have e3 := flat_join (h := h) (j := b.i) (j1 := 0) (j2 := b.i) (P := []) (P' := b.ps) (p := p) (Q := a.ks.drop (a.ks.length - 1)) (Q' := b.ks) (fun h0 => by have := ka h0; rw [List.length_drop]; simp; omega) kb
  rw [Tr.eta, List.nil_append] at e3
  have hq : (K1 ++ [a]).length = A.length + 1 := by simp [hl]
  have hks : (K1 ++ [a]) ++ b :: K2 = K1 ++ a :: b :: K2 := by simp
  refine ⟨⟨N', T.free, T.root, T.count⟩, A ++ u :: B, K1 ++ [.node a.i (a.ps.take (a.ps.length - 1)) (a.ks.take (a.ks.length - 1))], .node b.i (p :: b.ps) (a.ks.drop (a.ks.length - 1) ++ b.ks), K2, ⟨?_, ?_, ?_, ?_, ?_, ?_, rfl, hNl, fun h0 => by simp at h0, fun h0 => h0, Nat.le_succ _⟩⟩
  · rw [hq]
    refine ⟨A ++ p :: B, (K1 ++ a :: b :: K2).map Tr.i, b.i, b.ps, b.ks.map Tr.i, g.lay.2.1, hl0, by rw [List.length_map]; omega, hf, ?_, hlb.at, n2, by omega, ks_len hlb hsb, .inr (.inl ⟨a.i, a.ps, a.ks.map Tr.i, p, u, hb, by omega, ?_, hla.at, ha, ha5, ks_len hla hsa, n1, Ne.symm n3, ?_, hu, hT1.symm, rfl⟩)⟩
    · rw [List.getElem?_map, at_mid1 hl]; rfl
    · rw [hlen, List.getElem?_map, at_mid hl]; rfl
    · rw [hlen]; exact at_mid rfl
  · rw [List.append_assoc]; exact g'
  · rw [hks, List.append_assoc]; exact s'
  · rw [hks, List.append_assoc, List.singleton_append, flat_pair hl, flat_pair hl, e2]
  · show 3 ≤ (p :: b.ps).length
    rw [List.length_cons]; omega
  · intro x hx
    rw [e3]; simp [hx]
/-- The kid at the left gets a key of the one at the right. -/
theorem feed_lendR (g : Gd T (h + 1) lo (.node i (A ++ p :: B) (K1 ++ a :: b :: K2))) (hl : K1.length = A.length) (ha : a.ps.length ≤ 2) (hb : 2 < b.ps.length) (hf : T.free.length ≤ 1099511627776)
    (hno : K1 = [] ∨ ∃ K0 e, K1 = K0 ++ [e] ∧ e.ps.length ≤ 2) :
    ∃ T1 ps1 L1 c' L2, FeedOk T h lo i (A ++ p :: B) K1 a (b :: K2) T1 ps1 L1 c' L2 := by
  obtain ⟨n1, n2, n3, n4, l1, l2, l3, hnd⟩ := pair_known g
  have hla := g.lay.2.2 a (by simp [Tr.ks])
  have hlb := g.lay.2.2 b (by simp [Tr.ks])
  have hsa := g.siz.2.2 a (by simp [Tr.ks])
  have hsb := g.siz.2.2 b (by simp [Tr.ks])
  have hb5 := hsb.le
  have ha2 := hsa.ge
  have ka := kl _ hla
  have kb := kl _ hlb
  obtain ⟨u, hu⟩ : ∃ u, b.ps[0]? = some u := ⟨_, List.getElem?_eq_getElem (by omega)⟩
  have hbu : u :: b.ps.drop 1 = b.ps := by
    obtain ⟨h1, h2⟩ := List.getElem?_eq_some_iff.1 hu
    rw [← h2, ← List.drop_eq_getElem_cons h1]; rfl
  have hl0 : (A ++ p :: B).length ≤ 5 := g.siz.2.1
  have hk0 : (K1 ++ a :: b :: K2).length = (A ++ p :: B).length + 1 := g.lay.1
  obtain ⟨N', hN'⟩ : ∃ N', N' = (lendR T i A.length a.i b.i ⟨A ++ p :: B, (K1 ++ a :: b :: K2).map Tr.i⟩ ⟨a.ps, a.ks.map Tr.i⟩ ⟨b.ps, b.ks.map Tr.i⟩ p u).nodes := ⟨_, rfl⟩
  have hT1 : lendR T i A.length a.i b.i ⟨A ++ p :: B, (K1 ++ a :: b :: K2).map Tr.i⟩ ⟨a.ps, a.ks.map Tr.i⟩ ⟨b.ps, b.ks.map Tr.i⟩ p u = ⟨N', T.free, T.root, T.count⟩ := by rw [hN']; rfl
  have hNl : N'.length = T.nodes.length := by rw [hN']; simp [lendR, TS.setN]
  have hkd : (if (b.ks.map Tr.i).length = 0 then a.ks.map Tr.i else a.ks.map Tr.i ++ (b.ks.map Tr.i).take 1) = (a.ks ++ b.ks.take 1).map Tr.i := by
    split
    · rename_i h0
      have : b.ks = [] := by simpa using h0
      rw [this]; simp
    · simp
  obtain ⟨g', s'⟩ := pair_good (u := u) (a' := .node a.i (a.ps ++ [p]) (a.ks ++ b.ks.take 1)) (b' := .node b.i (b.ps.drop 1) (b.ks.drop 1)) g hNl
    (by rw [hN']; unfold lendR TS.setN; dsimp only; rw [List.getElem?_set_ne n2, List.getElem?_set_self (by simpa using l1), set_mid rfl])
    (by rw [hN']; unfold lendR TS.setN; dsimp only; rw [List.getElem?_set_ne (Ne.symm n3), List.getElem?_set_ne (Ne.symm n1), List.getElem?_set_self (by simpa using l2), hkd]; rfl)
    (by rw [hN']; unfold lendR TS.setN; dsimp only; rw [List.getElem?_set_self (by simpa using l3)]; simp [Tr.ps, Tr.ks])
    (fun j h1 h2 h3 => by rw [hN']; unfold lendR TS.setN; dsimp only; rw [List.getElem?_set_ne (Ne.symm h3), List.getElem?_set_ne (Ne.symm h1), List.getElem?_set_ne (Ne.symm h2)])
    rfl rfl (by show (a.ks ++ b.ks.take 1) ++ b.ks.drop 1 = _; rw [List.append_assoc, List.take_append_drop])
    (fun h0 => by have := ka h0; have := kb h0; show (a.ks ++ b.ks.take 1).length = (a.ps ++ [p]).length + 1; rw [List.length_append, List.length_append, List.length_take, List.length_singleton]; omega)
    (fun h0 => by have := kb h0; show (b.ks.drop 1).length = (b.ps.drop 1).length + 1; rw [List.length_drop, List.length_drop]; omega)
    (by show 2 ≤ (a.ps ++ [p]).length ∧ (a.ps ++ [p]).length ≤ 5; rw [List.length_append, List.length_singleton]; omega)
    (by show 2 ≤ (b.ps.drop 1).length ∧ (b.ps.drop 1).length ≤ 5; rw [List.length_drop]; omega)
  have e1 := flat_join (h := h) (j := 0) (j1 := a.i) (j2 := b.i) (P := a.ps) (P' := b.ps) (p := p) (Q := a.ks) (Q' := b.ks) ka kb
  have e2 := flat_join (h := h) (j := 0) (j1 := a.i) (j2 := b.i) (P := a.ps ++ [p]) (P' := b.ps.drop 1) (p := u) (Q := a.ks ++ b.ks.take 1) (Q' := b.ks.drop 1)
    (fun h0 => by have := ka h0; have := kb h0; rw [List.length_append, List.length_append, List.length_take, List.length_singleton]; omega) (fun h0 => by have := kb h0; rw [List.length_drop, List.length_drop]; omega)
  rw [List.append_assoc a.ks, List.take_append_drop, List.append_assoc, List.singleton_append, hbu, e1, Tr.eta, Tr.eta] at e2
  have e3 := flat_join (h := h) (j := a.i) (j1 := a.i) (j2 := 0) (P := a.ps) (P' := []) (p := p) (Q := a.ks) (Q' := b.ks.take 1) ka (fun h0 => by have := kb h0; rw [List.length_take]; simp; omega)
  rw [Tr.eta] at e3
  refine ⟨⟨N', T.free, T.root, T.count⟩, A ++ u :: B, K1, .node a.i (a.ps ++ [p]) (a.ks ++ b.ks.take 1), .node b.i (b.ps.drop 1) (b.ks.drop 1) :: K2, ⟨?_, g', s', ?_, ?_, ?_, rfl, hNl, fun h0 => h0, fun h0 => (by cases h0), Nat.le_succ _⟩⟩
  · rw [hl]
    refine ⟨A ++ p :: B, (K1 ++ a :: b :: K2).map Tr.i, a.i, a.ps, a.ks.map Tr.i, g.lay.2.1, hl0, by rw [List.length_map]; omega, hf, ?_, hla.at, n1, by omega, ks_len hla hsa, .inr (.inr (.inl ⟨b.i, b.ps, b.ks.map Tr.i, p, u, ha, ?_, ?_, hlb.at, hb, hb5, ks_len hlb hsb, n2, n3, at_mid rfl, hu, hT1.symm, rfl⟩))⟩
    · rw [List.getElem?_map, at_mid hl]; rfl
    · rcases hno with h0 | ⟨K0, e, h0, h1⟩
      · left; rw [← hl, h0]; rfl
      · right
        have he : e ∈ K1 ++ a :: b :: K2 := by rw [h0]; simp
        have hK : A.length = K0.length + 1 := by rw [← hl, h0]; simp
        refine ⟨e.i, e.ps, e.ks.map Tr.i, by omega, ?_, (g.lay.2.2 e he).at, h1⟩
        rw [hK, List.getElem?_map, h0, show K0 ++ [e] ++ a :: b :: K2 = K0 ++ e :: a :: b :: K2 by simp, show K0.length + 1 - 1 = K0.length by omega, at_mid rfl]; rfl
    · rw [List.getElem?_map, at_mid1 hl]; rfl
  · rw [flat_pair hl, flat_pair hl, e2]
  · show 3 ≤ (a.ps ++ [p]).length
    rw [List.length_append, List.length_singleton]; omega
  · intro x hx
    rw [e3]; simp [hx]
end
end Go.Proofs.Ytbmpdccoffkjgaa.Ow
namespace Go.Proofs.Ytbmpdccoffkjgaa.Ow
open Go
set_option linter.unusedVariables false
section
variable {T : TS} {h lo i : Nat} {A B : List Pr} {p : Pr} {K1 K2 : List Tr} {a b : Tr}
structure MergeOk (T : TS) (h lo' i : Nat) (A : List Pr) (p : Pr) (B : List Pr) (K1 : List Tr) (a b : Tr) (K2 : List Tr) (T1 : TS) : Prop where
  good : Gd T1 (h + 1) lo' (.node i (A ++ B) (K1 ++ .node a.i (a.ps ++ p :: b.ps) (a.ks ++ b.ks) :: K2))
  step : Step T (h + 1) (.node i (A ++ p :: B) (K1 ++ a :: b :: K2)) T1 (h + 1) (.node i (A ++ B) (K1 ++ .node a.i (a.ps ++ p :: b.ps) (a.ks ++ b.ks) :: K2))
  flat : flat (h + 1) (.node i (A ++ B) (K1 ++ .node a.i (a.ps ++ p :: b.ps) (a.ks ++ b.ks) :: K2)) = flat (h + 1) (.node i (A ++ p :: B) (K1 ++ a :: b :: K2))
  kid : Ow.flat h (.node a.i (a.ps ++ p :: b.ps) (a.ks ++ b.ks)) = Ow.flat h a ++ p :: Ow.flat h b
  cnt : T1.count = T.count
  len : T1.nodes.length = T.nodes.length
  fr : T1.free.length ≤ T.free.length + 1
theorem merge_tree (g : Gd T (h + 1) lo (.node i (A ++ p :: B) (K1 ++ a :: b :: K2))) (hl : K1.length = A.length) (ha : a.ps.length ≤ 2) (hb : b.ps.length ≤ 2) {lo' : Nat} (hlo : lo' ≤ (A ++ B).length) :
    MergeOk T h lo' i A p B K1 a b K2 (mergeT T i A.length a.i b.i ⟨A ++ p :: B, (K1 ++ a :: b :: K2).map Tr.i⟩ ⟨a.ps, a.ks.map Tr.i⟩ ⟨b.ps, b.ks.map Tr.i⟩ p) := by
  obtain ⟨n1, n2, n3, n4, l1, l2, l3, hnd⟩ := pair_known g
  have hla := g.lay.2.2 a (by simp [Tr.ks])
  have hlb := g.lay.2.2 b (by simp [Tr.ks])
  have hsa := g.siz.2.2 a (by simp [Tr.ks])
  have hsb := g.siz.2.2 b (by simp [Tr.ks])
  have ha2 := hsa.ge
  have hb2 := hsb.ge
  have ka := kl _ hla
  have kb := kl _ hlb
  obtain ⟨N', hN'⟩ : ∃ N', N' = (mergeT T i A.length a.i b.i ⟨A ++ p :: B, (K1 ++ a :: b :: K2).map Tr.i⟩ ⟨a.ps, a.ks.map Tr.i⟩ ⟨b.ps, b.ks.map Tr.i⟩ p).nodes := ⟨_, rfl⟩
  have hT1 : mergeT T i A.length a.i b.i ⟨A ++ p :: B, (K1 ++ a :: b :: K2).map Tr.i⟩ ⟨a.ps, a.ks.map Tr.i⟩ ⟨b.ps, b.ks.map Tr.i⟩ p = ⟨N', T.free ++ [b.i], T.root, T.count⟩ := by rw [hN']; rfl
  have hNl : N'.length = T.nodes.length := by rw [hN']; simp [mergeT, dropL, TS.setN]
  have hkk : ((K1 ++ a :: b :: K2).map Tr.i).take (A.length + 1) ++ ((K1 ++ a :: b :: K2).map Tr.i).drop (A.length + 2) = (K1 ++ a :: K2).map Tr.i := by
    have e1 : (K1 ++ a :: b :: K2).map Tr.i = (K1.map Tr.i ++ [a.i]) ++ (b.i :: K2.map Tr.i) := by simp
    have e2 : (K1 ++ a :: b :: K2).map Tr.i = (K1.map Tr.i ++ [a.i, b.i]) ++ K2.map Tr.i := by simp
    conv => lhs; lhs; rw [e1, List.take_left' (by simp [hl])]
    rw [e2, List.drop_left' (by simp [hl])]
    simp
  obtain ⟨g', s'⟩ := merge_good (N' := N') (a' := .node a.i (a.ps ++ p :: b.ps) (a.ks ++ b.ks)) g hlo hNl
    (by rw [hN']; unfold mergeT dropL TS.setN; dsimp only; rw [List.getElem?_set_ne n2, List.getElem?_set_self (by simpa using l1), take_mid rfl, drop_mid rfl, hkk])
    (by rw [hN']; unfold mergeT dropL TS.setN; dsimp only; rw [List.getElem?_set_ne (Ne.symm n3), List.getElem?_set_ne (Ne.symm n1), List.getElem?_set_self (by simpa using l2)]; simp [Tr.ps, Tr.ks])
    (fun j h1 h2 h3 => by rw [hN']; unfold mergeT dropL TS.setN; dsimp only; rw [List.getElem?_set_ne (Ne.symm h3), List.getElem?_set_ne (Ne.symm h1), List.getElem?_set_ne (Ne.symm h2)])
    rfl rfl (fun h0 => by have := ka h0; have := kb h0; show (a.ks ++ b.ks).length = (a.ps ++ p :: b.ps).length + 1; rw [List.length_append, List.length_append, List.length_cons]; omega)
    (by show 2 ≤ (a.ps ++ p :: b.ps).length ∧ (a.ps ++ p :: b.ps).length ≤ 5; rw [List.length_append, List.length_cons]; omega)
  have e1 := flat_join (h := h) (j := a.i) (j1 := a.i) (j2 := b.i) (P := a.ps) (P' := b.ps) (p := p) (Q := a.ks) (Q' := b.ks) ka kb
  rw [Tr.eta, Tr.eta] at e1
  rw [hT1]
  exact ⟨g', s', by rw [flat_one hl, flat_pair hl, e1], e1, rfl, hNl, by simp⟩
theorem feed_mergeL (g : Gd T (h + 1) lo (.node i (A ++ p :: B) (K1 ++ a :: b :: K2))) (hl : K1.length = A.length) (ha : a.ps.length ≤ 2) (hb : b.ps.length ≤ 2) (hf : T.free.length ≤ 1099511627776) (hlo : lo ≤ (A ++ B).length)
    (hno : K2 = [] ∨ ∃ e K3, K2 = e :: K3 ∧ e.ps.length ≤ 2) :
    ∃ T1 ps1 L1 c' L2, FeedOk T h lo i (A ++ p :: B) (K1 ++ [a]) b K2 T1 ps1 L1 c' L2 := by
  obtain ⟨n1, n2, n3, n4, l1, l2, l3, hnd⟩ := pair_known g
  have hla := g.lay.2.2 a (by simp [Tr.ks])
  have hlb := g.lay.2.2 b (by simp [Tr.ks])
  have hsa := g.siz.2.2 a (by simp [Tr.ks])
  have hsb := g.siz.2.2 b (by simp [Tr.ks])
  have ha2 := hsa.ge
  have hl0 : (A ++ p :: B).length ≤ 5 := g.siz.2.1
  have hk0 : (K1 ++ a :: b :: K2).length = (A ++ p :: B).length + 1 := g.lay.1
  have m := merge_tree g hl ha hb hlo
  have hlen : A.length + 1 - 1 = A.length := by omega
  have hks : (K1 ++ [a]) ++ b :: K2 = K1 ++ a :: b :: K2 := by simp
  refine ⟨_, A ++ B, K1, .node a.i (a.ps ++ p :: b.ps) (a.ks ++ b.ks), K2, ⟨?_, m.good, by rw [hks]; exact m.step, by rw [hks]; exact m.flat, ?_, fun x hx => by rw [m.kid]; simp [hx], m.cnt, m.len, fun h0 => by simp at h0, fun h0 => h0, m.fr⟩⟩
  · rw [show (K1 ++ [a]).length = A.length + 1 by simp [hl]]
    refine ⟨A ++ p :: B, (K1 ++ a :: b :: K2).map Tr.i, b.i, b.ps, b.ks.map Tr.i, g.lay.2.1, hl0, by rw [List.length_map]; omega, hf, ?_, hlb.at, n2, by omega, ks_len hlb hsb, .inr (.inr (.inr (.inl ⟨a.i, a.ps, a.ks.map Tr.i, p, hb, by omega, ?_, hla.at, ha, ks_len hla hsa, n1, n3, ?_, ?_, ?_, rfl⟩)))⟩
    · rw [List.getElem?_map, at_mid1 hl]; rfl
    · rw [hlen, List.getElem?_map, at_mid hl]; rfl
    · rcases hno with h0 | ⟨e, K3, h0, h1⟩
      · left; rw [List.length_map, h0]; simp; omega
      · right
        refine ⟨e.i, e.ps, e.ks.map Tr.i, ?_, (g.lay.2.2 e (by rw [h0]; simp [Tr.ks])).at, h1⟩
        rw [List.getElem?_map, h0, show K1 ++ a :: b :: e :: K3 = (K1 ++ [a]) ++ b :: e :: K3 by simp, at_mid1 (by simp [hl])]; rfl
    · rw [hlen]; exact at_mid rfl
    · rw [hlen]
  · show 3 ≤ (a.ps ++ p :: b.ps).length
    rw [List.length_append, List.length_cons]; omega
theorem feed_mergeR (g : Gd T (h + 1) lo (.node i (p :: B) (a :: b :: K2))) (ha : a.ps.length ≤ 2) (hb : b.ps.length ≤ 2) (hf : T.free.length ≤ 1099511627776) (hlo : lo ≤ B.length) :
    ∃ T1 ps1 L1 c' L2, FeedOk T h lo i (p :: B) [] a (b :: K2) T1 ps1 L1 c' L2 := by
  have g0 : Gd T (h + 1) lo (.node i ([] ++ p :: B) ([] ++ a :: b :: K2)) := g
  obtain ⟨n1, n2, n3, n4, l1, l2, l3, hnd⟩ := pair_known g0
  have hla := g.lay.2.2 a (by simp [Tr.ks])
  have hlb := g.lay.2.2 b (by simp [Tr.ks])
  have hsa := g.siz.2.2 a (by simp [Tr.ks])
  have hsb := g.siz.2.2 b (by simp [Tr.ks])
  have ha2 := hsa.ge
  have hl0 : (p :: B).length ≤ 5 := g.siz.2.1
  have hk0 : (a :: b :: K2).length = (p :: B).length + 1 := g.lay.1
  have m := merge_tree g0 rfl ha hb (lo' := lo) hlo
  refine ⟨_, [] ++ B, [], .node a.i (a.ps ++ p :: b.ps) (a.ks ++ b.ks), K2, ⟨?_, m.good, m.step, m.flat, ?_, fun x hx => by rw [m.kid]; simp [hx], m.cnt, m.len, fun h0 => rfl, fun h0 => (by cases h0), m.fr⟩⟩
  · exact ⟨p :: B, (a :: b :: K2).map Tr.i, a.i, a.ps, a.ks.map Tr.i, g.lay.2.1, hl0, by rw [List.length_map]; omega, hf, rfl, hla.at, n1, by omega, ks_len hla hsa, .inr (.inr (.inr (.inr ⟨b.i, b.ps, b.ks.map Tr.i, p, ha, rfl, rfl, hlb.at, hb, ks_len hlb hsb, n2, n3, rfl, rfl, rfl⟩)))⟩
  · show 3 ≤ (a.ps ++ p :: b.ps).length
    rw [List.length_append, List.length_cons]; omega
end
/-- A child is fed in any case. -/
theorem feed_law {T : TS} {h lo i : Nat} {ps : List Pr} {K1 K2 : List Tr} {c : Tr} (g : Gd T (h + 1) lo (.node i ps (K1 ++ c :: K2))) (hps : 1 ≤ ps.length) (hlo : lo + 1 ≤ ps.length ∨ lo = 0) (hf : T.free.length ≤ 1099511627776) :
    ∃ T1 ps1 L1 c' L2, FeedOk T h lo i ps K1 c K2 T1 ps1 L1 c' L2 := by
  have hk0 : (K1 ++ c :: K2).length = ps.length + 1 := g.lay.1
  have hk1 : K1.length + (K2.length + 1) = ps.length + 1 := by simpa using hk0
  have hlc := g.kid.lay
  have hsc := g.kid.siz
  have hci : c.i ≠ i := by
    have hn := (List.nodup_append.1 g.nd).1
    rw [ids_succ, List.nodup_cons] at hn
    exact fun e => hn.1 (by rw [← e]; exact mem_idl (by simp))
  by_cases h3 : 2 < c.ps.length
  · refine ⟨T, ps, K1, c, K2, ⟨⟨ps, (K1 ++ c :: K2).map Tr.i, c.i, c.ps, c.ks.map Tr.i, g.lay.2.1, g.siz.2.1, ?_, hf, ?_, hlc.at, hci, hsc.le, ks_len hlc hsc, .inl ⟨h3, rfl, rfl⟩⟩, g, Step.refl _ _ _, rfl, h3, fun x hx => hx, rfl, rfl, fun h0 => h0, fun h0 => h0, Nat.le_succ _⟩⟩
    · have : ps.length ≤ 5 := g.siz.2.1
      rw [List.length_map]; omega
    · rw [List.getElem?_map, at_mid rfl]; rfl
  · have hc2 : c.ps.length ≤ 2 := by omega
    rcases List.eq_nil_or_concat K1 with rfl | ⟨K0, a, rfl⟩
    · -- no kid at the left
      cases K2 with
      | nil => simp only [List.length_nil] at hk1; omega
      | cons b K2 =>
        cases ps with
        | nil => simp at hps
        | cons p B =>
          by_cases hb : 2 < b.ps.length
          · exact feed_lendR (A := []) g rfl hc2 hb hf (.inl rfl)
          · exact feed_mergeR g hc2 (by omega) hf (by simp at hlo; omega)
    · have hK0 : K0.length < ps.length := by simp at hk1; omega
      obtain ⟨A, p, B, rfl, hA⟩ := split_at hK0
      have g2 : Gd T (h + 1) lo (.node i (A ++ p :: B) (K0 ++ a :: c :: K2)) := by
        have : (K0 ++ [a]) ++ c :: K2 = K0 ++ a :: c :: K2 := by simp
        rw [← this]; simpa using g
      rw [List.concat_eq_append]
      by_cases ha : 2 < a.ps.length
      · exact feed_lendL g2 hA.symm ha hc2 hf
      · have hloAB : lo ≤ (A ++ B).length := by simp at hlo ⊢; omega
        cases K2 with
        | nil => exact feed_mergeL g2 hA.symm (by omega) hc2 hf hloAB (.inl rfl)
        | cons b K2 =>
          by_cases hb : 2 < b.ps.length
          · -- the kid at the right lends
            have hl2 : K0.length + 1 < (A ++ p :: B).length := by simp at hk1 ⊢; omega
            cases B with
            | nil => simp at hl2; omega
            | cons p2 B =>
              have e1 : A ++ p :: p2 :: B = (A ++ [p]) ++ p2 :: B := by simp
              have e2 : K0 ++ a :: c :: b :: K2 = (K0 ++ [a]) ++ c :: b :: K2 := by simp
              rw [e1] at g2 ⊢
              rw [e2] at g2
              exact feed_lendR g2 (by simp [hA]) hc2 hb hf (.inr ⟨K0, a, rfl, by omega⟩)
          · exact feed_mergeL g2 hA.symm (by omega) hc2 hf hloAB (.inr ⟨b, K2, rfl, by omega⟩)
end Go.Proofs.Ytbmpdccoffkjgaa.Ow
namespace Go.Proofs.Ytbmpdccoffkjgaa.Ow
open Go
set_option linter.unusedVariables false
theorem nodup_le : ∀ (n : Nat) (l : List Nat), l.Nodup → (∀ x ∈ l, x < n) → l.length ≤ n
  | 0, l, _, h => by
    have : l = [] := List.eq_nil_iff_forall_not_mem.2 fun x hx => absurd (h x hx) (Nat.not_lt_zero _)
    rw [this]; simp
  | n + 1, l, hd, h => by
    have h1 := nodup_le n (l.erase n) (hd.erase n) fun x hx => by
      have h2 := (hd.mem_erase_iff).1 hx
      have := h x h2.2
      omega
    rw [List.length_erase] at h1
    split at h1 <;> omega
theorem Gd.free_le {T : TS} {h lo : Nat} {t : Tr} (g : Gd T h lo t) : T.free.length ≤ T.nodes.length :=
  nodup_le _ _ (List.nodup_append.1 g.nd).2.1 fun x hx => g.lt x (List.mem_append_right _ hx)
def PopOk (last : Bool) (T : TS) (h : Nat) (t : Tr) : Prop := ∃ m T' t' p, PopR last m T t.i T' p ∧ Gd T' h 2 t' ∧ Step T h t T' h t' ∧ t'.i = t.i ∧ (flat h t = if last then flat h t' ++ [p] else p :: flat h t') ∧ T'.count = T.count ∧ T'.nodes.length = T.nodes.length
theorem pop_law : ∀ {h : Nat} (last : Bool) {T : TS} {t : Tr}, Gd T h 2 t → 3 ≤ t.ps.length → T.nodes.length ≤ 549755813888 → PopOk last T h t
  | 0, last, T, t, g, h3, hb => by
    obtain ⟨i, ps, ks⟩ := t
    have hk : ks = [] := g.lay.1
    subst hk
    have h3' : 3 ≤ ps.length := h3
    have h5 : ps.length ≤ 5 := g.siz.2
    obtain ⟨q, hq⟩ : ∃ q, q = popAt last ps.length := ⟨_, rfl⟩
    have hql : q < ps.length := by rw [hq]; unfold popAt; split <;> omega
    obtain ⟨p, hp⟩ : ∃ p, ps[q]? = some p := ⟨_, List.getElem?_eq_getElem hql⟩
    have hlen : (ps.take q ++ ps.drop (q + 1)).length = ps.length - 1 := by rw [List.length_append, List.length_take, List.length_drop]; omega
    obtain ⟨g', s'⟩ := set_good (ps' := ps.take q ++ ps.drop (q + 1)) g (fun h => absurd rfl h) (show 2 ≤ _ by rw [hlen]; omega) (by rw [hlen]; omega) T.count
    refine ⟨1, _, _, p, ⟨ps, [], g.lay.at, h5, by simp, .inl ⟨rfl, by rw [← hq]; exact hp, by rw [← hq]; rfl⟩⟩, g', s', rfl, ?_, rfl, by show (T.nodes.set i _).length = _; rw [List.length_set]⟩
    show ps = if last = true then (ps.take q ++ ps.drop (q + 1)) ++ [p] else p :: (ps.take q ++ ps.drop (q + 1))
    cases last with
    | true =>
      have hqe : q = ps.length - 1 := by rw [hq]; rfl
      rw [if_pos rfl, List.drop_of_length_le (by omega), List.append_nil, hqe]
      rw [hqe] at hp
      exact (last_take hp (by omega)).symm
    | false =>
      have hqe : q = 0 := by rw [hq]; rfl
      subst hqe
      obtain ⟨h1, h2⟩ := List.getElem?_eq_some_iff.1 hp
      rw [if_neg (by decide), List.take_zero, List.nil_append, ← h2, ← List.drop_eq_getElem_cons h1]; rfl
  | h + 1, last, T, t, g, h3, hb => by
    obtain ⟨i, ps, ks⟩ := t
    have h3' : 3 ≤ ps.length := h3
    have h5 : ps.length ≤ 5 := g.siz.2.1
    have hkl : ks.length = ps.length + 1 := g.lay.1
    have hf := g.free_le
    cases last with
    | true =>
      obtain ⟨K1, c, hks⟩ : ∃ K1 c, ks = K1 ++ c :: [] := by
        rcases List.eq_nil_or_concat ks with rfl | ⟨K1, c, rfl⟩
        · simp at hkl
        · exact ⟨K1, c, by simp⟩
      subst hks
      obtain ⟨T1, ps1, L1, c', L2, f⟩ := feed_law g (by omega) (.inl (by omega)) (by omega)
      have hL2 := f.lst rfl
      subst hL2
      obtain ⟨m, T', c'', p, q1, q2, q3, q4, q5, q6, q7⟩ := pop_law true f.good.kid f.more (by rw [f.len]; exact hb)
      obtain ⟨g', s'⟩ := up_good f.good q2 q3 q4
      have hl1 : L1.length = ps1.length := by have : (L1 ++ c' :: []).length = ps1.length + 1 := f.good.lay.1; simp at this; omega
      refine ⟨m + 1, T', _, p, ⟨ps, (K1 ++ c :: []).map Tr.i, g.lay.at, h5, by rw [List.length_map]; omega, .inr ⟨T1, c'.i, by rw [List.length_map]; omega, ?_, q1⟩⟩, g', f.step.trans s', rfl, ?_, q6.trans f.cnt, q7.trans f.len⟩
      · have : popAt true ((K1 ++ c :: []).map Tr.i).length = K1.length := by unfold popAt; simp
        rw [this]; exact f.feed
      · rw [if_pos rfl, ← f.flat]
        have e1 := flat_one (h := h) (i := i) (A := ps1) (B := []) (K1 := L1) (K2 := []) (a := c') hl1
        have e2 := flat_one (h := h) (i := i) (A := ps1) (B := []) (K1 := L1) (K2 := []) (a := c'') hl1
        rw [List.append_nil] at e1 e2
        rw [e1, e2, q5, if_pos rfl]
        simp [suf]
    | false =>
      obtain ⟨c, K2, hks⟩ : ∃ c K2, ks = [] ++ c :: K2 := by
        cases ks with
        | nil => simp at hkl
        | cons c K2 => exact ⟨c, K2, rfl⟩
      subst hks
      obtain ⟨T1, ps1, L1, c', L2, f⟩ := feed_law g (by omega) (.inl (by omega)) (by omega)
      have hL1 := f.fst rfl
      subst hL1
      obtain ⟨m, T', c'', p, q1, q2, q3, q4, q5, q6, q7⟩ := pop_law false f.good.kid f.more (by rw [f.len]; exact hb)
      obtain ⟨g', s'⟩ := up_good f.good q2 q3 q4
      refine ⟨m + 1, T', _, p, ⟨ps, (([] ++ c :: K2 : List Tr)).map Tr.i, g.lay.at, h5, by rw [List.length_map]; omega, .inr ⟨T1, c'.i, by rw [List.length_map]; omega, f.feed, q1⟩⟩, g', f.step.trans s', rfl, ?_, q6.trans f.cnt, q7.trans f.len⟩
      rw [if_neg (by decide), ← f.flat]
      have e1 := flat_one (h := h) (i := i) (A := []) (B := ps1) (K1 := []) (K2 := L2) (a := c') rfl
      have e2 := flat_one (h := h) (i := i) (A := []) (B := ps1) (K1 := []) (K2 := L2) (a := c'') rfl
      rw [List.nil_append] at e1 e2
      rw [e1, e2, q5, if_neg (by decide)]
      simp [pre]
/-- Where a key is, what stands at its sides is below and above. -/
theorem sides {X M Y : List Pr} {k : ByteArray} (hs : Srt (X ++ (M ++ Y))) (hk : hasK M k = true) : Below' X k ∧ Above Y k := by
  obtain ⟨_, h2, h3⟩ := hs.app
  obtain ⟨_, _, h4⟩ := h2.app
  unfold hasK at hk
  rw [List.any_eq_true] at hk
  obtain ⟨p, hp, e⟩ := hk
  have e := of_decide_eq_true e
  exact ⟨fun x hx => by rw [← e]; exact h3 x hx p (List.mem_append_left _ hp), fun y hy => by rw [← e]; exact h4 p hp y hy⟩
theorem delS_in {X M Y : List Pr} {k : ByteArray} (hs : Srt (X ++ (M ++ Y))) (hk : hasK M k = true) : delS (X ++ (M ++ Y)) k = X ++ (delS M k ++ Y) := by
  obtain ⟨h1, h2⟩ := sides hs hk
  have := delS_mid (M := M) h1 h2
  rw [List.append_assoc, List.append_assoc] at this
  exact this
def RemOk (k : ByteArray) (T : TS) (h lo : Nat) (t : Tr) : Prop := ∃ m T' t', RemR k m T t.i T' ∧ Gd T' h lo t' ∧ Step T h t T' h t' ∧ t'.i = t.i ∧ flat h t' = delS (flat h t) k ∧ T'.count = T.count ∧ T'.nodes.length = T.nodes.length
/-- What was done at a kid that has the key. -/
theorem rem_kid {k : ByteArray} {T1 : TS} {h lo i : Nat} {ps1 : List Pr} {L1 L2 : List Tr} {c' c'' : Tr} (g1 : Gd T1 (h + 1) lo (.node i ps1 (L1 ++ c' :: L2))) (hs : Srt (flat (h + 1) (.node i ps1 (L1 ++ c' :: L2)))) (hk : hasK (flat h c') k = true) (he : flat h c'' = delS (flat h c') k) :
    flat (h + 1) (.node i ps1 (L1 ++ c'' :: L2)) = delS (flat (h + 1) (.node i ps1 (L1 ++ c' :: L2))) k := by
  have hl : (L1 ++ c' :: L2).length = ps1.length + 1 := g1.lay.1
  have hl2 : L1.length = (ps1.take L1.length).length := by rw [List.length_take]; simp at hl; omega
  have e1 := flat_one (h := h) (i := i) (A := ps1.take L1.length) (B := ps1.drop L1.length) (K1 := L1) (K2 := L2) (a := c') hl2
  have e2 := flat_one (h := h) (i := i) (A := ps1.take L1.length) (B := ps1.drop L1.length) (K1 := L1) (K2 := L2) (a := c'') hl2
  rw [List.take_append_drop] at e1 e2
  rw [e1] at hs ⊢
  rw [e2, delS_in hs hk, he]
theorem rem_law {k : ByteArray} : ∀ {h : Nat} {T : TS} {lo : Nat} {t : Tr}, Gd T h lo t → Srt (flat h t) → hasK (flat h t) k = true → (lo + 1 ≤ t.ps.length ∨ lo = 0) → (h ≠ 0 → 1 ≤ t.ps.length) → T.nodes.length ≤ 549755813888 → RemOk k T h lo t
  | 0, T, lo, t, g, hs, hk, hlo, h1, hb => by
    obtain ⟨i, ps, ks⟩ := t
    have hk0 : ks = [] := g.lay.1
    subst hk0
    have h5 : ps.length ≤ 5 := g.siz.2
    have hsp : Srt ps := hs
    have hkp : hasK ps k = true := hk
    have hlo' : lo + 1 ≤ ps.length ∨ lo = 0 := hlo
    obtain ⟨c1, _, c3⟩ := cut3 hsp k
    obtain ⟨p, hp, he, ha⟩ := c3 hkp
    obtain ⟨q1, q2⟩ := List.getElem?_eq_some_iff.1 hp
    have hlen : (ps.take (posK ps k) ++ ps.drop (posK ps k + 1)).length = ps.length - 1 := by rw [List.length_append, List.length_take, List.length_drop]; omega
    obtain ⟨g', s'⟩ := set_good (ps' := ps.take (posK ps k) ++ ps.drop (posK ps k + 1)) g (fun h => absurd rfl h) (show lo ≤ _ by rw [hlen]; omega) (by rw [hlen]; omega) T.count
    have hf := g.free_le
    refine ⟨1, _, _, ⟨ps, [], g.lay.at, hsp, h5, by simp, by omega, .inl ⟨rfl, hkp, rfl⟩⟩, g', s', rfl, ?_, rfl, by show (T.nodes.set i _).length = _; rw [List.length_set]⟩
    show ps.take (posK ps k) ++ ps.drop (posK ps k + 1) = delS ps k
    have e := delS_mid (A := ps.take (posK ps k)) (M := [p]) (B := ps.drop (posK ps k + 1)) c1 ha
    have e0 : ps.take (posK ps k) ++ [p] ++ ps.drop (posK ps k + 1) = ps := by
      rw [List.append_assoc, List.singleton_append, ← q2, ← List.drop_eq_getElem_cons q1, List.take_append_drop]
    rw [e0, ← he, delS_one, he, List.append_nil] at e
    exact e.symm
  | h + 1, T, lo, t, g, hs, hk, hlo, h1, hb => by
    obtain ⟨i, ps, ks⟩ := t
    have h1' : 1 ≤ ps.length := h1 (by omega)
    have h5 : ps.length ≤ 5 := g.siz.2.1
    have hlo' : lo + 1 ≤ ps.length ∨ lo = 0 := hlo
    have hkl : ks.length = ps.length + 1 := g.lay.1
    have hsp : Srt ps := hs.sub (flat_ps g.lay)
    have hf := g.free_le
    obtain ⟨q, hq⟩ : ∃ q, q = posK ps k := ⟨_, rfl⟩
    have hqle : q ≤ ps.length := hq ▸ posK_le ps k
    cases hkp : hasK ps k with
    | false =>
      obtain ⟨c, hcq, _, hch⟩ := get_down g.lay hs (show hasK (Tr.node i ps ks).ps k = false from hkp)
      rw [hk] at hch
      obtain ⟨f1, f2⟩ := List.getElem?_eq_some_iff.1 (show ks[posK ps k]? = some c from hcq)
      obtain ⟨K1, K2, hks, hK1⟩ : ∃ K1 K2, ks = K1 ++ c :: K2 ∧ K1.length = q := ⟨ks.take q, ks.drop (q + 1), by rw [hq, ← f2, ← List.drop_eq_getElem_cons f1, List.take_append_drop], by rw [List.length_take]; omega⟩
      subst hks
      obtain ⟨T1, ps1, L1, c', L2, f⟩ := feed_law g h1' hlo' (by omega)
      have hk' : hasK (flat h c') k = true := hasK_sub f.has hch.symm
      have hs1 : Srt (flat (h + 1) (.node i ps1 (L1 ++ c' :: L2))) := by rw [f.flat]; exact hs
      have hsc : Srt (flat h c') := hs1.sub (flat_kid f.good.lay (by simp [Tr.ks]))
      obtain ⟨m, T', c'', q1, q2, q3, q4, q5, q6, q7⟩ := rem_law f.good.kid hsc hk' (.inl f.more) (fun _ => Nat.le_trans (by decide) f.more) (by rw [f.len]; exact hb)
      obtain ⟨g', s'⟩ := up_good f.good q2 q3 q4
      refine ⟨m + 1, T', _, ⟨ps, (K1 ++ c :: K2).map Tr.i, g.lay.at, hsp, h5, by rw [List.length_map]; omega, by omega, .inr (.inl ⟨T1, c'.i, by rw [List.length_map]; omega, hkp, by rw [← hq, ← hK1]; exact f.feed, q1⟩)⟩, g', f.step.trans s', rfl, ?_, q6.trans f.cnt, q7.trans f.len⟩
      rw [rem_kid f.good hs1 hk' q5, f.flat]
    | true =>
      obtain ⟨p0, hp0, he0⟩ := hasK_get hsp hkp
      rw [← hq] at hp0
      have hql : q < ps.length := (List.getElem?_eq_some_iff.1 hp0).1
      obtain ⟨A, pp, B, hps, hA⟩ := split_at hql
      have hpp : pp = p0 := by rw [hps, at_mid hA] at hp0; exact Option.some.inj hp0
      subst hpp
      obtain ⟨K1, a, K2', hks, hK1⟩ := split_at (show q < ks.length by omega)
      subst hps
      subst hks
      obtain ⟨b, K2, rfl⟩ : ∃ b K2, K2' = b :: K2 := by
        cases K2' with
        | nil => simp at hkl hql; omega
        | cons b K2 => exact ⟨b, K2, rfl⟩
      have hl : K1.length = A.length := by omega
      have hla := g.lay.2.2 a (by simp [Tr.ks])
      have hlb := g.lay.2.2 b (by simp [Tr.ks])
      have hsa := g.siz.2.2 a (by simp [Tr.ks])
      have hsb := g.siz.2.2 b (by simp [Tr.ks])
      obtain ⟨n1, n2, n3, n4, l1, l2, l3, hnd⟩ := pair_known g
      have hqa : ((K1 ++ a :: b :: K2).map Tr.i)[posK (A ++ pp :: B) k]? = some a.i := by rw [← hq, List.getElem?_map, at_mid hK1]; rfl
      have hqb : ((K1 ++ a :: b :: K2).map Tr.i)[posK (A ++ pp :: B) k + 1]? = some b.i := by rw [← hq, List.getElem?_map, at_mid1 hK1]; rfl
      have hkml : 0 < ((K1 ++ a :: b :: K2).map Tr.i).length := by rw [List.length_map]; omega
      have hkm6 : ((K1 ++ a :: b :: K2).map Tr.i).length ≤ 6 := by rw [List.length_map]; omega
      have hset : ∀ x, (A ++ pp :: B).set (posK (A ++ pp :: B) k) x = A ++ x :: B := fun x => by rw [← hq]; exact set_mid hA
      have hfl := flat_pair (h := h) (i := i) (A := A) (B := B) (p := pp) (K1 := K1) (K2 := K2) (a := a) (b := b) hl
      have hdel : delS (flat (h + 1) (.node i (A ++ pp :: B) (K1 ++ a :: b :: K2))) k = pre (K1.map (flat h)) A ++ ((flat h a ++ flat h b) ++ suf B (K2.map (flat h))) := by
        have e : flat (h + 1) (.node i (A ++ pp :: B) (K1 ++ a :: b :: K2)) = (pre (K1.map (flat h)) A ++ flat h a) ++ ([pp] ++ (flat h b ++ suf B (K2.map (flat h)))) := by rw [hfl]; simp
        rw [e] at hs ⊢
        rw [delS_in hs (by rw [hasK_cons]; simp [he0])]
        rw [← he0, delS_one]
        simp
      by_cases ha : 2 < a.ps.length
      · have ga : Gd T h 2 a := g.kid
        obtain ⟨m, T1, a', p, q1, q2, q3, q4, q5, q6, q7⟩ := pop_law true ga ha hb
        obtain ⟨g1, s1⟩ := up_good g q2 q3 q4
        obtain ⟨g2, s2⟩ := set_good (ps' := A ++ p :: B) (lo' := lo) g1 (fun _ => by simp) (by have : lo ≤ (A ++ pp :: B).length := g.siz.1; simp at this ⊢; exact this) (by simp at h5 ⊢; exact h5) T1.count
        refine ⟨1, _, _, ⟨A ++ pp :: B, (K1 ++ a :: b :: K2).map Tr.i, g.lay.at, hsp, h5, hkm6, by omega, .inr (.inr (.inl ⟨a.i, a.ps, a.ks.map Tr.i, T1, p, A ++ pp :: B, (K1 ++ a' :: b :: K2).map Tr.i, m, hkml, hkp, hqa, hla.at, ha, hsa.le, q1, g1.lay.at, by rw [← hq]; exact hql, by rw [hset]; rfl⟩))⟩, g2, s1.trans s2, rfl, ?_, q6, by show (T1.nodes.set i _).length = _; rw [List.length_set]; exact q7⟩
        rw [hdel, flat_pair hl, q5, if_pos rfl]
        simp
      · by_cases hb2 : 2 < b.ps.length
        · have g0 : Gd T (h + 1) lo (.node i (A ++ pp :: B) ((K1 ++ [a]) ++ b :: K2)) := by rw [show (K1 ++ [a]) ++ b :: K2 = K1 ++ a :: b :: K2 by simp]; exact g
          have gb : Gd T h 2 b := g0.kid
          obtain ⟨m, T1, b', p, q1, q2, q3, q4, q5, q6, q7⟩ := pop_law false gb hb2 hb
          obtain ⟨g1, s1⟩ := up_good g0 q2 q3 q4
          rw [show (K1 ++ [a]) ++ b :: K2 = K1 ++ a :: b :: K2 by simp, show (K1 ++ [a]) ++ b' :: K2 = K1 ++ a :: b' :: K2 by simp] at s1
          rw [show (K1 ++ [a]) ++ b' :: K2 = K1 ++ a :: b' :: K2 by simp] at g1
          obtain ⟨g2, s2⟩ := set_good (ps' := A ++ p :: B) (lo' := lo) g1 (fun _ => by simp) (by have : lo ≤ (A ++ pp :: B).length := g.siz.1; simp at this ⊢; exact this) (by simp at h5 ⊢; exact h5) T1.count
          refine ⟨1, _, _, ⟨A ++ pp :: B, (K1 ++ a :: b :: K2).map Tr.i, g.lay.at, hsp, h5, hkm6, by omega, .inr (.inr (.inr (.inl ⟨a.i, a.ps, a.ks.map Tr.i, b.i, b.ps, b.ks.map Tr.i, T1, p, A ++ pp :: B, (K1 ++ a :: b' :: K2).map Tr.i, m, hkml, hkp, hqa, hla.at, by omega, hqb, hlb.at, hb2, hsb.le, q1, g1.lay.at, by rw [← hq]; exact hql, by rw [hset]; rfl⟩)))⟩, g2, s1.trans s2, rfl, ?_, q6, by show (T1.nodes.set i _).length = _; rw [List.length_set]; exact q7⟩
          rw [hdel, flat_pair hl, q5, if_neg (by decide)]
        · have mm := merge_tree g hl (by omega) (by omega) (lo' := lo) (by simp at hlo' ⊢; omega)
          have hkc : hasK (flat h (.node a.i (a.ps ++ pp :: b.ps) (a.ks ++ b.ks))) k = true := by rw [mm.kid, ← he0]; exact hasK_at
          have hs1 : Srt (flat (h + 1) (.node i (A ++ B) (K1 ++ .node a.i (a.ps ++ pp :: b.ps) (a.ks ++ b.ks) :: K2))) := by rw [mm.flat]; exact hs
          have hsc : Srt (flat h (.node a.i (a.ps ++ pp :: b.ps) (a.ks ++ b.ks))) := hs1.sub (flat_kid mm.good.lay (by simp [Tr.ks]))
          have ha2 := hsa.ge
          have hm3 : 3 ≤ (Tr.node a.i (a.ps ++ pp :: b.ps) (a.ks ++ b.ks)).ps.length := by show 3 ≤ (a.ps ++ pp :: b.ps).length; rw [List.length_append, List.length_cons]; omega
          obtain ⟨m, T', c'', q1, q2, q3, q4, q5, q6, q7⟩ := rem_law mm.good.kid hsc hkc (.inl hm3) (fun _ => Nat.le_trans (by decide) hm3) (by rw [mm.len]; exact hb)
          obtain ⟨g', s'⟩ := up_good mm.good q2 q3 q4
          refine ⟨m + 1, T', _, ⟨A ++ pp :: B, (K1 ++ a :: b :: K2).map Tr.i, g.lay.at, hsp, h5, hkm6, by omega, .inr (.inr (.inr (.inr ⟨a.i, a.ps, a.ks.map Tr.i, b.i, b.ps, b.ks.map Tr.i, pp, hkml, hkp, hqa, hla.at, by omega, ks_len hla hsa, hqb, hlb.at, by omega, ks_len hlb hsb, n1, n2, n3, by rw [← hq]; exact hp0, ?_⟩)))⟩, g', mm.step.trans s', rfl, ?_, q6.trans mm.cnt, q7.trans mm.len⟩
          · rw [← hq, ← hA]; exact q1
          · rw [rem_kid mm.good hs1 hkc q5, mm.flat]
end Go.Proofs.Ytbmpdccoffkjgaa.Ow
