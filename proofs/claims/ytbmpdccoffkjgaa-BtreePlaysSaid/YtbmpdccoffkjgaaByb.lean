/- Two kids are merged; a child is fed in any case. -/
import Derived.Test.YtbmpdccoffkjgaaBya
namespace Go.Proofs.Ytbmpdccoffkjgaa.Ow
open Go
set_option linter.unusedVariables false
section
variable {T : TS} {h lo i : Nat} {A B : List Pr} {p : Pr} {K1 K2 : List Tr} {a b : Tr}
structure MergeOk (T : TS) (h lo' i : Nat) (A : List Pr) (p : Pr) (B : List Pr) (K1 : List Tr) (a b : Tr) (K2 : List Tr) (T1 : TS) : Prop where
  good : Gd T1 (h + 1) lo' (.node i (A ++ B) (K1 ++ .node a.i (a.ps ++ p :: b.ps) (a.ks ++ b.ks) :: K2))
  step : Step T (h + 1) (.node i (A ++ p :: B) (K1 ++ a :: b :: K2)) T1 (h + 1) (.node i (A ++ B) (K1 ++ .node a.i (a.ps ++ p :: b.ps) (a.ks ++ b.ks) :: K2))
  flat : flat (h + 1) (.node i (A ++ B) (K1 ++ .node a.i (a.ps ++ p :: b.ps) (a.ks ++ b.ks) :: K2)) = flat (h + 1) (.node i (A ++ p :: B) (K1 ++ a :: b :: K2))
  kid : Ow.flat h (.node a.i (a.ps ++ p :: b.ps) (a.ks ++ b.ks)) = Ow.flat h a ++ p :: Ow.flat h b
  cnt : T1.count = T.count
  len : T1.nodes.length = T.nodes.length
  fr : T1.free.length ≤ T.free.length + 1
theorem merge_tree (g : Gd T (h + 1) lo (.node i (A ++ p :: B) (K1 ++ a :: b :: K2))) (hl : K1.length = A.length) (ha : a.ps.length ≤ 2) (hb : b.ps.length ≤ 2) {lo' : Nat} (hlo : lo' ≤ (A ++ B).length) :
    MergeOk T h lo' i A p B K1 a b K2 (mergeT T i A.length a.i b.i ⟨A ++ p :: B, (K1 ++ a :: b :: K2).map Tr.i⟩ ⟨a.ps, a.ks.map Tr.i⟩ ⟨b.ps, b.ks.map Tr.i⟩ p) := by
  obtain ⟨n1, n2, n3, n4, l1, l2, l3, hnd⟩ := pair_known g
  have hla := g.lay.2.2 a (by simp [Tr.ks])
  have hlb := g.lay.2.2 b (by simp [Tr.ks])
  have hsa := g.siz.2.2 a (by simp [Tr.ks])
  have hsb := g.siz.2.2 b (by simp [Tr.ks])
  have ha2 := hsa.ge
  have hb2 := hsb.ge
  have ka := kl _ hla
  have kb := kl _ hlb
  obtain ⟨N', hN'⟩ : ∃ N', N' = (mergeT T i A.length a.i b.i ⟨A ++ p :: B, (K1 ++ a :: b :: K2).map Tr.i⟩ ⟨a.ps, a.ks.map Tr.i⟩ ⟨b.ps, b.ks.map Tr.i⟩ p).nodes := ⟨_, rfl⟩
  have hT1 : mergeT T i A.length a.i b.i ⟨A ++ p :: B, (K1 ++ a :: b :: K2).map Tr.i⟩ ⟨a.ps, a.ks.map Tr.i⟩ ⟨b.ps, b.ks.map Tr.i⟩ p = ⟨N', T.free ++ [b.i], T.root, T.count⟩ := by rw [hN']; rfl
  have hNl : N'.length = T.nodes.length := by rw [hN']; simp [mergeT, dropL, TS.setN]
  have hkk : ((K1 ++ a :: b :: K2).map Tr.i).take (A.length + 1) ++ ((K1 ++ a :: b :: K2).map Tr.i).drop (A.length + 2) = (K1 ++ a :: K2).map Tr.i := by
    have e1 : (K1 ++ a :: b :: K2).map Tr.i = (K1.map Tr.i ++ [a.i]) ++ (b.i :: K2.map Tr.i) := by simp
    have e2 : (K1 ++ a :: b :: K2).map Tr.i = (K1.map Tr.i ++ [a.i, b.i]) ++ K2.map Tr.i := by simp
    conv => lhs; lhs; rw [e1, List.take_left' (by simp [hl])]
    rw [e2, List.drop_left' (by simp [hl])]
    simp
  obtain ⟨g', s'⟩ := merge_good (N' := N') (a' := .node a.i (a.ps ++ p :: b.ps) (a.ks ++ b.ks)) g hlo hNl
    (by rw [hN']; unfold mergeT dropL TS.setN; dsimp only; rw [List.getElem?_set_ne n2, List.getElem?_set_self (by simpa using l1), take_mid rfl, drop_mid rfl, hkk])
    (by rw [hN']; unfold mergeT dropL TS.setN; dsimp only; rw [List.getElem?_set_ne (Ne.symm n3), List.getElem?_set_ne (Ne.symm n1), List.getElem?_set_self (by simpa using l2)]; simp [Tr.ps, Tr.ks])
    (fun j h1 h2 h3 => by rw [hN']; unfold mergeT dropL TS.setN; dsimp only; rw [List.getElem?_set_ne (Ne.symm h3), List.getElem?_set_ne (Ne.symm h1), List.getElem?_set_ne (Ne.symm h2)])
    rfl rfl (fun h0 => by have := ka h0; have := kb h0; show (a.ks ++ b.ks).length = (a.ps ++ p :: b.ps).length + 1; rw [List.length_append, List.length_append, List.length_cons]; omega)
    (by show 2 ≤ (a.ps ++ p :: b.ps).length ∧ (a.ps ++ p :: b.ps).length ≤ 5; rw [List.length_append, List.length_cons]; omega)
  have e1 := flat_join (h := h) (j := a.i) (j1 := a.i) (j2 := b.i) (P := a.ps) (P' := b.ps) (p := p) (Q := a.ks) (Q' := b.ks) ka kb
  rw [Tr.eta, Tr.eta] at e1
  rw [hT1]
  exact ⟨g', s', by rw [flat_one hl, flat_pair hl, e1], e1, rfl, hNl, by simp⟩
theorem feed_mergeL (g : Gd T (h + 1) lo (.node i (A ++ p :: B) (K1 ++ a :: b :: K2))) (hl : K1.length = A.length) (ha : a.ps.length ≤ 2) (hb : b.ps.length ≤ 2) (hf : T.free.length ≤ 1099511627776) (hlo : lo ≤ (A ++ B).length)
    (hno : K2 = [] ∨ ∃ e K3, K2 = e :: K3 ∧ e.ps.length ≤ 2) :
    ∃ T1 ps1 L1 c' L2, FeedOk T h lo i (A ++ p :: B) (K1 ++ [a]) b K2 T1 ps1 L1 c' L2 := by
  obtain ⟨n1, n2, n3, n4, l1, l2, l3, hnd⟩ := pair_known g
  have hla := g.lay.2.2 a (by simp [Tr.ks])
  have hlb := g.lay.2.2 b (by simp [Tr.ks])
  have hsa := g.siz.2.2 a (by simp [Tr.ks])
  have hsb := g.siz.2.2 b (by simp [Tr.ks])
  have ha2 := hsa.ge
  have hl0 : (A ++ p :: B).length ≤ 5 := g.siz.2.1
  have hk0 : (K1 ++ a :: b :: K2).length = (A ++ p :: B).length + 1 := g.lay.1
  have m := merge_tree g hl ha hb hlo
  have hlen : A.length + 1 - 1 = A.length := by omega
  have hks : (K1 ++ [a]) ++ b :: K2 = K1 ++ a :: b :: K2 := by simp
  refine ⟨_, A ++ B, K1, .node a.i (a.ps ++ p :: b.ps) (a.ks ++ b.ks), K2, ⟨?_, m.good, by rw [hks]; exact m.step, by rw [hks]; exact m.flat, ?_, fun x hx => by rw [m.kid]; simp [hx], m.cnt, m.len, fun h0 => by simp at h0, fun h0 => h0, m.fr⟩⟩
  · rw [show (K1 ++ [a]).length = A.length + 1 by simp [hl]]
    refine ⟨A ++ p :: B, (K1 ++ a :: b :: K2).map Tr.i, b.i, b.ps, b.ks.map Tr.i, g.lay.2.1, hl0, by rw [List.length_map]; omega, hf, ?_, hlb.at, n2, by omega, ks_len hlb hsb, .inr (.inr (.inr (.inl ⟨a.i, a.ps, a.ks.map Tr.i, p, hb, by omega, ?_, hla.at, ha, ks_len hla hsa, n1, n3, ?_, ?_, ?_, rfl⟩)))⟩
    · rw [List.getElem?_map, at_mid1 hl]; rfl
    · rw [hlen, List.getElem?_map, at_mid hl]; rfl
    · rcases hno with h0 | ⟨e, K3, h0, h1⟩
      · left; rw [List.length_map, h0]; simp; omega
      · right
        refine ⟨e.i, e.ps, e.ks.map Tr.i, ?_, (g.lay.2.2 e (by rw [h0]; simp [Tr.ks])).at, h1⟩
        rw [List.getElem?_map, h0, show K1 ++ a :: b :: e :: K3 = (K1 ++ [a]) ++ b :: e :: K3 by simp, at_mid1 (by simp [hl])]; rfl
    · rw [hlen]; exact at_mid rfl
    · rw [hlen]
  · show 3 ≤ (a.ps ++ p :: b.ps).length
    rw [List.length_append, List.length_cons]; omega
theorem feed_mergeR (g : Gd T (h + 1) lo (.node i (p :: B) (a :: b :: K2))) (ha : a.ps.length ≤ 2) (hb : b.ps.length ≤ 2) (hf : T.free.length ≤ 1099511627776) (hlo : lo ≤ B.length) :
    ∃ T1 ps1 L1 c' L2, FeedOk T h lo i (p :: B) [] a (b :: K2) T1 ps1 L1 c' L2 := by
  have g0 : Gd T (h + 1) lo (.node i ([] ++ p :: B) ([] ++ a :: b :: K2)) := g
  obtain ⟨n1, n2, n3, n4, l1, l2, l3, hnd⟩ := pair_known g0
  have hla := g.lay.2.2 a (by simp [Tr.ks])
  have hlb := g.lay.2.2 b (by simp [Tr.ks])
  have hsa := g.siz.2.2 a (by simp [Tr.ks])
  have hsb := g.siz.2.2 b (by simp [Tr.ks])
  have ha2 := hsa.ge
  have hl0 : (p :: B).length ≤ 5 := g.siz.2.1
  have hk0 : (a :: b :: K2).length = (p :: B).length + 1 := g.lay.1
  have m := merge_tree g0 rfl ha hb (lo' := lo) hlo
  refine ⟨_, [] ++ B, [], .node a.i (a.ps ++ p :: b.ps) (a.ks ++ b.ks), K2, ⟨?_, m.good, m.step, m.flat, ?_, fun x hx => by rw [m.kid]; simp [hx], m.cnt, m.len, fun h0 => rfl, fun h0 => (by cases h0), m.fr⟩⟩
  · exact ⟨p :: B, (a :: b :: K2).map Tr.i, a.i, a.ps, a.ks.map Tr.i, g.lay.2.1, hl0, by rw [List.length_map]; omega, hf, rfl, hla.at, n1, by omega, ks_len hla hsa, .inr (.inr (.inr (.inr ⟨b.i, b.ps, b.ks.map Tr.i, p, ha, rfl, rfl, hlb.at, hb, ks_len hlb hsb, n2, n3, rfl, rfl, rfl⟩)))⟩
  · show 3 ≤ (a.ps ++ p :: b.ps).length
    rw [List.length_append, List.length_cons]; omega
end
/-- A child is fed in any case. -/
theorem feed_law {T : TS} {h lo i : Nat} {ps : List Pr} {K1 K2 : List Tr} {c : Tr} (g : Gd T (h + 1) lo (.node i ps (K1 ++ c :: K2))) (hps : 1 ≤ ps.length) (hlo : lo + 1 ≤ ps.length ∨ lo = 0) (hf : T.free.length ≤ 1099511627776) :
    ∃ T1 ps1 L1 c' L2, FeedOk T h lo i ps K1 c K2 T1 ps1 L1 c' L2 := by
  have hk0 : (K1 ++ c :: K2).length = ps.length + 1 := g.lay.1
  have hk1 : K1.length + (K2.length + 1) = ps.length + 1 := by simpa using hk0
  have hlc := g.kid.lay
  have hsc := g.kid.siz
  have hci : c.i ≠ i := by
    have hn := (List.nodup_append.1 g.nd).1
    rw [ids_succ, List.nodup_cons] at hn
    exact fun e => hn.1 (by rw [← e]; exact mem_idl (by simp))
  by_cases h3 : 2 < c.ps.length
  · refine ⟨T, ps, K1, c, K2, ⟨⟨ps, (K1 ++ c :: K2).map Tr.i, c.i, c.ps, c.ks.map Tr.i, g.lay.2.1, g.siz.2.1, ?_, hf, ?_, hlc.at, hci, hsc.le, ks_len hlc hsc, .inl ⟨h3, rfl, rfl⟩⟩, g, Step.refl _ _ _, rfl, h3, fun x hx => hx, rfl, rfl, fun h0 => h0, fun h0 => h0, Nat.le_succ _⟩⟩
    · have : ps.length ≤ 5 := g.siz.2.1
      rw [List.length_map]; omega
    · rw [List.getElem?_map, at_mid rfl]; rfl
  · have hc2 : c.ps.length ≤ 2 := by omega
    rcases List.eq_nil_or_concat K1 with rfl | ⟨K0, a, rfl⟩
    · -- no kid at the left
      cases K2 with
      | nil => simp only [List.length_nil] at hk1; omega
      | cons b K2 =>
        cases ps with
        | nil => simp at hps
        | cons p B =>
          by_cases hb : 2 < b.ps.length
          · exact feed_lendR (A := []) g rfl hc2 hb hf (.inl rfl)
          · exact feed_mergeR g hc2 (by omega) hf (by simp at hlo; omega)
    · have hK0 : K0.length < ps.length := by simp at hk1; omega
      obtain ⟨A, p, B, rfl, hA⟩ := split_at hK0
      have g2 : Gd T (h + 1) lo (.node i (A ++ p :: B) (K0 ++ a :: c :: K2)) := by
        have : (K0 ++ [a]) ++ c :: K2 = K0 ++ a :: c :: K2 := by simp
        rw [← this]; simpa using g
      rw [List.concat_eq_append]
      by_cases ha : 2 < a.ps.length
      · exact feed_lendL g2 hA.symm ha hc2 hf
      · have hloAB : lo ≤ (A ++ B).length := by simp at hlo ⊢; omega
        cases K2 with
        | nil => exact feed_mergeL g2 hA.symm (by omega) hc2 hf hloAB (.inl rfl)
        | cons b K2 =>
          by_cases hb : 2 < b.ps.length
          · -- the kid at the right lends
            have hl2 : K0.length + 1 < (A ++ p :: B).length := by simp at hk1 ⊢; omega
            cases B with
            | nil => simp at hl2; omega
            | cons p2 B =>
              have e1 : A ++ p :: p2 :: B = (A ++ [p]) ++ p2 :: B := by simp
              have e2 : K0 ++ a :: c :: b :: K2 = (K0 ++ [a]) ++ c :: b :: K2 := by simp
              rw [e1] at g2 ⊢
              rw [e2] at g2
              exact feed_lendR g2 (by simp [hA]) hc2 hb hf (.inr ⟨K0, a, rfl, by omega⟩)
          · exact feed_mergeL g2 hA.symm (by omega) hc2 hf hloAB (.inr ⟨b, K2, rfl, by omega⟩)
end Go.Proofs.Ytbmpdccoffkjgaa.Ow
