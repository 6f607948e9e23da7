/- A pair is taken at an end; a key goes. -/
import Derived.Test.YtbmpdccoffkjgaaByb
namespace Go.Proofs.Ytbmpdccoffkjgaa.Ow
open Go
set_option linter.unusedVariables false
theorem nodup_le : ∀ (n : Nat) (l : List Nat), l.Nodup → (∀ x ∈ l, x < n) → l.length ≤ n
  | 0, l, _, h => by
    have : l = [] := List.eq_nil_iff_forall_not_mem.2 fun x hx => absurd (h x hx) (Nat.not_lt_zero _)
    rw [this]; simp
  | n + 1, l, hd, h => by
    have h1 := nodup_le n (l.erase n) (hd.erase n) fun x hx => by
      have h2 := (hd.mem_erase_iff).1 hx
      have := h x h2.2
      omega
    rw [List.length_erase] at h1
    split at h1 <;> omega
theorem Gd.free_le {T : TS} {h lo : Nat} {t : Tr} (g : Gd T h lo t) : T.free.length ≤ T.nodes.length :=
  nodup_le _ _ (List.nodup_append.1 g.nd).2.1 fun x hx => g.lt x (List.mem_append_right _ hx)
def PopOk (last : Bool) (T : TS) (h : Nat) (t : Tr) : Prop := ∃ m T' t' p, PopR last m T t.i T' p ∧ Gd T' h 2 t' ∧ Step T h t T' h t' ∧ t'.i = t.i ∧ (flat h t = if last then flat h t' ++ [p] else p :: flat h t') ∧ T'.count = T.count ∧ T'.nodes.length = T.nodes.length
theorem pop_law : ∀ {h : Nat} (last : Bool) {T : TS} {t : Tr}, Gd T h 2 t → 3 ≤ t.ps.length → T.nodes.length ≤ 549755813888 → PopOk last T h t
  | 0, last, T, t, g, h3, hb => by
    obtain ⟨i, ps, ks⟩ := t
    have hk : ks = [] := g.lay.1
    subst hk
    have h3' : 3 ≤ ps.length := h3
    have h5 : ps.length ≤ 5 := g.siz.2
    obtain ⟨q, hq⟩ : ∃ q, q = popAt last ps.length := ⟨_, rfl⟩
    have hql : q < ps.length := by rw [hq]; unfold popAt; split <;> omega
    obtain ⟨p, hp⟩ : ∃ p, ps[q]? = some p := ⟨_, List.getElem?_eq_getElem hql⟩
    have hlen : (ps.take q ++ ps.drop (q + 1)).length = ps.length - 1 := by rw [List.length_append, List.length_take, List.length_drop]; omega
    obtain ⟨g', s'⟩ := set_good (ps' := ps.take q ++ ps.drop (q + 1)) g (fun h => absurd rfl h) (show 2 ≤ _ by rw [hlen]; omega) (by rw [hlen]; omega) T.count
    refine ⟨1, _, _, p, ⟨ps, [], g.lay.at, h5, by simp, .inl ⟨rfl, by rw [← hq]; exact hp, by rw [← hq]; rfl⟩⟩, g', s', rfl, ?_, rfl, by show (T.nodes.set i _).length = _; rw [List.length_set]⟩
    show ps = if last = true then (ps.take q ++ ps.drop (q + 1)) ++ [p] else p :: (ps.take q ++ ps.drop (q + 1))
    cases last with
    | true =>
      have hqe : q = ps.length - 1 := by rw [hq]; rfl
      rw [if_pos rfl, List.drop_of_length_le (by omega), List.append_nil, hqe]
      rw [hqe] at hp
      exact (last_take hp (by omega)).symm
    | false =>
      have hqe : q = 0 := by rw [hq]; rfl
      subst hqe
      obtain ⟨h1, h2⟩ := List.getElem?_eq_some_iff.1 hp
      rw [if_neg (by decide), List.take_zero, List.nil_append, ← h2, ← List.drop_eq_getElem_cons h1]; rfl
  | h + 1, last, T, t, g, h3, hb => by
    obtain ⟨i, ps, ks⟩ := t
    have h3' : 3 ≤ ps.length := h3
    have h5 : ps.length ≤ 5 := g.siz.2.1
    have hkl : ks.length = ps.length + 1 := g.lay.1
    have hf := g.free_le
    cases last with
    | true =>
      obtain ⟨K1, c, hks⟩ : ∃ K1 c, ks = K1 ++ c :: [] := by
        rcases List.eq_nil_or_concat ks with rfl | ⟨K1, c, rfl⟩
        · simp at hkl
        · exact ⟨K1, c, by simp⟩
      subst hks
      obtain ⟨T1, ps1, L1, c', L2, f⟩ := feed_law g (by omega) (.inl (by omega)) (by omega)
      have hL2 := f.lst rfl
      subst hL2
      obtain ⟨m, T', c'', p, q1, q2, q3, q4, q5, q6, q7⟩ := pop_law true f.good.kid f.more (by rw [f.len]; exact hb)
      obtain ⟨g', s'⟩ := up_good f.good q2 q3 q4
      have hl1 : L1.length = ps1.length := by have : (L1 ++ c' :: []).length = ps1.length + 1 := f.good.lay.1; simp at this; omega
      refine ⟨m + 1, T', _, p, ⟨ps, (K1 ++ c :: []).map Tr.i, g.lay.at, h5, by rw [List.length_map]; omega, .inr ⟨T1, c'.i, by rw [List.length_map]; omega, ?_, q1⟩⟩, g', f.step.trans s', rfl, ?_, q6.trans f.cnt, q7.trans f.len⟩
      · have : popAt true ((K1 ++ c :: []).map Tr.i).length = K1.length := by unfold popAt; simp
        rw [this]; exact f.feed
      · rw [if_pos rfl, ← f.flat]
        have e1 := flat_one (h := h) (i := i) (A := ps1) (B := []) (K1 := L1) (K2 := []) (a := c') hl1
        have e2 := flat_one (h := h) (i := i) (A := ps1) (B := []) (K1 := L1) (K2 := []) (a := c'') hl1
        rw [List.append_nil] at e1 e2
        rw [e1, e2, q5, if_pos rfl]
        simp [suf]
    | false =>
      obtain ⟨c, K2, hks⟩ : ∃ c K2, ks = [] ++ c :: K2 := by
        cases ks with
        | nil => simp at hkl
        | cons c K2 => exact ⟨c, K2, rfl⟩
      subst hks
      obtain ⟨T1, ps1, L1, c', L2, f⟩ := feed_law g (by omega) (.inl (by omega)) (by omega)
      have hL1 := f.fst rfl
      subst hL1
      obtain ⟨m, T', c'', p, q1, q2, q3, q4, q5, q6, q7⟩ := pop_law false f.good.kid f.more (by rw [f.len]; exact hb)
      obtain ⟨g', s'⟩ := up_good f.good q2 q3 q4
      refine ⟨m + 1, T', _, p, ⟨ps, (([] ++ c :: K2 : List Tr)).map Tr.i, g.lay.at, h5, by rw [List.length_map]; omega, .inr ⟨T1, c'.i, by rw [List.length_map]; omega, f.feed, q1⟩⟩, g', f.step.trans s', rfl, ?_, q6.trans f.cnt, q7.trans f.len⟩
      rw [if_neg (by decide), ← f.flat]
      have e1 := flat_one (h := h) (i := i) (A := []) (B := ps1) (K1 := []) (K2 := L2) (a := c') rfl
      have e2 := flat_one (h := h) (i := i) (A := []) (B := ps1) (K1 := []) (K2 := L2) (a := c'') rfl
      rw [List.nil_append] at e1 e2
      rw [e1, e2, q5, if_neg (by decide)]
      simp [pre]
/-- Where a key is, what stands at its sides is below and above. -/
theorem sides {X M Y : List Pr} {k : ByteArray} (hs : Srt (X ++ (M ++ Y))) (hk : hasK M k = true) : Below' X k ∧ Above Y k := by
  obtain ⟨_, h2, h3⟩ := hs.app
  obtain ⟨_, _, h4⟩ := h2.app
  unfold hasK at hk
  rw [List.any_eq_true] at hk
  obtain ⟨p, hp, e⟩ := hk
  have e := of_decide_eq_true e
  exact ⟨fun x hx => by rw [← e]; exact h3 x hx p (List.mem_append_left _ hp), fun y hy => by rw [← e]; exact h4 p hp y hy⟩
theorem delS_in {X M Y : List Pr} {k : ByteArray} (hs : Srt (X ++ (M ++ Y))) (hk : hasK M k = true) : delS (X ++ (M ++ Y)) k = X ++ (delS M k ++ Y) := by
  obtain ⟨h1, h2⟩ := sides hs hk
  have := delS_mid (M := M) h1 h2
  rw [List.append_assoc, List.append_assoc] at this
  exact this
def RemOk (k : ByteArray) (T : TS) (h lo : Nat) (t : Tr) : Prop := ∃ m T' t', RemR k m T t.i T' ∧ Gd T' h lo t' ∧ Step T h t T' h t' ∧ t'.i = t.i ∧ flat h t' = delS (flat h t) k ∧ T'.count = T.count ∧ T'.nodes.length = T.nodes.length
/-- What was done at a kid that has the key. -/
theorem rem_kid {k : ByteArray} {T1 : TS} {h lo i : Nat} {ps1 : List Pr} {L1 L2 : List Tr} {c' c'' : Tr} (g1 : Gd T1 (h + 1) lo (.node i ps1 (L1 ++ c' :: L2))) (hs : Srt (flat (h + 1) (.node i ps1 (L1 ++ c' :: L2)))) (hk : hasK (flat h c') k = true) (he : flat h c'' = delS (flat h c') k) :
    flat (h + 1) (.node i ps1 (L1 ++ c'' :: L2)) = delS (flat (h + 1) (.node i ps1 (L1 ++ c' :: L2))) k := by
  have hl : (L1 ++ c' :: L2).length = ps1.length + 1 := g1.lay.1
  have hl2 : L1.length = (ps1.take L1.length).length := by rw [List.length_take]; simp at hl; omega
  have e1 := flat_one (h := h) (i := i) (A := ps1.take L1.length) (B := ps1.drop L1.length) (K1 := L1) (K2 := L2) (a := c') hl2
  have e2 := flat_one (h := h) (i := i) (A := ps1.take L1.length) (B := ps1.drop L1.length) (K1 := L1) (K2 := L2) (a := c'') hl2
  rw [List.take_append_drop] at e1 e2
  rw [e1] at hs ⊢
  rw [e2, delS_in hs hk, he]
theorem rem_law {k : ByteArray} : ∀ {h : Nat} {T : TS} {lo : Nat} {t : Tr}, Gd T h lo t → Srt (flat h t) → hasK (flat h t) k = true → (lo + 1 ≤ t.ps.length ∨ lo = 0) → (h ≠ 0 → 1 ≤ t.ps.length) → T.nodes.length ≤ 549755813888 → RemOk k T h lo t
  | 0, T, lo, t, g, hs, hk, hlo, h1, hb => by
    obtain ⟨i, ps, ks⟩ := t
    have hk0 : ks = [] := g.lay.1
    subst hk0
    have h5 : ps.length ≤ 5 := g.siz.2
    have hsp : Srt ps := hs
    have hkp : hasK ps k = true := hk
    have hlo' : lo + 1 ≤ ps.length ∨ lo = 0 := hlo
    obtain ⟨c1, _, c3⟩ := cut3 hsp k
    obtain ⟨p, hp, he, ha⟩ := c3 hkp
    obtain ⟨q1, q2⟩ := List.getElem?_eq_some_iff.1 hp
    have hlen : (ps.take (posK ps k) ++ ps.drop (posK ps k + 1)).length = ps.length - 1 := by rw [List.length_append, List.length_take, List.length_drop]; omega
    obtain ⟨g', s'⟩ := set_good (ps' := ps.take (posK ps k) ++ ps.drop (posK ps k + 1)) g (fun h => absurd rfl h) (show lo ≤ _ by rw [hlen]; omega) (by rw [hlen]; omega) T.count
    have hf := g.free_le
    refine ⟨1, _, _, ⟨ps, [], g.lay.at, hsp, h5, by simp, by omega, .inl ⟨rfl, hkp, rfl⟩⟩, g', s', rfl, ?_, rfl, by show (T.nodes.set i _).length = _; rw [List.length_set]⟩
    show ps.take (posK ps k) ++ ps.drop (posK ps k + 1) = delS ps k
    have e := delS_mid (A := ps.take (posK ps k)) (M := [p]) (B := ps.drop (posK ps k + 1)) c1 ha
    have e0 : ps.take (posK ps k) ++ [p] ++ ps.drop (posK ps k + 1) = ps := by
      rw [List.append_assoc, List.singleton_append, ← q2, ← List.drop_eq_getElem_cons q1, List.take_append_drop]
    rw [e0, ← he, delS_one, he, List.append_nil] at e
    exact e.symm
  | h + 1, T, lo, t, g, hs, hk, hlo, h1, hb => by
    obtain ⟨i, ps, ks⟩ := t
    have h1' : 1 ≤ ps.length := h1 (by omega)
    have h5 : ps.length ≤ 5 := g.siz.2.1
    have hlo' : lo + 1 ≤ ps.length ∨ lo = 0 := hlo
    have hkl : ks.length = ps.length + 1 := g.lay.1
    have hsp : Srt ps := hs.sub (flat_ps g.lay)
    have hf := g.free_le
    obtain ⟨q, hq⟩ : ∃ q, q = posK ps k := ⟨_, rfl⟩
    have hqle : q ≤ ps.length := hq ▸ posK_le ps k
    cases hkp : hasK ps k with
    | false =>
      obtain ⟨c, hcq, _, hch⟩ := get_down g.lay hs (show hasK (Tr.node i ps ks).ps k = false from hkp)
      rw [hk] at hch
      obtain ⟨f1, f2⟩ := List.getElem?_eq_some_iff.1 (show ks[posK ps k]? = some c from hcq)
      obtain ⟨K1, K2, hks, hK1⟩ : ∃ K1 K2, ks = K1 ++ c :: K2 ∧ K1.length = q := ⟨ks.take q, ks.drop (q + 1), by rw [hq, ← f2, ← List.drop_eq_getElem_cons f1, List.take_append_drop], by rw [List.length_take]; omega⟩
      subst hks
      obtain ⟨T1, ps1, L1, c', L2, f⟩ := feed_law g h1' hlo' (by omega)
      have hk' : hasK (flat h c') k = true := hasK_sub f.has hch.symm
      have hs1 : Srt (flat (h + 1) (.node i ps1 (L1 ++ c' :: L2))) := by rw [f.flat]; exact hs
      have hsc : Srt (flat h c') := hs1.sub (flat_kid f.good.lay (by simp [Tr.ks]))
      obtain ⟨m, T', c'', q1, q2, q3, q4, q5, q6, q7⟩ := rem_law f.good.kid hsc hk' (.inl f.more) (fun _ => Nat.le_trans (by decide) f.more) (by rw [f.len]; exact hb)
      obtain ⟨g', s'⟩ := up_good f.good q2 q3 q4
      refine ⟨m + 1, T', _, ⟨ps, (K1 ++ c :: K2).map Tr.i, g.lay.at, hsp, h5, by rw [List.length_map]; omega, by omega, .inr (.inl ⟨T1, c'.i, by rw [List.length_map]; omega, hkp, by rw [← hq, ← hK1]; exact f.feed, q1⟩)⟩, g', f.step.trans s', rfl, ?_, q6.trans f.cnt, q7.trans f.len⟩
      rw [rem_kid f.good hs1 hk' q5, f.flat]
    | true =>
      obtain ⟨p0, hp0, he0⟩ := hasK_get hsp hkp
      rw [← hq] at hp0
      have hql : q < ps.length := (List.getElem?_eq_some_iff.1 hp0).1
      obtain ⟨A, pp, B, hps, hA⟩ := split_at hql
      have hpp : pp = p0 := by rw [hps, at_mid hA] at hp0; exact Option.some.inj hp0
      subst hpp
      obtain ⟨K1, a, K2', hks, hK1⟩ := split_at (show q < ks.length by omega)
      subst hps
      subst hks
      obtain ⟨b, K2, rfl⟩ : ∃ b K2, K2' = b :: K2 := by
        cases K2' with
        | nil => simp at hkl hql; omega
        | cons b K2 => exact ⟨b, K2, rfl⟩
      have hl : K1.length = A.length := by omega
      have hla := g.lay.2.2 a (by simp [Tr.ks])
      have hlb := g.lay.2.2 b (by simp [Tr.ks])
      have hsa := g.siz.2.2 a (by simp [Tr.ks])
      have hsb := g.siz.2.2 b (by simp [Tr.ks])
      obtain ⟨n1, n2, n3, n4, l1, l2, l3, hnd⟩ := pair_known g
      have hqa : ((K1 ++ a :: b :: K2).map Tr.i)[posK (A ++ pp :: B) k]? = some a.i := by rw [← hq, List.getElem?_map, at_mid hK1]; rfl
      have hqb : ((K1 ++ a :: b :: K2).map Tr.i)[posK (A ++ pp :: B) k + 1]? = some b.i := by rw [← hq, List.getElem?_map, at_mid1 hK1]; rfl
      have hkml : 0 < ((K1 ++ a :: b :: K2).map Tr.i).length := by rw [List.length_map]; omega
      have hkm6 : ((K1 ++ a :: b :: K2).map Tr.i).length ≤ 6 := by rw [List.length_map]; omega
      have hset : ∀ x, (A ++ pp :: B).set (posK (A ++ pp :: B) k) x = A ++ x :: B := fun x => by rw [← hq]; exact set_mid hA
      have hfl := flat_pair (h := h) (i := i) (A := A) (B := B) (p := pp) (K1 := K1) (K2 := K2) (a := a) (b := b) hl
      have hdel : delS (flat (h + 1) (.node i (A ++ pp :: B) (K1 ++ a :: b :: K2))) k = pre (K1.map (flat h)) A ++ ((flat h a ++ flat h b) ++ suf B (K2.map (flat h))) := by
        have e : flat (h + 1) (.node i (A ++ pp :: B) (K1 ++ a :: b :: K2)) = (pre (K1.map (flat h)) A ++ flat h a) ++ ([pp] ++ (flat h b ++ suf B (K2.map (flat h)))) := by rw [hfl]; simp
        rw [e] at hs ⊢
        rw [delS_in hs (by rw [hasK_cons]; simp [he0])]
        rw [← he0, delS_one]
        simp
      by_cases ha : 2 < a.ps.length
      · have ga : Gd T h 2 a := g.kid
        obtain ⟨m, T1, a', p, q1, q2, q3, q4, q5, q6, q7⟩ := pop_law true ga ha hb
        obtain ⟨g1, s1⟩ := up_good g q2 q3 q4
        obtain ⟨g2, s2⟩ := set_good (ps' := A ++ p :: B) (lo' := lo) g1 (fun _ => by simp) (by have : lo ≤ (A ++ pp :: B).length := g.siz.1; simp at this ⊢; exact this) (by simp at h5 ⊢; exact h5) T1.count
        refine ⟨1, _, _, ⟨A ++ pp :: B, (K1 ++ a :: b :: K2).map Tr.i, g.lay.at, hsp, h5, hkm6, by omega, .inr (.inr (.inl ⟨a.i, a.ps, a.ks.map Tr.i, T1, p, A ++ pp :: B, (K1 ++ a' :: b :: K2).map Tr.i, m, hkml, hkp, hqa, hla.at, ha, hsa.le, q1, g1.lay.at, by rw [← hq]; exact hql, by rw [hset]; rfl⟩))⟩, g2, s1.trans s2, rfl, ?_, q6, by show (T1.nodes.set i _).length = _; rw [List.length_set]; exact q7⟩
        rw [hdel, flat_pair hl, q5, if_pos rfl]
        simp
      · by_cases hb2 : 2 < b.ps.length
        · have g0 : Gd T (h + 1) lo (.node i (A ++ pp :: B) ((K1 ++ [a]) ++ b :: K2)) := by rw [show (K1 ++ [a]) ++ b :: K2 = K1 ++ a :: b :: K2 by simp]; exact g
          have gb : Gd T h 2 b := g0.kid
          obtain ⟨m, T1, b', p, q1, q2, q3, q4, q5, q6, q7⟩ := pop_law false gb hb2 hb
          obtain ⟨g1, s1⟩ := up_good g0 q2 q3 q4
          rw [show (K1 ++ [a]) ++ b :: K2 = K1 ++ a :: b :: K2 by simp, show (K1 ++ [a]) ++ b' :: K2 = K1 ++ a :: b' :: K2 by simp] at s1
          rw [show (K1 ++ [a]) ++ b' :: K2 = K1 ++ a :: b' :: K2 by simp] at g1
          obtain ⟨g2, s2⟩ := set_good (ps' := A ++ p :: B) (lo' := lo) g1 (fun _ => by simp) (by have : lo ≤ (A ++ pp :: B).length := g.siz.1; simp at this ⊢; exact this) (by simp at h5 ⊢; exact h5) T1.count
          refine ⟨1, _, _, ⟨A ++ pp :: B, (K1 ++ a :: b :: K2).map Tr.i, g.lay.at, hsp, h5, hkm6, by omega, .inr (.inr (.inr (.inl ⟨a.i, a.ps, a.ks.map Tr.i, b.i, b.ps, b.ks.map Tr.i, T1, p, A ++ pp :: B, (K1 ++ a :: b' :: K2).map Tr.i, m, hkml, hkp, hqa, hla.at, by omega, hqb, hlb.at, hb2, hsb.le, q1, g1.lay.at, by rw [← hq]; exact hql, by rw [hset]; rfl⟩)))⟩, g2, s1.trans s2, rfl, ?_, q6, by show (T1.nodes.set i _).length = _; rw [List.length_set]; exact q7⟩
          rw [hdel, flat_pair hl, q5, if_neg (by decide)]
        · have mm := merge_tree g hl (by omega) (by omega) (lo' := lo) (by simp at hlo' ⊢; omega)
          have hkc : hasK (flat h (.node a.i (a.ps ++ pp :: b.ps) (a.ks ++ b.ks))) k = true := by rw [mm.kid, ← he0]; exact hasK_at
          have hs1 : Srt (flat (h + 1) (.node i (A ++ B) (K1 ++ .node a.i (a.ps ++ pp :: b.ps) (a.ks ++ b.ks) :: K2))) := by rw [mm.flat]; exact hs
          have hsc : Srt (flat h (.node a.i (a.ps ++ pp :: b.ps) (a.ks ++ b.ks))) := hs1.sub (flat_kid mm.good.lay (by simp [Tr.ks]))
          have ha2 := hsa.ge
          have hm3 : 3 ≤ (Tr.node a.i (a.ps ++ pp :: b.ps) (a.ks ++ b.ks)).ps.length := by show 3 ≤ (a.ps ++ pp :: b.ps).length; rw [List.length_append, List.length_cons]; omega
          obtain ⟨m, T', c'', q1, q2, q3, q4, q5, q6, q7⟩ := rem_law mm.good.kid hsc hkc (.inl hm3) (fun _ => Nat.le_trans (by decide) hm3) (by rw [mm.len]; exact hb)
          obtain ⟨g', s'⟩ := up_good mm.good q2 q3 q4
          refine ⟨m + 1, T', _, ⟨A ++ pp :: B, (K1 ++ a :: b :: K2).map Tr.i, g.lay.at, hsp, h5, hkm6, by omega, .inr (.inr (.inr (.inr ⟨a.i, a.ps, a.ks.map Tr.i, b.i, b.ps, b.ks.map Tr.i, pp, hkml, hkp, hqa, hla.at, by omega, ks_len hla hsa, hqb, hlb.at, by omega, ks_len hlb hsb, n1, n2, n3, by rw [← hq]; exact hp0, ?_⟩)))⟩, g', mm.step.trans s', rfl, ?_, q6.trans mm.cnt, q7.trans mm.len⟩
          · rw [← hq, ← hA]; exact q1
          · rw [rem_kid mm.good hs1 hkc q5, mm.flat]
end Go.Proofs.Ytbmpdccoffkjgaa.Ow
