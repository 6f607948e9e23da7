/- Trees by their height: what they hold, in order; what is read of them. -/
import Derived.Test.YtbmpdccoffkjgaaBtp
namespace Go.Proofs.Ytbmpdccoffkjgaa.Ow
open Go
set_option linter.unusedVariables false
inductive Tr where
  | node (i : Nat) (ps : List Pr) (ks : List Tr)
def Tr.i : Tr → Nat
  | .node i _ _ => i
def Tr.ps : Tr → List Pr
  | .node _ ps _ => ps
def Tr.ks : Tr → List Tr
  | .node _ _ ks => ks
theorem Tr.eta (t : Tr) : Tr.node t.i t.ps t.ks = t := by cases t; rfl
/-- What lies behind a kid; what lies ahead of one; all. -/
def suf : List Pr → List (List Pr) → List Pr
  | p :: B, k :: K => p :: (k ++ suf B K)
  | _, _ => []
def inter : List (List Pr) → List Pr → List Pr
  | k :: K, B => k ++ suf B K
  | [], _ => []
def pre : List (List Pr) → List Pr → List Pr
  | k :: K, p :: A => k ++ p :: pre K A
  | _, _ => []
theorem inter_split : ∀ {K1 : List (List Pr)} {A : List Pr} (c : List Pr) (K2 : List (List Pr)) (B : List Pr), K1.length = A.length → inter (K1 ++ c :: K2) (A ++ B) = pre K1 A ++ (c ++ suf B K2)
  | [], [], c, K2, B, _ => rfl
  | [], _ :: _, c, K2, B, h => by simp at h
  | _ :: _, [], c, K2, B, h => by simp at h
  | k :: K1, p :: A, c, K2, B, h => by
    have ih := inter_split (K1 := K1) (A := A) c K2 B (by simpa using h)
    show k ++ suf (p :: (A ++ B)) (K1 ++ c :: K2) = k ++ p :: pre K1 A ++ (c ++ suf B K2)
    have e : suf (p :: (A ++ B)) (K1 ++ c :: K2) = p :: inter (K1 ++ c :: K2) (A ++ B) := by cases K1 <;> rfl
    rw [e, ih]
    simp
/-- Two nodes' keys and kids, one behind the other. -/
theorem inter_join : ∀ {K : List (List Pr)} {A : List Pr} (p : Pr) {K' : List (List Pr)} {A' : List Pr}, K.length = A.length + 1 → K'.length = A'.length + 1 → inter (K ++ K') (A ++ p :: A') = inter K A ++ p :: inter K' A'
  | K, A, p, k :: K', A', h, _ => by
    obtain ⟨K0, c, rfl⟩ : ∃ K0 c, K = K0 ++ [c] := by
      rcases List.eq_nil_or_concat K with rfl | ⟨K0, c, rfl⟩
      · simp at h
      · exact ⟨K0, c, by simp⟩
    have hl : K0.length = A.length := by simpa using h
    have e1 := inter_split c (k :: K') (p :: A') hl
    have e2 := inter_split c [] [] hl
    rw [List.append_nil] at e2
    rw [List.append_assoc, List.singleton_append, e1, e2]
    simp [suf, inter]
  | K, A, p, [], A', _, h => by simp at h
theorem pre_below : ∀ {K : List (List Pr)} {A : List Pr} {k : ByteArray}, Srt (pre K A) → Below' A k → K.length = A.length → Below' (pre K A) k
  | [], [], _, _, _, _ => fun p hp => by cases hp
  | [], _ :: _, _, _, _, h => by simp at h
  | _ :: _, [], _, _, _, h => by simp at h
  | c :: K, p :: A, k, hs, hb, h => by
    have hs' : Srt (c ++ p :: pre K A) := hs
    obtain ⟨_, h2, h3⟩ := hs'.app
    have hp : slt p.key k = true := hb p (List.mem_cons_self ..)
    have ih := pre_below (K := K) (A := A) (k := k) (List.pairwise_cons.1 h2).2 (fun q hq => hb q (List.mem_cons_of_mem _ hq)) (by simpa using h)
    intro q hq
    rcases List.mem_append.1 (show q ∈ c ++ p :: pre K A from hq) with hq | hq
    · exact slt_trans (h3 q hq p (List.mem_cons_self ..)) hp
    · rcases List.mem_cons.1 hq with rfl | hq
      · exact hp
      · exact ih q hq
theorem suf_above : ∀ {B : List Pr} {K : List (List Pr)} {k : ByteArray}, Srt (suf B K) → Above B k → K.length = B.length → Above (suf B K) k
  | [], [], _, _, _, _ => fun p hp => by cases hp
  | [], _ :: _, _, _, _, h => by simp at h
  | _ :: _, [], _, _, _, h => by simp at h
  | p :: B, c :: K, k, hs, hb, h => by
    have hs' : Srt (p :: (c ++ suf B K)) := hs
    have h1 := List.pairwise_cons.1 hs'
    have hp : slt k p.key = true := hb p (List.mem_cons_self ..)
    intro q hq
    rcases List.mem_cons.1 (show q ∈ p :: (c ++ suf B K) from hq) with rfl | hq
    · exact hp
    · exact slt_trans hp (h1.1 q hq)
theorem Srt.sub {l m : List Pr} (h : Srt l) (hm : m.Sublist l) : Srt m := h.sublist hm
theorem suf_sub : ∀ (B : List Pr) (K : List (List Pr)), K.length = B.length → B.Sublist (suf B K)
  | [], [], _ => List.Sublist.refl _
  | [], _ :: _, h => by simp at h
  | _ :: _, [], h => by simp at h
  | p :: B, c :: K, h => List.Sublist.cons_cons _ ((suf_sub B K (by simpa using h)).trans (List.sublist_append_right _ _))
theorem inter_sub : ∀ {K : List (List Pr)} {B : List Pr}, K.length = B.length + 1 → B.Sublist (inter K B)
  | c :: K, B, h => (suf_sub B K (by simpa using h)).trans (List.sublist_append_right _ _)
  | [], B, h => by simp at h
theorem inter_kid : ∀ {K : List (List Pr)} {B : List Pr} {q : Nat} {c : List Pr}, K.length = B.length + 1 → K[q]? = some c → c.Sublist (inter K B) := fun {K B q c} h hq => by
  obtain ⟨h1, h2⟩ := List.getElem?_eq_some_iff.1 hq
  have e1 : K = K.take q ++ c :: K.drop (q + 1) := by rw [← h2, ← List.drop_eq_getElem_cons h1, List.take_append_drop]
  have e2 : B = B.take q ++ B.drop q := (List.take_append_drop q B).symm
  have := inter_split (K1 := K.take q) (A := B.take q) c (K.drop (q + 1)) (B.drop q) (by rw [List.length_take, List.length_take]; omega)
  rw [← e1, ← e2] at this
  rw [this]
  exact (List.sublist_append_left _ _).trans (List.sublist_append_right _ _)
/-- A node at a key's place. -/
theorem node_cut {K : List (List Pr)} {B : List Pr} {k : ByteArray} (hl : K.length = B.length + 1) (hs : Srt (inter K B)) :
    ∃ c, K[posK B k]? = some c ∧ inter K B = pre (K.take (posK B k)) (B.take (posK B k)) ++ (c ++ suf (B.drop (posK B k)) (K.drop (posK B k + 1))) ∧ Below' (pre (K.take (posK B k)) (B.take (posK B k))) k
      ∧ (hasK B k = false → Above (suf (B.drop (posK B k)) (K.drop (posK B k + 1))) k)
      ∧ (hasK B k = true → ∃ p S, B[posK B k]? = some p ∧ p.key = k ∧ suf (B.drop (posK B k)) (K.drop (posK B k + 1)) = p :: S ∧ Above S k ∧ Below' c k) := by
  have hB : Srt B := hs.sub (inter_sub hl)
  obtain ⟨h1, h2, h3⟩ := cut3 hB k
  obtain ⟨q, hq⟩ : ∃ q, q = posK B k := ⟨_, rfl⟩
  have hqle : q ≤ B.length := hq ▸ posK_le B k
  rw [← hq] at h1 h2 h3 ⊢
  obtain ⟨c, hc⟩ : ∃ c, K[q]? = some c := ⟨_, List.getElem?_eq_getElem (by omega)⟩
  obtain ⟨g1, g2⟩ := List.getElem?_eq_some_iff.1 hc
  have e1 : K = K.take q ++ c :: K.drop (q + 1) := by rw [← g2, ← List.drop_eq_getElem_cons g1, List.take_append_drop]
  have e2 : B = B.take q ++ B.drop q := (List.take_append_drop q B).symm
  have e := inter_split (K1 := K.take q) (A := B.take q) c (K.drop (q + 1)) (B.drop q) (by rw [List.length_take, List.length_take]; omega)
  rw [← e1, ← e2] at e
  rw [e] at hs
  obtain ⟨s1, s2, s3⟩ := hs.app
  obtain ⟨s4, s5, s6⟩ := s2.app
  refine ⟨c, hc, e, pre_below s1 h1 (by rw [List.length_take, List.length_take]; omega), fun hn => suf_above s5 (h2 hn) (by rw [List.length_drop, List.length_drop]; omega), fun hy => ?_⟩
  obtain ⟨p, hp, ek, ha⟩ := h3 hy
  obtain ⟨f1, f2⟩ := List.getElem?_eq_some_iff.1 hp
  have ed : B.drop q = p :: B.drop (q + 1) := by rw [List.drop_eq_getElem_cons f1, f2]
  obtain ⟨c2, hc2⟩ : ∃ c2, K[q + 1]? = some c2 := ⟨_, List.getElem?_eq_getElem (by omega)⟩
  obtain ⟨f3, f4⟩ := List.getElem?_eq_some_iff.1 hc2
  have ed2 : K.drop (q + 1) = c2 :: K.drop (q + 2) := by rw [List.drop_eq_getElem_cons f3, f4]
  rw [ed, ed2]
  refine ⟨p, c2 ++ suf (B.drop (q + 1)) (K.drop (q + 2)), hp, ek, rfl, ?_, ?_⟩
  · rw [ed, ed2] at s5
    have := List.pairwise_cons.1 (show Srt (p :: (c2 ++ suf (B.drop (q + 1)) (K.drop (q + 2)))) from s5)
    intro x hx
    rw [← ek]
    exact this.1 x hx
  · intro x hx
    rw [← ek]
    exact s6 x hx p (by rw [ed, ed2]; exact List.mem_cons_self ..)
/-! ### By the height -/
def flat : Nat → Tr → List Pr
  | 0, t => t.ps
  | h + 1, t => inter (t.ks.map (flat h)) t.ps
def ids : Nat → Tr → List Nat
  | 0, t => [t.i]
  | h + 1, t => t.i :: t.ks.flatMap (ids h)
/-- A tree lies in a list of nodes. -/
def Lay (N : List Nd) : Nat → Tr → Prop
  | 0, t => t.ks = [] ∧ N[t.i]? = some ⟨t.ps, []⟩
  | h + 1, t => t.ks.length = t.ps.length + 1 ∧ N[t.i]? = some ⟨t.ps, t.ks.map Tr.i⟩ ∧ ∀ k ∈ t.ks, Lay N h k
/-- Its nodes have as many keys as they may; the upmost one at least so many. -/
def Siz : Nat → Nat → Tr → Prop
  | 0, lo, t => lo ≤ t.ps.length ∧ t.ps.length ≤ 5
  | h + 1, lo, t => lo ≤ t.ps.length ∧ t.ps.length ≤ 5 ∧ ∀ k ∈ t.ks, Siz h 2 k
theorem Lay.at {N : List Nd} : ∀ {h : Nat} {t : Tr}, Lay N h t → N[t.i]? = some ⟨t.ps, t.ks.map Tr.i⟩
  | 0, t, hl => by rw [hl.1]; exact hl.2
  | _ + 1, t, hl => hl.2.1
theorem Siz.le {lo : Nat} : ∀ {h : Nat} {t : Tr}, Siz h lo t → t.ps.length ≤ 5
  | 0, t, hl => hl.2
  | _ + 1, t, hl => hl.2.1
theorem Siz.ge {lo : Nat} : ∀ {h : Nat} {t : Tr}, Siz h lo t → lo ≤ t.ps.length
  | 0, t, hl => hl.1
  | _ + 1, t, hl => hl.1
theorem Siz.mono {lo lo' : Nat} : ∀ {h : Nat} {t : Tr}, Siz h lo t → lo' ≤ lo → Siz h lo' t
  | 0, t, hl, h => ⟨Nat.le_trans h hl.1, hl.2⟩
  | _ + 1, t, hl, h => ⟨Nat.le_trans h hl.1, hl.2⟩
theorem flat_ps {N : List Nd} : ∀ {h : Nat} {t : Tr}, Lay N h t → t.ps.Sublist (flat h t)
  | 0, t, _ => List.Sublist.refl _
  | h + 1, t, hl => inter_sub (by rw [List.length_map]; exact hl.1)
theorem flat_kid {N : List Nd} {h : Nat} {t k : Tr} (hl : Lay N (h + 1) t) (hk : k ∈ t.ks) : (flat h k).Sublist (flat (h + 1) t) := by
  obtain ⟨q, hq⟩ := List.getElem?_of_mem hk
  exact inter_kid (by rw [List.length_map]; exact hl.1) (by rw [List.getElem?_map, hq]; rfl)
theorem getS_mid {A M B : List Pr} {k : ByteArray} (hA : Below' A k) (hB : Above B k) : getS (A ++ (M ++ B)) k = getS M k := by
  have h1 : A.find? (fun p => decide (p.key = k)) = none := by
    rw [List.find?_eq_none]; intro p hp; simpa using slt_ne (hA p hp)
  have h2 : B.find? (fun p => decide (p.key = k)) = none := by
    rw [List.find?_eq_none]; intro p hp; simpa using (slt_ne (hB p hp)).symm
  simp [getS, List.find?_append, h1, h2]
theorem hasK_mid {A M B : List Pr} {k : ByteArray} (hA : Below' A k) (hB : Above B k) : hasK (A ++ (M ++ B)) k = hasK M k := by
  rw [hasK_append, hasK_append, hA.has, hB.has, Bool.false_or, Bool.or_false]
/-- A key's way down. -/
theorem get_down {N : List Nd} {h : Nat} {t : Tr} {k : ByteArray} (hl : Lay N (h + 1) t) (hs : Srt (flat (h + 1) t)) (hn : hasK t.ps k = false) : ∃ c, t.ks[posK t.ps k]? = some c ∧ getS (flat (h + 1) t) k = getS (flat h c) k ∧ hasK (flat (h + 1) t) k = hasK (flat h c) k := by
  obtain ⟨c, h1, h2, h3, h4, _⟩ := node_cut (k := k) (by rw [List.length_map]; exact hl.1) hs
  rw [List.getElem?_map] at h1
  obtain ⟨c', hc', rfl⟩ := Option.map_eq_some_iff.1 h1
  refine ⟨c', hc', ?_, ?_⟩
  · show getS (inter _ _) k = _
    rw [h2]; exact getS_mid h3 (h4 hn)
  · show hasK (inter _ _) k = _
    rw [h2]; exact hasK_mid h3 (h4 hn)
theorem getS_hit {l : List Pr} {k : ByteArray} {p : Pr} (hs : Srt l) (hp : p ∈ l) (e : p.key = k) : getS l k = some p.val ∧ hasK l k = true := by
  have h : hasK l k = true := by unfold hasK; rw [List.any_eq_true]; exact ⟨p, hp, decide_eq_true e⟩
  refine ⟨?_, h⟩
  unfold getS
  cases hf : l.find? fun p => decide (p.key = k) with
  | none => rw [List.find?_eq_none] at hf; exact absurd (decide_eq_true e) (hf p hp)
  | some q =>
    have hq : q ∈ l := List.mem_of_find?_eq_some hf
    have hqe : q.key = k := by simpa using List.find?_some hf
    obtain ⟨i, hi⟩ := List.getElem?_of_mem hp
    obtain ⟨j, hj⟩ := List.getElem?_of_mem hq
    rcases Nat.lt_trichotomy i j with hij | rfl | hij
    · have := hs.lt hij hi hj; rw [e, hqe, slt_irrefl] at this; cases this
    · rw [hi] at hj; injection hj with hj; subst hj; rfl
    · have := hs.lt hij hj hi; rw [e, hqe, slt_irrefl] at this; cases this
theorem getS_none {l : List Pr} {k : ByteArray} (h : hasK l k = false) : getS l k = none := by
  unfold getS
  rw [show l.find? (fun p => decide (p.key = k)) = none from by
    rw [List.find?_eq_none]; intro p hp; unfold hasK at h; rw [List.any_eq_false] at h; exact h p hp]
  rfl
/-! ### Ranges -/
def inR (lo hi : ByteArray) (p : Pr) : Bool := !slt p.key lo && (decide (hi.size = 0) || slt p.key hi)
/-- What there is, and what comes to it out of a list, until there are so many. -/
def rng (lo hi : ByteArray) (L : Nat) (out l : List Pr) : List Pr := out ++ (l.filter (inR lo hi)).take (L - out.length)
theorem rng_app {lo hi : ByteArray} {L : Nat} {out a b : List Pr} : rng lo hi L out (a ++ b) = rng lo hi L (rng lo hi L out a) b := by
  unfold rng
  rw [List.filter_append, List.take_append, List.append_assoc]
  congr 2
  rw [List.length_append, List.length_take]
  congr 1
  omega
theorem rng_below {lo hi : ByteArray} {L : Nat} {out a b : List Pr} (h : Below' a lo) : rng lo hi L out (a ++ b) = rng lo hi L out b := by
  have : a.filter (inR lo hi) = [] := by
    rw [List.filter_eq_nil_iff]
    intro p hp
    simp [inR, h p hp]
  unfold rng
  rw [List.filter_append, this, List.nil_append]
theorem rng_full {lo hi : ByteArray} {L : Nat} {out a : List Pr} (h : L ≤ out.length) : rng lo hi L out a = out := by
  unfold rng
  rw [Nat.sub_eq_zero_of_le h]
  simp
theorem rng_nil {lo hi : ByteArray} {L : Nat} {out : List Pr} : rng lo hi L out [] = out := by simp [rng]
theorem rng_above {lo hi : ByteArray} {L : Nat} {out a : List Pr} (h0 : ¬ hi.size = 0) (h : ∀ p ∈ a, slt p.key hi = false) : rng lo hi L out a = out := by
  have : a.filter (inR lo hi) = [] := by
    rw [List.filter_eq_nil_iff]
    intro p hp
    simp [inR, h p hp, h0]
  unfold rng
  rw [this]
  simp
theorem rng_one {lo hi : ByteArray} {L : Nat} {out b : List Pr} {p : Pr} (h : inR lo hi p = true) (hl : out.length < L) : rng lo hi L out (p :: b) = rng lo hi L (out ++ [p]) b := by
  unfold rng
  rw [List.filter_cons_of_pos h, show L - out.length = (L - (out.length + 1)) + 1 by omega, List.take_succ_cons, List.length_append, List.length_singleton, List.append_assoc]
  rfl
theorem rng_len {lo hi : ByteArray} {L : Nat} {out a : List Pr} : out.length ≤ (rng lo hi L out a).length ∧ (rng lo hi L out a).length ≤ out.length + a.length := by
  unfold rng
  rw [List.length_append, List.length_take]
  have := List.length_filter_le (inR lo hi) a
  omega
/-- What is left of a node from a place on. -/
def restN : Nat → Tr → Nat → List Pr
  | 0, t, q => t.ps.drop q
  | h + 1, t, q => inter ((t.ks.map (flat h)).drop q) (t.ps.drop q)
theorem rest_start {N : List Nd} : ∀ {h : Nat} {t : Tr} {lo hi : ByteArray} {L : Nat} {out : List Pr}, Lay N h t → Srt (flat h t) → rng lo hi L out (flat h t) = rng lo hi L out (restN h t (posK t.ps lo))
  | 0, t, lo, hi, L, out, hl, hs => by
    have h1 := (cut3 (show Srt t.ps from hs) lo).1
    conv => lhs; rw [show flat 0 t = t.ps.take (posK t.ps lo) ++ t.ps.drop (posK t.ps lo) from (List.take_append_drop _ _).symm]
    exact rng_below h1
  | h + 1, t, lo, hi, L, out, hl, hs => by
    obtain ⟨c, h1, h2, h3, _, _⟩ := node_cut (k := lo) (by rw [List.length_map]; exact hl.1) hs
    obtain ⟨g1, g2⟩ := List.getElem?_eq_some_iff.1 h1
    show rng lo hi L out (inter _ _) = rng lo hi L out (inter _ _)
    conv => lhs; rw [h2]
    rw [rng_below h3, List.drop_eq_getElem_cons g1, g2]
    rfl
/-- A kid, and what stands behind it. -/
theorem rest_kid {h : Nat} {t : Tr} {q : Nat} {c : Tr} (hc : t.ks[q]? = some c) : restN (h + 1) t q = flat h c ++ suf (t.ps.drop q) ((t.ks.map (flat h)).drop (q + 1)) := by
  have h1 : (t.ks.map (flat h))[q]? = some (flat h c) := by rw [List.getElem?_map, hc]; rfl
  obtain ⟨g1, g2⟩ := List.getElem?_eq_some_iff.1 h1
  show inter ((t.ks.map (flat h)).drop q) (t.ps.drop q) = _
  rw [List.drop_eq_getElem_cons g1, g2]
  rfl
theorem suf_next {h : Nat} {t : Tr} {q : Nat} {p : Pr} (hl : t.ks.length = t.ps.length + 1) (hp : t.ps[q]? = some p) : suf (t.ps.drop q) ((t.ks.map (flat h)).drop (q + 1)) = p :: restN (h + 1) t (q + 1) := by
  obtain ⟨g1, g2⟩ := List.getElem?_eq_some_iff.1 hp
  have g3 : q + 1 < (t.ks.map (flat h)).length := by rw [List.length_map]; omega
  show _ = p :: inter ((t.ks.map (flat h)).drop (q + 1)) (t.ps.drop (q + 1))
  rw [List.drop_eq_getElem_cons g1, g2, List.drop_eq_getElem_cons g3]
  rfl
theorem suf_end {h : Nat} {t : Tr} {q : Nat} (hq : t.ps.length ≤ q) : suf (t.ps.drop q) ((t.ks.map (flat h)).drop (q + 1)) = [] := by
  rw [List.drop_of_length_le hq]
  rfl
theorem rest0_next {t : Tr} {q : Nat} {p : Pr} (hp : t.ps[q]? = some p) : restN 0 t q = p :: restN 0 t (q + 1) := by
  obtain ⟨g1, g2⟩ := List.getElem?_eq_some_iff.1 hp
  show t.ps.drop q = p :: t.ps.drop (q + 1)
  rw [List.drop_eq_getElem_cons g1, g2]
theorem rest_sub {N : List Nd} : ∀ {h : Nat} {t : Tr} {q : Nat}, Lay N h t → q ≤ t.ps.length → (restN h t q).Sublist (flat h t)
  | 0, t, q, _, _ => List.drop_sublist _ _
  | h + 1, t, q, hl, hq => by
    have h1 : q < (t.ks.map (flat h)).length := by rw [List.length_map, hl.1]; omega
    have e := inter_split (K1 := (t.ks.map (flat h)).take q) (A := t.ps.take q) (t.ks.map (flat h))[q] ((t.ks.map (flat h)).drop (q + 1)) (t.ps.drop q) (by rw [List.length_take, List.length_take, List.length_map, hl.1]; omega)
    rw [← List.drop_eq_getElem_cons h1, List.take_append_drop, List.take_append_drop] at e
    show (inter _ _).Sublist (inter _ _)
    rw [e, List.drop_eq_getElem_cons h1]
    exact List.sublist_append_right _ _
end Go.Proofs.Ytbmpdccoffkjgaa.Ow
