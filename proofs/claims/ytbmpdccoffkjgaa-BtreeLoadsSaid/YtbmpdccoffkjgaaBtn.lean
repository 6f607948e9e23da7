/- Put, of a whole tree; how deep a tree is. -/
import Derived.Test.YtbmpdccoffkjgaaBtm
namespace Go.Proofs.Ytbmpdccoffkjgaa.Ow
open Go
set_option linter.unusedVariables false
theorem TInv.gd {T : TS} {h : Nat} {t : Tr} (hI : TInv T h t) : Gd T h (if h = 0 then 0 else 1) t := by
  refine ⟨hI.lay, ?_, hI.nd, hI.lt⟩
  cases h with
  | zero => exact hI.siz
  | succ h => exact ⟨hI.rt (by omega), hI.siz.2⟩
theorem Gd.inv {T : TS} {h : Nat} {t : Tr} (g : Gd T h (if h = 0 then 0 else 1) t) (hs : Srt (flat h t)) (hr : T.root = t.i) (hc : T.count = (flat h t).length) : TInv T h t :=
  ⟨g.lay, g.siz.mono (Nat.zero_le _), fun h0 => by have := g.siz.ge; rw [if_neg h0] at this; exact this, hs, hr, hc, g.nd, g.lt⟩
theorem put_inv {k v : ByteArray} {T : TS} {h : Nat} {t : Tr} (hI : TInv T h t) (hb : T.nodes.length + h + 4 ≤ 549755813888) (hc : T.count ≤ 549755813888) :
    ∃ T' h' t', PutT k v T T' (!hasK (flat h t) k) ∧ TInv T' h' t' ∧ flat h' t' = putS (flat h t) k v ∧ T'.nodes.length ≤ T.nodes.length + h + 3 := by
  have g := hI.gd
  have hle := hI.siz.le
  have hcnt : ∀ {T' : TS} {h' : Nat} {t' : Tr}, flat h' t' = putS (flat h t) k v → T'.count = T.count + (if hasK (flat h t) k then 0 else 1) → T'.count = (flat h' t').length := fun e1 e2 => by
    rw [e1, putS_len hI.srt, e2, hI.cnt]
  by_cases h5 : t.ps.length < 5
  · obtain ⟨m, T', t', p1, p2, p3, p4, p5, p6, p7⟩ := put_law (k := k) (v := v) g hI.srt (by omega) hc h5
    refine ⟨T', h, t', ⟨t.ps, t.ks.map Tr.i, by rw [hI.root]; exact hI.lay.at, by omega, fun x hx => hI.lt x (List.mem_append_right _ hx), .inl ⟨h5, m, by rw [hI.root]; exact p1⟩⟩, p2.inv (by rw [p5]; exact putS_srt hI.srt k v) (by rw [p3.root, hI.root, p4]) (hcnt p5 p6), p5, by omega⟩
  · have h55 : t.ps.length = 5 := by omega
    obtain ⟨T1, n, hadd⟩ : ∃ T1 n, addL T ⟨[], [T.root]⟩ = (T1, n) := ⟨_, _, rfl⟩
    obtain ⟨a1, a2, a3, a4, a5, a6, a7, a8, a9, a10⟩ := addL_spec hadd (List.nodup_append.1 hI.nd).2.1 (fun x hx => hI.lt x (List.mem_append_right _ hx))
    have hnid : n ∉ ids h t := fun hm => by
      rcases a5 with h1 | h1
      · exact (List.nodup_append.1 hI.nd).2.2 n hm n h1 rfl
      · have := hI.lt n (List.mem_append_left _ hm); omega
    have hrn : T.root ≠ n := fun e => hnid (by rw [← e, hI.root]; exact ids_self h t)
    have hrl : T.root < T.nodes.length := hI.lt _ (List.mem_append_left _ (by rw [hI.root]; exact ids_self h t))
    have hl1 : Lay T1.nodes h t := hI.lay.frame fun j hj => a2 j (fun e => hnid (e ▸ hj)) (hI.lt j (List.mem_append_left _ hj))
    have hs2 : Siz h 2 t := by
      have := hI.siz
      cases h with
      | zero => exact ⟨by omega, this.2⟩
      | succ h => exact ⟨by omega, this.2⟩
    have g1 : Gd ⟨T1.nodes, T1.free, n, T1.count⟩ (h + 1) 0 (.node n [] ([] ++ t :: [])) := by
      refine ⟨⟨rfl, ?_, fun k hk => ?_⟩, ⟨Nat.zero_le _, Nat.zero_le _, fun k hk => ?_⟩, ?_, ?_⟩
      · show T1.nodes[n]? = some ⟨[], [t.i]⟩
        rw [a1, hI.root]
      · obtain rfl : k = t := by simpa [Tr.ks] using hk
        exact hl1
      · obtain rfl : k = t := by simpa [Tr.ks] using hk
        exact hs2
      · show (n :: idl h [t] ++ T1.free).Nodup
        rw [idl_cons, show idl h [] = [] from rfl, List.append_nil, List.cons_append, List.nodup_cons]
        refine ⟨fun hm => ?_, hI.nd.sublist (List.Sublist.append_left a3 _)⟩
        rcases List.mem_append.1 hm with h1 | h1
        · exact hnid h1
        · exact (List.nodup_cons.1 a4).1 h1
      · intro x hx
        have hx' : x ∈ n :: (ids h t ++ [] ++ T1.free) := hx
        rcases List.mem_cons.1 hx' with rfl | h1
        · exact a8
        · rw [List.append_nil] at h1
          rcases List.mem_append.1 h1 with h1 | h1
          · exact Nat.lt_of_lt_of_le (hI.lt x (List.mem_append_left _ h1)) a6
          · exact Nat.lt_of_lt_of_le (hI.lt x (List.mem_append_right _ (a3.subset h1))) a6
    obtain ⟨up, hup⟩ : ∃ up, t.ps[2]? = some up := ⟨_, List.getElem?_eq_getElem (by omega)⟩
    obtain ⟨r, g2, s2, f2, l2, c2⟩ := split_good g1 rfl h55 (by simp) hup
    have f2' : flat (h + 1) (.node n ([].take ([] : List Tr).length ++ up :: [].drop ([] : List Tr).length) ([] ++ Tr.node t.i (t.ps.take 2) (t.ks.take 3) :: .node r (t.ps.drop 3) (t.ks.drop 3) :: [])) = flat h t := by
      rw [f2]
      show flat h t ++ suf [] [] = flat h t
      simp [suf]
    obtain ⟨m, T', t', p1, p2, p3, p4, p5, p6, p7⟩ := put_law (k := k) (v := v) (lo := 1) ⟨g2.lay, ⟨by simp [Tr.ps], g2.siz.2⟩, g2.nd, g2.lt⟩ (by rw [f2']; exact hI.srt) (by simp only at l2; omega) (by rw [c2]; simp only; omega) (by simp [Tr.ps])
    rw [f2'] at p1 p5 p6
    have hroot : T'.root = t'.i := by rw [p3.root, s2.root, p4]; rfl
    refine ⟨T', h + 1, t', ⟨t.ps, t.ks.map Tr.i, by rw [hI.root]; exact hI.lay.at, by omega, fun x hx => hI.lt x (List.mem_append_right _ hx), .inr ⟨h55, T1, n, up, m, hadd, hup, ?_, a1, ?_, hrn, fun x hx => ⟨Nat.lt_of_lt_of_le (hI.lt x (List.mem_append_right _ (a3.subset hx))) a6, fun e => (List.nodup_cons.1 a4).1 (e ▸ hx)⟩, by omega, ?_⟩⟩, Gd.inv (by rw [if_neg (by omega)]; exact p2) (by rw [p5]; exact putS_srt hI.srt k v) hroot (hcnt p5 (by rw [p6, c2]; simp only; rw [a10])), p5, by simp only at l2; omega⟩
    · have := hI.lay
      cases h with
      | zero => left; rw [List.length_map, this.1]; rfl
      | succ h => right; rw [List.length_map, this.1]; omega
    · rw [a2 _ hrn hrl, hI.root]; exact hI.lay.at
    · rw [hI.root]; exact p1
/-! ### How deep -/
theorem inter_len : ∀ {K : List (List Pr)} {B : List Pr} {n : Nat}, K.length = B.length + 1 → (∀ c ∈ K, n ≤ c.length) → (n + 1) * K.length ≤ (inter K B).length + 1
  | [], _, _, h, _ => by simp at h
  | [c], [], n, _, hc => by
    have := hc c (List.mem_singleton.2 rfl)
    show (n + 1) * 1 ≤ (c ++ suf [] []).length + 1
    simp [suf]
    omega
  | c :: d :: K, p :: B, n, h, hc => by
    have ih := inter_len (K := d :: K) (B := B) (n := n) (by simpa using h) (fun x hx => hc x (List.mem_cons_of_mem _ hx))
    have := hc c (List.mem_cons_self ..)
    show (n + 1) * (K.length + 1 + 1) ≤ (c ++ p :: (d ++ suf B K)).length + 1
    have e : (inter (d :: K) B) = d ++ suf B K := rfl
    rw [e] at ih
    rw [Nat.mul_succ]
    simp only [List.length_append, List.length_cons] at ih ⊢
    omega
  | [c], _ :: _, _, h, _ => by simp at h
  | _ :: _ :: _, [], _, h, _ => by simp at h
theorem flat_deep {N : List Nd} : ∀ {h : Nat} {t : Tr}, Lay N h t → Siz h 2 t → 3 ^ (h + 1) ≤ (flat h t).length + 1
  | 0, t, _, hs => by have := hs.1; show 3 ^ 1 ≤ t.ps.length + 1; omega
  | h + 1, t, hl, hs => by
    have h1 := inter_len (K := t.ks.map (flat h)) (B := t.ps) (n := 3 ^ (h + 1) - 1) (by rw [List.length_map]; exact hl.1) (fun c hc => by
      obtain ⟨k, hk, rfl⟩ := List.mem_map.1 hc
      have := flat_deep (hl.2.2 k hk) (hs.2.2 k hk)
      omega)
    have hp : 0 < 3 ^ (h + 1) := Nat.pow_pos (by decide)
    rw [Nat.sub_add_cancel hp, List.length_map] at h1
    have h2 := hl.1
    have h3 := hs.1
    have : 3 ^ (h + 1 + 1) = 3 ^ (h + 1) * 3 := Nat.pow_succ ..
    have h4 : 3 ^ (h + 1) * 3 ≤ 3 ^ (h + 1) * t.ks.length := Nat.mul_le_mul_left _ (by omega)
    show 3 ^ (h + 1 + 1) ≤ (inter _ _).length + 1
    omega
theorem TInv.deeper {T : TS} {h : Nat} {t : Tr} (hI : TInv T h t) : 2 * 3 ^ h ≤ T.count + 1 ∨ h = 0 := by
  cases h with
  | zero => exact .inr rfl
  | succ h =>
    left
    have hl := hI.lay
    have h1 := inter_len (K := t.ks.map (flat h)) (B := t.ps) (n := 3 ^ (h + 1) - 1) (by rw [List.length_map]; exact hl.1) (fun c hc => by
      obtain ⟨k, hk, rfl⟩ := List.mem_map.1 hc
      have := flat_deep (hl.2.2 k hk) (hI.siz.2.2 k hk)
      omega)
    have hp : 0 < 3 ^ (h + 1) := Nat.pow_pos (by decide)
    rw [Nat.sub_add_cancel hp, List.length_map] at h1
    have h2 := hl.1
    have h3 := hI.rt (by omega)
    have h4 : 3 ^ (h + 1) * 2 ≤ 3 ^ (h + 1) * t.ks.length := Nat.mul_le_mul_left _ (by omega)
    have h5 : T.count = (inter (t.ks.map (flat h)) t.ps).length := hI.cnt
    omega
theorem le_pow3 : ∀ h : Nat, h + 1 ≤ 3 ^ h
  | 0 => by decide
  | h + 1 => by have := le_pow3 h; rw [Nat.pow_succ]; omega
theorem TInv.height {T : TS} {h : Nat} {t : Tr} (hI : TInv T h t) : h ≤ T.count := by
  rcases hI.deeper with h1 | h1
  · have := le_pow3 h; omega
  · omega
def T0 : TS := ⟨[⟨[], []⟩], [], 0, 0⟩
theorem T0_inv : TInv T0 0 (.node 0 [] []) := ⟨⟨rfl, rfl⟩, ⟨Nat.zero_le _, Nat.zero_le _⟩, fun h => absurd rfl h, List.Pairwise.nil, rfl, rfl, by simp [ids, T0, Tr.i], by simp [ids, T0, Tr.i]⟩
end Go.Proofs.Ytbmpdccoffkjgaa.Ow
