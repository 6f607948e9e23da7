/- A tree that is built of a list: the numbers. -/
import Derived.Test.YtbmpdccoffkjgaaByd
namespace Go.Proofs.Ytbmpdccoffkjgaa.Ow
open Go
set_option linter.unusedVariables false
/-- A share of what is left, and what is left then: s of left, c kids to come. -/
theorem share {left c s m M : Nat} (hc : 1 ≤ c) (hc6 : c ≤ 6) (hs : s = (left + c - 1) / c) (h1 : m * c ≤ left) (h2 : left ≤ M * c) : m ≤ s ∧ s ≤ M ∧ s ≤ left ∧ m * (c - 1) ≤ left - s ∧ left - s ≤ M * (c - 1) := by
  subst hs
  have : c = 1 ∨ c = 2 ∨ c = 3 ∨ c = 4 ∨ c = 5 ∨ c = 6 := by omega
  rcases this with rfl | rfl | rfl | rfl | rfl | rfl <;> simp only [Nat.reduceSub, Nat.reduceAdd, Nat.mul_one, Nat.mul_zero] at * <;> omega
/-- How many kids, of how many keys each. -/
theorem kids_num {n R kids lo : Nat} (hR : 6 ≤ R) (h6 : R % 6 = 0) (hk : kids = (n + R) / R) (hlo : lo * R ≤ n) (h1 : 1 ≤ lo) (hmax : n ≤ 6 * R - 1) :
    lo + 1 ≤ kids ∧ kids ≤ 6 ∧ kids ≤ n ∧ 2 * (R / 6) * kids ≤ n - (kids - 1) ∧ n - (kids - 1) ≤ (R - 1) * kids := by
  have hR0 : 0 < R := by omega
  have e : kids = n / R + 1 := by rw [hk, Nat.add_div_right _ hR0]
  have h2 : lo ≤ n / R := (Nat.le_div_iff_mul_le hR0).2 hlo
  have h3 : n / R < 6 := by rw [Nat.div_lt_iff_lt_mul hR0]; omega
  obtain ⟨d, hd⟩ : ∃ d, d = n / R := ⟨_, rfl⟩
  have h4 : d * R ≤ n := by rw [hd]; exact Nat.div_mul_le_self n R
  have h5 : n < (d + 1) * R := by rw [hd, Nat.mul_comm]; exact Nat.lt_mul_div_succ n hR0
  rw [← hd] at e h2 h3
  subst e
  have : d = 1 ∨ d = 2 ∨ d = 3 ∨ d = 4 ∨ d = 5 := by omega
  rcases this with rfl | rfl | rfl | rfl | rfl <;> refine ⟨by omega, by omega, by omega, by omega, ?_⟩ <;> rw [Nat.sub_mul] <;> omega
end Go.Proofs.Ytbmpdccoffkjgaa.Ow
namespace Go.Proofs.Ytbmpdccoffkjgaa.Ow
open Go
set_option linter.unusedVariables false
theorem pre_snoc : ∀ {K : List (List Pr)} {A : List Pr} (c : List Pr) (p : Pr), K.length = A.length → pre (K ++ [c]) (A ++ [p]) = pre K A ++ (c ++ [p])
  | [], [], c, p, _ => by simp [pre]
  | [], _ :: _, _, _, h => by simp at h
  | _ :: _, [], _, _, h => by simp at h
  | k :: K, q :: A, c, p, h => by
    have ih := pre_snoc (K := K) (A := A) c p (by simpa using h)
    show k ++ q :: pre (K ++ [c]) (A ++ [p]) = k ++ q :: pre K A ++ (c ++ [p])
    rw [ih]; simp
structure Built (T : TS) (h lo : Nat) (l : List Pr) (T' : TS) (t : Tr) : Prop where
  nodes : ∃ M, T'.nodes = T.nodes ++ M
  free : T'.free = []
  root : T'.root = T.root
  cnt : T'.count = T.count
  lay : Lay T'.nodes h t
  siz : Siz h lo t
  flat : flat h t = l
  nd : (ids h t).Nodup
  rg : ∀ x ∈ ids h t, T.nodes.length ≤ x ∧ x < T'.nodes.length
  num : 2 * (T'.nodes.length - T.nodes.length) + lo ≤ l.length + 2
/-- Kids that are built, one behind the other. -/
structure BuiltL (T : TS) (h : Nat) (L : List Tr) (n : Nat) (T' : TS) : Prop where
  nodes : ∃ M, T'.nodes = T.nodes ++ M
  free : T'.free = []
  root : T'.root = T.root
  cnt : T'.count = T.count
  lay : ∀ k ∈ L, Lay T'.nodes h k
  siz : ∀ k ∈ L, Siz h 2 k
  nd : (idl h L).Nodup
  rg : ∀ x ∈ idl h L, T.nodes.length ≤ x ∧ x < T'.nodes.length
  num : 2 * (T'.nodes.length - T.nodes.length) ≤ n
theorem BuiltL.nil {T : TS} {h : Nat} (hf : T.free = []) : BuiltL T h [] 0 T := ⟨⟨[], by simp⟩, hf, rfl, rfl, fun k hk => (by cases hk), fun k hk => (by cases hk), List.nodup_nil, fun x hx => (by cases hx), (by omega)⟩
theorem BuiltL.step {T T1 T2 : TS} {h n : Nat} {L : List Tr} {l : List Pr} {c : Tr} (a : BuiltL T h L n T1) (b : Built T1 h 2 l T2 c) : BuiltL T h (L ++ [c]) (n + l.length) T2 := by
  obtain ⟨M1, e1⟩ := a.nodes
  obtain ⟨M2, e2⟩ := b.nodes
  have l1 : T.nodes.length ≤ T1.nodes.length := by rw [e1]; simp
  have l2 : T1.nodes.length ≤ T2.nodes.length := by rw [e2]; simp
  refine ⟨⟨M1 ++ M2, by rw [e2, e1, List.append_assoc]⟩, b.free, b.root.trans a.root, b.cnt.trans a.cnt, fun k hk => ?_, fun k hk => ?_, ?_, fun x hx => ?_, ?_⟩
  · rcases List.mem_append.1 hk with hk | hk
    · refine (a.lay k hk).frame fun j hj => ?_
      rw [e2, List.getElem?_append_left (a.rg j (kid_ids hk hj)).2]
    · rw [List.mem_singleton.1 hk]; exact b.lay
  · rcases List.mem_append.1 hk with hk | hk
    · exact a.siz k hk
    · rw [List.mem_singleton.1 hk]; exact b.siz
  · rw [idl_app, List.nodup_append]
    refine ⟨a.nd, by simpa [idl] using b.nd, fun x hx y hy e => ?_⟩
    have h1 := (a.rg x hx).2
    have h2 := (b.rg y (by simpa [idl] using hy)).1
    omega
  · rw [idl_app] at hx
    rcases List.mem_append.1 hx with hx | hx
    · have := a.rg x hx; omega
    · have := b.rg x (by simpa [idl] using hx); omega
  · have h1 := a.num
    have h2 := b.num
    omega
/-- And the node above them. -/
theorem BuiltL.fin {T T1 : TS} {h lo n : Nat} {L : List Tr} {P l : List Pr} (a : BuiltL T h L n T1) (hl : L.length = P.length + 1) (h1 : lo ≤ P.length) (h5 : P.length ≤ 5) (hfl : inter (L.map (Ow.flat h)) P = l) (hn : l.length = n + P.length) :
    Built T (h + 1) lo l ⟨T1.nodes ++ [⟨P, L.map Tr.i⟩], T1.free, T1.root, T1.count⟩ (.node T1.nodes.length P L) := by
  obtain ⟨M1, e1⟩ := a.nodes
  have l1 : T.nodes.length ≤ T1.nodes.length := by rw [e1]; simp
  have hni : T1.nodes.length ∉ idl h L := fun hm => by have := (a.rg _ hm).2; omega
  refine ⟨⟨M1 ++ [⟨P, L.map Tr.i⟩], by show T1.nodes ++ _ = _; rw [e1, List.append_assoc]⟩, a.free, a.root, a.cnt, ⟨hl, by show (T1.nodes ++ _)[T1.nodes.length]? = _; simp [Tr.ps, Tr.ks, Tr.i], fun k hk => (a.lay k hk).frame fun j hj => ?_⟩, ⟨h1, h5, a.siz⟩, hfl, ?_, fun x hx => ?_, ?_⟩
  · show (T1.nodes ++ _)[j]? = _
    rw [List.getElem?_append_left (a.rg j (kid_ids hk hj)).2]
  · rw [ids_succ, List.nodup_cons]; exact ⟨hni, a.nd⟩
  · rw [ids_succ] at hx
    show _ ∧ x < (T1.nodes ++ _).length
    rw [List.length_append, List.length_singleton]
    rcases List.mem_cons.1 hx with rfl | hx
    · omega
    · have := a.rg x hx; omega
  · have := a.num
    show 2 * ((T1.nodes ++ _).length - _) + lo ≤ _
    rw [List.length_append, List.length_singleton]
    omega
theorem built0 {T : TS} {lo : Nat} {l : List Pr} (hf : T.free = []) (h1 : lo ≤ l.length) (h5 : l.length ≤ 5) (h2 : lo ≤ 2) : Built T 0 lo l ⟨T.nodes ++ [⟨l, []⟩], T.free, T.root, T.count⟩ (.node T.nodes.length l []) := by
  refine ⟨⟨_, rfl⟩, hf, rfl, rfl, ⟨rfl, by show (T.nodes ++ _)[T.nodes.length]? = _; simp [Tr.ps, Tr.i]⟩, ⟨h1, h5⟩, rfl, by simp [ids], fun x hx => ?_, ?_⟩
  · have : x = T.nodes.length := by simpa [ids, Tr.i] using hx
    show _ ∧ x < (T.nodes ++ _).length
    rw [List.length_append, List.length_singleton]; omega
  · show 2 * ((T.nodes ++ _).length - _) + lo ≤ _
    rw [List.length_append, List.length_singleton]; omega
end Go.Proofs.Ytbmpdccoffkjgaa.Ow
