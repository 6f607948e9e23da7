/- Walks. -/
import Derived.Test.YtbmpdccoffkjgaaBza
import Derived.Test.YtbmpdccoffkjgaaByi
import Derived.Test.YtbmpdccoffkjgaaTyu
namespace Go.Proofs.Ytbmpdccoffkjgaa.Ow
open Go
set_option linter.unusedVariables false
structure BdZ where
  i : Nat
  l : List Pr
  a : Option Addr
  c : Nat
  left : Nat
  T : TS
  it : Itm
  P : RowP Pr
  K : RowP Nat
  L : List Tr
  n : Nat
def BuildSpec (h : Nat) : Prop := ∀ (b : Nat) (T : TS) (it : Itm) (F : Mem) (hT : Lies b T it) (hfree : T.free = []) (lo : Nat) (hlo : lo ≤ 2) (hl1 : h ≠ 0 → 1 ≤ lo) (l : List Pr) (a : Option Addr) (c : Nat) (hS : Sl F encP 2 a c l) (hmin : lo * 6 ^ h ≤ l.length) (hmax : l.length ≤ 6 ^ (h + 1) - 1) (hnb : 2 * T.nodes.length + l.length ≤ 5700000000000) (hh : h ≤ 19) (d : Int) (hd : d = ((h : Nat) : Int)),
  Fn Try.prog 28 #[.pointer (some ⟨b, 0, none⟩), .slice a l.length c, .int .i64 d] [it] F (fun v M G => ∃ it', M = [it'] ∧ G = F ∧ ∃ T' t, Lies b T' it' ∧ Built T h lo l T' t ∧ v = .int .i64 (t.i : Int))
theorem build_0 : BuildSpec (0) := by
  intro b T it F hT hfree lo hlo hl1 l a c hS hmin hmax hnb hh d hd
  simp only [Nat.pow_zero, Nat.zero_add, Nat.pow_one, Nat.mul_one] at hmin hmax
  have hm := hS.len
  refine Fn.start1 Try.func28 rfl Try.ntmps28 rfl (env := [(0, _), (1, _), (2, _)]) rfl ?_
  intro R
  refine .seq ?_
  refine .region ?_
  refine .v (.asn rfl) rfl ?_
  refine .nil ?_
  refine .then ?_
  refine .seq ?_
  refine .seq ?_
  refine .region ?_
  refine .v (.mv rfl) rfl ?_
  refine .vT (.eq rfl rfl) rfl (by omega) ?_
  refine .nil ?_
  refine .then ?_
  refine .condT rfl ?_
  refine .seq ?_
  refine .region ?_
  refine .v (.mv rfl) rfl ?_
  refine .v (.mv rfl) rfl ?_
  refine .lend (.make rfl rfl (Try.call41 _) (fun G hle hG => (clone_P l _ _ G (hS.mono hle) (by omega)).mono (fun v M H _ ⟨it, h1, _, h2⟩ => ⟨it, h1, h2⟩))) rfl ?_
  rintro _ it1 ⟨a1, c1, rfl, hr1⟩
  refine .v (.build rfl (fun w => bd68_0 w _ _ _)) rfl ?_
  refine .emp ?_
  refine .front (.there .here) ?_
  refine .join ?_
  refine .front (.there .here) ?_
  refine .join ?_
  refine .lend (.lend rfl rfl (Try.call34 _) _ (fun _ => .here) (fun G hle hG => (add_fn b T _ G hT (⟨⟨l, a1, c1, it1⟩, ⟨[], none, 0, []⟩⟩ : PN) ⟨hr1, Row.nil⟩ (fun x hx => by rw [hfree] at hx; cases hx) (by omega)).mono (fun v M H _ ⟨it, h1, _, h2⟩ => ⟨it, h1, h2⟩))) rfl ?_
  rintro _ itq ⟨hL2, rfl⟩
  rw [addL_none _ (by rw [hfree]; rfl)] at hL2
  rw [addL_none _ (by rw [hfree]; rfl)]
  dsimp only at hL2 ⊢
  refine .v (.asn rfl) rfl ?_
  refine .nil ?_
  refine .then ?_
  refine .ret ?_
  refine .then_ret ?_
  exact .done _ [itq] (.t1 rfl rfl) .rfl ⟨_, rfl, rfl, _, .node T.nodes.length l [], hL2, built0 hfree (by omega) (by omega) hlo, rfl⟩ (fun w ho => by simpa [List.append_assoc] using (subl (.cons_cons _ (.cons_cons _ .slnil)) w ho))
theorem build_s (h : Nat) (ih : BuildSpec h) : BuildSpec (h + 1) := by
  intro b T it F hT hfree lo hlo hl1 l a c hS hmin hmax hnb hh d hd
  have hm := hS.len
  obtain ⟨Rz, hR⟩ : ∃ Rz, Rz = 6 ^ (h + 1) := ⟨_, rfl⟩
  have h6p : 0 < 6 ^ h := Nat.pow_pos (by decide)
  have hR6 : Rz = 6 * 6 ^ h := by rw [hR, Nat.pow_succ]; omega
  rw [Nat.pow_succ 6 (h + 1), ← hR] at hmax
  rw [← hR] at hmin
  have h6c : 6 ^ (h + 1) ≤ 21936950640377856 := Nat.le_trans (Nat.pow_le_pow_right (by decide) (show h + 1 ≤ 21 by omega)) (by decide)
  rw [← hR] at h6c
  obtain ⟨kids, hkids⟩ : ∃ kids, kids = (l.length + Rz) / Rz := ⟨_, rfl⟩
  obtain ⟨hk1, hk2, hk3, hk4, hk5⟩ := kids_num (by omega) (by omega) hkids hmin (hl1 (by omega)) (by omega)
  have hR6d : Rz / 6 = 6 ^ h := by omega
  refine Fn.start1 Try.func28 rfl Try.ntmps28 rfl (env := [(0, _), (1, _), (2, _)]) rfl ?_
  intro R
  refine .seq ?_
  refine .region ?_
  refine .v (.asn rfl) rfl ?_
  refine .nil ?_
  refine .then ?_
  refine .seq ?_
  refine .seq ?_
  refine .region ?_
  refine .v (.mv rfl) rfl ?_
  refine .vF (.eq rfl rfl) rfl (by omega) ?_
  refine .nil ?_
  refine .then ?_
  refine .condF rfl ?_
  refine .skip ?_
  refine .then ?_
  refine .seq ?_
  refine .region ?_
  refine .v (.mv rfl) rfl ?_
  refine .v (.lenl Try.underlying22 rfl) rfl ?_
  refine .v (.mv rfl) rfl ?_
  refine .v (.sub rfl rfl (by omega)) rfl ?_
  refine .kn (t := 22) (v := .int .i64 ((h : Nat) : Int)) rfl (congrArg (Value.int .i64) (by omega)) ?_
  refine .v (.call rfl rfl (Try.call27 _) (fun G hle hG => room_fn h (by omega) G)) rfl ?_
  refine .kn (t := 23) (v := .int .i64 ((Rz - 1 : Nat) : Int)) rfl (congrArg (Value.int .i64) (by rw [hR])) ?_
  refine .v (.add rfl rfl (by omega)) rfl ?_
  refine .v (.add rfl rfl (by omega)) rfl ?_
  refine .v (.mv rfl) rfl ?_
  refine .v (.sub rfl rfl (by omega)) rfl ?_
  refine .kn (t := 27) (v := .int .i64 ((h : Nat) : Int)) rfl (congrArg (Value.int .i64) (by omega)) ?_
  refine .v (.call rfl rfl (Try.call27 _) (fun G hle hG => room_fn h (by omega) G)) rfl ?_
  refine .kn (t := 28) (v := .int .i64 ((Rz - 1 : Nat) : Int)) rfl (congrArg (Value.int .i64) (by rw [hR])) ?_
  refine .v (.add rfl rfl (by omega)) rfl ?_
  refine .v (.quo rfl rfl ⟨by omega, by omega, by omega⟩) rfl ?_
  refine .kn (t := 30) (v := .int .i64 ((kids : Nat) : Int)) rfl (congrArg (Value.int .i64) (by rw [hkids, Int.natCast_ediv, show ((l.length + Rz : Nat) : Int) = (l.length : Int) + ((Rz - 1 : Nat) : Int) + 1 by omega, show ((Rz : Nat) : Int) = ((Rz - 1 : Nat) : Int) + 1 by omega])) ?_
  refine .v (.asn rfl) rfl ?_
  refine .nil ?_
  refine .then ?_
  refine .seq ?_
  refine .region ?_
  refine .nb (.alloc ty68 rfl) rfl (fun b1 => ?_)
  refine .nil ?_
  refine .then ?_
  refine .seq ?_
  refine .region ?_
  refine .v (.mv rfl) rfl ?_
  refine .v (.lenl Try.underlying22 rfl) rfl ?_
  refine .v (.mv rfl) rfl ?_
  refine .v (.sub rfl rfl (by omega)) rfl ?_
  refine .v (.sub rfl rfl (by omega)) rfl ?_
  refine .kn (t := 35) (v := .int .i64 ((l.length - (kids - 1) : Nat) : Int)) rfl (congrArg (Value.int .i64) (by omega)) ?_
  refine .v (.asn rfl) rfl ?_
  refine .nil ?_
  refine .then ?_
  refine .seq ?_
  refine .seq ?_
  refine .region ?_
  refine .v (.mv rfl) rfl ?_
  refine .v (.mv rfl) rfl ?_
  refine .nil ?_
  refine .then ?_
  refine .block ?_
  refine .emp ?_
  refine .emp ?_
  refine .front (.there (.there (.there .here))) ?_
  refine .front (.there (.there (.there .here))) ?_
  refine WC.loopx (fx := [(0, _), (2, _), (6, _), (7, _), (8, _), (36, _)]) (pre := [_, _, _, _]) (fm := [_]) rfl (.cons rfl rfl (.cons rfl rfl (.cons rfl rfl (.cons rfl rfl (.cons rfl rfl (.cons rfl rfl .nil)))))) (ι := BdZ) (fun z => z.i ≤ kids ∧ Lies b z.T z.it ∧ BuiltL T h z.L z.n z.T ∧ Row 47 encP 2 z.P.a z.P.c z.P.xs z.P.it ∧ Row 3 encK 1 z.K.a z.K.c z.K.xs z.K.it ∧ z.K.xs = z.L.map Tr.i ∧ z.L.length = z.i ∧ Sl F encP 2 z.a z.c z.l ∧ (z.i < kids → z.P.xs.length = z.i ∧ pre (z.L.map (flat h)) z.P.xs ++ z.l = l ∧ z.l.length = z.left + (kids - z.i - 1) ∧ 2 * 6 ^ h * (kids - z.i) ≤ z.left ∧ z.left ≤ (Rz - 1) * (kids - z.i) ∧ z.n + z.i + z.l.length = l.length) ∧ (z.i = kids → z.P.xs.length + 1 = kids ∧ inter (z.L.map (flat h)) z.P.xs = l ∧ z.n + z.P.xs.length = l.length)) (fun z => kids - z.i) (fun z => [(1, .slice z.a z.l.length z.c), (9, .int .i64 (z.left : Int)), (37, .int .i64 (z.i : Int))]) (fun z => [[⟨b1, 68, [.slice z.P.a z.P.xs.length z.P.c, .slice z.K.a z.K.xs.length z.K.c]⟩], z.it, z.P.it, z.K.it]) (fun _ => F) ⟨0, l, a, c, l.length - (kids - 1), T, it, ⟨[], none, 0, []⟩, ⟨[], none, 0, []⟩, [], 0⟩ ⟨Nat.zero_le _, hT, .nil hfree, Row.nil, Row.nil, rfl, rfl, hS, fun _ => ⟨rfl, rfl, by (try dsimp only); omega, by rw [Nat.sub_zero]; rw [← hR6d]; exact hk4, by rw [Nat.sub_zero]; exact hk5, by (try dsimp only); omega⟩, fun h_ => by (try dsimp only at h_); omega⟩ ?he ?hm ?round
  case he => exact .cons rfl rfl (.cons rfl rfl (.cons rfl rfl (.cons rfl rfl (.cons rfl rfl (.cons rfl rfl (.cons rfl rfl (.cons rfl rfl (.cons rfl rfl .nil))))))))
  case hm => exact (fun _ h => h)
  case round =>
    intro z hk
    obtain ⟨i, l1, a1, c1, left, T1, it1, P1, K1, L1, n1⟩ := z
    obtain ⟨hi, hL1, hB1, hrP, hrK, hKx, hLl, hS1, hlt, hend⟩ := hk
    dsimp only [List.cons_append, List.nil_append] at hi hL1 hB1 hrP hrK hKx hLl hS1 hlt hend ⊢
    have hm1 := hS1.len
    have hKl : K1.xs.length = i := by rw [hKx, List.length_map]; exact hLl
    refine .seq ?_
    refine .region ?_
    refine .vs (.lt rfl rfl) rfl (fun h38_2 => ?_) (fun h38_2 => ?_)
    · skip
      refine .nil ?_
      refine .then ?_
      refine .seq ?_
      refine .condT rfl ?_
      refine .skip ?_
      refine .then ?_
      refine .seq ?_
      refine .block ?_
      refine .seq ?_
      refine .region ?_
      have hik : i < kids := by have h_ := h38_2; omega
      obtain ⟨hPl, hpre, hll, hm4, hm5, hn1⟩ := hlt hik
      obtain ⟨sz, hsz⟩ : ∃ sz, sz = (left + (kids - i) - 1) / (kids - i) := ⟨_, rfl⟩
      obtain ⟨hs1, hs2, hs3, hs4, hs5⟩ := share (show 1 ≤ kids - i by omega) (show kids - i ≤ 6 by omega) hsz hm4 hm5
      have hszl : sz ≤ l1.length := by omega
      refine .v (.mv rfl) rfl ?_
      refine .v (.asn rfl) rfl ?_
      refine .nil ?_
      refine .then ?_
      refine .seq ?_
      refine .region ?_
      refine .v (.mv rfl) rfl ?_
      refine .v (.mv rfl) rfl ?_
      refine .v (.add rfl rfl (by omega)) rfl ?_
      refine .v (.mv rfl) rfl ?_
      refine .v (.sub rfl rfl (by omega)) rfl ?_
      refine .v (.sub rfl rfl (by omega)) rfl ?_
      refine .v (.mv rfl) rfl ?_
      refine .v (.mv rfl) rfl ?_
      refine .v (.sub rfl rfl (by omega)) rfl ?_
      refine .v (.quo rfl rfl ⟨by omega, by omega, by omega⟩) rfl ?_
      refine .kn (t := 49) (v := .int .i64 ((sz : Nat) : Int)) rfl (congrArg (Value.int .i64) (by rw [hsz, Int.natCast_ediv, show ((left + (kids - i) - 1 : Nat) : Int) = (left : Int) + (kids : Int) - (i : Int) - 1 by omega, show ((kids - i : Nat) : Int) = (kids : Int) - (i : Int) by omega])) ?_
      refine .v (.asn rfl) rfl ?_
      refine .nil ?_
      refine .then ?_
      refine .seq ?_
      refine .region ?_
      refine .v (.mv rfl) rfl ?_
      refine .v (.mv rfl) rfl ?_
      refine .v (.sub rfl rfl (by omega)) rfl ?_
      refine .kn (t := 52) (v := .int .i64 ((left - sz : Nat) : Int)) rfl (congrArg (Value.int .i64) (by omega)) ?_
      refine .v (.asn rfl) rfl ?_
      refine .nil ?_
      refine .then ?_
      refine .seq ?_
      refine .draw [[], [0], [], [], [], [3, 4], [], [6], [2, 5, 7], [8], [1, 9, 8], [0, 1, 2, 3, 4, 5, 6, 7, 8, 9, 10], [11, 10, 10, 0, 1, 2, 3, 4, 5, 6, 7, 8, 9, 10]] [] (by kernel_rfl) (by kernel_rfl) rfl (e1 := [(0, _), (1, _), (2, _), (6, _), (7, _), (8, _), (9, _), (10, _), (11, _), (36, _), (37, _)]) (.cons rfl rfl (.cons rfl rfl (.cons rfl rfl (.cons rfl rfl (.cons rfl rfl (.cons rfl rfl (.cons rfl rfl (.cons rfl rfl (.cons rfl rfl (.cons rfl rfl (.cons rfl rfl .nil))))))))))) (fun x hx => by cases hx) rfl ?_
      refine .v (i := 0) [] rfl rfl rfl .nil (.n (.fab fl68_1 rfl)) ?_
      refine .v (i := 1) [(53, _)] rfl rfl rfl (.cons (.head _) rfl rfl .nil) (.n (.ldb ty58 rfl .here rfl)) ?_
      refine .v (i := 2) [] rfl rfl rfl .nil (.n (.mv rfl)) ?_
      refine .v (i := 3) [] rfl rfl rfl .nil (.n (.mv rfl)) ?_
      refine .v (i := 4) [] rfl rfl rfl .nil (.n (.mv rfl)) ?_
      refine .v (i := 5) [(56, _), (57, _)] rfl rfl rfl (.cons (.tail _ (.head _)) rfl rfl (.cons (.head _) rfl rfl .nil)) (.n (.stl l1 sz sl22 rfl rfl ⟨by omega, by omega, hS1.cap⟩)) ?_
      refine .v (i := 6) [] rfl rfl rfl .nil (.n (.mv rfl)) ?_
      refine .v (i := 7) [(59, _)] rfl rfl rfl (.cons (.head _) rfl rfl .nil) (.n (.sub rfl rfl (by omega))) ?_
      refine .e (i := 8) [(55, _), (58, _), (60, _)] [8, 2, 5, 7, 3, 4, 6] rfl rfl rfl (.cons (.tail _ (.tail _ (.tail _ (.tail _ (.tail _ (.head _)))))) rfl rfl (.cons (.tail _ (.tail _ (.head _))) rfl rfl (.cons (.head _) rfl rfl .nil))) rfl rfl rfl .n (.lend rfl rfl (Try.call28 _) _ (fun _ => (.there .here)) (fun G hle hG => (ih b T1 it1 G hL1 hB1.free 2 (Nat.le_refl _) (fun _ => by decide) (l1.take sz) a1 c1 ((hS1.mono hle).take sz) (by rw [List.length_take, Nat.min_eq_left hszl]; exact hs1) (by rw [List.length_take, Nat.min_eq_left hszl, ← hR]; exact hs2) (by have h_ := hB1.num; rw [List.length_take, Nat.min_eq_left hszl]; omega) (by omega) _ (by omega)).mono (fun v M H _ ⟨it, h1, _, h2⟩ => ⟨it, h1, h2⟩))) ?_
      rintro _ _ Gs3 _ ⟨itq, rfl, hGs_, ⟨T2, t, hL2, hBt, rfl⟩⟩
      subst Gs3
      have hB2 := hB1.step hBt
      have hfl1 : flat h t = l1.take sz := hBt.flat
      refine ⟨.skip rfl (.skip rfl (.skip rfl (.skip rfl (.skip rfl (.skip rfl (.again [(53, _)] rfl (.cons (.tail _ (.tail _ (.tail _ (.tail _ (.tail _ (.tail _ (.tail _ (.head _)))))))) rfl rfl .nil) (.n (.ldb ty58 rfl .here rfl)) (.again [] rfl .nil (.n (.fab fl68_1 rfl)) .nil))))))), rfl, ?_⟩
      refine .e (i := 9) [(61, _)] [9, 8, 2, 5, 7, 3, 4, 6] rfl rfl rfl (.cons (.head _) rfl rfl .nil) rfl rfl rfl .n (.lit1 sl58 ty3 rfl rfl rfl rfl rfl) ?_
      rintro _ _ Gs5 _ ⟨b4, rfl, rfl, hGs_⟩
      subst Gs5
      refine ⟨.skip rfl (.skip rfl (.skip rfl (.skip rfl (.skip rfl (.skip rfl (.skip rfl (.again [(53, _)] rfl (.cons (.tail _ (.tail _ (.tail _ (.tail _ (.tail _ (.tail _ (.tail _ (.tail _ (.head _))))))))) rfl rfl .nil) (.n (.ldb ty58 rfl (.there .here) rfl)) (.again [] rfl .nil (.n (.fab fl68_1 rfl)) .nil)))))))), rfl, ?_⟩
      refine .tail0 10 [[10, 1, 9, 8, 0, 2, 5, 7, 3, 4, 6], [11, 0, 1, 2, 3, 4, 5, 6, 7, 8, 9, 10], [12, 11, 10, 0, 1, 2, 3, 4, 5, 6, 7, 8, 9]] rfl rfl rfl rfl (e' := [(62, _), (61, _), (60, _), (59, _), (58, _), (57, _), (56, _), (55, _), (54, _), (53, _), (0, _), (1, _), (2, _), (6, _), (7, _), (8, _), (9, _), (10, _), (11, _), (36, _), (37, _)]) rfl ?_
      refine .ap (.app1 (xs := K1.xs) (t.i) sl58 ty3 rfl encK_ok rfl rfl hrK .here (by omega) (by omega) _ (fun _ => (.there (.there (.there (.there .here)))))) rfl (fun ak ck ikn hrk => ?_)
      refine .v (.fab fl68_1 rfl) rfl ?_
      refine .st (.stb ty58 rfl rfl rfl st1 (.there .here)) ?_
      refine .nil ?_
      refine .then ?_
      refine .seq ?_
      refine .region ?_
      refine .v (.mv rfl) rfl ?_
      refine .v (.mv rfl) rfl ?_
      refine .v (.sfl l1 sz sl22 rfl rfl ⟨by omega, by omega⟩) rfl ?_
      have hS2 := hS1.drop (i := sz) hszl
      refine .v (.asn rfl) rfl ?_
      refine .nil ?_
      refine .then ?_
      refine .seq ?_
      refine .region ?_
      refine .v (.mv rfl) rfl ?_
      refine .v (.mv rfl) rfl ?_
      refine .v (.sub rfl rfl (by omega)) rfl ?_
      refine .vs (.lt rfl rfl) rfl (fun h71_6 => ?_) (fun h71_6 => ?_)
      · skip
        refine .nil ?_
        refine .then ?_
        refine .condT rfl ?_
        refine .seq ?_
        refine .draw [[], [0], [], [2], [3], [4], [1, 5], [0, 1, 2, 3, 4, 5, 6], [7, 6, 6, 0, 1, 2, 3, 4, 5, 6]] [] (by kernel_rfl) (by kernel_rfl) rfl (e1 := [(0, _), (1, _), (2, _), (6, _), (7, _), (8, _), (9, _), (36, _), (37, _)]) (.cons rfl rfl (.cons rfl rfl (.cons rfl rfl (.cons rfl rfl (.cons rfl rfl (.cons rfl rfl (.cons rfl rfl (.cons rfl rfl (.cons rfl rfl .nil))))))))) (fun x hx => by cases hx) rfl ?_
        have hdl : (l1.drop sz).length = l1.length - sz := List.length_drop
        obtain ⟨p, hp⟩ : ∃ y, (l1.drop sz)[0]? = some y := ⟨_, List.getElem?_eq_getElem (by omega)⟩
        have hS3 := hS2.drop (i := 1) (by omega)
        have hd1 : l1.drop sz = p :: (l1.drop sz).drop 1 := by obtain ⟨h1_, h2_⟩ := List.getElem?_eq_some_iff.1 hp; rw [← h2_]; exact List.drop_eq_getElem_cons h1_
        have e9 : l1.take sz ++ ([p] ++ (l1.drop sz).drop 1) = l1 := by rw [List.singleton_append, ← hd1, List.take_append_drop]
        have hpre2 : pre ((L1 ++ [t]).map (flat h)) (P1.xs ++ [p]) ++ (l1.drop sz).drop 1 = l := by rw [List.map_append, List.map_cons, List.map_nil, pre_snoc _ _ (by rw [List.length_map]; omega), hfl1, ← hpre, List.append_assoc, List.append_assoc, e9]
        refine .v (i := 0) [] rfl rfl rfl .nil (.n (.fa0 fl68_0 rfl)) ?_
        refine .v (i := 1) [(72, _)] rfl rfl rfl (.cons (.head _) rfl rfl .nil) (.n (.ldb ty22 rfl (.there .here) rfl)) ?_
        refine .v (i := 2) [] rfl rfl rfl .nil (.n (.mv rfl)) ?_
        refine .ix (i := 3) (j := (0 : Int)) [(74, _)] rfl rfl rfl (.cons (.head _) rfl rfl .nil) hS2 p ⟨by omega, hp⟩ (fun b_ o_ hr_ ha_ hle_ => .n (.ixs sl22 rfl rfl ⟨by omega, hp⟩ ha_ hle_)) (fun p7 o8 r9 => ?_)
        refine .v (i := 4) [(75, _)] rfl rfl rfl (.cons (.head _) rfl rfl .nil) (.n (.ldrw ty47 rfl r9 rfl)) ?_
        refine .e (i := 5) [(76, _)] [5, 4, 3, 2] rfl rfl rfl (.cons (.head _) rfl rfl .nil) rfl rfl rfl .n (.lit1 sl22 ty47 rfl rfl rfl rfl rfl) ?_
        rintro _ _ Gs11 _ ⟨b10, rfl, rfl, hGs_⟩
        subst Gs11
        refine ⟨.skip rfl (.skip rfl (.skip rfl (.again [(72, _)] rfl (.cons (.tail _ (.tail _ (.tail _ (.tail _ (.head _))))) rfl rfl .nil) (.n (.ldb ty22 rfl (.there (.there .here)) rfl)) (.again [] rfl .nil (.n (.fa0 fl68_0 rfl)) .nil)))), rfl, ?_⟩
        refine .tail0 6 [[6, 1, 5, 0, 4, 3, 2], [7, 0, 1, 2, 3, 4, 5, 6], [8, 7, 6, 0, 1, 2, 3, 4, 5]] rfl rfl rfl rfl (e' := [(77, _), (76, _), (75, _), (74, _), (73, _), (72, _), (0, _), (1, _), (2, _), (6, _), (7, _), (8, _), (9, _), (36, _), (37, _)]) rfl ?_
        refine .ap (.app1 (xs := P1.xs) (p) sl22 ty47 rfl encP_ok rfl rfl hrP .here (by omega) (by omega) _ (fun _ => (.there (.there (.there (.there .here)))))) rfl (fun ap cp ipn hrp => ?_)
        refine .v (.fa0 fl68_0 rfl) rfl ?_
        refine .st (.stb ty22 rfl rfl rfl st0 (.there (.there .here))) ?_
        refine .nil ?_
        refine .then ?_
        refine .region ?_
        refine .v (.mv rfl) rfl ?_
        refine .v (.sfl (l1.drop sz) 1 sl22 rfl rfl ⟨by omega, by omega⟩) rfl ?_
        refine .v (.asn rfl) rfl ?_
        refine .nil ?_
        refine .blk ?_
        refine .then ?_
        refine .region ?_
        refine .v (.add rfl rfl (by omega)) rfl ?_
        refine .v (.mv rfl) rfl ?_
        refine .nil ?_
        exact .again ⟨i + 1, (l1.drop sz).drop 1, _, _, left - sz, T2, itq, ⟨P1.xs ++ [p], ap, cp, ipn⟩, ⟨K1.xs ++ [t.i], ak, ck, ikn⟩, L1 ++ [t], n1 + (l1.take sz).length⟩ ⟨by (try dsimp only); omega, hL2, hB2, hrp, hrk, by (try dsimp only); rw [hKx]; simp, by (try dsimp only); simp; omega, hS3, fun h_ => ⟨by (try dsimp only); simp; omega, hpre2, by (try dsimp only); rw [List.length_drop, List.length_drop]; omega, by (try dsimp only); rw [show kids - (i + 1) = kids - i - 1 by omega]; exact hs4, by (try dsimp only); rw [show kids - (i + 1) = kids - i - 1 by omega]; exact hs5, by (try dsimp only); rw [List.length_take, List.length_drop, List.length_drop]; omega⟩, fun h_ => by (try dsimp only at h_); omega⟩ (by (try dsimp only); omega) (.cons rfl rfl (.cons rfl rfl (.cons rfl rfl (.cons rfl rfl (.cons rfl rfl (.cons rfl rfl (.cons rfl rfl (.cons rfl rfl (.cons rfl rfl .nil))))))))) (subl (.cons _ (.cons _ (.cons_cons _ (.cons_cons _ (.cons_cons _ (.cons_cons _ (.cons_cons _ .slnil))))))))
      · skip
        have hsl : sz = left := by have h_ := h71_6; have h1_ : kids - i = 1 := (by omega); rw [h1_] at hsz; omega
        have hdn : l1.take sz = l1 := List.take_of_length_le (by have h_ := h71_6; omega)
        have hfl2 : inter ((L1 ++ [t]).map (flat h)) P1.xs = l := by have e_ := inter_split (K1 := L1.map (flat h)) (A := P1.xs) (flat h t) [] [] (by rw [List.length_map]; omega); rw [List.append_nil] at e_; rw [List.map_append, List.map_cons, List.map_nil, e_, hfl1, hdn, ← hpre]; simp [suf]
        refine .nil ?_
        refine .then ?_
        refine .condF rfl ?_
        refine .skip ?_
        refine .blk ?_
        refine .then ?_
        refine .region ?_
        refine .v (.add rfl rfl (by omega)) rfl ?_
        refine .v (.mv rfl) rfl ?_
        refine .nil ?_
        exact .again ⟨i + 1, l1.drop sz, _, _, left - sz, T2, itq, P1, ⟨K1.xs ++ [t.i], ak, ck, ikn⟩, L1 ++ [t], n1 + (l1.take sz).length⟩ ⟨by (try dsimp only); omega, hL2, hB2, hrP, hrk, by (try dsimp only); rw [hKx]; simp, by (try dsimp only); simp; omega, hS2, fun h_ => by (try dsimp only at h_); omega, fun h_ => ⟨by (try dsimp only); omega, hfl2, by (try dsimp only); rw [List.length_take]; omega⟩⟩ (by (try dsimp only); omega) (.cons rfl rfl (.cons rfl rfl (.cons rfl rfl (.cons rfl rfl (.cons rfl rfl (.cons rfl rfl (.cons rfl rfl (.cons rfl rfl (.cons rfl rfl .nil))))))))) (subl (.cons _ (.cons_cons _ (.cons_cons _ (.cons_cons _ (.cons_cons _ (.cons_cons _ .slnil)))))))
    · skip
      refine .nil ?_
      refine .then ?_
      refine .seq ?_
      refine .condF rfl ?_
      refine .exit ?_
      refine .then_exit ?_
      refine .then_exit ?_
      refine .blk_exit ?_
      refine .then ?_
      refine .seq ?_
      refine .region ?_
      obtain rfl : i = kids := by have h_ := h38_2; omega
      obtain ⟨hPe, hfe, hne⟩ := hend rfl
      have hfin := hB1.fin (lo := lo) (P := P1.xs) (l := l) (by omega) (by omega) (by omega) hfe (by omega)
      rw [← hKx] at hfin
      have hnum := hB1.num
      refine .v (.mv rfl) rfl ?_
      refine .v (.ldw ty68 rfl .here rfl) rfl ?_
      refine .front (.there (.there (.there .here))) ?_
      refine .front (.there (.there (.there .here))) ?_
      refine .join ?_
      refine .front (.there (.there .here)) ?_
      refine .join ?_
      refine .lend (.lend rfl rfl (Try.call34 _) _ (fun _ => .here) (fun G hle hG => (add_fn b T1 _ G hL1 (⟨P1, K1⟩ : PN) ⟨hrP, hrK⟩ (fun x hx => by rw [hB1.free] at hx; cases hx) (by omega)).mono (fun v M H _ ⟨it, h1, _, h2⟩ => ⟨it, h1, h2⟩))) rfl ?_
      rintro _ itq ⟨hL2, rfl⟩
      rw [addL_none _ (by rw [hB1.free]; rfl)] at hL2
      rw [addL_none _ (by rw [hB1.free]; rfl)]
      dsimp only at hL2 ⊢
      refine .v (.asn rfl) rfl ?_
      refine .nil ?_
      refine .then ?_
      refine .ret ?_
      exact .done _ [itq] (.t1 rfl rfl) .rfl ⟨_, rfl, rfl, _, .node T1.nodes.length P1.xs L1, hL2, hfin, rfl⟩ (fun w ho => by simpa [List.append_assoc] using (subl (.cons_cons _ (.cons _ (.cons_cons _ .slnil))) w ho))
theorem build_fn : ∀ h, BuildSpec h
  | 0 => build_0
  | h + 1 => build_s h (build_fn h)
end Go.Proofs.Ytbmpdccoffkjgaa.Ow
