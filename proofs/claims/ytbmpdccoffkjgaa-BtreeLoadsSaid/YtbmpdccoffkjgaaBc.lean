/- Walks. -/
import Derived.Test.YtbmpdccoffkjgaaBb
namespace Go.Proofs.Ytbmpdccoffkjgaa.Ow
open Go
set_option linter.unusedVariables false
theorem add_fn (b : Nat) (T : TS) (it : Itm) (F : Mem) (hT : Lies b T it) (m : PN) (hm : m.Ok) (hfree : ∀ x ∈ T.free, x < T.nodes.length) (hb : T.nodes.length ≤ 2900000000000) : Fn Try.prog 34 #[.pointer (some ⟨b, 0, none⟩), .agg #[.slice m.p.a m.p.xs.length m.p.c, .slice m.k.a m.k.xs.length m.k.c]] [it ++ m.own] F (fun v M G => ∃ it', M = [it'] ∧ G = F ∧ Lies b (addL T m.nd).1 it' ∧ v = .int .i64 ((addL T m.nd).2 : Int)) := by
  obtain ⟨pn, na, nc, nit, fa, fc, fit, hP⟩ := hT
  obtain ⟨hrn, hrf, hok, hnd, rfl⟩ := hP
  have hln : pn.length = T.nodes.length := by rw [← hnd, List.length_map]
  have hmx := hrn.max
  have hcp := hrn.cap
  have hfm := hrf.max
  have hfcp := hrf.cap
  refine Fn.start1 Try.func34 rfl Try.ntmps34 rfl (env := [(0, _), (1, _)]) rfl ?_
  intro R
  refine .items (L' := [[⟨b, 60, _⟩], nit, fit, own pn, m.own, R]) (fun w ho => by simpa [List.append_assoc] using ho) ?_
  refine .seq ?_
  refine .region ?_
  refine .nb (.box rfl rfl) rfl (fun b1 => ?_)
  refine .v (.asn rfl) rfl ?_
  refine .nil ?_
  refine .then ?_
  refine .seq ?_
  refine .seq ?_
  refine .region ?_
  refine .v (.mv rfl) rfl ?_
  refine .v (.nilc rfl) rfl ?_
  refine .v (.fab fl60_1 rfl) rfl ?_
  refine .v (.ldb ty58 rfl (.there .here) rfl) rfl ?_
  refine .v (.lenl Try.underlying58 rfl) rfl ?_
  refine .v (.asn rfl) rfl ?_
  refine .nil ?_
  refine .then ?_
  refine .seq ?_
  refine .region ?_
  refine .v (.mv rfl) rfl ?_
  refine .vs (.gt rfl rfl) rfl (fun h13_2 => ?_) (fun h13_2 => ?_)
  · skip
    obtain ⟨i, hfi⟩ : ∃ y, T.free[T.free.length - 1]? = some y := ⟨_, List.getElem?_eq_getElem (by omega)⟩
    have hib := hfree i (List.mem_of_getElem? hfi)
    obtain ⟨nb, npad, rfl, rfl, hnp⟩ := hrn.blk (by omega)
    obtain ⟨fb, fpad, rfl, rfl, hfp⟩ := hrf.blk (by omega)
    obtain ⟨old, hi⟩ : ∃ y, pn[i]? = some y := ⟨_, List.getElem?_eq_getElem (by omega)⟩
    refine .nil ?_
    refine .then ?_
    refine .condT rfl ?_
    refine .seq ?_
    refine .region ?_
    refine .v (.mv rfl) rfl ?_
    refine .v (.nilc rfl) rfl ?_
    refine .v (.fab fl60_1 rfl) rfl ?_
    refine .v (.ldb ty58 rfl (.there .here) rfl) rfl ?_
    refine .v (.mv rfl) rfl ?_
    refine .v (.sub rfl rfl (by omega)) rfl ?_
    refine .v (.ixo sl58 rfl rfl (T.free.length - 1) ⟨by omega, by have h_ := (List.getElem?_eq_some_iff.1 hfi).1; omega⟩) rfl ?_
    refine .v (.ldb ty3 rfl (.there (.there (.there .here))) (encK_ok.get T.free (T.free.length - 1) _ hfi fpad 0 _ rfl)) rfl ?_
    refine .v (.asn rfl) rfl ?_
    refine .nil ?_
    refine .then ?_
    refine .seq ?_
    refine .region ?_
    refine .v (.mv rfl) rfl ?_
    refine .v (.mv rfl) rfl ?_
    refine .v (.nilc rfl) rfl ?_
    refine .v (.fab fl60_1 rfl) rfl ?_
    refine .v (.ldb ty58 rfl (.there .here) rfl) rfl ?_
    refine .v (.mv rfl) rfl ?_
    refine .v (.sub rfl rfl (by omega)) rfl ?_
    refine .v (.stl T.free (T.free.length - 1) sl58 rfl rfl ⟨by omega, by omega, hfcp⟩) rfl ?_
    refine .v (.nilc rfl) rfl ?_
    refine .v (.fab fl60_1 rfl) rfl ?_
    refine .st (.stb ty58 rfl rfl rfl st1 (.there .here)) ?_
    refine .nil ?_
    refine .then ?_
    refine .seq ?_
    refine .draw [[], [0], [1], [2], [], [], [3, 4, 0, 1, 2, 3, 4, 5], [6, 5, 0, 1, 2, 3, 4, 5]] [] (by kernel_rfl) (by kernel_rfl) rfl (e1 := [(0, _), (3, _), (4, _), (6, _)]) (.cons rfl rfl (.cons rfl rfl (.cons rfl rfl (.cons rfl rfl .nil)))) (fun x hx => by cases hx) rfl ?_
    refine .v (i := 0) [] rfl rfl rfl .nil (.n (.mv rfl)) ?_
    refine .v (i := 1) [(32, _)] rfl rfl rfl (.cons (.head _) rfl rfl .nil) (.n (.nilc rfl)) ?_
    refine .v (i := 2) [(33, _)] rfl rfl rfl (.cons (.head _) rfl rfl .nil) (.n (.fa0 fl60_0 rfl)) ?_
    refine .v (i := 3) [(34, _)] rfl rfl rfl (.cons (.head _) rfl rfl .nil) (.n (.ldb ty57 rfl (.there .here) rfl)) ?_
    refine .v (i := 4) [] rfl rfl rfl .nil (.n (.mv rfl)) ?_
    refine .v (i := 5) [] rfl rfl rfl .nil (.n (.ldw ty68 rfl .here rfl)) ?_
    refine .tail0 6 [[6, 3, 4, 0, 1, 2, 5], [7, 6, 5, 0, 1, 2, 3, 4]] rfl rfl rfl rfl (e' := [(37, _), (36, _), (35, _), (34, _), (33, _), (32, _), (0, _), (3, _), (4, _), (6, _)]) rfl ?_
    refine .v (.ixo sl57 rfl rfl (i) ⟨rfl, by have h_ := (List.getElem?_eq_some_iff.1 hi).1; omega⟩) rfl ?_
    refine .st (.stp (vs := encN m) (cs' := (pn.set i m).flatMap encN ++ npad) ty68 rfl rfl rfl rfl (encN_ok.one m) (by rw [List.length_append, encN_ok.fl]; omega) (by rw [show i * 2 + 2 = (i + 1) * 2 by omega]; exact encN_ok.put pn npad i (by omega) m) (.there (.there .here))) ?_
    refine .front (.there (.there (.there (.there .here)))) ?_
    refine .front (.there (.there (.there (.there (.there .here))))) ?_
    refine .place hi ?_
    refine .nil ?_
    refine .then ?_
    refine .seq ?_
    refine .region ?_
    refine .v (.mv rfl) rfl ?_
    refine .v (.asn rfl) rfl ?_
    refine .nil ?_
    refine .then ?_
    refine .ret ?_
    refine .then_ret ?_
    have hv : addL T m.nd = (⟨T.nodes.set i m.nd, T.free.take (T.free.length - 1), T.root, T.count⟩, i) := addL_free _ hfi
    rw [hv]
    have hfs := hrf.shrink encK_ok (k := T.free.length - 1) (by omega)
    refine .front (.there (.there (.there (.there .here)))) ?_
    refine .front (.there (.there (.there (.there .here)))) ?_
    refine .front (.there (.there (.there (.there .here)))) ?_
    exact .done _ [_] (.t1 rfl rfl) .rfl ⟨_, rfl, rfl, ⟨pn.set i m, some ⟨nb, 0, none⟩, nc, _, some ⟨fb, 0, none⟩, fc, _, ⟨Row.of npad rfl (by rw [List.length_set]; exact hnp) (by rw [List.length_set]; exact hcp) hmx, hfs, set_ok hok hm, by rw [List.map_set, hnd], by rw [List.length_set]⟩⟩, rfl⟩ (fun w ho => by simpa [List.append_assoc, own_app, own] using (subl (.cons_cons _ (.cons_cons _ (.cons_cons _ (.cons_cons _ (.cons _ (.cons_cons _ .slnil)))))) w ho))
  · skip
    refine .nil ?_
    refine .then ?_
    refine .condF rfl ?_
    refine .skip ?_
    refine .then ?_
    refine .seq ?_
    refine .draw [[], [], [1], [2], [3], [], [5], [4, 6], [0, 0, 1, 2, 3, 4, 5, 6, 7], [8, 0, 1, 2, 3, 4, 5, 6, 7], [9, 7, 7, 0, 1, 2, 3, 4, 5, 6, 7]] [] (by kernel_rfl) (by kernel_rfl) rfl (e1 := [(0, _), (3, _), (4, _)]) (.cons rfl rfl (.cons rfl rfl (.cons rfl rfl .nil))) (fun x hx => by cases hx) rfl ?_
    refine .v (i := 0) [] rfl rfl rfl .nil (.n (.mv rfl)) ?_
    refine .v (i := 1) [] rfl rfl rfl .nil (.n (.mv rfl)) ?_
    refine .v (i := 2) [(41, _)] rfl rfl rfl (.cons (.head _) rfl rfl .nil) (.n (.nilc rfl)) ?_
    refine .v (i := 3) [(42, _)] rfl rfl rfl (.cons (.head _) rfl rfl .nil) (.n (.fa0 fl60_0 rfl)) ?_
    refine .v (i := 4) [(43, _)] rfl rfl rfl (.cons (.head _) rfl rfl .nil) (.n (.ldb ty57 rfl (.there .here) rfl)) ?_
    refine .v (i := 5) [] rfl rfl rfl .nil (.n (.ldw ty68 rfl .here rfl)) ?_
    refine .e (i := 6) [(45, _)] [6, 5] rfl rfl rfl (.cons (.head _) rfl rfl .nil) rfl rfl rfl .n (.lit1 sl57 ty68 rfl rfl rfl rfl rfl) ?_
    rintro _ _ Gs4 _ ⟨b3, rfl, rfl, hGs_⟩
    subst Gs4
    refine ⟨.skip rfl (.again [(43, _)] rfl (.cons (.tail _ (.tail _ (.head _))) rfl rfl .nil) (.n (.ldb ty57 rfl (.there (.there .here)) rfl)) (.again [(42, _)] rfl (.cons (.tail _ (.tail _ (.tail _ (.head _)))) rfl rfl .nil) (.n (.fa0 fl60_0 rfl)) (.again [(41, _)] rfl (.cons (.tail _ (.tail _ (.tail _ (.tail _ (.head _))))) rfl rfl .nil) (.n (.nilc rfl)) (.again [] rfl .nil (.n (.mv rfl)) (.again [] rfl .nil (.n (.mv rfl)) .nil))))), rfl, ?_⟩
    refine .e (i := 7) [(44, _), (46, _)] [7, 4, 6, 3, 5, 2, 1] rfl rfl rfl (.cons (.tail _ (.tail _ (.head _))) rfl rfl (.cons (.head _) rfl rfl .nil)) rfl rfl rfl .n (.app1 (m) sl57 ty68 rfl encN_ok rfl rfl hrn .here (by omega) (by omega) _ (fun _ => (.there (.there (.there .here))))) ?_
    rintro _ _ Gs5 _ ⟨a1, c1, it1, rfl, hr1, rfl, hGs_⟩
    subst Gs5
    refine ⟨.skip rfl (.skip rfl (.skip rfl (.skip rfl (.skip rfl (.skip rfl (.again [] rfl .nil (.n (.mv rfl)) .nil)))))), rfl, ?_⟩
    refine .tail0 8 [[8, 0, 1, 2, 3, 4, 5, 6, 7], [9, 8, 0, 1, 2, 3, 4, 5, 6, 7], [10, 9, 7, 0, 1, 2, 3, 4, 5, 6, 8]] rfl rfl rfl rfl (e' := [(47, _), (46, _), (45, _), (44, _), (43, _), (42, _), (41, _), (40, _), (0, _), (3, _), (4, _)]) rfl ?_
    refine .v (.nilc rfl) rfl ?_
    refine .v (.fa0 fl60_0 rfl) rfl ?_
    refine .st (.stb ty57 rfl rfl rfl st0 (.there (.there .here))) ?_
    refine .nil ?_
    refine .then ?_
    refine .seq ?_
    refine .region ?_
    refine .v (.mv rfl) rfl ?_
    refine .v (.nilc rfl) rfl ?_
    refine .v (.fa0 fl60_0 rfl) rfl ?_
    refine .v (.ldb ty57 rfl (.there (.there .here)) rfl) rfl ?_
    refine .v (.lenl Try.underlying57 rfl) rfl ?_
    refine .v (.sub rfl rfl (by have e_ : (pn ++ [m]).length = pn.length + 1 := List.length_append; omega)) rfl ?_
    refine .v (.asn rfl) rfl ?_
    refine .nil ?_
    refine .then ?_
    refine .ret ?_
    have hv : addL T m.nd = (⟨T.nodes ++ [m.nd], T.free, T.root, T.count⟩, T.nodes.length) := addL_none _ (by omega)
    rw [hv]
    refine .front (.there (.there (.there (.there (.there .here))))) ?_
    refine .front (.there (.there (.there (.there (.there .here))))) ?_
    refine .front (.there (.there (.there (.there (.there .here))))) ?_
    refine .front (.there (.there (.there (.there (.there .here))))) ?_
    exact .done _ [_] (.t1 rfl rfl) .rfl ⟨_, rfl, rfl, ⟨pn ++ [m], a1, c1, it1, fa, fc, fit, ⟨hr1, hrf, fun n hn => by rcases List.mem_append.1 hn with h | h; exact hok n h; exact (by simpa using h : n = m) ▸ hm, by rw [List.map_append, hnd]; rfl, rfl⟩⟩, (congrArg (Value.int .i64) (by rw [List.length_append]; simp; omega))⟩ (fun w ho => by simpa [List.append_assoc, own_app, own] using (subl (.cons_cons _ (.cons_cons _ (.cons_cons _ (.cons_cons _ (.cons _ (.cons _ (.cons_cons _ (.cons_cons _ .slnil)))))))) w ho))
theorem drop_fn (b : Nat) (T : TS) (it : Itm) (F : Mem) (hT : Lies b T it) (i : Nat) (hib : i < T.nodes.length) (hfb : T.free.length ≤ 1099511627776) : Fn Try.prog 40 #[.pointer (some ⟨b, 0, none⟩), .int .i64 (i : Int)] [it] F (fun v M G => ∃ it', M = [it'] ∧ G = F ∧ Lies b (dropL T i) it') := by
  obtain ⟨pn, na, nc, nit, fa, fc, fit, hP⟩ := hT
  obtain ⟨hrn, hrf, hok, hnd, rfl⟩ := hP
  have hln : pn.length = T.nodes.length := by rw [← hnd, List.length_map]
  have hmx := hrn.max
  have hcp := hrn.cap
  have hfm := hrf.max
  have hfcp := hrf.cap
  obtain ⟨nb, npad, rfl, rfl, hnp⟩ := hrn.blk (by omega)
  obtain ⟨old, hi⟩ : ∃ y, pn[i]? = some y := ⟨_, List.getElem?_eq_getElem (by omega)⟩
  refine Fn.start1 Try.func40 rfl Try.ntmps40 rfl (env := [(0, _), (1, _)]) rfl ?_
  intro R
  refine .items (L' := [[⟨b, 60, _⟩], [⟨nb, 68, _⟩], fit, own pn, R]) (fun w ho => by simpa [List.append_assoc] using ho) ?_
  refine .seq ?_
  refine .region ?_
  refine .v (.mv rfl) rfl ?_
  refine .v (.nilc rfl) rfl ?_
  refine .v (.fa0 fl60_0 rfl) rfl ?_
  refine .v (.ldb ty57 rfl .here rfl) rfl ?_
  refine .v (.mv rfl) rfl ?_
  refine .v (.build rfl (fun w => bd68_ w)) rfl ?_
  refine .v (.ixo sl57 rfl rfl (i) ⟨rfl, by have h_ := (List.getElem?_eq_some_iff.1 hi).1; omega⟩) rfl ?_
  refine .st (.stp (vs := encN noN) (cs' := (pn.set i noN).flatMap encN ++ npad) ty68 rfl rfl rfl rfl (encN_ok.one noN) (by have h_ := (List.getElem?_eq_some_iff.1 hi).1; rw [List.length_append, encN_ok.fl]; omega) (by rw [show i * 2 + 2 = (i + 1) * 2 by omega]; exact encN_ok.put pn npad i (List.getElem?_eq_some_iff.1 hi).1 noN) (.there .here)) ?_
  refine .front (.there (.there (.there .here))) ?_
  refine .emp ?_
  refine .place (m := noN) hi ?_
  refine .nil ?_
  refine .then ?_
  refine .region ?_
  refine .v (.mv rfl) rfl ?_
  refine .v (.mv rfl) rfl ?_
  refine .v (.nilc rfl) rfl ?_
  refine .v (.fab fl60_1 rfl) rfl ?_
  refine .v (.ldb ty58 rfl (.there .here) rfl) rfl ?_
  refine .v (.mv rfl) rfl ?_
  refine .nb (.lit1 sl58 ty3 rfl rfl rfl rfl rfl) rfl (fun b1 => ?_)
  refine .ap (.app1 (i) sl58 ty3 rfl encK_ok rfl rfl hrf .here (by omega) (by omega) _ (fun _ => (.there (.there (.there (.there .here)))))) rfl (fun a1 c1 it1 hr1 => ?_)
  refine .v (.nilc rfl) rfl ?_
  refine .v (.fab fl60_1 rfl) rfl ?_
  refine .st (.stb ty58 rfl rfl rfl st1 (.there (.there .here))) ?_
  refine .nil ?_
  refine .front (.there .here) ?_
  refine .front (.there (.there (.there (.there .here)))) ?_
  refine .front (.there (.there (.there (.there .here)))) ?_
  refine .front (.there (.there (.there (.there .here)))) ?_
  exact .end _ [_] (.t0 rfl) .rfl ⟨_, rfl, rfl, ⟨pn.set i noN, some ⟨nb, 0, none⟩, nc, _, a1, c1, it1, ⟨Row.of npad rfl (by rw [List.length_set]; exact hnp) (by rw [List.length_set]; exact hcp) hmx, hr1, set_ok hok noN_ok, by rw [List.map_set, hnd]; rfl, by rw [List.length_set]⟩⟩⟩ (fun w ho => by simpa [List.append_assoc, dropL] using (subl (.cons_cons _ (.cons_cons _ (.cons_cons _ (.cons_cons _ (.cons _ (.cons_cons _ .slnil)))))) w ho))
end Go.Proofs.Ytbmpdccoffkjgaa.Ow
