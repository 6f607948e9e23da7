/- Walks. -/
import Derived.Test.YtbmpdccoffkjgaaBd
namespace Go.Proofs.Ytbmpdccoffkjgaa.Ow
open Go
set_option linter.unusedVariables false
theorem merge_fn (b : Nat) (T : TS) (it : Itm) (F : Mem) (hT : Lies b T it) (i q l r : Nat) (xi : List Pr) (ki : List Nat) (xl : List Pr) (kl : List Nat) (xr : List Pr) (kr : List Nat) (p : Pr) (hni : T.nodes[i]? = some ⟨xi, ki⟩) (hql : ki[q]? = some l) (hqr : ki[q + 1]? = some r) (hnl : T.nodes[l]? = some ⟨xl, kl⟩) (hnr : T.nodes[r]? = some ⟨xr, kr⟩) (hp : xi[q]? = some p) (hli : l ≠ i) (hri : r ≠ i) (hlr : l ≠ r) (hxil : xi.length ≤ 1000) (hkil : ki.length ≤ 1000) (hxll : xl.length ≤ 1000) (hkll : kl.length ≤ 1000) (hxrl : xr.length ≤ 1000) (hkrl : kr.length ≤ 1000) (hfb : T.free.length ≤ 1099511627776) : Fn Try.prog 52 #[.pointer (some ⟨b, 0, none⟩), .int .i64 (i : Int), .int .i64 (q : Int)] [it] F (fun v M G => ∃ it', M = [it'] ∧ G = F ∧ Lies b (mergeT T i q l r ⟨xi, ki⟩ ⟨xl, kl⟩ ⟨xr, kr⟩ p) it') := by
  have hqk := (List.getElem?_eq_some_iff.1 hqr).1
  have hqx := (List.getElem?_eq_some_iff.1 hp).1
  have hib := (List.getElem?_eq_some_iff.1 hni).1
  obtain ⟨pn, na, nc, nit, fa, fc, fit, hP⟩ := hT
  obtain ⟨hrn, hrf, hok, hnd, rfl⟩ := hP
  have hln : pn.length = T.nodes.length := by rw [← hnd, List.length_map]
  have hmx := hrn.max
  have hcp := hrn.cap
  have hfm := hrf.max
  have hfcp := hrf.cap
  obtain ⟨nb, npad, rfl, rfl, hnp⟩ := hrn.blk (by omega)
  obtain ⟨ni, hi, ei⟩ := nd_get hnd hni
  have hoi := get_ok hok hi
  obtain ⟨⟨xi', api, cpi, ipi⟩, ⟨ki', aki, cki, iki⟩⟩ := ni
  obtain ⟨rfl, rfl⟩ : xi' = xi ∧ ki' = ki := by simpa [PN.nd] using ei
  have hpi : Row 47 encP 2 api cpi xi' ipi := hoi.p
  have hki : Row 3 encK 1 aki cki ki' iki := hoi.k
  obtain ⟨bpi, dpi, rfl, rfl, hdpi⟩ := hpi.blk (by omega)
  obtain ⟨bki, dki, rfl, rfl, hdki⟩ := hki.blk (by omega)
  obtain ⟨nl, hl, el⟩ := nd_get hnd hnl
  have hol := get_ok hok hl
  obtain ⟨⟨xl', apl, cpl, ipl⟩, ⟨kl', akl, ckl, ikl⟩⟩ := nl
  obtain ⟨rfl, rfl⟩ : xl' = xl ∧ kl' = kl := by simpa [PN.nd] using el
  have hpl : Row 47 encP 2 apl cpl xl' ipl := hol.p
  have hkl : Row 3 encK 1 akl ckl kl' ikl := hol.k
  obtain ⟨nr, hr, er⟩ := nd_get hnd hnr
  have hor := get_ok hok hr
  obtain ⟨⟨xr', apr, cpr, ipr⟩, ⟨kr', akr, ckr, ikr⟩⟩ := nr
  obtain ⟨rfl, rfl⟩ : xr' = xr ∧ kr' = kr := by simpa [PN.nd] using er
  have hpr : Row 47 encP 2 apr cpr xr' ipr := hor.p
  have hkr : Row 3 encK 1 akr ckr kr' ikr := hor.k
  have hql' : ki'[q]? = some l := hql
  have hqr' : ki'[q + 1]? = some r := hqr
  have hp' : xi'[q]? = some p := hp
  refine Fn.start1 Try.func52 rfl Try.ntmps52 rfl (env := [(0, _), (1, _), (2, _)]) rfl ?_
  intro R
  refine .items (L' := [[⟨b, 60, _⟩], [⟨nb, 68, _⟩], fit, own pn, R]) (fun w ho => by simpa [List.append_assoc] using ho) ?_
  refine .seq ?_
  refine .region ?_
  refine .v (.mv rfl) rfl ?_
  refine .v (.nilc rfl) rfl ?_
  refine .v (.fa0 fl60_0 rfl) rfl ?_
  refine .v (.ldb ty57 rfl .here rfl) rfl ?_
  refine .v (.mv rfl) rfl ?_
  refine .v (.ixo sl57 rfl rfl (i) ⟨rfl, by have h_ := (List.getElem?_eq_some_iff.1 hi).1; omega⟩) rfl ?_
  refine .v (.asn rfl) rfl ?_
  refine .nil ?_
  refine .then ?_
  refine .seq ?_
  refine .draw [[], [0], [1], [2], [], [3, 4], [5], [], [7], [8], [9], [], [11], [10, 12], [13], [6, 0, 1, 2, 3, 4, 5, 6], [14, 15, 0, 1, 2, 3, 4, 5, 6, 7, 8, 9, 10, 11, 12, 13, 14, 15]] [] (by kernel_rfl) (by kernel_rfl) rfl (e1 := [(0, _), (2, _), (6, _)]) (.cons rfl rfl (.cons rfl rfl (.cons rfl rfl .nil))) (fun x hx => by cases hx) rfl ?_
  refine .v (i := 0) [] rfl rfl rfl .nil (.n (.mv rfl)) ?_
  refine .v (i := 1) [(17, _)] rfl rfl rfl (.cons (.head _) rfl rfl .nil) (.n (.nilc rfl)) ?_
  refine .v (i := 2) [(18, _)] rfl rfl rfl (.cons (.head _) rfl rfl .nil) (.n (.fae fl68_1 rfl)) ?_
  refine .v (i := 3) [(19, _)] rfl rfl rfl (.cons (.head _) rfl rfl .nil) (.n (.ldb (v := .slice (some ⟨bki, 0, none⟩) (ki').length (cki)) ty58 rfl (.there .here) (encN_ok.get pn i _ hi npad 1 _ rfl))) ?_
  refine .v (i := 4) [] rfl rfl rfl .nil (.n (.mv rfl)) ?_
  refine .v (i := 5) [(20, _), (21, _)] rfl rfl rfl (.cons (.tail _ (.head _)) rfl rfl (.cons (.head _) rfl rfl .nil)) (.n (.ixo sl58 rfl rfl (q) ⟨rfl, by have h_ := (List.getElem?_eq_some_iff.1 hql').1; omega⟩)) ?_
  refine .v (i := 6) [(22, _)] rfl rfl rfl (.cons (.head _) rfl rfl .nil) (.n (.ldb ty3 rfl (.there (.there (.there (.part (sub_k hi))))) (encK_ok.get ki' (q) _ hql' dki 0 _ rfl))) ?_
  refine .v (i := 7) [] rfl rfl rfl .nil (.n (.mv rfl)) ?_
  refine .v (i := 8) [(24, _)] rfl rfl rfl (.cons (.head _) rfl rfl .nil) (.n (.nilc rfl)) ?_
  refine .v (i := 9) [(25, _)] rfl rfl rfl (.cons (.head _) rfl rfl .nil) (.n (.fae fl68_1 rfl)) ?_
  refine .v (i := 10) [(26, _)] rfl rfl rfl (.cons (.head _) rfl rfl .nil) (.n (.ldb (v := .slice (some ⟨bki, 0, none⟩) (ki').length (cki)) ty58 rfl (.there .here) (encN_ok.get pn i _ hi npad 1 _ rfl))) ?_
  refine .v (i := 11) [] rfl rfl rfl .nil (.n (.mv rfl)) ?_
  refine .v (i := 12) [(28, _)] rfl rfl rfl (.cons (.head _) rfl rfl .nil) (.n (.add rfl rfl (by omega))) ?_
  refine .v (i := 13) [(27, _), (29, _)] rfl rfl rfl (.cons (.tail _ (.tail _ (.head _))) rfl rfl (.cons (.head _) rfl rfl .nil)) (.n (.ixo sl58 rfl rfl (q + 1) ⟨by omega, by have h_ := (List.getElem?_eq_some_iff.1 hqr').1; omega⟩)) ?_
  refine .v (i := 14) [(30, _)] rfl rfl rfl (.cons (.head _) rfl rfl .nil) (.n (.ldb ty3 rfl (.there (.there (.there (.part (sub_k hi))))) (encK_ok.get ki' (q + 1) _ hqr' dki 0 _ rfl))) ?_
  refine .v (i := 15) [(23, _)] rfl rfl rfl (.cons (.tail _ (.tail _ (.tail _ (.tail _ (.tail _ (.tail _ (.tail _ (.tail _ (.head _))))))))) rfl rfl .nil) (.n (.asn rfl)) ?_
  refine .tail0 16 [[16, 14, 15, 0, 1, 2, 3, 4, 5, 6, 7, 8, 9, 10, 11, 12, 13]] rfl rfl rfl rfl (e' := [(7, _), (31, _), (30, _), (29, _), (28, _), (27, _), (26, _), (25, _), (24, _), (23, _), (22, _), (21, _), (20, _), (19, _), (18, _), (17, _), (0, _), (2, _), (6, _)]) rfl ?_
  refine .v (.asn rfl) rfl ?_
  refine .nil ?_
  refine .then ?_
  refine .seq ?_
  refine .draw [[], [0], [1], [2], [], [3, 4], [], [6], [7], [8], [], [9, 10], [11], [], [5, 0, 1, 2, 3, 4, 5, 13], [13, 12, 14, 0, 1, 2, 3, 4, 5, 6, 7, 8, 9, 10, 11, 12, 13, 14]] [⟨13, 10, 68, _⟩] (by kernel_rfl) (by kernel_rfl) rfl (e1 := [(0, _), (2, _), (6, _), (7, _), (8, _)]) (.cons rfl rfl (.cons rfl rfl (.cons rfl rfl (.cons rfl rfl (.cons rfl rfl .nil))))) (fun x hx => by rcases List.mem_cons.1 hx with rfl | hx; (exact ⟨_, _, _, _, _, _, _, rfl, ty68, rfl⟩); cases hx) rfl ?_
  refine .v (i := 0) [] rfl rfl rfl .nil (.n (.mv rfl)) ?_
  refine .v (i := 1) [(32, _)] rfl rfl rfl (.cons (.head _) rfl rfl .nil) (.n (.nilc rfl)) ?_
  refine .v (i := 2) [(33, _)] rfl rfl rfl (.cons (.head _) rfl rfl .nil) (.n (.fa0 fl60_0 rfl)) ?_
  refine .v (i := 3) [(34, _)] rfl rfl rfl (.cons (.head _) rfl rfl .nil) (.n (.ldb ty57 rfl .here rfl)) ?_
  refine .v (i := 4) [] rfl rfl rfl .nil (.n (.mv rfl)) ?_
  refine .v (i := 5) [(35, _), (36, _)] rfl rfl rfl (.cons (.tail _ (.head _)) rfl rfl (.cons (.head _) rfl rfl .nil)) (.n (.ixo sl57 rfl rfl (l) ⟨rfl, by have h_ := (List.getElem?_eq_some_iff.1 hl).1; omega⟩)) ?_
  refine .v (i := 6) [] rfl rfl rfl .nil (.n (.mv rfl)) ?_
  refine .v (i := 7) [(38, _)] rfl rfl rfl (.cons (.head _) rfl rfl .nil) (.n (.nilc rfl)) ?_
  refine .v (i := 8) [(39, _)] rfl rfl rfl (.cons (.head _) rfl rfl .nil) (.n (.fa0 fl60_0 rfl)) ?_
  refine .v (i := 9) [(40, _)] rfl rfl rfl (.cons (.head _) rfl rfl .nil) (.n (.ldb ty57 rfl .here rfl)) ?_
  refine .v (i := 10) [] rfl rfl rfl .nil (.n (.mv rfl)) ?_
  refine .v (i := 11) [(41, _), (42, _)] rfl rfl rfl (.cons (.tail _ (.head _)) rfl rfl (.cons (.head _) rfl rfl .nil)) (.n (.ixo sl57 rfl rfl (r) ⟨rfl, by have h_ := (List.getElem?_eq_some_iff.1 hr).1; omega⟩)) ?_
  refine .v (i := 12) [(43, _)] rfl rfl rfl (.cons (.head _) rfl rfl .nil) (.n (.ldm [.slice (apr) (xr').length (cpr), .slice (akr) (kr').length (ckr)] ty68 rfl (.there .here) rfl (fun j_ v_ hj_ => encN_ok.get pn r _ hr npad j_ v_ hj_))) ?_
  refine .v (i := 14) [(37, _)] rfl rfl rfl (.cons (.tail _ (.tail _ (.tail _ (.tail _ (.tail _ (.tail _ (.tail _ (.head _)))))))) rfl rfl .nil) (.n (.asn rfl)) ?_
  refine .tail1 15 [[15, 13, 12, 14, 0, 1, 2, 3, 4, 5, 6, 7, 8, 9, 10, 11]] rfl rfl rfl rfl (e' := fun f => [(10, _), (9, _), (44, _), (43, _), (42, _), (41, _), (40, _), (39, _), (38, _), (37, _), (36, _), (35, _), (34, _), (33, _), (32, _), (0, _), (2, _), (6, _), (7, _), (8, _)]) (M := fun f => [_, _, _, _, _, _]) (fun _ => rfl) (fun _ => rfl) (fun f1 => ?_)
  refine .st (.stw ty68 rfl rfl rfl rfl rfl .here) ?_
  refine .nil ?_
  refine .then ?_
  refine .seq ?_
  refine .draw [[], [], [1], [2], [3], [], [5], [6], [7], [], [8, 9], [10], [11], [4, 12], [], [14], [13, 15, 13], [0, 0, 1, 2, 3, 4, 5, 6, 7, 8, 9, 10, 11, 12, 13, 14, 15, 16], [17, 0, 1, 2, 3, 4, 5, 6, 7, 8, 9, 10, 11, 12, 13, 14, 15, 16], [18, 16, 16, 0, 1, 2, 3, 4, 5, 6, 7, 8, 9, 10, 11, 12, 13, 14, 15, 16]] [] (by kernel_rfl) (by kernel_rfl) rfl (e1 := [(0, _), (2, _), (6, _), (8, _), (9, _), (10, _)]) (.cons rfl rfl (.cons rfl rfl (.cons rfl rfl (.cons rfl rfl (.cons rfl rfl (.cons rfl rfl .nil)))))) (fun x hx => by cases hx) rfl ?_
  refine .v (i := 0) [] rfl rfl rfl .nil (.n (.mv rfl)) ?_
  refine .v (i := 1) [] rfl rfl rfl .nil (.n (.mv rfl)) ?_
  refine .v (i := 2) [(46, _)] rfl rfl rfl (.cons (.head _) rfl rfl .nil) (.n (.nilc rfl)) ?_
  refine .v (i := 3) [(47, _)] rfl rfl rfl (.cons (.head _) rfl rfl .nil) (.n (.fa0 fl68_0 rfl)) ?_
  refine .v (i := 4) [(48, _)] rfl rfl rfl (.cons (.head _) rfl rfl .nil) (.n (.ldb (v := .slice (apl) (xl').length (cpl)) ty22 rfl (.there (.there .here)) (encN_ok.get pn l _ hl npad 0 _ rfl))) ?_
  refine .v (i := 5) [] rfl rfl rfl .nil (.n (.mv rfl)) ?_
  refine .v (i := 6) [(50, _)] rfl rfl rfl (.cons (.head _) rfl rfl .nil) (.n (.nilc rfl)) ?_
  refine .v (i := 7) [(51, _)] rfl rfl rfl (.cons (.head _) rfl rfl .nil) (.n (.fa0 fl68_0 rfl)) ?_
  refine .v (i := 8) [(52, _)] rfl rfl rfl (.cons (.head _) rfl rfl .nil) (.n (.ldb (v := .slice (some ⟨bpi, 0, none⟩) (xi').length (cpi)) ty22 rfl (.there (.there .here)) (encN_ok.get pn i _ hi npad 0 _ rfl))) ?_
  refine .v (i := 9) [] rfl rfl rfl .nil (.n (.mv rfl)) ?_
  refine .v (i := 10) [(53, _), (54, _)] rfl rfl rfl (.cons (.tail _ (.head _)) rfl rfl (.cons (.head _) rfl rfl .nil)) (.n (.ixo sl22 rfl rfl (q) ⟨rfl, by have h_ := (List.getElem?_eq_some_iff.1 hp').1; omega⟩)) ?_
  refine .v (i := 11) [(55, _)] rfl rfl rfl (.cons (.head _) rfl rfl .nil) (.n (.ldm _ ty47 rfl (.there (.there (.there (.there (.part (sub_p hi)))))) rfl (fun j_ v_ hj_ => encP_ok.get xi' (q) _ hp' dpi j_ v_ hj_))) ?_
  refine .v (i := 14) [] rfl rfl rfl .nil (.n (.fa0 fl68_0 rfl)) ?_
  refine .v (i := 15) [(59, _)] rfl rfl rfl (.cons (.head _) rfl rfl .nil) (.n (.ldb ty22 rfl .here rfl)) ?_
  refine .e (i := 12) [(56, _)] [12, 11, 10, 8, 9, 7, 6, 5] rfl rfl rfl (.cons (.tail _ (.tail _ (.head _))) rfl rfl .nil) rfl rfl rfl .n (.lit1 sl22 ty47 rfl rfl rfl rfl rfl) ?_
  rintro _ _ Gs3 _ ⟨b2, rfl, rfl, hGs_⟩
  subst Gs3
  refine ⟨.again [(59, _)] rfl (.cons (.tail _ (.head _)) rfl rfl .nil) (.n (.ldb ty22 rfl (.there .here) rfl)) (.again [] rfl .nil (.n (.fa0 fl68_0 rfl)) (.skip rfl (.skip rfl (.skip rfl (.skip rfl (.skip rfl (.skip rfl (.skip rfl (.again [(48, _)] rfl (.cons (.tail _ (.tail _ (.tail _ (.tail _ (.tail _ (.tail _ (.tail _ (.tail _ (.tail _ (.tail _ (.head _))))))))))) rfl rfl .nil) (.n (.ldb (v := .slice (apl) (xl').length (cpl)) ty22 rfl (.there (.there (.there .here))) (encN_ok.get pn l _ hl npad 0 _ rfl))) (.again [(47, _)] rfl (.cons (.tail _ (.tail _ (.tail _ (.tail _ (.tail _ (.tail _ (.tail _ (.tail _ (.tail _ (.tail _ (.tail _ (.head _)))))))))))) rfl rfl .nil) (.n (.fa0 fl68_0 rfl)) (.again [(46, _)] rfl (.cons (.tail _ (.tail _ (.tail _ (.tail _ (.tail _ (.tail _ (.tail _ (.tail _ (.tail _ (.tail _ (.tail _ (.tail _ (.head _))))))))))))) rfl rfl .nil) (.n (.nilc rfl)) (.again [] rfl .nil (.n (.mv rfl)) (.again [] rfl .nil (.n (.mv rfl)) .nil))))))))))))), rfl, ?_⟩
  refine .e (i := 13) [(49, _), (57, _)] [13, 4, 12, 3, 11, 2, 10, 1, 8, 9, 7, 6, 5] rfl rfl rfl (.cons (.tail _ (.tail _ (.tail _ (.tail _ (.tail _ (.tail _ (.tail _ (.tail _ (.tail _ (.tail _ (.head _))))))))))) rfl rfl (.cons (.head _) rfl rfl .nil)) rfl rfl rfl .n (.app1 (xs := xl') (p) sl22 ty47 rfl encP_ok rfl rfl hpl .here (by omega) (by omega) _ (fun _ => (.there (.there (.there (.there (.there (upd_p hl _)))))))) ?_
  rintro _ _ Gs5 _ ⟨a4, c4, it4, rfl, hr4, rfl, hGs_⟩
  subst Gs5
  refine ⟨.skip rfl (.again [(59, _)] rfl (.cons (.tail _ (.tail _ (.head _))) rfl rfl .nil) (.n (.ldb ty22 rfl (.there .here) rfl)) (.again [] rfl .nil (.n (.fa0 fl68_0 rfl)) (.skip rfl (.skip rfl (.skip rfl (.skip rfl (.skip rfl (.skip rfl (.skip rfl (.skip rfl (.skip rfl (.skip rfl (.skip rfl (.again [] rfl .nil (.n (.mv rfl)) .nil)))))))))))))), rfl, ?_⟩
  refine .e (i := 16) [(58, _), (60, _)] [16, 13, 15, 4, 12, 14, 3, 11, 2, 10, 1, 8, 9, 7, 6, 5] rfl rfl rfl (.cons (.head _) rfl rfl (.cons (.tail _ (.tail _ (.head _))) rfl rfl .nil)) rfl rfl rfl .n (.appr (xs := (xl' ++ [p])) (ys := xr') sl22 ty47 rfl encP_ok rfl rfl hr4 (hpr.rdAll (.there (.there (.there (.there (.there (.part (sub_p (set_other hlr hr))))))))) (fun h_ => hpr.nil_of h_) (by simp; omega) (by simp; omega) _ (fun _ => (.there (.there (.there (.there (.there (upd_p (set_get (y := (⟨⟨[], none, 0, it4⟩, ⟨kl', akl, ckl, ikl⟩⟩ : PN)) hl) _)))))))) ?_
  rintro _ _ Gs7 _ ⟨a6, c6, it6, rfl, hr6, rfl, hGs_⟩
  subst Gs7
  refine ⟨.skip rfl (.skip rfl (.skip rfl (.skip rfl (.skip rfl (.skip rfl (.skip rfl (.skip rfl (.skip rfl (.skip rfl (.skip rfl (.skip rfl (.skip rfl (.skip rfl (.skip rfl (.again [] rfl .nil (.n (.mv rfl)) .nil))))))))))))))), rfl, ?_⟩
  refine .tail0 17 [[17, 0, 1, 2, 3, 4, 5, 6, 7, 8, 9, 10, 11, 12, 13, 14, 15, 16], [18, 17, 0, 1, 2, 3, 4, 5, 6, 7, 8, 9, 10, 11, 12, 13, 14, 15, 16], [19, 18, 16, 0, 1, 2, 3, 4, 5, 6, 7, 8, 9, 10, 11, 12, 13, 14, 15, 17]] rfl rfl rfl rfl (e' := [(61, _), (58, _), (57, _), (60, _), (59, _), (56, _), (55, _), (54, _), (53, _), (52, _), (51, _), (50, _), (49, _), (48, _), (47, _), (46, _), (45, _), (0, _), (2, _), (6, _), (8, _), (9, _), (10, _)]) rfl ?_
  refine .v (.nilc rfl) rfl ?_
  refine .v (.fa0 fl68_0 rfl) rfl ?_
  rw [List.append_assoc, List.singleton_append] at hr6
  refine .kn (t := 61) (v := .slice a6 (xl' ++ p :: xr').length c6) rfl (by rw [List.append_assoc, List.singleton_append]) ?_
  refine .st (.stp (vs := [.slice a6 (xl' ++ p :: xr').length c6]) (cs' := (pn.set l ⟨⟨xl' ++ p :: xr', a6, c6, it6⟩, ⟨kl', akl, ckl, ikl⟩⟩).flatMap encN ++ npad) ty22 rfl rfl rfl rfl (by simp [Value.oneCell']) (by have h_ := (List.getElem?_eq_some_iff.1 hl).1; rw [List.length_append, encN_ok.fl]; omega) (encN_ok.put1 (j := 0) hl (by decide) rfl) (.there (.there (.there .here)))) ?_
  rw [List.set_set]
  rw [own_same_p pn l _ ⟨xl' ++ p :: xr', a6, c6, it6⟩]
  obtain ⟨pn8, hpn8⟩ : ∃ x, x = pn.set l ⟨⟨xl' ++ p :: xr', a6, c6, it6⟩, ⟨kl', akl, ckl, ikl⟩⟩ := ⟨_, rfl⟩
  rw [← hpn8]
  have hx8 := set_get' hpn8 hl
  have hy8_i := set_other' hpn8 hli hi
  have hy8_r := set_other' hpn8 hlr hr
  replace hok : ∀ n ∈ pn8, n.Ok := by rw [hpn8]; exact set_ok hok ⟨hr6, hkl⟩
  have hnd8 : pn8.map PN.nd = T.nodes.set l ⟨xl' ++ p :: xr', kl'⟩ := by rw [hpn8, List.map_set, hnd]; rfl
  have hln8 : pn8.length = pn.length := by rw [hpn8, List.length_set]
  have hcp8 : pn8.length ≤ nc := by omega
  have hnp8 : npad.length = (nc - pn8.length) * 2 := by rw [hln8]; exact hnp
  have hpl_8 := hr6
  have hkl_8 := hkl
  refine .nil ?_
  refine .then ?_
  refine .seq ?_
  refine .draw [[], [], [1], [2], [3], [], [5], [4, 6], [0, 0, 1, 2, 3, 4, 5, 6, 7], [8, 0, 1, 2, 3, 4, 5, 6, 7], [9, 7, 7, 0, 1, 2, 3, 4, 5, 6, 7]] [] (by kernel_rfl) (by kernel_rfl) rfl (e1 := [(0, _), (2, _), (6, _), (8, _), (9, _), (10, _)]) (.cons rfl rfl (.cons rfl rfl (.cons rfl rfl (.cons rfl rfl (.cons rfl rfl (.cons rfl rfl .nil)))))) (fun x hx => by cases hx) rfl ?_
  refine .v (i := 0) [] rfl rfl rfl .nil (.n (.mv rfl)) ?_
  refine .v (i := 1) [] rfl rfl rfl .nil (.n (.mv rfl)) ?_
  refine .v (i := 2) [(65, _)] rfl rfl rfl (.cons (.head _) rfl rfl .nil) (.n (.nilc rfl)) ?_
  refine .v (i := 3) [(66, _)] rfl rfl rfl (.cons (.head _) rfl rfl .nil) (.n (.fae fl68_1 rfl)) ?_
  refine .v (i := 4) [(67, _)] rfl rfl rfl (.cons (.head _) rfl rfl .nil) (.n (.ldb (v := .slice (akl) (kl').length (ckl)) ty58 rfl (.there (.there (.there .here))) (encN_ok.get pn8 l _ hx8 npad 1 _ rfl))) ?_
  refine .v (i := 5) [] rfl rfl rfl .nil (.n (.fab fl68_1 rfl)) ?_
  refine .v (i := 6) [(69, _)] rfl rfl rfl (.cons (.head _) rfl rfl .nil) (.n (.ldb ty58 rfl (.there .here) rfl)) ?_
  refine .e (i := 7) [(68, _), (70, _)] [7, 4, 6, 3, 5, 2, 1] rfl rfl rfl (.cons (.tail _ (.tail _ (.head _))) rfl rfl (.cons (.head _) rfl rfl .nil)) rfl rfl rfl .n (.appr (xs := kl') (ys := kr') sl58 ty3 rfl encK_ok rfl rfl hkl_8 (hkr.rdAll (.there (.there (.there (.there (.there (.part (sub_k hy8_r)))))))) (fun h_ => hkr.nil_of h_) (by omega) (by omega) _ (fun _ => (.there (.there (.there (.there (.there (upd_k hx8 _)))))))) ?_
  rintro _ _ Gs10 _ ⟨a9, c9, it9, rfl, hr9, rfl, hGs_⟩
  subst Gs10
  refine ⟨.skip rfl (.skip rfl (.skip rfl (.skip rfl (.skip rfl (.skip rfl (.again [] rfl .nil (.n (.mv rfl)) .nil)))))), rfl, ?_⟩
  refine .tail0 8 [[8, 0, 1, 2, 3, 4, 5, 6, 7], [9, 8, 0, 1, 2, 3, 4, 5, 6, 7], [10, 9, 7, 0, 1, 2, 3, 4, 5, 6, 8]] rfl rfl rfl rfl (e' := [(71, _), (70, _), (69, _), (68, _), (67, _), (66, _), (65, _), (64, _), (0, _), (2, _), (6, _), (8, _), (9, _), (10, _)]) rfl ?_
  refine .v (.nilc rfl) rfl ?_
  refine .v (.fae fl68_1 rfl) rfl ?_
  refine .st (.stp (vs := [.slice a9 (kl' ++ kr').length c9]) (cs' := (pn8.set l ⟨⟨xl' ++ p :: xr', a6, c6, it6⟩, ⟨kl' ++ kr', a9, c9, it9⟩⟩).flatMap encN ++ npad) ty58 rfl rfl rfl rfl (by simp [Value.oneCell']) (by have h_ := (List.getElem?_eq_some_iff.1 hx8).1; rw [List.length_append, encN_ok.fl]; omega) (encN_ok.put1 (j := 1) hx8 (by decide) rfl) (.there (.there (.there .here)))) ?_
  rw [own_same_k pn8 l _ ⟨kl' ++ kr', a9, c9, it9⟩]
  obtain ⟨pn11, hpn11⟩ : ∃ x, x = pn8.set l ⟨⟨xl' ++ p :: xr', a6, c6, it6⟩, ⟨kl' ++ kr', a9, c9, it9⟩⟩ := ⟨_, rfl⟩
  rw [← hpn11]
  have hx11 := set_get' hpn11 hx8
  have hy11_i := set_other' hpn11 hli hy8_i
  have hy11_r := set_other' hpn11 hlr hy8_r
  replace hok : ∀ n ∈ pn11, n.Ok := by rw [hpn11]; exact set_ok hok ⟨hpl_8, hr9⟩
  have hnd11 : pn11.map PN.nd = (T.nodes.set l ⟨xl' ++ p :: xr', kl'⟩).set l ⟨xl' ++ p :: xr', kl' ++ kr'⟩ := by rw [hpn11, List.map_set, hnd8]; rfl
  have hln11 : pn11.length = pn8.length := by rw [hpn11, List.length_set]
  have hcp11 : pn11.length ≤ nc := by omega
  have hnp11 : npad.length = (nc - pn11.length) * 2 := by rw [hln11]; exact hnp8
  have hkl_8_11 := hr9
  have hpl_8_11 := hpl_8
  refine .nil ?_
  refine .then ?_
  refine .seq ?_
  refine .region ?_
  refine .v (.mv rfl) rfl ?_
  refine .v (.mv rfl) rfl ?_
  refine .v (.nilc rfl) rfl ?_
  refine .v (.fa0 fl68_0 rfl) rfl ?_
  refine .v (.ldb (v := .slice (some ⟨bpi, 0, none⟩) (xi').length (cpi)) ty22 rfl (.there (.there (.there .here))) (encN_ok.get pn11 i _ hy11_i npad 0 _ rfl)) rfl ?_
  refine .v (.mv rfl) rfl ?_
  refine .v (.mv rfl) rfl ?_
  refine .v (.add rfl rfl (by omega)) rfl ?_
  refine .lend (.lend rfl rfl (Try.call49 _) _ (fun _ => (.there (.there (.there (.there (.there (upd_p hy11_i _))))))) (fun G hle hG => (delete_P xi' (q) _ _ _ G hpi (by have h_ := (List.getElem?_eq_some_iff.1 hp').1; omega)).mono (fun v M H _ ⟨it, h1, _, h2⟩ => ⟨it, h1, h2⟩))) rfl ?_
  rintro _ it12 ⟨a12, c12, rfl, hr12⟩
  refine .v (.nilc rfl) rfl ?_
  refine .v (.fa0 fl68_0 rfl) rfl ?_
  refine .st (.stp (vs := [.slice a12 (xi'.take q ++ xi'.drop (q + 1)).length c12]) (cs' := (pn11.set i ⟨⟨xi'.take q ++ xi'.drop (q + 1), a12, c12, it12⟩, ⟨ki', some ⟨bki, 0, none⟩, cki, [⟨bki, 3, ki'.flatMap encK ++ dki⟩]⟩⟩).flatMap encN ++ npad) ty22 rfl rfl rfl rfl (by simp [Value.oneCell']) (by have h_ := (List.getElem?_eq_some_iff.1 hy11_i).1; rw [List.length_append, encN_ok.fl]; omega) (encN_ok.put1 (j := 0) hy11_i (by decide) rfl) (.there (.there (.there .here)))) ?_
  rw [own_same_p pn11 i _ ⟨xi'.take q ++ xi'.drop (q + 1), a12, c12, it12⟩]
  obtain ⟨pn13, hpn13⟩ : ∃ x, x = pn11.set i ⟨⟨xi'.take q ++ xi'.drop (q + 1), a12, c12, it12⟩, ⟨ki', some ⟨bki, 0, none⟩, cki, [⟨bki, 3, ki'.flatMap encK ++ dki⟩]⟩⟩ := ⟨_, rfl⟩
  rw [← hpn13]
  have hx13 := set_get' hpn13 hy11_i
  have hy13_l_8_11 := set_other' hpn13 (Ne.symm hli) hx11
  have hy13_r := set_other' hpn13 (Ne.symm hri) hy11_r
  replace hok : ∀ n ∈ pn13, n.Ok := by rw [hpn13]; exact set_ok hok ⟨hr12, hki⟩
  have hnd13 : pn13.map PN.nd = ((T.nodes.set l ⟨xl' ++ p :: xr', kl'⟩).set l ⟨xl' ++ p :: xr', kl' ++ kr'⟩).set i ⟨xi'.take q ++ xi'.drop (q + 1), ki'⟩ := by rw [hpn13, List.map_set, hnd11]; rfl
  have hln13 : pn13.length = pn11.length := by rw [hpn13, List.length_set]
  have hcp13 : pn13.length ≤ nc := by omega
  have hnp13 : npad.length = (nc - pn13.length) * 2 := by rw [hln13]; exact hnp11
  have hpi_13 := hr12
  have hki_13 := hki
  refine .nil ?_
  refine .then ?_
  refine .seq ?_
  refine .region ?_
  refine .v (.mv rfl) rfl ?_
  refine .v (.mv rfl) rfl ?_
  refine .v (.nilc rfl) rfl ?_
  refine .v (.fae fl68_1 rfl) rfl ?_
  refine .v (.ldb (v := .slice (some ⟨bki, 0, none⟩) (ki').length (cki)) ty58 rfl (.there (.there (.there .here))) (encN_ok.get pn13 i _ hx13 npad 1 _ rfl)) rfl ?_
  refine .v (.mv rfl) rfl ?_
  refine .v (.add rfl rfl (by omega)) rfl ?_
  refine .v (.mv rfl) rfl ?_
  refine .v (.add rfl rfl (by omega)) rfl ?_
  refine .lend (.lend rfl rfl (Try.call59 _) _ (fun _ => (.there (.there (.there (.there (.there (upd_k hx13 _))))))) (fun G hle hG => (delete_K ki' (q + 1) _ _ _ G hki_13 (by have h_ := (List.getElem?_eq_some_iff.1 hqr').1; omega)).mono (fun v M H _ ⟨it, h1, _, h2⟩ => ⟨it, h1, h2⟩))) rfl ?_
  rintro _ it14 ⟨a14, c14, rfl, hr14⟩
  refine .v (.nilc rfl) rfl ?_
  refine .v (.fae fl68_1 rfl) rfl ?_
  refine .st (.stp (vs := [.slice a14 (ki'.take (q + 1) ++ ki'.drop (q + 1 + 1)).length c14]) (cs' := (pn13.set i ⟨⟨xi'.take q ++ xi'.drop (q + 1), a12, c12, it12⟩, ⟨ki'.take (q + 1) ++ ki'.drop (q + 1 + 1), a14, c14, it14⟩⟩).flatMap encN ++ npad) ty58 rfl rfl rfl rfl (by simp [Value.oneCell']) (by have h_ := (List.getElem?_eq_some_iff.1 hx13).1; rw [List.length_append, encN_ok.fl]; omega) (encN_ok.put1 (j := 1) hx13 (by decide) rfl) (.there (.there (.there .here)))) ?_
  rw [own_same_k pn13 i _ ⟨ki'.take (q + 1) ++ ki'.drop (q + 1 + 1), a14, c14, it14⟩]
  obtain ⟨pn15, hpn15⟩ : ∃ x, x = pn13.set i ⟨⟨xi'.take q ++ xi'.drop (q + 1), a12, c12, it12⟩, ⟨ki'.take (q + 1) ++ ki'.drop (q + 1 + 1), a14, c14, it14⟩⟩ := ⟨_, rfl⟩
  rw [← hpn15]
  have hx15 := set_get' hpn15 hx13
  have hy15_l_8_11 := set_other' hpn15 (Ne.symm hli) hy13_l_8_11
  have hy15_r := set_other' hpn15 (Ne.symm hri) hy13_r
  replace hok : ∀ n ∈ pn15, n.Ok := by rw [hpn15]; exact set_ok hok ⟨hpi_13, hr14⟩
  have hnd15 : pn15.map PN.nd = (((T.nodes.set l ⟨xl' ++ p :: xr', kl'⟩).set l ⟨xl' ++ p :: xr', kl' ++ kr'⟩).set i ⟨xi'.take q ++ xi'.drop (q + 1), ki'⟩).set i ⟨xi'.take q ++ xi'.drop (q + 1), ki'.take (q + 1) ++ ki'.drop (q + 1 + 1)⟩ := by rw [hpn15, List.map_set, hnd13]; rfl
  have hln15 : pn15.length = pn13.length := by rw [hpn15, List.length_set]
  have hcp15 : pn15.length ≤ nc := by omega
  have hnp15 : npad.length = (nc - pn15.length) * 2 := by rw [hln15]; exact hnp13
  have hki_13_15 := hr14
  have hpi_13_15 := hpi_13
  rw [List.set_set, List.set_set] at hnd15
  refine .nil ?_
  refine .then ?_
  refine .region ?_
  refine .v (.mv rfl) rfl ?_
  refine .v (.mv rfl) rfl ?_
  have hL1 : Lies b ((T.setN l ⟨xl' ++ p :: xr', kl' ++ kr'⟩).setN i ⟨xi'.take q ++ xi'.drop (q + 1), ki'.take (q + 1) ++ ki'.drop (q + 1 + 1)⟩) ([⟨b, 60, [.slice (some ⟨nb, 0, none⟩) pn.length nc, .slice fa T.free.length fc, .int .i64 (T.root : Int), .int .i64 (T.count : Int)]⟩] ++ ([⟨nb, 68, pn15.flatMap encN ++ npad⟩] ++ (fit ++ own pn15))) := ⟨pn15, some ⟨nb, 0, none⟩, nc, _, fa, fc, fit, ⟨Row.of npad rfl hnp15 hcp15 hmx, hrf, hok, hnd15, by rw [hln15, hln13, hln11, hln8]; first | done | rfl⟩⟩
  refine .front (.there (.there (.there (.there (.there .here))))) ?_
  refine .front (.there (.there (.there (.there (.there .here))))) ?_
  refine .join ?_
  refine .front (.there (.there (.there (.there .here)))) ?_
  refine .join ?_
  refine .front (.there (.there (.there .here))) ?_
  refine .join ?_
  refine .lend (.lend rfl rfl (Try.call40 _) _ (fun _ => .here) (fun G hle hG => (drop_fn b _ _ G hL1 r (by show r < ((T.nodes.set l _).set i _).length; rw [List.length_set, List.length_set]; exact (List.getElem?_eq_some_iff.1 hnr).1) (by exact hfb)).mono (fun v M H _ ⟨it, h1, _, h2⟩ => ⟨it, h1, h2⟩))) rfl ?_
  rintro _ itq hL2
  refine .nil ?_
  exact .end _ [itq] (.t0 rfl) .rfl ⟨_, rfl, rfl, hL2⟩ (fun w ho => by simpa using (subl (.cons_cons _ (.cons _ (.cons _ (.cons_cons _ .slnil)))) w ho))
end Go.Proofs.Ytbmpdccoffkjgaa.Ow
