/- Walks. -/
import Derived.Test.YtbmpdccoffkjgaaBe
namespace Go.Proofs.Ytbmpdccoffkjgaa.Ow
open Go
set_option linter.unusedVariables false
theorem lendL_fn (b : Nat) (T : TS) (it : Itm) (F : Mem) (hT : Lies b T it) (i q t f : Nat) (xi : List Pr) (ki : List Nat) (xt : List Pr) (kt : List Nat) (xf : List Pr) (kf : List Nat) (p u : Pr) (hqf : ki[q - 1]? = some f) (h1q : 1 ≤ q) (hp : xi[q - 1]? = some p) (hu : xf[xf.length - 1]? = some u) (hni : T.nodes[i]? = some ⟨xi, ki⟩) (hqt : ki[q]? = some t) (hnt : T.nodes[t]? = some ⟨xt, kt⟩) (hnf : T.nodes[f]? = some ⟨xf, kf⟩) (hti : t ≠ i) (hfi : f ≠ i) (htf : t ≠ f) (hxil : xi.length ≤ 1000) (hkil : ki.length ≤ 1000) (hxtl : xt.length ≤ 1000) (hktl : kt.length ≤ 1000) (hxfl : xf.length ≤ 1000) (hkfl : kf.length ≤ 1000) : Fn Try.prog 58 #[.pointer (some ⟨b, 0, none⟩), .int .i64 (i : Int), .int .i64 (q : Int), .int .i64 (-1)] [it] F (fun v M G => ∃ it', M = [it'] ∧ G = F ∧ Lies b (lendL T i q t f ⟨xi, ki⟩ ⟨xt, kt⟩ ⟨xf, kf⟩ p u) it') := by
  have hqk := (List.getElem?_eq_some_iff.1 hqt).1
  have hqx := (List.getElem?_eq_some_iff.1 hp).1
  have hux := (List.getElem?_eq_some_iff.1 hu).1
  have hib := (List.getElem?_eq_some_iff.1 hni).1
  obtain ⟨pn, na, nc, nit, fa, fc, fit, hP⟩ := hT
  obtain ⟨hrn, hrf, hok, hnd, rfl⟩ := hP
  have hln : pn.length = T.nodes.length := by rw [← hnd, List.length_map]
  have hmx := hrn.max
  have hcp := hrn.cap
  have hfm := hrf.max
  have hfcp := hrf.cap
  obtain ⟨nb, npad, rfl, rfl, hnp⟩ := hrn.blk (by omega)
  obtain ⟨ni, hi, ei⟩ := nd_get hnd hni
  have hoi := get_ok hok hi
  obtain ⟨⟨xi', api, cpi, ipi⟩, ⟨ki', aki, cki, iki⟩⟩ := ni
  obtain ⟨rfl, rfl⟩ : xi' = xi ∧ ki' = ki := by simpa [PN.nd] using ei
  have hpi : Row 47 encP 2 api cpi xi' ipi := hoi.p
  have hki : Row 3 encK 1 aki cki ki' iki := hoi.k
  obtain ⟨bpi, dpi, rfl, rfl, hdpi⟩ := hpi.blk (by omega)
  obtain ⟨bki, dki, rfl, rfl, hdki⟩ := hki.blk (by omega)
  obtain ⟨nt, ht, et⟩ := nd_get hnd hnt
  have hot := get_ok hok ht
  obtain ⟨⟨xt', apt, cpt, ipt⟩, ⟨kt', akt, ckt, ikt⟩⟩ := nt
  obtain ⟨rfl, rfl⟩ : xt' = xt ∧ kt' = kt := by simpa [PN.nd] using et
  have hpt : Row 47 encP 2 apt cpt xt' ipt := hot.p
  have hkt : Row 3 encK 1 akt ckt kt' ikt := hot.k
  obtain ⟨nf, hf, ef⟩ := nd_get hnd hnf
  have hof := get_ok hok hf
  obtain ⟨⟨xf', apf, cpf, ipf⟩, ⟨kf', akf, ckf, ikf⟩⟩ := nf
  obtain ⟨rfl, rfl⟩ : xf' = xf ∧ kf' = kf := by simpa [PN.nd] using ef
  have hpf : Row 47 encP 2 apf cpf xf' ipf := hof.p
  have hkf : Row 3 encK 1 akf ckf kf' ikf := hof.k
  obtain ⟨bpf, dpf, rfl, rfl, hdpf⟩ := hpf.blk (by omega)
  have hpp : xi'[q - 1]? = some p := hp
  have huu : xf'[xf'.length - 1]? = some u := hu
  have hqt' : ki'[q]? = some t := hqt
  have hqf' : ki'[q - 1]? = some f := hqf
  refine Fn.start1 Try.func58 rfl Try.ntmps58 rfl (env := [(0, _), (1, _), (2, _), (3, _)]) rfl ?_
  intro R
  refine .items (L' := [[⟨b, 60, _⟩], [⟨nb, 68, _⟩], fit, own pn, R]) (fun w ho => by simpa [List.append_assoc] using ho) ?_
  refine .seq ?_
  refine .region ?_
  refine .v (.mv rfl) rfl ?_
  refine .v (.nilc rfl) rfl ?_
  refine .v (.fa0 fl60_0 rfl) rfl ?_
  refine .v (.ldb ty57 rfl .here rfl) rfl ?_
  refine .v (.mv rfl) rfl ?_
  refine .v (.ixo sl57 rfl rfl (i) ⟨rfl, by have h_ := (List.getElem?_eq_some_iff.1 hi).1; omega⟩) rfl ?_
  refine .v (.asn rfl) rfl ?_
  refine .nil ?_
  refine .then ?_
  refine .seq ?_
  refine .draw [[], [0], [1], [2], [], [4], [5], [6], [], [7, 8], [9], [3, 10], [], [12], [13], [14], [], [16], [17], [18], [], [], [20, 21], [19, 22], [23], [15, 24], [11, 0, 1, 2, 3, 4, 5, 6, 7, 8, 9, 10, 11], [25, 26, 0, 1, 2, 3, 4, 5, 6, 7, 8, 9, 10, 11, 12, 13, 14, 15, 16, 17, 18, 19, 20, 21, 22, 23, 24, 25, 26]] [] (by kernel_rfl) (by kernel_rfl) rfl (e1 := [(0, _), (2, _), (3, _), (8, _)]) (.cons rfl rfl (.cons rfl rfl (.cons rfl rfl (.cons rfl rfl .nil)))) (fun x hx => by cases hx) rfl ?_
  refine .v (i := 0) [] rfl rfl rfl .nil (.n (.mv rfl)) ?_
  refine .v (i := 1) [(19, _)] rfl rfl rfl (.cons (.head _) rfl rfl .nil) (.n (.nilc rfl)) ?_
  refine .v (i := 2) [(20, _)] rfl rfl rfl (.cons (.head _) rfl rfl .nil) (.n (.fa0 fl60_0 rfl)) ?_
  refine .v (i := 3) [(21, _)] rfl rfl rfl (.cons (.head _) rfl rfl .nil) (.n (.ldb ty57 rfl .here rfl)) ?_
  refine .v (i := 4) [] rfl rfl rfl .nil (.n (.mv rfl)) ?_
  refine .v (i := 5) [(23, _)] rfl rfl rfl (.cons (.head _) rfl rfl .nil) (.n (.nilc rfl)) ?_
  refine .v (i := 6) [(24, _)] rfl rfl rfl (.cons (.head _) rfl rfl .nil) (.n (.fae fl68_1 rfl)) ?_
  refine .v (i := 7) [(25, _)] rfl rfl rfl (.cons (.head _) rfl rfl .nil) (.n (.ldb (v := .slice (some ⟨bki, 0, none⟩) (ki').length (cki)) ty58 rfl (.there .here) (encN_ok.get pn i _ hi npad 1 _ rfl))) ?_
  refine .v (i := 8) [] rfl rfl rfl .nil (.n (.mv rfl)) ?_
  refine .v (i := 9) [(26, _), (27, _)] rfl rfl rfl (.cons (.tail _ (.head _)) rfl rfl (.cons (.head _) rfl rfl .nil)) (.n (.ixo sl58 rfl rfl (q) ⟨rfl, by have h_ := (List.getElem?_eq_some_iff.1 hqt').1; omega⟩)) ?_
  refine .v (i := 10) [(28, _)] rfl rfl rfl (.cons (.head _) rfl rfl .nil) (.n (.ldb ty3 rfl (.there (.there (.there (.part (sub_k hi))))) (encK_ok.get ki' (q) _ hqt' dki 0 _ rfl))) ?_
  refine .v (i := 11) [(22, _), (29, _)] rfl rfl rfl (.cons (.tail _ (.tail _ (.tail _ (.tail _ (.tail _ (.tail _ (.tail _ (.head _)))))))) rfl rfl (.cons (.head _) rfl rfl .nil)) (.n (.ixo sl57 rfl rfl (t) ⟨rfl, by have h_ := (List.getElem?_eq_some_iff.1 ht).1; omega⟩)) ?_
  refine .v (i := 12) [] rfl rfl rfl .nil (.n (.mv rfl)) ?_
  refine .v (i := 13) [(31, _)] rfl rfl rfl (.cons (.head _) rfl rfl .nil) (.n (.nilc rfl)) ?_
  refine .v (i := 14) [(32, _)] rfl rfl rfl (.cons (.head _) rfl rfl .nil) (.n (.fa0 fl60_0 rfl)) ?_
  refine .v (i := 15) [(33, _)] rfl rfl rfl (.cons (.head _) rfl rfl .nil) (.n (.ldb ty57 rfl .here rfl)) ?_
  refine .v (i := 16) [] rfl rfl rfl .nil (.n (.mv rfl)) ?_
  refine .v (i := 17) [(35, _)] rfl rfl rfl (.cons (.head _) rfl rfl .nil) (.n (.nilc rfl)) ?_
  refine .v (i := 18) [(36, _)] rfl rfl rfl (.cons (.head _) rfl rfl .nil) (.n (.fae fl68_1 rfl)) ?_
  refine .v (i := 19) [(37, _)] rfl rfl rfl (.cons (.head _) rfl rfl .nil) (.n (.ldb (v := .slice (some ⟨bki, 0, none⟩) (ki').length (cki)) ty58 rfl (.there .here) (encN_ok.get pn i _ hi npad 1 _ rfl))) ?_
  refine .v (i := 20) [] rfl rfl rfl .nil (.n (.mv rfl)) ?_
  refine .v (i := 21) [] rfl rfl rfl .nil (.n (.mv rfl)) ?_
  refine .v (i := 22) [(39, _), (40, _)] rfl rfl rfl (.cons (.tail _ (.head _)) rfl rfl (.cons (.head _) rfl rfl .nil)) (.n (.add rfl rfl (by omega))) ?_
  refine .v (i := 23) [(38, _), (41, _)] rfl rfl rfl (.cons (.tail _ (.tail _ (.tail _ (.head _)))) rfl rfl (.cons (.head _) rfl rfl .nil)) (.n (.ixo sl58 rfl rfl (q - 1) ⟨by omega, by have h_ := (List.getElem?_eq_some_iff.1 hqf').1; omega⟩)) ?_
  refine .v (i := 24) [(42, _)] rfl rfl rfl (.cons (.head _) rfl rfl .nil) (.n (.ldb ty3 rfl (.there (.there (.there (.part (sub_k hi))))) (encK_ok.get ki' (q - 1) _ hqf' dki 0 _ rfl))) ?_
  refine .v (i := 25) [(34, _), (43, _)] rfl rfl rfl (.cons (.tail _ (.tail _ (.tail _ (.tail _ (.tail _ (.tail _ (.tail _ (.tail _ (.tail _ (.head _)))))))))) rfl rfl (.cons (.head _) rfl rfl .nil)) (.n (.ixo sl57 rfl rfl (f) ⟨rfl, by have h_ := (List.getElem?_eq_some_iff.1 hf).1; omega⟩)) ?_
  refine .v (i := 26) [(30, _)] rfl rfl rfl (.cons (.tail _ (.tail _ (.tail _ (.tail _ (.tail _ (.tail _ (.tail _ (.tail _ (.tail _ (.tail _ (.tail _ (.tail _ (.tail _ (.tail _ (.head _))))))))))))))) rfl rfl .nil) (.n (.asn rfl)) ?_
  refine .tail0 27 [[27, 25, 26, 0, 1, 2, 3, 4, 5, 6, 7, 8, 9, 10, 11, 12, 13, 14, 15, 16, 17, 18, 19, 20, 21, 22, 23, 24]] rfl rfl rfl rfl (e' := [(9, _), (44, _), (43, _), (42, _), (41, _), (40, _), (39, _), (38, _), (37, _), (36, _), (35, _), (34, _), (33, _), (32, _), (31, _), (30, _), (29, _), (28, _), (27, _), (26, _), (25, _), (24, _), (23, _), (22, _), (21, _), (20, _), (19, _), (0, _), (2, _), (3, _), (8, _)]) rfl ?_
  refine .v (.asn rfl) rfl ?_
  refine .nil ?_
  refine .then ?_
  refine .seq ?_
  refine .seq ?_
  refine .region ?_
  refine .v (.mv rfl) rfl ?_
  refine .vT (.lt rfl rfl) rfl (by decide) ?_
  refine .nil ?_
  refine .then ?_
  refine .condT rfl ?_
  refine .seq ?_
  refine .region ?_
  refine .v (.mv rfl) rfl ?_
  refine .v (.nilc rfl) rfl ?_
  refine .v (.fa0 fl68_0 rfl) rfl ?_
  refine .v (.ldb (v := .slice (some ⟨bpf, 0, none⟩) (xf').length (cpf)) ty22 rfl (.there .here) (encN_ok.get pn f _ hf npad 0 _ rfl)) rfl ?_
  refine .v (.lenl Try.underlying22 rfl) rfl ?_
  refine .v (.sub rfl rfl (by omega)) rfl ?_
  refine .v (.asn rfl) rfl ?_
  refine .nil ?_
  refine .then ?_
  refine .seq ?_
  refine .draw [[], [], [1], [2], [3], [], [5], [6], [7], [], [9], [8, 10], [11], [12], [4, 13], [0, 0, 1, 2, 3, 4, 5, 6, 7, 8, 9, 10, 11, 12, 13, 14], [15, 0, 1, 2, 3, 4, 5, 6, 7, 8, 9, 10, 11, 12, 13, 14], [16, 14, 14, 0, 1, 2, 3, 4, 5, 6, 7, 8, 9, 10, 11, 12, 13, 14]] [] (by kernel_rfl) (by kernel_rfl) rfl (e1 := [(2, _), (8, _), (9, _), (10, _), (11, _)]) (.cons rfl rfl (.cons rfl rfl (.cons rfl rfl (.cons rfl rfl (.cons rfl rfl .nil))))) (fun x hx => by cases hx) rfl ?_
  refine .v (i := 0) [] rfl rfl rfl .nil (.n (.mv rfl)) ?_
  refine .v (i := 1) [] rfl rfl rfl .nil (.n (.mv rfl)) ?_
  refine .v (i := 2) [(54, _)] rfl rfl rfl (.cons (.head _) rfl rfl .nil) (.n (.nilc rfl)) ?_
  refine .v (i := 3) [(55, _)] rfl rfl rfl (.cons (.head _) rfl rfl .nil) (.n (.fa0 fl68_0 rfl)) ?_
  refine .v (i := 4) [(56, _)] rfl rfl rfl (.cons (.head _) rfl rfl .nil) (.n (.ldb (v := .slice (apt) (xt').length (cpt)) ty22 rfl (.there .here) (encN_ok.get pn t _ ht npad 0 _ rfl))) ?_
  refine .v (i := 5) [] rfl rfl rfl .nil (.n (.mv rfl)) ?_
  refine .v (i := 6) [(58, _)] rfl rfl rfl (.cons (.head _) rfl rfl .nil) (.n (.nilc rfl)) ?_
  refine .v (i := 7) [(59, _)] rfl rfl rfl (.cons (.head _) rfl rfl .nil) (.n (.fa0 fl68_0 rfl)) ?_
  refine .v (i := 8) [(60, _)] rfl rfl rfl (.cons (.head _) rfl rfl .nil) (.n (.ldb (v := .slice (some ⟨bpi, 0, none⟩) (xi').length (cpi)) ty22 rfl (.there .here) (encN_ok.get pn i _ hi npad 0 _ rfl))) ?_
  refine .v (i := 9) [] rfl rfl rfl .nil (.n (.mv rfl)) ?_
  refine .v (i := 10) [(62, _)] rfl rfl rfl (.cons (.head _) rfl rfl .nil) (.n (.sub rfl rfl (by omega))) ?_
  refine .v (i := 11) [(61, _), (63, _)] rfl rfl rfl (.cons (.tail _ (.tail _ (.head _))) rfl rfl (.cons (.head _) rfl rfl .nil)) (.n (.ixo sl22 rfl rfl (q - 1) ⟨by omega, by have h_ := (List.getElem?_eq_some_iff.1 hpp).1; omega⟩)) ?_
  refine .v (i := 12) [(64, _)] rfl rfl rfl (.cons (.head _) rfl rfl .nil) (.n (.ldm _ ty47 rfl (.there (.there (.there (.part (sub_p hi))))) rfl (fun j_ v_ hj_ => encP_ok.get xi' (q - 1) _ hpp dpi j_ v_ hj_))) ?_
  refine .e (i := 13) [(65, _)] [13, 12, 11, 8, 10, 7, 9, 6, 5] rfl rfl rfl (.cons (.head _) rfl rfl .nil) rfl rfl rfl .n (.lit1 sl22 ty47 rfl rfl rfl rfl rfl) ?_
  rintro _ _ Gs2 _ ⟨b1, rfl, rfl, hGs_⟩
  subst Gs2
  refine ⟨.skip rfl (.skip rfl (.skip rfl (.skip rfl (.skip rfl (.skip rfl (.skip rfl (.skip rfl (.again [(56, _)] rfl (.cons (.tail _ (.tail _ (.tail _ (.tail _ (.tail _ (.tail _ (.tail _ (.tail _ (.tail _ (.head _)))))))))) rfl rfl .nil) (.n (.ldb (v := .slice (apt) (xt').length (cpt)) ty22 rfl (.there (.there .here)) (encN_ok.get pn t _ ht npad 0 _ rfl))) (.again [(55, _)] rfl (.cons (.tail _ (.tail _ (.tail _ (.tail _ (.tail _ (.tail _ (.tail _ (.tail _ (.tail _ (.tail _ (.head _))))))))))) rfl rfl .nil) (.n (.fa0 fl68_0 rfl)) (.again [(54, _)] rfl (.cons (.tail _ (.tail _ (.tail _ (.tail _ (.tail _ (.tail _ (.tail _ (.tail _ (.tail _ (.tail _ (.tail _ (.head _)))))))))))) rfl rfl .nil) (.n (.nilc rfl)) (.again [] rfl .nil (.n (.mv rfl)) (.again [] rfl .nil (.n (.mv rfl)) .nil)))))))))))), rfl, ?_⟩
  refine .e (i := 14) [(57, _), (66, _)] [14, 4, 13, 3, 12, 2, 11, 1, 8, 10, 7, 9, 6, 5] rfl rfl rfl (.cons (.tail _ (.tail _ (.tail _ (.tail _ (.tail _ (.tail _ (.tail _ (.tail _ (.tail _ (.head _)))))))))) rfl rfl (.cons (.head _) rfl rfl .nil)) rfl rfl rfl .n (.lend rfl rfl (Try.call38 _) _ (fun _ => (.there (.there (.there (.there (upd_p ht _)))))) (fun G hle hG => (insert_P xt' (p) (0) _ _ _ b1 G hpt (hG ⟨b1, 47, _⟩ (Inn.ob .here)) (by omega) (by omega)).mono (fun v M H _ ⟨it, h1, _, h2⟩ => ⟨it, h1, h2⟩))) ?_
  rintro _ _ Gs4 _ ⟨it3, rfl, hGs_, ⟨a3, c3, rfl, hr3⟩⟩
  subst Gs4
  refine ⟨.skip rfl (.skip rfl (.skip rfl (.skip rfl (.skip rfl (.skip rfl (.skip rfl (.skip rfl (.skip rfl (.skip rfl (.skip rfl (.skip rfl (.skip rfl (.again [] rfl .nil (.n (.mv rfl)) .nil))))))))))))), rfl, ?_⟩
  refine .tail0 15 [[15, 0, 1, 2, 3, 4, 5, 6, 7, 8, 9, 10, 11, 12, 13, 14], [16, 15, 0, 1, 2, 3, 4, 5, 6, 7, 8, 9, 10, 11, 12, 13, 14], [17, 16, 14, 0, 1, 2, 3, 4, 5, 6, 7, 8, 9, 10, 11, 12, 13, 15]] rfl rfl rfl rfl (e' := [(67, _), (66, _), (65, _), (64, _), (63, _), (62, _), (61, _), (60, _), (59, _), (58, _), (57, _), (56, _), (55, _), (54, _), (53, _), (2, _), (8, _), (9, _), (10, _), (11, _)]) rfl ?_
  refine .v (.nilc rfl) rfl ?_
  refine .v (.fa0 fl68_0 rfl) rfl ?_
  refine .st (.stp (vs := [.slice a3 (p :: xt').length c3]) (cs' := (pn.set t ⟨⟨p :: xt', a3, c3, it3⟩, ⟨kt', akt, ckt, ikt⟩⟩).flatMap encN ++ npad) ty22 rfl rfl rfl rfl (by simp [Value.oneCell']) (by have h_ := (List.getElem?_eq_some_iff.1 ht).1; rw [List.length_append, encN_ok.fl]; omega) (encN_ok.put1 (j := 0) ht (by decide) rfl) (.there (.there .here))) ?_
  rw [own_same_p pn t _ ⟨p :: xt', a3, c3, it3⟩]
  obtain ⟨pn5, hpn5⟩ : ∃ x, x = pn.set t ⟨⟨p :: xt', a3, c3, it3⟩, ⟨kt', akt, ckt, ikt⟩⟩ := ⟨_, rfl⟩
  rw [← hpn5]
  have hx5 := set_get' hpn5 ht
  have hy5_i := set_other' hpn5 hti hi
  have hy5_f := set_other' hpn5 htf hf
  replace hok : ∀ n ∈ pn5, n.Ok := by rw [hpn5]; exact set_ok hok ⟨hr3, hkt⟩
  have hnd5 : pn5.map PN.nd = (T.nodes).set t ⟨p :: xt', kt'⟩ := by rw [hpn5, List.map_set, hnd]; rfl
  have hln5 : pn5.length = pn.length := by rw [hpn5, List.length_set]
  have hcp5 : pn5.length ≤ nc := by omega
  have hnp5 : npad.length = (nc - pn5.length) * 2 := by rw [hln5]; exact hnp
  have hpt_5 := hr3
  have hkt_5 := hkt
  refine .nil ?_
  refine .then ?_
  refine .seq ?_
  refine .draw [[], [0], [1], [2], [], [4], [], [6], [7], [8], [], [9, 10], [11], [3, 5, 0, 1, 2, 3, 4, 5, 6, 7, 8, 9, 10, 11, 12], [13, 12, 0, 1, 2, 3, 4, 5, 6, 7, 8, 9, 10, 11, 12]] [] (by kernel_rfl) (by kernel_rfl) rfl (e1 := [(2, _), (8, _), (9, _), (10, _), (11, _)]) (.cons rfl rfl (.cons rfl rfl (.cons rfl rfl (.cons rfl rfl (.cons rfl rfl .nil))))) (fun x hx => by cases hx) rfl ?_
  refine .v (i := 0) [] rfl rfl rfl .nil (.n (.mv rfl)) ?_
  refine .v (i := 1) [(70, _)] rfl rfl rfl (.cons (.head _) rfl rfl .nil) (.n (.nilc rfl)) ?_
  refine .v (i := 2) [(71, _)] rfl rfl rfl (.cons (.head _) rfl rfl .nil) (.n (.fa0 fl68_0 rfl)) ?_
  refine .v (i := 3) [(72, _)] rfl rfl rfl (.cons (.head _) rfl rfl .nil) (.n (.ldb (v := .slice (some ⟨bpi, 0, none⟩) (xi').length (cpi)) ty22 rfl (.there (.there .here)) (encN_ok.get pn5 i _ hy5_i npad 0 _ rfl))) ?_
  refine .v (i := 4) [] rfl rfl rfl .nil (.n (.mv rfl)) ?_
  refine .v (i := 5) [(74, _)] rfl rfl rfl (.cons (.head _) rfl rfl .nil) (.n (.sub rfl rfl (by omega))) ?_
  refine .v (i := 6) [] rfl rfl rfl .nil (.n (.mv rfl)) ?_
  refine .v (i := 7) [(76, _)] rfl rfl rfl (.cons (.head _) rfl rfl .nil) (.n (.nilc rfl)) ?_
  refine .v (i := 8) [(77, _)] rfl rfl rfl (.cons (.head _) rfl rfl .nil) (.n (.fa0 fl68_0 rfl)) ?_
  refine .v (i := 9) [(78, _)] rfl rfl rfl (.cons (.head _) rfl rfl .nil) (.n (.ldb (v := .slice (some ⟨bpf, 0, none⟩) (xf').length (cpf)) ty22 rfl (.there (.there .here)) (encN_ok.get pn5 f _ hy5_f npad 0 _ rfl))) ?_
  refine .v (i := 10) [] rfl rfl rfl .nil (.n (.mv rfl)) ?_
  refine .v (i := 11) [(79, _), (80, _)] rfl rfl rfl (.cons (.tail _ (.head _)) rfl rfl (.cons (.head _) rfl rfl .nil)) (.n (.ixo sl22 rfl rfl (xf'.length - 1) ⟨by omega, by have h_ := (List.getElem?_eq_some_iff.1 huu).1; omega⟩)) ?_
  refine .v (i := 12) [(81, _)] rfl rfl rfl (.cons (.head _) rfl rfl .nil) (.n (.ldm _ ty47 rfl (.there (.there (.there (.there (.part (sub_p hy5_f)))))) rfl (fun j_ v_ hj_ => encP_ok.get xf' (xf'.length - 1) _ huu dpf j_ v_ hj_))) ?_
  refine .tail0 13 [[13, 3, 5, 0, 1, 2, 4, 6, 7, 8, 9, 10, 11, 12], [14, 13, 12, 0, 1, 2, 3, 4, 5, 6, 7, 8, 9, 10, 11]] rfl rfl rfl rfl (e' := [(82, _), (81, _), (80, _), (79, _), (78, _), (77, _), (76, _), (75, _), (74, _), (73, _), (72, _), (71, _), (70, _), (2, _), (8, _), (9, _), (10, _), (11, _)]) rfl ?_
  refine .v (.ixo sl22 rfl rfl (q - 1) ⟨by omega, by have h_ := (List.getElem?_eq_some_iff.1 hpp).1; omega⟩) rfl ?_
  refine .st (.stp (vs := encP u) (cs' := (xi'.set (q - 1) u).flatMap encP ++ dpi) ty47 rfl rfl rfl rfl (encP_ok.one u) (by have h_ := (List.getElem?_eq_some_iff.1 hpp).1; rw [List.length_append, encP_ok.fl]; omega) (by rw [show (q - 1) * 2 + 2 = (q - 1 + 1) * 2 by omega]; exact encP_ok.put xi' dpi (q - 1) (List.getElem?_eq_some_iff.1 hpp).1 u) (.there (.there (.there (.there (upd_p hy5_i _)))))) ?_
  have hrw6 : Row 47 encP 2 (some ⟨bpi, 0, none⟩) cpi (xi'.set (q - 1) u) [⟨bpi, 47, (xi'.set (q - 1) u).flatMap encP ++ dpi⟩] := Row.of dpi rfl (by rw [List.length_set]; exact hdpi) (by rw [List.length_set]; exact hpi.cap) hpi.max
  rw [own_same_p pn5 i _ ⟨xi'.set (q - 1) u, some ⟨bpi, 0, none⟩, cpi, [⟨bpi, 47, (xi'.set (q - 1) u).flatMap encP ++ dpi⟩]⟩]
  rw [← flat_same (m := ⟨⟨xi'.set (q - 1) u, some ⟨bpi, 0, none⟩, cpi, [⟨bpi, 47, (xi'.set (q - 1) u).flatMap encP ++ dpi⟩]⟩, ⟨ki', some ⟨bki, 0, none⟩, cki, [⟨bki, 3, ki'.flatMap encK ++ dki⟩]⟩⟩) hy5_i (by simp [encN])]
  obtain ⟨pn7, hpn7⟩ : ∃ x, x = pn5.set i ⟨⟨xi'.set (q - 1) u, some ⟨bpi, 0, none⟩, cpi, [⟨bpi, 47, (xi'.set (q - 1) u).flatMap encP ++ dpi⟩]⟩, ⟨ki', some ⟨bki, 0, none⟩, cki, [⟨bki, 3, ki'.flatMap encK ++ dki⟩]⟩⟩ := ⟨_, rfl⟩
  rw [← hpn7]
  have hx7 := set_get' hpn7 hy5_i
  have hy7_t_5 := set_other' hpn7 (Ne.symm hti) hx5
  have hy7_f := set_other' hpn7 (Ne.symm hfi) hy5_f
  replace hok : ∀ n ∈ pn7, n.Ok := by rw [hpn7]; exact set_ok hok ⟨hrw6, hki⟩
  have hnd7 : pn7.map PN.nd = ((T.nodes).set t ⟨p :: xt', kt'⟩).set i ⟨xi'.set (q - 1) u, ki'⟩ := by rw [hpn7, List.map_set, hnd5]; rfl
  have hln7 : pn7.length = pn5.length := by rw [hpn7, List.length_set]
  have hcp7 : pn7.length ≤ nc := by omega
  have hnp7 : npad.length = (nc - pn7.length) * 2 := by rw [hln7]; exact hnp5
  have hpi_7 := hrw6
  have hki_7 := hki
  refine .nil ?_
  refine .then ?_
  refine .seq ?_
  refine .region ?_
  refine .v (.mv rfl) rfl ?_
  refine .v (.mv rfl) rfl ?_
  refine .v (.nilc rfl) rfl ?_
  refine .v (.fa0 fl68_0 rfl) rfl ?_
  refine .v (.ldb (v := .slice (some ⟨bpf, 0, none⟩) (xf').length (cpf)) ty22 rfl (.there (.there .here)) (encN_ok.get pn7 f _ hy7_f npad 0 _ rfl)) rfl ?_
  refine .v (.mv rfl) rfl ?_
  refine .v ((.stl xf' (xf'.length - 1) sl22 rfl rfl ⟨by omega, by omega, hpf.cap⟩)) rfl ?_
  refine .v (.nilc rfl) rfl ?_
  refine .v (.fa0 fl68_0 rfl) rfl ?_
  refine .st (.stp (vs := [.slice (some ⟨bpf, 0, none⟩) (xf'.take (xf'.length - 1)).length cpf]) (cs' := (pn7.set f ⟨⟨xf'.take (xf'.length - 1), some ⟨bpf, 0, none⟩, cpf, [⟨bpf, 47, xf'.flatMap encP ++ dpf⟩]⟩, ⟨kf', akf, ckf, ikf⟩⟩).flatMap encN ++ npad) ty22 rfl rfl rfl rfl (by simp [Value.oneCell']) (by have h_ := (List.getElem?_eq_some_iff.1 hy7_f).1; rw [List.length_append, encN_ok.fl]; omega) (encN_ok.put1 (j := 0) hy7_f (by decide) rfl) (.there (.there .here))) ?_
  have hrw8 := hpf.shrink encP_ok (k := xf'.length - 1) (by omega)
  rw [← own_keep (m := ⟨⟨xf'.take (xf'.length - 1), some ⟨bpf, 0, none⟩, cpf, [⟨bpf, 47, xf'.flatMap encP ++ dpf⟩]⟩, ⟨kf', akf, ckf, ikf⟩⟩) hy7_f rfl]
  obtain ⟨pn9, hpn9⟩ : ∃ x, x = pn7.set f ⟨⟨xf'.take (xf'.length - 1), some ⟨bpf, 0, none⟩, cpf, [⟨bpf, 47, xf'.flatMap encP ++ dpf⟩]⟩, ⟨kf', akf, ckf, ikf⟩⟩ := ⟨_, rfl⟩
  rw [← hpn9]
  have hx9 := set_get' hpn9 hy7_f
  have hy9_i_7 := set_other' hpn9 hfi hx7
  have hy9_t_5 := set_other' hpn9 (Ne.symm htf) hy7_t_5
  replace hok : ∀ n ∈ pn9, n.Ok := by rw [hpn9]; exact set_ok hok ⟨hrw8, hkf⟩
  have hnd9 : pn9.map PN.nd = (((T.nodes).set t ⟨p :: xt', kt'⟩).set i ⟨xi'.set (q - 1) u, ki'⟩).set f ⟨xf'.take (xf'.length - 1), kf'⟩ := by rw [hpn9, List.map_set, hnd7]; rfl
  have hln9 : pn9.length = pn7.length := by rw [hpn9, List.length_set]
  have hcp9 : pn9.length ≤ nc := by omega
  have hnp9 : npad.length = (nc - pn9.length) * 2 := by rw [hln9]; exact hnp7
  have hpf_9 := hrw8
  have hkf_9 := hkf
  refine .nil ?_
  refine .then ?_
  refine .seq ?_
  refine .seq ?_
  refine .region ?_
  refine .v (.mv rfl) rfl ?_
  refine .v (.nilc rfl) rfl ?_
  refine .v (.fae fl68_1 rfl) rfl ?_
  refine .v (.ldb (v := .slice (akf) (kf').length (ckf)) ty58 rfl (.there (.there .here)) (encN_ok.get pn9 f _ hx9 npad 1 _ rfl)) rfl ?_
  refine .v (.lenl Try.underlying58 rfl) rfl ?_
  refine .v (.sub rfl rfl (by omega)) rfl ?_
  refine .v (.asn rfl) rfl ?_
  refine .nil ?_
  refine .then ?_
  refine .seq ?_
  refine .region ?_
  refine .v (.mv rfl) rfl ?_
  refine .vs (.ge rfl rfl) rfl (fun h100_10 => ?_) (fun h100_10 => ?_)
  · skip
    have hkf0 : 0 < kf'.length := by have h_ := h100_10; omega
    obtain ⟨bkf, dkf, rfl, rfl, hdkf⟩ := hkf.blk (by omega)
    obtain ⟨z, hz⟩ : ∃ y, kf'[kf'.length - 1]? = some y := ⟨_, List.getElem?_eq_getElem (by omega)⟩
    have hdz : kf'.drop (kf'.length - 1) = [z] := by rw [drop_one hz (by omega)]
    refine .nil ?_
    refine .then ?_
    refine .condT rfl ?_
    refine .seq ?_
    refine .draw [[], [], [1], [2], [3], [], [5], [6], [7], [], [8, 9], [10], [11], [4, 12], [0, 0, 1, 2, 3, 4, 5, 6, 7, 8, 9, 10, 11, 12, 13], [14, 0, 1, 2, 3, 4, 5, 6, 7, 8, 9, 10, 11, 12, 13], [15, 13, 13, 0, 1, 2, 3, 4, 5, 6, 7, 8, 9, 10, 11, 12, 13]] [] (by kernel_rfl) (by kernel_rfl) rfl (e1 := [(2, _), (8, _), (9, _), (10, _), (12, _)]) (.cons rfl rfl (.cons rfl rfl (.cons rfl rfl (.cons rfl rfl (.cons rfl rfl .nil))))) (fun x hx => by cases hx) rfl ?_
    refine .v (i := 0) [] rfl rfl rfl .nil (.n (.mv rfl)) ?_
    refine .v (i := 1) [] rfl rfl rfl .nil (.n (.mv rfl)) ?_
    refine .v (i := 2) [(102, _)] rfl rfl rfl (.cons (.head _) rfl rfl .nil) (.n (.nilc rfl)) ?_
    refine .v (i := 3) [(103, _)] rfl rfl rfl (.cons (.head _) rfl rfl .nil) (.n (.fae fl68_1 rfl)) ?_
    refine .v (i := 4) [(104, _)] rfl rfl rfl (.cons (.head _) rfl rfl .nil) (.n (.ldb (v := .slice (akt) (kt').length (ckt)) ty58 rfl (.there (.there .here)) (encN_ok.get pn9 t _ hy9_t_5 npad 1 _ rfl))) ?_
    refine .v (i := 5) [] rfl rfl rfl .nil (.n (.mv rfl)) ?_
    refine .v (i := 6) [(106, _)] rfl rfl rfl (.cons (.head _) rfl rfl .nil) (.n (.nilc rfl)) ?_
    refine .v (i := 7) [(107, _)] rfl rfl rfl (.cons (.head _) rfl rfl .nil) (.n (.fae fl68_1 rfl)) ?_
    refine .v (i := 8) [(108, _)] rfl rfl rfl (.cons (.head _) rfl rfl .nil) (.n (.ldb (v := .slice (some ⟨bkf, 0, none⟩) (kf').length (ckf)) ty58 rfl (.there (.there .here)) (encN_ok.get pn9 f _ hx9 npad 1 _ rfl))) ?_
    refine .v (i := 9) [] rfl rfl rfl .nil (.n (.mv rfl)) ?_
    refine .v (i := 10) [(109, _), (110, _)] rfl rfl rfl (.cons (.tail _ (.head _)) rfl rfl (.cons (.head _) rfl rfl .nil)) (.n (.ixo sl58 rfl rfl (kf'.length - 1) ⟨by omega, by have h_ := (List.getElem?_eq_some_iff.1 hz).1; omega⟩)) ?_
    refine .v (i := 11) [(111, _)] rfl rfl rfl (.cons (.head _) rfl rfl .nil) (.n (.ldb ty3 rfl (.there (.there (.there (.there (.part (sub_k hx9)))))) (encK_ok.get kf' (kf'.length - 1) _ hz dkf 0 _ rfl))) ?_
    refine .e (i := 12) [(112, _)] [12, 11, 10, 8, 9, 7, 6, 5] rfl rfl rfl (.cons (.head _) rfl rfl .nil) rfl rfl rfl .n (.lit1 sl58 ty3 rfl rfl rfl rfl rfl) ?_
    rintro _ _ Gs12 _ ⟨b11, rfl, rfl, hGs_⟩
    subst Gs12
    refine ⟨.skip rfl (.skip rfl (.skip rfl (.skip rfl (.skip rfl (.skip rfl (.skip rfl (.again [(104, _)] rfl (.cons (.tail _ (.tail _ (.tail _ (.tail _ (.tail _ (.tail _ (.tail _ (.tail _ (.head _))))))))) rfl rfl .nil) (.n (.ldb (v := .slice (akt) (kt').length (ckt)) ty58 rfl (.there (.there (.there .here))) (encN_ok.get pn9 t _ hy9_t_5 npad 1 _ rfl))) (.again [(103, _)] rfl (.cons (.tail _ (.tail _ (.tail _ (.tail _ (.tail _ (.tail _ (.tail _ (.tail _ (.tail _ (.head _)))))))))) rfl rfl .nil) (.n (.fae fl68_1 rfl)) (.again [(102, _)] rfl (.cons (.tail _ (.tail _ (.tail _ (.tail _ (.tail _ (.tail _ (.tail _ (.tail _ (.tail _ (.tail _ (.head _))))))))))) rfl rfl .nil) (.n (.nilc rfl)) (.again [] rfl .nil (.n (.mv rfl)) (.again [] rfl .nil (.n (.mv rfl)) .nil))))))))))), rfl, ?_⟩
    refine .e (i := 13) [(105, _), (113, _)] [13, 4, 12, 3, 11, 2, 10, 1, 8, 9, 7, 6, 5] rfl rfl rfl (.cons (.tail _ (.tail _ (.tail _ (.tail _ (.tail _ (.tail _ (.tail _ (.tail _ (.head _))))))))) rfl rfl (.cons (.head _) rfl rfl .nil)) rfl rfl rfl .n (.lend rfl rfl (Try.call43 _) _ (fun _ => (.there (.there (.there (.there (.there (upd_k hy9_t_5 _))))))) (fun G hle hG => (insert_K kt' (z) (0) _ _ _ b11 G hkt_5 (hG ⟨b11, 3, _⟩ (Inn.ob .here)) (by omega) (by omega)).mono (fun v M H _ ⟨it, h1, _, h2⟩ => ⟨it, h1, h2⟩))) ?_
    rintro _ _ Gs14 _ ⟨it13, rfl, hGs_, ⟨a13, c13, rfl, hr13⟩⟩
    subst Gs14
    refine ⟨.skip rfl (.skip rfl (.skip rfl (.skip rfl (.skip rfl (.skip rfl (.skip rfl (.skip rfl (.skip rfl (.skip rfl (.skip rfl (.skip rfl (.again [] rfl .nil (.n (.mv rfl)) .nil)))))))))))), rfl, ?_⟩
    refine .tail0 14 [[14, 0, 1, 2, 3, 4, 5, 6, 7, 8, 9, 10, 11, 12, 13], [15, 14, 0, 1, 2, 3, 4, 5, 6, 7, 8, 9, 10, 11, 12, 13], [16, 15, 13, 0, 1, 2, 3, 4, 5, 6, 7, 8, 9, 10, 11, 12, 14]] rfl rfl rfl rfl (e' := [(114, _), (113, _), (112, _), (111, _), (110, _), (109, _), (108, _), (107, _), (106, _), (105, _), (104, _), (103, _), (102, _), (101, _), (2, _), (8, _), (9, _), (10, _), (12, _)]) rfl ?_
    refine .v (.nilc rfl) rfl ?_
    refine .v (.fae fl68_1 rfl) rfl ?_
    refine .st (.stp (vs := [.slice a13 (z :: kt').length c13]) (cs' := (pn9.set t ⟨⟨p :: xt', a3, c3, it3⟩, ⟨z :: kt', a13, c13, it13⟩⟩).flatMap encN ++ npad) ty58 rfl rfl rfl rfl (by simp [Value.oneCell']) (by have h_ := (List.getElem?_eq_some_iff.1 hy9_t_5).1; rw [List.length_append, encN_ok.fl]; omega) (encN_ok.put1 (j := 1) hy9_t_5 (by decide) rfl) (.there (.there (.there .here)))) ?_
    rw [own_same_k pn9 t _ ⟨z :: kt', a13, c13, it13⟩]
    obtain ⟨pn15, hpn15⟩ : ∃ x, x = pn9.set t ⟨⟨p :: xt', a3, c3, it3⟩, ⟨z :: kt', a13, c13, it13⟩⟩ := ⟨_, rfl⟩
    rw [← hpn15]
    have hx15 := set_get' hpn15 hy9_t_5
    have hy15_i_7 := set_other' hpn15 hti hy9_i_7
    have hy15_f_9 := set_other' hpn15 htf hx9
    replace hok : ∀ n ∈ pn15, n.Ok := by rw [hpn15]; exact set_ok hok ⟨hpt_5, hr13⟩
    have hnd15 : pn15.map PN.nd = ((((T.nodes).set t ⟨p :: xt', kt'⟩).set i ⟨xi'.set (q - 1) u, ki'⟩).set f ⟨xf'.take (xf'.length - 1), kf'⟩).set t ⟨(p :: xt'), z :: kt'⟩ := by rw [hpn15, List.map_set, hnd9]; rfl
    have hln15 : pn15.length = pn9.length := by rw [hpn15, List.length_set]
    have hcp15 : pn15.length ≤ nc := by omega
    have hnp15 : npad.length = (nc - pn15.length) * 2 := by rw [hln15]; exact hnp9
    have hkt_5_15 := hr13
    have hpt_5_15 := hpt_5
    refine .nil ?_
    refine .then ?_
    refine .region ?_
    refine .v (.mv rfl) rfl ?_
    refine .v (.mv rfl) rfl ?_
    refine .v (.nilc rfl) rfl ?_
    refine .v (.fae fl68_1 rfl) rfl ?_
    refine .v (.ldb (v := .slice (some ⟨bkf, 0, none⟩) (kf').length (ckf)) ty58 rfl (.there (.there (.there .here))) (encN_ok.get pn15 f _ hy15_f_9 npad 1 _ rfl)) rfl ?_
    refine .v (.mv rfl) rfl ?_
    refine .v ((.stl kf' (kf'.length - 1) sl58 rfl rfl ⟨by omega, by omega, hkf.cap⟩)) rfl ?_
    refine .v (.nilc rfl) rfl ?_
    refine .v (.fae fl68_1 rfl) rfl ?_
    refine .st (.stp (vs := [.slice (some ⟨bkf, 0, none⟩) (kf'.take (kf'.length - 1)).length ckf]) (cs' := (pn15.set f ⟨⟨xf'.take (xf'.length - 1), some ⟨bpf, 0, none⟩, cpf, [⟨bpf, 47, xf'.flatMap encP ++ dpf⟩]⟩, ⟨kf'.take (kf'.length - 1), some ⟨bkf, 0, none⟩, ckf, [⟨bkf, 3, kf'.flatMap encK ++ dkf⟩]⟩⟩).flatMap encN ++ npad) ty58 rfl rfl rfl rfl (by simp [Value.oneCell']) (by have h_ := (List.getElem?_eq_some_iff.1 hy15_f_9).1; rw [List.length_append, encN_ok.fl]; omega) (encN_ok.put1 (j := 1) hy15_f_9 (by decide) rfl) (.there (.there (.there .here)))) ?_
    have hrw16 := hkf_9.shrink encK_ok (k := kf'.length - 1) (by omega)
    rw [← own_keep (m := ⟨⟨xf'.take (xf'.length - 1), some ⟨bpf, 0, none⟩, cpf, [⟨bpf, 47, xf'.flatMap encP ++ dpf⟩]⟩, ⟨kf'.take (kf'.length - 1), some ⟨bkf, 0, none⟩, ckf, [⟨bkf, 3, kf'.flatMap encK ++ dkf⟩]⟩⟩) hy15_f_9 rfl]
    obtain ⟨pn17, hpn17⟩ : ∃ x, x = pn15.set f ⟨⟨xf'.take (xf'.length - 1), some ⟨bpf, 0, none⟩, cpf, [⟨bpf, 47, xf'.flatMap encP ++ dpf⟩]⟩, ⟨kf'.take (kf'.length - 1), some ⟨bkf, 0, none⟩, ckf, [⟨bkf, 3, kf'.flatMap encK ++ dkf⟩]⟩⟩ := ⟨_, rfl⟩
    rw [← hpn17]
    have hx17 := set_get' hpn17 hy15_f_9
    have hy17_i_7 := set_other' hpn17 hfi hy15_i_7
    have hy17_t_5_15 := set_other' hpn17 (Ne.symm htf) hx15
    replace hok : ∀ n ∈ pn17, n.Ok := by rw [hpn17]; exact set_ok hok ⟨hpf_9, hrw16⟩
    have hnd17 : pn17.map PN.nd = (((((T.nodes).set t ⟨p :: xt', kt'⟩).set i ⟨xi'.set (q - 1) u, ki'⟩).set f ⟨xf'.take (xf'.length - 1), kf'⟩).set t ⟨(p :: xt'), z :: kt'⟩).set f ⟨(xf'.take (xf'.length - 1)), kf'.take (kf'.length - 1)⟩ := by rw [hpn17, List.map_set, hnd15]; rfl
    have hln17 : pn17.length = pn15.length := by rw [hpn17, List.length_set]
    have hcp17 : pn17.length ≤ nc := by omega
    have hnp17 : npad.length = (nc - pn17.length) * 2 := by rw [hln17]; exact hnp15
    have hkf_9_17 := hrw16
    have hpf_9_17 := hpf_9
    refine .nil ?_
    refine .then ?_
    refine .ret ?_
    refine .then_ret ?_
    refine .front (.there (.there (.there (.there (.there .here))))) ?_
    refine .front (.there (.there (.there (.there (.there .here))))) ?_
    refine .front (.there (.there (.there (.there (.there .here))))) ?_
    refine .front (.there (.there (.there (.there (.there .here))))) ?_
    have hv : lendL T i q t f ⟨xi', ki'⟩ ⟨xt', kt'⟩ ⟨xf', kf'⟩ p u = ⟨(((((T.nodes).set t ⟨p :: xt', kt'⟩).set i ⟨xi'.set (q - 1) u, ki'⟩).set f ⟨xf'.take (xf'.length - 1), kf'⟩).set t ⟨(p :: xt'), z :: kt'⟩).set f ⟨(xf'.take (xf'.length - 1)), kf'.take (kf'.length - 1)⟩, T.free, T.root, T.count⟩ := by
      unfold lendL TS.setN
      dsimp only
      rw [if_neg (by omega), hdz, sets5 T.nodes hti hfi htf]; first | done | rfl
    rw [hv]
    exact .done _ [_] (.t0 rfl) .rfl ⟨_, rfl, rfl, ⟨pn17, some ⟨nb, 0, none⟩, nc, _, fa, fc, fit, ⟨Row.of npad rfl hnp17 hcp17 hmx, hrf, hok, hnd17, by rw [hln17, hln15, hln9, hln7, hln5]; first | done | rfl⟩⟩⟩ (fun w ho => by simpa [List.append_assoc] using (subl (.cons_cons _ (.cons_cons _ (.cons_cons _ (.cons_cons _ (.cons _ (.cons _ (.cons_cons _ .slnil))))))) w ho))
  · skip
    have hkf0 : kf'.length = 0 := by have h_ := h100_10; omega
    refine .nil ?_
    refine .then ?_
    refine .condF rfl ?_
    refine .skip ?_
    refine .then ?_
    refine .ret ?_
    refine .then_ret ?_
    refine .front (.there (.there (.there (.there .here)))) ?_
    refine .front (.there (.there (.there (.there .here)))) ?_
    refine .front (.there (.there (.there (.there .here)))) ?_
    refine .front (.there (.there (.there (.there .here)))) ?_
    have hv : lendL T i q t f ⟨xi', ki'⟩ ⟨xt', kt'⟩ ⟨xf', kf'⟩ p u = ⟨(((T.nodes).set t ⟨p :: xt', kt'⟩).set i ⟨xi'.set (q - 1) u, ki'⟩).set f ⟨xf'.take (xf'.length - 1), kf'⟩, T.free, T.root, T.count⟩ := by
      unfold lendL TS.setN
      dsimp only
      rw [if_pos hkf0, show kf'.take (kf'.length - 1) = kf' from by rw [List.eq_nil_of_length_eq_zero hkf0]; rfl]; first | done | rfl
    rw [hv]
    exact .done _ [_] (.t0 rfl) .rfl ⟨_, rfl, rfl, ⟨pn9, some ⟨nb, 0, none⟩, nc, _, fa, fc, fit, ⟨Row.of npad rfl hnp9 hcp9 hmx, hrf, hok, hnd9, by rw [hln9, hln7, hln5]; first | done | rfl⟩⟩⟩ (fun w ho => by simpa [List.append_assoc] using (subl (.cons_cons _ (.cons_cons _ (.cons_cons _ (.cons_cons _ (.cons _ (.cons_cons _ .slnil)))))) w ho))
theorem lendR_fn (b : Nat) (T : TS) (it : Itm) (F : Mem) (hT : Lies b T it) (i q t f : Nat) (xi : List Pr) (ki : List Nat) (xt : List Pr) (kt : List Nat) (xf : List Pr) (kf : List Nat) (p u : Pr) (hqf : ki[q + 1]? = some f) (hp : xi[q]? = some p) (hu : xf[0]? = some u) (hni : T.nodes[i]? = some ⟨xi, ki⟩) (hqt : ki[q]? = some t) (hnt : T.nodes[t]? = some ⟨xt, kt⟩) (hnf : T.nodes[f]? = some ⟨xf, kf⟩) (hti : t ≠ i) (hfi : f ≠ i) (htf : t ≠ f) (hxil : xi.length ≤ 1000) (hkil : ki.length ≤ 1000) (hxtl : xt.length ≤ 1000) (hktl : kt.length ≤ 1000) (hxfl : xf.length ≤ 1000) (hkfl : kf.length ≤ 1000) : Fn Try.prog 58 #[.pointer (some ⟨b, 0, none⟩), .int .i64 (i : Int), .int .i64 (q : Int), .int .i64 1] [it] F (fun v M G => ∃ it', M = [it'] ∧ G = F ∧ Lies b (lendR T i q t f ⟨xi, ki⟩ ⟨xt, kt⟩ ⟨xf, kf⟩ p u) it') := by
  have hqk := (List.getElem?_eq_some_iff.1 hqt).1
  have hqx := (List.getElem?_eq_some_iff.1 hp).1
  have hux := (List.getElem?_eq_some_iff.1 hu).1
  have hib := (List.getElem?_eq_some_iff.1 hni).1
  obtain ⟨pn, na, nc, nit, fa, fc, fit, hP⟩ := hT
  obtain ⟨hrn, hrf, hok, hnd, rfl⟩ := hP
  have hln : pn.length = T.nodes.length := by rw [← hnd, List.length_map]
  have hmx := hrn.max
  have hcp := hrn.cap
  have hfm := hrf.max
  have hfcp := hrf.cap
  obtain ⟨nb, npad, rfl, rfl, hnp⟩ := hrn.blk (by omega)
  obtain ⟨ni, hi, ei⟩ := nd_get hnd hni
  have hoi := get_ok hok hi
  obtain ⟨⟨xi', api, cpi, ipi⟩, ⟨ki', aki, cki, iki⟩⟩ := ni
  obtain ⟨rfl, rfl⟩ : xi' = xi ∧ ki' = ki := by simpa [PN.nd] using ei
  have hpi : Row 47 encP 2 api cpi xi' ipi := hoi.p
  have hki : Row 3 encK 1 aki cki ki' iki := hoi.k
  obtain ⟨bpi, dpi, rfl, rfl, hdpi⟩ := hpi.blk (by omega)
  obtain ⟨bki, dki, rfl, rfl, hdki⟩ := hki.blk (by omega)
  obtain ⟨nt, ht, et⟩ := nd_get hnd hnt
  have hot := get_ok hok ht
  obtain ⟨⟨xt', apt, cpt, ipt⟩, ⟨kt', akt, ckt, ikt⟩⟩ := nt
  obtain ⟨rfl, rfl⟩ : xt' = xt ∧ kt' = kt := by simpa [PN.nd] using et
  have hpt : Row 47 encP 2 apt cpt xt' ipt := hot.p
  have hkt : Row 3 encK 1 akt ckt kt' ikt := hot.k
  obtain ⟨nf, hf, ef⟩ := nd_get hnd hnf
  have hof := get_ok hok hf
  obtain ⟨⟨xf', apf, cpf, ipf⟩, ⟨kf', akf, ckf, ikf⟩⟩ := nf
  obtain ⟨rfl, rfl⟩ : xf' = xf ∧ kf' = kf := by simpa [PN.nd] using ef
  have hpf : Row 47 encP 2 apf cpf xf' ipf := hof.p
  have hkf : Row 3 encK 1 akf ckf kf' ikf := hof.k
  obtain ⟨bpf, dpf, rfl, rfl, hdpf⟩ := hpf.blk (by omega)
  have hpp : xi'[q]? = some p := hp
  have huu : xf'[0]? = some u := hu
  have hqt' : ki'[q]? = some t := hqt
  have hqf' : ki'[q + 1]? = some f := hqf
  refine Fn.start1 Try.func58 rfl Try.ntmps58 rfl (env := [(0, _), (1, _), (2, _), (3, _)]) rfl ?_
  intro R
  refine .items (L' := [[⟨b, 60, _⟩], [⟨nb, 68, _⟩], fit, own pn, R]) (fun w ho => by simpa [List.append_assoc] using ho) ?_
  refine .seq ?_
  refine .region ?_
  refine .v (.mv rfl) rfl ?_
  refine .v (.nilc rfl) rfl ?_
  refine .v (.fa0 fl60_0 rfl) rfl ?_
  refine .v (.ldb ty57 rfl .here rfl) rfl ?_
  refine .v (.mv rfl) rfl ?_
  refine .v (.ixo sl57 rfl rfl (i) ⟨rfl, by have h_ := (List.getElem?_eq_some_iff.1 hi).1; omega⟩) rfl ?_
  refine .v (.asn rfl) rfl ?_
  refine .nil ?_
  refine .then ?_
  refine .seq ?_
  refine .draw [[], [0], [1], [2], [], [4], [5], [6], [], [7, 8], [9], [3, 10], [], [12], [13], [14], [], [16], [17], [18], [], [], [20, 21], [19, 22], [23], [15, 24], [11, 0, 1, 2, 3, 4, 5, 6, 7, 8, 9, 10, 11], [25, 26, 0, 1, 2, 3, 4, 5, 6, 7, 8, 9, 10, 11, 12, 13, 14, 15, 16, 17, 18, 19, 20, 21, 22, 23, 24, 25, 26]] [] (by kernel_rfl) (by kernel_rfl) rfl (e1 := [(0, _), (2, _), (3, _), (8, _)]) (.cons rfl rfl (.cons rfl rfl (.cons rfl rfl (.cons rfl rfl .nil)))) (fun x hx => by cases hx) rfl ?_
  refine .v (i := 0) [] rfl rfl rfl .nil (.n (.mv rfl)) ?_
  refine .v (i := 1) [(19, _)] rfl rfl rfl (.cons (.head _) rfl rfl .nil) (.n (.nilc rfl)) ?_
  refine .v (i := 2) [(20, _)] rfl rfl rfl (.cons (.head _) rfl rfl .nil) (.n (.fa0 fl60_0 rfl)) ?_
  refine .v (i := 3) [(21, _)] rfl rfl rfl (.cons (.head _) rfl rfl .nil) (.n (.ldb ty57 rfl .here rfl)) ?_
  refine .v (i := 4) [] rfl rfl rfl .nil (.n (.mv rfl)) ?_
  refine .v (i := 5) [(23, _)] rfl rfl rfl (.cons (.head _) rfl rfl .nil) (.n (.nilc rfl)) ?_
  refine .v (i := 6) [(24, _)] rfl rfl rfl (.cons (.head _) rfl rfl .nil) (.n (.fae fl68_1 rfl)) ?_
  refine .v (i := 7) [(25, _)] rfl rfl rfl (.cons (.head _) rfl rfl .nil) (.n (.ldb (v := .slice (some ⟨bki, 0, none⟩) (ki').length (cki)) ty58 rfl (.there .here) (encN_ok.get pn i _ hi npad 1 _ rfl))) ?_
  refine .v (i := 8) [] rfl rfl rfl .nil (.n (.mv rfl)) ?_
  refine .v (i := 9) [(26, _), (27, _)] rfl rfl rfl (.cons (.tail _ (.head _)) rfl rfl (.cons (.head _) rfl rfl .nil)) (.n (.ixo sl58 rfl rfl (q) ⟨rfl, by have h_ := (List.getElem?_eq_some_iff.1 hqt').1; omega⟩)) ?_
  refine .v (i := 10) [(28, _)] rfl rfl rfl (.cons (.head _) rfl rfl .nil) (.n (.ldb ty3 rfl (.there (.there (.there (.part (sub_k hi))))) (encK_ok.get ki' (q) _ hqt' dki 0 _ rfl))) ?_
  refine .v (i := 11) [(22, _), (29, _)] rfl rfl rfl (.cons (.tail _ (.tail _ (.tail _ (.tail _ (.tail _ (.tail _ (.tail _ (.head _)))))))) rfl rfl (.cons (.head _) rfl rfl .nil)) (.n (.ixo sl57 rfl rfl (t) ⟨rfl, by have h_ := (List.getElem?_eq_some_iff.1 ht).1; omega⟩)) ?_
  refine .v (i := 12) [] rfl rfl rfl .nil (.n (.mv rfl)) ?_
  refine .v (i := 13) [(31, _)] rfl rfl rfl (.cons (.head _) rfl rfl .nil) (.n (.nilc rfl)) ?_
  refine .v (i := 14) [(32, _)] rfl rfl rfl (.cons (.head _) rfl rfl .nil) (.n (.fa0 fl60_0 rfl)) ?_
  refine .v (i := 15) [(33, _)] rfl rfl rfl (.cons (.head _) rfl rfl .nil) (.n (.ldb ty57 rfl .here rfl)) ?_
  refine .v (i := 16) [] rfl rfl rfl .nil (.n (.mv rfl)) ?_
  refine .v (i := 17) [(35, _)] rfl rfl rfl (.cons (.head _) rfl rfl .nil) (.n (.nilc rfl)) ?_
  refine .v (i := 18) [(36, _)] rfl rfl rfl (.cons (.head _) rfl rfl .nil) (.n (.fae fl68_1 rfl)) ?_
  refine .v (i := 19) [(37, _)] rfl rfl rfl (.cons (.head _) rfl rfl .nil) (.n (.ldb (v := .slice (some ⟨bki, 0, none⟩) (ki').length (cki)) ty58 rfl (.there .here) (encN_ok.get pn i _ hi npad 1 _ rfl))) ?_
  refine .v (i := 20) [] rfl rfl rfl .nil (.n (.mv rfl)) ?_
  refine .v (i := 21) [] rfl rfl rfl .nil (.n (.mv rfl)) ?_
  refine .v (i := 22) [(39, _), (40, _)] rfl rfl rfl (.cons (.tail _ (.head _)) rfl rfl (.cons (.head _) rfl rfl .nil)) (.n (.add rfl rfl (by omega))) ?_
  refine .v (i := 23) [(38, _), (41, _)] rfl rfl rfl (.cons (.tail _ (.tail _ (.tail _ (.head _)))) rfl rfl (.cons (.head _) rfl rfl .nil)) (.n (.ixo sl58 rfl rfl (q + 1) ⟨by omega, by have h_ := (List.getElem?_eq_some_iff.1 hqf').1; omega⟩)) ?_
  refine .v (i := 24) [(42, _)] rfl rfl rfl (.cons (.head _) rfl rfl .nil) (.n (.ldb ty3 rfl (.there (.there (.there (.part (sub_k hi))))) (encK_ok.get ki' (q + 1) _ hqf' dki 0 _ rfl))) ?_
  refine .v (i := 25) [(34, _), (43, _)] rfl rfl rfl (.cons (.tail _ (.tail _ (.tail _ (.tail _ (.tail _ (.tail _ (.tail _ (.tail _ (.tail _ (.head _)))))))))) rfl rfl (.cons (.head _) rfl rfl .nil)) (.n (.ixo sl57 rfl rfl (f) ⟨rfl, by have h_ := (List.getElem?_eq_some_iff.1 hf).1; omega⟩)) ?_
  refine .v (i := 26) [(30, _)] rfl rfl rfl (.cons (.tail _ (.tail _ (.tail _ (.tail _ (.tail _ (.tail _ (.tail _ (.tail _ (.tail _ (.tail _ (.tail _ (.tail _ (.tail _ (.tail _ (.head _))))))))))))))) rfl rfl .nil) (.n (.asn rfl)) ?_
  refine .tail0 27 [[27, 25, 26, 0, 1, 2, 3, 4, 5, 6, 7, 8, 9, 10, 11, 12, 13, 14, 15, 16, 17, 18, 19, 20, 21, 22, 23, 24]] rfl rfl rfl rfl (e' := [(9, _), (44, _), (43, _), (42, _), (41, _), (40, _), (39, _), (38, _), (37, _), (36, _), (35, _), (34, _), (33, _), (32, _), (31, _), (30, _), (29, _), (28, _), (27, _), (26, _), (25, _), (24, _), (23, _), (22, _), (21, _), (20, _), (19, _), (0, _), (2, _), (3, _), (8, _)]) rfl ?_
  refine .v (.asn rfl) rfl ?_
  refine .nil ?_
  refine .then ?_
  refine .seq ?_
  refine .seq ?_
  refine .region ?_
  refine .v (.mv rfl) rfl ?_
  refine .vF (.lt rfl rfl) rfl (by decide) ?_
  refine .nil ?_
  refine .then ?_
  refine .condF rfl ?_
  refine .skip ?_
  refine .then ?_
  refine .seq ?_
  refine .draw [[], [], [1], [2], [3], [], [5], [6], [7], [], [8, 9], [10], [11], [4, 12], [0, 0, 1, 2, 3, 4, 5, 6, 7, 8, 9, 10, 11, 12, 13], [14, 0, 1, 2, 3, 4, 5, 6, 7, 8, 9, 10, 11, 12, 13], [15, 13, 13, 0, 1, 2, 3, 4, 5, 6, 7, 8, 9, 10, 11, 12, 13]] [] (by kernel_rfl) (by kernel_rfl) rfl (e1 := [(2, _), (8, _), (9, _), (10, _)]) (.cons rfl rfl (.cons rfl rfl (.cons rfl rfl (.cons rfl rfl .nil)))) (fun x hx => by cases hx) rfl ?_
  refine .v (i := 0) [] rfl rfl rfl .nil (.n (.mv rfl)) ?_
  refine .v (i := 1) [] rfl rfl rfl .nil (.n (.mv rfl)) ?_
  refine .v (i := 2) [(127, _)] rfl rfl rfl (.cons (.head _) rfl rfl .nil) (.n (.nilc rfl)) ?_
  refine .v (i := 3) [(128, _)] rfl rfl rfl (.cons (.head _) rfl rfl .nil) (.n (.fa0 fl68_0 rfl)) ?_
  refine .v (i := 4) [(129, _)] rfl rfl rfl (.cons (.head _) rfl rfl .nil) (.n (.ldb (v := .slice (apt) (xt').length (cpt)) ty22 rfl (.there .here) (encN_ok.get pn t _ ht npad 0 _ rfl))) ?_
  refine .v (i := 5) [] rfl rfl rfl .nil (.n (.mv rfl)) ?_
  refine .v (i := 6) [(131, _)] rfl rfl rfl (.cons (.head _) rfl rfl .nil) (.n (.nilc rfl)) ?_
  refine .v (i := 7) [(132, _)] rfl rfl rfl (.cons (.head _) rfl rfl .nil) (.n (.fa0 fl68_0 rfl)) ?_
  refine .v (i := 8) [(133, _)] rfl rfl rfl (.cons (.head _) rfl rfl .nil) (.n (.ldb (v := .slice (some ⟨bpi, 0, none⟩) (xi').length (cpi)) ty22 rfl (.there .here) (encN_ok.get pn i _ hi npad 0 _ rfl))) ?_
  refine .v (i := 9) [] rfl rfl rfl .nil (.n (.mv rfl)) ?_
  refine .v (i := 10) [(134, _), (135, _)] rfl rfl rfl (.cons (.tail _ (.head _)) rfl rfl (.cons (.head _) rfl rfl .nil)) (.n (.ixo sl22 rfl rfl (q) ⟨rfl, by have h_ := (List.getElem?_eq_some_iff.1 hpp).1; omega⟩)) ?_
  refine .v (i := 11) [(136, _)] rfl rfl rfl (.cons (.head _) rfl rfl .nil) (.n (.ldm _ ty47 rfl (.there (.there (.there (.part (sub_p hi))))) rfl (fun j_ v_ hj_ => encP_ok.get xi' (q) _ hpp dpi j_ v_ hj_))) ?_
  refine .e (i := 12) [(137, _)] [12, 11, 10, 8, 9, 7, 6, 5] rfl rfl rfl (.cons (.head _) rfl rfl .nil) rfl rfl rfl .n (.lit1 sl22 ty47 rfl rfl rfl rfl rfl) ?_
  rintro _ _ Gs2 _ ⟨b1, rfl, rfl, hGs_⟩
  subst Gs2
  refine ⟨.skip rfl (.skip rfl (.skip rfl (.skip rfl (.skip rfl (.skip rfl (.skip rfl (.again [(129, _)] rfl (.cons (.tail _ (.tail _ (.tail _ (.tail _ (.tail _ (.tail _ (.tail _ (.tail _ (.head _))))))))) rfl rfl .nil) (.n (.ldb (v := .slice (apt) (xt').length (cpt)) ty22 rfl (.there (.there .here)) (encN_ok.get pn t _ ht npad 0 _ rfl))) (.again [(128, _)] rfl (.cons (.tail _ (.tail _ (.tail _ (.tail _ (.tail _ (.tail _ (.tail _ (.tail _ (.tail _ (.head _)))))))))) rfl rfl .nil) (.n (.fa0 fl68_0 rfl)) (.again [(127, _)] rfl (.cons (.tail _ (.tail _ (.tail _ (.tail _ (.tail _ (.tail _ (.tail _ (.tail _ (.tail _ (.tail _ (.head _))))))))))) rfl rfl .nil) (.n (.nilc rfl)) (.again [] rfl .nil (.n (.mv rfl)) (.again [] rfl .nil (.n (.mv rfl)) .nil))))))))))), rfl, ?_⟩
  refine .e (i := 13) [(130, _), (138, _)] [13, 4, 12, 3, 11, 2, 10, 1, 8, 9, 7, 6, 5] rfl rfl rfl (.cons (.tail _ (.tail _ (.tail _ (.tail _ (.tail _ (.tail _ (.tail _ (.tail _ (.head _))))))))) rfl rfl (.cons (.head _) rfl rfl .nil)) rfl rfl rfl .n (.app1 (xs := xt') (p) sl22 ty47 rfl encP_ok rfl rfl hpt .here (by omega) (by omega) _ (fun _ => (.there (.there (.there (.there (upd_p ht _))))))) ?_
  rintro _ _ Gs4 _ ⟨a3, c3, it3, rfl, hr3, rfl, hGs_⟩
  subst Gs4
  refine ⟨.skip rfl (.skip rfl (.skip rfl (.skip rfl (.skip rfl (.skip rfl (.skip rfl (.skip rfl (.skip rfl (.skip rfl (.skip rfl (.skip rfl (.again [] rfl .nil (.n (.mv rfl)) .nil)))))))))))), rfl, ?_⟩
  refine .tail0 14 [[14, 0, 1, 2, 3, 4, 5, 6, 7, 8, 9, 10, 11, 12, 13], [15, 14, 0, 1, 2, 3, 4, 5, 6, 7, 8, 9, 10, 11, 12, 13], [16, 15, 13, 0, 1, 2, 3, 4, 5, 6, 7, 8, 9, 10, 11, 12, 14]] rfl rfl rfl rfl (e' := [(139, _), (138, _), (137, _), (136, _), (135, _), (134, _), (133, _), (132, _), (131, _), (130, _), (129, _), (128, _), (127, _), (126, _), (2, _), (8, _), (9, _), (10, _)]) rfl ?_
  refine .v (.nilc rfl) rfl ?_
  refine .v (.fa0 fl68_0 rfl) rfl ?_
  refine .st (.stp (vs := [.slice a3 (xt' ++ [p]).length c3]) (cs' := (pn.set t ⟨⟨xt' ++ [p], a3, c3, it3⟩, ⟨kt', akt, ckt, ikt⟩⟩).flatMap encN ++ npad) ty22 rfl rfl rfl rfl (by simp [Value.oneCell']) (by have h_ := (List.getElem?_eq_some_iff.1 ht).1; rw [List.length_append, encN_ok.fl]; omega) (encN_ok.put1 (j := 0) ht (by decide) rfl) (.there (.there .here))) ?_
  rw [own_same_p pn t _ ⟨xt' ++ [p], a3, c3, it3⟩]
  obtain ⟨pn5, hpn5⟩ : ∃ x, x = pn.set t ⟨⟨xt' ++ [p], a3, c3, it3⟩, ⟨kt', akt, ckt, ikt⟩⟩ := ⟨_, rfl⟩
  rw [← hpn5]
  have hx5 := set_get' hpn5 ht
  have hy5_i := set_other' hpn5 hti hi
  have hy5_f := set_other' hpn5 htf hf
  replace hok : ∀ n ∈ pn5, n.Ok := by rw [hpn5]; exact set_ok hok ⟨hr3, hkt⟩
  have hnd5 : pn5.map PN.nd = (T.nodes).set t ⟨xt' ++ [p], kt'⟩ := by rw [hpn5, List.map_set, hnd]; rfl
  have hln5 : pn5.length = pn.length := by rw [hpn5, List.length_set]
  have hcp5 : pn5.length ≤ nc := by omega
  have hnp5 : npad.length = (nc - pn5.length) * 2 := by rw [hln5]; exact hnp
  have hpt_5 := hr3
  have hkt_5 := hkt
  refine .nil ?_
  refine .then ?_
  refine .seq ?_
  refine .draw [[], [0], [1], [2], [], [], [5], [6], [7], [8], [9], [3, 4, 0, 1, 2, 3, 4, 5, 6, 7, 8, 9, 10], [11, 10, 0, 1, 2, 3, 4, 5, 6, 7, 8, 9, 10]] [] (by kernel_rfl) (by kernel_rfl) rfl (e1 := [(2, _), (8, _), (9, _), (10, _)]) (.cons rfl rfl (.cons rfl rfl (.cons rfl rfl (.cons rfl rfl .nil)))) (fun x hx => by cases hx) rfl ?_
  refine .v (i := 0) [] rfl rfl rfl .nil (.n (.mv rfl)) ?_
  refine .v (i := 1) [(142, _)] rfl rfl rfl (.cons (.head _) rfl rfl .nil) (.n (.nilc rfl)) ?_
  refine .v (i := 2) [(143, _)] rfl rfl rfl (.cons (.head _) rfl rfl .nil) (.n (.fa0 fl68_0 rfl)) ?_
  refine .v (i := 3) [(144, _)] rfl rfl rfl (.cons (.head _) rfl rfl .nil) (.n (.ldb (v := .slice (some ⟨bpi, 0, none⟩) (xi').length (cpi)) ty22 rfl (.there (.there .here)) (encN_ok.get pn5 i _ hy5_i npad 0 _ rfl))) ?_
  refine .v (i := 4) [] rfl rfl rfl .nil (.n (.mv rfl)) ?_
  refine .v (i := 5) [] rfl rfl rfl .nil (.n (.mv rfl)) ?_
  refine .v (i := 6) [(147, _)] rfl rfl rfl (.cons (.head _) rfl rfl .nil) (.n (.nilc rfl)) ?_
  refine .v (i := 7) [(148, _)] rfl rfl rfl (.cons (.head _) rfl rfl .nil) (.n (.fa0 fl68_0 rfl)) ?_
  refine .v (i := 8) [(149, _)] rfl rfl rfl (.cons (.head _) rfl rfl .nil) (.n (.ldb (v := .slice (some ⟨bpf, 0, none⟩) (xf').length (cpf)) ty22 rfl (.there (.there .here)) (encN_ok.get pn5 f _ hy5_f npad 0 _ rfl))) ?_
  refine .v (i := 9) [(150, _)] rfl rfl rfl (.cons (.head _) rfl rfl .nil) (.n (.ixo sl22 rfl rfl (0) ⟨by omega, by have h_ := (List.getElem?_eq_some_iff.1 huu).1; omega⟩)) ?_
  refine .v (i := 10) [(151, _)] rfl rfl rfl (.cons (.head _) rfl rfl .nil) (.n (.ldm _ ty47 rfl (.there (.there (.there (.there (.part (sub_p hy5_f)))))) rfl (fun j_ v_ hj_ => encP_ok.get xf' (0) _ huu dpf j_ v_ hj_))) ?_
  refine .tail0 11 [[11, 3, 4, 0, 1, 2, 5, 6, 7, 8, 9, 10], [12, 11, 10, 0, 1, 2, 3, 4, 5, 6, 7, 8, 9]] rfl rfl rfl rfl (e' := [(152, _), (151, _), (150, _), (149, _), (148, _), (147, _), (146, _), (145, _), (144, _), (143, _), (142, _), (2, _), (8, _), (9, _), (10, _)]) rfl ?_
  refine .v (.ixo sl22 rfl rfl (q) ⟨rfl, by have h_ := (List.getElem?_eq_some_iff.1 hpp).1; omega⟩) rfl ?_
  refine .st (.stp (vs := encP u) (cs' := (xi'.set (q) u).flatMap encP ++ dpi) ty47 rfl rfl rfl rfl (encP_ok.one u) (by have h_ := (List.getElem?_eq_some_iff.1 hpp).1; rw [List.length_append, encP_ok.fl]; omega) (by rw [show (q) * 2 + 2 = (q + 1) * 2 by omega]; exact encP_ok.put xi' dpi (q) (List.getElem?_eq_some_iff.1 hpp).1 u) (.there (.there (.there (.there (upd_p hy5_i _)))))) ?_
  have hrw6 : Row 47 encP 2 (some ⟨bpi, 0, none⟩) cpi (xi'.set (q) u) [⟨bpi, 47, (xi'.set (q) u).flatMap encP ++ dpi⟩] := Row.of dpi rfl (by rw [List.length_set]; exact hdpi) (by rw [List.length_set]; exact hpi.cap) hpi.max
  rw [own_same_p pn5 i _ ⟨xi'.set (q) u, some ⟨bpi, 0, none⟩, cpi, [⟨bpi, 47, (xi'.set (q) u).flatMap encP ++ dpi⟩]⟩]
  rw [← flat_same (m := ⟨⟨xi'.set (q) u, some ⟨bpi, 0, none⟩, cpi, [⟨bpi, 47, (xi'.set (q) u).flatMap encP ++ dpi⟩]⟩, ⟨ki', some ⟨bki, 0, none⟩, cki, [⟨bki, 3, ki'.flatMap encK ++ dki⟩]⟩⟩) hy5_i (by simp [encN])]
  obtain ⟨pn7, hpn7⟩ : ∃ x, x = pn5.set i ⟨⟨xi'.set (q) u, some ⟨bpi, 0, none⟩, cpi, [⟨bpi, 47, (xi'.set (q) u).flatMap encP ++ dpi⟩]⟩, ⟨ki', some ⟨bki, 0, none⟩, cki, [⟨bki, 3, ki'.flatMap encK ++ dki⟩]⟩⟩ := ⟨_, rfl⟩
  rw [← hpn7]
  have hx7 := set_get' hpn7 hy5_i
  have hy7_t_5 := set_other' hpn7 (Ne.symm hti) hx5
  have hy7_f := set_other' hpn7 (Ne.symm hfi) hy5_f
  replace hok : ∀ n ∈ pn7, n.Ok := by rw [hpn7]; exact set_ok hok ⟨hrw6, hki⟩
  have hnd7 : pn7.map PN.nd = ((T.nodes).set t ⟨xt' ++ [p], kt'⟩).set i ⟨xi'.set (q) u, ki'⟩ := by rw [hpn7, List.map_set, hnd5]; rfl
  have hln7 : pn7.length = pn5.length := by rw [hpn7, List.length_set]
  have hcp7 : pn7.length ≤ nc := by omega
  have hnp7 : npad.length = (nc - pn7.length) * 2 := by rw [hln7]; exact hnp5
  have hpi_7 := hrw6
  have hki_7 := hki
  refine .nil ?_
  refine .then ?_
  refine .seq ?_
  refine .region ?_
  refine .v (.mv rfl) rfl ?_
  refine .v (.mv rfl) rfl ?_
  refine .v (.nilc rfl) rfl ?_
  refine .v (.fa0 fl68_0 rfl) rfl ?_
  refine .v (.ldb (v := .slice (some ⟨bpf, 0, none⟩) (xf').length (cpf)) ty22 rfl (.there (.there .here)) (encN_ok.get pn7 f _ hy7_f npad 0 _ rfl)) rfl ?_
  refine .lend (.lend rfl rfl (Try.call49 _) _ (fun _ => (.there (.there (.there (.there (upd_p hy7_f _)))))) (fun G hle hG => (delete_P xf' (0) _ _ _ G hpf (by omega)).mono (fun v M H _ ⟨it, h1, _, h2⟩ => ⟨it, h1, h2⟩))) rfl ?_
  rintro _ it8 ⟨a8, c8, rfl, hr8⟩
  refine .v (.nilc rfl) rfl ?_
  refine .v (.fa0 fl68_0 rfl) rfl ?_
  refine .st (.stp (vs := [.slice a8 (xf'.drop 1).length c8]) (cs' := (pn7.set f ⟨⟨xf'.drop 1, a8, c8, it8⟩, ⟨kf', akf, ckf, ikf⟩⟩).flatMap encN ++ npad) ty22 rfl rfl rfl rfl (by simp [Value.oneCell']) (by have h_ := (List.getElem?_eq_some_iff.1 hy7_f).1; rw [List.length_append, encN_ok.fl]; omega) (encN_ok.put1 (j := 0) hy7_f (by decide) rfl) (.there (.there .here))) ?_
  rw [own_same_p pn7 f _ ⟨xf'.drop 1, a8, c8, it8⟩]
  obtain ⟨pn9, hpn9⟩ : ∃ x, x = pn7.set f ⟨⟨xf'.drop 1, a8, c8, it8⟩, ⟨kf', akf, ckf, ikf⟩⟩ := ⟨_, rfl⟩
  rw [← hpn9]
  have hx9 := set_get' hpn9 hy7_f
  have hy9_i_7 := set_other' hpn9 hfi hx7
  have hy9_t_5 := set_other' hpn9 (Ne.symm htf) hy7_t_5
  replace hok : ∀ n ∈ pn9, n.Ok := by rw [hpn9]; exact set_ok hok ⟨hr8, hkf⟩
  have hnd9 : pn9.map PN.nd = (((T.nodes).set t ⟨xt' ++ [p], kt'⟩).set i ⟨xi'.set (q) u, ki'⟩).set f ⟨xf'.drop 1, kf'⟩ := by rw [hpn9, List.map_set, hnd7]; rfl
  have hln9 : pn9.length = pn7.length := by rw [hpn9, List.length_set]
  have hcp9 : pn9.length ≤ nc := by omega
  have hnp9 : npad.length = (nc - pn9.length) * 2 := by rw [hln9]; exact hnp7
  have hpf_9 := hr8
  have hkf_9 := hkf
  refine .nil ?_
  refine .then ?_
  refine .seq ?_
  refine .region ?_
  refine .v (.mv rfl) rfl ?_
  refine .v (.nilc rfl) rfl ?_
  refine .v (.fae fl68_1 rfl) rfl ?_
  refine .v (.ldb (v := .slice (akf) (kf').length (ckf)) ty58 rfl (.there (.there .here)) (encN_ok.get pn9 f _ hx9 npad 1 _ rfl)) rfl ?_
  refine .v (.lenl Try.underlying58 rfl) rfl ?_
  refine .vs (.gt rfl rfl) rfl (fun h167_10 => ?_) (fun h167_10 => ?_)
  · skip
    have hkf0 : 0 < kf'.length := by have h_ := h167_10; omega
    obtain ⟨bkf, dkf, rfl, rfl, hdkf⟩ := hkf.blk (by omega)
    obtain ⟨z, hz⟩ : ∃ y, kf'[0]? = some y := ⟨_, List.getElem?_eq_getElem (by omega)⟩
    have hdz : kf'.take 1 = [z] := by rw [List.take_add_one, hz]; rfl
    refine .nil ?_
    refine .then ?_
    refine .condT rfl ?_
    refine .seq ?_
    refine .draw [[], [], [1], [2], [3], [], [5], [6], [7], [8], [9], [10], [4, 11], [0, 0, 1, 2, 3, 4, 5, 6, 7, 8, 9, 10, 11, 12], [13, 0, 1, 2, 3, 4, 5, 6, 7, 8, 9, 10, 11, 12], [14, 12, 12, 0, 1, 2, 3, 4, 5, 6, 7, 8, 9, 10, 11, 12]] [] (by kernel_rfl) (by kernel_rfl) rfl (e1 := [(9, _), (10, _)]) (.cons rfl rfl (.cons rfl rfl .nil)) (fun x hx => by cases hx) rfl ?_
    refine .v (i := 0) [] rfl rfl rfl .nil (.n (.mv rfl)) ?_
    refine .v (i := 1) [] rfl rfl rfl .nil (.n (.mv rfl)) ?_
    refine .v (i := 2) [(169, _)] rfl rfl rfl (.cons (.head _) rfl rfl .nil) (.n (.nilc rfl)) ?_
    refine .v (i := 3) [(170, _)] rfl rfl rfl (.cons (.head _) rfl rfl .nil) (.n (.fae fl68_1 rfl)) ?_
    refine .v (i := 4) [(171, _)] rfl rfl rfl (.cons (.head _) rfl rfl .nil) (.n (.ldb (v := .slice (akt) (kt').length (ckt)) ty58 rfl (.there (.there .here)) (encN_ok.get pn9 t _ hy9_t_5 npad 1 _ rfl))) ?_
    refine .v (i := 5) [] rfl rfl rfl .nil (.n (.mv rfl)) ?_
    refine .v (i := 6) [(173, _)] rfl rfl rfl (.cons (.head _) rfl rfl .nil) (.n (.nilc rfl)) ?_
    refine .v (i := 7) [(174, _)] rfl rfl rfl (.cons (.head _) rfl rfl .nil) (.n (.fae fl68_1 rfl)) ?_
    refine .v (i := 8) [(175, _)] rfl rfl rfl (.cons (.head _) rfl rfl .nil) (.n (.ldb (v := .slice (some ⟨bkf, 0, none⟩) (kf').length (ckf)) ty58 rfl (.there (.there .here)) (encN_ok.get pn9 f _ hx9 npad 1 _ rfl))) ?_
    refine .v (i := 9) [(176, _)] rfl rfl rfl (.cons (.head _) rfl rfl .nil) (.n (.ixo sl58 rfl rfl (0) ⟨by omega, by have h_ := (List.getElem?_eq_some_iff.1 hz).1; omega⟩)) ?_
    refine .v (i := 10) [(177, _)] rfl rfl rfl (.cons (.head _) rfl rfl .nil) (.n (.ldb ty3 rfl (.there (.there (.there (.there (.part (sub_k hx9)))))) (encK_ok.get kf' (0) _ hz dkf 0 _ rfl))) ?_
    refine .e (i := 11) [(178, _)] [11, 10, 9, 8, 7, 6, 5] rfl rfl rfl (.cons (.head _) rfl rfl .nil) rfl rfl rfl .n (.lit1 sl58 ty3 rfl rfl rfl rfl rfl) ?_
    rintro _ _ Gs12 _ ⟨b11, rfl, rfl, hGs_⟩
    subst Gs12
    refine ⟨.skip rfl (.skip rfl (.skip rfl (.skip rfl (.skip rfl (.skip rfl (.again [(171, _)] rfl (.cons (.tail _ (.tail _ (.tail _ (.tail _ (.tail _ (.tail _ (.tail _ (.head _)))))))) rfl rfl .nil) (.n (.ldb (v := .slice (akt) (kt').length (ckt)) ty58 rfl (.there (.there (.there .here))) (encN_ok.get pn9 t _ hy9_t_5 npad 1 _ rfl))) (.again [(170, _)] rfl (.cons (.tail _ (.tail _ (.tail _ (.tail _ (.tail _ (.tail _ (.tail _ (.tail _ (.head _))))))))) rfl rfl .nil) (.n (.fae fl68_1 rfl)) (.again [(169, _)] rfl (.cons (.tail _ (.tail _ (.tail _ (.tail _ (.tail _ (.tail _ (.tail _ (.tail _ (.tail _ (.head _)))))))))) rfl rfl .nil) (.n (.nilc rfl)) (.again [] rfl .nil (.n (.mv rfl)) (.again [] rfl .nil (.n (.mv rfl)) .nil)))))))))), rfl, ?_⟩
    refine .e (i := 12) [(172, _), (179, _)] [12, 4, 11, 3, 10, 2, 9, 1, 8, 7, 6, 5] rfl rfl rfl (.cons (.tail _ (.tail _ (.tail _ (.tail _ (.tail _ (.tail _ (.tail _ (.head _)))))))) rfl rfl (.cons (.head _) rfl rfl .nil)) rfl rfl rfl .n (.app1 (xs := kt') (z) sl58 ty3 rfl encK_ok rfl rfl hkt_5 .here (by omega) (by omega) _ (fun _ => (.there (.there (.there (.there (.there (upd_k hy9_t_5 _)))))))) ?_
    rintro _ _ Gs14 _ ⟨a13, c13, it13, rfl, hr13, rfl, hGs_⟩
    subst Gs14
    refine ⟨.skip rfl (.skip rfl (.skip rfl (.skip rfl (.skip rfl (.skip rfl (.skip rfl (.skip rfl (.skip rfl (.skip rfl (.skip rfl (.again [] rfl .nil (.n (.mv rfl)) .nil))))))))))), rfl, ?_⟩
    refine .tail0 13 [[13, 0, 1, 2, 3, 4, 5, 6, 7, 8, 9, 10, 11, 12], [14, 13, 0, 1, 2, 3, 4, 5, 6, 7, 8, 9, 10, 11, 12], [15, 14, 12, 0, 1, 2, 3, 4, 5, 6, 7, 8, 9, 10, 11, 13]] rfl rfl rfl rfl (e' := [(180, _), (179, _), (178, _), (177, _), (176, _), (175, _), (174, _), (173, _), (172, _), (171, _), (170, _), (169, _), (168, _), (9, _), (10, _)]) rfl ?_
    refine .v (.nilc rfl) rfl ?_
    refine .v (.fae fl68_1 rfl) rfl ?_
    refine .st (.stp (vs := [.slice a13 (kt' ++ [z]).length c13]) (cs' := (pn9.set t ⟨⟨xt' ++ [p], a3, c3, it3⟩, ⟨kt' ++ [z], a13, c13, it13⟩⟩).flatMap encN ++ npad) ty58 rfl rfl rfl rfl (by simp [Value.oneCell']) (by have h_ := (List.getElem?_eq_some_iff.1 hy9_t_5).1; rw [List.length_append, encN_ok.fl]; omega) (encN_ok.put1 (j := 1) hy9_t_5 (by decide) rfl) (.there (.there (.there .here)))) ?_
    rw [own_same_k pn9 t _ ⟨kt' ++ [z], a13, c13, it13⟩]
    obtain ⟨pn15, hpn15⟩ : ∃ x, x = pn9.set t ⟨⟨xt' ++ [p], a3, c3, it3⟩, ⟨kt' ++ [z], a13, c13, it13⟩⟩ := ⟨_, rfl⟩
    rw [← hpn15]
    have hx15 := set_get' hpn15 hy9_t_5
    have hy15_i_7 := set_other' hpn15 hti hy9_i_7
    have hy15_f_9 := set_other' hpn15 htf hx9
    replace hok : ∀ n ∈ pn15, n.Ok := by rw [hpn15]; exact set_ok hok ⟨hpt_5, hr13⟩
    have hnd15 : pn15.map PN.nd = ((((T.nodes).set t ⟨xt' ++ [p], kt'⟩).set i ⟨xi'.set (q) u, ki'⟩).set f ⟨xf'.drop 1, kf'⟩).set t ⟨(xt' ++ [p]), kt' ++ [z]⟩ := by rw [hpn15, List.map_set, hnd9]; rfl
    have hln15 : pn15.length = pn9.length := by rw [hpn15, List.length_set]
    have hcp15 : pn15.length ≤ nc := by omega
    have hnp15 : npad.length = (nc - pn15.length) * 2 := by rw [hln15]; exact hnp9
    have hkt_5_15 := hr13
    have hpt_5_15 := hpt_5
    refine .nil ?_
    refine .then ?_
    refine .region ?_
    refine .v (.mv rfl) rfl ?_
    refine .v (.mv rfl) rfl ?_
    refine .v (.nilc rfl) rfl ?_
    refine .v (.fae fl68_1 rfl) rfl ?_
    refine .v (.ldb (v := .slice (some ⟨bkf, 0, none⟩) (kf').length (ckf)) ty58 rfl (.there (.there (.there .here))) (encN_ok.get pn15 f _ hy15_f_9 npad 1 _ rfl)) rfl ?_
    refine .lend (.lend rfl rfl (Try.call59 _) _ (fun _ => (.there (.there (.there (.there (.there (upd_k hy15_f_9 _))))))) (fun G hle hG => (delete_K kf' (0) _ _ _ G hkf_9 (by omega)).mono (fun v M H _ ⟨it, h1, _, h2⟩ => ⟨it, h1, h2⟩))) rfl ?_
    rintro _ it16 ⟨a16, c16, rfl, hr16⟩
    refine .v (.nilc rfl) rfl ?_
    refine .v (.fae fl68_1 rfl) rfl ?_
    refine .st (.stp (vs := [.slice a16 (kf'.drop 1).length c16]) (cs' := (pn15.set f ⟨⟨xf'.drop 1, a8, c8, it8⟩, ⟨kf'.drop 1, a16, c16, it16⟩⟩).flatMap encN ++ npad) ty58 rfl rfl rfl rfl (by simp [Value.oneCell']) (by have h_ := (List.getElem?_eq_some_iff.1 hy15_f_9).1; rw [List.length_append, encN_ok.fl]; omega) (encN_ok.put1 (j := 1) hy15_f_9 (by decide) rfl) (.there (.there (.there .here)))) ?_
    rw [own_same_k pn15 f _ ⟨kf'.drop 1, a16, c16, it16⟩]
    obtain ⟨pn17, hpn17⟩ : ∃ x, x = pn15.set f ⟨⟨xf'.drop 1, a8, c8, it8⟩, ⟨kf'.drop 1, a16, c16, it16⟩⟩ := ⟨_, rfl⟩
    rw [← hpn17]
    have hx17 := set_get' hpn17 hy15_f_9
    have hy17_i_7 := set_other' hpn17 hfi hy15_i_7
    have hy17_t_5_15 := set_other' hpn17 (Ne.symm htf) hx15
    replace hok : ∀ n ∈ pn17, n.Ok := by rw [hpn17]; exact set_ok hok ⟨hpf_9, hr16⟩
    have hnd17 : pn17.map PN.nd = (((((T.nodes).set t ⟨xt' ++ [p], kt'⟩).set i ⟨xi'.set (q) u, ki'⟩).set f ⟨xf'.drop 1, kf'⟩).set t ⟨(xt' ++ [p]), kt' ++ [z]⟩).set f ⟨(xf'.drop 1), kf'.drop 1⟩ := by rw [hpn17, List.map_set, hnd15]; rfl
    have hln17 : pn17.length = pn15.length := by rw [hpn17, List.length_set]
    have hcp17 : pn17.length ≤ nc := by omega
    have hnp17 : npad.length = (nc - pn17.length) * 2 := by rw [hln17]; exact hnp15
    have hkf_9_17 := hr16
    have hpf_9_17 := hpf_9
    refine .nil ?_
    refine .front (.there (.there (.there (.there (.there .here))))) ?_
    refine .front (.there (.there (.there (.there (.there .here))))) ?_
    refine .front (.there (.there (.there (.there (.there .here))))) ?_
    refine .front (.there (.there (.there (.there (.there .here))))) ?_
    have hv : lendR T i q t f ⟨xi', ki'⟩ ⟨xt', kt'⟩ ⟨xf', kf'⟩ p u = ⟨(((((T.nodes).set t ⟨xt' ++ [p], kt'⟩).set i ⟨xi'.set (q) u, ki'⟩).set f ⟨xf'.drop 1, kf'⟩).set t ⟨(xt' ++ [p]), kt' ++ [z]⟩).set f ⟨(xf'.drop 1), kf'.drop 1⟩, T.free, T.root, T.count⟩ := by
      unfold lendR TS.setN
      dsimp only
      rw [if_neg (by omega), hdz, sets5 T.nodes hti hfi htf]; first | done | rfl
    rw [hv]
    exact .end _ [_] (.t0 rfl) .rfl ⟨_, rfl, rfl, ⟨pn17, some ⟨nb, 0, none⟩, nc, _, fa, fc, fit, ⟨Row.of npad rfl hnp17 hcp17 hmx, hrf, hok, hnd17, by rw [hln17, hln15, hln9, hln7, hln5]; first | done | rfl⟩⟩⟩ (fun w ho => by simpa [List.append_assoc] using (subl (.cons_cons _ (.cons_cons _ (.cons_cons _ (.cons_cons _ (.cons _ (.cons _ (.cons_cons _ .slnil))))))) w ho))
  · skip
    have hkf0 : kf'.length = 0 := by have h_ := h167_10; omega
    refine .nil ?_
    refine .then ?_
    refine .condF rfl ?_
    refine .skip ?_
    refine .front (.there (.there (.there (.there .here)))) ?_
    refine .front (.there (.there (.there (.there .here)))) ?_
    refine .front (.there (.there (.there (.there .here)))) ?_
    refine .front (.there (.there (.there (.there .here)))) ?_
    have hv : lendR T i q t f ⟨xi', ki'⟩ ⟨xt', kt'⟩ ⟨xf', kf'⟩ p u = ⟨(((T.nodes).set t ⟨xt' ++ [p], kt'⟩).set i ⟨xi'.set (q) u, ki'⟩).set f ⟨xf'.drop 1, kf'⟩, T.free, T.root, T.count⟩ := by
      unfold lendR TS.setN
      dsimp only
      rw [if_pos hkf0, show kf'.drop 1 = kf' from by rw [List.eq_nil_of_length_eq_zero hkf0]; rfl]; first | done | rfl
    rw [hv]
    exact .end _ [_] (.t0 rfl) .rfl ⟨_, rfl, rfl, ⟨pn9, some ⟨nb, 0, none⟩, nc, _, fa, fc, fit, ⟨Row.of npad rfl hnp9 hcp9 hmx, hrf, hok, hnd9, by rw [hln9, hln7, hln5]; first | done | rfl⟩⟩⟩ (fun w ho => by simpa [List.append_assoc] using (subl (.cons_cons _ (.cons_cons _ (.cons_cons _ (.cons_cons _ (.cons _ (.cons_cons _ .slnil)))))) w ho))
end Go.Proofs.Ytbmpdccoffkjgaa.Ow
