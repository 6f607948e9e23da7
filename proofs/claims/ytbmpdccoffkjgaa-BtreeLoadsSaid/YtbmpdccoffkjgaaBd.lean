/- Walks. -/
import Derived.Test.YtbmpdccoffkjgaaBc
namespace Go.Proofs.Ytbmpdccoffkjgaa.Ow
open Go
set_option linter.unusedVariables false
theorem split_fn (b : Nat) (T : TS) (it : Itm) (F : Mem) (hT : Lies b T it) (i q c : Nat) (xi : List Pr) (ki : List Nat) (xc : List Pr) (kc : List Nat) (up : Pr) (hni : T.nodes[i]? = some ⟨xi, ki⟩) (hq : ki[q]? = some c) (hnc : T.nodes[c]? = some ⟨xc, kc⟩) (hup : xc[2]? = some up) (hci : c ≠ i) (hqi : q ≤ xi.length) (hkl : kc.length = 0 ∨ 3 ≤ kc.length) (hxil : xi.length ≤ 1000) (hkil : ki.length ≤ 1000) (hxcl : xc.length ≤ 1000) (hkcl : kc.length ≤ 1000) (hfree : ∀ x ∈ T.free, x < T.nodes.length ∧ x ≠ i) (hb0 : T.nodes.length ≤ 549755813888) : Fn Try.prog 35 #[.pointer (some ⟨b, 0, none⟩), .int .i64 (i : Int), .int .i64 (q : Int)] [it] F (fun v M G => ∃ it', M = [it'] ∧ G = F ∧ Lies b (splitT T i q c ⟨xi, ki⟩ ⟨xc, kc⟩ up) it') := by
  have hl3 : 3 ≤ xc.length := by have := (List.getElem?_eq_some_iff.1 hup).1; omega
  have hqk := (List.getElem?_eq_some_iff.1 hq).1
  have hib := (List.getElem?_eq_some_iff.1 hni).1
  obtain ⟨pn, na, nc, nit, fa, fc, fit, hP⟩ := hT
  obtain ⟨hrn, hrf, hok, hnd, rfl⟩ := hP
  have hln : pn.length = T.nodes.length := by rw [← hnd, List.length_map]
  have hmx := hrn.max
  have hcp := hrn.cap
  have hfm := hrf.max
  have hfcp := hrf.cap
  obtain ⟨nb, npad, rfl, rfl, hnp⟩ := hrn.blk (by omega)
  obtain ⟨ni, hi, ei⟩ := nd_get hnd hni
  have hoi := get_ok hok hi
  obtain ⟨⟨xi', api, cpi, ipi⟩, ⟨ki', aki, cki, iki⟩⟩ := ni
  obtain ⟨rfl, rfl⟩ : xi' = xi ∧ ki' = ki := by simpa [PN.nd] using ei
  have hpi : Row 47 encP 2 api cpi xi' ipi := hoi.p
  have hki : Row 3 encK 1 aki cki ki' iki := hoi.k
  obtain ⟨bki, dki, rfl, rfl, hdki⟩ := hki.blk (by omega)
  obtain ⟨nc, hc, ec⟩ := nd_get hnd hnc
  have hoc := get_ok hok hc
  obtain ⟨⟨xc', apc, cpc, ipc⟩, ⟨kc', akc, ckc, ikc⟩⟩ := nc
  obtain ⟨rfl, rfl⟩ : xc' = xc ∧ kc' = kc := by simpa [PN.nd] using ec
  have hpc : Row 47 encP 2 apc cpc xc' ipc := hoc.p
  have hkc : Row 3 encK 1 akc ckc kc' ikc := hoc.k
  obtain ⟨bpc, dpc, rfl, rfl, hdpc⟩ := hpc.blk (by omega)
  have hqc : ki'[q]? = some c := hq
  have hupc : xc'[2]? = some up := hup
  refine Fn.start1 Try.func35 rfl Try.ntmps35 rfl (env := [(0, _), (1, _), (2, _)]) rfl ?_
  intro R
  refine .items (L' := [[⟨b, 60, _⟩], [⟨nb, 68, _⟩], fit, own pn, R]) (fun w ho => by simpa [List.append_assoc] using ho) ?_
  refine .seq ?_
  refine .region ?_
  refine .v (.mv rfl) rfl ?_
  refine .v (.nilc rfl) rfl ?_
  refine .v (.fa0 fl60_0 rfl) rfl ?_
  refine .v (.ldb ty57 rfl .here rfl) rfl ?_
  refine .v (.mv rfl) rfl ?_
  refine .v (.ixo sl57 rfl rfl (i) ⟨rfl, by have h_ := (List.getElem?_eq_some_iff.1 hi).1; omega⟩) rfl ?_
  refine .v (.fae fl68_1 rfl) rfl ?_
  refine .v (.ldb (v := .slice (some ⟨bki, 0, none⟩) (ki').length (cki)) ty58 rfl (.there .here) (encN_ok.get pn i _ hi npad 1 _ rfl)) rfl ?_
  refine .v (.mv rfl) rfl ?_
  refine .v (.ixo sl58 rfl rfl (q) ⟨rfl, by have h_ := (List.getElem?_eq_some_iff.1 hqc).1; omega⟩) rfl ?_
  refine .v (.ldb ty3 rfl (.there (.there (.there (.part (sub_k hi))))) (encK_ok.get ki' (q) _ hqc dki 0 _ rfl)) rfl ?_
  refine .v (.asn rfl) rfl ?_
  refine .nil ?_
  refine .then ?_
  refine .seq ?_
  refine .region ?_
  refine .v (.mv rfl) rfl ?_
  refine .v (.nilc rfl) rfl ?_
  refine .v (.fa0 fl60_0 rfl) rfl ?_
  refine .v (.ldb ty57 rfl .here rfl) rfl ?_
  refine .v (.mv rfl) rfl ?_
  refine .v (.ixo sl57 rfl rfl (c) ⟨rfl, by have h_ := (List.getElem?_eq_some_iff.1 hc).1; omega⟩) rfl ?_
  refine .v (.ldm [.slice (some ⟨bpc, 0, none⟩) (xc').length (cpc), .slice (akc) (kc').length (ckc)] ty68 rfl (.there .here) rfl (fun j_ v_ hj_ => encN_ok.get pn c _ hc npad j_ v_ hj_)) rfl ?_
  refine .nb (.alloc ty68 rfl) rfl (fun b1 => ?_)
  refine .st (.stw ty68 rfl rfl rfl rfl rfl .here) ?_
  refine .nil ?_
  refine .then ?_
  refine .seq ?_
  refine .region ?_
  refine .v (.fa0 fl68_0 rfl) rfl ?_
  refine .v (.ldb ty22 rfl .here rfl) rfl ?_
  refine .v ((.sfl xc' 3 sl22 rfl rfl ⟨rfl, by omega⟩)) rfl ?_
  refine .lend (.make rfl rfl (Try.call41 _) (fun G hle hG => (clone_P (xc'.drop 3) _ _ G (Sl.drop (hpc.sl encP_ok (fun b_ hb_ => hG b_ (Inn.mem (.there (.there (.there (.there (.part (sub_p hc)))))) b_ hb_))) (i := 3) (by omega)) (by rw [List.length_drop]; omega)).mono (fun v M H _ ⟨it, h1, _, h2⟩ => ⟨it, h1, h2⟩))) rfl ?_
  rintro _ it2 ⟨a2, c2, rfl, hr2⟩
  refine .v (.build rfl (fun w => bd68_0 w _ _ _)) rfl ?_
  refine .nb (.alloc ty68 rfl) rfl (fun b3 => ?_)
  refine .st (.stw ty68 rfl rfl rfl rfl rfl .here) ?_
  refine .nil ?_
  refine .then ?_
  refine .seq ?_
  refine .seq ?_
  refine .region ?_
  refine .v (.ldw ty68 rfl (.there (.there .here)) rfl) rfl ?_
  refine .vs (.call rfl rfl (Try.call37 _) (fun G hle hG => leaf_fn _ _ _ _ _ _ G)) rfl (fun h36_4 => ?_) (fun h36_4 => ?_)
  · skip
    have hl36 : kc'.length = 0 := h36_4
    refine .v (.not rfl) rfl ?_
    refine .nil ?_
    refine .then ?_
    refine .condF rfl ?_
    refine .skip ?_
    refine .then ?_
    refine .seq ?_
    refine .region ?_
    refine .v (.fa0 fl68_0 rfl) rfl ?_
    refine .v (.ldb ty22 rfl (.there (.there .here)) rfl) rfl ?_
    refine .v (.ixo sl22 rfl rfl (2) ⟨by omega, by have h_ := (List.getElem?_eq_some_iff.1 hupc).1; omega⟩) rfl ?_
    refine .v (.ldm _ ty47 rfl (.there (.there (.there (.there (.there (.there (.part (sub_p hc)))))))) rfl (fun j_ v_ hj_ => encP_ok.get xc' (2) _ hupc dpc j_ v_ hj_)) rfl ?_
    refine .nb (.alloc ty47 rfl) rfl (fun b5 => ?_)
    refine .st (.stw ty47 rfl rfl rfl rfl rfl .here) ?_
    refine .nil ?_
    refine .then ?_
    refine .seq ?_
    refine .region ?_
    refine .v (.fa0 fl68_0 rfl) rfl ?_
    refine .v (.ldb ty22 rfl (.there (.there (.there .here))) rfl) rfl ?_
    refine .v ((.stl xc' 2 sl22 rfl rfl ⟨rfl, by omega, hpc.cap⟩)) rfl ?_
    refine .lend (.make rfl rfl (Try.call41 _) (fun G hle hG => (clone_P (xc'.take 2) _ _ G (Sl.take (hpc.sl encP_ok (fun b_ hb_ => hG b_ (Inn.mem (.there (.there (.there (.there (.there (.there (.there (.part (sub_p hc))))))))) b_ hb_))) 2) (by rw [List.length_take]; omega)).mono (fun v M H _ ⟨it, h1, _, h2⟩ => ⟨it, h1, h2⟩))) rfl ?_
    rintro _ it6 ⟨a6, c6, rfl, hr6⟩
    refine .v (.fa0 fl68_0 rfl) rfl ?_
    refine .st (.stb ty22 rfl rfl rfl st0 (.there (.there (.there (.there .here))))) ?_
    refine .nil ?_
    refine .then ?_
    refine .seq ?_
    refine .draw [[], [0], [1], [2], [], [], [3, 4, 0, 1, 2, 3, 4, 5], [6, 5, 0, 1, 2, 3, 4, 5]] [] (by kernel_rfl) (by kernel_rfl) rfl (e1 := [(0, _), (1, _), (2, _), (6, _), (7, _), (8, _), (9, _)]) (.cons rfl rfl (.cons rfl rfl (.cons rfl rfl (.cons rfl rfl (.cons rfl rfl (.cons rfl rfl (.cons rfl rfl .nil))))))) (fun x hx => by cases hx) rfl ?_
    refine .v (i := 0) [] rfl rfl rfl .nil (.n (.mv rfl)) ?_
    refine .v (i := 1) [(57, _)] rfl rfl rfl (.cons (.head _) rfl rfl .nil) (.n (.nilc rfl)) ?_
    refine .v (i := 2) [(58, _)] rfl rfl rfl (.cons (.head _) rfl rfl .nil) (.n (.fa0 fl60_0 rfl)) ?_
    refine .v (i := 3) [(59, _)] rfl rfl rfl (.cons (.head _) rfl rfl .nil) (.n (.ldb ty57 rfl (.there (.there (.there (.there (.there .here))))) rfl)) ?_
    refine .v (i := 4) [] rfl rfl rfl .nil (.n (.mv rfl)) ?_
    refine .v (i := 5) [] rfl rfl rfl .nil (.n (.ldw ty68 rfl (.there (.there (.there (.there .here)))) rfl)) ?_
    refine .tail0 6 [[6, 3, 4, 0, 1, 2, 5], [7, 6, 5, 0, 1, 2, 3, 4]] rfl rfl rfl rfl (e' := [(62, _), (61, _), (60, _), (59, _), (58, _), (57, _), (0, _), (1, _), (2, _), (6, _), (7, _), (8, _), (9, _)]) rfl ?_
    refine .v (.ixo sl57 rfl rfl (c) ⟨rfl, by have h_ := (List.getElem?_eq_some_iff.1 hc).1; omega⟩) rfl ?_
    refine .st (.stp (vs := encN ⟨⟨xc'.take 2, a6, c6, it6⟩, ⟨kc', akc, ckc, ikc⟩⟩) (cs' := (pn.set c ⟨⟨xc'.take 2, a6, c6, it6⟩, ⟨kc', akc, ckc, ikc⟩⟩).flatMap encN ++ npad) ty68 rfl rfl rfl rfl (encN_ok.one ⟨⟨xc'.take 2, a6, c6, it6⟩, ⟨kc', akc, ckc, ikc⟩⟩) (by have h_ := (List.getElem?_eq_some_iff.1 hc).1; rw [List.length_append, encN_ok.fl]; omega) (by rw [show c * 2 + 2 = (c + 1) * 2 by omega]; exact encN_ok.put pn npad c (List.getElem?_eq_some_iff.1 hc).1 ⟨⟨xc'.take 2, a6, c6, it6⟩, ⟨kc', akc, ckc, ikc⟩⟩) (.there (.there (.there (.there (.there (.there .here))))))) ?_
    refine .front (.there (.there (.there (.there (.there (.there (.there (.there .here)))))))) ?_
    refine .front (.there .here) ?_
    refine .place_p (r := ⟨xc'.take 2, a6, c6, it6⟩) hc ?_
    have hlf : leftN ⟨xc', kc'⟩ = ⟨xc'.take 2, kc'⟩ := by unfold leftN; rw [if_pos (by omega)]
    obtain ⟨pn7, hpn7⟩ : ∃ x, x = pn.set c ⟨⟨xc'.take 2, a6, c6, it6⟩, ⟨kc', akc, ckc, ikc⟩⟩ := ⟨_, rfl⟩
    rw [← hpn7]
    have hx7 := set_get' hpn7 hc
    have hy7_i := set_other' hpn7 hci hi
    replace hok : ∀ n ∈ pn7, n.Ok := by rw [hpn7]; exact set_ok hok ⟨hr6, hkc⟩
    have hnd7 : pn7.map PN.nd = T.nodes.set c ⟨xc'.take 2, kc'⟩ := by rw [hpn7, List.map_set, hnd]; rfl
    have hln7 : pn7.length = pn.length := by rw [hpn7, List.length_set]
    have hcp7 : pn7.length ≤ nc := by omega
    have hnp7 : npad.length = (nc - pn7.length) * 2 := by rw [hln7]; exact hnp
    rw [← hlf] at hnd7
    refine .nil ?_
    refine .then ?_
    refine .seq ?_
    refine .region ?_
    refine .v (.mv rfl) rfl ?_
    refine .v (.ldw ty68 rfl (.there (.there .here)) rfl) rfl ?_
    have hL1 : Lies b (T.setN c (leftN ⟨xc', kc'⟩)) ([⟨b, 60, [.slice (some ⟨nb, 0, none⟩) pn.length nc, .slice fa T.free.length fc, .int .i64 (T.root : Int), .int .i64 (T.count : Int)]⟩] ++ ([⟨nb, 68, pn7.flatMap encN ++ npad⟩] ++ (fit ++ own pn7))) := ⟨pn7, some ⟨nb, 0, none⟩, nc, _, fa, fc, fit, ⟨Row.of npad rfl hnp7 hcp7 hmx, hrf, hok, hnd7, by rw [hln7]; first | done | rfl⟩⟩
    refine .front (.there (.there (.there (.there (.there (.there (.there .here))))))) ?_
    refine .join ?_
    refine .front (.there (.there (.there (.there (.there (.there .here)))))) ?_
    refine .join ?_
    refine .front (.there (.there (.there (.there (.there .here))))) ?_
    refine .join ?_
    refine .emp ?_
    refine .front (.there (.there (.there (.there .here)))) ?_
    refine .join ?_
    refine .front (.there .here) ?_
    refine .join ?_
    obtain ⟨T2, r, hadd⟩ : ∃ T2 r, addL (T.setN c (leftN ⟨xc', kc'⟩)) (rightN ⟨xc', kc'⟩) = (T2, r) := ⟨_, _, rfl⟩
    have hrg : rightN ⟨xc', kc'⟩ = ⟨xc'.drop 3, []⟩ := by unfold rightN; rw [if_pos (by omega)]
    refine .lend (.lend rfl rfl (Try.call34 _) _ (fun _ => .here) (fun G hle hG => (add_fn b _ _ G hL1 (⟨⟨xc'.drop 3, a2, c2, it2⟩, ⟨[], none, 0, []⟩⟩ : PN) ⟨hr2, Row.nil⟩ (fun x hx => by rw [show (T.setN c (leftN ⟨xc', kc'⟩)).nodes.length = T.nodes.length from List.length_set]; exact (hfree x hx).1) (by rw [show (T.setN c (leftN ⟨xc', kc'⟩)).nodes.length = T.nodes.length from List.length_set]; omega)).mono (fun v M H _ ⟨it, h1, _, h2⟩ => ⟨it, h1, h2⟩))) rfl ?_
    rintro _ itq ⟨hL2, rfl⟩
    rw [show ((⟨⟨xc'.drop 3, a2, c2, it2⟩, ⟨[], none, 0, []⟩⟩ : PN) : PN).nd = rightN ⟨xc', kc'⟩ from hrg.symm, hadd] at hL2
    rw [show ((⟨⟨xc'.drop 3, a2, c2, it2⟩, ⟨[], none, 0, []⟩⟩ : PN) : PN).nd = rightN ⟨xc', kc'⟩ from hrg.symm, hadd]
    have hg2 := addL_get (T := T.setN c (leftN ⟨xc', kc'⟩)) (n := rightN ⟨xc', kc'⟩) (i := i) (m := ⟨xi', ki'⟩) (set_other hci hni) (fun hf => (hfree i hf).2 rfl)
    have hl2 := addL_len (T.setN c (leftN ⟨xc', kc'⟩)) (rightN ⟨xc', kc'⟩)
    rw [show (T.setN c (leftN ⟨xc', kc'⟩)).nodes.length = T.nodes.length from List.length_set] at hl2
    rw [hadd] at hg2 hl2
    dsimp only at hg2 hl2
    clear hnd hok hrn hrf hln hmx hcp hfm hfcp
    obtain ⟨pn2, na2, nc2, nit2, fa2, fc2, fit2, hP2⟩ := hL2
    obtain ⟨hrn, hrf, hok, hnd, rfl⟩ := hP2
    have hln : pn2.length = T2.nodes.length := by rw [← hnd, List.length_map]
    have hmx := hrn.max
    have hcp := hrn.cap
    obtain ⟨nb2, npad, rfl, rfl, hnp⟩ := hrn.blk (by have := (List.getElem?_eq_some_iff.1 hg2).1; omega)
    obtain ⟨nj, hj, ej⟩ := nd_get hnd hg2
    have hoj := get_ok hok hj
    obtain ⟨⟨xj', apj, cpj, ipj⟩, ⟨kj', akj, ckj, ikj⟩⟩ := nj
    obtain ⟨rfl, rfl⟩ : xj' = xi' ∧ kj' = ki' := by simpa [PN.nd] using ej
    have hpj : Row 47 encP 2 apj cpj xj' ipj := hoj.p
    have hkj : Row 3 encK 1 akj ckj kj' ikj := hoj.k
    obtain ⟨bkj, dkj, rfl, rfl, hdkj⟩ := hkj.blk (by omega)
    refine .parts ?_
    refine .v (.asn rfl) rfl ?_
    refine .nil ?_
    refine .then ?_
    refine .seq ?_
    refine .region ?_
    refine .v (.mv rfl) rfl ?_
    refine .v (.nilc rfl) rfl ?_
    refine .v (.fa0 fl60_0 rfl) rfl ?_
    refine .v (.ldb ty57 rfl .here rfl) rfl ?_
    refine .v (.mv rfl) rfl ?_
    refine .v (.ixo sl57 rfl rfl (i) ⟨rfl, by have h_ := (List.getElem?_eq_some_iff.1 hj).1; omega⟩) rfl ?_
    refine .v (.asn rfl) rfl ?_
    refine .nil ?_
    refine .then ?_
    refine .seq ?_
    refine .draw [[], [], [1], [2], [3], [], [], [6], [4, 5, 7], [0, 0, 1, 2, 3, 4, 5, 6, 7, 8], [9, 0, 1, 2, 3, 4, 5, 6, 7, 8], [10, 8, 8, 0, 1, 2, 3, 4, 5, 6, 7, 8]] [] (by kernel_rfl) (by kernel_rfl) rfl (e1 := [(2, _), (9, _), (10, _), (11, _)]) (.cons rfl rfl (.cons rfl rfl (.cons rfl rfl (.cons rfl rfl .nil)))) (fun x hx => by cases hx) rfl ?_
    refine .v (i := 0) [] rfl rfl rfl .nil (.n (.mv rfl)) ?_
    refine .v (i := 1) [] rfl rfl rfl .nil (.n (.mv rfl)) ?_
    refine .v (i := 2) [(74, _)] rfl rfl rfl (.cons (.head _) rfl rfl .nil) (.n (.nilc rfl)) ?_
    refine .v (i := 3) [(75, _)] rfl rfl rfl (.cons (.head _) rfl rfl .nil) (.n (.fa0 fl68_0 rfl)) ?_
    refine .v (i := 4) [(76, _)] rfl rfl rfl (.cons (.head _) rfl rfl .nil) (.n (.ldb (v := .slice (apj) (xj').length (cpj)) ty22 rfl (.there .here) (encN_ok.get pn2 i _ hj npad 0 _ rfl))) ?_
    refine .v (i := 5) [] rfl rfl rfl .nil (.n (.mv rfl)) ?_
    refine .v (i := 6) [] rfl rfl rfl .nil (.n (.ldw ty47 rfl (.there (.there (.there (.there .here)))) rfl)) ?_
    refine .e (i := 7) [(79, _)] [7, 6] rfl rfl rfl (.cons (.head _) rfl rfl .nil) rfl rfl rfl .n (.lit1 sl22 ty47 rfl rfl rfl rfl rfl) ?_
    rintro _ _ Gs9 _ ⟨b8, rfl, rfl, hGs_⟩
    subst Gs9
    refine ⟨.skip rfl (.again [] rfl .nil (.n (.mv rfl)) (.again [(76, _)] rfl (.cons (.tail _ (.tail _ (.tail _ (.head _)))) rfl rfl .nil) (.n (.ldb (v := .slice (apj) (xj').length (cpj)) ty22 rfl (.there (.there .here)) (encN_ok.get pn2 i _ hj npad 0 _ rfl))) (.again [(75, _)] rfl (.cons (.tail _ (.tail _ (.tail _ (.tail _ (.head _))))) rfl rfl .nil) (.n (.fa0 fl68_0 rfl)) (.again [(74, _)] rfl (.cons (.tail _ (.tail _ (.tail _ (.tail _ (.tail _ (.head _)))))) rfl rfl .nil) (.n (.nilc rfl)) (.again [] rfl .nil (.n (.mv rfl)) (.again [] rfl .nil (.n (.mv rfl)) .nil)))))), rfl, ?_⟩
    refine .e (i := 8) [(77, _), (78, _), (80, _)] [8, 4, 5, 7, 3, 6, 2, 1] rfl rfl rfl (.cons (.tail _ (.tail _ (.tail _ (.head _)))) rfl rfl (.cons (.tail _ (.tail _ (.head _))) rfl rfl (.cons (.head _) rfl rfl .nil))) rfl rfl rfl .n (.lend rfl rfl (Try.call38 _) _ (fun _ => (.there (.there (.there (.there (upd_p hj _)))))) (fun G hle hG => (insert_P xj' (up) (q) _ _ _ b8 G hpj (hG ⟨b8, 47, _⟩ (Inn.ob .here)) (by omega) (by omega)).mono (fun v M H _ ⟨it, h1, _, h2⟩ => ⟨it, h1, h2⟩))) ?_
    rintro _ _ Gs11 _ ⟨it10, rfl, hGs_, ⟨a10, c10, rfl, hr10⟩⟩
    subst Gs11
    refine ⟨.skip rfl (.skip rfl (.skip rfl (.skip rfl (.skip rfl (.skip rfl (.skip rfl (.again [] rfl .nil (.n (.mv rfl)) .nil))))))), rfl, ?_⟩
    refine .tail0 9 [[9, 0, 1, 2, 3, 4, 5, 6, 7, 8], [10, 9, 0, 1, 2, 3, 4, 5, 6, 7, 8], [11, 10, 8, 0, 1, 2, 3, 4, 5, 6, 7, 9]] rfl rfl rfl rfl (e' := [(81, _), (80, _), (79, _), (78, _), (77, _), (76, _), (75, _), (74, _), (73, _), (2, _), (9, _), (10, _), (11, _)]) rfl ?_
    refine .v (.nilc rfl) rfl ?_
    refine .v (.fa0 fl68_0 rfl) rfl ?_
    refine .st (.stp (vs := [.slice a10 (xj'.take q ++ up :: xj'.drop q).length c10]) (cs' := (pn2.set i ⟨⟨xj'.take q ++ up :: xj'.drop q, a10, c10, it10⟩, ⟨kj', some ⟨bkj, 0, none⟩, ckj, [⟨bkj, 3, kj'.flatMap encK ++ dkj⟩]⟩⟩).flatMap encN ++ npad) ty22 rfl rfl rfl rfl (by simp [Value.oneCell']) (by have h_ := (List.getElem?_eq_some_iff.1 hj).1; rw [List.length_append, encN_ok.fl]; omega) (encN_ok.put1 (j := 0) hj (by decide) rfl) (.there (.there .here))) ?_
    rw [own_same_p pn2 i _ ⟨xj'.take q ++ up :: xj'.drop q, a10, c10, it10⟩]
    obtain ⟨pn12, hpn12⟩ : ∃ x, x = pn2.set i ⟨⟨xj'.take q ++ up :: xj'.drop q, a10, c10, it10⟩, ⟨kj', some ⟨bkj, 0, none⟩, ckj, [⟨bkj, 3, kj'.flatMap encK ++ dkj⟩]⟩⟩ := ⟨_, rfl⟩
    rw [← hpn12]
    have hx12 := set_get' hpn12 hj
    replace hok : ∀ n ∈ pn12, n.Ok := by rw [hpn12]; exact set_ok hok ⟨hr10, hkj⟩
    have hnd12 : pn12.map PN.nd = T2.nodes.set i ⟨xj'.take q ++ up :: xj'.drop q, kj'⟩ := by rw [hpn12, List.map_set, hnd]; rfl
    have hln12 : pn12.length = pn2.length := by rw [hpn12, List.length_set]
    have hcp12 : pn12.length ≤ nc2 := by omega
    have hnp12 : npad.length = (nc2 - pn12.length) * 2 := by rw [hln12]; exact hnp
    have hpj_12 := hr10
    have hkj_12 := hkj
    refine .nil ?_
    refine .then ?_
    refine .region ?_
    refine .v (.mv rfl) rfl ?_
    refine .v (.mv rfl) rfl ?_
    refine .v (.nilc rfl) rfl ?_
    refine .v (.fae fl68_1 rfl) rfl ?_
    refine .v (.ldb (v := .slice (some ⟨bkj, 0, none⟩) (kj').length (ckj)) ty58 rfl (.there (.there .here)) (encN_ok.get pn12 i _ hx12 npad 1 _ rfl)) rfl ?_
    refine .v (.mv rfl) rfl ?_
    refine .v (.add rfl rfl (by omega)) rfl ?_
    refine .v (.mv rfl) rfl ?_
    refine .nb (.lit1 sl58 ty3 rfl rfl rfl rfl rfl) rfl (fun b13 => ?_)
    refine .lend (.lend rfl rfl (Try.call43 _) _ (fun _ => (.there (.there (.there (.there (.there (upd_k hx12 _))))))) (fun G hle hG => (insert_K kj' (r) (q + 1) _ _ _ b13 G hkj_12 (hG ⟨b13, 3, _⟩ (Inn.ob .here)) (by omega) (by omega)).mono (fun v M H _ ⟨it, h1, _, h2⟩ => ⟨it, h1, h2⟩))) rfl ?_
    rintro _ it14 ⟨a14, c14, rfl, hr14⟩
    refine .v (.nilc rfl) rfl ?_
    refine .v (.fae fl68_1 rfl) rfl ?_
    refine .st (.stp (vs := [.slice a14 (kj'.take (q + 1) ++ r :: kj'.drop (q + 1)).length c14]) (cs' := (pn12.set i ⟨⟨xj'.take q ++ up :: xj'.drop q, a10, c10, it10⟩, ⟨kj'.take (q + 1) ++ r :: kj'.drop (q + 1), a14, c14, it14⟩⟩).flatMap encN ++ npad) ty58 rfl rfl rfl rfl (by simp [Value.oneCell']) (by have h_ := (List.getElem?_eq_some_iff.1 hx12).1; rw [List.length_append, encN_ok.fl]; omega) (encN_ok.put1 (j := 1) hx12 (by decide) rfl) (.there (.there (.there .here)))) ?_
    rw [own_same_k pn12 i _ ⟨kj'.take (q + 1) ++ r :: kj'.drop (q + 1), a14, c14, it14⟩]
    obtain ⟨pn15, hpn15⟩ : ∃ x, x = pn12.set i ⟨⟨xj'.take q ++ up :: xj'.drop q, a10, c10, it10⟩, ⟨kj'.take (q + 1) ++ r :: kj'.drop (q + 1), a14, c14, it14⟩⟩ := ⟨_, rfl⟩
    rw [← hpn15]
    have hx15 := set_get' hpn15 hx12
    replace hok : ∀ n ∈ pn15, n.Ok := by rw [hpn15]; exact set_ok hok ⟨hpj_12, hr14⟩
    have hnd15 : pn15.map PN.nd = (T2.nodes.set i ⟨xj'.take q ++ up :: xj'.drop q, kj'⟩).set i ⟨xj'.take q ++ up :: xj'.drop q, kj'.take (q + 1) ++ r :: kj'.drop (q + 1)⟩ := by rw [hpn15, List.map_set, hnd12]; rfl
    have hln15 : pn15.length = pn12.length := by rw [hpn15, List.length_set]
    have hcp15 : pn15.length ≤ nc2 := by omega
    have hnp15 : npad.length = (nc2 - pn15.length) * 2 := by rw [hln15]; exact hnp12
    have hkj_12_15 := hr14
    have hpj_12_15 := hpj_12
    refine .nil ?_
    refine .front (.there (.there (.there (.there (.there .here))))) ?_
    refine .front (.there (.there (.there (.there (.there .here))))) ?_
    refine .front (.there (.there (.there (.there (.there .here))))) ?_
    refine .front (.there (.there (.there (.there (.there .here))))) ?_
    have hv : splitT T i q c ⟨xj', kj'⟩ ⟨xc', kc'⟩ up = ⟨(T2.nodes.set i ⟨xj'.take q ++ up :: xj'.drop q, kj'⟩).set i ⟨xj'.take q ++ up :: xj'.drop q, kj'.take (q + 1) ++ r :: kj'.drop (q + 1)⟩, T2.free, T2.root, T2.count⟩ := by unfold splitT; rw [hadd, List.set_set]; rfl
    rw [hv]
    exact .end _ [_] (.t0 rfl) .rfl ⟨_, rfl, rfl, ⟨pn15, some ⟨nb2, 0, none⟩, nc2, _, fa2, fc2, fit2, ⟨Row.of npad rfl hnp15 hcp15 hmx, hrf, hok, hnd15, by rw [hln15, hln12]; first | done | rfl⟩⟩⟩ (fun w ho => by simpa [List.append_assoc] using (subl (.cons_cons _ (.cons_cons _ (.cons_cons _ (.cons_cons _ (.cons _ (.cons _ (.cons _ (.cons _ (.cons _ (.cons_cons _ .slnil)))))))))) w ho))
  · skip
    have hl36 : ¬ kc'.length = 0 := h36_4
    refine .v (.not rfl) rfl ?_
    refine .nil ?_
    refine .then ?_
    refine .condT rfl ?_
    refine .seq ?_
    refine .region ?_
    refine .v (.fab fl68_1 rfl) rfl ?_
    refine .v (.ldb ty58 rfl (.there (.there .here)) rfl) rfl ?_
    refine .v ((.sfl kc' 3 sl58 rfl rfl ⟨rfl, by omega⟩)) rfl ?_
    refine .lend (.make rfl rfl (Try.call42 _) (fun G hle hG => (clone_K (kc'.drop 3) _ _ G (Sl.drop (hkc.sl encK_ok (fun b_ hb_ => hG b_ (Inn.mem (.there (.there (.there (.there (.there (.there (.part (sub_k hc)))))))) b_ hb_))) (i := 3) (by omega)) (by rw [List.length_drop]; omega)).mono (fun v M H _ ⟨it, h1, _, h2⟩ => ⟨it, h1, h2⟩))) rfl ?_
    rintro _ it16 ⟨a16, c16, rfl, hr16⟩
    refine .v (.fab fl68_1 rfl) rfl ?_
    refine .st (.stb ty58 rfl rfl rfl st1 (.there .here)) ?_
    refine .nil ?_
    refine .then ?_
    refine .region ?_
    refine .v (.fab fl68_1 rfl) rfl ?_
    refine .v (.ldb ty58 rfl (.there (.there (.there .here))) rfl) rfl ?_
    refine .v ((.stl kc' 3 sl58 rfl rfl ⟨rfl, by omega, hkc.cap⟩)) rfl ?_
    refine .lend (.make rfl rfl (Try.call42 _) (fun G hle hG => (clone_K (kc'.take 3) _ _ G (Sl.take (hkc.sl encK_ok (fun b_ hb_ => hG b_ (Inn.mem (.there (.there (.there (.there (.there (.there (.there (.part (sub_k hc))))))))) b_ hb_))) 3) (by rw [List.length_take]; omega)).mono (fun v M H _ ⟨it, h1, _, h2⟩ => ⟨it, h1, h2⟩))) rfl ?_
    rintro _ it17 ⟨a17, c17, rfl, hr17⟩
    refine .v (.fab fl68_1 rfl) rfl ?_
    refine .st (.stb ty58 rfl rfl rfl st1 (.there (.there (.there (.there .here))))) ?_
    refine .nil ?_
    refine .then ?_
    refine .seq ?_
    refine .region ?_
    refine .v (.fa0 fl68_0 rfl) rfl ?_
    refine .v (.ldb ty22 rfl (.there (.there (.there (.there .here)))) rfl) rfl ?_
    refine .v (.ixo sl22 rfl rfl (2) ⟨by omega, by have h_ := (List.getElem?_eq_some_iff.1 hupc).1; omega⟩) rfl ?_
    refine .v (.ldm _ ty47 rfl (.there (.there (.there (.there (.there (.there (.there (.there (.part (sub_p hc)))))))))) rfl (fun j_ v_ hj_ => encP_ok.get xc' (2) _ hupc dpc j_ v_ hj_)) rfl ?_
    refine .nb (.alloc ty47 rfl) rfl (fun b18 => ?_)
    refine .st (.stw ty47 rfl rfl rfl rfl rfl .here) ?_
    refine .nil ?_
    refine .then ?_
    refine .seq ?_
    refine .region ?_
    refine .v (.fa0 fl68_0 rfl) rfl ?_
    refine .v (.ldb ty22 rfl (.there (.there (.there (.there (.there .here))))) rfl) rfl ?_
    refine .v ((.stl xc' 2 sl22 rfl rfl ⟨rfl, by omega, hpc.cap⟩)) rfl ?_
    refine .lend (.make rfl rfl (Try.call41 _) (fun G hle hG => (clone_P (xc'.take 2) _ _ G (Sl.take (hpc.sl encP_ok (fun b_ hb_ => hG b_ (Inn.mem (.there (.there (.there (.there (.there (.there (.there (.there (.there (.part (sub_p hc))))))))))) b_ hb_))) 2) (by rw [List.length_take]; omega)).mono (fun v M H _ ⟨it, h1, _, h2⟩ => ⟨it, h1, h2⟩))) rfl ?_
    rintro _ it19 ⟨a19, c19, rfl, hr19⟩
    refine .v (.fa0 fl68_0 rfl) rfl ?_
    refine .st (.stb ty22 rfl rfl rfl st0 (.there (.there (.there (.there (.there (.there .here))))))) ?_
    refine .nil ?_
    refine .then ?_
    refine .seq ?_
    refine .draw [[], [0], [1], [2], [], [], [3, 4, 0, 1, 2, 3, 4, 5], [6, 5, 0, 1, 2, 3, 4, 5]] [] (by kernel_rfl) (by kernel_rfl) rfl (e1 := [(0, _), (1, _), (2, _), (6, _), (7, _), (8, _), (9, _)]) (.cons rfl rfl (.cons rfl rfl (.cons rfl rfl (.cons rfl rfl (.cons rfl rfl (.cons rfl rfl (.cons rfl rfl .nil))))))) (fun x hx => by cases hx) rfl ?_
    refine .v (i := 0) [] rfl rfl rfl .nil (.n (.mv rfl)) ?_
    refine .v (i := 1) [(57, _)] rfl rfl rfl (.cons (.head _) rfl rfl .nil) (.n (.nilc rfl)) ?_
    refine .v (i := 2) [(58, _)] rfl rfl rfl (.cons (.head _) rfl rfl .nil) (.n (.fa0 fl60_0 rfl)) ?_
    refine .v (i := 3) [(59, _)] rfl rfl rfl (.cons (.head _) rfl rfl .nil) (.n (.ldb ty57 rfl (.there (.there (.there (.there (.there (.there (.there .here))))))) rfl)) ?_
    refine .v (i := 4) [] rfl rfl rfl .nil (.n (.mv rfl)) ?_
    refine .v (i := 5) [] rfl rfl rfl .nil (.n (.ldw ty68 rfl (.there (.there (.there (.there (.there (.there .here)))))) rfl)) ?_
    refine .tail0 6 [[6, 3, 4, 0, 1, 2, 5], [7, 6, 5, 0, 1, 2, 3, 4]] rfl rfl rfl rfl (e' := [(62, _), (61, _), (60, _), (59, _), (58, _), (57, _), (0, _), (1, _), (2, _), (6, _), (7, _), (8, _), (9, _)]) rfl ?_
    refine .v (.ixo sl57 rfl rfl (c) ⟨rfl, by have h_ := (List.getElem?_eq_some_iff.1 hc).1; omega⟩) rfl ?_
    refine .st (.stp (vs := encN ⟨⟨xc'.take 2, a19, c19, it19⟩, ⟨kc'.take 3, a17, c17, it17⟩⟩) (cs' := (pn.set c ⟨⟨xc'.take 2, a19, c19, it19⟩, ⟨kc'.take 3, a17, c17, it17⟩⟩).flatMap encN ++ npad) ty68 rfl rfl rfl rfl (encN_ok.one ⟨⟨xc'.take 2, a19, c19, it19⟩, ⟨kc'.take 3, a17, c17, it17⟩⟩) (by have h_ := (List.getElem?_eq_some_iff.1 hc).1; rw [List.length_append, encN_ok.fl]; omega) (by rw [show c * 2 + 2 = (c + 1) * 2 by omega]; exact encN_ok.put pn npad c (List.getElem?_eq_some_iff.1 hc).1 ⟨⟨xc'.take 2, a19, c19, it19⟩, ⟨kc'.take 3, a17, c17, it17⟩⟩) (.there (.there (.there (.there (.there (.there (.there (.there .here))))))))) ?_
    refine .front (.there (.there (.there (.there (.there (.there (.there (.there (.there (.there .here)))))))))) ?_
    refine .front (.there (.there (.there .here))) ?_
    refine .front (.there (.there .here)) ?_
    refine .join ?_
    refine .place (m := ⟨⟨xc'.take 2, a19, c19, it19⟩, ⟨kc'.take 3, a17, c17, it17⟩⟩) hc ?_
    have hlf : leftN ⟨xc', kc'⟩ = ⟨xc'.take 2, kc'.take 3⟩ := by unfold leftN; rw [if_neg (by omega)]
    obtain ⟨pn20, hpn20⟩ : ∃ x, x = pn.set c ⟨⟨xc'.take 2, a19, c19, it19⟩, ⟨kc'.take 3, a17, c17, it17⟩⟩ := ⟨_, rfl⟩
    rw [← hpn20]
    have hx20 := set_get' hpn20 hc
    have hy20_i := set_other' hpn20 hci hi
    replace hok : ∀ n ∈ pn20, n.Ok := by rw [hpn20]; exact set_ok hok ⟨hr19, hr17⟩
    have hnd20 : pn20.map PN.nd = T.nodes.set c ⟨xc'.take 2, kc'.take 3⟩ := by rw [hpn20, List.map_set, hnd]; rfl
    have hln20 : pn20.length = pn.length := by rw [hpn20, List.length_set]
    have hcp20 : pn20.length ≤ nc := by omega
    have hnp20 : npad.length = (nc - pn20.length) * 2 := by rw [hln20]; exact hnp
    rw [← hlf] at hnd20
    refine .nil ?_
    refine .then ?_
    refine .seq ?_
    refine .region ?_
    refine .v (.mv rfl) rfl ?_
    refine .v (.ldw ty68 rfl (.there (.there (.there .here))) rfl) rfl ?_
    have hL1 : Lies b (T.setN c (leftN ⟨xc', kc'⟩)) ([⟨b, 60, [.slice (some ⟨nb, 0, none⟩) pn.length nc, .slice fa T.free.length fc, .int .i64 (T.root : Int), .int .i64 (T.count : Int)]⟩] ++ ([⟨nb, 68, pn20.flatMap encN ++ npad⟩] ++ (fit ++ own pn20))) := ⟨pn20, some ⟨nb, 0, none⟩, nc, _, fa, fc, fit, ⟨Row.of npad rfl hnp20 hcp20 hmx, hrf, hok, hnd20, by rw [hln20]; first | done | rfl⟩⟩
    refine .front (.there (.there (.there (.there (.there (.there (.there (.there .here)))))))) ?_
    refine .join ?_
    refine .front (.there (.there (.there (.there (.there (.there (.there .here))))))) ?_
    refine .join ?_
    refine .front (.there (.there (.there (.there (.there (.there .here)))))) ?_
    refine .join ?_
    refine .front (.there (.there .here)) ?_
    refine .front (.there (.there (.there (.there .here)))) ?_
    refine .join ?_
    refine .front (.there .here) ?_
    refine .join ?_
    obtain ⟨T2, r, hadd⟩ : ∃ T2 r, addL (T.setN c (leftN ⟨xc', kc'⟩)) (rightN ⟨xc', kc'⟩) = (T2, r) := ⟨_, _, rfl⟩
    have hrg : rightN ⟨xc', kc'⟩ = ⟨xc'.drop 3, kc'.drop 3⟩ := by unfold rightN; rw [if_neg (by omega)]
    refine .lend (.lend rfl rfl (Try.call34 _) _ (fun _ => .here) (fun G hle hG => (add_fn b _ _ G hL1 (⟨⟨xc'.drop 3, a2, c2, it2⟩, ⟨kc'.drop 3, a16, c16, it16⟩⟩ : PN) ⟨hr2, hr16⟩ (fun x hx => by rw [show (T.setN c (leftN ⟨xc', kc'⟩)).nodes.length = T.nodes.length from List.length_set]; exact (hfree x hx).1) (by rw [show (T.setN c (leftN ⟨xc', kc'⟩)).nodes.length = T.nodes.length from List.length_set]; omega)).mono (fun v M H _ ⟨it, h1, _, h2⟩ => ⟨it, h1, h2⟩))) rfl ?_
    rintro _ itq ⟨hL2, rfl⟩
    rw [show ((⟨⟨xc'.drop 3, a2, c2, it2⟩, ⟨kc'.drop 3, a16, c16, it16⟩⟩ : PN) : PN).nd = rightN ⟨xc', kc'⟩ from hrg.symm, hadd] at hL2
    rw [show ((⟨⟨xc'.drop 3, a2, c2, it2⟩, ⟨kc'.drop 3, a16, c16, it16⟩⟩ : PN) : PN).nd = rightN ⟨xc', kc'⟩ from hrg.symm, hadd]
    have hg2 := addL_get (T := T.setN c (leftN ⟨xc', kc'⟩)) (n := rightN ⟨xc', kc'⟩) (i := i) (m := ⟨xi', ki'⟩) (set_other hci hni) (fun hf => (hfree i hf).2 rfl)
    have hl2 := addL_len (T.setN c (leftN ⟨xc', kc'⟩)) (rightN ⟨xc', kc'⟩)
    rw [show (T.setN c (leftN ⟨xc', kc'⟩)).nodes.length = T.nodes.length from List.length_set] at hl2
    rw [hadd] at hg2 hl2
    dsimp only at hg2 hl2
    clear hnd hok hrn hrf hln hmx hcp hfm hfcp
    obtain ⟨pn2, na2, nc2, nit2, fa2, fc2, fit2, hP2⟩ := hL2
    obtain ⟨hrn, hrf, hok, hnd, rfl⟩ := hP2
    have hln : pn2.length = T2.nodes.length := by rw [← hnd, List.length_map]
    have hmx := hrn.max
    have hcp := hrn.cap
    obtain ⟨nb2, npad, rfl, rfl, hnp⟩ := hrn.blk (by have := (List.getElem?_eq_some_iff.1 hg2).1; omega)
    obtain ⟨nj, hj, ej⟩ := nd_get hnd hg2
    have hoj := get_ok hok hj
    obtain ⟨⟨xj', apj, cpj, ipj⟩, ⟨kj', akj, ckj, ikj⟩⟩ := nj
    obtain ⟨rfl, rfl⟩ : xj' = xi' ∧ kj' = ki' := by simpa [PN.nd] using ej
    have hpj : Row 47 encP 2 apj cpj xj' ipj := hoj.p
    have hkj : Row 3 encK 1 akj ckj kj' ikj := hoj.k
    obtain ⟨bkj, dkj, rfl, rfl, hdkj⟩ := hkj.blk (by omega)
    refine .parts ?_
    refine .v (.asn rfl) rfl ?_
    refine .nil ?_
    refine .then ?_
    refine .seq ?_
    refine .region ?_
    refine .v (.mv rfl) rfl ?_
    refine .v (.nilc rfl) rfl ?_
    refine .v (.fa0 fl60_0 rfl) rfl ?_
    refine .v (.ldb ty57 rfl .here rfl) rfl ?_
    refine .v (.mv rfl) rfl ?_
    refine .v (.ixo sl57 rfl rfl (i) ⟨rfl, by have h_ := (List.getElem?_eq_some_iff.1 hj).1; omega⟩) rfl ?_
    refine .v (.asn rfl) rfl ?_
    refine .nil ?_
    refine .then ?_
    refine .seq ?_
    refine .draw [[], [], [1], [2], [3], [], [], [6], [4, 5, 7], [0, 0, 1, 2, 3, 4, 5, 6, 7, 8], [9, 0, 1, 2, 3, 4, 5, 6, 7, 8], [10, 8, 8, 0, 1, 2, 3, 4, 5, 6, 7, 8]] [] (by kernel_rfl) (by kernel_rfl) rfl (e1 := [(2, _), (9, _), (10, _), (11, _)]) (.cons rfl rfl (.cons rfl rfl (.cons rfl rfl (.cons rfl rfl .nil)))) (fun x hx => by cases hx) rfl ?_
    refine .v (i := 0) [] rfl rfl rfl .nil (.n (.mv rfl)) ?_
    refine .v (i := 1) [] rfl rfl rfl .nil (.n (.mv rfl)) ?_
    refine .v (i := 2) [(74, _)] rfl rfl rfl (.cons (.head _) rfl rfl .nil) (.n (.nilc rfl)) ?_
    refine .v (i := 3) [(75, _)] rfl rfl rfl (.cons (.head _) rfl rfl .nil) (.n (.fa0 fl68_0 rfl)) ?_
    refine .v (i := 4) [(76, _)] rfl rfl rfl (.cons (.head _) rfl rfl .nil) (.n (.ldb (v := .slice (apj) (xj').length (cpj)) ty22 rfl (.there .here) (encN_ok.get pn2 i _ hj npad 0 _ rfl))) ?_
    refine .v (i := 5) [] rfl rfl rfl .nil (.n (.mv rfl)) ?_
    refine .v (i := 6) [] rfl rfl rfl .nil (.n (.ldw ty47 rfl (.there (.there (.there (.there .here)))) rfl)) ?_
    refine .e (i := 7) [(79, _)] [7, 6] rfl rfl rfl (.cons (.head _) rfl rfl .nil) rfl rfl rfl .n (.lit1 sl22 ty47 rfl rfl rfl rfl rfl) ?_
    rintro _ _ Gs22 _ ⟨b21, rfl, rfl, hGs_⟩
    subst Gs22
    refine ⟨.skip rfl (.again [] rfl .nil (.n (.mv rfl)) (.again [(76, _)] rfl (.cons (.tail _ (.tail _ (.tail _ (.head _)))) rfl rfl .nil) (.n (.ldb (v := .slice (apj) (xj').length (cpj)) ty22 rfl (.there (.there .here)) (encN_ok.get pn2 i _ hj npad 0 _ rfl))) (.again [(75, _)] rfl (.cons (.tail _ (.tail _ (.tail _ (.tail _ (.head _))))) rfl rfl .nil) (.n (.fa0 fl68_0 rfl)) (.again [(74, _)] rfl (.cons (.tail _ (.tail _ (.tail _ (.tail _ (.tail _ (.head _)))))) rfl rfl .nil) (.n (.nilc rfl)) (.again [] rfl .nil (.n (.mv rfl)) (.again [] rfl .nil (.n (.mv rfl)) .nil)))))), rfl, ?_⟩
    refine .e (i := 8) [(77, _), (78, _), (80, _)] [8, 4, 5, 7, 3, 6, 2, 1] rfl rfl rfl (.cons (.tail _ (.tail _ (.tail _ (.head _)))) rfl rfl (.cons (.tail _ (.tail _ (.head _))) rfl rfl (.cons (.head _) rfl rfl .nil))) rfl rfl rfl .n (.lend rfl rfl (Try.call38 _) _ (fun _ => (.there (.there (.there (.there (upd_p hj _)))))) (fun G hle hG => (insert_P xj' (up) (q) _ _ _ b21 G hpj (hG ⟨b21, 47, _⟩ (Inn.ob .here)) (by omega) (by omega)).mono (fun v M H _ ⟨it, h1, _, h2⟩ => ⟨it, h1, h2⟩))) ?_
    rintro _ _ Gs24 _ ⟨it23, rfl, hGs_, ⟨a23, c23, rfl, hr23⟩⟩
    subst Gs24
    refine ⟨.skip rfl (.skip rfl (.skip rfl (.skip rfl (.skip rfl (.skip rfl (.skip rfl (.again [] rfl .nil (.n (.mv rfl)) .nil))))))), rfl, ?_⟩
    refine .tail0 9 [[9, 0, 1, 2, 3, 4, 5, 6, 7, 8], [10, 9, 0, 1, 2, 3, 4, 5, 6, 7, 8], [11, 10, 8, 0, 1, 2, 3, 4, 5, 6, 7, 9]] rfl rfl rfl rfl (e' := [(81, _), (80, _), (79, _), (78, _), (77, _), (76, _), (75, _), (74, _), (73, _), (2, _), (9, _), (10, _), (11, _)]) rfl ?_
    refine .v (.nilc rfl) rfl ?_
    refine .v (.fa0 fl68_0 rfl) rfl ?_
    refine .st (.stp (vs := [.slice a23 (xj'.take q ++ up :: xj'.drop q).length c23]) (cs' := (pn2.set i ⟨⟨xj'.take q ++ up :: xj'.drop q, a23, c23, it23⟩, ⟨kj', some ⟨bkj, 0, none⟩, ckj, [⟨bkj, 3, kj'.flatMap encK ++ dkj⟩]⟩⟩).flatMap encN ++ npad) ty22 rfl rfl rfl rfl (by simp [Value.oneCell']) (by have h_ := (List.getElem?_eq_some_iff.1 hj).1; rw [List.length_append, encN_ok.fl]; omega) (encN_ok.put1 (j := 0) hj (by decide) rfl) (.there (.there .here))) ?_
    rw [own_same_p pn2 i _ ⟨xj'.take q ++ up :: xj'.drop q, a23, c23, it23⟩]
    obtain ⟨pn25, hpn25⟩ : ∃ x, x = pn2.set i ⟨⟨xj'.take q ++ up :: xj'.drop q, a23, c23, it23⟩, ⟨kj', some ⟨bkj, 0, none⟩, ckj, [⟨bkj, 3, kj'.flatMap encK ++ dkj⟩]⟩⟩ := ⟨_, rfl⟩
    rw [← hpn25]
    have hx25 := set_get' hpn25 hj
    replace hok : ∀ n ∈ pn25, n.Ok := by rw [hpn25]; exact set_ok hok ⟨hr23, hkj⟩
    have hnd25 : pn25.map PN.nd = T2.nodes.set i ⟨xj'.take q ++ up :: xj'.drop q, kj'⟩ := by rw [hpn25, List.map_set, hnd]; rfl
    have hln25 : pn25.length = pn2.length := by rw [hpn25, List.length_set]
    have hcp25 : pn25.length ≤ nc2 := by omega
    have hnp25 : npad.length = (nc2 - pn25.length) * 2 := by rw [hln25]; exact hnp
    have hpj_25 := hr23
    have hkj_25 := hkj
    refine .nil ?_
    refine .then ?_
    refine .region ?_
    refine .v (.mv rfl) rfl ?_
    refine .v (.mv rfl) rfl ?_
    refine .v (.nilc rfl) rfl ?_
    refine .v (.fae fl68_1 rfl) rfl ?_
    refine .v (.ldb (v := .slice (some ⟨bkj, 0, none⟩) (kj').length (ckj)) ty58 rfl (.there (.there .here)) (encN_ok.get pn25 i _ hx25 npad 1 _ rfl)) rfl ?_
    refine .v (.mv rfl) rfl ?_
    refine .v (.add rfl rfl (by omega)) rfl ?_
    refine .v (.mv rfl) rfl ?_
    refine .nb (.lit1 sl58 ty3 rfl rfl rfl rfl rfl) rfl (fun b26 => ?_)
    refine .lend (.lend rfl rfl (Try.call43 _) _ (fun _ => (.there (.there (.there (.there (.there (upd_k hx25 _))))))) (fun G hle hG => (insert_K kj' (r) (q + 1) _ _ _ b26 G hkj_25 (hG ⟨b26, 3, _⟩ (Inn.ob .here)) (by omega) (by omega)).mono (fun v M H _ ⟨it, h1, _, h2⟩ => ⟨it, h1, h2⟩))) rfl ?_
    rintro _ it27 ⟨a27, c27, rfl, hr27⟩
    refine .v (.nilc rfl) rfl ?_
    refine .v (.fae fl68_1 rfl) rfl ?_
    refine .st (.stp (vs := [.slice a27 (kj'.take (q + 1) ++ r :: kj'.drop (q + 1)).length c27]) (cs' := (pn25.set i ⟨⟨xj'.take q ++ up :: xj'.drop q, a23, c23, it23⟩, ⟨kj'.take (q + 1) ++ r :: kj'.drop (q + 1), a27, c27, it27⟩⟩).flatMap encN ++ npad) ty58 rfl rfl rfl rfl (by simp [Value.oneCell']) (by have h_ := (List.getElem?_eq_some_iff.1 hx25).1; rw [List.length_append, encN_ok.fl]; omega) (encN_ok.put1 (j := 1) hx25 (by decide) rfl) (.there (.there (.there .here)))) ?_
    rw [own_same_k pn25 i _ ⟨kj'.take (q + 1) ++ r :: kj'.drop (q + 1), a27, c27, it27⟩]
    obtain ⟨pn28, hpn28⟩ : ∃ x, x = pn25.set i ⟨⟨xj'.take q ++ up :: xj'.drop q, a23, c23, it23⟩, ⟨kj'.take (q + 1) ++ r :: kj'.drop (q + 1), a27, c27, it27⟩⟩ := ⟨_, rfl⟩
    rw [← hpn28]
    have hx28 := set_get' hpn28 hx25
    replace hok : ∀ n ∈ pn28, n.Ok := by rw [hpn28]; exact set_ok hok ⟨hpj_25, hr27⟩
    have hnd28 : pn28.map PN.nd = (T2.nodes.set i ⟨xj'.take q ++ up :: xj'.drop q, kj'⟩).set i ⟨xj'.take q ++ up :: xj'.drop q, kj'.take (q + 1) ++ r :: kj'.drop (q + 1)⟩ := by rw [hpn28, List.map_set, hnd25]; rfl
    have hln28 : pn28.length = pn25.length := by rw [hpn28, List.length_set]
    have hcp28 : pn28.length ≤ nc2 := by omega
    have hnp28 : npad.length = (nc2 - pn28.length) * 2 := by rw [hln28]; exact hnp25
    have hkj_25_28 := hr27
    have hpj_25_28 := hpj_25
    refine .nil ?_
    refine .front (.there (.there (.there (.there (.there .here))))) ?_
    refine .front (.there (.there (.there (.there (.there .here))))) ?_
    refine .front (.there (.there (.there (.there (.there .here))))) ?_
    refine .front (.there (.there (.there (.there (.there .here))))) ?_
    have hv : splitT T i q c ⟨xj', kj'⟩ ⟨xc', kc'⟩ up = ⟨(T2.nodes.set i ⟨xj'.take q ++ up :: xj'.drop q, kj'⟩).set i ⟨xj'.take q ++ up :: xj'.drop q, kj'.take (q + 1) ++ r :: kj'.drop (q + 1)⟩, T2.free, T2.root, T2.count⟩ := by unfold splitT; rw [hadd, List.set_set]; rfl
    rw [hv]
    exact .end _ [_] (.t0 rfl) .rfl ⟨_, rfl, rfl, ⟨pn28, some ⟨nb2, 0, none⟩, nc2, _, fa2, fc2, fit2, ⟨Row.of npad rfl hnp28 hcp28 hmx, hrf, hok, hnd28, by rw [hln28, hln25]; first | done | rfl⟩⟩⟩ (fun w ho => by simpa [List.append_assoc] using (subl (.cons_cons _ (.cons_cons _ (.cons_cons _ (.cons_cons _ (.cons _ (.cons _ (.cons _ (.cons _ (.cons _ (.cons_cons _ .slnil)))))))))) w ho))
end Go.Proofs.Ytbmpdccoffkjgaa.Ow
