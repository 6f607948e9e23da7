/- Walks. -/
import Derived.Test.YtbmpdccoffkjgaaBl
import Derived.Test.YtbmpdccoffkjgaaBtx
import Derived.Test.YtbmpdccoffkjgaaTyu
namespace Go.Proofs.Ytbmpdccoffkjgaa.Ow
open Go
set_option linter.unusedVariables false
theorem keys_fn (b b3 b7 : Nat) (pn : List PN) (na : Option Addr) (nc : Nat) (w1 w2 w3 v7 : Value) (ks : List Nat) (ak : Option Addr) (ck : Nat) (F : Mem) (h3 : Rd F b3 0 [.pointer (some ⟨b, 0, none⟩)]) (hb : Rd F b 0 [.slice na pn.length nc, w1, w2, w3]) (h7 : Rd F b7 0 [v7, .slice ak ks.length ck]) (hN : Sl F encN 2 na nc pn) (hK : Sl F encK 1 ak ck ks) (k c : Nat) (n : PN) (hk : ks[k]? = some c) (hc : pn[c]? = some n) : Fn Try.prog 57 #[.int .i64 (k : Int), .pointer (some ⟨b3, 0, none⟩), .pointer (some ⟨b7, 0, none⟩)] [] F (fun u _ _ => u = .int .i64 (n.p.xs.length : Int)) := by
  have hkl := (List.getElem?_eq_some_iff.1 hk).1
  have hcl := (List.getElem?_eq_some_iff.1 hc).1
  refine Fn.start0 Try.func57 rfl Try.ntmps57 rfl (env := [(0, _), (1, _), (2, _)]) rfl ?_
  intro R
  refine .seq ?_
  refine .region ?_
  refine .v (.asn rfl) rfl ?_
  refine .nil ?_
  refine .then ?_
  refine .seq ?_
  refine .draw [[], [0], [1], [2], [], [4], [], [5, 6], [7], [3, 8], [9], [10], [11], [12, 0, 1, 2, 3, 4, 5, 6, 7, 8, 9, 10, 11, 12]] [] (by kernel_rfl) (by kernel_rfl) rfl (e1 := [(0, _), (1, _), (2, _), (4, _)]) (.cons rfl rfl (.cons rfl rfl (.cons rfl rfl (.cons rfl rfl .nil)))) (fun x hx => by cases hx) rfl ?_
  refine .v (i := 0) [] rfl rfl rfl .nil (.n (.ldr0 ty28 rfl h3 rfl)) ?_
  refine .v (i := 1) [(5, _)] rfl rfl rfl (.cons (.head _) rfl rfl .nil) (.n (.nilc rfl)) ?_
  refine .v (i := 2) [(6, _)] rfl rfl rfl (.cons (.head _) rfl rfl .nil) (.n (.fa0 fl60_0 rfl)) ?_
  refine .v (i := 3) [(7, _)] rfl rfl rfl (.cons (.head _) rfl rfl .nil) (.n (.ldr0 ty57 rfl hb rfl)) ?_
  refine .v (i := 4) [] rfl rfl rfl .nil (.n (.fae fl68_1 rfl)) ?_
  refine .v (i := 5) [(9, _)] rfl rfl rfl (.cons (.head _) rfl rfl .nil) (.n (.ldr (j := 1) ty58 rfl h7 rfl)) ?_
  refine .v (i := 6) [] rfl rfl rfl .nil (.n (.mv rfl)) ?_
  refine .ix (i := 7) (j := (k : Int)) [(10, _), (11, _)] rfl rfl rfl (.cons (.tail _ (.head _)) rfl rfl (.cons (.head _) rfl rfl .nil)) hK c ⟨by omega, hk⟩ (fun b_ o_ hr_ ha_ hle_ => .n (.ixs sl58 rfl rfl ⟨by omega, hk⟩ ha_ hle_)) (fun p1 o2 r3 => ?_)
  refine .v (i := 8) [(12, _)] rfl rfl rfl (.cons (.head _) rfl rfl .nil) (.n (.ldr0 ty3 rfl r3 rfl)) ?_
  refine .tail0 9 [[9, 3, 8, 2, 7, 1, 5, 6, 0, 4], [10, 9, 3, 8, 2, 7, 1, 5, 6, 0, 4], [11, 10, 9, 3, 8, 2, 7, 1, 5, 6, 0, 4], [12, 11, 10, 9, 3, 8, 2, 7, 1, 5, 6, 0, 4], [13, 12, 0, 1, 2, 3, 4, 5, 6, 7, 8, 9, 10, 11]] rfl rfl rfl rfl (e' := [(13, _), (12, _), (11, _), (10, _), (9, _), (8, _), (7, _), (6, _), (5, _), (0, _), (1, _), (2, _), (4, _)]) rfl ?_
  refine .ix sl57 rfl rfl hN rfl n ⟨by omega, hc⟩ (fun p4 o5 r6 => ?_)
  refine .v (.fa0 fl68_0 rfl) rfl ?_
  refine .v (.ldr0 ty22 rfl r6 rfl) rfl ?_
  refine .v (.lenl Try.underlying22 rfl) rfl ?_
  refine .v (.asn rfl) rfl ?_
  refine .nil ?_
  refine .then ?_
  refine .ret ?_
  exact .done _ [] (.t1 rfl rfl) .rfl rfl (Inn.keep .here)
theorem feed_1 (b : Nat) (T : TS) (it : Itm) (F : Mem) (hT : Lies b T it) (i q : Nat) (xi : List Pr) (ki : List Nat) (t : Nat) (xt : List Pr) (kt : List Nat) (hni : T.nodes[i]? = some ⟨xi, ki⟩) (hxil : xi.length ≤ 5) (hkil : ki.length ≤ 6) (hfb : T.free.length ≤ 1099511627776) (hqt : ki[q]? = some t) (hnt : T.nodes[t]? = some ⟨xt, kt⟩) (hti : t ≠ i) (hxtl : xt.length ≤ 5) (hktl : kt.length ≤ 6) (h2t : 2 < xt.length) : Fn Try.prog 50 #[.pointer (some ⟨b, 0, none⟩), .int .i64 (i : Int), .int .i64 (q : Int)] [it] F (fun v M G => ∃ it', M = [it'] ∧ G = F ∧ Lies b (T) it' ∧ v = .int .i64 (t : Int)) := by
  obtain ⟨pn, na, nc, nit, fa, fc, fit, hP⟩ := hT
  obtain ⟨hrn, hrf, hok, hnd, rfl⟩ := hP
  have hln : pn.length = T.nodes.length := by rw [← hnd, List.length_map]
  have hmx := hrn.max
  have hcp := hrn.cap
  have hfm := hrf.max
  have hfcp := hrf.cap
  have hL0 : Lies b T (⟨b, 60, [.slice na pn.length nc, .slice fa T.free.length fc, .int .i64 (T.root : Int), .int .i64 (T.count : Int)]⟩ :: (nit ++ (fit ++ own pn))) := ⟨pn, na, nc, nit, fa, fc, fit, ⟨hrn, hrf, hok, hnd, rfl⟩⟩
  have hib := (List.getElem?_eq_some_iff.1 hni).1
  obtain ⟨nb, npad, rfl, rfl, hnp⟩ := hrn.blk (by omega)
  have hkl0 := (List.getElem?_eq_some_iff.1 hqt).1
  obtain ⟨ni, hi, ei⟩ := nd_get hnd hni
  have hoi := get_ok hok hi
  obtain ⟨⟨xi', api, cpi, ipi⟩, ⟨ki', aki, cki, iki⟩⟩ := ni
  obtain ⟨rfl, rfl⟩ : xi' = xi ∧ ki' = ki := by simpa [PN.nd] using ei
  have hpi : Row 47 encP 2 api cpi xi' ipi := hoi.p
  have hki : Row 3 encK 1 aki cki ki' iki := hoi.k
  obtain ⟨bki, dki, rfl, rfl, hdki⟩ := hki.blk (by omega)
  obtain ⟨nt, ht, et⟩ := nd_get hnd hnt
  have hot := get_ok hok ht
  obtain ⟨⟨xt', apt, cpt, ipt⟩, ⟨kt', akt, ckt, ikt⟩⟩ := nt
  obtain ⟨rfl, rfl⟩ : xt' = xt ∧ kt' = kt := by simpa [PN.nd] using et
  have hpt : Row 47 encP 2 apt cpt xt' ipt := hot.p
  have hkt : Row 3 encK 1 akt ckt kt' ikt := hot.k
  refine Fn.start1 Try.func50 rfl Try.ntmps50 rfl (env := [(0, _), (1, _), (2, _)]) rfl ?_
  intro R
  refine .items (L' := [[⟨b, 60, _⟩], [⟨nb, 68, _⟩], fit, own pn, R]) (fun w ho => by simpa [List.append_assoc] using ho) ?_
  refine .seq ?_
  refine .region ?_
  refine .nb (.box rfl rfl) rfl (fun b1 => ?_)
  refine .v (.asn rfl) rfl ?_
  refine .nil ?_
  refine .then ?_
  refine .seq ?_
  refine .region ?_
  refine .v (.ldb ty28 rfl .here rfl) rfl ?_
  refine .v (.nilc rfl) rfl ?_
  refine .v (.fa0 fl60_0 rfl) rfl ?_
  refine .v (.ldb ty57 rfl (.there .here) rfl) rfl ?_
  refine .v (.mv rfl) rfl ?_
  refine .v (.ixo sl57 rfl rfl (i) ⟨rfl, by have h_ := (List.getElem?_eq_some_iff.1 hi).1; omega⟩) rfl ?_
  refine .v (.ldm [.slice (api) (xi').length (cpi), .slice (some ⟨bki, 0, none⟩) (ki').length (cki)] ty68 rfl (.there (.there .here)) rfl (fun j_ v_ hj_ => encN_ok.get pn i _ hi npad j_ v_ hj_)) rfl ?_
  refine .nb (.alloc ty68 rfl) rfl (fun b2 => ?_)
  refine .st (.stw ty68 rfl rfl rfl rfl rfl .here) ?_
  refine .nil ?_
  refine .then ?_
  refine .seq ?_
  refine .region ?_
  refine .v (.mkf (caps := [.pointer (some ⟨b1, 0, none⟩), .pointer (some ⟨b2, 0, none⟩)]) rfl) rfl ?_
  refine .v (.asn rfl) rfl ?_
  refine .nil ?_
  refine .then ?_
  refine .seq ?_
  refine .block ?_
  refine .seq ?_
  refine .region ?_
  refine .v (.mv rfl) rfl ?_
  refine .v (.mv rfl) rfl ?_
  refine .v (.callc (v := .int .i64 (xt'.length : Int)) (args := [.int .i64 ((q : Nat) : Int)]) (caps := [.pointer (some ⟨b1, 0, none⟩), .pointer (some ⟨b2, 0, none⟩)]) rfl rfl (Try.call57 _) (fun G hle hG => keys_fn b b1 b2 pn _ _ _ _ _ _ ki' _ _ G (Rd.of0 (hG ⟨b1, 28, [_]⟩ (Inn.ob (.there .here)))) (Rd.of0 (hG ⟨b, 60, [_, _, _, _]⟩ (Inn.ob (.there (.there .here))))) (Rd.of0 (hG ⟨b2, 68, [_, _]⟩ (Inn.ob .here))) (hrn.sl encN_ok (fun b_ hb_ => hG b_ (Inn.mem (.there (.there (.there .here))) b_ hb_))) (hki.sl encK_ok (fun b_ hb_ => hG b_ (Inn.mem (.there (.there (.there (.there (.there (.part (sub_k hi))))))) b_ hb_))) (q) _ _ hqt ht)) rfl ?_
  refine .vT (.gt rfl rfl) rfl (by omega) ?_
  refine .v (.asn rfl) rfl ?_
  refine .nil ?_
  refine .then ?_
  refine .condT rfl ?_
  refine .skip ?_
  refine .blk ?_
  refine .then ?_
  refine .seq ?_
  refine .region ?_
  refine .v (.ldb ty28 rfl (.there .here) rfl) rfl ?_
  refine .v (.nilc rfl) rfl ?_
  refine .v (.fa0 fl60_0 rfl) rfl ?_
  refine .v (.ldb ty57 rfl (.there (.there .here)) rfl) rfl ?_
  refine .v (.mv rfl) rfl ?_
  refine .v (.ixo sl57 rfl rfl (i) ⟨rfl, by have h_ := (List.getElem?_eq_some_iff.1 hi).1; omega⟩) rfl ?_
  refine .v (.fae fl68_1 rfl) rfl ?_
  refine .v (.ldb (v := .slice (some ⟨bki, 0, none⟩) (ki').length (cki)) ty58 rfl (.there (.there (.there .here))) (encN_ok.get pn i _ hi npad 1 _ rfl)) rfl ?_
  refine .v (.mv rfl) rfl ?_
  refine .v (.ixo sl58 rfl rfl (q) ⟨rfl, by have h_ := (List.getElem?_eq_some_iff.1 hqt).1; omega⟩) rfl ?_
  refine .v (.ldb ty3 rfl (.there (.there (.there (.there (.there (.part (sub_k hi))))))) (encK_ok.get ki' (q) _ hqt dki 0 _ rfl)) rfl ?_
  refine .v (.asn rfl) rfl ?_
  refine .nil ?_
  refine .then ?_
  refine .ret ?_
  refine .front (.there (.there (.there (.there (.there .here))))) ?_
  refine .front (.there (.there (.there (.there (.there .here))))) ?_
  refine .front (.there (.there (.there (.there (.there .here))))) ?_
  refine .front (.there (.there (.there (.there (.there .here))))) ?_
  exact .done _ [_] (.t1 rfl rfl) .rfl ⟨_, rfl, rfl, hL0, rfl⟩ (fun w ho => by simpa [List.append_assoc] using (subl (.cons_cons _ (.cons_cons _ (.cons_cons _ (.cons_cons _ (.cons _ (.cons _ (.cons_cons _ .slnil))))))) w ho))
theorem feed_2 (b : Nat) (T : TS) (it : Itm) (F : Mem) (hT : Lies b T it) (i q : Nat) (xi : List Pr) (ki : List Nat) (t : Nat) (xt : List Pr) (kt : List Nat) (hni : T.nodes[i]? = some ⟨xi, ki⟩) (hxil : xi.length ≤ 5) (hkil : ki.length ≤ 6) (hfb : T.free.length ≤ 1099511627776) (hqt : ki[q]? = some t) (hnt : T.nodes[t]? = some ⟨xt, kt⟩) (hti : t ≠ i) (hxtl : xt.length ≤ 5) (hktl : kt.length ≤ 6) (f : Nat) (xf : List Pr) (kf : List Nat) (p u : Pr) (h2t : xt.length ≤ 2) (h1q : 1 ≤ q) (hqf : ki[q - 1]? = some f) (hnf : T.nodes[f]? = some ⟨xf, kf⟩) (h2f : 2 < xf.length) (hxfl : xf.length ≤ 5) (hkfl : kf.length ≤ 6) (hfi : f ≠ i) (htf : t ≠ f) (hp : xi[q - 1]? = some p) (hu : xf[xf.length - 1]? = some u) : Fn Try.prog 50 #[.pointer (some ⟨b, 0, none⟩), .int .i64 (i : Int), .int .i64 (q : Int)] [it] F (fun v M G => ∃ it', M = [it'] ∧ G = F ∧ Lies b (lendL T i q t f ⟨xi, ki⟩ ⟨xt, kt⟩ ⟨xf, kf⟩ p u) it' ∧ v = .int .i64 (t : Int)) := by
  obtain ⟨pn, na, nc, nit, fa, fc, fit, hP⟩ := hT
  obtain ⟨hrn, hrf, hok, hnd, rfl⟩ := hP
  have hln : pn.length = T.nodes.length := by rw [← hnd, List.length_map]
  have hmx := hrn.max
  have hcp := hrn.cap
  have hfm := hrf.max
  have hfcp := hrf.cap
  have hL0 : Lies b T (⟨b, 60, [.slice na pn.length nc, .slice fa T.free.length fc, .int .i64 (T.root : Int), .int .i64 (T.count : Int)]⟩ :: (nit ++ (fit ++ own pn))) := ⟨pn, na, nc, nit, fa, fc, fit, ⟨hrn, hrf, hok, hnd, rfl⟩⟩
  have hib := (List.getElem?_eq_some_iff.1 hni).1
  obtain ⟨nb, npad, rfl, rfl, hnp⟩ := hrn.blk (by omega)
  have hkl0 := (List.getElem?_eq_some_iff.1 hqt).1
  obtain ⟨ni, hi, ei⟩ := nd_get hnd hni
  have hoi := get_ok hok hi
  obtain ⟨⟨xi', api, cpi, ipi⟩, ⟨ki', aki, cki, iki⟩⟩ := ni
  obtain ⟨rfl, rfl⟩ : xi' = xi ∧ ki' = ki := by simpa [PN.nd] using ei
  have hpi : Row 47 encP 2 api cpi xi' ipi := hoi.p
  have hki : Row 3 encK 1 aki cki ki' iki := hoi.k
  obtain ⟨bki, dki, rfl, rfl, hdki⟩ := hki.blk (by omega)
  obtain ⟨nt, ht, et⟩ := nd_get hnd hnt
  have hot := get_ok hok ht
  obtain ⟨⟨xt', apt, cpt, ipt⟩, ⟨kt', akt, ckt, ikt⟩⟩ := nt
  obtain ⟨rfl, rfl⟩ : xt' = xt ∧ kt' = kt := by simpa [PN.nd] using et
  have hpt : Row 47 encP 2 apt cpt xt' ipt := hot.p
  have hkt : Row 3 encK 1 akt ckt kt' ikt := hot.k
  obtain ⟨nf, hf, ef⟩ := nd_get hnd hnf
  have hof := get_ok hok hf
  obtain ⟨⟨xf', apf, cpf, ipf⟩, ⟨kf', akf, ckf, ikf⟩⟩ := nf
  obtain ⟨rfl, rfl⟩ : xf' = xf ∧ kf' = kf := by simpa [PN.nd] using ef
  have hpf : Row 47 encP 2 apf cpf xf' ipf := hof.p
  have hkf : Row 3 encK 1 akf ckf kf' ikf := hof.k
  refine Fn.start1 Try.func50 rfl Try.ntmps50 rfl (env := [(0, _), (1, _), (2, _)]) rfl ?_
  intro R
  refine .items (L' := [[⟨b, 60, _⟩], [⟨nb, 68, _⟩], fit, own pn, R]) (fun w ho => by simpa [List.append_assoc] using ho) ?_
  refine .seq ?_
  refine .region ?_
  refine .nb (.box rfl rfl) rfl (fun b1 => ?_)
  refine .v (.asn rfl) rfl ?_
  refine .nil ?_
  refine .then ?_
  refine .seq ?_
  refine .region ?_
  refine .v (.ldb ty28 rfl .here rfl) rfl ?_
  refine .v (.nilc rfl) rfl ?_
  refine .v (.fa0 fl60_0 rfl) rfl ?_
  refine .v (.ldb ty57 rfl (.there .here) rfl) rfl ?_
  refine .v (.mv rfl) rfl ?_
  refine .v (.ixo sl57 rfl rfl (i) ⟨rfl, by have h_ := (List.getElem?_eq_some_iff.1 hi).1; omega⟩) rfl ?_
  refine .v (.ldm [.slice (api) (xi').length (cpi), .slice (some ⟨bki, 0, none⟩) (ki').length (cki)] ty68 rfl (.there (.there .here)) rfl (fun j_ v_ hj_ => encN_ok.get pn i _ hi npad j_ v_ hj_)) rfl ?_
  refine .nb (.alloc ty68 rfl) rfl (fun b2 => ?_)
  refine .st (.stw ty68 rfl rfl rfl rfl rfl .here) ?_
  refine .nil ?_
  refine .then ?_
  refine .seq ?_
  refine .region ?_
  refine .v (.mkf (caps := [.pointer (some ⟨b1, 0, none⟩), .pointer (some ⟨b2, 0, none⟩)]) rfl) rfl ?_
  refine .v (.asn rfl) rfl ?_
  refine .nil ?_
  refine .then ?_
  refine .seq ?_
  refine .block ?_
  refine .seq ?_
  refine .region ?_
  refine .v (.mv rfl) rfl ?_
  refine .v (.mv rfl) rfl ?_
  refine .v (.callc (v := .int .i64 (xt'.length : Int)) (args := [.int .i64 ((q : Nat) : Int)]) (caps := [.pointer (some ⟨b1, 0, none⟩), .pointer (some ⟨b2, 0, none⟩)]) rfl rfl (Try.call57 _) (fun G hle hG => keys_fn b b1 b2 pn _ _ _ _ _ _ ki' _ _ G (Rd.of0 (hG ⟨b1, 28, [_]⟩ (Inn.ob (.there .here)))) (Rd.of0 (hG ⟨b, 60, [_, _, _, _]⟩ (Inn.ob (.there (.there .here))))) (Rd.of0 (hG ⟨b2, 68, [_, _]⟩ (Inn.ob .here))) (hrn.sl encN_ok (fun b_ hb_ => hG b_ (Inn.mem (.there (.there (.there .here))) b_ hb_))) (hki.sl encK_ok (fun b_ hb_ => hG b_ (Inn.mem (.there (.there (.there (.there (.there (.part (sub_k hi))))))) b_ hb_))) (q) _ _ hqt ht)) rfl ?_
  refine .vF (.gt rfl rfl) rfl (by omega) ?_
  refine .v (.asn rfl) rfl ?_
  refine .nil ?_
  refine .then ?_
  refine .condF rfl ?_
  refine .seq ?_
  refine .region ?_
  refine .v (.mv rfl) rfl ?_
  refine .vT (.gt rfl rfl) rfl (by omega) ?_
  refine .v (.mv rfl) rfl ?_
  refine .g rfl rfl rfl ?_
  refine .v (.mv rfl) rfl ?_
  refine .g rfl rfl rfl ?_
  refine .v (.mv rfl) rfl ?_
  refine .g rfl rfl rfl ?_
  refine .v (.sub rfl rfl (by omega)) rfl ?_
  refine .kn (t := 32) (v := .int .i64 ((q - 1 : Nat) : Int)) rfl (congrArg (Value.int .i64) (by omega)) ?_
  refine .g rfl rfl rfl ?_
  refine .v (.callc (v := .int .i64 (xf'.length : Int)) (args := [.int .i64 ((q - 1 : Nat) : Int)]) (caps := [.pointer (some ⟨b1, 0, none⟩), .pointer (some ⟨b2, 0, none⟩)]) rfl rfl (Try.call57 _) (fun G hle hG => keys_fn b b1 b2 pn _ _ _ _ _ _ ki' _ _ G (Rd.of0 (hG ⟨b1, 28, [_]⟩ (Inn.ob (.there .here)))) (Rd.of0 (hG ⟨b, 60, [_, _, _, _]⟩ (Inn.ob (.there (.there .here))))) (Rd.of0 (hG ⟨b2, 68, [_, _]⟩ (Inn.ob .here))) (hrn.sl encN_ok (fun b_ hb_ => hG b_ (Inn.mem (.there (.there (.there .here))) b_ hb_))) (hki.sl encK_ok (fun b_ hb_ => hG b_ (Inn.mem (.there (.there (.there (.there (.there (.part (sub_k hi))))))) b_ hb_))) (q - 1) _ _ hqf hf)) rfl ?_
  refine .g rfl rfl rfl ?_
  refine .vT (.gt rfl rfl) rfl (by omega) ?_
  refine .v (.pkT rfl rfl) rfl ?_
  refine .v (.asn rfl) rfl ?_
  refine .nil ?_
  refine .then ?_
  refine .condT rfl ?_
  refine .region ?_
  refine .v (.ldb ty28 rfl (.there .here) rfl) rfl ?_
  refine .v (.mv rfl) rfl ?_
  refine .v (.mv rfl) rfl ?_
  refine .front (.there (.there (.there (.there (.there .here))))) ?_
  refine .front (.there (.there (.there (.there (.there .here))))) ?_
  refine .join ?_
  refine .front (.there (.there (.there (.there .here)))) ?_
  refine .join ?_
  refine .front (.there (.there (.there .here))) ?_
  refine .join ?_
  refine .lend (.lend rfl rfl (Try.call58 _) _ (fun _ => .here) (fun G hle hG => (lendL_fn b T _ G hL0 i q t f xi' ki' xt' kt' xf' kf' p u hqf h1q hp hu hni hqt hnt hnf hti hfi htf (by omega) (by omega) (by omega) (by omega) (by omega) (by omega)).mono (fun v M H _ ⟨it, h1, _, h2⟩ => ⟨it, h1, h2⟩))) rfl ?_
  rintro _ itq hL2
  have hL9 := hL2
  obtain ⟨T, hTT⟩ : ∃ T_, T_ = lendL T i q t f ⟨xi', ki'⟩ ⟨xt', kt'⟩ ⟨xf', kf'⟩ p u := ⟨_, rfl⟩
  rw [← hTT] at hL2
  obtain ⟨xn, kn, hat, hxe, hke⟩ : ∃ x_ k_, T.nodes[i]? = some ⟨x_, k_⟩ ∧ x_ = xi'.set (q - 1) u ∧ k_ = ki' := ⟨_, _, by rw [hTT]; exact lendL_at hib hfi, rfl, rfl⟩
  have hkq9 : kn[q]? = some t := by rw [hke]; exact hqt
  clear hnd hok hrn hrf hln hmx hcp hfm hfcp hL0
  obtain ⟨pn, na, nc, nit, fa, fc, fit, hP⟩ := hL2
  obtain ⟨hrn, hrf, hok, hnd, rfl⟩ := hP
  have hln : pn.length = T.nodes.length := by rw [← hnd, List.length_map]
  have hmx := hrn.max
  have hcp := hrn.cap
  have hfm := hrf.max
  have hfcp := hrf.cap
  have hib9 := (List.getElem?_eq_some_iff.1 hat).1
  have hkl9 := (List.getElem?_eq_some_iff.1 hkq9).1
  obtain ⟨nb, npad, rfl, rfl, hnp⟩ := hrn.blk (by omega)
  obtain ⟨nn, hn, en⟩ := nd_get hnd hat
  have hon := get_ok hok hn
  obtain ⟨⟨xn', apn, cpn, ipn⟩, ⟨kn', akn, ckn, ikn⟩⟩ := nn
  obtain ⟨rfl, rfl⟩ : xn' = xn ∧ kn' = kn := by simpa [PN.nd] using en
  have hpn : Row 47 encP 2 apn cpn xn' ipn := hon.p
  have hkn : Row 3 encK 1 akn ckn kn' ikn := hon.k
  obtain ⟨bkn, dkn, rfl, rfl, hdkn⟩ := hkn.blk (by omega)
  refine .parts ?_
  refine .nil ?_
  refine .blk ?_
  refine .then ?_
  refine .seq ?_
  refine .region ?_
  refine .v (.ldb ty28 rfl (.there (.there (.there (.there (.there .here))))) rfl) rfl ?_
  refine .v (.nilc rfl) rfl ?_
  refine .v (.fa0 fl60_0 rfl) rfl ?_
  refine .v (.ldb ty57 rfl .here rfl) rfl ?_
  refine .v (.mv rfl) rfl ?_
  refine .v (.ixo sl57 rfl rfl (i) ⟨rfl, by have h_ := (List.getElem?_eq_some_iff.1 hn).1; omega⟩) rfl ?_
  refine .v (.fae fl68_1 rfl) rfl ?_
  refine .v (.ldb (v := .slice (some ⟨bkn, 0, none⟩) (kn').length (ckn)) ty58 rfl (.there .here) (encN_ok.get pn i _ hn npad 1 _ rfl)) rfl ?_
  refine .v (.mv rfl) rfl ?_
  refine .v (.ixo sl58 rfl rfl (q) ⟨rfl, by have h_ := (List.getElem?_eq_some_iff.1 hkq9).1; omega⟩) rfl ?_
  refine .v (.ldb ty3 rfl (.there (.there (.there (.part (sub_k hn))))) (encK_ok.get kn' (q) _ hkq9 dkn 0 _ rfl)) rfl ?_
  refine .v (.asn rfl) rfl ?_
  refine .nil ?_
  refine .then ?_
  refine .ret ?_
  refine .front (.there (.there (.there .here))) ?_
  refine .front (.there (.there (.there .here))) ?_
  refine .join ?_
  refine .front (.there (.there .here)) ?_
  refine .join ?_
  refine .front (.there .here) ?_
  refine .join ?_
  exact .done _ [_] (.t1 rfl rfl) .rfl ⟨_, rfl, rfl, hL9, rfl⟩ (fun w ho => by simpa [List.append_assoc] using (subl (.cons_cons _ (.cons _ (.cons _ (.cons_cons _ .slnil)))) w ho))
theorem feed_3a (b : Nat) (T : TS) (it : Itm) (F : Mem) (hT : Lies b T it) (i q : Nat) (xi : List Pr) (ki : List Nat) (t : Nat) (xt : List Pr) (kt : List Nat) (hni : T.nodes[i]? = some ⟨xi, ki⟩) (hxil : xi.length ≤ 5) (hkil : ki.length ≤ 6) (hfb : T.free.length ≤ 1099511627776) (hqt : ki[q]? = some t) (hnt : T.nodes[t]? = some ⟨xt, kt⟩) (hti : t ≠ i) (hxtl : xt.length ≤ 5) (hktl : kt.length ≤ 6) (f : Nat) (xf : List Pr) (kf : List Nat) (p u : Pr) (h2t : xt.length ≤ 2) (hq0 : q = 0) (hqf : ki[q + 1]? = some f) (hnf : T.nodes[f]? = some ⟨xf, kf⟩) (h2f : 2 < xf.length) (hxfl : xf.length ≤ 5) (hkfl : kf.length ≤ 6) (hfi : f ≠ i) (htf : t ≠ f) (hp : xi[q]? = some p) (hu : xf[0]? = some u) : Fn Try.prog 50 #[.pointer (some ⟨b, 0, none⟩), .int .i64 (i : Int), .int .i64 (q : Int)] [it] F (fun v M G => ∃ it', M = [it'] ∧ G = F ∧ Lies b (lendR T i q t f ⟨xi, ki⟩ ⟨xt, kt⟩ ⟨xf, kf⟩ p u) it' ∧ v = .int .i64 (t : Int)) := by
  obtain ⟨pn, na, nc, nit, fa, fc, fit, hP⟩ := hT
  obtain ⟨hrn, hrf, hok, hnd, rfl⟩ := hP
  have hln : pn.length = T.nodes.length := by rw [← hnd, List.length_map]
  have hmx := hrn.max
  have hcp := hrn.cap
  have hfm := hrf.max
  have hfcp := hrf.cap
  have hL0 : Lies b T (⟨b, 60, [.slice na pn.length nc, .slice fa T.free.length fc, .int .i64 (T.root : Int), .int .i64 (T.count : Int)]⟩ :: (nit ++ (fit ++ own pn))) := ⟨pn, na, nc, nit, fa, fc, fit, ⟨hrn, hrf, hok, hnd, rfl⟩⟩
  have hib := (List.getElem?_eq_some_iff.1 hni).1
  obtain ⟨nb, npad, rfl, rfl, hnp⟩ := hrn.blk (by omega)
  have hkl0 := (List.getElem?_eq_some_iff.1 hqt).1
  have hkl1 := (List.getElem?_eq_some_iff.1 hqf).1
  obtain ⟨ni, hi, ei⟩ := nd_get hnd hni
  have hoi := get_ok hok hi
  obtain ⟨⟨xi', api, cpi, ipi⟩, ⟨ki', aki, cki, iki⟩⟩ := ni
  obtain ⟨rfl, rfl⟩ : xi' = xi ∧ ki' = ki := by simpa [PN.nd] using ei
  have hpi : Row 47 encP 2 api cpi xi' ipi := hoi.p
  have hki : Row 3 encK 1 aki cki ki' iki := hoi.k
  obtain ⟨bki, dki, rfl, rfl, hdki⟩ := hki.blk (by omega)
  obtain ⟨nt, ht, et⟩ := nd_get hnd hnt
  have hot := get_ok hok ht
  obtain ⟨⟨xt', apt, cpt, ipt⟩, ⟨kt', akt, ckt, ikt⟩⟩ := nt
  obtain ⟨rfl, rfl⟩ : xt' = xt ∧ kt' = kt := by simpa [PN.nd] using et
  have hpt : Row 47 encP 2 apt cpt xt' ipt := hot.p
  have hkt : Row 3 encK 1 akt ckt kt' ikt := hot.k
  obtain ⟨nf, hf, ef⟩ := nd_get hnd hnf
  have hof := get_ok hok hf
  obtain ⟨⟨xf', apf, cpf, ipf⟩, ⟨kf', akf, ckf, ikf⟩⟩ := nf
  obtain ⟨rfl, rfl⟩ : xf' = xf ∧ kf' = kf := by simpa [PN.nd] using ef
  have hpf : Row 47 encP 2 apf cpf xf' ipf := hof.p
  have hkf : Row 3 encK 1 akf ckf kf' ikf := hof.k
  refine Fn.start1 Try.func50 rfl Try.ntmps50 rfl (env := [(0, _), (1, _), (2, _)]) rfl ?_
  intro R
  refine .items (L' := [[⟨b, 60, _⟩], [⟨nb, 68, _⟩], fit, own pn, R]) (fun w ho => by simpa [List.append_assoc] using ho) ?_
  refine .seq ?_
  refine .region ?_
  refine .nb (.box rfl rfl) rfl (fun b1 => ?_)
  refine .v (.asn rfl) rfl ?_
  refine .nil ?_
  refine .then ?_
  refine .seq ?_
  refine .region ?_
  refine .v (.ldb ty28 rfl .here rfl) rfl ?_
  refine .v (.nilc rfl) rfl ?_
  refine .v (.fa0 fl60_0 rfl) rfl ?_
  refine .v (.ldb ty57 rfl (.there .here) rfl) rfl ?_
  refine .v (.mv rfl) rfl ?_
  refine .v (.ixo sl57 rfl rfl (i) ⟨rfl, by have h_ := (List.getElem?_eq_some_iff.1 hi).1; omega⟩) rfl ?_
  refine .v (.ldm [.slice (api) (xi').length (cpi), .slice (some ⟨bki, 0, none⟩) (ki').length (cki)] ty68 rfl (.there (.there .here)) rfl (fun j_ v_ hj_ => encN_ok.get pn i _ hi npad j_ v_ hj_)) rfl ?_
  refine .nb (.alloc ty68 rfl) rfl (fun b2 => ?_)
  refine .st (.stw ty68 rfl rfl rfl rfl rfl .here) ?_
  refine .nil ?_
  refine .then ?_
  refine .seq ?_
  refine .region ?_
  refine .v (.mkf (caps := [.pointer (some ⟨b1, 0, none⟩), .pointer (some ⟨b2, 0, none⟩)]) rfl) rfl ?_
  refine .v (.asn rfl) rfl ?_
  refine .nil ?_
  refine .then ?_
  refine .seq ?_
  refine .block ?_
  refine .seq ?_
  refine .region ?_
  refine .v (.mv rfl) rfl ?_
  refine .v (.mv rfl) rfl ?_
  refine .v (.callc (v := .int .i64 (xt'.length : Int)) (args := [.int .i64 ((q : Nat) : Int)]) (caps := [.pointer (some ⟨b1, 0, none⟩), .pointer (some ⟨b2, 0, none⟩)]) rfl rfl (Try.call57 _) (fun G hle hG => keys_fn b b1 b2 pn _ _ _ _ _ _ ki' _ _ G (Rd.of0 (hG ⟨b1, 28, [_]⟩ (Inn.ob (.there .here)))) (Rd.of0 (hG ⟨b, 60, [_, _, _, _]⟩ (Inn.ob (.there (.there .here))))) (Rd.of0 (hG ⟨b2, 68, [_, _]⟩ (Inn.ob .here))) (hrn.sl encN_ok (fun b_ hb_ => hG b_ (Inn.mem (.there (.there (.there .here))) b_ hb_))) (hki.sl encK_ok (fun b_ hb_ => hG b_ (Inn.mem (.there (.there (.there (.there (.there (.part (sub_k hi))))))) b_ hb_))) (q) _ _ hqt ht)) rfl ?_
  refine .vF (.gt rfl rfl) rfl (by omega) ?_
  refine .v (.asn rfl) rfl ?_
  refine .nil ?_
  refine .then ?_
  refine .condF rfl ?_
  refine .seq ?_
  refine .region ?_
  refine .v (.mv rfl) rfl ?_
  refine .vF (.gt rfl rfl) rfl (by omega) ?_
  refine .v (.mv rfl) rfl ?_
  refine .gs rfl rfl rfl rfl ?_
  refine .gs rfl rfl rfl rfl ?_
  refine .gs rfl rfl rfl rfl ?_
  refine .gs rfl rfl rfl rfl ?_
  refine .gs rfl rfl rfl rfl ?_
  refine .v (.pkF rfl rfl) rfl ?_
  refine .v (.asn rfl) rfl ?_
  refine .nil ?_
  refine .then ?_
  refine .condF rfl ?_
  refine .seq ?_
  refine .region ?_
  refine .v (.mv rfl) rfl ?_
  refine .v (.add rfl rfl (by omega)) rfl ?_
  refine .v (.fab fl68_1 rfl) rfl ?_
  refine .v (.ldb ty58 rfl .here rfl) rfl ?_
  refine .v (.lenl Try.underlying58 rfl) rfl ?_
  refine .vT (.lt rfl rfl) rfl (by omega) ?_
  refine .v (.mv rfl) rfl ?_
  refine .g rfl rfl rfl ?_
  refine .v (.mv rfl) rfl ?_
  refine .g rfl rfl rfl ?_
  refine .v (.mv rfl) rfl ?_
  refine .g rfl rfl rfl ?_
  refine .v (.add rfl rfl (by omega)) rfl ?_
  refine .kn (t := 50) (v := .int .i64 ((q + 1 : Nat) : Int)) rfl (congrArg (Value.int .i64) (by omega)) ?_
  refine .g rfl rfl rfl ?_
  refine .v (.callc (v := .int .i64 (xf'.length : Int)) (args := [.int .i64 ((q + 1 : Nat) : Int)]) (caps := [.pointer (some ⟨b1, 0, none⟩), .pointer (some ⟨b2, 0, none⟩)]) rfl rfl (Try.call57 _) (fun G hle hG => keys_fn b b1 b2 pn _ _ _ _ _ _ ki' _ _ G (Rd.of0 (hG ⟨b1, 28, [_]⟩ (Inn.ob (.there .here)))) (Rd.of0 (hG ⟨b, 60, [_, _, _, _]⟩ (Inn.ob (.there (.there .here))))) (Rd.of0 (hG ⟨b2, 68, [_, _]⟩ (Inn.ob .here))) (hrn.sl encN_ok (fun b_ hb_ => hG b_ (Inn.mem (.there (.there (.there .here))) b_ hb_))) (hki.sl encK_ok (fun b_ hb_ => hG b_ (Inn.mem (.there (.there (.there (.there (.there (.part (sub_k hi))))))) b_ hb_))) (q + 1) _ _ hqf hf)) rfl ?_
  refine .g rfl rfl rfl ?_
  refine .vT (.gt rfl rfl) rfl (by omega) ?_
  refine .v (.pkT rfl rfl) rfl ?_
  refine .v (.asn rfl) rfl ?_
  refine .nil ?_
  refine .then ?_
  refine .condT rfl ?_
  refine .region ?_
  refine .v (.ldb ty28 rfl (.there .here) rfl) rfl ?_
  refine .v (.mv rfl) rfl ?_
  refine .v (.mv rfl) rfl ?_
  refine .front (.there (.there (.there (.there (.there .here))))) ?_
  refine .front (.there (.there (.there (.there (.there .here))))) ?_
  refine .join ?_
  refine .front (.there (.there (.there (.there .here)))) ?_
  refine .join ?_
  refine .front (.there (.there (.there .here))) ?_
  refine .join ?_
  refine .lend (.lend rfl rfl (Try.call58 _) _ (fun _ => .here) (fun G hle hG => (lendR_fn b T _ G hL0 i q t f xi' ki' xt' kt' xf' kf' p u hqf hp hu hni hqt hnt hnf hti hfi htf (by omega) (by omega) (by omega) (by omega) (by omega) (by omega)).mono (fun v M H _ ⟨it, h1, _, h2⟩ => ⟨it, h1, h2⟩))) rfl ?_
  rintro _ itq hL2
  have hL9 := hL2
  obtain ⟨T, hTT⟩ : ∃ T_, T_ = lendR T i q t f ⟨xi', ki'⟩ ⟨xt', kt'⟩ ⟨xf', kf'⟩ p u := ⟨_, rfl⟩
  rw [← hTT] at hL2
  obtain ⟨xn, kn, hat, hxe, hke⟩ : ∃ x_ k_, T.nodes[i]? = some ⟨x_, k_⟩ ∧ x_ = xi'.set q u ∧ k_ = ki' := ⟨_, _, by rw [hTT]; exact lendR_at hib hfi, rfl, rfl⟩
  have hkq9 : kn[q]? = some t := by rw [hke]; exact hqt
  clear hnd hok hrn hrf hln hmx hcp hfm hfcp hL0
  obtain ⟨pn, na, nc, nit, fa, fc, fit, hP⟩ := hL2
  obtain ⟨hrn, hrf, hok, hnd, rfl⟩ := hP
  have hln : pn.length = T.nodes.length := by rw [← hnd, List.length_map]
  have hmx := hrn.max
  have hcp := hrn.cap
  have hfm := hrf.max
  have hfcp := hrf.cap
  have hib9 := (List.getElem?_eq_some_iff.1 hat).1
  have hkl9 := (List.getElem?_eq_some_iff.1 hkq9).1
  obtain ⟨nb, npad, rfl, rfl, hnp⟩ := hrn.blk (by omega)
  obtain ⟨nn, hn, en⟩ := nd_get hnd hat
  have hon := get_ok hok hn
  obtain ⟨⟨xn', apn, cpn, ipn⟩, ⟨kn', akn, ckn, ikn⟩⟩ := nn
  obtain ⟨rfl, rfl⟩ : xn' = xn ∧ kn' = kn := by simpa [PN.nd] using en
  have hpn : Row 47 encP 2 apn cpn xn' ipn := hon.p
  have hkn : Row 3 encK 1 akn ckn kn' ikn := hon.k
  obtain ⟨bkn, dkn, rfl, rfl, hdkn⟩ := hkn.blk (by omega)
  refine .parts ?_
  refine .nil ?_
  refine .blk ?_
  refine .then ?_
  refine .seq ?_
  refine .region ?_
  refine .v (.ldb ty28 rfl (.there (.there (.there (.there (.there .here))))) rfl) rfl ?_
  refine .v (.nilc rfl) rfl ?_
  refine .v (.fa0 fl60_0 rfl) rfl ?_
  refine .v (.ldb ty57 rfl .here rfl) rfl ?_
  refine .v (.mv rfl) rfl ?_
  refine .v (.ixo sl57 rfl rfl (i) ⟨rfl, by have h_ := (List.getElem?_eq_some_iff.1 hn).1; omega⟩) rfl ?_
  refine .v (.fae fl68_1 rfl) rfl ?_
  refine .v (.ldb (v := .slice (some ⟨bkn, 0, none⟩) (kn').length (ckn)) ty58 rfl (.there .here) (encN_ok.get pn i _ hn npad 1 _ rfl)) rfl ?_
  refine .v (.mv rfl) rfl ?_
  refine .v (.ixo sl58 rfl rfl (q) ⟨rfl, by have h_ := (List.getElem?_eq_some_iff.1 hkq9).1; omega⟩) rfl ?_
  refine .v (.ldb ty3 rfl (.there (.there (.there (.part (sub_k hn))))) (encK_ok.get kn' (q) _ hkq9 dkn 0 _ rfl)) rfl ?_
  refine .v (.asn rfl) rfl ?_
  refine .nil ?_
  refine .then ?_
  refine .ret ?_
  refine .front (.there (.there (.there .here))) ?_
  refine .front (.there (.there (.there .here))) ?_
  refine .join ?_
  refine .front (.there (.there .here)) ?_
  refine .join ?_
  refine .front (.there .here) ?_
  refine .join ?_
  exact .done _ [_] (.t1 rfl rfl) .rfl ⟨_, rfl, rfl, hL9, rfl⟩ (fun w ho => by simpa [List.append_assoc] using (subl (.cons_cons _ (.cons _ (.cons _ (.cons_cons _ .slnil)))) w ho))
theorem feed_3b (b : Nat) (T : TS) (it : Itm) (F : Mem) (hT : Lies b T it) (i q : Nat) (xi : List Pr) (ki : List Nat) (t : Nat) (xt : List Pr) (kt : List Nat) (hni : T.nodes[i]? = some ⟨xi, ki⟩) (hxil : xi.length ≤ 5) (hkil : ki.length ≤ 6) (hfb : T.free.length ≤ 1099511627776) (hqt : ki[q]? = some t) (hnt : T.nodes[t]? = some ⟨xt, kt⟩) (hti : t ≠ i) (hxtl : xt.length ≤ 5) (hktl : kt.length ≤ 6) (f : Nat) (xf : List Pr) (kf : List Nat) (p u : Pr) (e : Nat) (xe : List Pr) (ke : List Nat) (h2t : xt.length ≤ 2) (h1q : 1 ≤ q) (hqe : ki[q - 1]? = some e) (hne : T.nodes[e]? = some ⟨xe, ke⟩) (h2e : xe.length ≤ 2) (hqf : ki[q + 1]? = some f) (hnf : T.nodes[f]? = some ⟨xf, kf⟩) (h2f : 2 < xf.length) (hxfl : xf.length ≤ 5) (hkfl : kf.length ≤ 6) (hfi : f ≠ i) (htf : t ≠ f) (hp : xi[q]? = some p) (hu : xf[0]? = some u) : Fn Try.prog 50 #[.pointer (some ⟨b, 0, none⟩), .int .i64 (i : Int), .int .i64 (q : Int)] [it] F (fun v M G => ∃ it', M = [it'] ∧ G = F ∧ Lies b (lendR T i q t f ⟨xi, ki⟩ ⟨xt, kt⟩ ⟨xf, kf⟩ p u) it' ∧ v = .int .i64 (t : Int)) := by
  obtain ⟨pn, na, nc, nit, fa, fc, fit, hP⟩ := hT
  obtain ⟨hrn, hrf, hok, hnd, rfl⟩ := hP
  have hln : pn.length = T.nodes.length := by rw [← hnd, List.length_map]
  have hmx := hrn.max
  have hcp := hrn.cap
  have hfm := hrf.max
  have hfcp := hrf.cap
  have hL0 : Lies b T (⟨b, 60, [.slice na pn.length nc, .slice fa T.free.length fc, .int .i64 (T.root : Int), .int .i64 (T.count : Int)]⟩ :: (nit ++ (fit ++ own pn))) := ⟨pn, na, nc, nit, fa, fc, fit, ⟨hrn, hrf, hok, hnd, rfl⟩⟩
  have hib := (List.getElem?_eq_some_iff.1 hni).1
  obtain ⟨nb, npad, rfl, rfl, hnp⟩ := hrn.blk (by omega)
  have hkl0 := (List.getElem?_eq_some_iff.1 hqt).1
  have hkl1 := (List.getElem?_eq_some_iff.1 hqf).1
  obtain ⟨ni, hi, ei⟩ := nd_get hnd hni
  have hoi := get_ok hok hi
  obtain ⟨⟨xi', api, cpi, ipi⟩, ⟨ki', aki, cki, iki⟩⟩ := ni
  obtain ⟨rfl, rfl⟩ : xi' = xi ∧ ki' = ki := by simpa [PN.nd] using ei
  have hpi : Row 47 encP 2 api cpi xi' ipi := hoi.p
  have hki : Row 3 encK 1 aki cki ki' iki := hoi.k
  obtain ⟨bki, dki, rfl, rfl, hdki⟩ := hki.blk (by omega)
  obtain ⟨nt, ht, et⟩ := nd_get hnd hnt
  have hot := get_ok hok ht
  obtain ⟨⟨xt', apt, cpt, ipt⟩, ⟨kt', akt, ckt, ikt⟩⟩ := nt
  obtain ⟨rfl, rfl⟩ : xt' = xt ∧ kt' = kt := by simpa [PN.nd] using et
  have hpt : Row 47 encP 2 apt cpt xt' ipt := hot.p
  have hkt : Row 3 encK 1 akt ckt kt' ikt := hot.k
  obtain ⟨nf, hf, ef⟩ := nd_get hnd hnf
  have hof := get_ok hok hf
  obtain ⟨⟨xf', apf, cpf, ipf⟩, ⟨kf', akf, ckf, ikf⟩⟩ := nf
  obtain ⟨rfl, rfl⟩ : xf' = xf ∧ kf' = kf := by simpa [PN.nd] using ef
  have hpf : Row 47 encP 2 apf cpf xf' ipf := hof.p
  have hkf : Row 3 encK 1 akf ckf kf' ikf := hof.k
  obtain ⟨ne, he, ee⟩ := nd_get hnd hne
  have hoe := get_ok hok he
  obtain ⟨⟨xe', ape, cpe, ipe⟩, ⟨ke', ake, cke, ike⟩⟩ := ne
  obtain ⟨rfl, rfl⟩ : xe' = xe ∧ ke' = ke := by simpa [PN.nd] using ee
  have hpe : Row 47 encP 2 ape cpe xe' ipe := hoe.p
  have hke : Row 3 encK 1 ake cke ke' ike := hoe.k
  refine Fn.start1 Try.func50 rfl Try.ntmps50 rfl (env := [(0, _), (1, _), (2, _)]) rfl ?_
  intro R
  refine .items (L' := [[⟨b, 60, _⟩], [⟨nb, 68, _⟩], fit, own pn, R]) (fun w ho => by simpa [List.append_assoc] using ho) ?_
  refine .seq ?_
  refine .region ?_
  refine .nb (.box rfl rfl) rfl (fun b1 => ?_)
  refine .v (.asn rfl) rfl ?_
  refine .nil ?_
  refine .then ?_
  refine .seq ?_
  refine .region ?_
  refine .v (.ldb ty28 rfl .here rfl) rfl ?_
  refine .v (.nilc rfl) rfl ?_
  refine .v (.fa0 fl60_0 rfl) rfl ?_
  refine .v (.ldb ty57 rfl (.there .here) rfl) rfl ?_
  refine .v (.mv rfl) rfl ?_
  refine .v (.ixo sl57 rfl rfl (i) ⟨rfl, by have h_ := (List.getElem?_eq_some_iff.1 hi).1; omega⟩) rfl ?_
  refine .v (.ldm [.slice (api) (xi').length (cpi), .slice (some ⟨bki, 0, none⟩) (ki').length (cki)] ty68 rfl (.there (.there .here)) rfl (fun j_ v_ hj_ => encN_ok.get pn i _ hi npad j_ v_ hj_)) rfl ?_
  refine .nb (.alloc ty68 rfl) rfl (fun b2 => ?_)
  refine .st (.stw ty68 rfl rfl rfl rfl rfl .here) ?_
  refine .nil ?_
  refine .then ?_
  refine .seq ?_
  refine .region ?_
  refine .v (.mkf (caps := [.pointer (some ⟨b1, 0, none⟩), .pointer (some ⟨b2, 0, none⟩)]) rfl) rfl ?_
  refine .v (.asn rfl) rfl ?_
  refine .nil ?_
  refine .then ?_
  refine .seq ?_
  refine .block ?_
  refine .seq ?_
  refine .region ?_
  refine .v (.mv rfl) rfl ?_
  refine .v (.mv rfl) rfl ?_
  refine .v (.callc (v := .int .i64 (xt'.length : Int)) (args := [.int .i64 ((q : Nat) : Int)]) (caps := [.pointer (some ⟨b1, 0, none⟩), .pointer (some ⟨b2, 0, none⟩)]) rfl rfl (Try.call57 _) (fun G hle hG => keys_fn b b1 b2 pn _ _ _ _ _ _ ki' _ _ G (Rd.of0 (hG ⟨b1, 28, [_]⟩ (Inn.ob (.there .here)))) (Rd.of0 (hG ⟨b, 60, [_, _, _, _]⟩ (Inn.ob (.there (.there .here))))) (Rd.of0 (hG ⟨b2, 68, [_, _]⟩ (Inn.ob .here))) (hrn.sl encN_ok (fun b_ hb_ => hG b_ (Inn.mem (.there (.there (.there .here))) b_ hb_))) (hki.sl encK_ok (fun b_ hb_ => hG b_ (Inn.mem (.there (.there (.there (.there (.there (.part (sub_k hi))))))) b_ hb_))) (q) _ _ hqt ht)) rfl ?_
  refine .vF (.gt rfl rfl) rfl (by omega) ?_
  refine .v (.asn rfl) rfl ?_
  refine .nil ?_
  refine .then ?_
  refine .condF rfl ?_
  refine .seq ?_
  refine .region ?_
  refine .v (.mv rfl) rfl ?_
  refine .vT (.gt rfl rfl) rfl (by omega) ?_
  refine .v (.mv rfl) rfl ?_
  refine .g rfl rfl rfl ?_
  refine .v (.mv rfl) rfl ?_
  refine .g rfl rfl rfl ?_
  refine .v (.mv rfl) rfl ?_
  refine .g rfl rfl rfl ?_
  refine .v (.sub rfl rfl (by omega)) rfl ?_
  refine .kn (t := 32) (v := .int .i64 ((q - 1 : Nat) : Int)) rfl (congrArg (Value.int .i64) (by omega)) ?_
  refine .g rfl rfl rfl ?_
  refine .v (.callc (v := .int .i64 (xe'.length : Int)) (args := [.int .i64 ((q - 1 : Nat) : Int)]) (caps := [.pointer (some ⟨b1, 0, none⟩), .pointer (some ⟨b2, 0, none⟩)]) rfl rfl (Try.call57 _) (fun G hle hG => keys_fn b b1 b2 pn _ _ _ _ _ _ ki' _ _ G (Rd.of0 (hG ⟨b1, 28, [_]⟩ (Inn.ob (.there .here)))) (Rd.of0 (hG ⟨b, 60, [_, _, _, _]⟩ (Inn.ob (.there (.there .here))))) (Rd.of0 (hG ⟨b2, 68, [_, _]⟩ (Inn.ob .here))) (hrn.sl encN_ok (fun b_ hb_ => hG b_ (Inn.mem (.there (.there (.there .here))) b_ hb_))) (hki.sl encK_ok (fun b_ hb_ => hG b_ (Inn.mem (.there (.there (.there (.there (.there (.part (sub_k hi))))))) b_ hb_))) (q - 1) _ _ hqe he)) rfl ?_
  refine .g rfl rfl rfl ?_
  refine .vF (.gt rfl rfl) rfl (by omega) ?_
  refine .v (.pkT rfl rfl) rfl ?_
  refine .v (.asn rfl) rfl ?_
  refine .nil ?_
  refine .then ?_
  refine .condF rfl ?_
  refine .seq ?_
  refine .region ?_
  refine .v (.mv rfl) rfl ?_
  refine .v (.add rfl rfl (by omega)) rfl ?_
  refine .v (.fab fl68_1 rfl) rfl ?_
  refine .v (.ldb ty58 rfl .here rfl) rfl ?_
  refine .v (.lenl Try.underlying58 rfl) rfl ?_
  refine .vT (.lt rfl rfl) rfl (by omega) ?_
  refine .v (.mv rfl) rfl ?_
  refine .g rfl rfl rfl ?_
  refine .v (.mv rfl) rfl ?_
  refine .g rfl rfl rfl ?_
  refine .v (.mv rfl) rfl ?_
  refine .g rfl rfl rfl ?_
  refine .v (.add rfl rfl (by omega)) rfl ?_
  refine .kn (t := 50) (v := .int .i64 ((q + 1 : Nat) : Int)) rfl (congrArg (Value.int .i64) (by omega)) ?_
  refine .g rfl rfl rfl ?_
  refine .v (.callc (v := .int .i64 (xf'.length : Int)) (args := [.int .i64 ((q + 1 : Nat) : Int)]) (caps := [.pointer (some ⟨b1, 0, none⟩), .pointer (some ⟨b2, 0, none⟩)]) rfl rfl (Try.call57 _) (fun G hle hG => keys_fn b b1 b2 pn _ _ _ _ _ _ ki' _ _ G (Rd.of0 (hG ⟨b1, 28, [_]⟩ (Inn.ob (.there .here)))) (Rd.of0 (hG ⟨b, 60, [_, _, _, _]⟩ (Inn.ob (.there (.there .here))))) (Rd.of0 (hG ⟨b2, 68, [_, _]⟩ (Inn.ob .here))) (hrn.sl encN_ok (fun b_ hb_ => hG b_ (Inn.mem (.there (.there (.there .here))) b_ hb_))) (hki.sl encK_ok (fun b_ hb_ => hG b_ (Inn.mem (.there (.there (.there (.there (.there (.part (sub_k hi))))))) b_ hb_))) (q + 1) _ _ hqf hf)) rfl ?_
  refine .g rfl rfl rfl ?_
  refine .vT (.gt rfl rfl) rfl (by omega) ?_
  refine .v (.pkT rfl rfl) rfl ?_
  refine .v (.asn rfl) rfl ?_
  refine .nil ?_
  refine .then ?_
  refine .condT rfl ?_
  refine .region ?_
  refine .v (.ldb ty28 rfl (.there .here) rfl) rfl ?_
  refine .v (.mv rfl) rfl ?_
  refine .v (.mv rfl) rfl ?_
  refine .front (.there (.there (.there (.there (.there .here))))) ?_
  refine .front (.there (.there (.there (.there (.there .here))))) ?_
  refine .join ?_
  refine .front (.there (.there (.there (.there .here)))) ?_
  refine .join ?_
  refine .front (.there (.there (.there .here))) ?_
  refine .join ?_
  refine .lend (.lend rfl rfl (Try.call58 _) _ (fun _ => .here) (fun G hle hG => (lendR_fn b T _ G hL0 i q t f xi' ki' xt' kt' xf' kf' p u hqf hp hu hni hqt hnt hnf hti hfi htf (by omega) (by omega) (by omega) (by omega) (by omega) (by omega)).mono (fun v M H _ ⟨it, h1, _, h2⟩ => ⟨it, h1, h2⟩))) rfl ?_
  rintro _ itq hL2
  have hL9 := hL2
  obtain ⟨T, hTT⟩ : ∃ T_, T_ = lendR T i q t f ⟨xi', ki'⟩ ⟨xt', kt'⟩ ⟨xf', kf'⟩ p u := ⟨_, rfl⟩
  rw [← hTT] at hL2
  obtain ⟨xn, kn, hat, hxe, hke⟩ : ∃ x_ k_, T.nodes[i]? = some ⟨x_, k_⟩ ∧ x_ = xi'.set q u ∧ k_ = ki' := ⟨_, _, by rw [hTT]; exact lendR_at hib hfi, rfl, rfl⟩
  have hkq9 : kn[q]? = some t := by rw [hke]; exact hqt
  clear hnd hok hrn hrf hln hmx hcp hfm hfcp hL0
  obtain ⟨pn, na, nc, nit, fa, fc, fit, hP⟩ := hL2
  obtain ⟨hrn, hrf, hok, hnd, rfl⟩ := hP
  have hln : pn.length = T.nodes.length := by rw [← hnd, List.length_map]
  have hmx := hrn.max
  have hcp := hrn.cap
  have hfm := hrf.max
  have hfcp := hrf.cap
  have hib9 := (List.getElem?_eq_some_iff.1 hat).1
  have hkl9 := (List.getElem?_eq_some_iff.1 hkq9).1
  obtain ⟨nb, npad, rfl, rfl, hnp⟩ := hrn.blk (by omega)
  obtain ⟨nn, hn, en⟩ := nd_get hnd hat
  have hon := get_ok hok hn
  obtain ⟨⟨xn', apn, cpn, ipn⟩, ⟨kn', akn, ckn, ikn⟩⟩ := nn
  obtain ⟨rfl, rfl⟩ : xn' = xn ∧ kn' = kn := by simpa [PN.nd] using en
  have hpn : Row 47 encP 2 apn cpn xn' ipn := hon.p
  have hkn : Row 3 encK 1 akn ckn kn' ikn := hon.k
  obtain ⟨bkn, dkn, rfl, rfl, hdkn⟩ := hkn.blk (by omega)
  refine .parts ?_
  refine .nil ?_
  refine .blk ?_
  refine .then ?_
  refine .seq ?_
  refine .region ?_
  refine .v (.ldb ty28 rfl (.there (.there (.there (.there (.there .here))))) rfl) rfl ?_
  refine .v (.nilc rfl) rfl ?_
  refine .v (.fa0 fl60_0 rfl) rfl ?_
  refine .v (.ldb ty57 rfl .here rfl) rfl ?_
  refine .v (.mv rfl) rfl ?_
  refine .v (.ixo sl57 rfl rfl (i) ⟨rfl, by have h_ := (List.getElem?_eq_some_iff.1 hn).1; omega⟩) rfl ?_
  refine .v (.fae fl68_1 rfl) rfl ?_
  refine .v (.ldb (v := .slice (some ⟨bkn, 0, none⟩) (kn').length (ckn)) ty58 rfl (.there .here) (encN_ok.get pn i _ hn npad 1 _ rfl)) rfl ?_
  refine .v (.mv rfl) rfl ?_
  refine .v (.ixo sl58 rfl rfl (q) ⟨rfl, by have h_ := (List.getElem?_eq_some_iff.1 hkq9).1; omega⟩) rfl ?_
  refine .v (.ldb ty3 rfl (.there (.there (.there (.part (sub_k hn))))) (encK_ok.get kn' (q) _ hkq9 dkn 0 _ rfl)) rfl ?_
  refine .v (.asn rfl) rfl ?_
  refine .nil ?_
  refine .then ?_
  refine .ret ?_
  refine .front (.there (.there (.there .here))) ?_
  refine .front (.there (.there (.there .here))) ?_
  refine .join ?_
  refine .front (.there (.there .here)) ?_
  refine .join ?_
  refine .front (.there .here) ?_
  refine .join ?_
  exact .done _ [_] (.t1 rfl rfl) .rfl ⟨_, rfl, rfl, hL9, rfl⟩ (fun w ho => by simpa [List.append_assoc] using (subl (.cons_cons _ (.cons _ (.cons _ (.cons_cons _ .slnil)))) w ho))
theorem feed_4a (b : Nat) (T : TS) (it : Itm) (F : Mem) (hT : Lies b T it) (i q : Nat) (xi : List Pr) (ki : List Nat) (t : Nat) (xt : List Pr) (kt : List Nat) (hni : T.nodes[i]? = some ⟨xi, ki⟩) (hxil : xi.length ≤ 5) (hkil : ki.length ≤ 6) (hfb : T.free.length ≤ 1099511627776) (hqt : ki[q]? = some t) (hnt : T.nodes[t]? = some ⟨xt, kt⟩) (hti : t ≠ i) (hxtl : xt.length ≤ 5) (hktl : kt.length ≤ 6) (l : Nat) (xl : List Pr) (kl : List Nat) (p : Pr) (h2t : xt.length ≤ 2) (h1q : 1 ≤ q) (hql : ki[q - 1]? = some l) (hnl : T.nodes[l]? = some ⟨xl, kl⟩) (h2l : xl.length ≤ 2) (hkll : kl.length ≤ 6) (hli : l ≠ i) (hlt : l ≠ t) (hkq : ki.length = q + 1) (hp : xi[q - 1]? = some p) : Fn Try.prog 50 #[.pointer (some ⟨b, 0, none⟩), .int .i64 (i : Int), .int .i64 (q : Int)] [it] F (fun v M G => ∃ it', M = [it'] ∧ G = F ∧ Lies b (mergeT T i (q - 1) l t ⟨xi, ki⟩ ⟨xl, kl⟩ ⟨xt, kt⟩ p) it' ∧ v = .int .i64 (l : Int)) := by
  obtain ⟨pn, na, nc, nit, fa, fc, fit, hP⟩ := hT
  obtain ⟨hrn, hrf, hok, hnd, rfl⟩ := hP
  have hln : pn.length = T.nodes.length := by rw [← hnd, List.length_map]
  have hmx := hrn.max
  have hcp := hrn.cap
  have hfm := hrf.max
  have hfcp := hrf.cap
  have hL0 : Lies b T (⟨b, 60, [.slice na pn.length nc, .slice fa T.free.length fc, .int .i64 (T.root : Int), .int .i64 (T.count : Int)]⟩ :: (nit ++ (fit ++ own pn))) := ⟨pn, na, nc, nit, fa, fc, fit, ⟨hrn, hrf, hok, hnd, rfl⟩⟩
  have hib := (List.getElem?_eq_some_iff.1 hni).1
  obtain ⟨nb, npad, rfl, rfl, hnp⟩ := hrn.blk (by omega)
  have hkl0 := (List.getElem?_eq_some_iff.1 hqt).1
  obtain ⟨ni, hi, ei⟩ := nd_get hnd hni
  have hoi := get_ok hok hi
  obtain ⟨⟨xi', api, cpi, ipi⟩, ⟨ki', aki, cki, iki⟩⟩ := ni
  obtain ⟨rfl, rfl⟩ : xi' = xi ∧ ki' = ki := by simpa [PN.nd] using ei
  have hpi : Row 47 encP 2 api cpi xi' ipi := hoi.p
  have hki : Row 3 encK 1 aki cki ki' iki := hoi.k
  obtain ⟨bki, dki, rfl, rfl, hdki⟩ := hki.blk (by omega)
  obtain ⟨nt, ht, et⟩ := nd_get hnd hnt
  have hot := get_ok hok ht
  obtain ⟨⟨xt', apt, cpt, ipt⟩, ⟨kt', akt, ckt, ikt⟩⟩ := nt
  obtain ⟨rfl, rfl⟩ : xt' = xt ∧ kt' = kt := by simpa [PN.nd] using et
  have hpt : Row 47 encP 2 apt cpt xt' ipt := hot.p
  have hkt : Row 3 encK 1 akt ckt kt' ikt := hot.k
  obtain ⟨nl, hl, el⟩ := nd_get hnd hnl
  have hol := get_ok hok hl
  obtain ⟨⟨xl', apl, cpl, ipl⟩, ⟨kl', akl, ckl, ikl⟩⟩ := nl
  obtain ⟨rfl, rfl⟩ : xl' = xl ∧ kl' = kl := by simpa [PN.nd] using el
  have hpl : Row 47 encP 2 apl cpl xl' ipl := hol.p
  have hkl : Row 3 encK 1 akl ckl kl' ikl := hol.k
  refine Fn.start1 Try.func50 rfl Try.ntmps50 rfl (env := [(0, _), (1, _), (2, _)]) rfl ?_
  intro R
  refine .items (L' := [[⟨b, 60, _⟩], [⟨nb, 68, _⟩], fit, own pn, R]) (fun w ho => by simpa [List.append_assoc] using ho) ?_
  refine .seq ?_
  refine .region ?_
  refine .nb (.box rfl rfl) rfl (fun b1 => ?_)
  refine .v (.asn rfl) rfl ?_
  refine .nil ?_
  refine .then ?_
  refine .seq ?_
  refine .region ?_
  refine .v (.ldb ty28 rfl .here rfl) rfl ?_
  refine .v (.nilc rfl) rfl ?_
  refine .v (.fa0 fl60_0 rfl) rfl ?_
  refine .v (.ldb ty57 rfl (.there .here) rfl) rfl ?_
  refine .v (.mv rfl) rfl ?_
  refine .v (.ixo sl57 rfl rfl (i) ⟨rfl, by have h_ := (List.getElem?_eq_some_iff.1 hi).1; omega⟩) rfl ?_
  refine .v (.ldm [.slice (api) (xi').length (cpi), .slice (some ⟨bki, 0, none⟩) (ki').length (cki)] ty68 rfl (.there (.there .here)) rfl (fun j_ v_ hj_ => encN_ok.get pn i _ hi npad j_ v_ hj_)) rfl ?_
  refine .nb (.alloc ty68 rfl) rfl (fun b2 => ?_)
  refine .st (.stw ty68 rfl rfl rfl rfl rfl .here) ?_
  refine .nil ?_
  refine .then ?_
  refine .seq ?_
  refine .region ?_
  refine .v (.mkf (caps := [.pointer (some ⟨b1, 0, none⟩), .pointer (some ⟨b2, 0, none⟩)]) rfl) rfl ?_
  refine .v (.asn rfl) rfl ?_
  refine .nil ?_
  refine .then ?_
  refine .seq ?_
  refine .block ?_
  refine .seq ?_
  refine .region ?_
  refine .v (.mv rfl) rfl ?_
  refine .v (.mv rfl) rfl ?_
  refine .v (.callc (v := .int .i64 (xt'.length : Int)) (args := [.int .i64 ((q : Nat) : Int)]) (caps := [.pointer (some ⟨b1, 0, none⟩), .pointer (some ⟨b2, 0, none⟩)]) rfl rfl (Try.call57 _) (fun G hle hG => keys_fn b b1 b2 pn _ _ _ _ _ _ ki' _ _ G (Rd.of0 (hG ⟨b1, 28, [_]⟩ (Inn.ob (.there .here)))) (Rd.of0 (hG ⟨b, 60, [_, _, _, _]⟩ (Inn.ob (.there (.there .here))))) (Rd.of0 (hG ⟨b2, 68, [_, _]⟩ (Inn.ob .here))) (hrn.sl encN_ok (fun b_ hb_ => hG b_ (Inn.mem (.there (.there (.there .here))) b_ hb_))) (hki.sl encK_ok (fun b_ hb_ => hG b_ (Inn.mem (.there (.there (.there (.there (.there (.part (sub_k hi))))))) b_ hb_))) (q) _ _ hqt ht)) rfl ?_
  refine .vF (.gt rfl rfl) rfl (by omega) ?_
  refine .v (.asn rfl) rfl ?_
  refine .nil ?_
  refine .then ?_
  refine .condF rfl ?_
  refine .seq ?_
  refine .region ?_
  refine .v (.mv rfl) rfl ?_
  refine .vT (.gt rfl rfl) rfl (by omega) ?_
  refine .v (.mv rfl) rfl ?_
  refine .g rfl rfl rfl ?_
  refine .v (.mv rfl) rfl ?_
  refine .g rfl rfl rfl ?_
  refine .v (.mv rfl) rfl ?_
  refine .g rfl rfl rfl ?_
  refine .v (.sub rfl rfl (by omega)) rfl ?_
  refine .kn (t := 32) (v := .int .i64 ((q - 1 : Nat) : Int)) rfl (congrArg (Value.int .i64) (by omega)) ?_
  refine .g rfl rfl rfl ?_
  refine .v (.callc (v := .int .i64 (xl'.length : Int)) (args := [.int .i64 ((q - 1 : Nat) : Int)]) (caps := [.pointer (some ⟨b1, 0, none⟩), .pointer (some ⟨b2, 0, none⟩)]) rfl rfl (Try.call57 _) (fun G hle hG => keys_fn b b1 b2 pn _ _ _ _ _ _ ki' _ _ G (Rd.of0 (hG ⟨b1, 28, [_]⟩ (Inn.ob (.there .here)))) (Rd.of0 (hG ⟨b, 60, [_, _, _, _]⟩ (Inn.ob (.there (.there .here))))) (Rd.of0 (hG ⟨b2, 68, [_, _]⟩ (Inn.ob .here))) (hrn.sl encN_ok (fun b_ hb_ => hG b_ (Inn.mem (.there (.there (.there .here))) b_ hb_))) (hki.sl encK_ok (fun b_ hb_ => hG b_ (Inn.mem (.there (.there (.there (.there (.there (.part (sub_k hi))))))) b_ hb_))) (q - 1) _ _ hql hl)) rfl ?_
  refine .g rfl rfl rfl ?_
  refine .vF (.gt rfl rfl) rfl (by omega) ?_
  refine .v (.pkT rfl rfl) rfl ?_
  refine .v (.asn rfl) rfl ?_
  refine .nil ?_
  refine .then ?_
  refine .condF rfl ?_
  refine .seq ?_
  refine .region ?_
  refine .v (.mv rfl) rfl ?_
  refine .v (.add rfl rfl (by omega)) rfl ?_
  refine .v (.fab fl68_1 rfl) rfl ?_
  refine .v (.ldb ty58 rfl .here rfl) rfl ?_
  refine .v (.lenl Try.underlying58 rfl) rfl ?_
  refine .vF (.lt rfl rfl) rfl (by omega) ?_
  refine .v (.mv rfl) rfl ?_
  refine .gs rfl rfl rfl rfl ?_
  refine .gs rfl rfl rfl rfl ?_
  refine .gs rfl rfl rfl rfl ?_
  refine .gs rfl rfl rfl rfl ?_
  refine .gs rfl rfl rfl rfl ?_
  refine .v (.pkF rfl rfl) rfl ?_
  refine .v (.asn rfl) rfl ?_
  refine .nil ?_
  refine .then ?_
  refine .condF rfl ?_
  refine .seq ?_
  refine .region ?_
  refine .v (.mv rfl) rfl ?_
  refine .vT (.gt rfl rfl) rfl (by omega) ?_
  refine .v (.asn rfl) rfl ?_
  refine .nil ?_
  refine .then ?_
  refine .condT rfl ?_
  refine .seq ?_
  refine .region ?_
  refine .v (.mv rfl) rfl ?_
  refine .v (.sub rfl rfl (by omega)) rfl ?_
  refine .kn (t := 62) (v := .int .i64 ((q - 1 : Nat) : Int)) rfl (congrArg (Value.int .i64) (by omega)) ?_
  refine .v (.asn rfl) rfl ?_
  refine .nil ?_
  refine .then ?_
  refine .region ?_
  refine .v (.ldb ty28 rfl (.there .here) rfl) rfl ?_
  refine .v (.mv rfl) rfl ?_
  refine .v (.mv rfl) rfl ?_
  refine .front (.there (.there (.there (.there (.there .here))))) ?_
  refine .front (.there (.there (.there (.there (.there .here))))) ?_
  refine .join ?_
  refine .front (.there (.there (.there (.there .here)))) ?_
  refine .join ?_
  refine .front (.there (.there (.there .here))) ?_
  refine .join ?_
  refine .lend (.lend rfl rfl (Try.call52 _) _ (fun _ => .here) (fun G hle hG => (merge_fn b T _ G hL0 i (q - 1) l t xi' ki' xl' kl' xt' kt' p hni hql (by rw [show q - 1 + 1 = q by omega]; exact hqt) hnl hnt hp hli hti hlt (by omega) (by omega) (by omega) (by omega) (by omega) (by omega) hfb).mono (fun v M H _ ⟨it, h1, _, h2⟩ => ⟨it, h1, h2⟩))) rfl ?_
  rintro _ itq hL2
  have hL9 := hL2
  obtain ⟨T, hTT⟩ : ∃ T_, T_ = mergeT T i (q - 1) l t ⟨xi', ki'⟩ ⟨xl', kl'⟩ ⟨xt', kt'⟩ p := ⟨_, rfl⟩
  rw [← hTT] at hL2
  obtain ⟨xn, kn, hat, hxe, hke⟩ : ∃ x_ k_, T.nodes[i]? = some ⟨x_, k_⟩ ∧ x_ = xi'.take (q - 1) ++ xi'.drop (q - 1 + 1) ∧ k_ = ki'.take (q - 1 + 1) ++ ki'.drop (q - 1 + 2) := ⟨_, _, by rw [hTT]; exact mergeT_at hib hti, rfl, rfl⟩
  have hkq9 : kn[q - 1]? = some l := by rw [hke]; rw [List.getElem?_append_left (by rw [List.length_take]; omega), List.getElem?_take, if_pos (by omega)]; exact hql
  clear hnd hok hrn hrf hln hmx hcp hfm hfcp hL0
  obtain ⟨pn, na, nc, nit, fa, fc, fit, hP⟩ := hL2
  obtain ⟨hrn, hrf, hok, hnd, rfl⟩ := hP
  have hln : pn.length = T.nodes.length := by rw [← hnd, List.length_map]
  have hmx := hrn.max
  have hcp := hrn.cap
  have hfm := hrf.max
  have hfcp := hrf.cap
  have hib9 := (List.getElem?_eq_some_iff.1 hat).1
  have hkl9 := (List.getElem?_eq_some_iff.1 hkq9).1
  obtain ⟨nb, npad, rfl, rfl, hnp⟩ := hrn.blk (by omega)
  obtain ⟨nn, hn, en⟩ := nd_get hnd hat
  have hon := get_ok hok hn
  obtain ⟨⟨xn', apn, cpn, ipn⟩, ⟨kn', akn, ckn, ikn⟩⟩ := nn
  obtain ⟨rfl, rfl⟩ : xn' = xn ∧ kn' = kn := by simpa [PN.nd] using en
  have hpn : Row 47 encP 2 apn cpn xn' ipn := hon.p
  have hkn : Row 3 encK 1 akn ckn kn' ikn := hon.k
  obtain ⟨bkn, dkn, rfl, rfl, hdkn⟩ := hkn.blk (by omega)
  refine .parts ?_
  refine .nil ?_
  refine .blk ?_
  refine .then ?_
  refine .seq ?_
  refine .region ?_
  refine .v (.ldb ty28 rfl (.there (.there (.there (.there (.there .here))))) rfl) rfl ?_
  refine .v (.nilc rfl) rfl ?_
  refine .v (.fa0 fl60_0 rfl) rfl ?_
  refine .v (.ldb ty57 rfl .here rfl) rfl ?_
  refine .v (.mv rfl) rfl ?_
  refine .v (.ixo sl57 rfl rfl (i) ⟨rfl, by have h_ := (List.getElem?_eq_some_iff.1 hn).1; omega⟩) rfl ?_
  refine .v (.fae fl68_1 rfl) rfl ?_
  refine .v (.ldb (v := .slice (some ⟨bkn, 0, none⟩) (kn').length (ckn)) ty58 rfl (.there .here) (encN_ok.get pn i _ hn npad 1 _ rfl)) rfl ?_
  refine .v (.mv rfl) rfl ?_
  refine .v (.ixo sl58 rfl rfl (q - 1) ⟨rfl, by have h_ := (List.getElem?_eq_some_iff.1 hkq9).1; omega⟩) rfl ?_
  refine .v (.ldb ty3 rfl (.there (.there (.there (.part (sub_k hn))))) (encK_ok.get kn' (q - 1) _ hkq9 dkn 0 _ rfl)) rfl ?_
  refine .v (.asn rfl) rfl ?_
  refine .nil ?_
  refine .then ?_
  refine .ret ?_
  refine .front (.there (.there (.there .here))) ?_
  refine .front (.there (.there (.there .here))) ?_
  refine .join ?_
  refine .front (.there (.there .here)) ?_
  refine .join ?_
  refine .front (.there .here) ?_
  refine .join ?_
  exact .done _ [_] (.t1 rfl rfl) .rfl ⟨_, rfl, rfl, hL9, rfl⟩ (fun w ho => by simpa [List.append_assoc] using (subl (.cons_cons _ (.cons _ (.cons _ (.cons_cons _ .slnil)))) w ho))
theorem feed_4b (b : Nat) (T : TS) (it : Itm) (F : Mem) (hT : Lies b T it) (i q : Nat) (xi : List Pr) (ki : List Nat) (t : Nat) (xt : List Pr) (kt : List Nat) (hni : T.nodes[i]? = some ⟨xi, ki⟩) (hxil : xi.length ≤ 5) (hkil : ki.length ≤ 6) (hfb : T.free.length ≤ 1099511627776) (hqt : ki[q]? = some t) (hnt : T.nodes[t]? = some ⟨xt, kt⟩) (hti : t ≠ i) (hxtl : xt.length ≤ 5) (hktl : kt.length ≤ 6) (l : Nat) (xl : List Pr) (kl : List Nat) (p : Pr) (e : Nat) (xe : List Pr) (ke : List Nat) (h2t : xt.length ≤ 2) (h1q : 1 ≤ q) (hql : ki[q - 1]? = some l) (hnl : T.nodes[l]? = some ⟨xl, kl⟩) (h2l : xl.length ≤ 2) (hkll : kl.length ≤ 6) (hli : l ≠ i) (hlt : l ≠ t) (hqe : ki[q + 1]? = some e) (hne : T.nodes[e]? = some ⟨xe, ke⟩) (h2e : xe.length ≤ 2) (hp : xi[q - 1]? = some p) : Fn Try.prog 50 #[.pointer (some ⟨b, 0, none⟩), .int .i64 (i : Int), .int .i64 (q : Int)] [it] F (fun v M G => ∃ it', M = [it'] ∧ G = F ∧ Lies b (mergeT T i (q - 1) l t ⟨xi, ki⟩ ⟨xl, kl⟩ ⟨xt, kt⟩ p) it' ∧ v = .int .i64 (l : Int)) := by
  obtain ⟨pn, na, nc, nit, fa, fc, fit, hP⟩ := hT
  obtain ⟨hrn, hrf, hok, hnd, rfl⟩ := hP
  have hln : pn.length = T.nodes.length := by rw [← hnd, List.length_map]
  have hmx := hrn.max
  have hcp := hrn.cap
  have hfm := hrf.max
  have hfcp := hrf.cap
  have hL0 : Lies b T (⟨b, 60, [.slice na pn.length nc, .slice fa T.free.length fc, .int .i64 (T.root : Int), .int .i64 (T.count : Int)]⟩ :: (nit ++ (fit ++ own pn))) := ⟨pn, na, nc, nit, fa, fc, fit, ⟨hrn, hrf, hok, hnd, rfl⟩⟩
  have hib := (List.getElem?_eq_some_iff.1 hni).1
  obtain ⟨nb, npad, rfl, rfl, hnp⟩ := hrn.blk (by omega)
  have hkl0 := (List.getElem?_eq_some_iff.1 hqt).1
  have hkl1 := (List.getElem?_eq_some_iff.1 hqe).1
  obtain ⟨ni, hi, ei⟩ := nd_get hnd hni
  have hoi := get_ok hok hi
  obtain ⟨⟨xi', api, cpi, ipi⟩, ⟨ki', aki, cki, iki⟩⟩ := ni
  obtain ⟨rfl, rfl⟩ : xi' = xi ∧ ki' = ki := by simpa [PN.nd] using ei
  have hpi : Row 47 encP 2 api cpi xi' ipi := hoi.p
  have hki : Row 3 encK 1 aki cki ki' iki := hoi.k
  obtain ⟨bki, dki, rfl, rfl, hdki⟩ := hki.blk (by omega)
  obtain ⟨nt, ht, et⟩ := nd_get hnd hnt
  have hot := get_ok hok ht
  obtain ⟨⟨xt', apt, cpt, ipt⟩, ⟨kt', akt, ckt, ikt⟩⟩ := nt
  obtain ⟨rfl, rfl⟩ : xt' = xt ∧ kt' = kt := by simpa [PN.nd] using et
  have hpt : Row 47 encP 2 apt cpt xt' ipt := hot.p
  have hkt : Row 3 encK 1 akt ckt kt' ikt := hot.k
  obtain ⟨nl, hl, el⟩ := nd_get hnd hnl
  have hol := get_ok hok hl
  obtain ⟨⟨xl', apl, cpl, ipl⟩, ⟨kl', akl, ckl, ikl⟩⟩ := nl
  obtain ⟨rfl, rfl⟩ : xl' = xl ∧ kl' = kl := by simpa [PN.nd] using el
  have hpl : Row 47 encP 2 apl cpl xl' ipl := hol.p
  have hkl : Row 3 encK 1 akl ckl kl' ikl := hol.k
  obtain ⟨ne, he, ee⟩ := nd_get hnd hne
  have hoe := get_ok hok he
  obtain ⟨⟨xe', ape, cpe, ipe⟩, ⟨ke', ake, cke, ike⟩⟩ := ne
  obtain ⟨rfl, rfl⟩ : xe' = xe ∧ ke' = ke := by simpa [PN.nd] using ee
  have hpe : Row 47 encP 2 ape cpe xe' ipe := hoe.p
  have hke : Row 3 encK 1 ake cke ke' ike := hoe.k
  refine Fn.start1 Try.func50 rfl Try.ntmps50 rfl (env := [(0, _), (1, _), (2, _)]) rfl ?_
  intro R
  refine .items (L' := [[⟨b, 60, _⟩], [⟨nb, 68, _⟩], fit, own pn, R]) (fun w ho => by simpa [List.append_assoc] using ho) ?_
  refine .seq ?_
  refine .region ?_
  refine .nb (.box rfl rfl) rfl (fun b1 => ?_)
  refine .v (.asn rfl) rfl ?_
  refine .nil ?_
  refine .then ?_
  refine .seq ?_
  refine .region ?_
  refine .v (.ldb ty28 rfl .here rfl) rfl ?_
  refine .v (.nilc rfl) rfl ?_
  refine .v (.fa0 fl60_0 rfl) rfl ?_
  refine .v (.ldb ty57 rfl (.there .here) rfl) rfl ?_
  refine .v (.mv rfl) rfl ?_
  refine .v (.ixo sl57 rfl rfl (i) ⟨rfl, by have h_ := (List.getElem?_eq_some_iff.1 hi).1; omega⟩) rfl ?_
  refine .v (.ldm [.slice (api) (xi').length (cpi), .slice (some ⟨bki, 0, none⟩) (ki').length (cki)] ty68 rfl (.there (.there .here)) rfl (fun j_ v_ hj_ => encN_ok.get pn i _ hi npad j_ v_ hj_)) rfl ?_
  refine .nb (.alloc ty68 rfl) rfl (fun b2 => ?_)
  refine .st (.stw ty68 rfl rfl rfl rfl rfl .here) ?_
  refine .nil ?_
  refine .then ?_
  refine .seq ?_
  refine .region ?_
  refine .v (.mkf (caps := [.pointer (some ⟨b1, 0, none⟩), .pointer (some ⟨b2, 0, none⟩)]) rfl) rfl ?_
  refine .v (.asn rfl) rfl ?_
  refine .nil ?_
  refine .then ?_
  refine .seq ?_
  refine .block ?_
  refine .seq ?_
  refine .region ?_
  refine .v (.mv rfl) rfl ?_
  refine .v (.mv rfl) rfl ?_
  refine .v (.callc (v := .int .i64 (xt'.length : Int)) (args := [.int .i64 ((q : Nat) : Int)]) (caps := [.pointer (some ⟨b1, 0, none⟩), .pointer (some ⟨b2, 0, none⟩)]) rfl rfl (Try.call57 _) (fun G hle hG => keys_fn b b1 b2 pn _ _ _ _ _ _ ki' _ _ G (Rd.of0 (hG ⟨b1, 28, [_]⟩ (Inn.ob (.there .here)))) (Rd.of0 (hG ⟨b, 60, [_, _, _, _]⟩ (Inn.ob (.there (.there .here))))) (Rd.of0 (hG ⟨b2, 68, [_, _]⟩ (Inn.ob .here))) (hrn.sl encN_ok (fun b_ hb_ => hG b_ (Inn.mem (.there (.there (.there .here))) b_ hb_))) (hki.sl encK_ok (fun b_ hb_ => hG b_ (Inn.mem (.there (.there (.there (.there (.there (.part (sub_k hi))))))) b_ hb_))) (q) _ _ hqt ht)) rfl ?_
  refine .vF (.gt rfl rfl) rfl (by omega) ?_
  refine .v (.asn rfl) rfl ?_
  refine .nil ?_
  refine .then ?_
  refine .condF rfl ?_
  refine .seq ?_
  refine .region ?_
  refine .v (.mv rfl) rfl ?_
  refine .vT (.gt rfl rfl) rfl (by omega) ?_
  refine .v (.mv rfl) rfl ?_
  refine .g rfl rfl rfl ?_
  refine .v (.mv rfl) rfl ?_
  refine .g rfl rfl rfl ?_
  refine .v (.mv rfl) rfl ?_
  refine .g rfl rfl rfl ?_
  refine .v (.sub rfl rfl (by omega)) rfl ?_
  refine .kn (t := 32) (v := .int .i64 ((q - 1 : Nat) : Int)) rfl (congrArg (Value.int .i64) (by omega)) ?_
  refine .g rfl rfl rfl ?_
  refine .v (.callc (v := .int .i64 (xl'.length : Int)) (args := [.int .i64 ((q - 1 : Nat) : Int)]) (caps := [.pointer (some ⟨b1, 0, none⟩), .pointer (some ⟨b2, 0, none⟩)]) rfl rfl (Try.call57 _) (fun G hle hG => keys_fn b b1 b2 pn _ _ _ _ _ _ ki' _ _ G (Rd.of0 (hG ⟨b1, 28, [_]⟩ (Inn.ob (.there .here)))) (Rd.of0 (hG ⟨b, 60, [_, _, _, _]⟩ (Inn.ob (.there (.there .here))))) (Rd.of0 (hG ⟨b2, 68, [_, _]⟩ (Inn.ob .here))) (hrn.sl encN_ok (fun b_ hb_ => hG b_ (Inn.mem (.there (.there (.there .here))) b_ hb_))) (hki.sl encK_ok (fun b_ hb_ => hG b_ (Inn.mem (.there (.there (.there (.there (.there (.part (sub_k hi))))))) b_ hb_))) (q - 1) _ _ hql hl)) rfl ?_
  refine .g rfl rfl rfl ?_
  refine .vF (.gt rfl rfl) rfl (by omega) ?_
  refine .v (.pkT rfl rfl) rfl ?_
  refine .v (.asn rfl) rfl ?_
  refine .nil ?_
  refine .then ?_
  refine .condF rfl ?_
  refine .seq ?_
  refine .region ?_
  refine .v (.mv rfl) rfl ?_
  refine .v (.add rfl rfl (by omega)) rfl ?_
  refine .v (.fab fl68_1 rfl) rfl ?_
  refine .v (.ldb ty58 rfl .here rfl) rfl ?_
  refine .v (.lenl Try.underlying58 rfl) rfl ?_
  refine .vT (.lt rfl rfl) rfl (by omega) ?_
  refine .v (.mv rfl) rfl ?_
  refine .g rfl rfl rfl ?_
  refine .v (.mv rfl) rfl ?_
  refine .g rfl rfl rfl ?_
  refine .v (.mv rfl) rfl ?_
  refine .g rfl rfl rfl ?_
  refine .v (.add rfl rfl (by omega)) rfl ?_
  refine .kn (t := 50) (v := .int .i64 ((q + 1 : Nat) : Int)) rfl (congrArg (Value.int .i64) (by omega)) ?_
  refine .g rfl rfl rfl ?_
  refine .v (.callc (v := .int .i64 (xe'.length : Int)) (args := [.int .i64 ((q + 1 : Nat) : Int)]) (caps := [.pointer (some ⟨b1, 0, none⟩), .pointer (some ⟨b2, 0, none⟩)]) rfl rfl (Try.call57 _) (fun G hle hG => keys_fn b b1 b2 pn _ _ _ _ _ _ ki' _ _ G (Rd.of0 (hG ⟨b1, 28, [_]⟩ (Inn.ob (.there .here)))) (Rd.of0 (hG ⟨b, 60, [_, _, _, _]⟩ (Inn.ob (.there (.there .here))))) (Rd.of0 (hG ⟨b2, 68, [_, _]⟩ (Inn.ob .here))) (hrn.sl encN_ok (fun b_ hb_ => hG b_ (Inn.mem (.there (.there (.there .here))) b_ hb_))) (hki.sl encK_ok (fun b_ hb_ => hG b_ (Inn.mem (.there (.there (.there (.there (.there (.part (sub_k hi))))))) b_ hb_))) (q + 1) _ _ hqe he)) rfl ?_
  refine .g rfl rfl rfl ?_
  refine .vF (.gt rfl rfl) rfl (by omega) ?_
  refine .v (.pkT rfl rfl) rfl ?_
  refine .v (.asn rfl) rfl ?_
  refine .nil ?_
  refine .then ?_
  refine .condF rfl ?_
  refine .seq ?_
  refine .region ?_
  refine .v (.mv rfl) rfl ?_
  refine .vT (.gt rfl rfl) rfl (by omega) ?_
  refine .v (.asn rfl) rfl ?_
  refine .nil ?_
  refine .then ?_
  refine .condT rfl ?_
  refine .seq ?_
  refine .region ?_
  refine .v (.mv rfl) rfl ?_
  refine .v (.sub rfl rfl (by omega)) rfl ?_
  refine .kn (t := 62) (v := .int .i64 ((q - 1 : Nat) : Int)) rfl (congrArg (Value.int .i64) (by omega)) ?_
  refine .v (.asn rfl) rfl ?_
  refine .nil ?_
  refine .then ?_
  refine .region ?_
  refine .v (.ldb ty28 rfl (.there .here) rfl) rfl ?_
  refine .v (.mv rfl) rfl ?_
  refine .v (.mv rfl) rfl ?_
  refine .front (.there (.there (.there (.there (.there .here))))) ?_
  refine .front (.there (.there (.there (.there (.there .here))))) ?_
  refine .join ?_
  refine .front (.there (.there (.there (.there .here)))) ?_
  refine .join ?_
  refine .front (.there (.there (.there .here))) ?_
  refine .join ?_
  refine .lend (.lend rfl rfl (Try.call52 _) _ (fun _ => .here) (fun G hle hG => (merge_fn b T _ G hL0 i (q - 1) l t xi' ki' xl' kl' xt' kt' p hni hql (by rw [show q - 1 + 1 = q by omega]; exact hqt) hnl hnt hp hli hti hlt (by omega) (by omega) (by omega) (by omega) (by omega) (by omega) hfb).mono (fun v M H _ ⟨it, h1, _, h2⟩ => ⟨it, h1, h2⟩))) rfl ?_
  rintro _ itq hL2
  have hL9 := hL2
  obtain ⟨T, hTT⟩ : ∃ T_, T_ = mergeT T i (q - 1) l t ⟨xi', ki'⟩ ⟨xl', kl'⟩ ⟨xt', kt'⟩ p := ⟨_, rfl⟩
  rw [← hTT] at hL2
  obtain ⟨xn, kn, hat, hxe, hke⟩ : ∃ x_ k_, T.nodes[i]? = some ⟨x_, k_⟩ ∧ x_ = xi'.take (q - 1) ++ xi'.drop (q - 1 + 1) ∧ k_ = ki'.take (q - 1 + 1) ++ ki'.drop (q - 1 + 2) := ⟨_, _, by rw [hTT]; exact mergeT_at hib hti, rfl, rfl⟩
  have hkq9 : kn[q - 1]? = some l := by rw [hke]; rw [List.getElem?_append_left (by rw [List.length_take]; omega), List.getElem?_take, if_pos (by omega)]; exact hql
  clear hnd hok hrn hrf hln hmx hcp hfm hfcp hL0
  obtain ⟨pn, na, nc, nit, fa, fc, fit, hP⟩ := hL2
  obtain ⟨hrn, hrf, hok, hnd, rfl⟩ := hP
  have hln : pn.length = T.nodes.length := by rw [← hnd, List.length_map]
  have hmx := hrn.max
  have hcp := hrn.cap
  have hfm := hrf.max
  have hfcp := hrf.cap
  have hib9 := (List.getElem?_eq_some_iff.1 hat).1
  have hkl9 := (List.getElem?_eq_some_iff.1 hkq9).1
  obtain ⟨nb, npad, rfl, rfl, hnp⟩ := hrn.blk (by omega)
  obtain ⟨nn, hn, en⟩ := nd_get hnd hat
  have hon := get_ok hok hn
  obtain ⟨⟨xn', apn, cpn, ipn⟩, ⟨kn', akn, ckn, ikn⟩⟩ := nn
  obtain ⟨rfl, rfl⟩ : xn' = xn ∧ kn' = kn := by simpa [PN.nd] using en
  have hpn : Row 47 encP 2 apn cpn xn' ipn := hon.p
  have hkn : Row 3 encK 1 akn ckn kn' ikn := hon.k
  obtain ⟨bkn, dkn, rfl, rfl, hdkn⟩ := hkn.blk (by omega)
  refine .parts ?_
  refine .nil ?_
  refine .blk ?_
  refine .then ?_
  refine .seq ?_
  refine .region ?_
  refine .v (.ldb ty28 rfl (.there (.there (.there (.there (.there .here))))) rfl) rfl ?_
  refine .v (.nilc rfl) rfl ?_
  refine .v (.fa0 fl60_0 rfl) rfl ?_
  refine .v (.ldb ty57 rfl .here rfl) rfl ?_
  refine .v (.mv rfl) rfl ?_
  refine .v (.ixo sl57 rfl rfl (i) ⟨rfl, by have h_ := (List.getElem?_eq_some_iff.1 hn).1; omega⟩) rfl ?_
  refine .v (.fae fl68_1 rfl) rfl ?_
  refine .v (.ldb (v := .slice (some ⟨bkn, 0, none⟩) (kn').length (ckn)) ty58 rfl (.there .here) (encN_ok.get pn i _ hn npad 1 _ rfl)) rfl ?_
  refine .v (.mv rfl) rfl ?_
  refine .v (.ixo sl58 rfl rfl (q - 1) ⟨rfl, by have h_ := (List.getElem?_eq_some_iff.1 hkq9).1; omega⟩) rfl ?_
  refine .v (.ldb ty3 rfl (.there (.there (.there (.part (sub_k hn))))) (encK_ok.get kn' (q - 1) _ hkq9 dkn 0 _ rfl)) rfl ?_
  refine .v (.asn rfl) rfl ?_
  refine .nil ?_
  refine .then ?_
  refine .ret ?_
  refine .front (.there (.there (.there .here))) ?_
  refine .front (.there (.there (.there .here))) ?_
  refine .join ?_
  refine .front (.there (.there .here)) ?_
  refine .join ?_
  refine .front (.there .here) ?_
  refine .join ?_
  exact .done _ [_] (.t1 rfl rfl) .rfl ⟨_, rfl, rfl, hL9, rfl⟩ (fun w ho => by simpa [List.append_assoc] using (subl (.cons_cons _ (.cons _ (.cons _ (.cons_cons _ .slnil)))) w ho))
theorem feed_5 (b : Nat) (T : TS) (it : Itm) (F : Mem) (hT : Lies b T it) (i q : Nat) (xi : List Pr) (ki : List Nat) (t : Nat) (xt : List Pr) (kt : List Nat) (hni : T.nodes[i]? = some ⟨xi, ki⟩) (hxil : xi.length ≤ 5) (hkil : ki.length ≤ 6) (hfb : T.free.length ≤ 1099511627776) (hqt : ki[q]? = some t) (hnt : T.nodes[t]? = some ⟨xt, kt⟩) (hti : t ≠ i) (hxtl : xt.length ≤ 5) (hktl : kt.length ≤ 6) (r : Nat) (xr : List Pr) (kr : List Nat) (p : Pr) (h2t : xt.length ≤ 2) (hq0 : q = 0) (hqr : ki[q + 1]? = some r) (hnr : T.nodes[r]? = some ⟨xr, kr⟩) (h2r : xr.length ≤ 2) (hkrl : kr.length ≤ 6) (hri : r ≠ i) (htr : t ≠ r) (hp : xi[q]? = some p) : Fn Try.prog 50 #[.pointer (some ⟨b, 0, none⟩), .int .i64 (i : Int), .int .i64 (q : Int)] [it] F (fun v M G => ∃ it', M = [it'] ∧ G = F ∧ Lies b (mergeT T i q t r ⟨xi, ki⟩ ⟨xt, kt⟩ ⟨xr, kr⟩ p) it' ∧ v = .int .i64 (t : Int)) := by
  obtain ⟨pn, na, nc, nit, fa, fc, fit, hP⟩ := hT
  obtain ⟨hrn, hrf, hok, hnd, rfl⟩ := hP
  have hln : pn.length = T.nodes.length := by rw [← hnd, List.length_map]
  have hmx := hrn.max
  have hcp := hrn.cap
  have hfm := hrf.max
  have hfcp := hrf.cap
  have hL0 : Lies b T (⟨b, 60, [.slice na pn.length nc, .slice fa T.free.length fc, .int .i64 (T.root : Int), .int .i64 (T.count : Int)]⟩ :: (nit ++ (fit ++ own pn))) := ⟨pn, na, nc, nit, fa, fc, fit, ⟨hrn, hrf, hok, hnd, rfl⟩⟩
  have hib := (List.getElem?_eq_some_iff.1 hni).1
  obtain ⟨nb, npad, rfl, rfl, hnp⟩ := hrn.blk (by omega)
  have hkl0 := (List.getElem?_eq_some_iff.1 hqt).1
  have hkl1 := (List.getElem?_eq_some_iff.1 hqr).1
  obtain ⟨ni, hi, ei⟩ := nd_get hnd hni
  have hoi := get_ok hok hi
  obtain ⟨⟨xi', api, cpi, ipi⟩, ⟨ki', aki, cki, iki⟩⟩ := ni
  obtain ⟨rfl, rfl⟩ : xi' = xi ∧ ki' = ki := by simpa [PN.nd] using ei
  have hpi : Row 47 encP 2 api cpi xi' ipi := hoi.p
  have hki : Row 3 encK 1 aki cki ki' iki := hoi.k
  obtain ⟨bki, dki, rfl, rfl, hdki⟩ := hki.blk (by omega)
  obtain ⟨nt, ht, et⟩ := nd_get hnd hnt
  have hot := get_ok hok ht
  obtain ⟨⟨xt', apt, cpt, ipt⟩, ⟨kt', akt, ckt, ikt⟩⟩ := nt
  obtain ⟨rfl, rfl⟩ : xt' = xt ∧ kt' = kt := by simpa [PN.nd] using et
  have hpt : Row 47 encP 2 apt cpt xt' ipt := hot.p
  have hkt : Row 3 encK 1 akt ckt kt' ikt := hot.k
  obtain ⟨nr, hr, er⟩ := nd_get hnd hnr
  have hor := get_ok hok hr
  obtain ⟨⟨xr', apr, cpr, ipr⟩, ⟨kr', akr, ckr, ikr⟩⟩ := nr
  obtain ⟨rfl, rfl⟩ : xr' = xr ∧ kr' = kr := by simpa [PN.nd] using er
  have hpr : Row 47 encP 2 apr cpr xr' ipr := hor.p
  have hkr : Row 3 encK 1 akr ckr kr' ikr := hor.k
  refine Fn.start1 Try.func50 rfl Try.ntmps50 rfl (env := [(0, _), (1, _), (2, _)]) rfl ?_
  intro R
  refine .items (L' := [[⟨b, 60, _⟩], [⟨nb, 68, _⟩], fit, own pn, R]) (fun w ho => by simpa [List.append_assoc] using ho) ?_
  refine .seq ?_
  refine .region ?_
  refine .nb (.box rfl rfl) rfl (fun b1 => ?_)
  refine .v (.asn rfl) rfl ?_
  refine .nil ?_
  refine .then ?_
  refine .seq ?_
  refine .region ?_
  refine .v (.ldb ty28 rfl .here rfl) rfl ?_
  refine .v (.nilc rfl) rfl ?_
  refine .v (.fa0 fl60_0 rfl) rfl ?_
  refine .v (.ldb ty57 rfl (.there .here) rfl) rfl ?_
  refine .v (.mv rfl) rfl ?_
  refine .v (.ixo sl57 rfl rfl (i) ⟨rfl, by have h_ := (List.getElem?_eq_some_iff.1 hi).1; omega⟩) rfl ?_
  refine .v (.ldm [.slice (api) (xi').length (cpi), .slice (some ⟨bki, 0, none⟩) (ki').length (cki)] ty68 rfl (.there (.there .here)) rfl (fun j_ v_ hj_ => encN_ok.get pn i _ hi npad j_ v_ hj_)) rfl ?_
  refine .nb (.alloc ty68 rfl) rfl (fun b2 => ?_)
  refine .st (.stw ty68 rfl rfl rfl rfl rfl .here) ?_
  refine .nil ?_
  refine .then ?_
  refine .seq ?_
  refine .region ?_
  refine .v (.mkf (caps := [.pointer (some ⟨b1, 0, none⟩), .pointer (some ⟨b2, 0, none⟩)]) rfl) rfl ?_
  refine .v (.asn rfl) rfl ?_
  refine .nil ?_
  refine .then ?_
  refine .seq ?_
  refine .block ?_
  refine .seq ?_
  refine .region ?_
  refine .v (.mv rfl) rfl ?_
  refine .v (.mv rfl) rfl ?_
  refine .v (.callc (v := .int .i64 (xt'.length : Int)) (args := [.int .i64 ((q : Nat) : Int)]) (caps := [.pointer (some ⟨b1, 0, none⟩), .pointer (some ⟨b2, 0, none⟩)]) rfl rfl (Try.call57 _) (fun G hle hG => keys_fn b b1 b2 pn _ _ _ _ _ _ ki' _ _ G (Rd.of0 (hG ⟨b1, 28, [_]⟩ (Inn.ob (.there .here)))) (Rd.of0 (hG ⟨b, 60, [_, _, _, _]⟩ (Inn.ob (.there (.there .here))))) (Rd.of0 (hG ⟨b2, 68, [_, _]⟩ (Inn.ob .here))) (hrn.sl encN_ok (fun b_ hb_ => hG b_ (Inn.mem (.there (.there (.there .here))) b_ hb_))) (hki.sl encK_ok (fun b_ hb_ => hG b_ (Inn.mem (.there (.there (.there (.there (.there (.part (sub_k hi))))))) b_ hb_))) (q) _ _ hqt ht)) rfl ?_
  refine .vF (.gt rfl rfl) rfl (by omega) ?_
  refine .v (.asn rfl) rfl ?_
  refine .nil ?_
  refine .then ?_
  refine .condF rfl ?_
  refine .seq ?_
  refine .region ?_
  refine .v (.mv rfl) rfl ?_
  refine .vF (.gt rfl rfl) rfl (by omega) ?_
  refine .v (.mv rfl) rfl ?_
  refine .gs rfl rfl rfl rfl ?_
  refine .gs rfl rfl rfl rfl ?_
  refine .gs rfl rfl rfl rfl ?_
  refine .gs rfl rfl rfl rfl ?_
  refine .gs rfl rfl rfl rfl ?_
  refine .v (.pkF rfl rfl) rfl ?_
  refine .v (.asn rfl) rfl ?_
  refine .nil ?_
  refine .then ?_
  refine .condF rfl ?_
  refine .seq ?_
  refine .region ?_
  refine .v (.mv rfl) rfl ?_
  refine .v (.add rfl rfl (by omega)) rfl ?_
  refine .v (.fab fl68_1 rfl) rfl ?_
  refine .v (.ldb ty58 rfl .here rfl) rfl ?_
  refine .v (.lenl Try.underlying58 rfl) rfl ?_
  refine .vT (.lt rfl rfl) rfl (by omega) ?_
  refine .v (.mv rfl) rfl ?_
  refine .g rfl rfl rfl ?_
  refine .v (.mv rfl) rfl ?_
  refine .g rfl rfl rfl ?_
  refine .v (.mv rfl) rfl ?_
  refine .g rfl rfl rfl ?_
  refine .v (.add rfl rfl (by omega)) rfl ?_
  refine .kn (t := 50) (v := .int .i64 ((q + 1 : Nat) : Int)) rfl (congrArg (Value.int .i64) (by omega)) ?_
  refine .g rfl rfl rfl ?_
  refine .v (.callc (v := .int .i64 (xr'.length : Int)) (args := [.int .i64 ((q + 1 : Nat) : Int)]) (caps := [.pointer (some ⟨b1, 0, none⟩), .pointer (some ⟨b2, 0, none⟩)]) rfl rfl (Try.call57 _) (fun G hle hG => keys_fn b b1 b2 pn _ _ _ _ _ _ ki' _ _ G (Rd.of0 (hG ⟨b1, 28, [_]⟩ (Inn.ob (.there .here)))) (Rd.of0 (hG ⟨b, 60, [_, _, _, _]⟩ (Inn.ob (.there (.there .here))))) (Rd.of0 (hG ⟨b2, 68, [_, _]⟩ (Inn.ob .here))) (hrn.sl encN_ok (fun b_ hb_ => hG b_ (Inn.mem (.there (.there (.there .here))) b_ hb_))) (hki.sl encK_ok (fun b_ hb_ => hG b_ (Inn.mem (.there (.there (.there (.there (.there (.part (sub_k hi))))))) b_ hb_))) (q + 1) _ _ hqr hr)) rfl ?_
  refine .g rfl rfl rfl ?_
  refine .vF (.gt rfl rfl) rfl (by omega) ?_
  refine .v (.pkT rfl rfl) rfl ?_
  refine .v (.asn rfl) rfl ?_
  refine .nil ?_
  refine .then ?_
  refine .condF rfl ?_
  refine .seq ?_
  refine .region ?_
  refine .v (.mv rfl) rfl ?_
  refine .vF (.gt rfl rfl) rfl (by omega) ?_
  refine .v (.asn rfl) rfl ?_
  refine .nil ?_
  refine .then ?_
  refine .condF rfl ?_
  refine .region ?_
  refine .v (.ldb ty28 rfl (.there .here) rfl) rfl ?_
  refine .v (.mv rfl) rfl ?_
  refine .v (.mv rfl) rfl ?_
  refine .front (.there (.there (.there (.there (.there .here))))) ?_
  refine .front (.there (.there (.there (.there (.there .here))))) ?_
  refine .join ?_
  refine .front (.there (.there (.there (.there .here)))) ?_
  refine .join ?_
  refine .front (.there (.there (.there .here))) ?_
  refine .join ?_
  refine .lend (.lend rfl rfl (Try.call52 _) _ (fun _ => .here) (fun G hle hG => (merge_fn b T _ G hL0 i q t r xi' ki' xt' kt' xr' kr' p hni hqt hqr hnt hnr hp hti hri htr (by omega) (by omega) (by omega) (by omega) (by omega) (by omega) hfb).mono (fun v M H _ ⟨it, h1, _, h2⟩ => ⟨it, h1, h2⟩))) rfl ?_
  rintro _ itq hL2
  have hL9 := hL2
  obtain ⟨T, hTT⟩ : ∃ T_, T_ = mergeT T i q t r ⟨xi', ki'⟩ ⟨xt', kt'⟩ ⟨xr', kr'⟩ p := ⟨_, rfl⟩
  rw [← hTT] at hL2
  obtain ⟨xn, kn, hat, hxe, hke⟩ : ∃ x_ k_, T.nodes[i]? = some ⟨x_, k_⟩ ∧ x_ = xi'.take (q) ++ xi'.drop (q + 1) ∧ k_ = ki'.take (q + 1) ++ ki'.drop (q + 2) := ⟨_, _, by rw [hTT]; exact mergeT_at hib hri, rfl, rfl⟩
  have hkq9 : kn[q]? = some t := by rw [hke]; rw [List.getElem?_append_left (by rw [List.length_take]; omega), List.getElem?_take, if_pos (by omega)]; exact hqt
  clear hnd hok hrn hrf hln hmx hcp hfm hfcp hL0
  obtain ⟨pn, na, nc, nit, fa, fc, fit, hP⟩ := hL2
  obtain ⟨hrn, hrf, hok, hnd, rfl⟩ := hP
  have hln : pn.length = T.nodes.length := by rw [← hnd, List.length_map]
  have hmx := hrn.max
  have hcp := hrn.cap
  have hfm := hrf.max
  have hfcp := hrf.cap
  have hib9 := (List.getElem?_eq_some_iff.1 hat).1
  have hkl9 := (List.getElem?_eq_some_iff.1 hkq9).1
  obtain ⟨nb, npad, rfl, rfl, hnp⟩ := hrn.blk (by omega)
  obtain ⟨nn, hn, en⟩ := nd_get hnd hat
  have hon := get_ok hok hn
  obtain ⟨⟨xn', apn, cpn, ipn⟩, ⟨kn', akn, ckn, ikn⟩⟩ := nn
  obtain ⟨rfl, rfl⟩ : xn' = xn ∧ kn' = kn := by simpa [PN.nd] using en
  have hpn : Row 47 encP 2 apn cpn xn' ipn := hon.p
  have hkn : Row 3 encK 1 akn ckn kn' ikn := hon.k
  obtain ⟨bkn, dkn, rfl, rfl, hdkn⟩ := hkn.blk (by omega)
  refine .parts ?_
  refine .nil ?_
  refine .blk ?_
  refine .then ?_
  refine .seq ?_
  refine .region ?_
  refine .v (.ldb ty28 rfl (.there (.there (.there (.there (.there .here))))) rfl) rfl ?_
  refine .v (.nilc rfl) rfl ?_
  refine .v (.fa0 fl60_0 rfl) rfl ?_
  refine .v (.ldb ty57 rfl .here rfl) rfl ?_
  refine .v (.mv rfl) rfl ?_
  refine .v (.ixo sl57 rfl rfl (i) ⟨rfl, by have h_ := (List.getElem?_eq_some_iff.1 hn).1; omega⟩) rfl ?_
  refine .v (.fae fl68_1 rfl) rfl ?_
  refine .v (.ldb (v := .slice (some ⟨bkn, 0, none⟩) (kn').length (ckn)) ty58 rfl (.there .here) (encN_ok.get pn i _ hn npad 1 _ rfl)) rfl ?_
  refine .v (.mv rfl) rfl ?_
  refine .v (.ixo sl58 rfl rfl (q) ⟨rfl, by have h_ := (List.getElem?_eq_some_iff.1 hkq9).1; omega⟩) rfl ?_
  refine .v (.ldb ty3 rfl (.there (.there (.there (.part (sub_k hn))))) (encK_ok.get kn' (q) _ hkq9 dkn 0 _ rfl)) rfl ?_
  refine .v (.asn rfl) rfl ?_
  refine .nil ?_
  refine .then ?_
  refine .ret ?_
  refine .front (.there (.there (.there .here))) ?_
  refine .front (.there (.there (.there .here))) ?_
  refine .join ?_
  refine .front (.there (.there .here)) ?_
  refine .join ?_
  refine .front (.there .here) ?_
  refine .join ?_
  exact .done _ [_] (.t1 rfl rfl) .rfl ⟨_, rfl, rfl, hL9, rfl⟩ (fun w ho => by simpa [List.append_assoc] using (subl (.cons_cons _ (.cons _ (.cons _ (.cons_cons _ .slnil)))) w ho))
theorem feed_fn (b : Nat) (T : TS) (it : Itm) (F : Mem) (hT : Lies b T it) (i q : Nat) (T' : TS) (c' : Nat) (h : FeedR T i q T' c') : Fn Try.prog 50 #[.pointer (some ⟨b, 0, none⟩), .int .i64 (i : Int), .int .i64 (q : Int)] [it] F (fun v M G => ∃ it', M = [it'] ∧ G = F ∧ Lies b T' it' ∧ v = .int .i64 (c' : Int)) := by
  obtain ⟨xi, ki, t, xt, kt, a1, a2, a3, a4, a5, a6, a7, a8, a9, h⟩ := h
  rcases h with ⟨b1, rfl, rfl⟩ | ⟨f, xf, kf, p, u, b1, b2, b3, b4, b5, b6, b7, b8, b9, b10, b11, rfl, rfl⟩ | ⟨f, xf, kf, p, u, b1, b2, b3, b4, b5, b6, b7, b8, b9, b10, b11, rfl, rfl⟩ | ⟨l, xl, kl, p, b1, b2, b3, b4, b5, b6, b7, b8, b9, b10, rfl, rfl⟩ | ⟨r, xr, kr, p, b1, b2, b3, b4, b5, b6, b7, b8, b9, rfl, rfl⟩
  · exact feed_1 b _ it F hT i q xi ki _ xt kt a1 a2 a3 a4 a5 a6 a7 a8 a9 b1
  · exact feed_2 b T it F hT i q xi ki _ xt kt a1 a2 a3 a4 a5 a6 a7 a8 a9 f xf kf p u b1 b2 b3 b4 b5 b6 b7 b8 b9 b10 b11
  · rcases b2 with b2 | ⟨e, xe, ke, e1, e2, e3, e4⟩
    · exact feed_3a b T it F hT i q xi ki _ xt kt a1 a2 a3 a4 a5 a6 a7 a8 a9 f xf kf p u b1 b2 b3 b4 b5 b6 b7 b8 b9 b10 b11
    · exact feed_3b b T it F hT i q xi ki _ xt kt a1 a2 a3 a4 a5 a6 a7 a8 a9 f xf kf p u e xe ke b1 e1 e2 e3 e4 b3 b4 b5 b6 b7 b8 b9 b10 b11
  · rcases b9 with b9 | ⟨e, xe, ke, e1, e2, e3⟩
    · exact feed_4a b T it F hT i q xi ki t xt kt a1 a2 a3 a4 a5 a6 a7 a8 a9 _ xl kl p b1 b2 b3 b4 b5 b6 b7 b8 b9 b10
    · exact feed_4b b T it F hT i q xi ki t xt kt a1 a2 a3 a4 a5 a6 a7 a8 a9 _ xl kl p e xe ke b1 b2 b3 b4 b5 b6 b7 b8 e1 e2 e3 b10
  · exact feed_5 b T it F hT i q xi ki _ xt kt a1 a2 a3 a4 a5 a6 a7 a8 a9 r xr kr p b1 b2 b3 b4 b5 b6 b7 b8 b9
end Go.Proofs.Ytbmpdccoffkjgaa.Ow
