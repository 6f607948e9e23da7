/- Walks. -/
import Derived.Test.YtbmpdccoffkjgaaBs
import Derived.Test.YtbmpdccoffkjgaaTyu
namespace Go.Proofs.Ytbmpdccoffkjgaa.Ow
open Go
set_option linter.unusedVariables false
theorem dropk_fn (b : Nat) (T : TS) (pn : List PN) (na : Option Addr) (nc : Nat) (nit : Itm) (fa : Option Addr) (fc : Nat) (fit it : Itm) (F : Mem) (hP : Phys b T pn na nc nit fa fc fit it) (i : Nat) (nd : PN) (hi : pn[i]? = some nd) (hfb : T.free.length ≤ 1099511627776) : Fn Try.prog 40 #[.pointer (some ⟨b, 0, none⟩), .int .i64 (i : Int)] [it] F (fun v M G => ∃ it', M = [it' ++ nd.own] ∧ G = F ∧ Lies b (dropL T i) it') := by
  obtain ⟨hrn, hrf, hok, hnd, rfl⟩ := hP
  have hln : pn.length = T.nodes.length := by rw [← hnd, List.length_map]
  have hmx := hrn.max
  have hcp := hrn.cap
  have hfm := hrf.max
  have hfcp := hrf.cap
  have hib := (List.getElem?_eq_some_iff.1 hi).1
  obtain ⟨nb, npad, rfl, rfl, hnp⟩ := hrn.blk (by omega)
  refine Fn.start1 Try.func40 rfl Try.ntmps40 rfl (env := [(0, _), (1, _)]) rfl ?_
  intro R
  refine .items (L' := [[⟨b, 60, _⟩], [⟨nb, 68, _⟩], fit, own pn, R]) (fun w ho => by simpa [List.append_assoc] using ho) ?_
  refine .seq ?_
  refine .region ?_
  refine .v (.mv rfl) rfl ?_
  refine .v (.nilc rfl) rfl ?_
  refine .v (.fa0 fl60_0 rfl) rfl ?_
  refine .v (.ldb ty57 rfl .here rfl) rfl ?_
  refine .v (.mv rfl) rfl ?_
  refine .v (.build rfl (fun w => bd68_ w)) rfl ?_
  refine .v (.ixo sl57 rfl rfl (i) ⟨rfl, by have h_ := (List.getElem?_eq_some_iff.1 hi).1; omega⟩) rfl ?_
  refine .st (.stp (vs := encN noN) (cs' := (pn.set i noN).flatMap encN ++ npad) ty68 rfl rfl rfl rfl (encN_ok.one noN) (by have h_ := (List.getElem?_eq_some_iff.1 hi).1; rw [List.length_append, encN_ok.fl]; omega) (by rw [show i * 2 + 2 = (i + 1) * 2 by omega]; exact encN_ok.put pn npad i (List.getElem?_eq_some_iff.1 hi).1 noN) (.there .here)) ?_
  refine .front (.there (.there (.there .here))) ?_
  refine .unplace hi ?_
  refine .nil ?_
  refine .then ?_
  refine .region ?_
  refine .v (.mv rfl) rfl ?_
  refine .v (.mv rfl) rfl ?_
  refine .v (.nilc rfl) rfl ?_
  refine .v (.fab fl60_1 rfl) rfl ?_
  refine .v (.ldb ty58 rfl (.there (.there .here)) rfl) rfl ?_
  refine .v (.mv rfl) rfl ?_
  refine .nb (.lit1 sl58 ty3 rfl rfl rfl rfl rfl) rfl (fun b1 => ?_)
  refine .ap (.app1 (i) sl58 ty3 rfl encK_ok rfl rfl hrf .here (by omega) (by omega) _ (fun _ => (.there (.there (.there (.there (.there .here))))))) rfl (fun a1 c1 it1 hr1 => ?_)
  refine .v (.nilc rfl) rfl ?_
  refine .v (.fab fl60_1 rfl) rfl ?_
  refine .st (.stb ty58 rfl rfl rfl st1 (.there (.there (.there .here)))) ?_
  refine .nil ?_
  refine .front (.there .here) ?_
  refine .front (.there (.there .here)) ?_
  refine .front (.there (.there (.there (.there (.there .here))))) ?_
  refine .front (.there (.there (.there (.there (.there .here))))) ?_
  refine .front (.there (.there (.there (.there (.there .here))))) ?_
  exact .end _ [([⟨b, 60, _⟩] ++ ([⟨nb, 68, _⟩] ++ (it1 ++ own (pn.set i noN)))) ++ nd.own] (.t0 rfl) .rfl ⟨_, rfl, rfl, ⟨pn.set i noN, some ⟨nb, 0, none⟩, nc, _, a1, c1, it1, ⟨Row.of npad rfl (by rw [List.length_set]; exact hnp) (by rw [List.length_set]; exact hcp) hmx, hr1, set_ok hok noN_ok, by rw [List.map_set, hnd]; rfl, by rw [List.length_set]; rfl⟩⟩⟩ (fun w ho => by simpa [List.append_assoc, dropL] using (subl (.cons_cons _ (.cons_cons _ (.cons_cons _ (.cons_cons _ (.cons_cons _ (.cons _ (.cons_cons _ .slnil))))))) w ho))
theorem del_no (b : Nat) (T : TS) (it : Itm) (F : Mem) (hT : Lies b T it) (h : Nat) (t : Tr) (hI : TInv T h t) (k : ByteArray) (hk : hasK (flat h t) k = false) : Fn Try.prog 22 #[.pointer (some ⟨b, 0, none⟩), .string k] [it] F (fun v M G => M = [it] ∧ G = F ∧ v = .bool false) := by
  obtain ⟨pn, na, nc, nit, fa, fc, fit, hP⟩ := hT
  obtain ⟨hrn, hrf, hok, hnd, rfl⟩ := hP
  have hln : pn.length = T.nodes.length := by rw [← hnd, List.length_map]
  have hmx := hrn.max
  have hcp := hrn.cap
  have hfm := hrf.max
  have hfcp := hrf.cap
  have hL0 : Lies b T (⟨b, 60, [.slice na pn.length nc, .slice fa T.free.length fc, .int .i64 (T.root : Int), .int .i64 (T.count : Int)]⟩ :: (nit ++ (fit ++ own pn))) := ⟨pn, na, nc, nit, fa, fc, fit, ⟨hrn, hrf, hok, hnd, rfl⟩⟩
  have hne : 0 < T.nodes.length := Nat.lt_of_le_of_lt (Nat.zero_le _) (List.getElem?_eq_some_iff.1 hI.lay.at).1
  obtain ⟨nb, npad, rfl, rfl, hnp⟩ := hrn.blk (by omega)
  refine Fn.start1 Try.func22 rfl Try.ntmps22 rfl (env := [(0, _), (1, _)]) rfl ?_
  intro R
  refine .items (L' := [[⟨b, 60, _⟩], [⟨nb, 68, _⟩], fit, own pn, R]) (fun w ho => by simpa [List.append_assoc] using ho) ?_
  refine .seq ?_
  refine .region ?_
  refine .v (.asn rfl) rfl ?_
  refine .nil ?_
  refine .then ?_
  refine .seq ?_
  refine .seq ?_
  refine .region ?_
  refine .v (.mv rfl) rfl ?_
  refine .vF (.eqpn Try.underlying28 rfl rfl) rfl (by simp) ?_
  refine .nil ?_
  refine .then ?_
  refine .condF rfl ?_
  refine .skip ?_
  refine .then ?_
  refine .seq ?_
  refine .seq ?_
  refine .region ?_
  refine .v (.mv rfl) rfl ?_
  refine .v (.mv rfl) rfl ?_
  refine .v (.ro rfl rfl (Try.call25 _) (sel4 .here .here .here .here) (get_fn b T _ _ hL0 h t hI.lay hI.siz hI.srt hI.root k)) rfl ?_
  refine .v (.mv rfl) rfl ?_
  refine .v (.ext rfl rfl) rfl ?_
  refine .v (.ext rfl rfl) rfl ?_
  refine .kn (t := 15) (v := .bool false) rfl (congrArg Value.bool hk) ?_
  refine .v (.asn rfl) rfl ?_
  refine .v (.asn rfl) rfl ?_
  refine .nil ?_
  refine .then ?_
  refine .seq ?_
  refine .region ?_
  refine .v (.mv rfl) rfl ?_
  refine .v (.not rfl) rfl ?_
  refine .nil ?_
  refine .then ?_
  refine .condT rfl ?_
  refine .seq ?_
  refine .region ?_
  refine .v (.asn rfl) rfl ?_
  refine .nil ?_
  refine .then ?_
  refine .ret ?_
  refine .then_ret ?_
  refine .front (.there (.there (.there .here))) ?_
  refine .front (.there (.there (.there .here))) ?_
  refine .front (.there (.there (.there .here))) ?_
  refine .front (.there (.there (.there .here))) ?_
  exact .done _ [_] (.t1 rfl rfl) .rfl ⟨rfl, rfl, rfl⟩ (fun w ho => by simpa [List.append_assoc] using (subl (.cons_cons _ (.cons_cons _ (.cons_cons _ (.cons_cons _ (.cons_cons _ .slnil))))) w ho))
theorem del_ne (b : Nat) (T : TS) (it : Itm) (F : Mem) (hT : Lies b T it) (h : Nat) (t : Tr) (hI : TInv T h t) (k : ByteArray) (hk : hasK (flat h t) k = true) (m : Nat) (T1 : TS) (x1 : List Pr) (k1 : List Nat) (hR : RemR k m T T.root T1) (hc1 : 1 ≤ T1.count ∧ T1.count ≤ 549755813888) (hn1 : T1.nodes[T1.root]? = some ⟨x1, k1⟩) (hx1l : x1.length ≤ 5) (hk1l : k1.length ≤ 6) (hfb : T1.free.length ≤ 1099511627776) (hx : x1 ≠ []) : Fn Try.prog 22 #[.pointer (some ⟨b, 0, none⟩), .string k] [it] F (fun v M G => ∃ it', M = [it'] ∧ G = F ∧ Lies b ⟨T1.nodes, T1.free, T1.root, T1.count - 1⟩ it' ∧ v = .bool true) := by
  obtain ⟨pn, na, nc, nit, fa, fc, fit, hP⟩ := hT
  obtain ⟨hrn, hrf, hok, hnd, rfl⟩ := hP
  have hln : pn.length = T.nodes.length := by rw [← hnd, List.length_map]
  have hmx := hrn.max
  have hcp := hrn.cap
  have hfm := hrf.max
  have hfcp := hrf.cap
  have hL0 : Lies b T (⟨b, 60, [.slice na pn.length nc, .slice fa T.free.length fc, .int .i64 (T.root : Int), .int .i64 (T.count : Int)]⟩ :: (nit ++ (fit ++ own pn))) := ⟨pn, na, nc, nit, fa, fc, fit, ⟨hrn, hrf, hok, hnd, rfl⟩⟩
  have hne : 0 < T.nodes.length := Nat.lt_of_le_of_lt (Nat.zero_le _) (List.getElem?_eq_some_iff.1 hI.lay.at).1
  obtain ⟨nb, npad, rfl, rfl, hnp⟩ := hrn.blk (by omega)
  refine Fn.start1 Try.func22 rfl Try.ntmps22 rfl (env := [(0, _), (1, _)]) rfl ?_
  intro R
  refine .items (L' := [[⟨b, 60, _⟩], [⟨nb, 68, _⟩], fit, own pn, R]) (fun w ho => by simpa [List.append_assoc] using ho) ?_
  refine .seq ?_
  refine .region ?_
  refine .v (.asn rfl) rfl ?_
  refine .nil ?_
  refine .then ?_
  refine .seq ?_
  refine .seq ?_
  refine .region ?_
  refine .v (.mv rfl) rfl ?_
  refine .vF (.eqpn Try.underlying28 rfl rfl) rfl (by simp) ?_
  refine .nil ?_
  refine .then ?_
  refine .condF rfl ?_
  refine .skip ?_
  refine .then ?_
  refine .seq ?_
  refine .seq ?_
  refine .region ?_
  refine .v (.mv rfl) rfl ?_
  refine .v (.mv rfl) rfl ?_
  refine .v (.ro rfl rfl (Try.call25 _) (sel4 .here .here .here .here) (get_fn b T _ _ hL0 h t hI.lay hI.siz hI.srt hI.root k)) rfl ?_
  refine .v (.mv rfl) rfl ?_
  refine .v (.ext rfl rfl) rfl ?_
  refine .v (.ext rfl rfl) rfl ?_
  refine .kn (t := 15) (v := .bool true) rfl (congrArg Value.bool hk) ?_
  refine .v (.asn rfl) rfl ?_
  refine .v (.asn rfl) rfl ?_
  refine .nil ?_
  refine .then ?_
  refine .seq ?_
  refine .region ?_
  refine .v (.mv rfl) rfl ?_
  refine .v (.not rfl) rfl ?_
  refine .nil ?_
  refine .then ?_
  refine .condF rfl ?_
  refine .skip ?_
  refine .then ?_
  refine .seq ?_
  refine .region ?_
  refine .v (.mv rfl) rfl ?_
  refine .v (.mv rfl) rfl ?_
  refine .v (.nilc rfl) rfl ?_
  refine .v (.fab fl60_2 rfl) rfl ?_
  refine .v (.ldb ty3 rfl .here rfl) rfl ?_
  refine .v (.mv rfl) rfl ?_
  refine .front (.there (.there (.there .here))) ?_
  refine .front (.there (.there (.there .here))) ?_
  refine .join ?_
  refine .front (.there (.there .here)) ?_
  refine .join ?_
  refine .front (.there .here) ?_
  refine .join ?_
  refine .lend (.lend rfl rfl (Try.call39 _) _ (fun _ => .here) (fun G hle hG => (rem_fn k m b T _ G hL0 T.root T1 hR).mono (fun v M H _ ⟨it, h1, _, h2⟩ => ⟨it, h1, h2⟩))) rfl ?_
  rintro _ itq hL2
  clear hnd hok hrn hrf hln hmx hcp hfm hfcp hL0 hR hI hne
  obtain ⟨T, hTT⟩ : ∃ T_, T_ = T1 := ⟨_, rfl⟩
  subst hTT
  obtain ⟨pn, na, nc, nit, fa, fc, fit, hP⟩ := hL2
  obtain ⟨hrn, hrf, hok, hnd, rfl⟩ := hP
  have hln : pn.length = T.nodes.length := by rw [← hnd, List.length_map]
  have hmx := hrn.max
  have hcp := hrn.cap
  have hfm := hrf.max
  have hfcp := hrf.cap
  have hib9 := (List.getElem?_eq_some_iff.1 hn1).1
  obtain ⟨nb, npad, rfl, rfl, hnp⟩ := hrn.blk (by omega)
  obtain ⟨nn, hn, en⟩ := nd_get hnd hn1
  have hon := get_ok hok hn
  obtain ⟨⟨xn', apn, cpn, ipn⟩, ⟨kn', akn, ckn, ikn⟩⟩ := nn
  obtain ⟨rfl, rfl⟩ : xn' = x1 ∧ kn' = k1 := by simpa [PN.nd] using en
  have hpn : Row 47 encP 2 apn cpn xn' ipn := hon.p
  have hkn : Row 3 encK 1 akn ckn kn' ikn := hon.k
  have hxl1 : ¬ xn'.length = 0 := by intro e_; exact hx (List.eq_nil_of_length_eq_zero e_)
  refine .parts ?_
  refine .nil ?_
  refine .then ?_
  refine .seq ?_
  refine .region ?_
  refine .v (.mv rfl) rfl ?_
  refine .v (.nilc rfl) rfl ?_
  refine .v (.fab fl60_3 rfl) rfl ?_
  refine .v (.ldb ty3 rfl .here rfl) rfl ?_
  refine .v (.sub rfl rfl (by omega)) rfl ?_
  refine .kn (t := 29) (v := .int .i64 ((T.count - 1 : Nat) : Int)) rfl (congrArg (Value.int .i64) (by omega)) ?_
  refine .v (.nilc rfl) rfl ?_
  refine .v (.fab fl60_3 rfl) rfl ?_
  refine .st (.stb ty3 rfl rfl rfl st3 .here) ?_
  refine .nil ?_
  refine .then ?_
  refine .seq ?_
  refine .seq ?_
  refine .draw [[], [0], [1], [2], [], [4], [5], [6], [3, 7], [8], [], [10, 9, 0, 1, 2, 3, 4, 5, 6, 7, 8, 9, 10]] [⟨10, 7, 68, _⟩] (by kernel_rfl) (by kernel_rfl) rfl (e1 := [(0, _), (4, _)]) (.cons rfl rfl (.cons rfl rfl .nil)) (fun x hx => by rcases List.mem_cons.1 hx with rfl | hx; (exact ⟨_, _, _, _, _, _, _, rfl, ty68, rfl⟩); cases hx) rfl ?_
  refine .v (i := 0) [] rfl rfl rfl .nil (.n (.mv rfl)) ?_
  refine .v (i := 1) [(32, _)] rfl rfl rfl (.cons (.head _) rfl rfl .nil) (.n (.nilc rfl)) ?_
  refine .v (i := 2) [(33, _)] rfl rfl rfl (.cons (.head _) rfl rfl .nil) (.n (.fa0 fl60_0 rfl)) ?_
  refine .v (i := 3) [(34, _)] rfl rfl rfl (.cons (.head _) rfl rfl .nil) (.n (.ldb ty57 rfl .here rfl)) ?_
  refine .v (i := 4) [] rfl rfl rfl .nil (.n (.mv rfl)) ?_
  refine .v (i := 5) [(36, _)] rfl rfl rfl (.cons (.head _) rfl rfl .nil) (.n (.nilc rfl)) ?_
  refine .v (i := 6) [(37, _)] rfl rfl rfl (.cons (.head _) rfl rfl .nil) (.n (.fab fl60_2 rfl)) ?_
  refine .v (i := 7) [(38, _)] rfl rfl rfl (.cons (.head _) rfl rfl .nil) (.n (.ldb ty3 rfl .here rfl)) ?_
  refine .v (i := 8) [(35, _), (39, _)] rfl rfl rfl (.cons (.tail _ (.tail _ (.tail _ (.tail _ (.head _))))) rfl rfl (.cons (.head _) rfl rfl .nil)) (.n (.ixo sl57 rfl rfl (T.root) ⟨rfl, by have h_ := (List.getElem?_eq_some_iff.1 hn).1; omega⟩)) ?_
  refine .v (i := 9) [(40, _)] rfl rfl rfl (.cons (.head _) rfl rfl .nil) (.n (.ldm [.slice (apn) (xn').length (cpn), .slice (akn) (kn').length (ckn)] ty68 rfl (.there .here) rfl (fun j_ v_ hj_ => encN_ok.get pn T.root _ hn npad j_ v_ hj_))) ?_
  refine .tail1 11 [[11, 10, 9, 0, 1, 2, 3, 4, 5, 6, 7, 8]] rfl rfl rfl rfl (e' := fun f => [(7, _), (41, _), (40, _), (39, _), (38, _), (37, _), (36, _), (35, _), (34, _), (33, _), (32, _), (0, _), (4, _)]) (M := fun f => [_, _, _, _, _, _]) (fun _ => rfl) (fun _ => rfl) (fun f1 => ?_)
  refine .st (.stw ty68 rfl rfl rfl rfl rfl .here) ?_
  refine .nil ?_
  refine .then ?_
  refine .seq ?_
  refine .region ?_
  refine .v (.fa0 fl68_0 rfl) rfl ?_
  refine .v (.ldb ty22 rfl .here rfl) rfl ?_
  refine .v (.lenl Try.underlying22 rfl) rfl ?_
  refine .vF (.eq rfl rfl) rfl (by omega) ?_
  refine .v (.mv rfl) rfl ?_
  refine .gs rfl rfl rfl rfl ?_
  refine .gs rfl rfl rfl rfl ?_
  refine .gs rfl rfl rfl rfl ?_
  refine .v (.pkF rfl rfl) rfl ?_
  refine .nil ?_
  refine .then ?_
  refine .condF rfl ?_
  refine .skip ?_
  refine .then ?_
  refine .seq ?_
  refine .region ?_
  refine .v (.asn rfl) rfl ?_
  refine .nil ?_
  refine .then ?_
  refine .ret ?_
  refine .front (.there (.there (.there (.there .here)))) ?_
  refine .front (.there (.there (.there (.there .here)))) ?_
  refine .front (.there (.there (.there (.there .here)))) ?_
  refine .front (.there (.there (.there (.there .here)))) ?_
  have hLe : Lies b ⟨T.nodes, T.free, T.root, T.count - 1⟩ ([⟨b, 60, [.slice (some ⟨nb, 0, none⟩) pn.length nc, .slice fa T.free.length fc, .int .i64 (T.root : Int), .int .i64 (((T.count - 1 : Nat)) : Int)]⟩] ++ ([⟨nb, 68, pn.flatMap encN ++ npad⟩] ++ (fit ++ own pn))) := ⟨pn, some ⟨nb, 0, none⟩, nc, _, fa, fc, fit, ⟨hrn, hrf, hok, hnd, rfl⟩⟩
  exact .done _ [_] (.t1 rfl rfl) .rfl ⟨_, rfl, rfl, hLe, rfl⟩ (fun w ho => by simpa [List.append_assoc] using (subl (.cons_cons _ (.cons_cons _ (.cons_cons _ (.cons_cons _ (.cons _ (.cons_cons _ .slnil)))))) w ho))
theorem del_lf (b : Nat) (T : TS) (it : Itm) (F : Mem) (hT : Lies b T it) (h : Nat) (t : Tr) (hI : TInv T h t) (k : ByteArray) (hk : hasK (flat h t) k = true) (m : Nat) (T1 : TS) (x1 : List Pr) (k1 : List Nat) (hR : RemR k m T T.root T1) (hc1 : 1 ≤ T1.count ∧ T1.count ≤ 549755813888) (hn1 : T1.nodes[T1.root]? = some ⟨x1, k1⟩) (hx1l : x1.length ≤ 5) (hk1l : k1.length ≤ 6) (hfb : T1.free.length ≤ 1099511627776) (hx : x1 = []) (hk1 : k1 = []) : Fn Try.prog 22 #[.pointer (some ⟨b, 0, none⟩), .string k] [it] F (fun v M G => ∃ it', M = [it'] ∧ G = F ∧ Lies b ⟨T1.nodes, T1.free, T1.root, T1.count - 1⟩ it' ∧ v = .bool true) := by
  obtain ⟨pn, na, nc, nit, fa, fc, fit, hP⟩ := hT
  obtain ⟨hrn, hrf, hok, hnd, rfl⟩ := hP
  have hln : pn.length = T.nodes.length := by rw [← hnd, List.length_map]
  have hmx := hrn.max
  have hcp := hrn.cap
  have hfm := hrf.max
  have hfcp := hrf.cap
  have hL0 : Lies b T (⟨b, 60, [.slice na pn.length nc, .slice fa T.free.length fc, .int .i64 (T.root : Int), .int .i64 (T.count : Int)]⟩ :: (nit ++ (fit ++ own pn))) := ⟨pn, na, nc, nit, fa, fc, fit, ⟨hrn, hrf, hok, hnd, rfl⟩⟩
  have hne : 0 < T.nodes.length := Nat.lt_of_le_of_lt (Nat.zero_le _) (List.getElem?_eq_some_iff.1 hI.lay.at).1
  obtain ⟨nb, npad, rfl, rfl, hnp⟩ := hrn.blk (by omega)
  refine Fn.start1 Try.func22 rfl Try.ntmps22 rfl (env := [(0, _), (1, _)]) rfl ?_
  intro R
  refine .items (L' := [[⟨b, 60, _⟩], [⟨nb, 68, _⟩], fit, own pn, R]) (fun w ho => by simpa [List.append_assoc] using ho) ?_
  refine .seq ?_
  refine .region ?_
  refine .v (.asn rfl) rfl ?_
  refine .nil ?_
  refine .then ?_
  refine .seq ?_
  refine .seq ?_
  refine .region ?_
  refine .v (.mv rfl) rfl ?_
  refine .vF (.eqpn Try.underlying28 rfl rfl) rfl (by simp) ?_
  refine .nil ?_
  refine .then ?_
  refine .condF rfl ?_
  refine .skip ?_
  refine .then ?_
  refine .seq ?_
  refine .seq ?_
  refine .region ?_
  refine .v (.mv rfl) rfl ?_
  refine .v (.mv rfl) rfl ?_
  refine .v (.ro rfl rfl (Try.call25 _) (sel4 .here .here .here .here) (get_fn b T _ _ hL0 h t hI.lay hI.siz hI.srt hI.root k)) rfl ?_
  refine .v (.mv rfl) rfl ?_
  refine .v (.ext rfl rfl) rfl ?_
  refine .v (.ext rfl rfl) rfl ?_
  refine .kn (t := 15) (v := .bool true) rfl (congrArg Value.bool hk) ?_
  refine .v (.asn rfl) rfl ?_
  refine .v (.asn rfl) rfl ?_
  refine .nil ?_
  refine .then ?_
  refine .seq ?_
  refine .region ?_
  refine .v (.mv rfl) rfl ?_
  refine .v (.not rfl) rfl ?_
  refine .nil ?_
  refine .then ?_
  refine .condF rfl ?_
  refine .skip ?_
  refine .then ?_
  refine .seq ?_
  refine .region ?_
  refine .v (.mv rfl) rfl ?_
  refine .v (.mv rfl) rfl ?_
  refine .v (.nilc rfl) rfl ?_
  refine .v (.fab fl60_2 rfl) rfl ?_
  refine .v (.ldb ty3 rfl .here rfl) rfl ?_
  refine .v (.mv rfl) rfl ?_
  refine .front (.there (.there (.there .here))) ?_
  refine .front (.there (.there (.there .here))) ?_
  refine .join ?_
  refine .front (.there (.there .here)) ?_
  refine .join ?_
  refine .front (.there .here) ?_
  refine .join ?_
  refine .lend (.lend rfl rfl (Try.call39 _) _ (fun _ => .here) (fun G hle hG => (rem_fn k m b T _ G hL0 T.root T1 hR).mono (fun v M H _ ⟨it, h1, _, h2⟩ => ⟨it, h1, h2⟩))) rfl ?_
  rintro _ itq hL2
  clear hnd hok hrn hrf hln hmx hcp hfm hfcp hL0 hR hI hne
  obtain ⟨T, hTT⟩ : ∃ T_, T_ = T1 := ⟨_, rfl⟩
  subst hTT
  obtain ⟨pn, na, nc, nit, fa, fc, fit, hP⟩ := hL2
  obtain ⟨hrn, hrf, hok, hnd, rfl⟩ := hP
  have hln : pn.length = T.nodes.length := by rw [← hnd, List.length_map]
  have hmx := hrn.max
  have hcp := hrn.cap
  have hfm := hrf.max
  have hfcp := hrf.cap
  have hib9 := (List.getElem?_eq_some_iff.1 hn1).1
  obtain ⟨nb, npad, rfl, rfl, hnp⟩ := hrn.blk (by omega)
  obtain ⟨nn, hn, en⟩ := nd_get hnd hn1
  have hon := get_ok hok hn
  obtain ⟨⟨xn', apn, cpn, ipn⟩, ⟨kn', akn, ckn, ikn⟩⟩ := nn
  obtain ⟨rfl, rfl⟩ : xn' = x1 ∧ kn' = k1 := by simpa [PN.nd] using en
  have hpn : Row 47 encP 2 apn cpn xn' ipn := hon.p
  have hkn : Row 3 encK 1 akn ckn kn' ikn := hon.k
  have hxl1 : xn'.length = 0 := by rw [hx]; rfl
  have hkl1 : kn'.length = 0 := by rw [hk1]; rfl
  refine .parts ?_
  refine .nil ?_
  refine .then ?_
  refine .seq ?_
  refine .region ?_
  refine .v (.mv rfl) rfl ?_
  refine .v (.nilc rfl) rfl ?_
  refine .v (.fab fl60_3 rfl) rfl ?_
  refine .v (.ldb ty3 rfl .here rfl) rfl ?_
  refine .v (.sub rfl rfl (by omega)) rfl ?_
  refine .kn (t := 29) (v := .int .i64 ((T.count - 1 : Nat) : Int)) rfl (congrArg (Value.int .i64) (by omega)) ?_
  refine .v (.nilc rfl) rfl ?_
  refine .v (.fab fl60_3 rfl) rfl ?_
  refine .st (.stb ty3 rfl rfl rfl st3 .here) ?_
  refine .nil ?_
  refine .then ?_
  refine .seq ?_
  refine .seq ?_
  refine .draw [[], [0], [1], [2], [], [4], [5], [6], [3, 7], [8], [], [10, 9, 0, 1, 2, 3, 4, 5, 6, 7, 8, 9, 10]] [⟨10, 7, 68, _⟩] (by kernel_rfl) (by kernel_rfl) rfl (e1 := [(0, _), (4, _)]) (.cons rfl rfl (.cons rfl rfl .nil)) (fun x hx => by rcases List.mem_cons.1 hx with rfl | hx; (exact ⟨_, _, _, _, _, _, _, rfl, ty68, rfl⟩); cases hx) rfl ?_
  refine .v (i := 0) [] rfl rfl rfl .nil (.n (.mv rfl)) ?_
  refine .v (i := 1) [(32, _)] rfl rfl rfl (.cons (.head _) rfl rfl .nil) (.n (.nilc rfl)) ?_
  refine .v (i := 2) [(33, _)] rfl rfl rfl (.cons (.head _) rfl rfl .nil) (.n (.fa0 fl60_0 rfl)) ?_
  refine .v (i := 3) [(34, _)] rfl rfl rfl (.cons (.head _) rfl rfl .nil) (.n (.ldb ty57 rfl .here rfl)) ?_
  refine .v (i := 4) [] rfl rfl rfl .nil (.n (.mv rfl)) ?_
  refine .v (i := 5) [(36, _)] rfl rfl rfl (.cons (.head _) rfl rfl .nil) (.n (.nilc rfl)) ?_
  refine .v (i := 6) [(37, _)] rfl rfl rfl (.cons (.head _) rfl rfl .nil) (.n (.fab fl60_2 rfl)) ?_
  refine .v (i := 7) [(38, _)] rfl rfl rfl (.cons (.head _) rfl rfl .nil) (.n (.ldb ty3 rfl .here rfl)) ?_
  refine .v (i := 8) [(35, _), (39, _)] rfl rfl rfl (.cons (.tail _ (.tail _ (.tail _ (.tail _ (.head _))))) rfl rfl (.cons (.head _) rfl rfl .nil)) (.n (.ixo sl57 rfl rfl (T.root) ⟨rfl, by have h_ := (List.getElem?_eq_some_iff.1 hn).1; omega⟩)) ?_
  refine .v (i := 9) [(40, _)] rfl rfl rfl (.cons (.head _) rfl rfl .nil) (.n (.ldm [.slice (apn) (xn').length (cpn), .slice (akn) (kn').length (ckn)] ty68 rfl (.there .here) rfl (fun j_ v_ hj_ => encN_ok.get pn T.root _ hn npad j_ v_ hj_))) ?_
  refine .tail1 11 [[11, 10, 9, 0, 1, 2, 3, 4, 5, 6, 7, 8]] rfl rfl rfl rfl (e' := fun f => [(7, _), (41, _), (40, _), (39, _), (38, _), (37, _), (36, _), (35, _), (34, _), (33, _), (32, _), (0, _), (4, _)]) (M := fun f => [_, _, _, _, _, _]) (fun _ => rfl) (fun _ => rfl) (fun f1 => ?_)
  refine .st (.stw ty68 rfl rfl rfl rfl rfl .here) ?_
  refine .nil ?_
  refine .then ?_
  refine .seq ?_
  refine .region ?_
  refine .v (.fa0 fl68_0 rfl) rfl ?_
  refine .v (.ldb ty22 rfl .here rfl) rfl ?_
  refine .v (.lenl Try.underlying22 rfl) rfl ?_
  refine .vT (.eq rfl rfl) rfl (by omega) ?_
  refine .v (.mv rfl) rfl ?_
  refine .g rfl rfl rfl ?_
  refine .v (.ldw ty68 rfl .here rfl) rfl ?_
  refine .g rfl rfl rfl ?_
  refine .vT (.call rfl rfl (Try.call37 _) (fun G hle hG => leaf_fn _ _ _ _ kn'.length _ G)) rfl (by omega) ?_
  refine .g rfl rfl rfl ?_
  refine .v (.not rfl) rfl ?_
  refine .v (.pkT rfl rfl) rfl ?_
  refine .nil ?_
  refine .then ?_
  refine .condF rfl ?_
  refine .skip ?_
  refine .then ?_
  refine .seq ?_
  refine .region ?_
  refine .v (.asn rfl) rfl ?_
  refine .nil ?_
  refine .then ?_
  refine .ret ?_
  refine .front (.there (.there (.there (.there .here)))) ?_
  refine .front (.there (.there (.there (.there .here)))) ?_
  refine .front (.there (.there (.there (.there .here)))) ?_
  refine .front (.there (.there (.there (.there .here)))) ?_
  have hLe : Lies b ⟨T.nodes, T.free, T.root, T.count - 1⟩ ([⟨b, 60, [.slice (some ⟨nb, 0, none⟩) pn.length nc, .slice fa T.free.length fc, .int .i64 (T.root : Int), .int .i64 (((T.count - 1 : Nat)) : Int)]⟩] ++ ([⟨nb, 68, pn.flatMap encN ++ npad⟩] ++ (fit ++ own pn))) := ⟨pn, some ⟨nb, 0, none⟩, nc, _, fa, fc, fit, ⟨hrn, hrf, hok, hnd, rfl⟩⟩
  exact .done _ [_] (.t1 rfl rfl) .rfl ⟨_, rfl, rfl, hLe, rfl⟩ (fun w ho => by simpa [List.append_assoc] using (subl (.cons_cons _ (.cons_cons _ (.cons_cons _ (.cons_cons _ (.cons _ (.cons_cons _ .slnil)))))) w ho))
theorem del_dr (b : Nat) (T : TS) (it : Itm) (F : Mem) (hT : Lies b T it) (h : Nat) (t : Tr) (hI : TInv T h t) (k : ByteArray) (hk : hasK (flat h t) k = true) (m : Nat) (T1 : TS) (x1 : List Pr) (k1 : List Nat) (hR : RemR k m T T.root T1) (hc1 : 1 ≤ T1.count ∧ T1.count ≤ 549755813888) (hn1 : T1.nodes[T1.root]? = some ⟨x1, k1⟩) (hx1l : x1.length ≤ 5) (hk1l : k1.length ≤ 6) (hfb : T1.free.length ≤ 1099511627776) (c : Nat) (hx : x1 = []) (hkc : k1[0]? = some c) : Fn Try.prog 22 #[.pointer (some ⟨b, 0, none⟩), .string k] [it] F (fun v M G => ∃ it', M = [it'] ∧ G = F ∧ Lies b ⟨(dropL T1 T1.root).nodes, (dropL T1 T1.root).free, c, T1.count - 1⟩ it' ∧ v = .bool true) := by
  obtain ⟨pn, na, nc, nit, fa, fc, fit, hP⟩ := hT
  obtain ⟨hrn, hrf, hok, hnd, rfl⟩ := hP
  have hln : pn.length = T.nodes.length := by rw [← hnd, List.length_map]
  have hmx := hrn.max
  have hcp := hrn.cap
  have hfm := hrf.max
  have hfcp := hrf.cap
  have hL0 : Lies b T (⟨b, 60, [.slice na pn.length nc, .slice fa T.free.length fc, .int .i64 (T.root : Int), .int .i64 (T.count : Int)]⟩ :: (nit ++ (fit ++ own pn))) := ⟨pn, na, nc, nit, fa, fc, fit, ⟨hrn, hrf, hok, hnd, rfl⟩⟩
  have hne : 0 < T.nodes.length := Nat.lt_of_le_of_lt (Nat.zero_le _) (List.getElem?_eq_some_iff.1 hI.lay.at).1
  obtain ⟨nb, npad, rfl, rfl, hnp⟩ := hrn.blk (by omega)
  refine Fn.start1 Try.func22 rfl Try.ntmps22 rfl (env := [(0, _), (1, _)]) rfl ?_
  intro R
  refine .items (L' := [[⟨b, 60, _⟩], [⟨nb, 68, _⟩], fit, own pn, R]) (fun w ho => by simpa [List.append_assoc] using ho) ?_
  refine .seq ?_
  refine .region ?_
  refine .v (.asn rfl) rfl ?_
  refine .nil ?_
  refine .then ?_
  refine .seq ?_
  refine .seq ?_
  refine .region ?_
  refine .v (.mv rfl) rfl ?_
  refine .vF (.eqpn Try.underlying28 rfl rfl) rfl (by simp) ?_
  refine .nil ?_
  refine .then ?_
  refine .condF rfl ?_
  refine .skip ?_
  refine .then ?_
  refine .seq ?_
  refine .seq ?_
  refine .region ?_
  refine .v (.mv rfl) rfl ?_
  refine .v (.mv rfl) rfl ?_
  refine .v (.ro rfl rfl (Try.call25 _) (sel4 .here .here .here .here) (get_fn b T _ _ hL0 h t hI.lay hI.siz hI.srt hI.root k)) rfl ?_
  refine .v (.mv rfl) rfl ?_
  refine .v (.ext rfl rfl) rfl ?_
  refine .v (.ext rfl rfl) rfl ?_
  refine .kn (t := 15) (v := .bool true) rfl (congrArg Value.bool hk) ?_
  refine .v (.asn rfl) rfl ?_
  refine .v (.asn rfl) rfl ?_
  refine .nil ?_
  refine .then ?_
  refine .seq ?_
  refine .region ?_
  refine .v (.mv rfl) rfl ?_
  refine .v (.not rfl) rfl ?_
  refine .nil ?_
  refine .then ?_
  refine .condF rfl ?_
  refine .skip ?_
  refine .then ?_
  refine .seq ?_
  refine .region ?_
  refine .v (.mv rfl) rfl ?_
  refine .v (.mv rfl) rfl ?_
  refine .v (.nilc rfl) rfl ?_
  refine .v (.fab fl60_2 rfl) rfl ?_
  refine .v (.ldb ty3 rfl .here rfl) rfl ?_
  refine .v (.mv rfl) rfl ?_
  refine .front (.there (.there (.there .here))) ?_
  refine .front (.there (.there (.there .here))) ?_
  refine .join ?_
  refine .front (.there (.there .here)) ?_
  refine .join ?_
  refine .front (.there .here) ?_
  refine .join ?_
  refine .lend (.lend rfl rfl (Try.call39 _) _ (fun _ => .here) (fun G hle hG => (rem_fn k m b T _ G hL0 T.root T1 hR).mono (fun v M H _ ⟨it, h1, _, h2⟩ => ⟨it, h1, h2⟩))) rfl ?_
  rintro _ itq hL2
  clear hnd hok hrn hrf hln hmx hcp hfm hfcp hL0 hR hI hne
  obtain ⟨T, hTT⟩ : ∃ T_, T_ = T1 := ⟨_, rfl⟩
  subst hTT
  obtain ⟨pn, na, nc, nit, fa, fc, fit, hP⟩ := hL2
  obtain ⟨hrn, hrf, hok, hnd, rfl⟩ := hP
  have hln : pn.length = T.nodes.length := by rw [← hnd, List.length_map]
  have hmx := hrn.max
  have hcp := hrn.cap
  have hfm := hrf.max
  have hfcp := hrf.cap
  have hib9 := (List.getElem?_eq_some_iff.1 hn1).1
  obtain ⟨nb, npad, rfl, rfl, hnp⟩ := hrn.blk (by omega)
  have hkl9 := (List.getElem?_eq_some_iff.1 hkc).1
  obtain ⟨nn, hn, en⟩ := nd_get hnd hn1
  have hon := get_ok hok hn
  obtain ⟨⟨xn', apn, cpn, ipn⟩, ⟨kn', akn, ckn, ikn⟩⟩ := nn
  obtain ⟨rfl, rfl⟩ : xn' = x1 ∧ kn' = k1 := by simpa [PN.nd] using en
  have hpn : Row 47 encP 2 apn cpn xn' ipn := hon.p
  have hkn : Row 3 encK 1 akn ckn kn' ikn := hon.k
  obtain ⟨bkn, dkn, rfl, rfl, hdkn⟩ := hkn.blk (by omega)
  have hxl1 : xn'.length = 0 := by rw [hx]; rfl
  refine .parts ?_
  refine .nil ?_
  refine .then ?_
  refine .seq ?_
  refine .region ?_
  refine .v (.mv rfl) rfl ?_
  refine .v (.nilc rfl) rfl ?_
  refine .v (.fab fl60_3 rfl) rfl ?_
  refine .v (.ldb ty3 rfl .here rfl) rfl ?_
  refine .v (.sub rfl rfl (by omega)) rfl ?_
  refine .kn (t := 29) (v := .int .i64 ((T.count - 1 : Nat) : Int)) rfl (congrArg (Value.int .i64) (by omega)) ?_
  refine .v (.nilc rfl) rfl ?_
  refine .v (.fab fl60_3 rfl) rfl ?_
  refine .st (.stb ty3 rfl rfl rfl st3 .here) ?_
  refine .nil ?_
  refine .then ?_
  refine .seq ?_
  refine .seq ?_
  refine .draw [[], [0], [1], [2], [], [4], [5], [6], [3, 7], [8], [], [10, 9, 0, 1, 2, 3, 4, 5, 6, 7, 8, 9, 10]] [⟨10, 7, 68, _⟩] (by kernel_rfl) (by kernel_rfl) rfl (e1 := [(0, _), (4, _)]) (.cons rfl rfl (.cons rfl rfl .nil)) (fun x hx => by rcases List.mem_cons.1 hx with rfl | hx; (exact ⟨_, _, _, _, _, _, _, rfl, ty68, rfl⟩); cases hx) rfl ?_
  refine .v (i := 0) [] rfl rfl rfl .nil (.n (.mv rfl)) ?_
  refine .v (i := 1) [(32, _)] rfl rfl rfl (.cons (.head _) rfl rfl .nil) (.n (.nilc rfl)) ?_
  refine .v (i := 2) [(33, _)] rfl rfl rfl (.cons (.head _) rfl rfl .nil) (.n (.fa0 fl60_0 rfl)) ?_
  refine .v (i := 3) [(34, _)] rfl rfl rfl (.cons (.head _) rfl rfl .nil) (.n (.ldb ty57 rfl .here rfl)) ?_
  refine .v (i := 4) [] rfl rfl rfl .nil (.n (.mv rfl)) ?_
  refine .v (i := 5) [(36, _)] rfl rfl rfl (.cons (.head _) rfl rfl .nil) (.n (.nilc rfl)) ?_
  refine .v (i := 6) [(37, _)] rfl rfl rfl (.cons (.head _) rfl rfl .nil) (.n (.fab fl60_2 rfl)) ?_
  refine .v (i := 7) [(38, _)] rfl rfl rfl (.cons (.head _) rfl rfl .nil) (.n (.ldb ty3 rfl .here rfl)) ?_
  refine .v (i := 8) [(35, _), (39, _)] rfl rfl rfl (.cons (.tail _ (.tail _ (.tail _ (.tail _ (.head _))))) rfl rfl (.cons (.head _) rfl rfl .nil)) (.n (.ixo sl57 rfl rfl (T.root) ⟨rfl, by have h_ := (List.getElem?_eq_some_iff.1 hn).1; omega⟩)) ?_
  refine .v (i := 9) [(40, _)] rfl rfl rfl (.cons (.head _) rfl rfl .nil) (.n (.ldm [.slice (apn) (xn').length (cpn), .slice (some ⟨bkn, 0, none⟩) (kn').length (ckn)] ty68 rfl (.there .here) rfl (fun j_ v_ hj_ => encN_ok.get pn T.root _ hn npad j_ v_ hj_))) ?_
  refine .tail1 11 [[11, 10, 9, 0, 1, 2, 3, 4, 5, 6, 7, 8]] rfl rfl rfl rfl (e' := fun f => [(7, _), (41, _), (40, _), (39, _), (38, _), (37, _), (36, _), (35, _), (34, _), (33, _), (32, _), (0, _), (4, _)]) (M := fun f => [_, _, _, _, _, _]) (fun _ => rfl) (fun _ => rfl) (fun f1 => ?_)
  refine .st (.stw ty68 rfl rfl rfl rfl rfl .here) ?_
  refine .nil ?_
  refine .then ?_
  refine .seq ?_
  refine .region ?_
  refine .v (.fa0 fl68_0 rfl) rfl ?_
  refine .v (.ldb ty22 rfl .here rfl) rfl ?_
  refine .v (.lenl Try.underlying22 rfl) rfl ?_
  refine .vT (.eq rfl rfl) rfl (by omega) ?_
  refine .v (.mv rfl) rfl ?_
  refine .g rfl rfl rfl ?_
  refine .v (.ldw ty68 rfl .here rfl) rfl ?_
  refine .g rfl rfl rfl ?_
  refine .vF (.call rfl rfl (Try.call37 _) (fun G hle hG => leaf_fn _ _ _ _ kn'.length _ G)) rfl (by omega) ?_
  refine .g rfl rfl rfl ?_
  refine .v (.not rfl) rfl ?_
  refine .v (.pkT rfl rfl) rfl ?_
  refine .nil ?_
  refine .then ?_
  refine .condT rfl ?_
  refine .seq ?_
  refine .region ?_
  refine .v (.mv rfl) rfl ?_
  refine .v (.mv rfl) rfl ?_
  refine .v (.nilc rfl) rfl ?_
  refine .v (.fab fl60_2 rfl) rfl ?_
  refine .v (.ldb ty3 rfl (.there .here) rfl) rfl ?_
  have hP2 : Phys b (⟨T.nodes, T.free, T.root, T.count - 1⟩ : TS) pn (some ⟨nb, 0, none⟩) nc _ fa fc fit ([⟨b, 60, [.slice (some ⟨nb, 0, none⟩) pn.length nc, .slice fa T.free.length fc, .int .i64 (T.root : Int), .int .i64 (((T.count - 1 : Nat)) : Int)]⟩] ++ ([⟨nb, 68, pn.flatMap encN ++ npad⟩] ++ (fit ++ own pn))) := ⟨hrn, hrf, hok, hnd, rfl⟩
  refine .front (.there (.there (.there (.there .here)))) ?_
  refine .front (.there (.there (.there (.there .here)))) ?_
  refine .join ?_
  refine .front (.there (.there (.there .here))) ?_
  refine .join ?_
  refine .front (.there (.there .here)) ?_
  refine .join ?_
  refine .lend (.lend (post := fun _ x_ => ∃ it_, x_ = it_ ++ (⟨⟨xn', apn, cpn, ipn⟩, ⟨kn', some ⟨bkn, 0, none⟩, ckn, [⟨bkn, 3, kn'.flatMap encK ++ dkn⟩]⟩⟩ : PN).own ∧ Lies b (dropL (⟨T.nodes, T.free, T.root, T.count - 1⟩ : TS) T.root) it_) rfl rfl (Try.call40 _) _ (fun _ => .here) (fun G hle hG => (dropk_fn b (⟨T.nodes, T.free, T.root, T.count - 1⟩ : TS) pn _ nc _ fa fc fit _ G hP2 T.root _ hn hfb).mono (fun v M H _ ⟨it, h1, _, h2⟩ => ⟨_, h1, it, rfl, h2⟩))) rfl ?_
  rintro _ itq ⟨it3, rfl, hL3⟩
  refine .items (L' := [it3, ipn, [⟨bkn, 3, kn'.flatMap encK ++ dkn⟩], [⟨(f1 10), 68, _⟩], R]) (fun w ho => by simpa [PN.own, List.append_assoc] using ho) ?_
  obtain ⟨pn, na, nc, nit, fa, fc, fit, hP4⟩ := hL3
  obtain ⟨hrn, hrf, hok, hnd, rfl⟩ := hP4
  refine .parts ?_
  refine .nil ?_
  refine .then ?_
  refine .region ?_
  refine .v (.mv rfl) rfl ?_
  refine .v (.fab fl68_1 rfl) rfl ?_
  refine .v (.ldb ty58 rfl (.there (.there (.there (.there (.there (.there .here)))))) rfl) rfl ?_
  refine .v (.ixo sl58 rfl rfl (0) ⟨by first | omega | (dsimp only; omega), by have h_ := (List.getElem?_eq_some_iff.1 hkc).1; omega⟩) rfl ?_
  refine .v (.ldb ty3 rfl (.there (.there (.there (.there (.there .here))))) (encK_ok.get kn' (0) _ hkc dkn 0 _ rfl)) rfl ?_
  refine .v (.nilc rfl) rfl ?_
  refine .v (.fab fl60_2 rfl) rfl ?_
  refine .st (.stb ty3 rfl rfl rfl st2 .here) ?_
  refine .nil ?_
  refine .then ?_
  refine .seq ?_
  refine .region ?_
  refine .v (.asn rfl) rfl ?_
  refine .nil ?_
  refine .then ?_
  refine .ret ?_
  refine .front (.there (.there (.there .here))) ?_
  refine .front (.there (.there (.there .here))) ?_
  refine .front (.there (.there (.there .here))) ?_
  refine .front (.there (.there (.there .here))) ?_
  have hLe : Lies b ⟨(dropL T T.root).nodes, (dropL T T.root).free, c, T.count - 1⟩ ([⟨b, 60, [.slice na pn.length nc, .slice fa (dropL (⟨T.nodes, T.free, T.root, T.count - 1⟩ : TS) T.root).free.length fc, .int .i64 (c : Int), .int .i64 ((dropL (⟨T.nodes, T.free, T.root, T.count - 1⟩ : TS) T.root).count : Int)]⟩] ++ (nit ++ (fit ++ own pn))) := ⟨pn, na, nc, nit, fa, fc, fit, ⟨hrn, hrf, hok, hnd, rfl⟩⟩
  exact .done _ [_] (.t1 rfl rfl) .rfl ⟨_, rfl, rfl, hLe, rfl⟩ (fun w ho => by simpa [List.append_assoc] using (subl (.cons_cons _ (.cons_cons _ (.cons_cons _ (.cons_cons _ (.cons _ (.cons _ (.cons _ (.cons_cons _ .slnil)))))))) w ho))
theorem del_fn (b : Nat) (T : TS) (it : Itm) (F : Mem) (hT : Lies b T it) (h : Nat) (t : Tr) (hI : TInv T h t) (k : ByteArray) (hk : hasK (flat h t) k = true) (T' : TS) (hD : DelT k T T') : Fn Try.prog 22 #[.pointer (some ⟨b, 0, none⟩), .string k] [it] F (fun v M G => ∃ it', M = [it'] ∧ G = F ∧ Lies b T' it' ∧ v = .bool true) := by
  obtain ⟨m, T1, x1, k1, a1, a2, a3, a4, a5, a6, hd⟩ := hD
  rcases hd with ⟨b1, rfl⟩ | ⟨c, b1, b2, rfl⟩
  · by_cases hx : x1 = []
    · exact del_lf b T it F hT h t hI k hk m T1 x1 k1 a1 a2 a3 a4 a5 a6 hx (b1.resolve_left (fun h => h hx))
    · exact del_ne b T it F hT h t hI k hk m T1 x1 k1 a1 a2 a3 a4 a5 a6 hx
  · exact del_dr b T it F hT h t hI k hk m T1 x1 k1 a1 a2 a3 a4 a5 a6 c b1 b2
end Go.Proofs.Ytbmpdccoffkjgaa.Ow
