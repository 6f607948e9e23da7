/- Walks. -/
import Derived.Test.YtbmpdccoffkjgaaBr
import Derived.Test.YtbmpdccoffkjgaaTyu
namespace Go.Proofs.Ytbmpdccoffkjgaa.Ow
open Go
set_option linter.unusedVariables false
def RemSpec (k : ByteArray) (m : Nat) : Prop := ∀ (b : Nat) (T : TS) (it : Itm) (F : Mem) (hT : Lies b T it) (i : Nat) (T' : TS) (hR : RemR k m T i T'), Fn Try.prog 39 #[.pointer (some ⟨b, 0, none⟩), .int .i64 (i : Int), .string k] [it] F (fun v M G => ∃ it', M = [it'] ∧ G = F ∧ Lies b T' it')
theorem rem_leaf (b : Nat) (T : TS) (it : Itm) (F : Mem) (hT : Lies b T it) (k : ByteArray) (m : Nat) (ih : RemSpec k m) (i : Nat) (T' : TS) (xi : List Pr) (ki : List Nat) (hni : T.nodes[i]? = some ⟨xi, ki⟩) (hsi : Srt xi) (hxil : xi.length ≤ 5) (hkil : ki.length ≤ 6) (hfb : T.free.length ≤ 1099511627776) (hk0 : ki = []) (hk : hasK xi k = true) (hT' : T' = T.setN i ⟨xi.take (posK xi k) ++ xi.drop (posK xi k + 1), ki⟩) : Fn Try.prog 39 #[.pointer (some ⟨b, 0, none⟩), .int .i64 (i : Int), .string k] [it] F (fun v M G => ∃ it', M = [it'] ∧ G = F ∧ Lies b T' it') := by
  subst hT'
  obtain ⟨pn, na, nc, nit, fa, fc, fit, hP⟩ := hT
  obtain ⟨hrn, hrf, hok, hnd, rfl⟩ := hP
  have hln : pn.length = T.nodes.length := by rw [← hnd, List.length_map]
  have hmx := hrn.max
  have hcp := hrn.cap
  have hfm := hrf.max
  have hfcp := hrf.cap
  have hL0 : Lies b T (⟨b, 60, [.slice na pn.length nc, .slice fa T.free.length fc, .int .i64 (T.root : Int), .int .i64 (T.count : Int)]⟩ :: (nit ++ (fit ++ own pn))) := ⟨pn, na, nc, nit, fa, fc, fit, ⟨hrn, hrf, hok, hnd, rfl⟩⟩
  have hib := (List.getElem?_eq_some_iff.1 hni).1
  obtain ⟨nb, npad, rfl, rfl, hnp⟩ := hrn.blk (by omega)
  obtain ⟨ni, hi, ei⟩ := nd_get hnd hni
  have hoi := get_ok hok hi
  obtain ⟨⟨xi', api, cpi, ipi⟩, ⟨ki', aki, cki, iki⟩⟩ := ni
  obtain ⟨rfl, rfl⟩ : xi' = xi ∧ ki' = ki := by simpa [PN.nd] using ei
  have hpi : Row 47 encP 2 api cpi xi' ipi := hoi.p
  have hki : Row 3 encK 1 aki cki ki' iki := hoi.k
  have hki0 : ki'.length = 0 := by rw [hk0]; rfl
  have hqx : posK xi' k < xi'.length := by obtain ⟨p, hp, _⟩ := hasK_get hsi hk; exact (List.getElem?_eq_some_iff.1 hp).1
  refine Fn.start1 Try.func39 rfl Try.ntmps39 rfl (env := [(0, _), (1, _), (2, _)]) rfl ?_
  intro R
  refine .items (L' := [[⟨b, 60, _⟩], [⟨nb, 68, _⟩], fit, own pn, R]) (fun w ho => by simpa [List.append_assoc] using ho) ?_
  refine .seq ?_
  refine .region ?_
  refine .v (.mv rfl) rfl ?_
  refine .v (.nilc rfl) rfl ?_
  refine .v (.fa0 fl60_0 rfl) rfl ?_
  refine .v (.ldb ty57 rfl .here rfl) rfl ?_
  refine .v (.mv rfl) rfl ?_
  refine .v (.ixo sl57 rfl rfl (i) ⟨rfl, by have h_ := (List.getElem?_eq_some_iff.1 hi).1; omega⟩) rfl ?_
  refine .v (.ldm [.slice (api) (xi').length (cpi), .slice (aki) (ki').length (cki)] ty68 rfl (.there .here) rfl (fun j_ v_ hj_ => encN_ok.get pn i _ hi npad j_ v_ hj_)) rfl ?_
  refine .v (.mv rfl) rfl ?_
  refine .v (.call rfl rfl (Try.call36 _) (fun G hle hG => find_fn xi' _ _ G (hpi.sl encP_ok (fun b_ hb_ => hG b_ (Inn.mem (.there (.there (.there (.part (sub_p hi))))) b_ hb_))) hsi k (by omega) _ _ _)) rfl ?_
  refine .v (.mv rfl) rfl ?_
  refine .v (.ext rfl rfl) rfl ?_
  refine .v (.ext rfl rfl) rfl ?_
  refine .kn (t := 21) (v := .bool true) rfl (congrArg Value.bool hk) ?_
  refine .v (.asn rfl) rfl ?_
  refine .v (.asn rfl) rfl ?_
  refine .nil ?_
  refine .then ?_
  refine .block ?_
  refine .seq ?_
  refine .region ?_
  refine .v (.mv rfl) rfl ?_
  refine .v (.nilc rfl) rfl ?_
  refine .v (.fa0 fl60_0 rfl) rfl ?_
  refine .v (.ldb ty57 rfl .here rfl) rfl ?_
  refine .v (.mv rfl) rfl ?_
  refine .v (.ixo sl57 rfl rfl (i) ⟨rfl, by have h_ := (List.getElem?_eq_some_iff.1 hi).1; omega⟩) rfl ?_
  refine .v (.ldm [.slice (api) (xi').length (cpi), .slice (aki) (ki').length (cki)] ty68 rfl (.there .here) rfl (fun j_ v_ hj_ => encN_ok.get pn i _ hi npad j_ v_ hj_)) rfl ?_
  refine .vT (.call rfl rfl (Try.call37 _) (fun G hle hG => leaf_fn _ _ _ _ ki'.length _ G)) rfl (by omega) ?_
  refine .v (.asn rfl) rfl ?_
  refine .nil ?_
  refine .then ?_
  refine .condT rfl ?_
  refine .draw [[], [0], [1], [2], [], [], [5], [6], [7], [], [8, 9], [10], [11], [], [], [14], [12, 13, 15], [3, 4, 0, 1, 2, 3, 4, 5, 6, 7, 8, 9, 10, 11, 12, 13, 14, 15, 16], [17, 0, 1, 2, 3, 4, 5, 6, 7, 8, 9, 10, 11, 12, 13, 14, 15, 16], [18, 16, 16, 0, 1, 2, 3, 4, 5, 6, 7, 8, 9, 10, 11, 12, 13, 14, 15, 16]] [] (by kernel_rfl) (by kernel_rfl) rfl (e1 := [(0, _), (1, _), (6, _)]) (.cons rfl rfl (.cons rfl rfl (.cons rfl rfl .nil))) (fun x hx => by cases hx) rfl ?_
  refine .v (i := 0) [] rfl rfl rfl .nil (.n (.mv rfl)) ?_
  refine .v (i := 1) [(49, _)] rfl rfl rfl (.cons (.head _) rfl rfl .nil) (.n (.nilc rfl)) ?_
  refine .v (i := 2) [(50, _)] rfl rfl rfl (.cons (.head _) rfl rfl .nil) (.n (.fa0 fl60_0 rfl)) ?_
  refine .v (i := 3) [(51, _)] rfl rfl rfl (.cons (.head _) rfl rfl .nil) (.n (.ldb ty57 rfl .here rfl)) ?_
  refine .v (i := 4) [] rfl rfl rfl .nil (.n (.mv rfl)) ?_
  refine .v (i := 5) [] rfl rfl rfl .nil (.n (.mv rfl)) ?_
  refine .v (i := 6) [(54, _)] rfl rfl rfl (.cons (.head _) rfl rfl .nil) (.n (.nilc rfl)) ?_
  refine .v (i := 7) [(55, _)] rfl rfl rfl (.cons (.head _) rfl rfl .nil) (.n (.fa0 fl60_0 rfl)) ?_
  refine .v (i := 8) [(56, _)] rfl rfl rfl (.cons (.head _) rfl rfl .nil) (.n (.ldb ty57 rfl .here rfl)) ?_
  refine .v (i := 9) [] rfl rfl rfl .nil (.n (.mv rfl)) ?_
  refine .v (i := 10) [(57, _), (58, _)] rfl rfl rfl (.cons (.tail _ (.head _)) rfl rfl (.cons (.head _) rfl rfl .nil)) (.n (.ixo sl57 rfl rfl (i) ⟨rfl, by have h_ := (List.getElem?_eq_some_iff.1 hi).1; omega⟩)) ?_
  refine .v (i := 11) [(59, _)] rfl rfl rfl (.cons (.head _) rfl rfl .nil) (.n (.fa0 fl68_0 rfl)) ?_
  refine .v (i := 12) [(60, _)] rfl rfl rfl (.cons (.head _) rfl rfl .nil) (.n (.ldb (v := .slice (api) (xi').length (cpi)) ty22 rfl (.there .here) (encN_ok.get pn i _ hi npad 0 _ rfl))) ?_
  refine .v (i := 13) [] rfl rfl rfl .nil (.n (.mv rfl)) ?_
  refine .v (i := 14) [] rfl rfl rfl .nil (.n (.mv rfl)) ?_
  refine .v (i := 15) [(63, _)] rfl rfl rfl (.cons (.head _) rfl rfl .nil) (.n (.add rfl rfl (by omega))) ?_
  refine .e (i := 16) [(61, _), (62, _), (64, _)] [16, 12, 13, 15, 11, 14, 10, 8, 9, 7, 6, 5] rfl rfl rfl (.cons (.tail _ (.tail _ (.tail _ (.head _)))) rfl rfl (.cons (.tail _ (.tail _ (.head _))) rfl rfl (.cons (.head _) rfl rfl .nil))) rfl rfl rfl .n (.lend rfl rfl (Try.call49 _) _ (fun _ => (.there (.there (.there (upd_p hi _))))) (fun G hle hG => (delete_P xi' (posK xi' k) _ _ _ G hpi hqx).mono (fun v M H _ ⟨it, h1, _, h2⟩ => ⟨it, h1, h2⟩))) ?_
  rintro _ _ Gs2 _ ⟨it1, rfl, hGs_, ⟨a1, c1, rfl, hr1⟩⟩
  subst Gs2
  refine ⟨.skip rfl (.skip rfl (.skip rfl (.skip rfl (.skip rfl (.skip rfl (.skip rfl (.skip rfl (.skip rfl (.skip rfl (.skip rfl (.again [] rfl .nil (.n (.mv rfl)) (.again [(51, _)] rfl (.cons (.tail _ (.tail _ (.tail _ (.tail _ (.tail _ (.tail _ (.tail _ (.tail _ (.tail _ (.tail _ (.tail _ (.tail _ (.tail _ (.head _)))))))))))))) rfl rfl .nil) (.n (.ldb ty57 rfl .here rfl)) (.again [(50, _)] rfl (.cons (.tail _ (.tail _ (.tail _ (.tail _ (.tail _ (.tail _ (.tail _ (.tail _ (.tail _ (.tail _ (.tail _ (.tail _ (.tail _ (.tail _ (.head _))))))))))))))) rfl rfl .nil) (.n (.fa0 fl60_0 rfl)) (.again [(49, _)] rfl (.cons (.tail _ (.tail _ (.tail _ (.tail _ (.tail _ (.tail _ (.tail _ (.tail _ (.tail _ (.tail _ (.tail _ (.tail _ (.tail _ (.tail _ (.tail _ (.head _)))))))))))))))) rfl rfl .nil) (.n (.nilc rfl)) (.again [] rfl .nil (.n (.mv rfl)) .nil))))))))))))))), rfl, ?_⟩
  refine .tail0 17 [[17, 3, 4, 0, 1, 2, 5, 6, 7, 8, 9, 10, 11, 12, 13, 14, 15, 16], [18, 17, 0, 1, 2, 3, 4, 5, 6, 7, 8, 9, 10, 11, 12, 13, 14, 15, 16], [19, 18, 16, 0, 1, 2, 3, 4, 5, 6, 7, 8, 9, 10, 11, 12, 13, 14, 15, 17]] rfl rfl rfl rfl (e' := [(65, _), (64, _), (63, _), (62, _), (61, _), (60, _), (59, _), (58, _), (57, _), (56, _), (55, _), (54, _), (53, _), (52, _), (51, _), (50, _), (49, _), (0, _), (1, _), (6, _)]) rfl ?_
  refine .v (.ixo sl57 rfl rfl (i) ⟨rfl, by have h_ := (List.getElem?_eq_some_iff.1 hi).1; omega⟩) rfl ?_
  refine .v (.fa0 fl68_0 rfl) rfl ?_
  refine .st (.stp (vs := [.slice a1 (xi'.take (posK xi' k) ++ xi'.drop (posK xi' k + 1)).length c1]) (cs' := (pn.set i ⟨⟨xi'.take (posK xi' k) ++ xi'.drop (posK xi' k + 1), a1, c1, it1⟩, ⟨ki', aki, cki, iki⟩⟩).flatMap encN ++ npad) ty22 rfl rfl rfl rfl (by simp [Value.oneCell']) (by have h_ := (List.getElem?_eq_some_iff.1 hi).1; rw [List.length_append, encN_ok.fl]; omega) (encN_ok.put1 (j := 0) hi (by decide) rfl) (.there .here)) ?_
  rw [own_same_p pn i _ ⟨xi'.take (posK xi' k) ++ xi'.drop (posK xi' k + 1), a1, c1, it1⟩]
  obtain ⟨pn3, hpn3⟩ : ∃ x, x = pn.set i ⟨⟨xi'.take (posK xi' k) ++ xi'.drop (posK xi' k + 1), a1, c1, it1⟩, ⟨ki', aki, cki, iki⟩⟩ := ⟨_, rfl⟩
  rw [← hpn3]
  have hx3 := set_get' hpn3 hi
  replace hok : ∀ n ∈ pn3, n.Ok := by rw [hpn3]; exact set_ok hok ⟨hr1, hki⟩
  have hnd3 : pn3.map PN.nd = (T.nodes).set i ⟨xi'.take (posK xi' k) ++ xi'.drop (posK xi' k + 1), ki'⟩ := by rw [hpn3, List.map_set, hnd]; rfl
  have hln3 : pn3.length = pn.length := by rw [hpn3, List.length_set]
  have hcp3 : pn3.length ≤ nc := by omega
  have hnp3 : npad.length = (nc - pn3.length) * 2 := by rw [hln3]; exact hnp
  have hpi_3 := hr1
  have hki_3 := hki
  refine .nil ?_
  refine .blk ?_
  refine .front (.there (.there (.there .here))) ?_
  refine .front (.there (.there (.there .here))) ?_
  refine .front (.there (.there (.there .here))) ?_
  refine .front (.there (.there (.there .here))) ?_
  have hLe : Lies b (T.setN i ⟨xi'.take (posK xi' k) ++ xi'.drop (posK xi' k + 1), ki'⟩) ([⟨b, 60, [.slice (some ⟨nb, 0, none⟩) pn.length nc, .slice fa T.free.length fc, .int .i64 (T.root : Int), .int .i64 (T.count : Int)]⟩] ++ ([⟨nb, 68, pn3.flatMap encN ++ npad⟩] ++ (fit ++ own pn3))) := ⟨pn3, some ⟨nb, 0, none⟩, nc, _, fa, fc, fit, ⟨Row.of npad rfl hnp3 hcp3 hmx, hrf, hok, hnd3, by rw [hln3]; first | done | rfl⟩⟩
  exact .end _ [_] (.t0 rfl) .rfl ⟨_, rfl, rfl, hLe⟩ (fun w ho => by simpa [List.append_assoc] using (subl (.cons_cons _ (.cons_cons _ (.cons_cons _ (.cons_cons _ (.cons_cons _ .slnil))))) w ho))
theorem rem_feed (b : Nat) (T : TS) (it : Itm) (F : Mem) (hT : Lies b T it) (k : ByteArray) (m : Nat) (ih : RemSpec k m) (i : Nat) (T' : TS) (xi : List Pr) (ki : List Nat) (hni : T.nodes[i]? = some ⟨xi, ki⟩) (hsi : Srt xi) (hxil : xi.length ≤ 5) (hkil : ki.length ≤ 6) (hfb : T.free.length ≤ 1099511627776) (T1 : TS) (c : Nat) (hkl0 : 0 < ki.length) (hk : hasK xi k = false) (hF : FeedR T i (posK xi k) T1 c) (hR : RemR k m T1 c T') : Fn Try.prog 39 #[.pointer (some ⟨b, 0, none⟩), .int .i64 (i : Int), .string k] [it] F (fun v M G => ∃ it', M = [it'] ∧ G = F ∧ Lies b T' it') := by
  obtain ⟨pn, na, nc, nit, fa, fc, fit, hP⟩ := hT
  obtain ⟨hrn, hrf, hok, hnd, rfl⟩ := hP
  have hln : pn.length = T.nodes.length := by rw [← hnd, List.length_map]
  have hmx := hrn.max
  have hcp := hrn.cap
  have hfm := hrf.max
  have hfcp := hrf.cap
  have hL0 : Lies b T (⟨b, 60, [.slice na pn.length nc, .slice fa T.free.length fc, .int .i64 (T.root : Int), .int .i64 (T.count : Int)]⟩ :: (nit ++ (fit ++ own pn))) := ⟨pn, na, nc, nit, fa, fc, fit, ⟨hrn, hrf, hok, hnd, rfl⟩⟩
  have hib := (List.getElem?_eq_some_iff.1 hni).1
  obtain ⟨nb, npad, rfl, rfl, hnp⟩ := hrn.blk (by omega)
  obtain ⟨ni, hi, ei⟩ := nd_get hnd hni
  have hoi := get_ok hok hi
  obtain ⟨⟨xi', api, cpi, ipi⟩, ⟨ki', aki, cki, iki⟩⟩ := ni
  obtain ⟨rfl, rfl⟩ : xi' = xi ∧ ki' = ki := by simpa [PN.nd] using ei
  have hpi : Row 47 encP 2 api cpi xi' ipi := hoi.p
  have hki : Row 3 encK 1 aki cki ki' iki := hoi.k
  refine Fn.start1 Try.func39 rfl Try.ntmps39 rfl (env := [(0, _), (1, _), (2, _)]) rfl ?_
  intro R
  refine .items (L' := [[⟨b, 60, _⟩], [⟨nb, 68, _⟩], fit, own pn, R]) (fun w ho => by simpa [List.append_assoc] using ho) ?_
  refine .seq ?_
  refine .region ?_
  refine .v (.mv rfl) rfl ?_
  refine .v (.nilc rfl) rfl ?_
  refine .v (.fa0 fl60_0 rfl) rfl ?_
  refine .v (.ldb ty57 rfl .here rfl) rfl ?_
  refine .v (.mv rfl) rfl ?_
  refine .v (.ixo sl57 rfl rfl (i) ⟨rfl, by have h_ := (List.getElem?_eq_some_iff.1 hi).1; omega⟩) rfl ?_
  refine .v (.ldm [.slice (api) (xi').length (cpi), .slice (aki) (ki').length (cki)] ty68 rfl (.there .here) rfl (fun j_ v_ hj_ => encN_ok.get pn i _ hi npad j_ v_ hj_)) rfl ?_
  refine .v (.mv rfl) rfl ?_
  refine .v (.call rfl rfl (Try.call36 _) (fun G hle hG => find_fn xi' _ _ G (hpi.sl encP_ok (fun b_ hb_ => hG b_ (Inn.mem (.there (.there (.there (.part (sub_p hi))))) b_ hb_))) hsi k (by omega) _ _ _)) rfl ?_
  refine .v (.mv rfl) rfl ?_
  refine .v (.ext rfl rfl) rfl ?_
  refine .v (.ext rfl rfl) rfl ?_
  refine .kn (t := 21) (v := .bool false) rfl (congrArg Value.bool hk) ?_
  refine .v (.asn rfl) rfl ?_
  refine .v (.asn rfl) rfl ?_
  refine .nil ?_
  refine .then ?_
  refine .block ?_
  refine .seq ?_
  refine .region ?_
  refine .v (.mv rfl) rfl ?_
  refine .v (.nilc rfl) rfl ?_
  refine .v (.fa0 fl60_0 rfl) rfl ?_
  refine .v (.ldb ty57 rfl .here rfl) rfl ?_
  refine .v (.mv rfl) rfl ?_
  refine .v (.ixo sl57 rfl rfl (i) ⟨rfl, by have h_ := (List.getElem?_eq_some_iff.1 hi).1; omega⟩) rfl ?_
  refine .v (.ldm [.slice (api) (xi').length (cpi), .slice (aki) (ki').length (cki)] ty68 rfl (.there .here) rfl (fun j_ v_ hj_ => encN_ok.get pn i _ hi npad j_ v_ hj_)) rfl ?_
  refine .vF (.call rfl rfl (Try.call37 _) (fun G hle hG => leaf_fn _ _ _ _ ki'.length _ G)) rfl (by omega) ?_
  refine .v (.asn rfl) rfl ?_
  refine .nil ?_
  refine .then ?_
  refine .condF rfl ?_
  refine .seq ?_
  refine .region ?_
  refine .v (.mv rfl) rfl ?_
  refine .v (.not rfl) rfl ?_
  refine .v (.asn rfl) rfl ?_
  refine .nil ?_
  refine .then ?_
  refine .condT rfl ?_
  refine .region ?_
  refine .v (.mv rfl) rfl ?_
  refine .v (.mv rfl) rfl ?_
  refine .v (.mv rfl) rfl ?_
  refine .v (.mv rfl) rfl ?_
  refine .front (.there (.there (.there .here))) ?_
  refine .front (.there (.there (.there .here))) ?_
  refine .join ?_
  refine .front (.there (.there .here)) ?_
  refine .join ?_
  refine .front (.there .here) ?_
  refine .join ?_
  refine .lend (.lend rfl rfl (Try.call50 _) _ (fun _ => .here) (fun G hle hG => (feed_fn b T _ G hL0 i (posK xi' k) T1 c hF).mono (fun v M H _ ⟨it, h1, _, h2, h3⟩ => ⟨it, h1, (⟨h2, h3⟩ : _ ∧ _)⟩))) rfl ?_
  rintro _ itq ⟨hL2, rfl⟩
  refine .v (.mv rfl) rfl ?_
  refine .lend (.lend rfl rfl (Try.call39 _) _ (fun _ => .here) (fun G hle hG => (ih b _ _ G hL2 c T' hR).mono (fun v M H _ ⟨it, h1, _, h2⟩ => ⟨it, h1, h2⟩))) rfl ?_
  rintro _ its hLe
  refine .nil ?_
  refine .blk ?_
  exact .end _ [its] (.t0 rfl) .rfl ⟨_, rfl, rfl, hLe⟩ (fun w ho => by simpa [List.append_assoc] using (subl (.cons_cons _ (.cons_cons _ .slnil)) w ho))
theorem rem_popl (b : Nat) (T : TS) (it : Itm) (F : Mem) (hT : Lies b T it) (k : ByteArray) (m : Nat) (ih : RemSpec k m) (i : Nat) (T' : TS) (xi : List Pr) (ki : List Nat) (hni : T.nodes[i]? = some ⟨xi, ki⟩) (hsi : Srt xi) (hxil : xi.length ≤ 5) (hkil : ki.length ≤ 6) (hfb : T.free.length ≤ 1099511627776) (c : Nat) (xc : List Pr) (kc : List Nat) (T1 : TS) (p : Pr) (x1 : List Pr) (k1 : List Nat) (m' : Nat) (hkl0 : 0 < ki.length) (hk : hasK xi k = true) (hqc : ki[posK xi k]? = some c) (hnc : T.nodes[c]? = some ⟨xc, kc⟩) (h2c : 2 < xc.length) (hxcl : xc.length ≤ 5) (hP : PopR true m' T c T1 p) (hn1 : T1.nodes[i]? = some ⟨x1, k1⟩) (hq1 : posK xi k < x1.length) (hT' : T' = T1.setN i ⟨x1.set (posK xi k) p, k1⟩) : Fn Try.prog 39 #[.pointer (some ⟨b, 0, none⟩), .int .i64 (i : Int), .string k] [it] F (fun v M G => ∃ it', M = [it'] ∧ G = F ∧ Lies b T' it') := by
  subst hT'
  obtain ⟨pn, na, nc, nit, fa, fc, fit, hP⟩ := hT
  obtain ⟨hrn, hrf, hok, hnd, rfl⟩ := hP
  have hln : pn.length = T.nodes.length := by rw [← hnd, List.length_map]
  have hmx := hrn.max
  have hcp := hrn.cap
  have hfm := hrf.max
  have hfcp := hrf.cap
  have hL0 : Lies b T (⟨b, 60, [.slice na pn.length nc, .slice fa T.free.length fc, .int .i64 (T.root : Int), .int .i64 (T.count : Int)]⟩ :: (nit ++ (fit ++ own pn))) := ⟨pn, na, nc, nit, fa, fc, fit, ⟨hrn, hrf, hok, hnd, rfl⟩⟩
  have hib := (List.getElem?_eq_some_iff.1 hni).1
  obtain ⟨nb, npad, rfl, rfl, hnp⟩ := hrn.blk (by omega)
  have hkl1 := (List.getElem?_eq_some_iff.1 hqc).1
  obtain ⟨ni, hi, ei⟩ := nd_get hnd hni
  have hoi := get_ok hok hi
  obtain ⟨⟨xi', api, cpi, ipi⟩, ⟨ki', aki, cki, iki⟩⟩ := ni
  obtain ⟨rfl, rfl⟩ : xi' = xi ∧ ki' = ki := by simpa [PN.nd] using ei
  have hpi : Row 47 encP 2 api cpi xi' ipi := hoi.p
  have hki : Row 3 encK 1 aki cki ki' iki := hoi.k
  obtain ⟨bki, dki, rfl, rfl, hdki⟩ := hki.blk (by omega)
  obtain ⟨nc, hc, ec⟩ := nd_get hnd hnc
  have hoc := get_ok hok hc
  obtain ⟨⟨xc', apc, cpc, ipc⟩, ⟨kc', akc, ckc, ikc⟩⟩ := nc
  obtain ⟨rfl, rfl⟩ : xc' = xc ∧ kc' = kc := by simpa [PN.nd] using ec
  have hpc : Row 47 encP 2 apc cpc xc' ipc := hoc.p
  have hkc : Row 3 encK 1 akc ckc kc' ikc := hoc.k
  refine Fn.start1 Try.func39 rfl Try.ntmps39 rfl (env := [(0, _), (1, _), (2, _)]) rfl ?_
  intro R
  refine .items (L' := [[⟨b, 60, _⟩], [⟨nb, 68, _⟩], fit, own pn, R]) (fun w ho => by simpa [List.append_assoc] using ho) ?_
  refine .seq ?_
  refine .region ?_
  refine .v (.mv rfl) rfl ?_
  refine .v (.nilc rfl) rfl ?_
  refine .v (.fa0 fl60_0 rfl) rfl ?_
  refine .v (.ldb ty57 rfl .here rfl) rfl ?_
  refine .v (.mv rfl) rfl ?_
  refine .v (.ixo sl57 rfl rfl (i) ⟨rfl, by have h_ := (List.getElem?_eq_some_iff.1 hi).1; omega⟩) rfl ?_
  refine .v (.ldm [.slice (api) (xi').length (cpi), .slice (some ⟨bki, 0, none⟩) (ki').length (cki)] ty68 rfl (.there .here) rfl (fun j_ v_ hj_ => encN_ok.get pn i _ hi npad j_ v_ hj_)) rfl ?_
  refine .v (.mv rfl) rfl ?_
  refine .v (.call rfl rfl (Try.call36 _) (fun G hle hG => find_fn xi' _ _ G (hpi.sl encP_ok (fun b_ hb_ => hG b_ (Inn.mem (.there (.there (.there (.part (sub_p hi))))) b_ hb_))) hsi k (by omega) _ _ _)) rfl ?_
  refine .v (.mv rfl) rfl ?_
  refine .v (.ext rfl rfl) rfl ?_
  refine .v (.ext rfl rfl) rfl ?_
  refine .kn (t := 21) (v := .bool true) rfl (congrArg Value.bool hk) ?_
  refine .v (.asn rfl) rfl ?_
  refine .v (.asn rfl) rfl ?_
  refine .nil ?_
  refine .then ?_
  refine .block ?_
  refine .seq ?_
  refine .region ?_
  refine .v (.mv rfl) rfl ?_
  refine .v (.nilc rfl) rfl ?_
  refine .v (.fa0 fl60_0 rfl) rfl ?_
  refine .v (.ldb ty57 rfl .here rfl) rfl ?_
  refine .v (.mv rfl) rfl ?_
  refine .v (.ixo sl57 rfl rfl (i) ⟨rfl, by have h_ := (List.getElem?_eq_some_iff.1 hi).1; omega⟩) rfl ?_
  refine .v (.ldm [.slice (api) (xi').length (cpi), .slice (some ⟨bki, 0, none⟩) (ki').length (cki)] ty68 rfl (.there .here) rfl (fun j_ v_ hj_ => encN_ok.get pn i _ hi npad j_ v_ hj_)) rfl ?_
  refine .vF (.call rfl rfl (Try.call37 _) (fun G hle hG => leaf_fn _ _ _ _ ki'.length _ G)) rfl (by omega) ?_
  refine .v (.asn rfl) rfl ?_
  refine .nil ?_
  refine .then ?_
  refine .condF rfl ?_
  refine .seq ?_
  refine .region ?_
  refine .v (.mv rfl) rfl ?_
  refine .v (.not rfl) rfl ?_
  refine .v (.asn rfl) rfl ?_
  refine .nil ?_
  refine .then ?_
  refine .condF rfl ?_
  refine .seq ?_
  refine .draw [[], [0], [1], [2], [], [4], [5], [6], [], [7, 8], [9], [10], [], [11, 12], [13], [3, 14], [15], [16], [17], [18], [19]] [] (by kernel_rfl) (by kernel_rfl) rfl (e1 := [(0, _), (1, _), (2, _), (6, _)]) (.cons rfl rfl (.cons rfl rfl (.cons rfl rfl (.cons rfl rfl .nil)))) (fun x hx => by cases hx) rfl ?_
  refine .v (i := 0) [] rfl rfl rfl .nil (.n (.mv rfl)) ?_
  refine .v (i := 1) [(79, _)] rfl rfl rfl (.cons (.head _) rfl rfl .nil) (.n (.nilc rfl)) ?_
  refine .v (i := 2) [(80, _)] rfl rfl rfl (.cons (.head _) rfl rfl .nil) (.n (.fa0 fl60_0 rfl)) ?_
  refine .v (i := 3) [(81, _)] rfl rfl rfl (.cons (.head _) rfl rfl .nil) (.n (.ldb ty57 rfl .here rfl)) ?_
  refine .v (i := 4) [] rfl rfl rfl .nil (.n (.mv rfl)) ?_
  refine .v (i := 5) [(83, _)] rfl rfl rfl (.cons (.head _) rfl rfl .nil) (.n (.nilc rfl)) ?_
  refine .v (i := 6) [(84, _)] rfl rfl rfl (.cons (.head _) rfl rfl .nil) (.n (.fa0 fl60_0 rfl)) ?_
  refine .v (i := 7) [(85, _)] rfl rfl rfl (.cons (.head _) rfl rfl .nil) (.n (.ldb ty57 rfl .here rfl)) ?_
  refine .v (i := 8) [] rfl rfl rfl .nil (.n (.mv rfl)) ?_
  refine .v (i := 9) [(86, _), (87, _)] rfl rfl rfl (.cons (.tail _ (.head _)) rfl rfl (.cons (.head _) rfl rfl .nil)) (.n (.ixo sl57 rfl rfl (i) ⟨rfl, by have h_ := (List.getElem?_eq_some_iff.1 hi).1; omega⟩)) ?_
  refine .v (i := 10) [(88, _)] rfl rfl rfl (.cons (.head _) rfl rfl .nil) (.n (.fae fl68_1 rfl)) ?_
  refine .v (i := 11) [(89, _)] rfl rfl rfl (.cons (.head _) rfl rfl .nil) (.n (.ldb (v := .slice (some ⟨bki, 0, none⟩) (ki').length (cki)) ty58 rfl (.there .here) (encN_ok.get pn i _ hi npad 1 _ rfl))) ?_
  refine .v (i := 12) [] rfl rfl rfl .nil (.n (.mv rfl)) ?_
  refine .v (i := 13) [(90, _), (91, _)] rfl rfl rfl (.cons (.tail _ (.head _)) rfl rfl (.cons (.head _) rfl rfl .nil)) (.n (.ixo sl58 rfl rfl (posK xi' k) ⟨rfl, by have h_ := (List.getElem?_eq_some_iff.1 hqc).1; omega⟩)) ?_
  refine .v (i := 14) [(92, _)] rfl rfl rfl (.cons (.head _) rfl rfl .nil) (.n (.ldb ty3 rfl (.there (.there (.there (.part (sub_k hi))))) (encK_ok.get ki' (posK xi' k) _ hqc dki 0 _ rfl))) ?_
  refine .tail0 15 [[15, 3, 14, 2, 13, 1, 11, 12, 0, 10, 9, 7, 8, 6, 5, 4], [16, 15, 3, 14, 2, 13, 1, 11, 12, 0, 10, 9, 7, 8, 6, 5, 4], [17, 16, 15, 3, 14, 2, 13, 1, 11, 12, 0, 10, 9, 7, 8, 6, 5, 4], [18, 17, 16, 15, 3, 14, 2, 13, 1, 11, 12, 0, 10, 9, 7, 8, 6, 5, 4], [19, 18, 17, 16, 15, 3, 14, 2, 13, 1, 11, 12, 0, 10, 9, 7, 8, 6, 5, 4], [20, 19, 18, 17, 16, 15, 3, 14, 2, 13, 1, 11, 12, 0, 10, 9, 7, 8, 6, 5, 4]] rfl rfl rfl rfl (e' := [(93, _), (92, _), (91, _), (90, _), (89, _), (88, _), (87, _), (86, _), (85, _), (84, _), (83, _), (82, _), (81, _), (80, _), (79, _), (0, _), (1, _), (2, _), (6, _)]) rfl ?_
  refine .v (.ixo sl57 rfl rfl (c) ⟨rfl, by have h_ := (List.getElem?_eq_some_iff.1 hc).1; omega⟩) rfl ?_
  refine .v (.fa0 fl68_0 rfl) rfl ?_
  refine .v (.ldb (v := .slice (apc) (xc').length (cpc)) ty22 rfl (.there .here) (encN_ok.get pn c _ hc npad 0 _ rfl)) rfl ?_
  refine .v (.lenl Try.underlying22 rfl) rfl ?_
  refine .vT (.gt rfl rfl) rfl (by omega) ?_
  refine .v (.asn rfl) rfl ?_
  refine .nil ?_
  refine .then ?_
  refine .condT rfl ?_
  refine .seq ?_
  refine .region ?_
  refine .v (.mv rfl) rfl ?_
  refine .v (.mv rfl) rfl ?_
  refine .v (.nilc rfl) rfl ?_
  refine .v (.fa0 fl60_0 rfl) rfl ?_
  refine .v (.ldb ty57 rfl .here rfl) rfl ?_
  refine .v (.mv rfl) rfl ?_
  refine .v (.ixo sl57 rfl rfl (i) ⟨rfl, by have h_ := (List.getElem?_eq_some_iff.1 hi).1; omega⟩) rfl ?_
  refine .v (.fae fl68_1 rfl) rfl ?_
  refine .v (.ldb (v := .slice (some ⟨bki, 0, none⟩) (ki').length (cki)) ty58 rfl (.there .here) (encN_ok.get pn i _ hi npad 1 _ rfl)) rfl ?_
  refine .v (.mv rfl) rfl ?_
  refine .v (.ixo sl58 rfl rfl (posK xi' k) ⟨rfl, by have h_ := (List.getElem?_eq_some_iff.1 hqc).1; omega⟩) rfl ?_
  refine .v (.ldb ty3 rfl (.there (.there (.there (.part (sub_k hi))))) (encK_ok.get ki' (posK xi' k) _ hqc dki 0 _ rfl)) rfl ?_
  refine .front (.there (.there (.there .here))) ?_
  refine .front (.there (.there (.there .here))) ?_
  refine .join ?_
  refine .front (.there (.there .here)) ?_
  refine .join ?_
  refine .front (.there .here) ?_
  refine .join ?_
  refine .lend (.lend rfl rfl (Try.call51 _) _ (fun _ => .here) (fun G hle hG => (pop_l b T _ G hL0 m' c T1 p hP).mono (fun v M H _ ⟨it, h1, _, h2, h3⟩ => ⟨it, h1, (⟨h2, h3⟩ : _ ∧ _)⟩))) rfl ?_
  rintro _ itq ⟨hL2, rfl⟩
  clear hnd hok hrn hrf hln hmx hcp hfm hfcp hL0
  obtain ⟨T, hTT⟩ : ∃ T_, T_ = T1 := ⟨_, rfl⟩
  subst hTT
  obtain ⟨pn, na, nc, nit, fa, fc, fit, hP⟩ := hL2
  obtain ⟨hrn, hrf, hok, hnd, rfl⟩ := hP
  have hln : pn.length = T.nodes.length := by rw [← hnd, List.length_map]
  have hmx := hrn.max
  have hcp := hrn.cap
  have hfm := hrf.max
  have hfcp := hrf.cap
  have hib9 := (List.getElem?_eq_some_iff.1 hn1).1
  obtain ⟨nb, npad, rfl, rfl, hnp⟩ := hrn.blk (by omega)
  obtain ⟨nn, hn, en⟩ := nd_get hnd hn1
  have hon := get_ok hok hn
  obtain ⟨⟨xn', apn, cpn, ipn⟩, ⟨kn', akn, ckn, ikn⟩⟩ := nn
  obtain ⟨rfl, rfl⟩ : xn' = x1 ∧ kn' = k1 := by simpa [PN.nd] using en
  have hpn : Row 47 encP 2 apn cpn xn' ipn := hon.p
  have hkn : Row 3 encK 1 akn ckn kn' ikn := hon.k
  obtain ⟨bpn, dpn, rfl, rfl, hdpn⟩ := hpn.blk (by omega)
  obtain ⟨po, hpo⟩ : ∃ y, xn'[posK xi' k]? = some y := ⟨_, List.getElem?_eq_getElem (by omega)⟩
  refine .parts ?_
  refine .nb (.alloc ty47 rfl) rfl (fun b1 => ?_)
  refine .st (.stw ty47 rfl rfl rfl rfl rfl .here) ?_
  refine .nil ?_
  refine .then ?_
  refine .draw [[], [0], [1], [2], [], [3, 4], [5], [6], [], [], [7, 8, 0, 1, 2, 3, 4, 5, 6, 7, 8, 9], [10, 9, 0, 1, 2, 3, 4, 5, 6, 7, 8, 9]] [] (by kernel_rfl) (by kernel_rfl) rfl (e1 := [(0, _), (1, _), (6, _), (8, _)]) (.cons rfl rfl (.cons rfl rfl (.cons rfl rfl (.cons rfl rfl .nil)))) (fun x hx => by cases hx) rfl ?_
  refine .v (i := 0) [] rfl rfl rfl .nil (.n (.mv rfl)) ?_
  refine .v (i := 1) [(112, _)] rfl rfl rfl (.cons (.head _) rfl rfl .nil) (.n (.nilc rfl)) ?_
  refine .v (i := 2) [(113, _)] rfl rfl rfl (.cons (.head _) rfl rfl .nil) (.n (.fa0 fl60_0 rfl)) ?_
  refine .v (i := 3) [(114, _)] rfl rfl rfl (.cons (.head _) rfl rfl .nil) (.n (.ldb ty57 rfl (.there .here) rfl)) ?_
  refine .v (i := 4) [] rfl rfl rfl .nil (.n (.mv rfl)) ?_
  refine .v (i := 5) [(115, _), (116, _)] rfl rfl rfl (.cons (.tail _ (.head _)) rfl rfl (.cons (.head _) rfl rfl .nil)) (.n (.ixo sl57 rfl rfl (i) ⟨rfl, by have h_ := (List.getElem?_eq_some_iff.1 hn).1; omega⟩)) ?_
  refine .v (i := 6) [(117, _)] rfl rfl rfl (.cons (.head _) rfl rfl .nil) (.n (.fa0 fl68_0 rfl)) ?_
  refine .v (i := 7) [(118, _)] rfl rfl rfl (.cons (.head _) rfl rfl .nil) (.n (.ldb (v := .slice (some ⟨bpn, 0, none⟩) (xn').length (cpn)) ty22 rfl (.there (.there .here)) (encN_ok.get pn i _ hn npad 0 _ rfl))) ?_
  refine .v (i := 8) [] rfl rfl rfl .nil (.n (.mv rfl)) ?_
  refine .v (i := 9) [] rfl rfl rfl .nil (.n (.ldw ty47 rfl .here rfl)) ?_
  refine .tail0 10 [[10, 7, 8, 0, 1, 2, 3, 4, 5, 6, 9], [11, 10, 9, 0, 1, 2, 3, 4, 5, 6, 7, 8]] rfl rfl rfl rfl (e' := [(121, _), (120, _), (119, _), (118, _), (117, _), (116, _), (115, _), (114, _), (113, _), (112, _), (0, _), (1, _), (6, _), (8, _)]) rfl ?_
  refine .v (.ixo sl22 rfl rfl (posK xi' k) ⟨rfl, by have h_ := (List.getElem?_eq_some_iff.1 hpo).1; omega⟩) rfl ?_
  refine .st (.stp (vs := encP p) (cs' := (xn'.set (posK xi' k) p).flatMap encP ++ dpn) ty47 rfl rfl rfl rfl (encP_ok.one p) (by have h_ := (List.getElem?_eq_some_iff.1 hpo).1; rw [List.length_append, encP_ok.fl]; omega) (by rw [show (posK xi' k) * 2 + 2 = (posK xi' k + 1) * 2 by omega]; exact encP_ok.put xn' dpn (posK xi' k) (List.getElem?_eq_some_iff.1 hpo).1 p) (.there (.there (.there (.there (upd_p hn _)))))) ?_
  have hrw2 : Row 47 encP 2 (some ⟨bpn, 0, none⟩) cpn (xn'.set (posK xi' k) p) [⟨bpn, 47, (xn'.set (posK xi' k) p).flatMap encP ++ dpn⟩] := Row.of dpn rfl (by rw [List.length_set]; exact hdpn) (by rw [List.length_set]; exact hpn.cap) hpn.max
  rw [own_same_p pn i _ ⟨xn'.set (posK xi' k) p, some ⟨bpn, 0, none⟩, cpn, [⟨bpn, 47, (xn'.set (posK xi' k) p).flatMap encP ++ dpn⟩]⟩]
  rw [← flat_same (m := ⟨⟨xn'.set (posK xi' k) p, some ⟨bpn, 0, none⟩, cpn, [⟨bpn, 47, (xn'.set (posK xi' k) p).flatMap encP ++ dpn⟩]⟩, ⟨kn', akn, ckn, ikn⟩⟩) hn (by simp [encN])]
  obtain ⟨pn3, hpn3⟩ : ∃ x, x = pn.set i ⟨⟨xn'.set (posK xi' k) p, some ⟨bpn, 0, none⟩, cpn, [⟨bpn, 47, (xn'.set (posK xi' k) p).flatMap encP ++ dpn⟩]⟩, ⟨kn', akn, ckn, ikn⟩⟩ := ⟨_, rfl⟩
  rw [← hpn3]
  have hx3 := set_get' hpn3 hn
  replace hok : ∀ n ∈ pn3, n.Ok := by rw [hpn3]; exact set_ok hok ⟨hrw2, hkn⟩
  have hnd3 : pn3.map PN.nd = (T.nodes).set i ⟨xn'.set (posK xi' k) p, kn'⟩ := by rw [hpn3, List.map_set, hnd]; rfl
  have hln3 : pn3.length = pn.length := by rw [hpn3, List.length_set]
  have hcp3 : pn3.length ≤ nc := by omega
  have hnp3 : npad.length = (nc - pn3.length) * 2 := by rw [hln3]; exact hnp
  have hpn_3 := hrw2
  have hkn_3 := hkn
  refine .nil ?_
  refine .blk ?_
  refine .front (.there (.there (.there (.there .here)))) ?_
  refine .front (.there (.there (.there (.there .here)))) ?_
  refine .front (.there (.there (.there (.there .here)))) ?_
  refine .front (.there (.there (.there (.there .here)))) ?_
  have hLe : Lies b (T.setN i ⟨xn'.set (posK xi' k) p, kn'⟩) ([⟨b, 60, [.slice (some ⟨nb, 0, none⟩) pn.length nc, .slice fa T.free.length fc, .int .i64 (T.root : Int), .int .i64 (T.count : Int)]⟩] ++ ([⟨nb, 68, pn3.flatMap encN ++ npad⟩] ++ (fit ++ own pn3))) := ⟨pn3, some ⟨nb, 0, none⟩, nc, _, fa, fc, fit, ⟨Row.of npad rfl hnp3 hcp3 hmx, hrf, hok, hnd3, by rw [hln3]; first | done | rfl⟩⟩
  exact .end _ [_] (.t0 rfl) .rfl ⟨_, rfl, rfl, hLe⟩ (fun w ho => by simpa [List.append_assoc] using (subl (.cons_cons _ (.cons_cons _ (.cons_cons _ (.cons_cons _ (.cons _ (.cons_cons _ .slnil)))))) w ho))
theorem rem_popr (b : Nat) (T : TS) (it : Itm) (F : Mem) (hT : Lies b T it) (k : ByteArray) (m : Nat) (ih : RemSpec k m) (i : Nat) (T' : TS) (xi : List Pr) (ki : List Nat) (hni : T.nodes[i]? = some ⟨xi, ki⟩) (hsi : Srt xi) (hxil : xi.length ≤ 5) (hkil : ki.length ≤ 6) (hfb : T.free.length ≤ 1099511627776) (c : Nat) (xc : List Pr) (kc : List Nat) (e : Nat) (xe : List Pr) (ke : List Nat) (T1 : TS) (p : Pr) (x1 : List Pr) (k1 : List Nat) (m' : Nat) (hkl0 : 0 < ki.length) (hk : hasK xi k = true) (hqc : ki[posK xi k]? = some c) (hnc : T.nodes[c]? = some ⟨xc, kc⟩) (h2c : xc.length ≤ 2) (hqe : ki[posK xi k + 1]? = some e) (hne : T.nodes[e]? = some ⟨xe, ke⟩) (h2e : 2 < xe.length) (hxel : xe.length ≤ 5) (hP : PopR false m' T e T1 p) (hn1 : T1.nodes[i]? = some ⟨x1, k1⟩) (hq1 : posK xi k < x1.length) (hT' : T' = T1.setN i ⟨x1.set (posK xi k) p, k1⟩) : Fn Try.prog 39 #[.pointer (some ⟨b, 0, none⟩), .int .i64 (i : Int), .string k] [it] F (fun v M G => ∃ it', M = [it'] ∧ G = F ∧ Lies b T' it') := by
  subst hT'
  obtain ⟨pn, na, nc, nit, fa, fc, fit, hP⟩ := hT
  obtain ⟨hrn, hrf, hok, hnd, rfl⟩ := hP
  have hln : pn.length = T.nodes.length := by rw [← hnd, List.length_map]
  have hmx := hrn.max
  have hcp := hrn.cap
  have hfm := hrf.max
  have hfcp := hrf.cap
  have hL0 : Lies b T (⟨b, 60, [.slice na pn.length nc, .slice fa T.free.length fc, .int .i64 (T.root : Int), .int .i64 (T.count : Int)]⟩ :: (nit ++ (fit ++ own pn))) := ⟨pn, na, nc, nit, fa, fc, fit, ⟨hrn, hrf, hok, hnd, rfl⟩⟩
  have hib := (List.getElem?_eq_some_iff.1 hni).1
  obtain ⟨nb, npad, rfl, rfl, hnp⟩ := hrn.blk (by omega)
  have hkl1 := (List.getElem?_eq_some_iff.1 hqc).1
  have hkl2 := (List.getElem?_eq_some_iff.1 hqe).1
  obtain ⟨ni, hi, ei⟩ := nd_get hnd hni
  have hoi := get_ok hok hi
  obtain ⟨⟨xi', api, cpi, ipi⟩, ⟨ki', aki, cki, iki⟩⟩ := ni
  obtain ⟨rfl, rfl⟩ : xi' = xi ∧ ki' = ki := by simpa [PN.nd] using ei
  have hpi : Row 47 encP 2 api cpi xi' ipi := hoi.p
  have hki : Row 3 encK 1 aki cki ki' iki := hoi.k
  obtain ⟨bki, dki, rfl, rfl, hdki⟩ := hki.blk (by omega)
  obtain ⟨nc, hc, ec⟩ := nd_get hnd hnc
  have hoc := get_ok hok hc
  obtain ⟨⟨xc', apc, cpc, ipc⟩, ⟨kc', akc, ckc, ikc⟩⟩ := nc
  obtain ⟨rfl, rfl⟩ : xc' = xc ∧ kc' = kc := by simpa [PN.nd] using ec
  have hpc : Row 47 encP 2 apc cpc xc' ipc := hoc.p
  have hkc : Row 3 encK 1 akc ckc kc' ikc := hoc.k
  obtain ⟨ne, he, ee⟩ := nd_get hnd hne
  have hoe := get_ok hok he
  obtain ⟨⟨xe', ape, cpe, ipe⟩, ⟨ke', ake, cke, ike⟩⟩ := ne
  obtain ⟨rfl, rfl⟩ : xe' = xe ∧ ke' = ke := by simpa [PN.nd] using ee
  have hpe : Row 47 encP 2 ape cpe xe' ipe := hoe.p
  have hke : Row 3 encK 1 ake cke ke' ike := hoe.k
  refine Fn.start1 Try.func39 rfl Try.ntmps39 rfl (env := [(0, _), (1, _), (2, _)]) rfl ?_
  intro R
  refine .items (L' := [[⟨b, 60, _⟩], [⟨nb, 68, _⟩], fit, own pn, R]) (fun w ho => by simpa [List.append_assoc] using ho) ?_
  refine .seq ?_
  refine .region ?_
  refine .v (.mv rfl) rfl ?_
  refine .v (.nilc rfl) rfl ?_
  refine .v (.fa0 fl60_0 rfl) rfl ?_
  refine .v (.ldb ty57 rfl .here rfl) rfl ?_
  refine .v (.mv rfl) rfl ?_
  refine .v (.ixo sl57 rfl rfl (i) ⟨rfl, by have h_ := (List.getElem?_eq_some_iff.1 hi).1; omega⟩) rfl ?_
  refine .v (.ldm [.slice (api) (xi').length (cpi), .slice (some ⟨bki, 0, none⟩) (ki').length (cki)] ty68 rfl (.there .here) rfl (fun j_ v_ hj_ => encN_ok.get pn i _ hi npad j_ v_ hj_)) rfl ?_
  refine .v (.mv rfl) rfl ?_
  refine .v (.call rfl rfl (Try.call36 _) (fun G hle hG => find_fn xi' _ _ G (hpi.sl encP_ok (fun b_ hb_ => hG b_ (Inn.mem (.there (.there (.there (.part (sub_p hi))))) b_ hb_))) hsi k (by omega) _ _ _)) rfl ?_
  refine .v (.mv rfl) rfl ?_
  refine .v (.ext rfl rfl) rfl ?_
  refine .v (.ext rfl rfl) rfl ?_
  refine .kn (t := 21) (v := .bool true) rfl (congrArg Value.bool hk) ?_
  refine .v (.asn rfl) rfl ?_
  refine .v (.asn rfl) rfl ?_
  refine .nil ?_
  refine .then ?_
  refine .block ?_
  refine .seq ?_
  refine .region ?_
  refine .v (.mv rfl) rfl ?_
  refine .v (.nilc rfl) rfl ?_
  refine .v (.fa0 fl60_0 rfl) rfl ?_
  refine .v (.ldb ty57 rfl .here rfl) rfl ?_
  refine .v (.mv rfl) rfl ?_
  refine .v (.ixo sl57 rfl rfl (i) ⟨rfl, by have h_ := (List.getElem?_eq_some_iff.1 hi).1; omega⟩) rfl ?_
  refine .v (.ldm [.slice (api) (xi').length (cpi), .slice (some ⟨bki, 0, none⟩) (ki').length (cki)] ty68 rfl (.there .here) rfl (fun j_ v_ hj_ => encN_ok.get pn i _ hi npad j_ v_ hj_)) rfl ?_
  refine .vF (.call rfl rfl (Try.call37 _) (fun G hle hG => leaf_fn _ _ _ _ ki'.length _ G)) rfl (by omega) ?_
  refine .v (.asn rfl) rfl ?_
  refine .nil ?_
  refine .then ?_
  refine .condF rfl ?_
  refine .seq ?_
  refine .region ?_
  refine .v (.mv rfl) rfl ?_
  refine .v (.not rfl) rfl ?_
  refine .v (.asn rfl) rfl ?_
  refine .nil ?_
  refine .then ?_
  refine .condF rfl ?_
  refine .seq ?_
  refine .draw [[], [0], [1], [2], [], [4], [5], [6], [], [7, 8], [9], [10], [], [11, 12], [13], [3, 14], [15], [16], [17], [18], [19]] [] (by kernel_rfl) (by kernel_rfl) rfl (e1 := [(0, _), (1, _), (2, _), (6, _)]) (.cons rfl rfl (.cons rfl rfl (.cons rfl rfl (.cons rfl rfl .nil)))) (fun x hx => by cases hx) rfl ?_
  refine .v (i := 0) [] rfl rfl rfl .nil (.n (.mv rfl)) ?_
  refine .v (i := 1) [(79, _)] rfl rfl rfl (.cons (.head _) rfl rfl .nil) (.n (.nilc rfl)) ?_
  refine .v (i := 2) [(80, _)] rfl rfl rfl (.cons (.head _) rfl rfl .nil) (.n (.fa0 fl60_0 rfl)) ?_
  refine .v (i := 3) [(81, _)] rfl rfl rfl (.cons (.head _) rfl rfl .nil) (.n (.ldb ty57 rfl .here rfl)) ?_
  refine .v (i := 4) [] rfl rfl rfl .nil (.n (.mv rfl)) ?_
  refine .v (i := 5) [(83, _)] rfl rfl rfl (.cons (.head _) rfl rfl .nil) (.n (.nilc rfl)) ?_
  refine .v (i := 6) [(84, _)] rfl rfl rfl (.cons (.head _) rfl rfl .nil) (.n (.fa0 fl60_0 rfl)) ?_
  refine .v (i := 7) [(85, _)] rfl rfl rfl (.cons (.head _) rfl rfl .nil) (.n (.ldb ty57 rfl .here rfl)) ?_
  refine .v (i := 8) [] rfl rfl rfl .nil (.n (.mv rfl)) ?_
  refine .v (i := 9) [(86, _), (87, _)] rfl rfl rfl (.cons (.tail _ (.head _)) rfl rfl (.cons (.head _) rfl rfl .nil)) (.n (.ixo sl57 rfl rfl (i) ⟨rfl, by have h_ := (List.getElem?_eq_some_iff.1 hi).1; omega⟩)) ?_
  refine .v (i := 10) [(88, _)] rfl rfl rfl (.cons (.head _) rfl rfl .nil) (.n (.fae fl68_1 rfl)) ?_
  refine .v (i := 11) [(89, _)] rfl rfl rfl (.cons (.head _) rfl rfl .nil) (.n (.ldb (v := .slice (some ⟨bki, 0, none⟩) (ki').length (cki)) ty58 rfl (.there .here) (encN_ok.get pn i _ hi npad 1 _ rfl))) ?_
  refine .v (i := 12) [] rfl rfl rfl .nil (.n (.mv rfl)) ?_
  refine .v (i := 13) [(90, _), (91, _)] rfl rfl rfl (.cons (.tail _ (.head _)) rfl rfl (.cons (.head _) rfl rfl .nil)) (.n (.ixo sl58 rfl rfl (posK xi' k) ⟨rfl, by have h_ := (List.getElem?_eq_some_iff.1 hqc).1; omega⟩)) ?_
  refine .v (i := 14) [(92, _)] rfl rfl rfl (.cons (.head _) rfl rfl .nil) (.n (.ldb ty3 rfl (.there (.there (.there (.part (sub_k hi))))) (encK_ok.get ki' (posK xi' k) _ hqc dki 0 _ rfl))) ?_
  refine .tail0 15 [[15, 3, 14, 2, 13, 1, 11, 12, 0, 10, 9, 7, 8, 6, 5, 4], [16, 15, 3, 14, 2, 13, 1, 11, 12, 0, 10, 9, 7, 8, 6, 5, 4], [17, 16, 15, 3, 14, 2, 13, 1, 11, 12, 0, 10, 9, 7, 8, 6, 5, 4], [18, 17, 16, 15, 3, 14, 2, 13, 1, 11, 12, 0, 10, 9, 7, 8, 6, 5, 4], [19, 18, 17, 16, 15, 3, 14, 2, 13, 1, 11, 12, 0, 10, 9, 7, 8, 6, 5, 4], [20, 19, 18, 17, 16, 15, 3, 14, 2, 13, 1, 11, 12, 0, 10, 9, 7, 8, 6, 5, 4]] rfl rfl rfl rfl (e' := [(93, _), (92, _), (91, _), (90, _), (89, _), (88, _), (87, _), (86, _), (85, _), (84, _), (83, _), (82, _), (81, _), (80, _), (79, _), (0, _), (1, _), (2, _), (6, _)]) rfl ?_
  refine .v (.ixo sl57 rfl rfl (c) ⟨rfl, by have h_ := (List.getElem?_eq_some_iff.1 hc).1; omega⟩) rfl ?_
  refine .v (.fa0 fl68_0 rfl) rfl ?_
  refine .v (.ldb (v := .slice (apc) (xc').length (cpc)) ty22 rfl (.there .here) (encN_ok.get pn c _ hc npad 0 _ rfl)) rfl ?_
  refine .v (.lenl Try.underlying22 rfl) rfl ?_
  refine .vF (.gt rfl rfl) rfl (by omega) ?_
  refine .v (.asn rfl) rfl ?_
  refine .nil ?_
  refine .then ?_
  refine .condF rfl ?_
  refine .seq ?_
  refine .draw [[], [0], [1], [2], [], [4], [5], [6], [], [7, 8], [9], [10], [], [12], [11, 13], [14], [3, 15], [16], [17], [18], [19], [20]] [] (by kernel_rfl) (by kernel_rfl) rfl (e1 := [(0, _), (1, _), (2, _), (6, _)]) (.cons rfl rfl (.cons rfl rfl (.cons rfl rfl (.cons rfl rfl .nil)))) (fun x hx => by cases hx) rfl ?_
  refine .v (i := 0) [] rfl rfl rfl .nil (.n (.mv rfl)) ?_
  refine .v (i := 1) [(124, _)] rfl rfl rfl (.cons (.head _) rfl rfl .nil) (.n (.nilc rfl)) ?_
  refine .v (i := 2) [(125, _)] rfl rfl rfl (.cons (.head _) rfl rfl .nil) (.n (.fa0 fl60_0 rfl)) ?_
  refine .v (i := 3) [(126, _)] rfl rfl rfl (.cons (.head _) rfl rfl .nil) (.n (.ldb ty57 rfl .here rfl)) ?_
  refine .v (i := 4) [] rfl rfl rfl .nil (.n (.mv rfl)) ?_
  refine .v (i := 5) [(128, _)] rfl rfl rfl (.cons (.head _) rfl rfl .nil) (.n (.nilc rfl)) ?_
  refine .v (i := 6) [(129, _)] rfl rfl rfl (.cons (.head _) rfl rfl .nil) (.n (.fa0 fl60_0 rfl)) ?_
  refine .v (i := 7) [(130, _)] rfl rfl rfl (.cons (.head _) rfl rfl .nil) (.n (.ldb ty57 rfl .here rfl)) ?_
  refine .v (i := 8) [] rfl rfl rfl .nil (.n (.mv rfl)) ?_
  refine .v (i := 9) [(131, _), (132, _)] rfl rfl rfl (.cons (.tail _ (.head _)) rfl rfl (.cons (.head _) rfl rfl .nil)) (.n (.ixo sl57 rfl rfl (i) ⟨rfl, by have h_ := (List.getElem?_eq_some_iff.1 hi).1; omega⟩)) ?_
  refine .v (i := 10) [(133, _)] rfl rfl rfl (.cons (.head _) rfl rfl .nil) (.n (.fae fl68_1 rfl)) ?_
  refine .v (i := 11) [(134, _)] rfl rfl rfl (.cons (.head _) rfl rfl .nil) (.n (.ldb (v := .slice (some ⟨bki, 0, none⟩) (ki').length (cki)) ty58 rfl (.there .here) (encN_ok.get pn i _ hi npad 1 _ rfl))) ?_
  refine .v (i := 12) [] rfl rfl rfl .nil (.n (.mv rfl)) ?_
  refine .v (i := 13) [(136, _)] rfl rfl rfl (.cons (.head _) rfl rfl .nil) (.n (.add rfl rfl (by omega))) ?_
  refine .v (i := 14) [(135, _), (137, _)] rfl rfl rfl (.cons (.tail _ (.tail _ (.head _))) rfl rfl (.cons (.head _) rfl rfl .nil)) (.n (.ixo sl58 rfl rfl (posK xi' k + 1) ⟨by omega, by have h_ := (List.getElem?_eq_some_iff.1 hqe).1; omega⟩)) ?_
  refine .v (i := 15) [(138, _)] rfl rfl rfl (.cons (.head _) rfl rfl .nil) (.n (.ldb ty3 rfl (.there (.there (.there (.part (sub_k hi))))) (encK_ok.get ki' (posK xi' k + 1) _ hqe dki 0 _ rfl))) ?_
  refine .tail0 16 [[16, 3, 15, 2, 14, 1, 11, 13, 0, 10, 12, 9, 7, 8, 6, 5, 4], [17, 16, 3, 15, 2, 14, 1, 11, 13, 0, 10, 12, 9, 7, 8, 6, 5, 4], [18, 17, 16, 3, 15, 2, 14, 1, 11, 13, 0, 10, 12, 9, 7, 8, 6, 5, 4], [19, 18, 17, 16, 3, 15, 2, 14, 1, 11, 13, 0, 10, 12, 9, 7, 8, 6, 5, 4], [20, 19, 18, 17, 16, 3, 15, 2, 14, 1, 11, 13, 0, 10, 12, 9, 7, 8, 6, 5, 4], [21, 20, 19, 18, 17, 16, 3, 15, 2, 14, 1, 11, 13, 0, 10, 12, 9, 7, 8, 6, 5, 4]] rfl rfl rfl rfl (e' := [(139, _), (138, _), (137, _), (136, _), (135, _), (134, _), (133, _), (132, _), (131, _), (130, _), (129, _), (128, _), (127, _), (126, _), (125, _), (124, _), (0, _), (1, _), (2, _), (6, _)]) rfl ?_
  refine .v (.ixo sl57 rfl rfl (e) ⟨rfl, by have h_ := (List.getElem?_eq_some_iff.1 he).1; omega⟩) rfl ?_
  refine .v (.fa0 fl68_0 rfl) rfl ?_
  refine .v (.ldb (v := .slice (ape) (xe').length (cpe)) ty22 rfl (.there .here) (encN_ok.get pn e _ he npad 0 _ rfl)) rfl ?_
  refine .v (.lenl Try.underlying22 rfl) rfl ?_
  refine .vT (.gt rfl rfl) rfl (by omega) ?_
  refine .v (.asn rfl) rfl ?_
  refine .nil ?_
  refine .then ?_
  refine .condT rfl ?_
  refine .seq ?_
  refine .region ?_
  refine .v (.mv rfl) rfl ?_
  refine .v (.mv rfl) rfl ?_
  refine .v (.nilc rfl) rfl ?_
  refine .v (.fa0 fl60_0 rfl) rfl ?_
  refine .v (.ldb ty57 rfl .here rfl) rfl ?_
  refine .v (.mv rfl) rfl ?_
  refine .v (.ixo sl57 rfl rfl (i) ⟨rfl, by have h_ := (List.getElem?_eq_some_iff.1 hi).1; omega⟩) rfl ?_
  refine .v (.fae fl68_1 rfl) rfl ?_
  refine .v (.ldb (v := .slice (some ⟨bki, 0, none⟩) (ki').length (cki)) ty58 rfl (.there .here) (encN_ok.get pn i _ hi npad 1 _ rfl)) rfl ?_
  refine .v (.mv rfl) rfl ?_
  refine .v (.add rfl rfl (by omega)) rfl ?_
  refine .v (.ixo sl58 rfl rfl (posK xi' k + 1) ⟨by omega, by have h_ := (List.getElem?_eq_some_iff.1 hqe).1; omega⟩) rfl ?_
  refine .v (.ldb ty3 rfl (.there (.there (.there (.part (sub_k hi))))) (encK_ok.get ki' (posK xi' k + 1) _ hqe dki 0 _ rfl)) rfl ?_
  refine .front (.there (.there (.there .here))) ?_
  refine .front (.there (.there (.there .here))) ?_
  refine .join ?_
  refine .front (.there (.there .here)) ?_
  refine .join ?_
  refine .front (.there .here) ?_
  refine .join ?_
  refine .lend (.lend rfl rfl (Try.call51 _) _ (fun _ => .here) (fun G hle hG => (pop_f b T _ G hL0 m' e T1 p hP).mono (fun v M H _ ⟨it, h1, _, h2, h3⟩ => ⟨it, h1, (⟨h2, h3⟩ : _ ∧ _)⟩))) rfl ?_
  rintro _ itq ⟨hL2, rfl⟩
  clear hnd hok hrn hrf hln hmx hcp hfm hfcp hL0
  obtain ⟨T, hTT⟩ : ∃ T_, T_ = T1 := ⟨_, rfl⟩
  subst hTT
  obtain ⟨pn, na, nc, nit, fa, fc, fit, hP⟩ := hL2
  obtain ⟨hrn, hrf, hok, hnd, rfl⟩ := hP
  have hln : pn.length = T.nodes.length := by rw [← hnd, List.length_map]
  have hmx := hrn.max
  have hcp := hrn.cap
  have hfm := hrf.max
  have hfcp := hrf.cap
  have hib9 := (List.getElem?_eq_some_iff.1 hn1).1
  obtain ⟨nb, npad, rfl, rfl, hnp⟩ := hrn.blk (by omega)
  obtain ⟨nn, hn, en⟩ := nd_get hnd hn1
  have hon := get_ok hok hn
  obtain ⟨⟨xn', apn, cpn, ipn⟩, ⟨kn', akn, ckn, ikn⟩⟩ := nn
  obtain ⟨rfl, rfl⟩ : xn' = x1 ∧ kn' = k1 := by simpa [PN.nd] using en
  have hpn : Row 47 encP 2 apn cpn xn' ipn := hon.p
  have hkn : Row 3 encK 1 akn ckn kn' ikn := hon.k
  obtain ⟨bpn, dpn, rfl, rfl, hdpn⟩ := hpn.blk (by omega)
  obtain ⟨po, hpo⟩ : ∃ y, xn'[posK xi' k]? = some y := ⟨_, List.getElem?_eq_getElem (by omega)⟩
  refine .parts ?_
  refine .nb (.alloc ty47 rfl) rfl (fun b1 => ?_)
  refine .st (.stw ty47 rfl rfl rfl rfl rfl .here) ?_
  refine .nil ?_
  refine .then ?_
  refine .draw [[], [0], [1], [2], [], [3, 4], [5], [6], [], [], [7, 8, 0, 1, 2, 3, 4, 5, 6, 7, 8, 9], [10, 9, 0, 1, 2, 3, 4, 5, 6, 7, 8, 9]] [] (by kernel_rfl) (by kernel_rfl) rfl (e1 := [(0, _), (1, _), (6, _), (9, _)]) (.cons rfl rfl (.cons rfl rfl (.cons rfl rfl (.cons rfl rfl .nil)))) (fun x hx => by cases hx) rfl ?_
  refine .v (i := 0) [] rfl rfl rfl .nil (.n (.mv rfl)) ?_
  refine .v (i := 1) [(159, _)] rfl rfl rfl (.cons (.head _) rfl rfl .nil) (.n (.nilc rfl)) ?_
  refine .v (i := 2) [(160, _)] rfl rfl rfl (.cons (.head _) rfl rfl .nil) (.n (.fa0 fl60_0 rfl)) ?_
  refine .v (i := 3) [(161, _)] rfl rfl rfl (.cons (.head _) rfl rfl .nil) (.n (.ldb ty57 rfl (.there .here) rfl)) ?_
  refine .v (i := 4) [] rfl rfl rfl .nil (.n (.mv rfl)) ?_
  refine .v (i := 5) [(162, _), (163, _)] rfl rfl rfl (.cons (.tail _ (.head _)) rfl rfl (.cons (.head _) rfl rfl .nil)) (.n (.ixo sl57 rfl rfl (i) ⟨rfl, by have h_ := (List.getElem?_eq_some_iff.1 hn).1; omega⟩)) ?_
  refine .v (i := 6) [(164, _)] rfl rfl rfl (.cons (.head _) rfl rfl .nil) (.n (.fa0 fl68_0 rfl)) ?_
  refine .v (i := 7) [(165, _)] rfl rfl rfl (.cons (.head _) rfl rfl .nil) (.n (.ldb (v := .slice (some ⟨bpn, 0, none⟩) (xn').length (cpn)) ty22 rfl (.there (.there .here)) (encN_ok.get pn i _ hn npad 0 _ rfl))) ?_
  refine .v (i := 8) [] rfl rfl rfl .nil (.n (.mv rfl)) ?_
  refine .v (i := 9) [] rfl rfl rfl .nil (.n (.ldw ty47 rfl .here rfl)) ?_
  refine .tail0 10 [[10, 7, 8, 0, 1, 2, 3, 4, 5, 6, 9], [11, 10, 9, 0, 1, 2, 3, 4, 5, 6, 7, 8]] rfl rfl rfl rfl (e' := [(168, _), (167, _), (166, _), (165, _), (164, _), (163, _), (162, _), (161, _), (160, _), (159, _), (0, _), (1, _), (6, _), (9, _)]) rfl ?_
  refine .v (.ixo sl22 rfl rfl (posK xi' k) ⟨rfl, by have h_ := (List.getElem?_eq_some_iff.1 hpo).1; omega⟩) rfl ?_
  refine .st (.stp (vs := encP p) (cs' := (xn'.set (posK xi' k) p).flatMap encP ++ dpn) ty47 rfl rfl rfl rfl (encP_ok.one p) (by have h_ := (List.getElem?_eq_some_iff.1 hpo).1; rw [List.length_append, encP_ok.fl]; omega) (by rw [show (posK xi' k) * 2 + 2 = (posK xi' k + 1) * 2 by omega]; exact encP_ok.put xn' dpn (posK xi' k) (List.getElem?_eq_some_iff.1 hpo).1 p) (.there (.there (.there (.there (upd_p hn _)))))) ?_
  have hrw2 : Row 47 encP 2 (some ⟨bpn, 0, none⟩) cpn (xn'.set (posK xi' k) p) [⟨bpn, 47, (xn'.set (posK xi' k) p).flatMap encP ++ dpn⟩] := Row.of dpn rfl (by rw [List.length_set]; exact hdpn) (by rw [List.length_set]; exact hpn.cap) hpn.max
  rw [own_same_p pn i _ ⟨xn'.set (posK xi' k) p, some ⟨bpn, 0, none⟩, cpn, [⟨bpn, 47, (xn'.set (posK xi' k) p).flatMap encP ++ dpn⟩]⟩]
  rw [← flat_same (m := ⟨⟨xn'.set (posK xi' k) p, some ⟨bpn, 0, none⟩, cpn, [⟨bpn, 47, (xn'.set (posK xi' k) p).flatMap encP ++ dpn⟩]⟩, ⟨kn', akn, ckn, ikn⟩⟩) hn (by simp [encN])]
  obtain ⟨pn3, hpn3⟩ : ∃ x, x = pn.set i ⟨⟨xn'.set (posK xi' k) p, some ⟨bpn, 0, none⟩, cpn, [⟨bpn, 47, (xn'.set (posK xi' k) p).flatMap encP ++ dpn⟩]⟩, ⟨kn', akn, ckn, ikn⟩⟩ := ⟨_, rfl⟩
  rw [← hpn3]
  have hx3 := set_get' hpn3 hn
  replace hok : ∀ n ∈ pn3, n.Ok := by rw [hpn3]; exact set_ok hok ⟨hrw2, hkn⟩
  have hnd3 : pn3.map PN.nd = (T.nodes).set i ⟨xn'.set (posK xi' k) p, kn'⟩ := by rw [hpn3, List.map_set, hnd]; rfl
  have hln3 : pn3.length = pn.length := by rw [hpn3, List.length_set]
  have hcp3 : pn3.length ≤ nc := by omega
  have hnp3 : npad.length = (nc - pn3.length) * 2 := by rw [hln3]; exact hnp
  have hpn_3 := hrw2
  have hkn_3 := hkn
  refine .nil ?_
  refine .blk ?_
  refine .front (.there (.there (.there (.there .here)))) ?_
  refine .front (.there (.there (.there (.there .here)))) ?_
  refine .front (.there (.there (.there (.there .here)))) ?_
  refine .front (.there (.there (.there (.there .here)))) ?_
  have hLe : Lies b (T.setN i ⟨xn'.set (posK xi' k) p, kn'⟩) ([⟨b, 60, [.slice (some ⟨nb, 0, none⟩) pn.length nc, .slice fa T.free.length fc, .int .i64 (T.root : Int), .int .i64 (T.count : Int)]⟩] ++ ([⟨nb, 68, pn3.flatMap encN ++ npad⟩] ++ (fit ++ own pn3))) := ⟨pn3, some ⟨nb, 0, none⟩, nc, _, fa, fc, fit, ⟨Row.of npad rfl hnp3 hcp3 hmx, hrf, hok, hnd3, by rw [hln3]; first | done | rfl⟩⟩
  exact .end _ [_] (.t0 rfl) .rfl ⟨_, rfl, rfl, hLe⟩ (fun w ho => by simpa [List.append_assoc] using (subl (.cons_cons _ (.cons_cons _ (.cons_cons _ (.cons_cons _ (.cons _ (.cons_cons _ .slnil)))))) w ho))
theorem rem_merge (b : Nat) (T : TS) (it : Itm) (F : Mem) (hT : Lies b T it) (k : ByteArray) (m : Nat) (ih : RemSpec k m) (i : Nat) (T' : TS) (xi : List Pr) (ki : List Nat) (hni : T.nodes[i]? = some ⟨xi, ki⟩) (hsi : Srt xi) (hxil : xi.length ≤ 5) (hkil : ki.length ≤ 6) (hfb : T.free.length ≤ 1099511627776) (c : Nat) (xc : List Pr) (kc : List Nat) (e : Nat) (xe : List Pr) (ke : List Nat) (p : Pr) (hkl0 : 0 < ki.length) (hk : hasK xi k = true) (hqc : ki[posK xi k]? = some c) (hnc : T.nodes[c]? = some ⟨xc, kc⟩) (h2c : xc.length ≤ 2) (hkcl : kc.length ≤ 6) (hqe : ki[posK xi k + 1]? = some e) (hne : T.nodes[e]? = some ⟨xe, ke⟩) (h2e : xe.length ≤ 2) (hkel : ke.length ≤ 6) (hci : c ≠ i) (hei : e ≠ i) (hce : c ≠ e) (hp : xi[posK xi k]? = some p) (hR : RemR k m (mergeT T i (posK xi k) c e ⟨xi, ki⟩ ⟨xc, kc⟩ ⟨xe, ke⟩ p) c T') : Fn Try.prog 39 #[.pointer (some ⟨b, 0, none⟩), .int .i64 (i : Int), .string k] [it] F (fun v M G => ∃ it', M = [it'] ∧ G = F ∧ Lies b T' it') := by
  obtain ⟨pn, na, nc, nit, fa, fc, fit, hP⟩ := hT
  obtain ⟨hrn, hrf, hok, hnd, rfl⟩ := hP
  have hln : pn.length = T.nodes.length := by rw [← hnd, List.length_map]
  have hmx := hrn.max
  have hcp := hrn.cap
  have hfm := hrf.max
  have hfcp := hrf.cap
  have hL0 : Lies b T (⟨b, 60, [.slice na pn.length nc, .slice fa T.free.length fc, .int .i64 (T.root : Int), .int .i64 (T.count : Int)]⟩ :: (nit ++ (fit ++ own pn))) := ⟨pn, na, nc, nit, fa, fc, fit, ⟨hrn, hrf, hok, hnd, rfl⟩⟩
  have hib := (List.getElem?_eq_some_iff.1 hni).1
  obtain ⟨nb, npad, rfl, rfl, hnp⟩ := hrn.blk (by omega)
  have hkl1 := (List.getElem?_eq_some_iff.1 hqc).1
  have hkl2 := (List.getElem?_eq_some_iff.1 hqe).1
  obtain ⟨ni, hi, ei⟩ := nd_get hnd hni
  have hoi := get_ok hok hi
  obtain ⟨⟨xi', api, cpi, ipi⟩, ⟨ki', aki, cki, iki⟩⟩ := ni
  obtain ⟨rfl, rfl⟩ : xi' = xi ∧ ki' = ki := by simpa [PN.nd] using ei
  have hpi : Row 47 encP 2 api cpi xi' ipi := hoi.p
  have hki : Row 3 encK 1 aki cki ki' iki := hoi.k
  obtain ⟨bki, dki, rfl, rfl, hdki⟩ := hki.blk (by omega)
  obtain ⟨nc, hc, ec⟩ := nd_get hnd hnc
  have hoc := get_ok hok hc
  obtain ⟨⟨xc', apc, cpc, ipc⟩, ⟨kc', akc, ckc, ikc⟩⟩ := nc
  obtain ⟨rfl, rfl⟩ : xc' = xc ∧ kc' = kc := by simpa [PN.nd] using ec
  have hpc : Row 47 encP 2 apc cpc xc' ipc := hoc.p
  have hkc : Row 3 encK 1 akc ckc kc' ikc := hoc.k
  obtain ⟨ne, he, ee⟩ := nd_get hnd hne
  have hoe := get_ok hok he
  obtain ⟨⟨xe', ape, cpe, ipe⟩, ⟨ke', ake, cke, ike⟩⟩ := ne
  obtain ⟨rfl, rfl⟩ : xe' = xe ∧ ke' = ke := by simpa [PN.nd] using ee
  have hpe : Row 47 encP 2 ape cpe xe' ipe := hoe.p
  have hke : Row 3 encK 1 ake cke ke' ike := hoe.k
  refine Fn.start1 Try.func39 rfl Try.ntmps39 rfl (env := [(0, _), (1, _), (2, _)]) rfl ?_
  intro R
  refine .items (L' := [[⟨b, 60, _⟩], [⟨nb, 68, _⟩], fit, own pn, R]) (fun w ho => by simpa [List.append_assoc] using ho) ?_
  refine .seq ?_
  refine .region ?_
  refine .v (.mv rfl) rfl ?_
  refine .v (.nilc rfl) rfl ?_
  refine .v (.fa0 fl60_0 rfl) rfl ?_
  refine .v (.ldb ty57 rfl .here rfl) rfl ?_
  refine .v (.mv rfl) rfl ?_
  refine .v (.ixo sl57 rfl rfl (i) ⟨rfl, by have h_ := (List.getElem?_eq_some_iff.1 hi).1; omega⟩) rfl ?_
  refine .v (.ldm [.slice (api) (xi').length (cpi), .slice (some ⟨bki, 0, none⟩) (ki').length (cki)] ty68 rfl (.there .here) rfl (fun j_ v_ hj_ => encN_ok.get pn i _ hi npad j_ v_ hj_)) rfl ?_
  refine .v (.mv rfl) rfl ?_
  refine .v (.call rfl rfl (Try.call36 _) (fun G hle hG => find_fn xi' _ _ G (hpi.sl encP_ok (fun b_ hb_ => hG b_ (Inn.mem (.there (.there (.there (.part (sub_p hi))))) b_ hb_))) hsi k (by omega) _ _ _)) rfl ?_
  refine .v (.mv rfl) rfl ?_
  refine .v (.ext rfl rfl) rfl ?_
  refine .v (.ext rfl rfl) rfl ?_
  refine .kn (t := 21) (v := .bool true) rfl (congrArg Value.bool hk) ?_
  refine .v (.asn rfl) rfl ?_
  refine .v (.asn rfl) rfl ?_
  refine .nil ?_
  refine .then ?_
  refine .block ?_
  refine .seq ?_
  refine .region ?_
  refine .v (.mv rfl) rfl ?_
  refine .v (.nilc rfl) rfl ?_
  refine .v (.fa0 fl60_0 rfl) rfl ?_
  refine .v (.ldb ty57 rfl .here rfl) rfl ?_
  refine .v (.mv rfl) rfl ?_
  refine .v (.ixo sl57 rfl rfl (i) ⟨rfl, by have h_ := (List.getElem?_eq_some_iff.1 hi).1; omega⟩) rfl ?_
  refine .v (.ldm [.slice (api) (xi').length (cpi), .slice (some ⟨bki, 0, none⟩) (ki').length (cki)] ty68 rfl (.there .here) rfl (fun j_ v_ hj_ => encN_ok.get pn i _ hi npad j_ v_ hj_)) rfl ?_
  refine .vF (.call rfl rfl (Try.call37 _) (fun G hle hG => leaf_fn _ _ _ _ ki'.length _ G)) rfl (by omega) ?_
  refine .v (.asn rfl) rfl ?_
  refine .nil ?_
  refine .then ?_
  refine .condF rfl ?_
  refine .seq ?_
  refine .region ?_
  refine .v (.mv rfl) rfl ?_
  refine .v (.not rfl) rfl ?_
  refine .v (.asn rfl) rfl ?_
  refine .nil ?_
  refine .then ?_
  refine .condF rfl ?_
  refine .seq ?_
  refine .draw [[], [0], [1], [2], [], [4], [5], [6], [], [7, 8], [9], [10], [], [11, 12], [13], [3, 14], [15], [16], [17], [18], [19]] [] (by kernel_rfl) (by kernel_rfl) rfl (e1 := [(0, _), (1, _), (2, _), (6, _)]) (.cons rfl rfl (.cons rfl rfl (.cons rfl rfl (.cons rfl rfl .nil)))) (fun x hx => by cases hx) rfl ?_
  refine .v (i := 0) [] rfl rfl rfl .nil (.n (.mv rfl)) ?_
  refine .v (i := 1) [(79, _)] rfl rfl rfl (.cons (.head _) rfl rfl .nil) (.n (.nilc rfl)) ?_
  refine .v (i := 2) [(80, _)] rfl rfl rfl (.cons (.head _) rfl rfl .nil) (.n (.fa0 fl60_0 rfl)) ?_
  refine .v (i := 3) [(81, _)] rfl rfl rfl (.cons (.head _) rfl rfl .nil) (.n (.ldb ty57 rfl .here rfl)) ?_
  refine .v (i := 4) [] rfl rfl rfl .nil (.n (.mv rfl)) ?_
  refine .v (i := 5) [(83, _)] rfl rfl rfl (.cons (.head _) rfl rfl .nil) (.n (.nilc rfl)) ?_
  refine .v (i := 6) [(84, _)] rfl rfl rfl (.cons (.head _) rfl rfl .nil) (.n (.fa0 fl60_0 rfl)) ?_
  refine .v (i := 7) [(85, _)] rfl rfl rfl (.cons (.head _) rfl rfl .nil) (.n (.ldb ty57 rfl .here rfl)) ?_
  refine .v (i := 8) [] rfl rfl rfl .nil (.n (.mv rfl)) ?_
  refine .v (i := 9) [(86, _), (87, _)] rfl rfl rfl (.cons (.tail _ (.head _)) rfl rfl (.cons (.head _) rfl rfl .nil)) (.n (.ixo sl57 rfl rfl (i) ⟨rfl, by have h_ := (List.getElem?_eq_some_iff.1 hi).1; omega⟩)) ?_
  refine .v (i := 10) [(88, _)] rfl rfl rfl (.cons (.head _) rfl rfl .nil) (.n (.fae fl68_1 rfl)) ?_
  refine .v (i := 11) [(89, _)] rfl rfl rfl (.cons (.head _) rfl rfl .nil) (.n (.ldb (v := .slice (some ⟨bki, 0, none⟩) (ki').length (cki)) ty58 rfl (.there .here) (encN_ok.get pn i _ hi npad 1 _ rfl))) ?_
  refine .v (i := 12) [] rfl rfl rfl .nil (.n (.mv rfl)) ?_
  refine .v (i := 13) [(90, _), (91, _)] rfl rfl rfl (.cons (.tail _ (.head _)) rfl rfl (.cons (.head _) rfl rfl .nil)) (.n (.ixo sl58 rfl rfl (posK xi' k) ⟨rfl, by have h_ := (List.getElem?_eq_some_iff.1 hqc).1; omega⟩)) ?_
  refine .v (i := 14) [(92, _)] rfl rfl rfl (.cons (.head _) rfl rfl .nil) (.n (.ldb ty3 rfl (.there (.there (.there (.part (sub_k hi))))) (encK_ok.get ki' (posK xi' k) _ hqc dki 0 _ rfl))) ?_
  refine .tail0 15 [[15, 3, 14, 2, 13, 1, 11, 12, 0, 10, 9, 7, 8, 6, 5, 4], [16, 15, 3, 14, 2, 13, 1, 11, 12, 0, 10, 9, 7, 8, 6, 5, 4], [17, 16, 15, 3, 14, 2, 13, 1, 11, 12, 0, 10, 9, 7, 8, 6, 5, 4], [18, 17, 16, 15, 3, 14, 2, 13, 1, 11, 12, 0, 10, 9, 7, 8, 6, 5, 4], [19, 18, 17, 16, 15, 3, 14, 2, 13, 1, 11, 12, 0, 10, 9, 7, 8, 6, 5, 4], [20, 19, 18, 17, 16, 15, 3, 14, 2, 13, 1, 11, 12, 0, 10, 9, 7, 8, 6, 5, 4]] rfl rfl rfl rfl (e' := [(93, _), (92, _), (91, _), (90, _), (89, _), (88, _), (87, _), (86, _), (85, _), (84, _), (83, _), (82, _), (81, _), (80, _), (79, _), (0, _), (1, _), (2, _), (6, _)]) rfl ?_
  refine .v (.ixo sl57 rfl rfl (c) ⟨rfl, by have h_ := (List.getElem?_eq_some_iff.1 hc).1; omega⟩) rfl ?_
  refine .v (.fa0 fl68_0 rfl) rfl ?_
  refine .v (.ldb (v := .slice (apc) (xc').length (cpc)) ty22 rfl (.there .here) (encN_ok.get pn c _ hc npad 0 _ rfl)) rfl ?_
  refine .v (.lenl Try.underlying22 rfl) rfl ?_
  refine .vF (.gt rfl rfl) rfl (by omega) ?_
  refine .v (.asn rfl) rfl ?_
  refine .nil ?_
  refine .then ?_
  refine .condF rfl ?_
  refine .seq ?_
  refine .draw [[], [0], [1], [2], [], [4], [5], [6], [], [7, 8], [9], [10], [], [12], [11, 13], [14], [3, 15], [16], [17], [18], [19], [20]] [] (by kernel_rfl) (by kernel_rfl) rfl (e1 := [(0, _), (1, _), (2, _), (6, _)]) (.cons rfl rfl (.cons rfl rfl (.cons rfl rfl (.cons rfl rfl .nil)))) (fun x hx => by cases hx) rfl ?_
  refine .v (i := 0) [] rfl rfl rfl .nil (.n (.mv rfl)) ?_
  refine .v (i := 1) [(124, _)] rfl rfl rfl (.cons (.head _) rfl rfl .nil) (.n (.nilc rfl)) ?_
  refine .v (i := 2) [(125, _)] rfl rfl rfl (.cons (.head _) rfl rfl .nil) (.n (.fa0 fl60_0 rfl)) ?_
  refine .v (i := 3) [(126, _)] rfl rfl rfl (.cons (.head _) rfl rfl .nil) (.n (.ldb ty57 rfl .here rfl)) ?_
  refine .v (i := 4) [] rfl rfl rfl .nil (.n (.mv rfl)) ?_
  refine .v (i := 5) [(128, _)] rfl rfl rfl (.cons (.head _) rfl rfl .nil) (.n (.nilc rfl)) ?_
  refine .v (i := 6) [(129, _)] rfl rfl rfl (.cons (.head _) rfl rfl .nil) (.n (.fa0 fl60_0 rfl)) ?_
  refine .v (i := 7) [(130, _)] rfl rfl rfl (.cons (.head _) rfl rfl .nil) (.n (.ldb ty57 rfl .here rfl)) ?_
  refine .v (i := 8) [] rfl rfl rfl .nil (.n (.mv rfl)) ?_
  refine .v (i := 9) [(131, _), (132, _)] rfl rfl rfl (.cons (.tail _ (.head _)) rfl rfl (.cons (.head _) rfl rfl .nil)) (.n (.ixo sl57 rfl rfl (i) ⟨rfl, by have h_ := (List.getElem?_eq_some_iff.1 hi).1; omega⟩)) ?_
  refine .v (i := 10) [(133, _)] rfl rfl rfl (.cons (.head _) rfl rfl .nil) (.n (.fae fl68_1 rfl)) ?_
  refine .v (i := 11) [(134, _)] rfl rfl rfl (.cons (.head _) rfl rfl .nil) (.n (.ldb (v := .slice (some ⟨bki, 0, none⟩) (ki').length (cki)) ty58 rfl (.there .here) (encN_ok.get pn i _ hi npad 1 _ rfl))) ?_
  refine .v (i := 12) [] rfl rfl rfl .nil (.n (.mv rfl)) ?_
  refine .v (i := 13) [(136, _)] rfl rfl rfl (.cons (.head _) rfl rfl .nil) (.n (.add rfl rfl (by omega))) ?_
  refine .v (i := 14) [(135, _), (137, _)] rfl rfl rfl (.cons (.tail _ (.tail _ (.head _))) rfl rfl (.cons (.head _) rfl rfl .nil)) (.n (.ixo sl58 rfl rfl (posK xi' k + 1) ⟨by omega, by have h_ := (List.getElem?_eq_some_iff.1 hqe).1; omega⟩)) ?_
  refine .v (i := 15) [(138, _)] rfl rfl rfl (.cons (.head _) rfl rfl .nil) (.n (.ldb ty3 rfl (.there (.there (.there (.part (sub_k hi))))) (encK_ok.get ki' (posK xi' k + 1) _ hqe dki 0 _ rfl))) ?_
  refine .tail0 16 [[16, 3, 15, 2, 14, 1, 11, 13, 0, 10, 12, 9, 7, 8, 6, 5, 4], [17, 16, 3, 15, 2, 14, 1, 11, 13, 0, 10, 12, 9, 7, 8, 6, 5, 4], [18, 17, 16, 3, 15, 2, 14, 1, 11, 13, 0, 10, 12, 9, 7, 8, 6, 5, 4], [19, 18, 17, 16, 3, 15, 2, 14, 1, 11, 13, 0, 10, 12, 9, 7, 8, 6, 5, 4], [20, 19, 18, 17, 16, 3, 15, 2, 14, 1, 11, 13, 0, 10, 12, 9, 7, 8, 6, 5, 4], [21, 20, 19, 18, 17, 16, 3, 15, 2, 14, 1, 11, 13, 0, 10, 12, 9, 7, 8, 6, 5, 4]] rfl rfl rfl rfl (e' := [(139, _), (138, _), (137, _), (136, _), (135, _), (134, _), (133, _), (132, _), (131, _), (130, _), (129, _), (128, _), (127, _), (126, _), (125, _), (124, _), (0, _), (1, _), (2, _), (6, _)]) rfl ?_
  refine .v (.ixo sl57 rfl rfl (e) ⟨rfl, by have h_ := (List.getElem?_eq_some_iff.1 he).1; omega⟩) rfl ?_
  refine .v (.fa0 fl68_0 rfl) rfl ?_
  refine .v (.ldb (v := .slice (ape) (xe').length (cpe)) ty22 rfl (.there .here) (encN_ok.get pn e _ he npad 0 _ rfl)) rfl ?_
  refine .v (.lenl Try.underlying22 rfl) rfl ?_
  refine .vF (.gt rfl rfl) rfl (by omega) ?_
  refine .v (.asn rfl) rfl ?_
  refine .nil ?_
  refine .then ?_
  refine .condF rfl ?_
  refine .seq ?_
  refine .region ?_
  refine .v (.mv rfl) rfl ?_
  refine .v (.mv rfl) rfl ?_
  refine .v (.mv rfl) rfl ?_
  refine .front (.there (.there (.there .here))) ?_
  refine .front (.there (.there (.there .here))) ?_
  refine .join ?_
  refine .front (.there (.there .here)) ?_
  refine .join ?_
  refine .front (.there .here) ?_
  refine .join ?_
  refine .lend (.lend rfl rfl (Try.call52 _) _ (fun _ => .here) (fun G hle hG => (merge_fn b T _ G hL0 i (posK xi' k) c e xi' ki' xc' kc' xe' ke' p hni hqc hqe hnc hne hp hci hei hce (by omega) (by omega) (by omega) (by omega) (by omega) (by omega) hfb).mono (fun v M H _ ⟨it, h1, _, h2⟩ => ⟨it, h1, h2⟩))) rfl ?_
  rintro _ itq hL2
  have hL9 := hL2
  obtain ⟨T, hTT⟩ : ∃ T_, T_ = mergeT T i (posK xi' k) c e ⟨xi', ki'⟩ ⟨xc', kc'⟩ ⟨xe', ke'⟩ p := ⟨_, rfl⟩
  rw [← hTT] at hL2
  obtain ⟨xn, kn, hat, hxe, hke⟩ : ∃ x_ k_, T.nodes[i]? = some ⟨x_, k_⟩ ∧ x_ = xi'.take (posK xi' k) ++ xi'.drop (posK xi' k + 1) ∧ k_ = ki'.take (posK xi' k + 1) ++ ki'.drop (posK xi' k + 2) := ⟨_, _, by rw [hTT]; exact mergeT_at hib hei, rfl, rfl⟩
  have hkq9 : kn[posK xi' k]? = some c := by rw [hke]; rw [List.getElem?_append_left (by rw [List.length_take]; omega), List.getElem?_take, if_pos (by omega)]; exact hqc
  clear hnd hok hrn hrf hln hmx hcp hfm hfcp hL0
  obtain ⟨pn, na, nc, nit, fa, fc, fit, hP⟩ := hL2
  obtain ⟨hrn, hrf, hok, hnd, rfl⟩ := hP
  have hln : pn.length = T.nodes.length := by rw [← hnd, List.length_map]
  have hmx := hrn.max
  have hcp := hrn.cap
  have hfm := hrf.max
  have hfcp := hrf.cap
  have hib9 := (List.getElem?_eq_some_iff.1 hat).1
  have hkl9 := (List.getElem?_eq_some_iff.1 hkq9).1
  obtain ⟨nb, npad, rfl, rfl, hnp⟩ := hrn.blk (by omega)
  obtain ⟨nn, hn, en⟩ := nd_get hnd hat
  have hon := get_ok hok hn
  obtain ⟨⟨xn', apn, cpn, ipn⟩, ⟨kn', akn, ckn, ikn⟩⟩ := nn
  obtain ⟨rfl, rfl⟩ : xn' = xn ∧ kn' = kn := by simpa [PN.nd] using en
  have hpn : Row 47 encP 2 apn cpn xn' ipn := hon.p
  have hkn : Row 3 encK 1 akn ckn kn' ikn := hon.k
  obtain ⟨bkn, dkn, rfl, rfl, hdkn⟩ := hkn.blk (by omega)
  refine .parts ?_
  refine .nil ?_
  refine .then ?_
  refine .region ?_
  refine .v (.mv rfl) rfl ?_
  refine .v (.mv rfl) rfl ?_
  refine .v (.nilc rfl) rfl ?_
  refine .v (.fa0 fl60_0 rfl) rfl ?_
  refine .v (.ldb ty57 rfl .here rfl) rfl ?_
  refine .v (.mv rfl) rfl ?_
  refine .v (.ixo sl57 rfl rfl (i) ⟨rfl, by have h_ := (List.getElem?_eq_some_iff.1 hn).1; omega⟩) rfl ?_
  refine .v (.fae fl68_1 rfl) rfl ?_
  refine .v (.ldb (v := .slice (some ⟨bkn, 0, none⟩) (kn').length (ckn)) ty58 rfl (.there .here) (encN_ok.get pn i _ hn npad 1 _ rfl)) rfl ?_
  refine .v (.mv rfl) rfl ?_
  refine .v (.ixo sl58 rfl rfl (posK xi' k) ⟨rfl, by have h_ := (List.getElem?_eq_some_iff.1 hkq9).1; omega⟩) rfl ?_
  refine .v (.ldb ty3 rfl (.there (.there (.there (.part (sub_k hn))))) (encK_ok.get kn' (posK xi' k) _ hkq9 dkn 0 _ rfl)) rfl ?_
  refine .v (.mv rfl) rfl ?_
  refine .front (.there (.there (.there .here))) ?_
  refine .front (.there (.there (.there .here))) ?_
  refine .join ?_
  refine .front (.there (.there .here)) ?_
  refine .join ?_
  refine .front (.there .here) ?_
  refine .join ?_
  refine .lend (.lend rfl rfl (Try.call39 _) _ (fun _ => .here) (fun G hle hG => (ih b _ _ G hL9 c T' hR).mono (fun v M H _ ⟨it, h1, _, h2⟩ => ⟨it, h1, h2⟩))) rfl ?_
  rintro _ its hLe
  refine .nil ?_
  refine .blk ?_
  exact .end _ [its] (.t0 rfl) .rfl ⟨_, rfl, rfl, hLe⟩ (fun w ho => by simpa [List.append_assoc] using (subl (.cons_cons _ (.cons_cons _ .slnil)) w ho))
theorem rem_fn (k : ByteArray) : ∀ m, RemSpec k m
  | 0 => fun b T it F hT i T' hR => hR.elim
  | m + 1 => fun b T it F hT i T' hR => by
    obtain ⟨xi, ki, a1, a2, a3, a4, a5, h⟩ := hR
    rcases h with ⟨b1, b2, b3⟩ | ⟨T1, c, b1, b2, b3, b4⟩ | ⟨c, xc, kc, T1, p, x1, k1, m', b1, b2, b3, b4, b5, b6, b7, b8, b9, b10⟩ | ⟨c, xc, kc, e, xe, ke, T1, p, x1, k1, m', b1, b2, b3, b4, b5, b6, b7, b8, b9, b10, b11, b12, b13⟩ | ⟨c, xc, kc, e, xe, ke, p, b1, b2, b3, b4, b5, b6, b7, b8, b9, b10, b11, b12, b13, b14, b15⟩
    · exact rem_leaf b T it F hT k m (rem_fn k m) i T' xi ki a1 a2 a3 a4 a5 b1 b2 b3
    · exact rem_feed b T it F hT k m (rem_fn k m) i T' xi ki a1 a2 a3 a4 a5 T1 c b1 b2 b3 b4
    · exact rem_popl b T it F hT k m (rem_fn k m) i T' xi ki a1 a2 a3 a4 a5 c xc kc T1 p x1 k1 m' b1 b2 b3 b4 b5 b6 b7 b8 b9 b10
    · exact rem_popr b T it F hT k m (rem_fn k m) i T' xi ki a1 a2 a3 a4 a5 c xc kc e xe ke T1 p x1 k1 m' b1 b2 b3 b4 b5 b6 b7 b8 b9 b10 b11 b12 b13
    · exact rem_merge b T it F hT k m (rem_fn k m) i T' xi ki a1 a2 a3 a4 a5 c xc kc e xe ke p b1 b2 b3 b4 b5 b6 b7 b8 b9 b10 b11 b12 b13 b14 b15
end Go.Proofs.Ytbmpdccoffkjgaa.Ow
