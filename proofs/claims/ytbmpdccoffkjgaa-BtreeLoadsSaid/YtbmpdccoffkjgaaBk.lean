/- Walks. -/
import Derived.Test.YtbmpdccoffkjgaaBj
import Derived.Test.YtbmpdccoffkjgaaBtr
import Derived.Test.YtbmpdccoffkjgaaTyu
namespace Go.Proofs.Ytbmpdccoffkjgaa.Ow
open Go
set_option linter.unusedVariables false
theorem put_a (b : Nat) (T : TS) (it : Itm) (F : Mem) (hT : Lies b T it) (k v : ByteArray) (T' : TS) (r : Bool) (xr : List Pr) (kr : List Nat) (hnr : T.nodes[T.root]? = some ⟨xr, kr⟩) (hb0 : T.nodes.length ≤ 549755813888) (hfr0 : ∀ x ∈ T.free, x < T.nodes.length) (hx5 : xr.length < 5) (m0 : Nat) (hR0 : PutR k v m0 T T.root T' r) : Fn Try.prog 21 #[.pointer (some ⟨b, 0, none⟩), .string k, .string v] [it] F (fun u M G => ∃ it', M = [it'] ∧ G = F ∧ Lies b T' it' ∧ u = .bool r) := by
  obtain ⟨pn, na, nc, nit, fa, fc, fit, hP⟩ := hT
  obtain ⟨hrn, hrf, hok, hnd, rfl⟩ := hP
  have hln : pn.length = T.nodes.length := by rw [← hnd, List.length_map]
  have hmx := hrn.max
  have hcp := hrn.cap
  have hfm := hrf.max
  have hfcp := hrf.cap
  have hL0 : Lies b T (⟨b, 60, [.slice na pn.length nc, .slice fa T.free.length fc, .int .i64 (T.root : Int), .int .i64 (T.count : Int)]⟩ :: (nit ++ (fit ++ own pn))) := ⟨pn, na, nc, nit, fa, fc, fit, ⟨hrn, hrf, hok, hnd, rfl⟩⟩
  have hib := (List.getElem?_eq_some_iff.1 hnr).1
  obtain ⟨nb, npad, rfl, rfl, hnp⟩ := hrn.blk (by omega)
  obtain ⟨nr, hr, er⟩ := nd_get hnd hnr
  have hor := get_ok hok hr
  obtain ⟨⟨xr', apr, cpr, ipr⟩, ⟨kr', akr, ckr, ikr⟩⟩ := nr
  obtain ⟨rfl, rfl⟩ : xr' = xr ∧ kr' = kr := by simpa [PN.nd] using er
  have hpr : Row 47 encP 2 apr cpr xr' ipr := hor.p
  have hkr : Row 3 encK 1 akr ckr kr' ikr := hor.k
  refine Fn.start1 Try.func21 rfl Try.ntmps21 rfl (env := [(0, _), (1, _), (2, _)]) rfl ?_
  intro R
  refine .items (L' := [[⟨b, 60, _⟩], [⟨nb, 68, _⟩], fit, own pn, R]) (fun w ho => by simpa [List.append_assoc] using ho) ?_
  refine .seq ?_
  refine .region ?_
  refine .v (.asn rfl) rfl ?_
  refine .nil ?_
  refine .then ?_
  refine .seq ?_
  refine .seq ?_
  refine .region ?_
  refine .v (.mv rfl) rfl ?_
  refine .vF (.eqpn Try.underlying28 rfl rfl) rfl (by simp) ?_
  refine .nil ?_
  refine .then ?_
  refine .condF rfl ?_
  refine .skip ?_
  refine .then ?_
  refine .seq ?_
  refine .seq ?_
  refine .draw [[], [0], [1], [2], [], [4], [5], [6], [3, 7], [8], [9], [10], [11]] [] (by kernel_rfl) (by kernel_rfl) rfl (e1 := [(0, _), (1, _), (2, _), (6, _)]) (.cons rfl rfl (.cons rfl rfl (.cons rfl rfl (.cons rfl rfl .nil)))) (fun x hx => by cases hx) rfl ?_
  refine .v (i := 0) [] rfl rfl rfl .nil (.n (.mv rfl)) ?_
  refine .v (i := 1) [(13, _)] rfl rfl rfl (.cons (.head _) rfl rfl .nil) (.n (.nilc rfl)) ?_
  refine .v (i := 2) [(14, _)] rfl rfl rfl (.cons (.head _) rfl rfl .nil) (.n (.fa0 fl60_0 rfl)) ?_
  refine .v (i := 3) [(15, _)] rfl rfl rfl (.cons (.head _) rfl rfl .nil) (.n (.ldb ty57 rfl .here rfl)) ?_
  refine .v (i := 4) [] rfl rfl rfl .nil (.n (.mv rfl)) ?_
  refine .v (i := 5) [(17, _)] rfl rfl rfl (.cons (.head _) rfl rfl .nil) (.n (.nilc rfl)) ?_
  refine .v (i := 6) [(18, _)] rfl rfl rfl (.cons (.head _) rfl rfl .nil) (.n (.fab fl60_2 rfl)) ?_
  refine .v (i := 7) [(19, _)] rfl rfl rfl (.cons (.head _) rfl rfl .nil) (.n (.ldb ty3 rfl .here rfl)) ?_
  refine .tail0 8 [[8, 3, 7, 2, 6, 1, 5, 0, 4], [9, 8, 3, 7, 2, 6, 1, 5, 0, 4], [10, 9, 8, 3, 7, 2, 6, 1, 5, 0, 4], [11, 10, 9, 8, 3, 7, 2, 6, 1, 5, 0, 4], [12, 11, 10, 9, 8, 3, 7, 2, 6, 1, 5, 0, 4]] rfl rfl rfl rfl (e' := [(20, _), (19, _), (18, _), (17, _), (16, _), (15, _), (14, _), (13, _), (0, _), (1, _), (2, _), (6, _)]) rfl ?_
  refine .v (.ixo sl57 rfl rfl (T.root) ⟨rfl, by have h_ := (List.getElem?_eq_some_iff.1 hr).1; omega⟩) rfl ?_
  refine .v (.fa0 fl68_0 rfl) rfl ?_
  refine .v (.ldb (v := .slice (apr) (xr').length (cpr)) ty22 rfl (.there .here) (encN_ok.get pn T.root _ hr npad 0 _ rfl)) rfl ?_
  refine .v (.lenl Try.underlying22 rfl) rfl ?_
  refine .vF (.eq rfl rfl) rfl (by omega) ?_
  refine .nil ?_
  refine .then ?_
  refine .condF rfl ?_
  refine .skip ?_
  refine .then ?_
  refine .seq ?_
  refine .region ?_
  refine .v (.mv rfl) rfl ?_
  refine .v (.nilc rfl) rfl ?_
  refine .v (.fab fl60_2 rfl) rfl ?_
  refine .v (.ldb ty3 rfl .here rfl) rfl ?_
  refine .v (.asn rfl) rfl ?_
  refine .nil ?_
  refine .then ?_
  refine .block ?_
  have hLs := hL0
  refine .front (.there (.there (.there .here))) ?_
  refine .front (.there (.there (.there .here))) ?_
  refine .join ?_
  refine .front (.there (.there .here)) ?_
  refine .join ?_
  refine .front (.there .here) ?_
  refine .join ?_
  refine WC.loopx (fx := [(0, _), (1, _), (2, _)]) (pre := [_]) (fm := [_]) rfl (.cons rfl rfl (.cons rfl rfl (.cons rfl rfl .nil))) (ι := LpZ) (fun z => Lies b z.T z.it ∧ PutR k v z.m z.T z.i T' r) (fun z => z.m) (fun z => [(7, .int .i64 (z.i : Int))]) (fun z => [z.it]) (fun _ => F) ⟨m0, T, T.root, ([⟨b, 60, [.slice (some ⟨nb, 0, none⟩) pn.length nc, .slice fa T.free.length fc, .int .i64 (T.root : Int), .int .i64 (T.count : Int)]⟩] ++ ([⟨nb, 68, pn.flatMap encN ++ npad⟩] ++ (fit ++ own pn)))⟩ ⟨hLs, hR0⟩ ?he ?hm ?round
  case he => exact .cons rfl rfl (.cons rfl rfl (.cons rfl rfl (.cons rfl rfl .nil)))
  case hm => exact (fun _ h => h)
  case round =>
    intro z hk
    dsimp only [List.cons_append, List.nil_append]
    obtain ⟨m, T, i, it⟩ := z
    obtain ⟨hT, hR⟩ := hk
    dsimp only at hT hR ⊢
    cases m with
    | zero => exact hR.elim
    | succ m =>
      obtain ⟨xi, ki, hni, hsi, hxl, hkl, hb0, hcb, hfree, hR⟩ := hR
      rcases hR with ⟨p, hk, hp, hTe, hre⟩ | ⟨hk, hk0, hTe, hre⟩ | ⟨c, xc, kc, up, hk, hqc, hnc, hxc5, hup, hci, hkc6, hR⟩ | ⟨c, xc, kc, hk, hqc, hnc, hxc4, hR⟩
      · skip
        subst hTe
        subst hre
        obtain ⟨pn, na, nc, nit, fa, fc, fit, hP⟩ := hT
        obtain ⟨hrn, hrf, hok, hnd, rfl⟩ := hP
        have hln : pn.length = T.nodes.length := by rw [← hnd, List.length_map]
        have hmx := hrn.max
        have hcp := hrn.cap
        have hfm := hrf.max
        have hfcp := hrf.cap
        have hib := (List.getElem?_eq_some_iff.1 hni).1
        have hL0 : Lies b T (⟨b, 60, [.slice na pn.length nc, .slice fa T.free.length fc, .int .i64 (T.root : Int), .int .i64 (T.count : Int)]⟩ :: (nit ++ (fit ++ own pn))) := ⟨pn, na, nc, nit, fa, fc, fit, ⟨hrn, hrf, hok, hnd, rfl⟩⟩
        obtain ⟨nb, npad, rfl, rfl, hnp⟩ := hrn.blk (by omega)
        have hpl0 := (List.getElem?_eq_some_iff.1 hp).1
        obtain ⟨ni, hi, ei⟩ := nd_get hnd hni
        have hoi := get_ok hok hi
        obtain ⟨⟨xi', api, cpi, ipi⟩, ⟨ki', aki, cki, iki⟩⟩ := ni
        obtain ⟨rfl, rfl⟩ : xi' = xi ∧ ki' = ki := by simpa [PN.nd] using ei
        have hpi : Row 47 encP 2 api cpi xi' ipi := hoi.p
        have hki : Row 3 encK 1 aki cki ki' iki := hoi.k
        obtain ⟨bpi, dpi, rfl, rfl, hdpi⟩ := hpi.blk (by omega)
        refine .parts ?_
        refine .block ?_
        refine .seq ?_
        refine .region ?_
        refine .v (.mv rfl) rfl ?_
        refine .v (.nilc rfl) rfl ?_
        refine .v (.fa0 fl60_0 rfl) rfl ?_
        refine .v (.ldb ty57 rfl .here rfl) rfl ?_
        refine .v (.mv rfl) rfl ?_
        refine .v (.ixo sl57 rfl rfl (i) ⟨rfl, by have h_ := (List.getElem?_eq_some_iff.1 hi).1; omega⟩) rfl ?_
        refine .v (.ldm [.slice (some ⟨bpi, 0, none⟩) (xi').length (cpi), .slice (aki) (ki').length (cki)] ty68 rfl (.there .here) rfl (fun j_ v_ hj_ => encN_ok.get pn i _ hi npad j_ v_ hj_)) rfl ?_
        refine .v (.mv rfl) rfl ?_
        refine .v (.call rfl rfl (Try.call36 _) (fun G hle hG => find_fn xi' _ _ G (hpi.sl encP_ok (fun b_ hb_ => hG b_ (Inn.mem (.there (.there (.there (.part (sub_p hi))))) b_ hb_))) hsi k (by omega) _ _ _)) rfl ?_
        refine .v (.mv rfl) rfl ?_
        refine .v (.ext rfl rfl) rfl ?_
        refine .v (.ext rfl rfl) rfl ?_
        refine .v (.asn rfl) rfl ?_
        refine .v (.asn rfl) rfl ?_
        refine .nil ?_
        refine .then ?_
        refine .seq ?_
        refine .seq ?_
        refine .region ?_
        refine .v (.mv rfl) rfl ?_
        refine .nil ?_
        refine .then ?_
        refine .kn (t := 59) rfl (congrArg Value.bool hk) ?_
        refine .condT rfl ?_
        refine .seq ?_
        refine .region ?_
        refine .v (.mv rfl) rfl ?_
        refine .v (.nilc rfl) rfl ?_
        refine .v (.fa0 fl60_0 rfl) rfl ?_
        refine .v (.ldb ty57 rfl .here rfl) rfl ?_
        refine .v (.mv rfl) rfl ?_
        refine .v (.ixo sl57 rfl rfl (i) ⟨rfl, by have h_ := (List.getElem?_eq_some_iff.1 hi).1; omega⟩) rfl ?_
        refine .v (.fa0 fl68_0 rfl) rfl ?_
        refine .v (.ldb (v := .slice (some ⟨bpi, 0, none⟩) (xi').length (cpi)) ty22 rfl (.there .here) (encN_ok.get pn i _ hi npad 0 _ rfl)) rfl ?_
        refine .v (.mv rfl) rfl ?_
        refine .v (.mv rfl) rfl ?_
        refine .v (.ixo sl22 rfl rfl (posK xi' k) ⟨rfl, by have h_ := (List.getElem?_eq_some_iff.1 hp).1; omega⟩) rfl ?_
        refine .v (.fae fl47_1 rfl) rfl ?_
        refine .st (.stp (vs := [.string v]) (cs' := (xi'.set (posK xi' k) ⟨p.key, v⟩).flatMap encP ++ dpi) ty9 rfl rfl rfl rfl (by simp [Value.oneCell']) (by have h_ := (List.getElem?_eq_some_iff.1 hp).1; rw [List.length_append, encP_ok.fl]; omega) (encP_ok.put1 (j := 1) hp (by decide) rfl) (.there (.there (.there (upd_p hi _))))) ?_
        have hrw1 : Row 47 encP 2 (some ⟨bpi, 0, none⟩) cpi (xi'.set (posK xi' k) ⟨p.key, v⟩) [⟨bpi, 47, (xi'.set (posK xi' k) ⟨p.key, v⟩).flatMap encP ++ dpi⟩] := Row.of dpi rfl (by rw [List.length_set]; exact hdpi) (by rw [List.length_set]; exact hpi.cap) hpi.max
        rw [own_same_p pn i _ ⟨xi'.set (posK xi' k) ⟨p.key, v⟩, some ⟨bpi, 0, none⟩, cpi, [⟨bpi, 47, (xi'.set (posK xi' k) ⟨p.key, v⟩).flatMap encP ++ dpi⟩]⟩]
        rw [← flat_same (m := ⟨⟨xi'.set (posK xi' k) ⟨p.key, v⟩, some ⟨bpi, 0, none⟩, cpi, [⟨bpi, 47, (xi'.set (posK xi' k) ⟨p.key, v⟩).flatMap encP ++ dpi⟩]⟩, ⟨ki', aki, cki, iki⟩⟩) hi (by simp [encN])]
        obtain ⟨pn2, hpn2⟩ : ∃ x, x = pn.set i ⟨⟨xi'.set (posK xi' k) ⟨p.key, v⟩, some ⟨bpi, 0, none⟩, cpi, [⟨bpi, 47, (xi'.set (posK xi' k) ⟨p.key, v⟩).flatMap encP ++ dpi⟩]⟩, ⟨ki', aki, cki, iki⟩⟩ := ⟨_, rfl⟩
        rw [← hpn2]
        have hx2 := set_get' hpn2 hi
        replace hok : ∀ n ∈ pn2, n.Ok := by rw [hpn2]; exact set_ok hok ⟨hrw1, hki⟩
        have hnd2 : pn2.map PN.nd = (T.nodes).set i ⟨xi'.set (posK xi' k) ⟨p.key, v⟩, ki'⟩ := by rw [hpn2, List.map_set, hnd]; rfl
        have hln2 : pn2.length = pn.length := by rw [hpn2, List.length_set]
        have hcp2 : pn2.length ≤ nc := by omega
        have hnp2 : npad.length = (nc - pn2.length) * 2 := by rw [hln2]; exact hnp
        have hpi_2 := hrw1
        have hki_2 := hki
        refine .nil ?_
        refine .then ?_
        refine .seq ?_
        refine .region ?_
        refine .v (.asn rfl) rfl ?_
        refine .nil ?_
        refine .then ?_
        refine .ret ?_
        refine .then_ret ?_
        refine .blk_ret ?_
        refine .then_ret ?_
        refine .blk_ret ?_
        refine .front (.there (.there (.there .here))) ?_
        refine .front (.there (.there (.there .here))) ?_
        refine .front (.there (.there (.there .here))) ?_
        refine .front (.there (.there (.there .here))) ?_
        have hLe : Lies b (T.setN i ⟨xi'.set (posK xi' k) ⟨p.key, v⟩, ki'⟩) ([⟨b, 60, [.slice (some ⟨nb, 0, none⟩) pn.length nc, .slice fa T.free.length fc, .int .i64 (T.root : Int), .int .i64 (T.count : Int)]⟩] ++ ([⟨nb, 68, pn2.flatMap encN ++ npad⟩] ++ (fit ++ own pn2))) := ⟨pn2, some ⟨nb, 0, none⟩, nc, _, fa, fc, fit, ⟨Row.of npad rfl hnp2 hcp2 hmx, hrf, hok, hnd2, by rw [hln2]; first | done | rfl⟩⟩
        exact .done _ [_] (.t1 rfl rfl) .rfl ⟨_, rfl, rfl, hLe, rfl⟩ (fun w ho => by simpa [List.append_assoc] using (subl (.cons_cons _ (.cons_cons _ (.cons_cons _ (.cons_cons _ (.cons_cons _ .slnil))))) w ho))
      · skip
        subst hTe
        subst hre
        obtain ⟨pn, na, nc, nit, fa, fc, fit, hP⟩ := hT
        obtain ⟨hrn, hrf, hok, hnd, rfl⟩ := hP
        have hln : pn.length = T.nodes.length := by rw [← hnd, List.length_map]
        have hmx := hrn.max
        have hcp := hrn.cap
        have hfm := hrf.max
        have hfcp := hrf.cap
        have hib := (List.getElem?_eq_some_iff.1 hni).1
        have hL0 : Lies b T (⟨b, 60, [.slice na pn.length nc, .slice fa T.free.length fc, .int .i64 (T.root : Int), .int .i64 (T.count : Int)]⟩ :: (nit ++ (fit ++ own pn))) := ⟨pn, na, nc, nit, fa, fc, fit, ⟨hrn, hrf, hok, hnd, rfl⟩⟩
        obtain ⟨nb, npad, rfl, rfl, hnp⟩ := hrn.blk (by omega)
        obtain ⟨ni, hi, ei⟩ := nd_get hnd hni
        have hoi := get_ok hok hi
        obtain ⟨⟨xi', api, cpi, ipi⟩, ⟨ki', aki, cki, iki⟩⟩ := ni
        obtain ⟨rfl, rfl⟩ : xi' = xi ∧ ki' = ki := by simpa [PN.nd] using ei
        have hpi : Row 47 encP 2 api cpi xi' ipi := hoi.p
        have hki : Row 3 encK 1 aki cki ki' iki := hoi.k
        refine .parts ?_
        refine .block ?_
        refine .seq ?_
        refine .region ?_
        refine .v (.mv rfl) rfl ?_
        refine .v (.nilc rfl) rfl ?_
        refine .v (.fa0 fl60_0 rfl) rfl ?_
        refine .v (.ldb ty57 rfl .here rfl) rfl ?_
        refine .v (.mv rfl) rfl ?_
        refine .v (.ixo sl57 rfl rfl (i) ⟨rfl, by have h_ := (List.getElem?_eq_some_iff.1 hi).1; omega⟩) rfl ?_
        refine .v (.ldm [.slice (api) (xi').length (cpi), .slice (aki) (ki').length (cki)] ty68 rfl (.there .here) rfl (fun j_ v_ hj_ => encN_ok.get pn i _ hi npad j_ v_ hj_)) rfl ?_
        refine .v (.mv rfl) rfl ?_
        refine .v (.call rfl rfl (Try.call36 _) (fun G hle hG => find_fn xi' _ _ G (hpi.sl encP_ok (fun b_ hb_ => hG b_ (Inn.mem (.there (.there (.there (.part (sub_p hi))))) b_ hb_))) hsi k (by omega) _ _ _)) rfl ?_
        refine .v (.mv rfl) rfl ?_
        refine .v (.ext rfl rfl) rfl ?_
        refine .v (.ext rfl rfl) rfl ?_
        refine .v (.asn rfl) rfl ?_
        refine .v (.asn rfl) rfl ?_
        refine .nil ?_
        refine .then ?_
        refine .seq ?_
        refine .seq ?_
        refine .region ?_
        refine .v (.mv rfl) rfl ?_
        refine .nil ?_
        refine .then ?_
        refine .kn (t := 59) rfl (congrArg Value.bool hk) ?_
        refine .condF rfl ?_
        refine .skip ?_
        refine .then ?_
        refine .seq ?_
        refine .seq ?_
        refine .region ?_
        refine .v (.mv rfl) rfl ?_
        refine .v (.nilc rfl) rfl ?_
        refine .v (.fa0 fl60_0 rfl) rfl ?_
        refine .v (.ldb ty57 rfl .here rfl) rfl ?_
        refine .v (.mv rfl) rfl ?_
        refine .v (.ixo sl57 rfl rfl (i) ⟨rfl, by have h_ := (List.getElem?_eq_some_iff.1 hi).1; omega⟩) rfl ?_
        refine .v (.ldm [.slice (api) (xi').length (cpi), .slice (aki) (ki').length (cki)] ty68 rfl (.there .here) rfl (fun j_ v_ hj_ => encN_ok.get pn i _ hi npad j_ v_ hj_)) rfl ?_
        refine .vT (.call rfl rfl (Try.call37 _) (fun G hle hG => leaf_fn _ _ _ _ ki'.length _ G)) rfl (by rw [hk0]; rfl) ?_
        refine .nil ?_
        refine .then ?_
        refine .condT rfl ?_
        refine .seq ?_
        refine .draw [[], [0], [1], [2], [], [], [5], [6], [7], [], [8, 9], [10], [11], [], [], [], [14, 15], [16], [12, 13, 17], [3, 4, 0, 1, 2, 3, 4, 5, 6, 7, 8, 9, 10, 11, 12, 13, 14, 15, 16, 17, 18], [19, 0, 1, 2, 3, 4, 5, 6, 7, 8, 9, 10, 11, 12, 13, 14, 15, 16, 17, 18], [20, 18, 18, 0, 1, 2, 3, 4, 5, 6, 7, 8, 9, 10, 11, 12, 13, 14, 15, 16, 17, 18]] [] (by kernel_rfl) (by kernel_rfl) rfl (e1 := [(0, _), (1, _), (2, _), (7, _), (8, _)]) (.cons rfl rfl (.cons rfl rfl (.cons rfl rfl (.cons rfl rfl (.cons rfl rfl .nil))))) (fun x hx => by cases hx) rfl ?_
        refine .v (i := 0) [] rfl rfl rfl .nil (.n (.mv rfl)) ?_
        refine .v (i := 1) [(80, _)] rfl rfl rfl (.cons (.head _) rfl rfl .nil) (.n (.nilc rfl)) ?_
        refine .v (i := 2) [(81, _)] rfl rfl rfl (.cons (.head _) rfl rfl .nil) (.n (.fa0 fl60_0 rfl)) ?_
        refine .v (i := 3) [(82, _)] rfl rfl rfl (.cons (.head _) rfl rfl .nil) (.n (.ldb ty57 rfl .here rfl)) ?_
        refine .v (i := 4) [] rfl rfl rfl .nil (.n (.mv rfl)) ?_
        refine .v (i := 5) [] rfl rfl rfl .nil (.n (.mv rfl)) ?_
        refine .v (i := 6) [(85, _)] rfl rfl rfl (.cons (.head _) rfl rfl .nil) (.n (.nilc rfl)) ?_
        refine .v (i := 7) [(86, _)] rfl rfl rfl (.cons (.head _) rfl rfl .nil) (.n (.fa0 fl60_0 rfl)) ?_
        refine .v (i := 8) [(87, _)] rfl rfl rfl (.cons (.head _) rfl rfl .nil) (.n (.ldb ty57 rfl .here rfl)) ?_
        refine .v (i := 9) [] rfl rfl rfl .nil (.n (.mv rfl)) ?_
        refine .v (i := 10) [(88, _), (89, _)] rfl rfl rfl (.cons (.tail _ (.head _)) rfl rfl (.cons (.head _) rfl rfl .nil)) (.n (.ixo sl57 rfl rfl (i) ⟨rfl, by have h_ := (List.getElem?_eq_some_iff.1 hi).1; omega⟩)) ?_
        refine .v (i := 11) [(90, _)] rfl rfl rfl (.cons (.head _) rfl rfl .nil) (.n (.fa0 fl68_0 rfl)) ?_
        refine .v (i := 12) [(91, _)] rfl rfl rfl (.cons (.head _) rfl rfl .nil) (.n (.ldb (v := .slice (api) (xi').length (cpi)) ty22 rfl (.there .here) (encN_ok.get pn i _ hi npad 0 _ rfl))) ?_
        refine .v (i := 13) [] rfl rfl rfl .nil (.n (.mv rfl)) ?_
        refine .v (i := 14) [] rfl rfl rfl .nil (.n (.mv rfl)) ?_
        refine .v (i := 15) [] rfl rfl rfl .nil (.n (.mv rfl)) ?_
        refine .v (i := 16) [(94, _), (95, _)] rfl rfl rfl (.cons (.tail _ (.head _)) rfl rfl (.cons (.head _) rfl rfl .nil)) (.n (.build rfl (fun w => bd47_0_1 w _ _))) ?_
        refine .e (i := 17) [(96, _)] [17, 16, 14, 15] rfl rfl rfl (.cons (.head _) rfl rfl .nil) rfl rfl rfl .n (.lit1 sl22 ty47 rfl rfl rfl rfl rfl) ?_
        rintro _ _ Gs4 _ ⟨b3, rfl, rfl, hGs_⟩
        subst Gs4
        refine ⟨.skip rfl (.skip rfl (.skip rfl (.again [] rfl .nil (.n (.mv rfl)) (.again [(91, _)] rfl (.cons (.tail _ (.tail _ (.tail _ (.tail _ (.tail _ (.head _)))))) rfl rfl .nil) (.n (.ldb (v := .slice (api) (xi').length (cpi)) ty22 rfl (.there (.there .here)) (encN_ok.get pn i _ hi npad 0 _ rfl))) (.again [(90, _)] rfl (.cons (.tail _ (.tail _ (.tail _ (.tail _ (.tail _ (.tail _ (.head _))))))) rfl rfl .nil) (.n (.fa0 fl68_0 rfl)) (.again [(88, _), (89, _)] rfl (.cons (.tail _ (.tail _ (.tail _ (.tail _ (.tail _ (.tail _ (.tail _ (.tail _ (.head _))))))))) rfl rfl (.cons (.tail _ (.tail _ (.tail _ (.tail _ (.tail _ (.tail _ (.tail _ (.head _)))))))) rfl rfl .nil)) (.n (.ixo sl57 rfl rfl (i) ⟨rfl, by have h_ := (List.getElem?_eq_some_iff.1 hi).1; omega⟩)) (.again [] rfl .nil (.n (.mv rfl)) (.again [(87, _)] rfl (.cons (.tail _ (.tail _ (.tail _ (.tail _ (.tail _ (.tail _ (.tail _ (.tail _ (.tail _ (.head _)))))))))) rfl rfl .nil) (.n (.ldb ty57 rfl (.there .here) rfl)) (.again [(86, _)] rfl (.cons (.tail _ (.tail _ (.tail _ (.tail _ (.tail _ (.tail _ (.tail _ (.tail _ (.tail _ (.tail _ (.head _))))))))))) rfl rfl .nil) (.n (.fa0 fl60_0 rfl)) (.again [(85, _)] rfl (.cons (.tail _ (.tail _ (.tail _ (.tail _ (.tail _ (.tail _ (.tail _ (.tail _ (.tail _ (.tail _ (.tail _ (.head _)))))))))))) rfl rfl .nil) (.n (.nilc rfl)) (.again [] rfl .nil (.n (.mv rfl)) (.again [] rfl .nil (.n (.mv rfl)) (.again [(82, _)] rfl (.cons (.tail _ (.tail _ (.tail _ (.tail _ (.tail _ (.tail _ (.tail _ (.tail _ (.tail _ (.tail _ (.tail _ (.tail _ (.tail _ (.tail _ (.head _))))))))))))))) rfl rfl .nil) (.n (.ldb ty57 rfl (.there .here) rfl)) (.again [(81, _)] rfl (.cons (.tail _ (.tail _ (.tail _ (.tail _ (.tail _ (.tail _ (.tail _ (.tail _ (.tail _ (.tail _ (.tail _ (.tail _ (.tail _ (.tail _ (.tail _ (.head _)))))))))))))))) rfl rfl .nil) (.n (.fa0 fl60_0 rfl)) (.again [(80, _)] rfl (.cons (.tail _ (.tail _ (.tail _ (.tail _ (.tail _ (.tail _ (.tail _ (.tail _ (.tail _ (.tail _ (.tail _ (.tail _ (.tail _ (.tail _ (.tail _ (.tail _ (.head _))))))))))))))))) rfl rfl .nil) (.n (.nilc rfl)) (.again [] rfl .nil (.n (.mv rfl)) .nil)))))))))))))))), rfl, ?_⟩
        refine .e (i := 18) [(92, _), (93, _), (97, _)] [18, 12, 13, 17, 11, 16, 10, 14, 15, 8, 9, 7, 6, 5] rfl rfl rfl (.cons (.tail _ (.tail _ (.tail _ (.tail _ (.tail _ (.head _)))))) rfl rfl (.cons (.tail _ (.tail _ (.tail _ (.tail _ (.head _))))) rfl rfl (.cons (.head _) rfl rfl .nil))) rfl rfl rfl .n (.lend rfl rfl (Try.call38 _) _ (fun _ => (.there (.there (.there (.there (upd_p hi _)))))) (fun G hle hG => (insert_P xi' ((⟨k, v⟩ : Pr)) (posK xi' k) _ _ _ b3 G hpi (hG ⟨b3, 47, _⟩ (Inn.ob .here)) (posK_le _ _) (by omega)).mono (fun v M H _ ⟨it, h1, _, h2⟩ => ⟨it, h1, h2⟩))) ?_
        rintro _ _ Gs6 _ ⟨it5, rfl, hGs_, ⟨a5, c5, rfl, hr5⟩⟩
        subst Gs6
        refine ⟨.skip rfl (.skip rfl (.skip rfl (.skip rfl (.skip rfl (.skip rfl (.skip rfl (.skip rfl (.skip rfl (.skip rfl (.skip rfl (.skip rfl (.skip rfl (.again [] rfl .nil (.n (.mv rfl)) (.again [(82, _)] rfl (.cons (.tail _ (.tail _ (.tail _ (.tail _ (.tail _ (.tail _ (.tail _ (.tail _ (.tail _ (.tail _ (.tail _ (.tail _ (.tail _ (.tail _ (.tail _ (.head _)))))))))))))))) rfl rfl .nil) (.n (.ldb ty57 rfl (.there .here) rfl)) (.again [(81, _)] rfl (.cons (.tail _ (.tail _ (.tail _ (.tail _ (.tail _ (.tail _ (.tail _ (.tail _ (.tail _ (.tail _ (.tail _ (.tail _ (.tail _ (.tail _ (.tail _ (.tail _ (.head _))))))))))))))))) rfl rfl .nil) (.n (.fa0 fl60_0 rfl)) (.again [(80, _)] rfl (.cons (.tail _ (.tail _ (.tail _ (.tail _ (.tail _ (.tail _ (.tail _ (.tail _ (.tail _ (.tail _ (.tail _ (.tail _ (.tail _ (.tail _ (.tail _ (.tail _ (.tail _ (.head _)))))))))))))))))) rfl rfl .nil) (.n (.nilc rfl)) (.again [] rfl .nil (.n (.mv rfl)) .nil))))))))))))))))), rfl, ?_⟩
        refine .tail0 19 [[19, 3, 4, 0, 1, 2, 5, 6, 7, 8, 9, 10, 11, 12, 13, 14, 15, 16, 17, 18], [20, 19, 0, 1, 2, 3, 4, 5, 6, 7, 8, 9, 10, 11, 12, 13, 14, 15, 16, 17, 18], [21, 20, 18, 0, 1, 2, 3, 4, 5, 6, 7, 8, 9, 10, 11, 12, 13, 14, 15, 16, 17, 19]] rfl rfl rfl rfl (e' := [(98, _), (97, _), (96, _), (95, _), (94, _), (93, _), (92, _), (91, _), (90, _), (89, _), (88, _), (87, _), (86, _), (85, _), (84, _), (83, _), (82, _), (81, _), (80, _), (0, _), (1, _), (2, _), (7, _), (8, _)]) rfl ?_
        refine .v (.ixo sl57 rfl rfl (i) ⟨rfl, by have h_ := (List.getElem?_eq_some_iff.1 hi).1; omega⟩) rfl ?_
        refine .v (.fa0 fl68_0 rfl) rfl ?_
        refine .st (.stp (vs := [.slice a5 (xi'.take (posK xi' k) ++ ⟨k, v⟩ :: xi'.drop (posK xi' k)).length c5]) (cs' := (pn.set i ⟨⟨xi'.take (posK xi' k) ++ ⟨k, v⟩ :: xi'.drop (posK xi' k), a5, c5, it5⟩, ⟨ki', aki, cki, iki⟩⟩).flatMap encN ++ npad) ty22 rfl rfl rfl rfl (by simp [Value.oneCell']) (by have h_ := (List.getElem?_eq_some_iff.1 hi).1; rw [List.length_append, encN_ok.fl]; omega) (encN_ok.put1 (j := 0) hi (by decide) rfl) (.there (.there .here))) ?_
        rw [own_same_p pn i _ ⟨xi'.take (posK xi' k) ++ ⟨k, v⟩ :: xi'.drop (posK xi' k), a5, c5, it5⟩]
        obtain ⟨pn7, hpn7⟩ : ∃ x, x = pn.set i ⟨⟨xi'.take (posK xi' k) ++ ⟨k, v⟩ :: xi'.drop (posK xi' k), a5, c5, it5⟩, ⟨ki', aki, cki, iki⟩⟩ := ⟨_, rfl⟩
        rw [← hpn7]
        have hx7 := set_get' hpn7 hi
        replace hok : ∀ n ∈ pn7, n.Ok := by rw [hpn7]; exact set_ok hok ⟨hr5, hki⟩
        have hnd7 : pn7.map PN.nd = (T.nodes).set i ⟨xi'.take (posK xi' k) ++ ⟨k, v⟩ :: xi'.drop (posK xi' k), ki'⟩ := by rw [hpn7, List.map_set, hnd]; rfl
        have hln7 : pn7.length = pn.length := by rw [hpn7, List.length_set]
        have hcp7 : pn7.length ≤ nc := by omega
        have hnp7 : npad.length = (nc - pn7.length) * 2 := by rw [hln7]; exact hnp
        have hpi_7 := hr5
        have hki_7 := hki
        refine .nil ?_
        refine .then ?_
        refine .seq ?_
        refine .region ?_
        refine .v (.mv rfl) rfl ?_
        refine .v (.nilc rfl) rfl ?_
        refine .v (.fab fl60_3 rfl) rfl ?_
        refine .v (.ldb ty3 rfl (.there .here) rfl) rfl ?_
        refine .v (.add rfl rfl (by omega)) rfl ?_
        refine .kn (t := 105) (v := .int .i64 ((T.count + 1 : Nat) : Int)) rfl (congrArg (Value.int .i64) (by omega)) ?_
        refine .v (.nilc rfl) rfl ?_
        refine .v (.fab fl60_3 rfl) rfl ?_
        refine .st (.stb ty3 rfl rfl rfl st3 (.there .here)) ?_
        refine .nil ?_
        refine .then ?_
        refine .seq ?_
        refine .region ?_
        refine .v (.asn rfl) rfl ?_
        refine .nil ?_
        refine .then ?_
        refine .ret ?_
        refine .then_ret ?_
        refine .blk_ret ?_
        refine .then_ret ?_
        refine .blk_ret ?_
        refine .front (.there (.there (.there (.there .here)))) ?_
        refine .front (.there (.there (.there (.there .here)))) ?_
        refine .front (.there (.there (.there (.there .here)))) ?_
        refine .front (.there (.there (.there (.there .here)))) ?_
        have hLe : Lies b (⟨T.nodes.set i ⟨xi'.take (posK xi' k) ++ ⟨k, v⟩ :: xi'.drop (posK xi' k), ki'⟩, T.free, T.root, T.count + 1⟩) ([⟨b, 60, [.slice (some ⟨nb, 0, none⟩) pn.length nc, .slice fa T.free.length fc, .int .i64 (T.root : Int), .int .i64 (((T.count + 1 : Nat)) : Int)]⟩] ++ ([⟨nb, 68, pn7.flatMap encN ++ npad⟩] ++ (fit ++ own pn7))) := ⟨pn7, some ⟨nb, 0, none⟩, nc, _, fa, fc, fit, ⟨Row.of npad rfl hnp7 hcp7 hmx, hrf, hok, hnd7, by rw [hln7]; first | done | rfl⟩⟩
        exact .done _ [_] (.t1 rfl rfl) .rfl ⟨_, rfl, rfl, hLe, rfl⟩ (fun w ho => by simpa [List.append_assoc] using (subl (.cons_cons _ (.cons_cons _ (.cons_cons _ (.cons_cons _ (.cons _ (.cons_cons _ .slnil)))))) w ho))
      · skip
        obtain ⟨pn, na, nc, nit, fa, fc, fit, hP⟩ := hT
        obtain ⟨hrn, hrf, hok, hnd, rfl⟩ := hP
        have hln : pn.length = T.nodes.length := by rw [← hnd, List.length_map]
        have hmx := hrn.max
        have hcp := hrn.cap
        have hfm := hrf.max
        have hfcp := hrf.cap
        have hib := (List.getElem?_eq_some_iff.1 hni).1
        have hL0 : Lies b T (⟨b, 60, [.slice na pn.length nc, .slice fa T.free.length fc, .int .i64 (T.root : Int), .int .i64 (T.count : Int)]⟩ :: (nit ++ (fit ++ own pn))) := ⟨pn, na, nc, nit, fa, fc, fit, ⟨hrn, hrf, hok, hnd, rfl⟩⟩
        obtain ⟨nb, npad, rfl, rfl, hnp⟩ := hrn.blk (by omega)
        have hkl0 := (List.getElem?_eq_some_iff.1 hqc).1
        obtain ⟨ni, hi, ei⟩ := nd_get hnd hni
        have hoi := get_ok hok hi
        obtain ⟨⟨xi', api, cpi, ipi⟩, ⟨ki', aki, cki, iki⟩⟩ := ni
        obtain ⟨rfl, rfl⟩ : xi' = xi ∧ ki' = ki := by simpa [PN.nd] using ei
        have hpi : Row 47 encP 2 api cpi xi' ipi := hoi.p
        have hki : Row 3 encK 1 aki cki ki' iki := hoi.k
        obtain ⟨bki, dki, rfl, rfl, hdki⟩ := hki.blk (by omega)
        obtain ⟨nc, hc, ec⟩ := nd_get hnd hnc
        have hoc := get_ok hok hc
        obtain ⟨⟨xc', apc, cpc, ipc⟩, ⟨kc', akc, ckc, ikc⟩⟩ := nc
        obtain ⟨rfl, rfl⟩ : xc' = xc ∧ kc' = kc := by simpa [PN.nd] using ec
        have hpc : Row 47 encP 2 apc cpc xc' ipc := hoc.p
        have hkc : Row 3 encK 1 akc ckc kc' ikc := hoc.k
        refine .parts ?_
        refine .block ?_
        refine .seq ?_
        refine .region ?_
        refine .v (.mv rfl) rfl ?_
        refine .v (.nilc rfl) rfl ?_
        refine .v (.fa0 fl60_0 rfl) rfl ?_
        refine .v (.ldb ty57 rfl .here rfl) rfl ?_
        refine .v (.mv rfl) rfl ?_
        refine .v (.ixo sl57 rfl rfl (i) ⟨rfl, by have h_ := (List.getElem?_eq_some_iff.1 hi).1; omega⟩) rfl ?_
        refine .v (.ldm [.slice (api) (xi').length (cpi), .slice (some ⟨bki, 0, none⟩) (ki').length (cki)] ty68 rfl (.there .here) rfl (fun j_ v_ hj_ => encN_ok.get pn i _ hi npad j_ v_ hj_)) rfl ?_
        refine .v (.mv rfl) rfl ?_
        refine .v (.call rfl rfl (Try.call36 _) (fun G hle hG => find_fn xi' _ _ G (hpi.sl encP_ok (fun b_ hb_ => hG b_ (Inn.mem (.there (.there (.there (.part (sub_p hi))))) b_ hb_))) hsi k (by omega) _ _ _)) rfl ?_
        refine .v (.mv rfl) rfl ?_
        refine .v (.ext rfl rfl) rfl ?_
        refine .v (.ext rfl rfl) rfl ?_
        refine .v (.asn rfl) rfl ?_
        refine .v (.asn rfl) rfl ?_
        refine .nil ?_
        refine .then ?_
        refine .seq ?_
        refine .seq ?_
        refine .region ?_
        refine .v (.mv rfl) rfl ?_
        refine .nil ?_
        refine .then ?_
        refine .kn (t := 59) rfl (congrArg Value.bool hk) ?_
        refine .condF rfl ?_
        refine .skip ?_
        refine .then ?_
        refine .seq ?_
        refine .seq ?_
        refine .region ?_
        refine .v (.mv rfl) rfl ?_
        refine .v (.nilc rfl) rfl ?_
        refine .v (.fa0 fl60_0 rfl) rfl ?_
        refine .v (.ldb ty57 rfl .here rfl) rfl ?_
        refine .v (.mv rfl) rfl ?_
        refine .v (.ixo sl57 rfl rfl (i) ⟨rfl, by have h_ := (List.getElem?_eq_some_iff.1 hi).1; omega⟩) rfl ?_
        refine .v (.ldm [.slice (api) (xi').length (cpi), .slice (some ⟨bki, 0, none⟩) (ki').length (cki)] ty68 rfl (.there .here) rfl (fun j_ v_ hj_ => encN_ok.get pn i _ hi npad j_ v_ hj_)) rfl ?_
        refine .vF (.call rfl rfl (Try.call37 _) (fun G hle hG => leaf_fn _ _ _ _ ki'.length _ G)) rfl (by omega) ?_
        refine .nil ?_
        refine .then ?_
        refine .condF rfl ?_
        refine .skip ?_
        refine .then ?_
        refine .seq ?_
        refine .seq ?_
        refine .region ?_
        refine .v (.mv rfl) rfl ?_
        refine .v (.nilc rfl) rfl ?_
        refine .v (.fa0 fl60_0 rfl) rfl ?_
        refine .v (.ldb ty57 rfl .here rfl) rfl ?_
        refine .v (.mv rfl) rfl ?_
        refine .v (.ixo sl57 rfl rfl (i) ⟨rfl, by have h_ := (List.getElem?_eq_some_iff.1 hi).1; omega⟩) rfl ?_
        refine .v (.fae fl68_1 rfl) rfl ?_
        refine .v (.ldb (v := .slice (some ⟨bki, 0, none⟩) (ki').length (cki)) ty58 rfl (.there .here) (encN_ok.get pn i _ hi npad 1 _ rfl)) rfl ?_
        refine .v (.mv rfl) rfl ?_
        refine .v (.ixo sl58 rfl rfl (posK xi' k) ⟨rfl, by have h_ := (List.getElem?_eq_some_iff.1 hqc).1; omega⟩) rfl ?_
        refine .v (.ldb ty3 rfl (.there (.there (.there (.part (sub_k hi))))) (encK_ok.get ki' (posK xi' k) _ hqc dki 0 _ rfl)) rfl ?_
        refine .v (.asn rfl) rfl ?_
        refine .nil ?_
        refine .then ?_
        refine .seq ?_
        refine .region ?_
        refine .v (.mv rfl) rfl ?_
        refine .v (.nilc rfl) rfl ?_
        refine .v (.fa0 fl60_0 rfl) rfl ?_
        refine .v (.ldb ty57 rfl .here rfl) rfl ?_
        refine .v (.mv rfl) rfl ?_
        refine .v (.ixo sl57 rfl rfl (c) ⟨rfl, by have h_ := (List.getElem?_eq_some_iff.1 hc).1; omega⟩) rfl ?_
        refine .v (.fa0 fl68_0 rfl) rfl ?_
        refine .v (.ldb (v := .slice (apc) (xc').length (cpc)) ty22 rfl (.there .here) (encN_ok.get pn c _ hc npad 0 _ rfl)) rfl ?_
        refine .v (.lenl Try.underlying22 rfl) rfl ?_
        refine .vT (.eq rfl rfl) rfl (by omega) ?_
        refine .nil ?_
        refine .then ?_
        refine .condT rfl ?_
        refine .seq ?_
        refine .region ?_
        refine .v (.mv rfl) rfl ?_
        refine .v (.mv rfl) rfl ?_
        refine .v (.mv rfl) rfl ?_
        refine .front (.there (.there (.there .here))) ?_
        refine .front (.there (.there (.there .here))) ?_
        refine .join ?_
        refine .front (.there (.there .here)) ?_
        refine .join ?_
        refine .front (.there .here) ?_
        refine .join ?_
        refine .lend (.lend rfl rfl (Try.call35 _) _ (fun _ => .here) (fun G hle hG => (split_fn b T _ G hL0 i (posK xi' k) c xi' ki' xc' kc' up hni hqc hnc hup hci (posK_le _ _) (by omega) (by omega) (by omega) (by omega) (by omega) hfree hb0).mono (fun v M H _ ⟨it, h1, _, h2⟩ => ⟨it, h1, h2⟩))) rfl ?_
        rintro _ itq hL2
        refine .nil ?_
        refine .then ?_
        refine .exit ?_
        refine .then_exit ?_
        refine .blk_exit ?_
        exact .again ⟨m, _, i, itq⟩ ⟨hL2, hR⟩ (Nat.lt_succ_self m) (.cons rfl rfl (.cons rfl rfl (.cons rfl rfl (.cons rfl rfl .nil)))) (subl (.cons_cons _ (.cons_cons _ .slnil)))
      · skip
        obtain ⟨pn, na, nc, nit, fa, fc, fit, hP⟩ := hT
        obtain ⟨hrn, hrf, hok, hnd, rfl⟩ := hP
        have hln : pn.length = T.nodes.length := by rw [← hnd, List.length_map]
        have hmx := hrn.max
        have hcp := hrn.cap
        have hfm := hrf.max
        have hfcp := hrf.cap
        have hib := (List.getElem?_eq_some_iff.1 hni).1
        have hL0 : Lies b T (⟨b, 60, [.slice na pn.length nc, .slice fa T.free.length fc, .int .i64 (T.root : Int), .int .i64 (T.count : Int)]⟩ :: (nit ++ (fit ++ own pn))) := ⟨pn, na, nc, nit, fa, fc, fit, ⟨hrn, hrf, hok, hnd, rfl⟩⟩
        obtain ⟨nb, npad, rfl, rfl, hnp⟩ := hrn.blk (by omega)
        have hkl0 := (List.getElem?_eq_some_iff.1 hqc).1
        obtain ⟨ni, hi, ei⟩ := nd_get hnd hni
        have hoi := get_ok hok hi
        obtain ⟨⟨xi', api, cpi, ipi⟩, ⟨ki', aki, cki, iki⟩⟩ := ni
        obtain ⟨rfl, rfl⟩ : xi' = xi ∧ ki' = ki := by simpa [PN.nd] using ei
        have hpi : Row 47 encP 2 api cpi xi' ipi := hoi.p
        have hki : Row 3 encK 1 aki cki ki' iki := hoi.k
        obtain ⟨bki, dki, rfl, rfl, hdki⟩ := hki.blk (by omega)
        obtain ⟨nc, hc, ec⟩ := nd_get hnd hnc
        have hoc := get_ok hok hc
        obtain ⟨⟨xc', apc, cpc, ipc⟩, ⟨kc', akc, ckc, ikc⟩⟩ := nc
        obtain ⟨rfl, rfl⟩ : xc' = xc ∧ kc' = kc := by simpa [PN.nd] using ec
        have hpc : Row 47 encP 2 apc cpc xc' ipc := hoc.p
        have hkc : Row 3 encK 1 akc ckc kc' ikc := hoc.k
        refine .parts ?_
        refine .block ?_
        refine .seq ?_
        refine .region ?_
        refine .v (.mv rfl) rfl ?_
        refine .v (.nilc rfl) rfl ?_
        refine .v (.fa0 fl60_0 rfl) rfl ?_
        refine .v (.ldb ty57 rfl .here rfl) rfl ?_
        refine .v (.mv rfl) rfl ?_
        refine .v (.ixo sl57 rfl rfl (i) ⟨rfl, by have h_ := (List.getElem?_eq_some_iff.1 hi).1; omega⟩) rfl ?_
        refine .v (.ldm [.slice (api) (xi').length (cpi), .slice (some ⟨bki, 0, none⟩) (ki').length (cki)] ty68 rfl (.there .here) rfl (fun j_ v_ hj_ => encN_ok.get pn i _ hi npad j_ v_ hj_)) rfl ?_
        refine .v (.mv rfl) rfl ?_
        refine .v (.call rfl rfl (Try.call36 _) (fun G hle hG => find_fn xi' _ _ G (hpi.sl encP_ok (fun b_ hb_ => hG b_ (Inn.mem (.there (.there (.there (.part (sub_p hi))))) b_ hb_))) hsi k (by omega) _ _ _)) rfl ?_
        refine .v (.mv rfl) rfl ?_
        refine .v (.ext rfl rfl) rfl ?_
        refine .v (.ext rfl rfl) rfl ?_
        refine .v (.asn rfl) rfl ?_
        refine .v (.asn rfl) rfl ?_
        refine .nil ?_
        refine .then ?_
        refine .seq ?_
        refine .seq ?_
        refine .region ?_
        refine .v (.mv rfl) rfl ?_
        refine .nil ?_
        refine .then ?_
        refine .kn (t := 59) rfl (congrArg Value.bool hk) ?_
        refine .condF rfl ?_
        refine .skip ?_
        refine .then ?_
        refine .seq ?_
        refine .seq ?_
        refine .region ?_
        refine .v (.mv rfl) rfl ?_
        refine .v (.nilc rfl) rfl ?_
        refine .v (.fa0 fl60_0 rfl) rfl ?_
        refine .v (.ldb ty57 rfl .here rfl) rfl ?_
        refine .v (.mv rfl) rfl ?_
        refine .v (.ixo sl57 rfl rfl (i) ⟨rfl, by have h_ := (List.getElem?_eq_some_iff.1 hi).1; omega⟩) rfl ?_
        refine .v (.ldm [.slice (api) (xi').length (cpi), .slice (some ⟨bki, 0, none⟩) (ki').length (cki)] ty68 rfl (.there .here) rfl (fun j_ v_ hj_ => encN_ok.get pn i _ hi npad j_ v_ hj_)) rfl ?_
        refine .vF (.call rfl rfl (Try.call37 _) (fun G hle hG => leaf_fn _ _ _ _ ki'.length _ G)) rfl (by omega) ?_
        refine .nil ?_
        refine .then ?_
        refine .condF rfl ?_
        refine .skip ?_
        refine .then ?_
        refine .seq ?_
        refine .seq ?_
        refine .region ?_
        refine .v (.mv rfl) rfl ?_
        refine .v (.nilc rfl) rfl ?_
        refine .v (.fa0 fl60_0 rfl) rfl ?_
        refine .v (.ldb ty57 rfl .here rfl) rfl ?_
        refine .v (.mv rfl) rfl ?_
        refine .v (.ixo sl57 rfl rfl (i) ⟨rfl, by have h_ := (List.getElem?_eq_some_iff.1 hi).1; omega⟩) rfl ?_
        refine .v (.fae fl68_1 rfl) rfl ?_
        refine .v (.ldb (v := .slice (some ⟨bki, 0, none⟩) (ki').length (cki)) ty58 rfl (.there .here) (encN_ok.get pn i _ hi npad 1 _ rfl)) rfl ?_
        refine .v (.mv rfl) rfl ?_
        refine .v (.ixo sl58 rfl rfl (posK xi' k) ⟨rfl, by have h_ := (List.getElem?_eq_some_iff.1 hqc).1; omega⟩) rfl ?_
        refine .v (.ldb ty3 rfl (.there (.there (.there (.part (sub_k hi))))) (encK_ok.get ki' (posK xi' k) _ hqc dki 0 _ rfl)) rfl ?_
        refine .v (.asn rfl) rfl ?_
        refine .nil ?_
        refine .then ?_
        refine .seq ?_
        refine .region ?_
        refine .v (.mv rfl) rfl ?_
        refine .v (.nilc rfl) rfl ?_
        refine .v (.fa0 fl60_0 rfl) rfl ?_
        refine .v (.ldb ty57 rfl .here rfl) rfl ?_
        refine .v (.mv rfl) rfl ?_
        refine .v (.ixo sl57 rfl rfl (c) ⟨rfl, by have h_ := (List.getElem?_eq_some_iff.1 hc).1; omega⟩) rfl ?_
        refine .v (.fa0 fl68_0 rfl) rfl ?_
        refine .v (.ldb (v := .slice (apc) (xc').length (cpc)) ty22 rfl (.there .here) (encN_ok.get pn c _ hc npad 0 _ rfl)) rfl ?_
        refine .v (.lenl Try.underlying22 rfl) rfl ?_
        refine .vF (.eq rfl rfl) rfl (by omega) ?_
        refine .nil ?_
        refine .then ?_
        refine .condF rfl ?_
        refine .skip ?_
        refine .then ?_
        refine .region ?_
        refine .v (.mv rfl) rfl ?_
        refine .v (.nilc rfl) rfl ?_
        refine .v (.fa0 fl60_0 rfl) rfl ?_
        refine .v (.ldb ty57 rfl .here rfl) rfl ?_
        refine .v (.mv rfl) rfl ?_
        refine .v (.ixo sl57 rfl rfl (i) ⟨rfl, by have h_ := (List.getElem?_eq_some_iff.1 hi).1; omega⟩) rfl ?_
        refine .v (.fae fl68_1 rfl) rfl ?_
        refine .v (.ldb (v := .slice (some ⟨bki, 0, none⟩) (ki').length (cki)) ty58 rfl (.there .here) (encN_ok.get pn i _ hi npad 1 _ rfl)) rfl ?_
        refine .v (.mv rfl) rfl ?_
        refine .v (.ixo sl58 rfl rfl (posK xi' k) ⟨rfl, by have h_ := (List.getElem?_eq_some_iff.1 hqc).1; omega⟩) rfl ?_
        refine .v (.ldb ty3 rfl (.there (.there (.there (.part (sub_k hi))))) (encK_ok.get ki' (posK xi' k) _ hqc dki 0 _ rfl)) rfl ?_
        refine .v (.asn rfl) rfl ?_
        refine .nil ?_
        refine .blk ?_
        refine .front (.there (.there (.there .here))) ?_
        refine .front (.there (.there (.there .here))) ?_
        refine .join ?_
        refine .front (.there (.there .here)) ?_
        refine .join ?_
        refine .front (.there .here) ?_
        refine .join ?_
        exact .again ⟨m, T, c, ([⟨b, 60, [.slice (some ⟨nb, 0, none⟩) pn.length nc, .slice fa T.free.length fc, .int .i64 (T.root : Int), .int .i64 (T.count : Int)]⟩] ++ ([⟨nb, 68, pn.flatMap encN ++ npad⟩] ++ (fit ++ own pn)))⟩ ⟨hL0, hR⟩ (Nat.lt_succ_self m) (.cons rfl rfl (.cons rfl rfl (.cons rfl rfl (.cons rfl rfl .nil)))) (subl (.cons_cons _ (.cons_cons _ .slnil)))
theorem put_b (b : Nat) (T : TS) (it : Itm) (F : Mem) (hT : Lies b T it) (k v : ByteArray) (T' : TS) (r : Bool) (xr : List Pr) (kr : List Nat) (hnr : T.nodes[T.root]? = some ⟨xr, kr⟩) (hb0 : T.nodes.length ≤ 549755813888) (hfr0 : ∀ x ∈ T.free, x < T.nodes.length) (hx5 : xr.length = 5) (T1 : TS) (n : Nat) (up : Pr) (m0 : Nat) (hadd : addL T ⟨[], [T.root]⟩ = (T1, n)) (hup : xr[2]? = some up) (hkr : kr.length = 0 ∨ kr.length = 6) (hnn : T1.nodes[n]? = some ⟨[], [T.root]⟩) (hnr1 : T1.nodes[T.root]? = some ⟨xr, kr⟩) (hrn1 : T.root ≠ n) (hfr1 : ∀ x ∈ T1.free, x < T1.nodes.length ∧ x ≠ n) (hb1 : T1.nodes.length ≤ 549755813888) (hR0 : PutR k v m0 (splitT ⟨T1.nodes, T1.free, n, T1.count⟩ n 0 T.root ⟨[], [T.root]⟩ ⟨xr, kr⟩ up) n T' r) : Fn Try.prog 21 #[.pointer (some ⟨b, 0, none⟩), .string k, .string v] [it] F (fun u M G => ∃ it', M = [it'] ∧ G = F ∧ Lies b T' it' ∧ u = .bool r) := by
  obtain ⟨pn, na, nc, nit, fa, fc, fit, hP⟩ := hT
  obtain ⟨hrn, hrf, hok, hnd, rfl⟩ := hP
  have hln : pn.length = T.nodes.length := by rw [← hnd, List.length_map]
  have hmx := hrn.max
  have hcp := hrn.cap
  have hfm := hrf.max
  have hfcp := hrf.cap
  have hL0 : Lies b T (⟨b, 60, [.slice na pn.length nc, .slice fa T.free.length fc, .int .i64 (T.root : Int), .int .i64 (T.count : Int)]⟩ :: (nit ++ (fit ++ own pn))) := ⟨pn, na, nc, nit, fa, fc, fit, ⟨hrn, hrf, hok, hnd, rfl⟩⟩
  have hib := (List.getElem?_eq_some_iff.1 hnr).1
  obtain ⟨nb, npad, rfl, rfl, hnp⟩ := hrn.blk (by omega)
  obtain ⟨nr, hr, er⟩ := nd_get hnd hnr
  have hor := get_ok hok hr
  obtain ⟨⟨xr', apr, cpr, ipr⟩, ⟨kr', akr, ckr, ikr⟩⟩ := nr
  obtain ⟨rfl, rfl⟩ : xr' = xr ∧ kr' = kr := by simpa [PN.nd] using er
  have hpr : Row 47 encP 2 apr cpr xr' ipr := hor.p
  have hkr : Row 3 encK 1 akr ckr kr' ikr := hor.k
  refine Fn.start1 Try.func21 rfl Try.ntmps21 rfl (env := [(0, _), (1, _), (2, _)]) rfl ?_
  intro R
  refine .items (L' := [[⟨b, 60, _⟩], [⟨nb, 68, _⟩], fit, own pn, R]) (fun w ho => by simpa [List.append_assoc] using ho) ?_
  refine .seq ?_
  refine .region ?_
  refine .v (.asn rfl) rfl ?_
  refine .nil ?_
  refine .then ?_
  refine .seq ?_
  refine .seq ?_
  refine .region ?_
  refine .v (.mv rfl) rfl ?_
  refine .vF (.eqpn Try.underlying28 rfl rfl) rfl (by simp) ?_
  refine .nil ?_
  refine .then ?_
  refine .condF rfl ?_
  refine .skip ?_
  refine .then ?_
  refine .seq ?_
  refine .seq ?_
  refine .draw [[], [0], [1], [2], [], [4], [5], [6], [3, 7], [8], [9], [10], [11]] [] (by kernel_rfl) (by kernel_rfl) rfl (e1 := [(0, _), (1, _), (2, _), (6, _)]) (.cons rfl rfl (.cons rfl rfl (.cons rfl rfl (.cons rfl rfl .nil)))) (fun x hx => by cases hx) rfl ?_
  refine .v (i := 0) [] rfl rfl rfl .nil (.n (.mv rfl)) ?_
  refine .v (i := 1) [(13, _)] rfl rfl rfl (.cons (.head _) rfl rfl .nil) (.n (.nilc rfl)) ?_
  refine .v (i := 2) [(14, _)] rfl rfl rfl (.cons (.head _) rfl rfl .nil) (.n (.fa0 fl60_0 rfl)) ?_
  refine .v (i := 3) [(15, _)] rfl rfl rfl (.cons (.head _) rfl rfl .nil) (.n (.ldb ty57 rfl .here rfl)) ?_
  refine .v (i := 4) [] rfl rfl rfl .nil (.n (.mv rfl)) ?_
  refine .v (i := 5) [(17, _)] rfl rfl rfl (.cons (.head _) rfl rfl .nil) (.n (.nilc rfl)) ?_
  refine .v (i := 6) [(18, _)] rfl rfl rfl (.cons (.head _) rfl rfl .nil) (.n (.fab fl60_2 rfl)) ?_
  refine .v (i := 7) [(19, _)] rfl rfl rfl (.cons (.head _) rfl rfl .nil) (.n (.ldb ty3 rfl .here rfl)) ?_
  refine .tail0 8 [[8, 3, 7, 2, 6, 1, 5, 0, 4], [9, 8, 3, 7, 2, 6, 1, 5, 0, 4], [10, 9, 8, 3, 7, 2, 6, 1, 5, 0, 4], [11, 10, 9, 8, 3, 7, 2, 6, 1, 5, 0, 4], [12, 11, 10, 9, 8, 3, 7, 2, 6, 1, 5, 0, 4]] rfl rfl rfl rfl (e' := [(20, _), (19, _), (18, _), (17, _), (16, _), (15, _), (14, _), (13, _), (0, _), (1, _), (2, _), (6, _)]) rfl ?_
  refine .v (.ixo sl57 rfl rfl (T.root) ⟨rfl, by have h_ := (List.getElem?_eq_some_iff.1 hr).1; omega⟩) rfl ?_
  refine .v (.fa0 fl68_0 rfl) rfl ?_
  refine .v (.ldb (v := .slice (apr) (xr').length (cpr)) ty22 rfl (.there .here) (encN_ok.get pn T.root _ hr npad 0 _ rfl)) rfl ?_
  refine .v (.lenl Try.underlying22 rfl) rfl ?_
  refine .vT (.eq rfl rfl) rfl (by omega) ?_
  refine .nil ?_
  refine .then ?_
  refine .condT rfl ?_
  refine .seq ?_
  refine .region ?_
  refine .v (.mv rfl) rfl ?_
  refine .v (.mv rfl) rfl ?_
  refine .v (.mv rfl) rfl ?_
  refine .v (.nilc rfl) rfl ?_
  refine .v (.fab fl60_2 rfl) rfl ?_
  refine .v (.ldb ty3 rfl .here rfl) rfl ?_
  refine .nb (.lit1 sl58 ty3 rfl rfl rfl rfl rfl) rfl (fun b1 => ?_)
  refine .v (.build rfl (fun w => bd68_1 w _ _ _)) rfl ?_
  have hL1 : Lies b (T) ([⟨b, 60, [.slice (some ⟨nb, 0, none⟩) pn.length nc, .slice fa T.free.length fc, .int .i64 (T.root : Int), .int .i64 (T.count : Int)]⟩] ++ ([⟨nb, 68, pn.flatMap encN ++ npad⟩] ++ (fit ++ own pn))) := ⟨pn, some ⟨nb, 0, none⟩, nc, _, fa, fc, fit, ⟨Row.of npad rfl hnp hcp hmx, hrf, hok, hnd, by first | done | rfl⟩⟩
  refine .front (.there (.there (.there (.there .here)))) ?_
  refine .front (.there (.there (.there (.there .here)))) ?_
  refine .join ?_
  refine .front (.there (.there (.there .here))) ?_
  refine .join ?_
  refine .front (.there (.there .here)) ?_
  refine .join ?_
  refine .emp ?_
  refine .front (.there (.there .here)) ?_
  refine .front (.there .here) ?_
  refine .join ?_
  refine .front (.there .here) ?_
  refine .join ?_
  refine .lend (.lend rfl rfl (Try.call34 _) _ (fun _ => .here) (fun G hle hG => (add_fn b _ _ G hL1 (⟨⟨[], none, 0, []⟩, ⟨[T.root], some ⟨b1, 0, none⟩, 1, [⟨b1, 3, [.int .i64 (T.root : Int)]⟩]⟩⟩ : PN) ⟨Row.nil, Row.of [] rfl rfl (Nat.le_refl _) (by show 1 ≤ 9223372036854775807; decide)⟩ hfr0 (by omega)).mono (fun v M H _ ⟨it, h1, _, h2⟩ => ⟨it, h1, h2⟩))) rfl ?_
  rintro _ itq ⟨hL2, rfl⟩
  rw [show ((⟨⟨[], none, 0, []⟩, ⟨[T.root], some ⟨b1, 0, none⟩, 1, [⟨b1, 3, [.int .i64 (T.root : Int)]⟩]⟩⟩ : PN) : PN).nd = ⟨[], [T.root]⟩ from rfl, hadd] at hL2
  rw [show ((⟨⟨[], none, 0, []⟩, ⟨[T.root], some ⟨b1, 0, none⟩, 1, [⟨b1, 3, [.int .i64 (T.root : Int)]⟩]⟩⟩ : PN) : PN).nd = ⟨[], [T.root]⟩ from rfl, hadd]
  dsimp only at hL2 ⊢
  clear hnd hok hrn hrf hln hmx hcp hfm hfcp hL0 hL1
  obtain ⟨pn, na, nc, nit, fa, fc, fit, hP⟩ := hL2
  obtain ⟨hrn, hrf, hok, hnd, rfl⟩ := hP
  have hln : pn.length = T1.nodes.length := by rw [← hnd, List.length_map]
  have hmx := hrn.max
  have hcp := hrn.cap
  have hfm := hrf.max
  have hfcp := hrf.cap
  have hib1 := (List.getElem?_eq_some_iff.1 hnn).1
  obtain ⟨nb, npad, rfl, rfl, hnp⟩ := hrn.blk (by omega)
  refine .parts ?_
  refine .v (.nilc rfl) rfl ?_
  refine .v (.fab fl60_2 rfl) rfl ?_
  refine .st (.stb ty3 rfl rfl rfl st2 .here) ?_
  refine .nil ?_
  refine .then ?_
  refine .region ?_
  refine .v (.mv rfl) rfl ?_
  refine .v (.mv rfl) rfl ?_
  refine .v (.nilc rfl) rfl ?_
  refine .v (.fab fl60_2 rfl) rfl ?_
  refine .v (.ldb ty3 rfl .here rfl) rfl ?_
  have hL3 : Lies b ⟨T1.nodes, T1.free, n, T1.count⟩ ([⟨b, 60, [.slice (some ⟨nb, 0, none⟩) pn.length nc, .slice fa T1.free.length fc, .int .i64 (n : Int), .int .i64 (T1.count : Int)]⟩] ++ ([⟨nb, 68, pn.flatMap encN ++ npad⟩] ++ (fit ++ own pn))) := ⟨pn, some ⟨nb, 0, none⟩, nc, _, fa, fc, fit, ⟨hrn, hrf, hok, hnd, rfl⟩⟩
  refine .front (.there (.there (.there .here))) ?_
  refine .front (.there (.there (.there .here))) ?_
  refine .join ?_
  refine .front (.there (.there .here)) ?_
  refine .join ?_
  refine .front (.there .here) ?_
  refine .join ?_
  refine .lend (.lend rfl rfl (Try.call35 _) _ (fun _ => .here) (fun G hle hG => (split_fn b ⟨T1.nodes, T1.free, n, T1.count⟩ _ G hL3 n 0 T.root [] [T.root] xr' kr' up hnn rfl hnr1 hup hrn1 (Nat.zero_le _) (by omega) (by simp) (by simp) (by omega) (by omega) hfr1 hb1).mono (fun v M H _ ⟨it, h1, _, h2⟩ => ⟨it, h1, h2⟩))) rfl ?_
  rintro _ its hLs
  clear hnd hok hrn hrf hln hmx hcp hfm hfcp hL3
  have hsr := (splitT_root ⟨T1.nodes, T1.free, n, T1.count⟩ n 0 T.root ⟨[], [T.root]⟩ ⟨xr', kr'⟩ up).1
  dsimp only at hsr
  obtain ⟨T, hTT⟩ : ∃ T_, T_ = splitT ⟨T1.nodes, T1.free, n, T1.count⟩ n 0 T.root ⟨[], [T.root]⟩ ⟨xr', kr'⟩ up := ⟨_, rfl⟩
  rw [← hTT] at hLs hR0 hsr
  rw [← hsr] at hR0
  have hLs2 := hLs
  obtain ⟨pn, na, nc, nit, fa, fc, fit, hP⟩ := hLs2
  obtain ⟨hrn, hrf, hok, hnd, rfl⟩ := hP
  have hL0 : Lies b T (⟨b, 60, [.slice na pn.length nc, .slice fa T.free.length fc, .int .i64 (T.root : Int), .int .i64 (T.count : Int)]⟩ :: (nit ++ (fit ++ own pn))) := ⟨pn, na, nc, nit, fa, fc, fit, ⟨hrn, hrf, hok, hnd, rfl⟩⟩
  refine .parts ?_
  refine .nil ?_
  refine .then ?_
  refine .seq ?_
  refine .region ?_
  refine .v (.mv rfl) rfl ?_
  refine .v (.nilc rfl) rfl ?_
  refine .v (.fab fl60_2 rfl) rfl ?_
  refine .v (.ldb ty3 rfl .here rfl) rfl ?_
  refine .v (.asn rfl) rfl ?_
  refine .nil ?_
  refine .then ?_
  refine .block ?_
  have hLs := hL0
  refine .front (.there (.there (.there .here))) ?_
  refine .front (.there (.there (.there .here))) ?_
  refine .join ?_
  refine .front (.there (.there .here)) ?_
  refine .join ?_
  refine .front (.there .here) ?_
  refine .join ?_
  refine WC.loopx (fx := [(0, _), (1, _), (2, _)]) (pre := [_]) (fm := [_]) rfl (.cons rfl rfl (.cons rfl rfl (.cons rfl rfl .nil))) (ι := LpZ) (fun z => Lies b z.T z.it ∧ PutR k v z.m z.T z.i T' r) (fun z => z.m) (fun z => [(7, .int .i64 (z.i : Int))]) (fun z => [z.it]) (fun _ => F) ⟨m0, T, T.root, ([⟨b, 60, [.slice na pn.length nc, .slice fa T.free.length fc, .int .i64 (T.root : Int), .int .i64 (T.count : Int)]⟩] ++ (nit ++ (fit ++ own pn)))⟩ ⟨hLs, hR0⟩ ?he ?hm ?round
  case he => exact .cons rfl rfl (.cons rfl rfl (.cons rfl rfl (.cons rfl rfl .nil)))
  case hm => exact (fun _ h => h)
  case round =>
    intro z hk
    dsimp only [List.cons_append, List.nil_append]
    obtain ⟨m, T, i, it⟩ := z
    obtain ⟨hT, hR⟩ := hk
    dsimp only at hT hR ⊢
    cases m with
    | zero => exact hR.elim
    | succ m =>
      obtain ⟨xi, ki, hni, hsi, hxl, hkl, hb0, hcb, hfree, hR⟩ := hR
      rcases hR with ⟨p, hk, hp, hTe, hre⟩ | ⟨hk, hk0, hTe, hre⟩ | ⟨c, xc, kc, up, hk, hqc, hnc, hxc5, hup, hci, hkc6, hR⟩ | ⟨c, xc, kc, hk, hqc, hnc, hxc4, hR⟩
      · skip
        subst hTe
        subst hre
        obtain ⟨pn, na, nc, nit, fa, fc, fit, hP⟩ := hT
        obtain ⟨hrn, hrf, hok, hnd, rfl⟩ := hP
        have hln : pn.length = T.nodes.length := by rw [← hnd, List.length_map]
        have hmx := hrn.max
        have hcp := hrn.cap
        have hfm := hrf.max
        have hfcp := hrf.cap
        have hib := (List.getElem?_eq_some_iff.1 hni).1
        have hL0 : Lies b T (⟨b, 60, [.slice na pn.length nc, .slice fa T.free.length fc, .int .i64 (T.root : Int), .int .i64 (T.count : Int)]⟩ :: (nit ++ (fit ++ own pn))) := ⟨pn, na, nc, nit, fa, fc, fit, ⟨hrn, hrf, hok, hnd, rfl⟩⟩
        obtain ⟨nb, npad, rfl, rfl, hnp⟩ := hrn.blk (by omega)
        have hpl0 := (List.getElem?_eq_some_iff.1 hp).1
        obtain ⟨ni, hi, ei⟩ := nd_get hnd hni
        have hoi := get_ok hok hi
        obtain ⟨⟨xi', api, cpi, ipi⟩, ⟨ki', aki, cki, iki⟩⟩ := ni
        obtain ⟨rfl, rfl⟩ : xi' = xi ∧ ki' = ki := by simpa [PN.nd] using ei
        have hpi : Row 47 encP 2 api cpi xi' ipi := hoi.p
        have hki : Row 3 encK 1 aki cki ki' iki := hoi.k
        obtain ⟨bpi, dpi, rfl, rfl, hdpi⟩ := hpi.blk (by omega)
        refine .parts ?_
        refine .block ?_
        refine .seq ?_
        refine .region ?_
        refine .v (.mv rfl) rfl ?_
        refine .v (.nilc rfl) rfl ?_
        refine .v (.fa0 fl60_0 rfl) rfl ?_
        refine .v (.ldb ty57 rfl .here rfl) rfl ?_
        refine .v (.mv rfl) rfl ?_
        refine .v (.ixo sl57 rfl rfl (i) ⟨rfl, by have h_ := (List.getElem?_eq_some_iff.1 hi).1; omega⟩) rfl ?_
        refine .v (.ldm [.slice (some ⟨bpi, 0, none⟩) (xi').length (cpi), .slice (aki) (ki').length (cki)] ty68 rfl (.there .here) rfl (fun j_ v_ hj_ => encN_ok.get pn i _ hi npad j_ v_ hj_)) rfl ?_
        refine .v (.mv rfl) rfl ?_
        refine .v (.call rfl rfl (Try.call36 _) (fun G hle hG => find_fn xi' _ _ G (hpi.sl encP_ok (fun b_ hb_ => hG b_ (Inn.mem (.there (.there (.there (.part (sub_p hi))))) b_ hb_))) hsi k (by omega) _ _ _)) rfl ?_
        refine .v (.mv rfl) rfl ?_
        refine .v (.ext rfl rfl) rfl ?_
        refine .v (.ext rfl rfl) rfl ?_
        refine .v (.asn rfl) rfl ?_
        refine .v (.asn rfl) rfl ?_
        refine .nil ?_
        refine .then ?_
        refine .seq ?_
        refine .seq ?_
        refine .region ?_
        refine .v (.mv rfl) rfl ?_
        refine .nil ?_
        refine .then ?_
        refine .kn (t := 59) rfl (congrArg Value.bool hk) ?_
        refine .condT rfl ?_
        refine .seq ?_
        refine .region ?_
        refine .v (.mv rfl) rfl ?_
        refine .v (.nilc rfl) rfl ?_
        refine .v (.fa0 fl60_0 rfl) rfl ?_
        refine .v (.ldb ty57 rfl .here rfl) rfl ?_
        refine .v (.mv rfl) rfl ?_
        refine .v (.ixo sl57 rfl rfl (i) ⟨rfl, by have h_ := (List.getElem?_eq_some_iff.1 hi).1; omega⟩) rfl ?_
        refine .v (.fa0 fl68_0 rfl) rfl ?_
        refine .v (.ldb (v := .slice (some ⟨bpi, 0, none⟩) (xi').length (cpi)) ty22 rfl (.there .here) (encN_ok.get pn i _ hi npad 0 _ rfl)) rfl ?_
        refine .v (.mv rfl) rfl ?_
        refine .v (.mv rfl) rfl ?_
        refine .v (.ixo sl22 rfl rfl (posK xi' k) ⟨rfl, by have h_ := (List.getElem?_eq_some_iff.1 hp).1; omega⟩) rfl ?_
        refine .v (.fae fl47_1 rfl) rfl ?_
        refine .st (.stp (vs := [.string v]) (cs' := (xi'.set (posK xi' k) ⟨p.key, v⟩).flatMap encP ++ dpi) ty9 rfl rfl rfl rfl (by simp [Value.oneCell']) (by have h_ := (List.getElem?_eq_some_iff.1 hp).1; rw [List.length_append, encP_ok.fl]; omega) (encP_ok.put1 (j := 1) hp (by decide) rfl) (.there (.there (.there (upd_p hi _))))) ?_
        have hrw2 : Row 47 encP 2 (some ⟨bpi, 0, none⟩) cpi (xi'.set (posK xi' k) ⟨p.key, v⟩) [⟨bpi, 47, (xi'.set (posK xi' k) ⟨p.key, v⟩).flatMap encP ++ dpi⟩] := Row.of dpi rfl (by rw [List.length_set]; exact hdpi) (by rw [List.length_set]; exact hpi.cap) hpi.max
        rw [own_same_p pn i _ ⟨xi'.set (posK xi' k) ⟨p.key, v⟩, some ⟨bpi, 0, none⟩, cpi, [⟨bpi, 47, (xi'.set (posK xi' k) ⟨p.key, v⟩).flatMap encP ++ dpi⟩]⟩]
        rw [← flat_same (m := ⟨⟨xi'.set (posK xi' k) ⟨p.key, v⟩, some ⟨bpi, 0, none⟩, cpi, [⟨bpi, 47, (xi'.set (posK xi' k) ⟨p.key, v⟩).flatMap encP ++ dpi⟩]⟩, ⟨ki', aki, cki, iki⟩⟩) hi (by simp [encN])]
        obtain ⟨pn3, hpn3⟩ : ∃ x, x = pn.set i ⟨⟨xi'.set (posK xi' k) ⟨p.key, v⟩, some ⟨bpi, 0, none⟩, cpi, [⟨bpi, 47, (xi'.set (posK xi' k) ⟨p.key, v⟩).flatMap encP ++ dpi⟩]⟩, ⟨ki', aki, cki, iki⟩⟩ := ⟨_, rfl⟩
        rw [← hpn3]
        have hx3 := set_get' hpn3 hi
        replace hok : ∀ n ∈ pn3, n.Ok := by rw [hpn3]; exact set_ok hok ⟨hrw2, hki⟩
        have hnd3 : pn3.map PN.nd = (T.nodes).set i ⟨xi'.set (posK xi' k) ⟨p.key, v⟩, ki'⟩ := by rw [hpn3, List.map_set, hnd]; rfl
        have hln3 : pn3.length = pn.length := by rw [hpn3, List.length_set]
        have hcp3 : pn3.length ≤ nc := by omega
        have hnp3 : npad.length = (nc - pn3.length) * 2 := by rw [hln3]; exact hnp
        have hpi_3 := hrw2
        have hki_3 := hki
        refine .nil ?_
        refine .then ?_
        refine .seq ?_
        refine .region ?_
        refine .v (.asn rfl) rfl ?_
        refine .nil ?_
        refine .then ?_
        refine .ret ?_
        refine .then_ret ?_
        refine .blk_ret ?_
        refine .then_ret ?_
        refine .blk_ret ?_
        refine .front (.there (.there (.there .here))) ?_
        refine .front (.there (.there (.there .here))) ?_
        refine .front (.there (.there (.there .here))) ?_
        refine .front (.there (.there (.there .here))) ?_
        have hLe : Lies b (T.setN i ⟨xi'.set (posK xi' k) ⟨p.key, v⟩, ki'⟩) ([⟨b, 60, [.slice (some ⟨nb, 0, none⟩) pn.length nc, .slice fa T.free.length fc, .int .i64 (T.root : Int), .int .i64 (T.count : Int)]⟩] ++ ([⟨nb, 68, pn3.flatMap encN ++ npad⟩] ++ (fit ++ own pn3))) := ⟨pn3, some ⟨nb, 0, none⟩, nc, _, fa, fc, fit, ⟨Row.of npad rfl hnp3 hcp3 hmx, hrf, hok, hnd3, by rw [hln3]; first | done | rfl⟩⟩
        exact .done _ [_] (.t1 rfl rfl) .rfl ⟨_, rfl, rfl, hLe, rfl⟩ (fun w ho => by simpa [List.append_assoc] using (subl (.cons_cons _ (.cons_cons _ (.cons_cons _ (.cons_cons _ (.cons_cons _ .slnil))))) w ho))
      · skip
        subst hTe
        subst hre
        obtain ⟨pn, na, nc, nit, fa, fc, fit, hP⟩ := hT
        obtain ⟨hrn, hrf, hok, hnd, rfl⟩ := hP
        have hln : pn.length = T.nodes.length := by rw [← hnd, List.length_map]
        have hmx := hrn.max
        have hcp := hrn.cap
        have hfm := hrf.max
        have hfcp := hrf.cap
        have hib := (List.getElem?_eq_some_iff.1 hni).1
        have hL0 : Lies b T (⟨b, 60, [.slice na pn.length nc, .slice fa T.free.length fc, .int .i64 (T.root : Int), .int .i64 (T.count : Int)]⟩ :: (nit ++ (fit ++ own pn))) := ⟨pn, na, nc, nit, fa, fc, fit, ⟨hrn, hrf, hok, hnd, rfl⟩⟩
        obtain ⟨nb, npad, rfl, rfl, hnp⟩ := hrn.blk (by omega)
        obtain ⟨ni, hi, ei⟩ := nd_get hnd hni
        have hoi := get_ok hok hi
        obtain ⟨⟨xi', api, cpi, ipi⟩, ⟨ki', aki, cki, iki⟩⟩ := ni
        obtain ⟨rfl, rfl⟩ : xi' = xi ∧ ki' = ki := by simpa [PN.nd] using ei
        have hpi : Row 47 encP 2 api cpi xi' ipi := hoi.p
        have hki : Row 3 encK 1 aki cki ki' iki := hoi.k
        refine .parts ?_
        refine .block ?_
        refine .seq ?_
        refine .region ?_
        refine .v (.mv rfl) rfl ?_
        refine .v (.nilc rfl) rfl ?_
        refine .v (.fa0 fl60_0 rfl) rfl ?_
        refine .v (.ldb ty57 rfl .here rfl) rfl ?_
        refine .v (.mv rfl) rfl ?_
        refine .v (.ixo sl57 rfl rfl (i) ⟨rfl, by have h_ := (List.getElem?_eq_some_iff.1 hi).1; omega⟩) rfl ?_
        refine .v (.ldm [.slice (api) (xi').length (cpi), .slice (aki) (ki').length (cki)] ty68 rfl (.there .here) rfl (fun j_ v_ hj_ => encN_ok.get pn i _ hi npad j_ v_ hj_)) rfl ?_
        refine .v (.mv rfl) rfl ?_
        refine .v (.call rfl rfl (Try.call36 _) (fun G hle hG => find_fn xi' _ _ G (hpi.sl encP_ok (fun b_ hb_ => hG b_ (Inn.mem (.there (.there (.there (.part (sub_p hi))))) b_ hb_))) hsi k (by omega) _ _ _)) rfl ?_
        refine .v (.mv rfl) rfl ?_
        refine .v (.ext rfl rfl) rfl ?_
        refine .v (.ext rfl rfl) rfl ?_
        refine .v (.asn rfl) rfl ?_
        refine .v (.asn rfl) rfl ?_
        refine .nil ?_
        refine .then ?_
        refine .seq ?_
        refine .seq ?_
        refine .region ?_
        refine .v (.mv rfl) rfl ?_
        refine .nil ?_
        refine .then ?_
        refine .kn (t := 59) rfl (congrArg Value.bool hk) ?_
        refine .condF rfl ?_
        refine .skip ?_
        refine .then ?_
        refine .seq ?_
        refine .seq ?_
        refine .region ?_
        refine .v (.mv rfl) rfl ?_
        refine .v (.nilc rfl) rfl ?_
        refine .v (.fa0 fl60_0 rfl) rfl ?_
        refine .v (.ldb ty57 rfl .here rfl) rfl ?_
        refine .v (.mv rfl) rfl ?_
        refine .v (.ixo sl57 rfl rfl (i) ⟨rfl, by have h_ := (List.getElem?_eq_some_iff.1 hi).1; omega⟩) rfl ?_
        refine .v (.ldm [.slice (api) (xi').length (cpi), .slice (aki) (ki').length (cki)] ty68 rfl (.there .here) rfl (fun j_ v_ hj_ => encN_ok.get pn i _ hi npad j_ v_ hj_)) rfl ?_
        refine .vT (.call rfl rfl (Try.call37 _) (fun G hle hG => leaf_fn _ _ _ _ ki'.length _ G)) rfl (by rw [hk0]; rfl) ?_
        refine .nil ?_
        refine .then ?_
        refine .condT rfl ?_
        refine .seq ?_
        refine .draw [[], [0], [1], [2], [], [], [5], [6], [7], [], [8, 9], [10], [11], [], [], [], [14, 15], [16], [12, 13, 17], [3, 4, 0, 1, 2, 3, 4, 5, 6, 7, 8, 9, 10, 11, 12, 13, 14, 15, 16, 17, 18], [19, 0, 1, 2, 3, 4, 5, 6, 7, 8, 9, 10, 11, 12, 13, 14, 15, 16, 17, 18], [20, 18, 18, 0, 1, 2, 3, 4, 5, 6, 7, 8, 9, 10, 11, 12, 13, 14, 15, 16, 17, 18]] [] (by kernel_rfl) (by kernel_rfl) rfl (e1 := [(0, _), (1, _), (2, _), (7, _), (8, _)]) (.cons rfl rfl (.cons rfl rfl (.cons rfl rfl (.cons rfl rfl (.cons rfl rfl .nil))))) (fun x hx => by cases hx) rfl ?_
        refine .v (i := 0) [] rfl rfl rfl .nil (.n (.mv rfl)) ?_
        refine .v (i := 1) [(80, _)] rfl rfl rfl (.cons (.head _) rfl rfl .nil) (.n (.nilc rfl)) ?_
        refine .v (i := 2) [(81, _)] rfl rfl rfl (.cons (.head _) rfl rfl .nil) (.n (.fa0 fl60_0 rfl)) ?_
        refine .v (i := 3) [(82, _)] rfl rfl rfl (.cons (.head _) rfl rfl .nil) (.n (.ldb ty57 rfl .here rfl)) ?_
        refine .v (i := 4) [] rfl rfl rfl .nil (.n (.mv rfl)) ?_
        refine .v (i := 5) [] rfl rfl rfl .nil (.n (.mv rfl)) ?_
        refine .v (i := 6) [(85, _)] rfl rfl rfl (.cons (.head _) rfl rfl .nil) (.n (.nilc rfl)) ?_
        refine .v (i := 7) [(86, _)] rfl rfl rfl (.cons (.head _) rfl rfl .nil) (.n (.fa0 fl60_0 rfl)) ?_
        refine .v (i := 8) [(87, _)] rfl rfl rfl (.cons (.head _) rfl rfl .nil) (.n (.ldb ty57 rfl .here rfl)) ?_
        refine .v (i := 9) [] rfl rfl rfl .nil (.n (.mv rfl)) ?_
        refine .v (i := 10) [(88, _), (89, _)] rfl rfl rfl (.cons (.tail _ (.head _)) rfl rfl (.cons (.head _) rfl rfl .nil)) (.n (.ixo sl57 rfl rfl (i) ⟨rfl, by have h_ := (List.getElem?_eq_some_iff.1 hi).1; omega⟩)) ?_
        refine .v (i := 11) [(90, _)] rfl rfl rfl (.cons (.head _) rfl rfl .nil) (.n (.fa0 fl68_0 rfl)) ?_
        refine .v (i := 12) [(91, _)] rfl rfl rfl (.cons (.head _) rfl rfl .nil) (.n (.ldb (v := .slice (api) (xi').length (cpi)) ty22 rfl (.there .here) (encN_ok.get pn i _ hi npad 0 _ rfl))) ?_
        refine .v (i := 13) [] rfl rfl rfl .nil (.n (.mv rfl)) ?_
        refine .v (i := 14) [] rfl rfl rfl .nil (.n (.mv rfl)) ?_
        refine .v (i := 15) [] rfl rfl rfl .nil (.n (.mv rfl)) ?_
        refine .v (i := 16) [(94, _), (95, _)] rfl rfl rfl (.cons (.tail _ (.head _)) rfl rfl (.cons (.head _) rfl rfl .nil)) (.n (.build rfl (fun w => bd47_0_1 w _ _))) ?_
        refine .e (i := 17) [(96, _)] [17, 16, 14, 15] rfl rfl rfl (.cons (.head _) rfl rfl .nil) rfl rfl rfl .n (.lit1 sl22 ty47 rfl rfl rfl rfl rfl) ?_
        rintro _ _ Gs5 _ ⟨b4, rfl, rfl, hGs_⟩
        subst Gs5
        refine ⟨.skip rfl (.skip rfl (.skip rfl (.again [] rfl .nil (.n (.mv rfl)) (.again [(91, _)] rfl (.cons (.tail _ (.tail _ (.tail _ (.tail _ (.tail _ (.head _)))))) rfl rfl .nil) (.n (.ldb (v := .slice (api) (xi').length (cpi)) ty22 rfl (.there (.there .here)) (encN_ok.get pn i _ hi npad 0 _ rfl))) (.again [(90, _)] rfl (.cons (.tail _ (.tail _ (.tail _ (.tail _ (.tail _ (.tail _ (.head _))))))) rfl rfl .nil) (.n (.fa0 fl68_0 rfl)) (.again [(88, _), (89, _)] rfl (.cons (.tail _ (.tail _ (.tail _ (.tail _ (.tail _ (.tail _ (.tail _ (.tail _ (.head _))))))))) rfl rfl (.cons (.tail _ (.tail _ (.tail _ (.tail _ (.tail _ (.tail _ (.tail _ (.head _)))))))) rfl rfl .nil)) (.n (.ixo sl57 rfl rfl (i) ⟨rfl, by have h_ := (List.getElem?_eq_some_iff.1 hi).1; omega⟩)) (.again [] rfl .nil (.n (.mv rfl)) (.again [(87, _)] rfl (.cons (.tail _ (.tail _ (.tail _ (.tail _ (.tail _ (.tail _ (.tail _ (.tail _ (.tail _ (.head _)))))))))) rfl rfl .nil) (.n (.ldb ty57 rfl (.there .here) rfl)) (.again [(86, _)] rfl (.cons (.tail _ (.tail _ (.tail _ (.tail _ (.tail _ (.tail _ (.tail _ (.tail _ (.tail _ (.tail _ (.head _))))))))))) rfl rfl .nil) (.n (.fa0 fl60_0 rfl)) (.again [(85, _)] rfl (.cons (.tail _ (.tail _ (.tail _ (.tail _ (.tail _ (.tail _ (.tail _ (.tail _ (.tail _ (.tail _ (.tail _ (.head _)))))))))))) rfl rfl .nil) (.n (.nilc rfl)) (.again [] rfl .nil (.n (.mv rfl)) (.again [] rfl .nil (.n (.mv rfl)) (.again [(82, _)] rfl (.cons (.tail _ (.tail _ (.tail _ (.tail _ (.tail _ (.tail _ (.tail _ (.tail _ (.tail _ (.tail _ (.tail _ (.tail _ (.tail _ (.tail _ (.head _))))))))))))))) rfl rfl .nil) (.n (.ldb ty57 rfl (.there .here) rfl)) (.again [(81, _)] rfl (.cons (.tail _ (.tail _ (.tail _ (.tail _ (.tail _ (.tail _ (.tail _ (.tail _ (.tail _ (.tail _ (.tail _ (.tail _ (.tail _ (.tail _ (.tail _ (.head _)))))))))))))))) rfl rfl .nil) (.n (.fa0 fl60_0 rfl)) (.again [(80, _)] rfl (.cons (.tail _ (.tail _ (.tail _ (.tail _ (.tail _ (.tail _ (.tail _ (.tail _ (.tail _ (.tail _ (.tail _ (.tail _ (.tail _ (.tail _ (.tail _ (.tail _ (.head _))))))))))))))))) rfl rfl .nil) (.n (.nilc rfl)) (.again [] rfl .nil (.n (.mv rfl)) .nil)))))))))))))))), rfl, ?_⟩
        refine .e (i := 18) [(92, _), (93, _), (97, _)] [18, 12, 13, 17, 11, 16, 10, 14, 15, 8, 9, 7, 6, 5] rfl rfl rfl (.cons (.tail _ (.tail _ (.tail _ (.tail _ (.tail _ (.head _)))))) rfl rfl (.cons (.tail _ (.tail _ (.tail _ (.tail _ (.head _))))) rfl rfl (.cons (.head _) rfl rfl .nil))) rfl rfl rfl .n (.lend rfl rfl (Try.call38 _) _ (fun _ => (.there (.there (.there (.there (upd_p hi _)))))) (fun G hle hG => (insert_P xi' ((⟨k, v⟩ : Pr)) (posK xi' k) _ _ _ b4 G hpi (hG ⟨b4, 47, _⟩ (Inn.ob .here)) (posK_le _ _) (by omega)).mono (fun v M H _ ⟨it, h1, _, h2⟩ => ⟨it, h1, h2⟩))) ?_
        rintro _ _ Gs7 _ ⟨it6, rfl, hGs_, ⟨a6, c6, rfl, hr6⟩⟩
        subst Gs7
        refine ⟨.skip rfl (.skip rfl (.skip rfl (.skip rfl (.skip rfl (.skip rfl (.skip rfl (.skip rfl (.skip rfl (.skip rfl (.skip rfl (.skip rfl (.skip rfl (.again [] rfl .nil (.n (.mv rfl)) (.again [(82, _)] rfl (.cons (.tail _ (.tail _ (.tail _ (.tail _ (.tail _ (.tail _ (.tail _ (.tail _ (.tail _ (.tail _ (.tail _ (.tail _ (.tail _ (.tail _ (.tail _ (.head _)))))))))))))))) rfl rfl .nil) (.n (.ldb ty57 rfl (.there .here) rfl)) (.again [(81, _)] rfl (.cons (.tail _ (.tail _ (.tail _ (.tail _ (.tail _ (.tail _ (.tail _ (.tail _ (.tail _ (.tail _ (.tail _ (.tail _ (.tail _ (.tail _ (.tail _ (.tail _ (.head _))))))))))))))))) rfl rfl .nil) (.n (.fa0 fl60_0 rfl)) (.again [(80, _)] rfl (.cons (.tail _ (.tail _ (.tail _ (.tail _ (.tail _ (.tail _ (.tail _ (.tail _ (.tail _ (.tail _ (.tail _ (.tail _ (.tail _ (.tail _ (.tail _ (.tail _ (.tail _ (.head _)))))))))))))))))) rfl rfl .nil) (.n (.nilc rfl)) (.again [] rfl .nil (.n (.mv rfl)) .nil))))))))))))))))), rfl, ?_⟩
        refine .tail0 19 [[19, 3, 4, 0, 1, 2, 5, 6, 7, 8, 9, 10, 11, 12, 13, 14, 15, 16, 17, 18], [20, 19, 0, 1, 2, 3, 4, 5, 6, 7, 8, 9, 10, 11, 12, 13, 14, 15, 16, 17, 18], [21, 20, 18, 0, 1, 2, 3, 4, 5, 6, 7, 8, 9, 10, 11, 12, 13, 14, 15, 16, 17, 19]] rfl rfl rfl rfl (e' := [(98, _), (97, _), (96, _), (95, _), (94, _), (93, _), (92, _), (91, _), (90, _), (89, _), (88, _), (87, _), (86, _), (85, _), (84, _), (83, _), (82, _), (81, _), (80, _), (0, _), (1, _), (2, _), (7, _), (8, _)]) rfl ?_
        refine .v (.ixo sl57 rfl rfl (i) ⟨rfl, by have h_ := (List.getElem?_eq_some_iff.1 hi).1; omega⟩) rfl ?_
        refine .v (.fa0 fl68_0 rfl) rfl ?_
        refine .st (.stp (vs := [.slice a6 (xi'.take (posK xi' k) ++ ⟨k, v⟩ :: xi'.drop (posK xi' k)).length c6]) (cs' := (pn.set i ⟨⟨xi'.take (posK xi' k) ++ ⟨k, v⟩ :: xi'.drop (posK xi' k), a6, c6, it6⟩, ⟨ki', aki, cki, iki⟩⟩).flatMap encN ++ npad) ty22 rfl rfl rfl rfl (by simp [Value.oneCell']) (by have h_ := (List.getElem?_eq_some_iff.1 hi).1; rw [List.length_append, encN_ok.fl]; omega) (encN_ok.put1 (j := 0) hi (by decide) rfl) (.there (.there .here))) ?_
        rw [own_same_p pn i _ ⟨xi'.take (posK xi' k) ++ ⟨k, v⟩ :: xi'.drop (posK xi' k), a6, c6, it6⟩]
        obtain ⟨pn8, hpn8⟩ : ∃ x, x = pn.set i ⟨⟨xi'.take (posK xi' k) ++ ⟨k, v⟩ :: xi'.drop (posK xi' k), a6, c6, it6⟩, ⟨ki', aki, cki, iki⟩⟩ := ⟨_, rfl⟩
        rw [← hpn8]
        have hx8 := set_get' hpn8 hi
        replace hok : ∀ n ∈ pn8, n.Ok := by rw [hpn8]; exact set_ok hok ⟨hr6, hki⟩
        have hnd8 : pn8.map PN.nd = (T.nodes).set i ⟨xi'.take (posK xi' k) ++ ⟨k, v⟩ :: xi'.drop (posK xi' k), ki'⟩ := by rw [hpn8, List.map_set, hnd]; rfl
        have hln8 : pn8.length = pn.length := by rw [hpn8, List.length_set]
        have hcp8 : pn8.length ≤ nc := by omega
        have hnp8 : npad.length = (nc - pn8.length) * 2 := by rw [hln8]; exact hnp
        have hpi_8 := hr6
        have hki_8 := hki
        refine .nil ?_
        refine .then ?_
        refine .seq ?_
        refine .region ?_
        refine .v (.mv rfl) rfl ?_
        refine .v (.nilc rfl) rfl ?_
        refine .v (.fab fl60_3 rfl) rfl ?_
        refine .v (.ldb ty3 rfl (.there .here) rfl) rfl ?_
        refine .v (.add rfl rfl (by omega)) rfl ?_
        refine .kn (t := 105) (v := .int .i64 ((T.count + 1 : Nat) : Int)) rfl (congrArg (Value.int .i64) (by omega)) ?_
        refine .v (.nilc rfl) rfl ?_
        refine .v (.fab fl60_3 rfl) rfl ?_
        refine .st (.stb ty3 rfl rfl rfl st3 (.there .here)) ?_
        refine .nil ?_
        refine .then ?_
        refine .seq ?_
        refine .region ?_
        refine .v (.asn rfl) rfl ?_
        refine .nil ?_
        refine .then ?_
        refine .ret ?_
        refine .then_ret ?_
        refine .blk_ret ?_
        refine .then_ret ?_
        refine .blk_ret ?_
        refine .front (.there (.there (.there (.there .here)))) ?_
        refine .front (.there (.there (.there (.there .here)))) ?_
        refine .front (.there (.there (.there (.there .here)))) ?_
        refine .front (.there (.there (.there (.there .here)))) ?_
        have hLe : Lies b (⟨T.nodes.set i ⟨xi'.take (posK xi' k) ++ ⟨k, v⟩ :: xi'.drop (posK xi' k), ki'⟩, T.free, T.root, T.count + 1⟩) ([⟨b, 60, [.slice (some ⟨nb, 0, none⟩) pn.length nc, .slice fa T.free.length fc, .int .i64 (T.root : Int), .int .i64 (((T.count + 1 : Nat)) : Int)]⟩] ++ ([⟨nb, 68, pn8.flatMap encN ++ npad⟩] ++ (fit ++ own pn8))) := ⟨pn8, some ⟨nb, 0, none⟩, nc, _, fa, fc, fit, ⟨Row.of npad rfl hnp8 hcp8 hmx, hrf, hok, hnd8, by rw [hln8]; first | done | rfl⟩⟩
        exact .done _ [_] (.t1 rfl rfl) .rfl ⟨_, rfl, rfl, hLe, rfl⟩ (fun w ho => by simpa [List.append_assoc] using (subl (.cons_cons _ (.cons_cons _ (.cons_cons _ (.cons_cons _ (.cons _ (.cons_cons _ .slnil)))))) w ho))
      · skip
        obtain ⟨pn, na, nc, nit, fa, fc, fit, hP⟩ := hT
        obtain ⟨hrn, hrf, hok, hnd, rfl⟩ := hP
        have hln : pn.length = T.nodes.length := by rw [← hnd, List.length_map]
        have hmx := hrn.max
        have hcp := hrn.cap
        have hfm := hrf.max
        have hfcp := hrf.cap
        have hib := (List.getElem?_eq_some_iff.1 hni).1
        have hL0 : Lies b T (⟨b, 60, [.slice na pn.length nc, .slice fa T.free.length fc, .int .i64 (T.root : Int), .int .i64 (T.count : Int)]⟩ :: (nit ++ (fit ++ own pn))) := ⟨pn, na, nc, nit, fa, fc, fit, ⟨hrn, hrf, hok, hnd, rfl⟩⟩
        obtain ⟨nb, npad, rfl, rfl, hnp⟩ := hrn.blk (by omega)
        have hkl0 := (List.getElem?_eq_some_iff.1 hqc).1
        obtain ⟨ni, hi, ei⟩ := nd_get hnd hni
        have hoi := get_ok hok hi
        obtain ⟨⟨xi', api, cpi, ipi⟩, ⟨ki', aki, cki, iki⟩⟩ := ni
        obtain ⟨rfl, rfl⟩ : xi' = xi ∧ ki' = ki := by simpa [PN.nd] using ei
        have hpi : Row 47 encP 2 api cpi xi' ipi := hoi.p
        have hki : Row 3 encK 1 aki cki ki' iki := hoi.k
        obtain ⟨bki, dki, rfl, rfl, hdki⟩ := hki.blk (by omega)
        obtain ⟨nc, hc, ec⟩ := nd_get hnd hnc
        have hoc := get_ok hok hc
        obtain ⟨⟨xc', apc, cpc, ipc⟩, ⟨kc', akc, ckc, ikc⟩⟩ := nc
        obtain ⟨rfl, rfl⟩ : xc' = xc ∧ kc' = kc := by simpa [PN.nd] using ec
        have hpc : Row 47 encP 2 apc cpc xc' ipc := hoc.p
        have hkc : Row 3 encK 1 akc ckc kc' ikc := hoc.k
        refine .parts ?_
        refine .block ?_
        refine .seq ?_
        refine .region ?_
        refine .v (.mv rfl) rfl ?_
        refine .v (.nilc rfl) rfl ?_
        refine .v (.fa0 fl60_0 rfl) rfl ?_
        refine .v (.ldb ty57 rfl .here rfl) rfl ?_
        refine .v (.mv rfl) rfl ?_
        refine .v (.ixo sl57 rfl rfl (i) ⟨rfl, by have h_ := (List.getElem?_eq_some_iff.1 hi).1; omega⟩) rfl ?_
        refine .v (.ldm [.slice (api) (xi').length (cpi), .slice (some ⟨bki, 0, none⟩) (ki').length (cki)] ty68 rfl (.there .here) rfl (fun j_ v_ hj_ => encN_ok.get pn i _ hi npad j_ v_ hj_)) rfl ?_
        refine .v (.mv rfl) rfl ?_
        refine .v (.call rfl rfl (Try.call36 _) (fun G hle hG => find_fn xi' _ _ G (hpi.sl encP_ok (fun b_ hb_ => hG b_ (Inn.mem (.there (.there (.there (.part (sub_p hi))))) b_ hb_))) hsi k (by omega) _ _ _)) rfl ?_
        refine .v (.mv rfl) rfl ?_
        refine .v (.ext rfl rfl) rfl ?_
        refine .v (.ext rfl rfl) rfl ?_
        refine .v (.asn rfl) rfl ?_
        refine .v (.asn rfl) rfl ?_
        refine .nil ?_
        refine .then ?_
        refine .seq ?_
        refine .seq ?_
        refine .region ?_
        refine .v (.mv rfl) rfl ?_
        refine .nil ?_
        refine .then ?_
        refine .kn (t := 59) rfl (congrArg Value.bool hk) ?_
        refine .condF rfl ?_
        refine .skip ?_
        refine .then ?_
        refine .seq ?_
        refine .seq ?_
        refine .region ?_
        refine .v (.mv rfl) rfl ?_
        refine .v (.nilc rfl) rfl ?_
        refine .v (.fa0 fl60_0 rfl) rfl ?_
        refine .v (.ldb ty57 rfl .here rfl) rfl ?_
        refine .v (.mv rfl) rfl ?_
        refine .v (.ixo sl57 rfl rfl (i) ⟨rfl, by have h_ := (List.getElem?_eq_some_iff.1 hi).1; omega⟩) rfl ?_
        refine .v (.ldm [.slice (api) (xi').length (cpi), .slice (some ⟨bki, 0, none⟩) (ki').length (cki)] ty68 rfl (.there .here) rfl (fun j_ v_ hj_ => encN_ok.get pn i _ hi npad j_ v_ hj_)) rfl ?_
        refine .vF (.call rfl rfl (Try.call37 _) (fun G hle hG => leaf_fn _ _ _ _ ki'.length _ G)) rfl (by omega) ?_
        refine .nil ?_
        refine .then ?_
        refine .condF rfl ?_
        refine .skip ?_
        refine .then ?_
        refine .seq ?_
        refine .seq ?_
        refine .region ?_
        refine .v (.mv rfl) rfl ?_
        refine .v (.nilc rfl) rfl ?_
        refine .v (.fa0 fl60_0 rfl) rfl ?_
        refine .v (.ldb ty57 rfl .here rfl) rfl ?_
        refine .v (.mv rfl) rfl ?_
        refine .v (.ixo sl57 rfl rfl (i) ⟨rfl, by have h_ := (List.getElem?_eq_some_iff.1 hi).1; omega⟩) rfl ?_
        refine .v (.fae fl68_1 rfl) rfl ?_
        refine .v (.ldb (v := .slice (some ⟨bki, 0, none⟩) (ki').length (cki)) ty58 rfl (.there .here) (encN_ok.get pn i _ hi npad 1 _ rfl)) rfl ?_
        refine .v (.mv rfl) rfl ?_
        refine .v (.ixo sl58 rfl rfl (posK xi' k) ⟨rfl, by have h_ := (List.getElem?_eq_some_iff.1 hqc).1; omega⟩) rfl ?_
        refine .v (.ldb ty3 rfl (.there (.there (.there (.part (sub_k hi))))) (encK_ok.get ki' (posK xi' k) _ hqc dki 0 _ rfl)) rfl ?_
        refine .v (.asn rfl) rfl ?_
        refine .nil ?_
        refine .then ?_
        refine .seq ?_
        refine .region ?_
        refine .v (.mv rfl) rfl ?_
        refine .v (.nilc rfl) rfl ?_
        refine .v (.fa0 fl60_0 rfl) rfl ?_
        refine .v (.ldb ty57 rfl .here rfl) rfl ?_
        refine .v (.mv rfl) rfl ?_
        refine .v (.ixo sl57 rfl rfl (c) ⟨rfl, by have h_ := (List.getElem?_eq_some_iff.1 hc).1; omega⟩) rfl ?_
        refine .v (.fa0 fl68_0 rfl) rfl ?_
        refine .v (.ldb (v := .slice (apc) (xc').length (cpc)) ty22 rfl (.there .here) (encN_ok.get pn c _ hc npad 0 _ rfl)) rfl ?_
        refine .v (.lenl Try.underlying22 rfl) rfl ?_
        refine .vT (.eq rfl rfl) rfl (by omega) ?_
        refine .nil ?_
        refine .then ?_
        refine .condT rfl ?_
        refine .seq ?_
        refine .region ?_
        refine .v (.mv rfl) rfl ?_
        refine .v (.mv rfl) rfl ?_
        refine .v (.mv rfl) rfl ?_
        refine .front (.there (.there (.there .here))) ?_
        refine .front (.there (.there (.there .here))) ?_
        refine .join ?_
        refine .front (.there (.there .here)) ?_
        refine .join ?_
        refine .front (.there .here) ?_
        refine .join ?_
        refine .lend (.lend rfl rfl (Try.call35 _) _ (fun _ => .here) (fun G hle hG => (split_fn b T _ G hL0 i (posK xi' k) c xi' ki' xc' kc' up hni hqc hnc hup hci (posK_le _ _) (by omega) (by omega) (by omega) (by omega) (by omega) hfree hb0).mono (fun v M H _ ⟨it, h1, _, h2⟩ => ⟨it, h1, h2⟩))) rfl ?_
        rintro _ itq hL2
        refine .nil ?_
        refine .then ?_
        refine .exit ?_
        refine .then_exit ?_
        refine .blk_exit ?_
        exact .again ⟨m, _, i, itq⟩ ⟨hL2, hR⟩ (Nat.lt_succ_self m) (.cons rfl rfl (.cons rfl rfl (.cons rfl rfl (.cons rfl rfl .nil)))) (subl (.cons_cons _ (.cons_cons _ .slnil)))
      · skip
        obtain ⟨pn, na, nc, nit, fa, fc, fit, hP⟩ := hT
        obtain ⟨hrn, hrf, hok, hnd, rfl⟩ := hP
        have hln : pn.length = T.nodes.length := by rw [← hnd, List.length_map]
        have hmx := hrn.max
        have hcp := hrn.cap
        have hfm := hrf.max
        have hfcp := hrf.cap
        have hib := (List.getElem?_eq_some_iff.1 hni).1
        have hL0 : Lies b T (⟨b, 60, [.slice na pn.length nc, .slice fa T.free.length fc, .int .i64 (T.root : Int), .int .i64 (T.count : Int)]⟩ :: (nit ++ (fit ++ own pn))) := ⟨pn, na, nc, nit, fa, fc, fit, ⟨hrn, hrf, hok, hnd, rfl⟩⟩
        obtain ⟨nb, npad, rfl, rfl, hnp⟩ := hrn.blk (by omega)
        have hkl0 := (List.getElem?_eq_some_iff.1 hqc).1
        obtain ⟨ni, hi, ei⟩ := nd_get hnd hni
        have hoi := get_ok hok hi
        obtain ⟨⟨xi', api, cpi, ipi⟩, ⟨ki', aki, cki, iki⟩⟩ := ni
        obtain ⟨rfl, rfl⟩ : xi' = xi ∧ ki' = ki := by simpa [PN.nd] using ei
        have hpi : Row 47 encP 2 api cpi xi' ipi := hoi.p
        have hki : Row 3 encK 1 aki cki ki' iki := hoi.k
        obtain ⟨bki, dki, rfl, rfl, hdki⟩ := hki.blk (by omega)
        obtain ⟨nc, hc, ec⟩ := nd_get hnd hnc
        have hoc := get_ok hok hc
        obtain ⟨⟨xc', apc, cpc, ipc⟩, ⟨kc', akc, ckc, ikc⟩⟩ := nc
        obtain ⟨rfl, rfl⟩ : xc' = xc ∧ kc' = kc := by simpa [PN.nd] using ec
        have hpc : Row 47 encP 2 apc cpc xc' ipc := hoc.p
        have hkc : Row 3 encK 1 akc ckc kc' ikc := hoc.k
        refine .parts ?_
        refine .block ?_
        refine .seq ?_
        refine .region ?_
        refine .v (.mv rfl) rfl ?_
        refine .v (.nilc rfl) rfl ?_
        refine .v (.fa0 fl60_0 rfl) rfl ?_
        refine .v (.ldb ty57 rfl .here rfl) rfl ?_
        refine .v (.mv rfl) rfl ?_
        refine .v (.ixo sl57 rfl rfl (i) ⟨rfl, by have h_ := (List.getElem?_eq_some_iff.1 hi).1; omega⟩) rfl ?_
        refine .v (.ldm [.slice (api) (xi').length (cpi), .slice (some ⟨bki, 0, none⟩) (ki').length (cki)] ty68 rfl (.there .here) rfl (fun j_ v_ hj_ => encN_ok.get pn i _ hi npad j_ v_ hj_)) rfl ?_
        refine .v (.mv rfl) rfl ?_
        refine .v (.call rfl rfl (Try.call36 _) (fun G hle hG => find_fn xi' _ _ G (hpi.sl encP_ok (fun b_ hb_ => hG b_ (Inn.mem (.there (.there (.there (.part (sub_p hi))))) b_ hb_))) hsi k (by omega) _ _ _)) rfl ?_
        refine .v (.mv rfl) rfl ?_
        refine .v (.ext rfl rfl) rfl ?_
        refine .v (.ext rfl rfl) rfl ?_
        refine .v (.asn rfl) rfl ?_
        refine .v (.asn rfl) rfl ?_
        refine .nil ?_
        refine .then ?_
        refine .seq ?_
        refine .seq ?_
        refine .region ?_
        refine .v (.mv rfl) rfl ?_
        refine .nil ?_
        refine .then ?_
        refine .kn (t := 59) rfl (congrArg Value.bool hk) ?_
        refine .condF rfl ?_
        refine .skip ?_
        refine .then ?_
        refine .seq ?_
        refine .seq ?_
        refine .region ?_
        refine .v (.mv rfl) rfl ?_
        refine .v (.nilc rfl) rfl ?_
        refine .v (.fa0 fl60_0 rfl) rfl ?_
        refine .v (.ldb ty57 rfl .here rfl) rfl ?_
        refine .v (.mv rfl) rfl ?_
        refine .v (.ixo sl57 rfl rfl (i) ⟨rfl, by have h_ := (List.getElem?_eq_some_iff.1 hi).1; omega⟩) rfl ?_
        refine .v (.ldm [.slice (api) (xi').length (cpi), .slice (some ⟨bki, 0, none⟩) (ki').length (cki)] ty68 rfl (.there .here) rfl (fun j_ v_ hj_ => encN_ok.get pn i _ hi npad j_ v_ hj_)) rfl ?_
        refine .vF (.call rfl rfl (Try.call37 _) (fun G hle hG => leaf_fn _ _ _ _ ki'.length _ G)) rfl (by omega) ?_
        refine .nil ?_
        refine .then ?_
        refine .condF rfl ?_
        refine .skip ?_
        refine .then ?_
        refine .seq ?_
        refine .seq ?_
        refine .region ?_
        refine .v (.mv rfl) rfl ?_
        refine .v (.nilc rfl) rfl ?_
        refine .v (.fa0 fl60_0 rfl) rfl ?_
        refine .v (.ldb ty57 rfl .here rfl) rfl ?_
        refine .v (.mv rfl) rfl ?_
        refine .v (.ixo sl57 rfl rfl (i) ⟨rfl, by have h_ := (List.getElem?_eq_some_iff.1 hi).1; omega⟩) rfl ?_
        refine .v (.fae fl68_1 rfl) rfl ?_
        refine .v (.ldb (v := .slice (some ⟨bki, 0, none⟩) (ki').length (cki)) ty58 rfl (.there .here) (encN_ok.get pn i _ hi npad 1 _ rfl)) rfl ?_
        refine .v (.mv rfl) rfl ?_
        refine .v (.ixo sl58 rfl rfl (posK xi' k) ⟨rfl, by have h_ := (List.getElem?_eq_some_iff.1 hqc).1; omega⟩) rfl ?_
        refine .v (.ldb ty3 rfl (.there (.there (.there (.part (sub_k hi))))) (encK_ok.get ki' (posK xi' k) _ hqc dki 0 _ rfl)) rfl ?_
        refine .v (.asn rfl) rfl ?_
        refine .nil ?_
        refine .then ?_
        refine .seq ?_
        refine .region ?_
        refine .v (.mv rfl) rfl ?_
        refine .v (.nilc rfl) rfl ?_
        refine .v (.fa0 fl60_0 rfl) rfl ?_
        refine .v (.ldb ty57 rfl .here rfl) rfl ?_
        refine .v (.mv rfl) rfl ?_
        refine .v (.ixo sl57 rfl rfl (c) ⟨rfl, by have h_ := (List.getElem?_eq_some_iff.1 hc).1; omega⟩) rfl ?_
        refine .v (.fa0 fl68_0 rfl) rfl ?_
        refine .v (.ldb (v := .slice (apc) (xc').length (cpc)) ty22 rfl (.there .here) (encN_ok.get pn c _ hc npad 0 _ rfl)) rfl ?_
        refine .v (.lenl Try.underlying22 rfl) rfl ?_
        refine .vF (.eq rfl rfl) rfl (by omega) ?_
        refine .nil ?_
        refine .then ?_
        refine .condF rfl ?_
        refine .skip ?_
        refine .then ?_
        refine .region ?_
        refine .v (.mv rfl) rfl ?_
        refine .v (.nilc rfl) rfl ?_
        refine .v (.fa0 fl60_0 rfl) rfl ?_
        refine .v (.ldb ty57 rfl .here rfl) rfl ?_
        refine .v (.mv rfl) rfl ?_
        refine .v (.ixo sl57 rfl rfl (i) ⟨rfl, by have h_ := (List.getElem?_eq_some_iff.1 hi).1; omega⟩) rfl ?_
        refine .v (.fae fl68_1 rfl) rfl ?_
        refine .v (.ldb (v := .slice (some ⟨bki, 0, none⟩) (ki').length (cki)) ty58 rfl (.there .here) (encN_ok.get pn i _ hi npad 1 _ rfl)) rfl ?_
        refine .v (.mv rfl) rfl ?_
        refine .v (.ixo sl58 rfl rfl (posK xi' k) ⟨rfl, by have h_ := (List.getElem?_eq_some_iff.1 hqc).1; omega⟩) rfl ?_
        refine .v (.ldb ty3 rfl (.there (.there (.there (.part (sub_k hi))))) (encK_ok.get ki' (posK xi' k) _ hqc dki 0 _ rfl)) rfl ?_
        refine .v (.asn rfl) rfl ?_
        refine .nil ?_
        refine .blk ?_
        refine .front (.there (.there (.there .here))) ?_
        refine .front (.there (.there (.there .here))) ?_
        refine .join ?_
        refine .front (.there (.there .here)) ?_
        refine .join ?_
        refine .front (.there .here) ?_
        refine .join ?_
        exact .again ⟨m, T, c, ([⟨b, 60, [.slice (some ⟨nb, 0, none⟩) pn.length nc, .slice fa T.free.length fc, .int .i64 (T.root : Int), .int .i64 (T.count : Int)]⟩] ++ ([⟨nb, 68, pn.flatMap encN ++ npad⟩] ++ (fit ++ own pn)))⟩ ⟨hL0, hR⟩ (Nat.lt_succ_self m) (.cons rfl rfl (.cons rfl rfl (.cons rfl rfl (.cons rfl rfl .nil)))) (subl (.cons_cons _ (.cons_cons _ .slnil)))
theorem put_fn (b : Nat) (T : TS) (it : Itm) (F : Mem) (hT : Lies b T it) (k v : ByteArray) (T' : TS) (r : Bool) (hp : PutT k v T T' r) : Fn Try.prog 21 #[.pointer (some ⟨b, 0, none⟩), .string k, .string v] [it] F (fun u M G => ∃ it', M = [it'] ∧ G = F ∧ Lies b T' it' ∧ u = .bool r) := by
  obtain ⟨xr, kr, hnr, hb0, hfr0, h⟩ := hp
  rcases h with ⟨h5, m, hR⟩ | ⟨h5, T1, n, up, m, h1, h2, h3, h4, h6, h7, h8, h9, hR⟩
  · exact put_a b T it F hT k v T' r xr kr hnr hb0 hfr0 h5 m hR
  · exact put_b b T it F hT k v T' r xr kr hnr hb0 hfr0 h5 T1 n up m h1 h2 h3 h4 h6 h7 h8 h9 hR
end Go.Proofs.Ytbmpdccoffkjgaa.Ow
