/- Walks. -/
import Derived.Test.YtbmpdccoffkjgaaBq
import Derived.Test.YtbmpdccoffkjgaaTyu
namespace Go.Proofs.Ytbmpdccoffkjgaa.Ow
open Go
set_option linter.unusedVariables false
theorem pop_l (b : Nat) (T : TS) (it : Itm) (F : Mem) (hT : Lies b T it) (m0 i : Nat) (T' : TS) (p : Pr) (hR0 : PopR true m0 T i T' p) : Fn Try.prog 51 #[.pointer (some ⟨b, 0, none⟩), .int .i64 (i : Int), .bool true] [it] F (fun v M G => ∃ it', M = [it'] ∧ G = F ∧ Lies b T' it' ∧ v = .agg #[.string p.key, .string p.val]) := by
  refine Fn.start1 Try.func51 rfl Try.ntmps51 rfl (env := [(0, _), (1, _), (2, _)]) rfl ?_
  intro R
  refine .seq ?_
  refine .region ?_
  refine .nb (.alloc ty47 rfl) rfl (fun b1 => ?_)
  refine .nil ?_
  refine .then ?_
  refine .seq ?_
  refine .block ?_
  refine .front (.there .here) ?_
  refine WC.loopx (fx := [(0, _), (2, _), (6, _)]) (pre := [_]) (fm := [_, _]) rfl (.cons rfl rfl (.cons rfl rfl (.cons rfl rfl .nil))) (ι := LpZ) (fun z => Lies b z.T z.it ∧ PopR true z.m z.T z.i T' p) (fun z => z.m) (fun z => [(1, .int .i64 (z.i : Int))]) (fun z => [z.it]) (fun _ => F) ⟨m0, T, i, it⟩ ⟨hT, hR0⟩ ?he ?hm ?round
  case he => exact .cons rfl rfl (.cons rfl rfl (.cons rfl rfl (.cons rfl rfl .nil)))
  case hm => exact (fun _ h => h)
  case round =>
    intro z hk
    dsimp only [List.cons_append, List.nil_append]
    obtain ⟨m, T, i, it⟩ := z
    obtain ⟨hT, hR⟩ := hk
    dsimp only at hT hR ⊢
    cases m with
    | zero => exact hR.elim
    | succ m =>
      obtain ⟨xi, ki, hni, hxl, hkl, hR⟩ := hR
      simp only [popAt, if_true] at hR
      rcases hR with ⟨hk0, hp, hTe⟩ | ⟨T1, c, hkl0, hF, hR⟩
      · skip
        subst hTe
        obtain ⟨pn, na, nc, nit, fa, fc, fit, hP⟩ := hT
        obtain ⟨hrn, hrf, hok, hnd, rfl⟩ := hP
        have hln : pn.length = T.nodes.length := by rw [← hnd, List.length_map]
        have hmx := hrn.max
        have hcp := hrn.cap
        have hfm := hrf.max
        have hfcp := hrf.cap
        have hib := (List.getElem?_eq_some_iff.1 hni).1
        have hL0 : Lies b T (⟨b, 60, [.slice na pn.length nc, .slice fa T.free.length fc, .int .i64 (T.root : Int), .int .i64 (T.count : Int)]⟩ :: (nit ++ (fit ++ own pn))) := ⟨pn, na, nc, nit, fa, fc, fit, ⟨hrn, hrf, hok, hnd, rfl⟩⟩
        obtain ⟨nb, npad, rfl, rfl, hnp⟩ := hrn.blk (by omega)
        have hpl0 := (List.getElem?_eq_some_iff.1 hp).1
        obtain ⟨ni, hi, ei⟩ := nd_get hnd hni
        have hoi := get_ok hok hi
        obtain ⟨⟨xi', api, cpi, ipi⟩, ⟨ki', aki, cki, iki⟩⟩ := ni
        obtain ⟨rfl, rfl⟩ : xi' = xi ∧ ki' = ki := by simpa [PN.nd] using ei
        have hpi : Row 47 encP 2 api cpi xi' ipi := hoi.p
        have hki : Row 3 encK 1 aki cki ki' iki := hoi.k
        obtain ⟨bpi, dpi, rfl, rfl, hdpi⟩ := hpi.blk (by omega)
        have hlf : ki'.length = 0 := by rw [hk0]; rfl
        refine .parts ?_
        refine .seq ?_
        refine .seq ?_
        refine .region ?_
        refine .v (.mv rfl) rfl ?_
        refine .v (.nilc rfl) rfl ?_
        refine .v (.fa0 fl60_0 rfl) rfl ?_
        refine .v (.ldb ty57 rfl .here rfl) rfl ?_
        refine .v (.mv rfl) rfl ?_
        refine .v (.ixo sl57 rfl rfl (i) ⟨rfl, by have h_ := (List.getElem?_eq_some_iff.1 hi).1; omega⟩) rfl ?_
        refine .v (.ldm [.slice (some ⟨bpi, 0, none⟩) (xi').length (cpi), .slice (aki) (ki').length (cki)] ty68 rfl (.there .here) rfl (fun j_ v_ hj_ => encN_ok.get pn i _ hi npad j_ v_ hj_)) rfl ?_
        refine .vT (.call rfl rfl (Try.call37 _) (fun G hle hG => leaf_fn _ _ _ _ ki'.length _ G)) rfl (by omega) ?_
        refine .v (.not rfl) rfl ?_
        refine .nil ?_
        refine .then ?_
        refine .condF rfl ?_
        refine .exit ?_
        refine .then_exit ?_
        refine .then_exit ?_
        refine .blk_exit ?_
        refine .then ?_
        refine .seq ?_
        refine .region ?_
        refine .v (.asn rfl) rfl ?_
        refine .nil ?_
        refine .then ?_
        refine .seq ?_
        refine .seq ?_
        refine .region ?_
        refine .v (.mv rfl) rfl ?_
        refine .nil ?_
        refine .then ?_
        refine .condT rfl ?_
        refine .region ?_
        refine .v (.mv rfl) rfl ?_
        refine .v (.nilc rfl) rfl ?_
        refine .v (.fa0 fl60_0 rfl) rfl ?_
        refine .v (.ldb ty57 rfl .here rfl) rfl ?_
        refine .v (.mv rfl) rfl ?_
        refine .v (.ixo sl57 rfl rfl (i) ⟨rfl, by have h_ := (List.getElem?_eq_some_iff.1 hi).1; omega⟩) rfl ?_
        refine .v (.fa0 fl68_0 rfl) rfl ?_
        refine .v (.ldb (v := .slice (some ⟨bpi, 0, none⟩) (xi').length (cpi)) ty22 rfl (.there .here) (encN_ok.get pn i _ hi npad 0 _ rfl)) rfl ?_
        refine .v (.lenl Try.underlying22 rfl) rfl ?_
        refine .v (.sub rfl rfl (by omega)) rfl ?_
        refine .kn (t := 44) (v := .int .i64 (((xi'.length - 1) : Nat) : Int)) rfl (congrArg (Value.int .i64) (by omega)) ?_
        refine .v (.asn rfl) rfl ?_
        refine .nil ?_
        refine .then ?_
        refine .seq ?_
        refine .region ?_
        refine .v (.mv rfl) rfl ?_
        refine .v (.nilc rfl) rfl ?_
        refine .v (.fa0 fl60_0 rfl) rfl ?_
        refine .v (.ldb ty57 rfl .here rfl) rfl ?_
        refine .v (.mv rfl) rfl ?_
        refine .v (.ixo sl57 rfl rfl (i) ⟨rfl, by have h_ := (List.getElem?_eq_some_iff.1 hi).1; omega⟩) rfl ?_
        refine .v (.fa0 fl68_0 rfl) rfl ?_
        refine .v (.ldb (v := .slice (some ⟨bpi, 0, none⟩) (xi').length (cpi)) ty22 rfl (.there .here) (encN_ok.get pn i _ hi npad 0 _ rfl)) rfl ?_
        refine .v (.mv rfl) rfl ?_
        refine .v (.ixo sl22 rfl rfl ((xi'.length - 1)) ⟨rfl, by have h_ := (List.getElem?_eq_some_iff.1 hp).1; omega⟩) rfl ?_
        refine .v (.ldm _ ty47 rfl (.there (.there (.there (.part (sub_p hi))))) rfl (fun j_ v_ hj_ => encP_ok.get xi' ((xi'.length - 1)) _ hp dpi j_ v_ hj_)) rfl ?_
        refine .nb (.alloc ty47 rfl) rfl (fun b2 => ?_)
        refine .st (.stw ty47 rfl rfl rfl rfl rfl .here) ?_
        refine .nil ?_
        refine .then ?_
        refine .seq ?_
        refine .draw [[], [0], [1], [2], [], [], [5], [6], [7], [], [8, 9], [10], [11], [], [], [14], [12, 13, 15], [3, 4, 0, 1, 2, 3, 4, 5, 6, 7, 8, 9, 10, 11, 12, 13, 14, 15, 16], [17, 0, 1, 2, 3, 4, 5, 6, 7, 8, 9, 10, 11, 12, 13, 14, 15, 16], [18, 16, 16, 0, 1, 2, 3, 4, 5, 6, 7, 8, 9, 10, 11, 12, 13, 14, 15, 16]] [] (by kernel_rfl) (by kernel_rfl) rfl (e1 := [(0, _), (1, _), (6, _), (8, _), (9, _)]) (.cons rfl rfl (.cons rfl rfl (.cons rfl rfl (.cons rfl rfl (.cons rfl rfl .nil))))) (fun x hx => by cases hx) rfl ?_
        refine .v (i := 0) [] rfl rfl rfl .nil (.n (.mv rfl)) ?_
        refine .v (i := 1) [(56, _)] rfl rfl rfl (.cons (.head _) rfl rfl .nil) (.n (.nilc rfl)) ?_
        refine .v (i := 2) [(57, _)] rfl rfl rfl (.cons (.head _) rfl rfl .nil) (.n (.fa0 fl60_0 rfl)) ?_
        refine .v (i := 3) [(58, _)] rfl rfl rfl (.cons (.head _) rfl rfl .nil) (.n (.ldb ty57 rfl (.there .here) rfl)) ?_
        refine .v (i := 4) [] rfl rfl rfl .nil (.n (.mv rfl)) ?_
        refine .v (i := 5) [] rfl rfl rfl .nil (.n (.mv rfl)) ?_
        refine .v (i := 6) [(61, _)] rfl rfl rfl (.cons (.head _) rfl rfl .nil) (.n (.nilc rfl)) ?_
        refine .v (i := 7) [(62, _)] rfl rfl rfl (.cons (.head _) rfl rfl .nil) (.n (.fa0 fl60_0 rfl)) ?_
        refine .v (i := 8) [(63, _)] rfl rfl rfl (.cons (.head _) rfl rfl .nil) (.n (.ldb ty57 rfl (.there .here) rfl)) ?_
        refine .v (i := 9) [] rfl rfl rfl .nil (.n (.mv rfl)) ?_
        refine .v (i := 10) [(64, _), (65, _)] rfl rfl rfl (.cons (.tail _ (.head _)) rfl rfl (.cons (.head _) rfl rfl .nil)) (.n (.ixo sl57 rfl rfl (i) ⟨rfl, by have h_ := (List.getElem?_eq_some_iff.1 hi).1; omega⟩)) ?_
        refine .v (i := 11) [(66, _)] rfl rfl rfl (.cons (.head _) rfl rfl .nil) (.n (.fa0 fl68_0 rfl)) ?_
        refine .v (i := 12) [(67, _)] rfl rfl rfl (.cons (.head _) rfl rfl .nil) (.n (.ldb (v := .slice (some ⟨bpi, 0, none⟩) (xi').length (cpi)) ty22 rfl (.there (.there .here)) (encN_ok.get pn i _ hi npad 0 _ rfl))) ?_
        refine .v (i := 13) [] rfl rfl rfl .nil (.n (.mv rfl)) ?_
        refine .v (i := 14) [] rfl rfl rfl .nil (.n (.mv rfl)) ?_
        refine .v (i := 15) [(70, _)] rfl rfl rfl (.cons (.head _) rfl rfl .nil) (.n (.add rfl rfl (by omega))) ?_
        refine .e (i := 16) [(68, _), (69, _), (71, _)] [16, 12, 13, 15, 11, 14, 10, 8, 9, 7, 6, 5] rfl rfl rfl (.cons (.tail _ (.tail _ (.tail _ (.head _)))) rfl rfl (.cons (.tail _ (.tail _ (.head _))) rfl rfl (.cons (.head _) rfl rfl .nil))) rfl rfl rfl .n (.lend rfl rfl (Try.call49 _) _ (fun _ => (.there (.there (.there (.there (upd_p hi _)))))) (fun G hle hG => (delete_P xi' ((xi'.length - 1)) _ _ _ G hpi (by omega)).mono (fun v M H _ ⟨it, h1, _, h2⟩ => ⟨it, h1, h2⟩))) ?_
        rintro _ _ Gs4 _ ⟨it3, rfl, hGs_, ⟨a3, c3, rfl, hr3⟩⟩
        subst Gs4
        refine ⟨.skip rfl (.skip rfl (.skip rfl (.skip rfl (.skip rfl (.skip rfl (.skip rfl (.skip rfl (.skip rfl (.skip rfl (.skip rfl (.again [] rfl .nil (.n (.mv rfl)) (.again [(58, _)] rfl (.cons (.tail _ (.tail _ (.tail _ (.tail _ (.tail _ (.tail _ (.tail _ (.tail _ (.tail _ (.tail _ (.tail _ (.tail _ (.tail _ (.head _)))))))))))))) rfl rfl .nil) (.n (.ldb ty57 rfl (.there .here) rfl)) (.again [(57, _)] rfl (.cons (.tail _ (.tail _ (.tail _ (.tail _ (.tail _ (.tail _ (.tail _ (.tail _ (.tail _ (.tail _ (.tail _ (.tail _ (.tail _ (.tail _ (.head _))))))))))))))) rfl rfl .nil) (.n (.fa0 fl60_0 rfl)) (.again [(56, _)] rfl (.cons (.tail _ (.tail _ (.tail _ (.tail _ (.tail _ (.tail _ (.tail _ (.tail _ (.tail _ (.tail _ (.tail _ (.tail _ (.tail _ (.tail _ (.tail _ (.head _)))))))))))))))) rfl rfl .nil) (.n (.nilc rfl)) (.again [] rfl .nil (.n (.mv rfl)) .nil))))))))))))))), rfl, ?_⟩
        refine .tail0 17 [[17, 3, 4, 0, 1, 2, 5, 6, 7, 8, 9, 10, 11, 12, 13, 14, 15, 16], [18, 17, 0, 1, 2, 3, 4, 5, 6, 7, 8, 9, 10, 11, 12, 13, 14, 15, 16], [19, 18, 16, 0, 1, 2, 3, 4, 5, 6, 7, 8, 9, 10, 11, 12, 13, 14, 15, 17]] rfl rfl rfl rfl (e' := [(72, _), (71, _), (70, _), (69, _), (68, _), (67, _), (66, _), (65, _), (64, _), (63, _), (62, _), (61, _), (60, _), (59, _), (58, _), (57, _), (56, _), (0, _), (1, _), (6, _), (8, _), (9, _)]) rfl ?_
        refine .v (.ixo sl57 rfl rfl (i) ⟨rfl, by have h_ := (List.getElem?_eq_some_iff.1 hi).1; omega⟩) rfl ?_
        refine .v (.fa0 fl68_0 rfl) rfl ?_
        refine .st (.stp (vs := [.slice a3 (xi'.take (xi'.length - 1) ++ xi'.drop ((xi'.length - 1) + 1)).length c3]) (cs' := (pn.set i ⟨⟨xi'.take (xi'.length - 1) ++ xi'.drop ((xi'.length - 1) + 1), a3, c3, it3⟩, ⟨ki', aki, cki, iki⟩⟩).flatMap encN ++ npad) ty22 rfl rfl rfl rfl (by simp [Value.oneCell']) (by have h_ := (List.getElem?_eq_some_iff.1 hi).1; rw [List.length_append, encN_ok.fl]; omega) (encN_ok.put1 (j := 0) hi (by decide) rfl) (.there (.there .here))) ?_
        rw [own_same_p pn i _ ⟨xi'.take (xi'.length - 1) ++ xi'.drop ((xi'.length - 1) + 1), a3, c3, it3⟩]
        obtain ⟨pn5, hpn5⟩ : ∃ x, x = pn.set i ⟨⟨xi'.take (xi'.length - 1) ++ xi'.drop ((xi'.length - 1) + 1), a3, c3, it3⟩, ⟨ki', aki, cki, iki⟩⟩ := ⟨_, rfl⟩
        rw [← hpn5]
        have hx5 := set_get' hpn5 hi
        replace hok : ∀ n ∈ pn5, n.Ok := by rw [hpn5]; exact set_ok hok ⟨hr3, hki⟩
        have hnd5 : pn5.map PN.nd = (T.nodes).set i ⟨xi'.take (xi'.length - 1) ++ xi'.drop ((xi'.length - 1) + 1), ki'⟩ := by rw [hpn5, List.map_set, hnd]; rfl
        have hln5 : pn5.length = pn.length := by rw [hpn5, List.length_set]
        have hcp5 : pn5.length ≤ nc := by omega
        have hnp5 : npad.length = (nc - pn5.length) * 2 := by rw [hln5]; exact hnp
        have hpi_5 := hr3
        have hki_5 := hki
        refine .nil ?_
        refine .then ?_
        refine .seq ?_
        refine .region ?_
        refine .v (.ldw ty47 rfl .here rfl) rfl ?_
        refine .st (.stw ty47 rfl rfl rfl rfl rfl (.there (.there (.there (.there (.there .here)))))) ?_
        refine .nil ?_
        refine .then ?_
        refine .ret ?_
        refine .front (.there (.there (.there (.there .here)))) ?_
        refine .front (.there (.there (.there (.there .here)))) ?_
        refine .front (.there (.there (.there (.there .here)))) ?_
        refine .front (.there (.there (.there (.there .here)))) ?_
        have hLe : Lies b (T.setN i ⟨xi'.take (xi'.length - 1) ++ xi'.drop ((xi'.length - 1) + 1), ki'⟩) ([⟨b, 60, [.slice (some ⟨nb, 0, none⟩) pn.length nc, .slice fa T.free.length fc, .int .i64 (T.root : Int), .int .i64 (T.count : Int)]⟩] ++ ([⟨nb, 68, pn5.flatMap encN ++ npad⟩] ++ (fit ++ own pn5))) := ⟨pn5, some ⟨nb, 0, none⟩, nc, _, fa, fc, fit, ⟨Row.of npad rfl hnp5 hcp5 hmx, hrf, hok, hnd5, by rw [hln5]; first | done | rfl⟩⟩
        exact .done _ [_] (.c1 rfl ty47 rfl (.there (.there (.there (.there (.there .here))))) rfl) .rfl ⟨_, rfl, rfl, hLe, rfl⟩ (fun w ho => by simpa [List.append_assoc] using (subl (.cons_cons _ (.cons_cons _ (.cons_cons _ (.cons_cons _ (.cons _ (.cons _ (.cons_cons _ .slnil))))))) w ho))
      · skip
        obtain ⟨pn, na, nc, nit, fa, fc, fit, hP⟩ := hT
        obtain ⟨hrn, hrf, hok, hnd, rfl⟩ := hP
        have hln : pn.length = T.nodes.length := by rw [← hnd, List.length_map]
        have hmx := hrn.max
        have hcp := hrn.cap
        have hfm := hrf.max
        have hfcp := hrf.cap
        have hib := (List.getElem?_eq_some_iff.1 hni).1
        have hL0 : Lies b T (⟨b, 60, [.slice na pn.length nc, .slice fa T.free.length fc, .int .i64 (T.root : Int), .int .i64 (T.count : Int)]⟩ :: (nit ++ (fit ++ own pn))) := ⟨pn, na, nc, nit, fa, fc, fit, ⟨hrn, hrf, hok, hnd, rfl⟩⟩
        obtain ⟨nb, npad, rfl, rfl, hnp⟩ := hrn.blk (by omega)
        obtain ⟨ni, hi, ei⟩ := nd_get hnd hni
        have hoi := get_ok hok hi
        obtain ⟨⟨xi', api, cpi, ipi⟩, ⟨ki', aki, cki, iki⟩⟩ := ni
        obtain ⟨rfl, rfl⟩ : xi' = xi ∧ ki' = ki := by simpa [PN.nd] using ei
        have hpi : Row 47 encP 2 api cpi xi' ipi := hoi.p
        have hki : Row 3 encK 1 aki cki ki' iki := hoi.k
        refine .parts ?_
        refine .seq ?_
        refine .seq ?_
        refine .region ?_
        refine .v (.mv rfl) rfl ?_
        refine .v (.nilc rfl) rfl ?_
        refine .v (.fa0 fl60_0 rfl) rfl ?_
        refine .v (.ldb ty57 rfl .here rfl) rfl ?_
        refine .v (.mv rfl) rfl ?_
        refine .v (.ixo sl57 rfl rfl (i) ⟨rfl, by have h_ := (List.getElem?_eq_some_iff.1 hi).1; omega⟩) rfl ?_
        refine .v (.ldm [.slice (api) (xi').length (cpi), .slice (aki) (ki').length (cki)] ty68 rfl (.there .here) rfl (fun j_ v_ hj_ => encN_ok.get pn i _ hi npad j_ v_ hj_)) rfl ?_
        refine .vF (.call rfl rfl (Try.call37 _) (fun G hle hG => leaf_fn _ _ _ _ ki'.length _ G)) rfl (by omega) ?_
        refine .v (.not rfl) rfl ?_
        refine .nil ?_
        refine .then ?_
        refine .condT rfl ?_
        refine .skip ?_
        refine .then ?_
        refine .block ?_
        refine .seq ?_
        refine .region ?_
        refine .v (.asn rfl) rfl ?_
        refine .nil ?_
        refine .then ?_
        refine .seq ?_
        refine .seq ?_
        refine .region ?_
        refine .v (.mv rfl) rfl ?_
        refine .nil ?_
        refine .then ?_
        refine .condT rfl ?_
        refine .region ?_
        refine .v (.mv rfl) rfl ?_
        refine .v (.nilc rfl) rfl ?_
        refine .v (.fa0 fl60_0 rfl) rfl ?_
        refine .v (.ldb ty57 rfl .here rfl) rfl ?_
        refine .v (.mv rfl) rfl ?_
        refine .v (.ixo sl57 rfl rfl (i) ⟨rfl, by have h_ := (List.getElem?_eq_some_iff.1 hi).1; omega⟩) rfl ?_
        refine .v (.fae fl68_1 rfl) rfl ?_
        refine .v (.ldb (v := .slice (aki) (ki').length (cki)) ty58 rfl (.there .here) (encN_ok.get pn i _ hi npad 1 _ rfl)) rfl ?_
        refine .v (.lenl Try.underlying58 rfl) rfl ?_
        refine .v (.sub rfl rfl (by omega)) rfl ?_
        refine .kn (t := 29) (v := .int .i64 (((ki'.length - 1) : Nat) : Int)) rfl (congrArg (Value.int .i64) (by omega)) ?_
        refine .v (.asn rfl) rfl ?_
        refine .nil ?_
        refine .then ?_
        refine .region ?_
        refine .v (.mv rfl) rfl ?_
        refine .v (.mv rfl) rfl ?_
        refine .v (.mv rfl) rfl ?_
        refine .front (.there (.there (.there .here))) ?_
        refine .front (.there (.there (.there .here))) ?_
        refine .join ?_
        refine .front (.there (.there .here)) ?_
        refine .join ?_
        refine .front (.there .here) ?_
        refine .join ?_
        refine .lend (.lend rfl rfl (Try.call50 _) _ (fun _ => .here) (fun G hle hG => (feed_fn b T _ G hL0 i (ki'.length - 1) T1 c hF).mono (fun v M H _ ⟨it, h1, _, h2, h3⟩ => ⟨it, h1, (⟨h2, h3⟩ : _ ∧ _)⟩))) rfl ?_
        rintro _ itq ⟨hL2, rfl⟩
        refine .v (.asn rfl) rfl ?_
        refine .nil ?_
        refine .blk ?_
        exact .again ⟨m, T1, c, itq⟩ ⟨hL2, hR⟩ (Nat.lt_succ_self m) (.cons rfl rfl (.cons rfl rfl (.cons rfl rfl (.cons rfl rfl .nil)))) (subl (.cons_cons _ (.cons_cons _ (.cons_cons _ .slnil))))
theorem pop_f (b : Nat) (T : TS) (it : Itm) (F : Mem) (hT : Lies b T it) (m0 i : Nat) (T' : TS) (p : Pr) (hR0 : PopR false m0 T i T' p) : Fn Try.prog 51 #[.pointer (some ⟨b, 0, none⟩), .int .i64 (i : Int), .bool false] [it] F (fun v M G => ∃ it', M = [it'] ∧ G = F ∧ Lies b T' it' ∧ v = .agg #[.string p.key, .string p.val]) := by
  refine Fn.start1 Try.func51 rfl Try.ntmps51 rfl (env := [(0, _), (1, _), (2, _)]) rfl ?_
  intro R
  refine .seq ?_
  refine .region ?_
  refine .nb (.alloc ty47 rfl) rfl (fun b1 => ?_)
  refine .nil ?_
  refine .then ?_
  refine .seq ?_
  refine .block ?_
  refine .front (.there .here) ?_
  refine WC.loopx (fx := [(0, _), (2, _), (6, _)]) (pre := [_]) (fm := [_, _]) rfl (.cons rfl rfl (.cons rfl rfl (.cons rfl rfl .nil))) (ι := LpZ) (fun z => Lies b z.T z.it ∧ PopR false z.m z.T z.i T' p) (fun z => z.m) (fun z => [(1, .int .i64 (z.i : Int))]) (fun z => [z.it]) (fun _ => F) ⟨m0, T, i, it⟩ ⟨hT, hR0⟩ ?he ?hm ?round
  case he => exact .cons rfl rfl (.cons rfl rfl (.cons rfl rfl (.cons rfl rfl .nil)))
  case hm => exact (fun _ h => h)
  case round =>
    intro z hk
    dsimp only [List.cons_append, List.nil_append]
    obtain ⟨m, T, i, it⟩ := z
    obtain ⟨hT, hR⟩ := hk
    dsimp only at hT hR ⊢
    cases m with
    | zero => exact hR.elim
    | succ m =>
      obtain ⟨xi, ki, hni, hxl, hkl, hR⟩ := hR
      simp only [popAt, Bool.false_eq_true, if_false] at hR
      rcases hR with ⟨hk0, hp, hTe⟩ | ⟨T1, c, hkl0, hF, hR⟩
      · skip
        subst hTe
        obtain ⟨pn, na, nc, nit, fa, fc, fit, hP⟩ := hT
        obtain ⟨hrn, hrf, hok, hnd, rfl⟩ := hP
        have hln : pn.length = T.nodes.length := by rw [← hnd, List.length_map]
        have hmx := hrn.max
        have hcp := hrn.cap
        have hfm := hrf.max
        have hfcp := hrf.cap
        have hib := (List.getElem?_eq_some_iff.1 hni).1
        have hL0 : Lies b T (⟨b, 60, [.slice na pn.length nc, .slice fa T.free.length fc, .int .i64 (T.root : Int), .int .i64 (T.count : Int)]⟩ :: (nit ++ (fit ++ own pn))) := ⟨pn, na, nc, nit, fa, fc, fit, ⟨hrn, hrf, hok, hnd, rfl⟩⟩
        obtain ⟨nb, npad, rfl, rfl, hnp⟩ := hrn.blk (by omega)
        have hpl0 := (List.getElem?_eq_some_iff.1 hp).1
        obtain ⟨ni, hi, ei⟩ := nd_get hnd hni
        have hoi := get_ok hok hi
        obtain ⟨⟨xi', api, cpi, ipi⟩, ⟨ki', aki, cki, iki⟩⟩ := ni
        obtain ⟨rfl, rfl⟩ : xi' = xi ∧ ki' = ki := by simpa [PN.nd] using ei
        have hpi : Row 47 encP 2 api cpi xi' ipi := hoi.p
        have hki : Row 3 encK 1 aki cki ki' iki := hoi.k
        obtain ⟨bpi, dpi, rfl, rfl, hdpi⟩ := hpi.blk (by omega)
        have hlf : ki'.length = 0 := by rw [hk0]; rfl
        refine .parts ?_
        refine .seq ?_
        refine .seq ?_
        refine .region ?_
        refine .v (.mv rfl) rfl ?_
        refine .v (.nilc rfl) rfl ?_
        refine .v (.fa0 fl60_0 rfl) rfl ?_
        refine .v (.ldb ty57 rfl .here rfl) rfl ?_
        refine .v (.mv rfl) rfl ?_
        refine .v (.ixo sl57 rfl rfl (i) ⟨rfl, by have h_ := (List.getElem?_eq_some_iff.1 hi).1; omega⟩) rfl ?_
        refine .v (.ldm [.slice (some ⟨bpi, 0, none⟩) (xi').length (cpi), .slice (aki) (ki').length (cki)] ty68 rfl (.there .here) rfl (fun j_ v_ hj_ => encN_ok.get pn i _ hi npad j_ v_ hj_)) rfl ?_
        refine .vT (.call rfl rfl (Try.call37 _) (fun G hle hG => leaf_fn _ _ _ _ ki'.length _ G)) rfl (by omega) ?_
        refine .v (.not rfl) rfl ?_
        refine .nil ?_
        refine .then ?_
        refine .condF rfl ?_
        refine .exit ?_
        refine .then_exit ?_
        refine .then_exit ?_
        refine .blk_exit ?_
        refine .then ?_
        refine .seq ?_
        refine .region ?_
        refine .v (.asn rfl) rfl ?_
        refine .nil ?_
        refine .then ?_
        refine .seq ?_
        refine .seq ?_
        refine .region ?_
        refine .v (.mv rfl) rfl ?_
        refine .nil ?_
        refine .then ?_
        refine .condF rfl ?_
        refine .skip ?_
        refine .then ?_
        refine .seq ?_
        refine .region ?_
        refine .v (.mv rfl) rfl ?_
        refine .v (.nilc rfl) rfl ?_
        refine .v (.fa0 fl60_0 rfl) rfl ?_
        refine .v (.ldb ty57 rfl .here rfl) rfl ?_
        refine .v (.mv rfl) rfl ?_
        refine .v (.ixo sl57 rfl rfl (i) ⟨rfl, by have h_ := (List.getElem?_eq_some_iff.1 hi).1; omega⟩) rfl ?_
        refine .v (.fa0 fl68_0 rfl) rfl ?_
        refine .v (.ldb (v := .slice (some ⟨bpi, 0, none⟩) (xi').length (cpi)) ty22 rfl (.there .here) (encN_ok.get pn i _ hi npad 0 _ rfl)) rfl ?_
        refine .v (.mv rfl) rfl ?_
        refine .v (.ixo sl22 rfl rfl (0) ⟨by omega, by have h_ := (List.getElem?_eq_some_iff.1 hp).1; omega⟩) rfl ?_
        refine .v (.ldm _ ty47 rfl (.there (.there (.there (.part (sub_p hi))))) rfl (fun j_ v_ hj_ => encP_ok.get xi' (0) _ hp dpi j_ v_ hj_)) rfl ?_
        refine .nb (.alloc ty47 rfl) rfl (fun b2 => ?_)
        refine .st (.stw ty47 rfl rfl rfl rfl rfl .here) ?_
        refine .nil ?_
        refine .then ?_
        refine .seq ?_
        refine .draw [[], [0], [1], [2], [], [], [5], [6], [7], [], [8, 9], [10], [11], [], [], [14], [12, 13, 15], [3, 4, 0, 1, 2, 3, 4, 5, 6, 7, 8, 9, 10, 11, 12, 13, 14, 15, 16], [17, 0, 1, 2, 3, 4, 5, 6, 7, 8, 9, 10, 11, 12, 13, 14, 15, 16], [18, 16, 16, 0, 1, 2, 3, 4, 5, 6, 7, 8, 9, 10, 11, 12, 13, 14, 15, 16]] [] (by kernel_rfl) (by kernel_rfl) rfl (e1 := [(0, _), (1, _), (6, _), (8, _), (9, _)]) (.cons rfl rfl (.cons rfl rfl (.cons rfl rfl (.cons rfl rfl (.cons rfl rfl .nil))))) (fun x hx => by cases hx) rfl ?_
        refine .v (i := 0) [] rfl rfl rfl .nil (.n (.mv rfl)) ?_
        refine .v (i := 1) [(56, _)] rfl rfl rfl (.cons (.head _) rfl rfl .nil) (.n (.nilc rfl)) ?_
        refine .v (i := 2) [(57, _)] rfl rfl rfl (.cons (.head _) rfl rfl .nil) (.n (.fa0 fl60_0 rfl)) ?_
        refine .v (i := 3) [(58, _)] rfl rfl rfl (.cons (.head _) rfl rfl .nil) (.n (.ldb ty57 rfl (.there .here) rfl)) ?_
        refine .v (i := 4) [] rfl rfl rfl .nil (.n (.mv rfl)) ?_
        refine .v (i := 5) [] rfl rfl rfl .nil (.n (.mv rfl)) ?_
        refine .v (i := 6) [(61, _)] rfl rfl rfl (.cons (.head _) rfl rfl .nil) (.n (.nilc rfl)) ?_
        refine .v (i := 7) [(62, _)] rfl rfl rfl (.cons (.head _) rfl rfl .nil) (.n (.fa0 fl60_0 rfl)) ?_
        refine .v (i := 8) [(63, _)] rfl rfl rfl (.cons (.head _) rfl rfl .nil) (.n (.ldb ty57 rfl (.there .here) rfl)) ?_
        refine .v (i := 9) [] rfl rfl rfl .nil (.n (.mv rfl)) ?_
        refine .v (i := 10) [(64, _), (65, _)] rfl rfl rfl (.cons (.tail _ (.head _)) rfl rfl (.cons (.head _) rfl rfl .nil)) (.n (.ixo sl57 rfl rfl (i) ⟨rfl, by have h_ := (List.getElem?_eq_some_iff.1 hi).1; omega⟩)) ?_
        refine .v (i := 11) [(66, _)] rfl rfl rfl (.cons (.head _) rfl rfl .nil) (.n (.fa0 fl68_0 rfl)) ?_
        refine .v (i := 12) [(67, _)] rfl rfl rfl (.cons (.head _) rfl rfl .nil) (.n (.ldb (v := .slice (some ⟨bpi, 0, none⟩) (xi').length (cpi)) ty22 rfl (.there (.there .here)) (encN_ok.get pn i _ hi npad 0 _ rfl))) ?_
        refine .v (i := 13) [] rfl rfl rfl .nil (.n (.mv rfl)) ?_
        refine .v (i := 14) [] rfl rfl rfl .nil (.n (.mv rfl)) ?_
        refine .v (i := 15) [(70, _)] rfl rfl rfl (.cons (.head _) rfl rfl .nil) (.n (.add rfl rfl (by omega))) ?_
        refine .e (i := 16) [(68, _), (69, _), (71, _)] [16, 12, 13, 15, 11, 14, 10, 8, 9, 7, 6, 5] rfl rfl rfl (.cons (.tail _ (.tail _ (.tail _ (.head _)))) rfl rfl (.cons (.tail _ (.tail _ (.head _))) rfl rfl (.cons (.head _) rfl rfl .nil))) rfl rfl rfl .n (.lend rfl rfl (Try.call49 _) _ (fun _ => (.there (.there (.there (.there (upd_p hi _)))))) (fun G hle hG => (delete_P xi' (0) _ _ _ G hpi (by omega)).mono (fun v M H _ ⟨it, h1, _, h2⟩ => ⟨it, h1, h2⟩))) ?_
        rintro _ _ Gs4 _ ⟨it3, rfl, hGs_, ⟨a3, c3, rfl, hr3⟩⟩
        subst Gs4
        refine ⟨.skip rfl (.skip rfl (.skip rfl (.skip rfl (.skip rfl (.skip rfl (.skip rfl (.skip rfl (.skip rfl (.skip rfl (.skip rfl (.again [] rfl .nil (.n (.mv rfl)) (.again [(58, _)] rfl (.cons (.tail _ (.tail _ (.tail _ (.tail _ (.tail _ (.tail _ (.tail _ (.tail _ (.tail _ (.tail _ (.tail _ (.tail _ (.tail _ (.head _)))))))))))))) rfl rfl .nil) (.n (.ldb ty57 rfl (.there .here) rfl)) (.again [(57, _)] rfl (.cons (.tail _ (.tail _ (.tail _ (.tail _ (.tail _ (.tail _ (.tail _ (.tail _ (.tail _ (.tail _ (.tail _ (.tail _ (.tail _ (.tail _ (.head _))))))))))))))) rfl rfl .nil) (.n (.fa0 fl60_0 rfl)) (.again [(56, _)] rfl (.cons (.tail _ (.tail _ (.tail _ (.tail _ (.tail _ (.tail _ (.tail _ (.tail _ (.tail _ (.tail _ (.tail _ (.tail _ (.tail _ (.tail _ (.tail _ (.head _)))))))))))))))) rfl rfl .nil) (.n (.nilc rfl)) (.again [] rfl .nil (.n (.mv rfl)) .nil))))))))))))))), rfl, ?_⟩
        refine .tail0 17 [[17, 3, 4, 0, 1, 2, 5, 6, 7, 8, 9, 10, 11, 12, 13, 14, 15, 16], [18, 17, 0, 1, 2, 3, 4, 5, 6, 7, 8, 9, 10, 11, 12, 13, 14, 15, 16], [19, 18, 16, 0, 1, 2, 3, 4, 5, 6, 7, 8, 9, 10, 11, 12, 13, 14, 15, 17]] rfl rfl rfl rfl (e' := [(72, _), (71, _), (70, _), (69, _), (68, _), (67, _), (66, _), (65, _), (64, _), (63, _), (62, _), (61, _), (60, _), (59, _), (58, _), (57, _), (56, _), (0, _), (1, _), (6, _), (8, _), (9, _)]) rfl ?_
        refine .v (.ixo sl57 rfl rfl (i) ⟨rfl, by have h_ := (List.getElem?_eq_some_iff.1 hi).1; omega⟩) rfl ?_
        refine .v (.fa0 fl68_0 rfl) rfl ?_
        refine .st (.stp (vs := [.slice a3 (xi'.take 0 ++ xi'.drop (0 + 1)).length c3]) (cs' := (pn.set i ⟨⟨xi'.take 0 ++ xi'.drop (0 + 1), a3, c3, it3⟩, ⟨ki', aki, cki, iki⟩⟩).flatMap encN ++ npad) ty22 rfl rfl rfl rfl (by simp [Value.oneCell']) (by have h_ := (List.getElem?_eq_some_iff.1 hi).1; rw [List.length_append, encN_ok.fl]; omega) (encN_ok.put1 (j := 0) hi (by decide) rfl) (.there (.there .here))) ?_
        rw [own_same_p pn i _ ⟨xi'.take 0 ++ xi'.drop (0 + 1), a3, c3, it3⟩]
        obtain ⟨pn5, hpn5⟩ : ∃ x, x = pn.set i ⟨⟨xi'.take 0 ++ xi'.drop (0 + 1), a3, c3, it3⟩, ⟨ki', aki, cki, iki⟩⟩ := ⟨_, rfl⟩
        rw [← hpn5]
        have hx5 := set_get' hpn5 hi
        replace hok : ∀ n ∈ pn5, n.Ok := by rw [hpn5]; exact set_ok hok ⟨hr3, hki⟩
        have hnd5 : pn5.map PN.nd = (T.nodes).set i ⟨xi'.take 0 ++ xi'.drop (0 + 1), ki'⟩ := by rw [hpn5, List.map_set, hnd]; rfl
        have hln5 : pn5.length = pn.length := by rw [hpn5, List.length_set]
        have hcp5 : pn5.length ≤ nc := by omega
        have hnp5 : npad.length = (nc - pn5.length) * 2 := by rw [hln5]; exact hnp
        have hpi_5 := hr3
        have hki_5 := hki
        refine .nil ?_
        refine .then ?_
        refine .seq ?_
        refine .region ?_
        refine .v (.ldw ty47 rfl .here rfl) rfl ?_
        refine .st (.stw ty47 rfl rfl rfl rfl rfl (.there (.there (.there (.there (.there .here)))))) ?_
        refine .nil ?_
        refine .then ?_
        refine .ret ?_
        refine .front (.there (.there (.there (.there .here)))) ?_
        refine .front (.there (.there (.there (.there .here)))) ?_
        refine .front (.there (.there (.there (.there .here)))) ?_
        refine .front (.there (.there (.there (.there .here)))) ?_
        have hLe : Lies b (T.setN i ⟨xi'.take 0 ++ xi'.drop (0 + 1), ki'⟩) ([⟨b, 60, [.slice (some ⟨nb, 0, none⟩) pn.length nc, .slice fa T.free.length fc, .int .i64 (T.root : Int), .int .i64 (T.count : Int)]⟩] ++ ([⟨nb, 68, pn5.flatMap encN ++ npad⟩] ++ (fit ++ own pn5))) := ⟨pn5, some ⟨nb, 0, none⟩, nc, _, fa, fc, fit, ⟨Row.of npad rfl hnp5 hcp5 hmx, hrf, hok, hnd5, by rw [hln5]; first | done | rfl⟩⟩
        exact .done _ [_] (.c1 rfl ty47 rfl (.there (.there (.there (.there (.there .here))))) rfl) .rfl ⟨_, rfl, rfl, hLe, rfl⟩ (fun w ho => by simpa [List.append_assoc] using (subl (.cons_cons _ (.cons_cons _ (.cons_cons _ (.cons_cons _ (.cons _ (.cons _ (.cons_cons _ .slnil))))))) w ho))
      · skip
        obtain ⟨pn, na, nc, nit, fa, fc, fit, hP⟩ := hT
        obtain ⟨hrn, hrf, hok, hnd, rfl⟩ := hP
        have hln : pn.length = T.nodes.length := by rw [← hnd, List.length_map]
        have hmx := hrn.max
        have hcp := hrn.cap
        have hfm := hrf.max
        have hfcp := hrf.cap
        have hib := (List.getElem?_eq_some_iff.1 hni).1
        have hL0 : Lies b T (⟨b, 60, [.slice na pn.length nc, .slice fa T.free.length fc, .int .i64 (T.root : Int), .int .i64 (T.count : Int)]⟩ :: (nit ++ (fit ++ own pn))) := ⟨pn, na, nc, nit, fa, fc, fit, ⟨hrn, hrf, hok, hnd, rfl⟩⟩
        obtain ⟨nb, npad, rfl, rfl, hnp⟩ := hrn.blk (by omega)
        obtain ⟨ni, hi, ei⟩ := nd_get hnd hni
        have hoi := get_ok hok hi
        obtain ⟨⟨xi', api, cpi, ipi⟩, ⟨ki', aki, cki, iki⟩⟩ := ni
        obtain ⟨rfl, rfl⟩ : xi' = xi ∧ ki' = ki := by simpa [PN.nd] using ei
        have hpi : Row 47 encP 2 api cpi xi' ipi := hoi.p
        have hki : Row 3 encK 1 aki cki ki' iki := hoi.k
        refine .parts ?_
        refine .seq ?_
        refine .seq ?_
        refine .region ?_
        refine .v (.mv rfl) rfl ?_
        refine .v (.nilc rfl) rfl ?_
        refine .v (.fa0 fl60_0 rfl) rfl ?_
        refine .v (.ldb ty57 rfl .here rfl) rfl ?_
        refine .v (.mv rfl) rfl ?_
        refine .v (.ixo sl57 rfl rfl (i) ⟨rfl, by have h_ := (List.getElem?_eq_some_iff.1 hi).1; omega⟩) rfl ?_
        refine .v (.ldm [.slice (api) (xi').length (cpi), .slice (aki) (ki').length (cki)] ty68 rfl (.there .here) rfl (fun j_ v_ hj_ => encN_ok.get pn i _ hi npad j_ v_ hj_)) rfl ?_
        refine .vF (.call rfl rfl (Try.call37 _) (fun G hle hG => leaf_fn _ _ _ _ ki'.length _ G)) rfl (by omega) ?_
        refine .v (.not rfl) rfl ?_
        refine .nil ?_
        refine .then ?_
        refine .condT rfl ?_
        refine .skip ?_
        refine .then ?_
        refine .block ?_
        refine .seq ?_
        refine .region ?_
        refine .v (.asn rfl) rfl ?_
        refine .nil ?_
        refine .then ?_
        refine .seq ?_
        refine .seq ?_
        refine .region ?_
        refine .v (.mv rfl) rfl ?_
        refine .nil ?_
        refine .then ?_
        refine .condF rfl ?_
        refine .skip ?_
        refine .then ?_
        refine .region ?_
        refine .v (.mv rfl) rfl ?_
        refine .v (.mv rfl) rfl ?_
        refine .v (.mv rfl) rfl ?_
        refine .front (.there (.there (.there .here))) ?_
        refine .front (.there (.there (.there .here))) ?_
        refine .join ?_
        refine .front (.there (.there .here)) ?_
        refine .join ?_
        refine .front (.there .here) ?_
        refine .join ?_
        refine .lend (.lend rfl rfl (Try.call50 _) _ (fun _ => .here) (fun G hle hG => (feed_fn b T _ G hL0 i 0 T1 c hF).mono (fun v M H _ ⟨it, h1, _, h2, h3⟩ => ⟨it, h1, (⟨h2, h3⟩ : _ ∧ _)⟩))) rfl ?_
        rintro _ itq ⟨hL2, rfl⟩
        refine .v (.asn rfl) rfl ?_
        refine .nil ?_
        refine .blk ?_
        exact .again ⟨m, T1, c, itq⟩ ⟨hL2, hR⟩ (Nat.lt_succ_self m) (.cons rfl rfl (.cons rfl rfl (.cons rfl rfl (.cons rfl rfl .nil)))) (subl (.cons_cons _ (.cons_cons _ (.cons_cons _ .slnil))))
end Go.Proofs.Ytbmpdccoffkjgaa.Ow
