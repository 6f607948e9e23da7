/- Walks. -/
import Derived.Test.YtbmpdccoffkjgaaBi
import Derived.Test.YtbmpdccoffkjgaaTyu
namespace Go.Proofs.Ytbmpdccoffkjgaa.Ow
open Go
set_option linter.unusedVariables false
theorem check_all (b : Nat) (T : TS) (it : Itm) (F : Mem) (hT : Lies b T it) (h : Nat) (t : Tr) (hI : TInv T h t) (hh : h ≤ 1000) (hcn : T.count ≤ 1000000000) : Fn Try.prog 15 #[.pointer (some ⟨b, 0, none⟩)] [it] F (fun v M G => M = [it] ∧ G = F ∧ v = .bool true) := by
  obtain ⟨pn, na, nc, nit, fa, fc, fit, hP⟩ := hT
  obtain ⟨hrn, hrf, hok, hnd, rfl⟩ := hP
  have hln : pn.length = T.nodes.length := by rw [← hnd, List.length_map]
  have hmx := hrn.max
  have hcp := hrn.cap
  have hfm := hrf.max
  have hfcp := hrf.cap
  have hL0 : Lies b T (⟨b, 60, [.slice na pn.length nc, .slice fa T.free.length fc, .int .i64 (T.root : Int), .int .i64 (T.count : Int)]⟩ :: (nit ++ (fit ++ own pn))) := ⟨pn, na, nc, nit, fa, fc, fit, ⟨hrn, hrf, hok, hnd, rfl⟩⟩
  have hcnt := hI.cnt
  have hrt := hI.root
  rw [hrt] at hL0 ⊢
  refine Fn.start1 Try.func15 rfl Try.ntmps15 rfl (env := [(0, _)]) rfl ?_
  intro R
  refine .items (L' := [[⟨b, 60, _⟩], nit, fit, own pn, R]) (fun w ho => by simpa [List.append_assoc] using ho) ?_
  refine .seq ?_
  refine .region ?_
  refine .v (.asn rfl) rfl ?_
  refine .nil ?_
  refine .then ?_
  refine .seq ?_
  refine .seq ?_
  refine .region ?_
  refine .v (.mv rfl) rfl ?_
  refine .vF (.eqpn Try.underlying28 rfl rfl) rfl (by simp) ?_
  refine .nil ?_
  refine .then ?_
  refine .condF rfl ?_
  refine .skip ?_
  refine .then ?_
  refine .seq ?_
  refine .region ?_
  refine .v (.mv rfl) rfl ?_
  refine .v (.mv rfl) rfl ?_
  refine .v (.nilc rfl) rfl ?_
  refine .v (.fab fl60_3 rfl) rfl ?_
  refine .v (.ldb ty3 rfl .here rfl) rfl ?_
  refine .v (.add rfl rfl (by omega)) rfl ?_
  refine .lend (.rom rfl rfl (Try.call18 _) (sel4 .here .here .here .here) ((range_fn b T _ _ hL0 h t hI.lay hI.siz hI.srt hI.root ⟨#[]⟩ ⟨#[]⟩ _ (by omega)).mono (fun v M G _ h_ => h_))) rfl ?_
  rintro _ ia ⟨aa, ca, rfl, hra⟩
  refine .v (.asn rfl) rfl ?_
  have hall : rng ⟨#[]⟩ ⟨#[]⟩ (((T.count : Int) + 1).toNat) [] (flat h t) = flat h t := rng_all (by omega)
  rw [hall] at hra ⊢
  obtain ⟨all, he⟩ : ∃ l, l = flat h t := ⟨_, rfl⟩
  rw [← he] at hra ⊢
  have hsa : Srt all := by rw [he]; exact hI.srt
  have hla : all.length = T.count := by rw [he]; exact hI.cnt.symm
  refine .nil ?_
  refine .then ?_
  refine .seq ?_
  refine .seq ?_
  refine .region ?_
  refine .v (.mv rfl) rfl ?_
  refine .v (.lenl Try.underlying22 rfl) rfl ?_
  refine .v (.mv rfl) rfl ?_
  refine .nil ?_
  refine .then ?_
  refine .block ?_
  refine WC.loop0 (fx := [(0, _), (3, _), (15, _)]) (.cons rfl rfl (.cons rfl rfl (.cons rfl rfl .nil))) (ι := Nat) (fun k => k ≤ all.length) (fun k => all.length - k) (fun k => [(16, .int .i64 (k : Int))]) 0 (by omega) ?he ?round
  case he => exact .cons rfl rfl (.cons rfl rfl (.cons rfl rfl (.cons rfl rfl .nil)))
  case round =>
    intro k hk
    refine .seq ?_
    refine .region ?_
    refine .vs (.lt rfl rfl) rfl (fun h17_1 => ?_) (fun h17_1 => ?_)
    · skip
      refine .nil ?_
      refine .then ?_
      refine .seq ?_
      refine .condT rfl ?_
      refine .skip ?_
      refine .then ?_
      refine .seq ?_
      refine .block ?_
      refine .seq ?_
      refine .region ?_
      refine .v (.mv rfl) rfl ?_
      refine .v (.asn rfl) rfl ?_
      refine .nil ?_
      refine .then ?_
      refine .seq ?_
      refine .draw [[], [0], [1], [2], [2], [4, 2], [3, 5, 2], [6, 2], [7, 2], [2], [2], [9, 10, 2], [11, 2], [12, 2], [8, 13, 2], [2, 14]] [] (by kernel_rfl) (by kernel_rfl) rfl (e1 := [(0, _), (3, _), (4, _), (15, _), (16, _)]) (.cons rfl rfl (.cons rfl rfl (.cons rfl rfl (.cons rfl rfl (.cons rfl rfl .nil))))) (fun x hx => by cases hx) rfl ?_
      refine .v (i := 0) [] rfl rfl rfl .nil (.n (.mv rfl)) ?_
      refine .vs (i := 1) [(19, _)] rfl rfl rfl (.cons (.head _) rfl rfl .nil) (.n (.gt rfl rfl)) (fun h20_2 => ?_) (fun h20_2 => ?_)
      · skip
        obtain ⟨x2, hx2⟩ : ∃ y, all[k]? = some y := ⟨_, List.getElem?_eq_getElem (by omega)⟩
        obtain ⟨x1, hx1⟩ : ∃ y, all[k - 1]? = some y := ⟨_, List.getElem?_eq_getElem (by omega)⟩
        have hlt := hsa.lt (show k - 1 < k by omega) hx1 hx2
        obtain ⟨bal, dal, rfl, rfl, hdal⟩ := hra.blk (by omega)
        refine .v (i := 2) [(20, _)] rfl rfl rfl (.cons (.head _) rfl rfl .nil) (.n (.mv rfl)) ?_
        refine .v (i := 3) [(21, _)] rfl rfl rfl (.cons (.head _) rfl rfl .nil) (.g rfl rfl rfl (.mv rfl)) ?_
        refine .v (i := 4) [(21, _)] rfl rfl rfl (.cons (.tail _ (.head _)) rfl rfl .nil) (.g rfl rfl rfl (.mv rfl)) ?_
        refine .v (i := 5) [(23, _), (21, _)] rfl rfl rfl (.cons (.head _) rfl rfl (.cons (.tail _ (.tail _ (.head _))) rfl rfl .nil)) (.g rfl rfl rfl (.sub rfl rfl (by omega))) ?_
        refine .v (i := 6) [(22, _), (24, _), (21, _)] rfl rfl rfl (.cons (.tail _ (.tail _ (.head _))) rfl rfl (.cons (.head _) rfl rfl (.cons (.tail _ (.tail _ (.tail _ (.head _)))) rfl rfl .nil))) (.g rfl rfl rfl (.ixo sl22 rfl rfl (k - 1) ⟨by first | omega | (dsimp only; omega), by have h_ := (List.getElem?_eq_some_iff.1 hx1).1; omega⟩)) ?_
        refine .v (i := 7) [(25, _), (21, _)] rfl rfl rfl (.cons (.head _) rfl rfl (.cons (.tail _ (.tail _ (.tail _ (.tail _ (.head _))))) rfl rfl .nil)) (.g rfl rfl rfl (.fa0 fl47_0 rfl)) ?_
        refine .v (i := 8) [(26, _), (21, _)] rfl rfl rfl (.cons (.head _) rfl rfl (.cons (.tail _ (.tail _ (.tail _ (.tail _ (.tail _ (.head _)))))) rfl rfl .nil)) (.g rfl rfl rfl (.ldb ty9 rfl .here (encP_ok.get all (k - 1) _ hx1 dal 0 _ rfl))) ?_
        refine .v (i := 9) [(21, _)] rfl rfl rfl (.cons (.tail _ (.tail _ (.tail _ (.tail _ (.tail _ (.tail _ (.head _))))))) rfl rfl .nil) (.g rfl rfl rfl (.mv rfl)) ?_
        refine .v (i := 10) [(21, _)] rfl rfl rfl (.cons (.tail _ (.tail _ (.tail _ (.tail _ (.tail _ (.tail _ (.tail _ (.head _)))))))) rfl rfl .nil) (.g rfl rfl rfl (.mv rfl)) ?_
        refine .v (i := 11) [(28, _), (29, _), (21, _)] rfl rfl rfl (.cons (.tail _ (.head _)) rfl rfl (.cons (.head _) rfl rfl (.cons (.tail _ (.tail _ (.tail _ (.tail _ (.tail _ (.tail _ (.tail _ (.tail _ (.head _))))))))) rfl rfl .nil))) (.g rfl rfl rfl (.ixo sl22 rfl rfl (k) ⟨by first | omega | (dsimp only; omega), by have h_ := (List.getElem?_eq_some_iff.1 hx2).1; omega⟩)) ?_
        refine .v (i := 12) [(30, _), (21, _)] rfl rfl rfl (.cons (.head _) rfl rfl (.cons (.tail _ (.tail _ (.tail _ (.tail _ (.tail _ (.tail _ (.tail _ (.tail _ (.tail _ (.head _)))))))))) rfl rfl .nil)) (.g rfl rfl rfl (.fa0 fl47_0 rfl)) ?_
        refine .v (i := 13) [(31, _), (21, _)] rfl rfl rfl (.cons (.head _) rfl rfl (.cons (.tail _ (.tail _ (.tail _ (.tail _ (.tail _ (.tail _ (.tail _ (.tail _ (.tail _ (.tail _ (.head _))))))))))) rfl rfl .nil)) (.g rfl rfl rfl (.ldb ty9 rfl .here (encP_ok.get all (k) _ hx2 dal 0 _ rfl))) ?_
        refine .tail0 14 [[14, 8, 13, 2, 7, 12, 1, 6, 11, 0, 3, 5, 9, 10, 4], [15, 2, 14, 1, 8, 13, 0, 7, 12, 6, 11, 3, 5, 9, 10, 4]] rfl rfl rfl rfl (e' := [(32, _), (31, _), (30, _), (29, _), (28, _), (27, _), (26, _), (25, _), (24, _), (23, _), (22, _), (21, _), (20, _), (19, _), (0, _), (3, _), (4, _), (15, _), (16, _)]) rfl ?_
        refine .g rfl rfl rfl ?_
        refine .bF (.ges rfl rfl) rfl (by rw [hlt]; rfl) ?_
        refine .v (.pkT rfl rfl) rfl ?_
        refine .nil ?_
        refine .then ?_
        refine .condF rfl ?_
        refine .skip ?_
        refine .blk ?_
        refine .then ?_
        refine .region ?_
        refine .v (.add rfl rfl (by omega)) rfl ?_
        refine .v (.mv rfl) rfl ?_
        refine .nil ?_
        exact .again (k + 1) (by omega) (by omega) (.cons rfl rfl (.cons rfl rfl (.cons rfl rfl (.cons rfl rfl .nil)))) (subl (.refl _))
      · skip
        refine .v (i := 2) [(20, _)] rfl rfl rfl (.cons (.head _) rfl rfl .nil) (.n (.mv rfl)) ?_
        refine .v (i := 3) [(21, _)] rfl rfl rfl (.cons (.head _) rfl rfl .nil) (.s rfl rfl rfl) ?_
        refine .v (i := 4) [(21, _)] rfl rfl rfl (.cons (.tail _ (.head _)) rfl rfl .nil) (.s rfl rfl rfl) ?_
        refine .v (i := 5) [(23, _), (21, _)] rfl rfl rfl (.cons (.head _) rfl rfl (.cons (.tail _ (.tail _ (.head _))) rfl rfl .nil)) (.s rfl rfl rfl) ?_
        refine .v (i := 6) [(22, _), (24, _), (21, _)] rfl rfl rfl (.cons (.tail _ (.tail _ (.head _))) rfl rfl (.cons (.head _) rfl rfl (.cons (.tail _ (.tail _ (.tail _ (.head _)))) rfl rfl .nil))) (.s rfl rfl rfl) ?_
        refine .v (i := 7) [(25, _), (21, _)] rfl rfl rfl (.cons (.head _) rfl rfl (.cons (.tail _ (.tail _ (.tail _ (.tail _ (.head _))))) rfl rfl .nil)) (.s rfl rfl rfl) ?_
        refine .v (i := 8) [(26, _), (21, _)] rfl rfl rfl (.cons (.head _) rfl rfl (.cons (.tail _ (.tail _ (.tail _ (.tail _ (.tail _ (.head _)))))) rfl rfl .nil)) (.s rfl rfl rfl) ?_
        refine .v (i := 9) [(21, _)] rfl rfl rfl (.cons (.tail _ (.tail _ (.tail _ (.tail _ (.tail _ (.tail _ (.head _))))))) rfl rfl .nil) (.s rfl rfl rfl) ?_
        refine .v (i := 10) [(21, _)] rfl rfl rfl (.cons (.tail _ (.tail _ (.tail _ (.tail _ (.tail _ (.tail _ (.tail _ (.head _)))))))) rfl rfl .nil) (.s rfl rfl rfl) ?_
        refine .v (i := 11) [(28, _), (29, _), (21, _)] rfl rfl rfl (.cons (.tail _ (.head _)) rfl rfl (.cons (.head _) rfl rfl (.cons (.tail _ (.tail _ (.tail _ (.tail _ (.tail _ (.tail _ (.tail _ (.tail _ (.head _))))))))) rfl rfl .nil))) (.s rfl rfl rfl) ?_
        refine .v (i := 12) [(30, _), (21, _)] rfl rfl rfl (.cons (.head _) rfl rfl (.cons (.tail _ (.tail _ (.tail _ (.tail _ (.tail _ (.tail _ (.tail _ (.tail _ (.tail _ (.head _)))))))))) rfl rfl .nil)) (.s rfl rfl rfl) ?_
        refine .v (i := 13) [(31, _), (21, _)] rfl rfl rfl (.cons (.head _) rfl rfl (.cons (.tail _ (.tail _ (.tail _ (.tail _ (.tail _ (.tail _ (.tail _ (.tail _ (.tail _ (.tail _ (.head _))))))))))) rfl rfl .nil)) (.s rfl rfl rfl) ?_
        refine .tail0 14 [[14, 8, 13, 2, 7, 12, 1, 6, 11, 0, 3, 5, 9, 10, 4], [15, 2, 14, 1, 8, 13, 0, 7, 12, 6, 11, 3, 5, 9, 10, 4]] rfl rfl rfl rfl (e' := [(32, _), (31, _), (30, _), (29, _), (28, _), (27, _), (26, _), (25, _), (24, _), (23, _), (22, _), (21, _), (20, _), (19, _), (0, _), (3, _), (4, _), (15, _), (16, _)]) rfl ?_
        refine .gs rfl rfl rfl rfl ?_
        refine .v (.pkF rfl rfl) rfl ?_
        refine .nil ?_
        refine .then ?_
        refine .condF rfl ?_
        refine .skip ?_
        refine .blk ?_
        refine .then ?_
        refine .region ?_
        refine .v (.add rfl rfl (by omega)) rfl ?_
        refine .v (.mv rfl) rfl ?_
        refine .nil ?_
        exact .again (k + 1) (by omega) (by omega) (.cons rfl rfl (.cons rfl rfl (.cons rfl rfl (.cons rfl rfl .nil)))) (subl (.refl _))
    · skip
      refine .nil ?_
      refine .then ?_
      refine .seq ?_
      refine .condF rfl ?_
      refine .exit ?_
      refine .then_exit ?_
      refine .then_exit ?_
      refine .blk_exit ?_
      refine .then ?_
      refine .seq ?_
      refine .draw [[], [0], [], [2], [3], [4], [1, 5], [6], [7], [7], [9, 7], [10, 7], [11, 7], [7], [13, 7, 7], [14, 7], [8, 12, 15, 14, 7], [7, 16], [17, 16, 0, 1, 2, 3, 4, 5, 6, 7, 8, 9, 10, 11, 12, 13, 14, 15, 16, 17]] [] (by kernel_rfl) (by kernel_rfl) rfl (e1 := [(0, _), (3, _)]) (.cons rfl rfl (.cons rfl rfl .nil)) (fun x hx => by cases hx) rfl ?_
      refine .v (i := 0) [] rfl rfl rfl .nil (.n (.mv rfl)) ?_
      refine .v (i := 1) [(36, _)] rfl rfl rfl (.cons (.head _) rfl rfl .nil) (.n (.lenl Try.underlying22 rfl)) ?_
      refine .v (i := 2) [] rfl rfl rfl .nil (.n (.mv rfl)) ?_
      refine .v (i := 3) [(38, _)] rfl rfl rfl (.cons (.head _) rfl rfl .nil) (.n (.nilc rfl)) ?_
      refine .v (i := 4) [(39, _)] rfl rfl rfl (.cons (.head _) rfl rfl .nil) (.n (.fab fl60_3 rfl)) ?_
      refine .v (i := 5) [(40, _)] rfl rfl rfl (.cons (.head _) rfl rfl .nil) (.n (.ldb ty3 rfl (.there .here) rfl)) ?_
      refine .vT (i := 6) [(37, _), (41, _)] rfl rfl rfl (.cons (.tail _ (.tail _ (.tail _ (.tail _ (.head _))))) rfl rfl (.cons (.head _) rfl rfl .nil)) (.n (.eq rfl rfl)) (by omega) ?_
      refine .v (i := 7) [(42, _)] rfl rfl rfl (.cons (.head _) rfl rfl .nil) (.n (.mv rfl)) ?_
      refine .v (i := 8) [(43, _)] rfl rfl rfl (.cons (.head _) rfl rfl .nil) (.g rfl rfl rfl (.mv rfl)) ?_
      refine .v (i := 9) [(43, _)] rfl rfl rfl (.cons (.tail _ (.head _)) rfl rfl .nil) (.g rfl rfl rfl (.mv rfl)) ?_
      refine .v (i := 10) [(45, _), (43, _)] rfl rfl rfl (.cons (.head _) rfl rfl (.cons (.tail _ (.tail _ (.head _))) rfl rfl .nil)) (.g rfl rfl rfl (.nilc rfl)) ?_
      refine .v (i := 11) [(46, _), (43, _)] rfl rfl rfl (.cons (.head _) rfl rfl (.cons (.tail _ (.tail _ (.tail _ (.head _)))) rfl rfl .nil)) (.g rfl rfl rfl (.fab fl60_2 rfl)) ?_
      refine .v (i := 12) [(47, _), (43, _)] rfl rfl rfl (.cons (.head _) rfl rfl (.cons (.tail _ (.tail _ (.tail _ (.tail _ (.head _))))) rfl rfl .nil)) (.g rfl rfl rfl (.ldb ty3 rfl (.there .here) rfl)) ?_
      refine .v (i := 13) [(43, _)] rfl rfl rfl (.cons (.tail _ (.tail _ (.tail _ (.tail _ (.tail _ (.head _)))))) rfl rfl .nil) (.g rfl rfl rfl (.mv rfl)) ?_
      refine .v (i := 14) [(49, _), (43, _)] rfl rfl rfl (.cons (.head _) rfl rfl (.cons (.tail _ (.tail _ (.tail _ (.tail _ (.tail _ (.tail _ (.head _))))))) rfl rfl .nil)) (.g rfl rfl rfl (.ro rfl rfl (Try.call23 _) (sel4 (.there .here) (.there .here) (.there .here) (.there .here)) (depth_fn b T _ _ hL0 h t hI.lay hI.root hh))) ?_
      refine .v (i := 15) [(50, _), (43, _)] rfl rfl rfl (.cons (.head _) rfl rfl (.cons (.tail _ (.tail _ (.tail _ (.tail _ (.tail _ (.tail _ (.tail _ (.head _)))))))) rfl rfl .nil)) (.g rfl rfl rfl (.max rfl rfl)) ?_
      refine .tail0 16 [[16, 8, 12, 15, 14, 7, 11, 13, 6, 10, 1, 5, 9, 0, 4, 3, 2], [17, 7, 16, 6, 8, 12, 15, 14, 1, 5, 11, 13, 0, 4, 10, 3, 9, 2], [18, 17, 16, 0, 1, 2, 3, 4, 5, 6, 7, 8, 9, 10, 11, 12, 13, 14, 15]] rfl rfl rfl rfl (e' := [(51, _), (50, _), (49, _), (48, _), (47, _), (46, _), (45, _), (44, _), (43, _), (42, _), (41, _), (40, _), (39, _), (38, _), (37, _), (36, _), (0, _), (3, _)]) rfl ?_
      refine .g rfl rfl rfl ?_
      refine .v (.ro rfl rfl (Try.call29 _) (sel4 (.there .here) (.there .here) (.there .here) (.there .here)) (check_fn h b T _ _ hL0 t hI.lay hI.siz (fun e_ => absurd hI.root.symm e_) hI.rt hh _ (by split <;> split <;> first | omega | (have h_ := hI.deep (by omega); omega)))) rfl ?_
      refine .v (.pkT rfl rfl) rfl ?_
      refine .v (.asn rfl) rfl ?_
      refine .nil ?_
      refine .then ?_
      refine .ret ?_
      refine .front (.there (.there (.there (.there .here)))) ?_
      refine .front (.there (.there (.there (.there .here)))) ?_
      refine .front (.there (.there (.there (.there .here)))) ?_
      refine .front (.there (.there (.there (.there .here)))) ?_
      exact .done _ [_] (.t1 rfl rfl) .rfl ⟨rfl, rfl, rfl⟩ (fun w ho => by simpa [List.append_assoc] using (subl (.cons_cons _ (.cons_cons _ (.cons_cons _ (.cons_cons _ (.cons _ (.cons_cons _ .slnil)))))) w ho))
end Go.Proofs.Ytbmpdccoffkjgaa.Ow
