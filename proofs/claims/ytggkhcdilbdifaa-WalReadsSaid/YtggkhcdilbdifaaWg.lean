/- Walks. -/
import Derived.Test.YtggkhcdilbdifaaWf
namespace Go.Proofs.Ytggkhcdilbdifaa.Ow
open Go Go.Proofs.Ytggkhcdilbdifaa.Rec
set_option linter.unusedVariables false
theorem rlog_fn (d : Dk) (a : Option Addr) (c : Nat) (F : Mem) (hS : Sl F encF 3 a c d.files) (hr0 : right d = true) : Fn Try.prog 21 #[dval a c d] [] F (fun v M G => M = [] ∧ ∃ (a : Option Addr) (c : Nat) (b : Option Addr) (e : Nat) (o : Bool), v = .tuple #[.slice a ((logD d).map (·.id)).length c, .slice b ((logD d).flatMap (·.recs)).length e, .bool o] ∧ Sl G encI 1 a c ((logD d).map (·.id)) ∧ Sl G encS 1 b e ((logD d).flatMap (·.recs))) := by
  have hm := hS.len
  obtain ⟨hsf, htot, hleft⟩ := right_files hr0
  have hrl0 := right_len hsf
  refine Fn.start0 Try.func21 rfl Try.ntmps21 rfl (env := [(0, _)]) rfl ?_
  intro R
  refine .seq ?_
  refine .region ?_
  refine .nb (.box rfl rfl) rfl (fun b1 => ?_)
  refine .v (.asn rfl) rfl ?_
  refine .v (.asn rfl) rfl ?_
  refine .v (.asn rfl) rfl ?_
  refine .nil ?_
  refine .then ?_
  refine .seq ?_
  refine .region ?_
  refine .v (.asn rfl) rfl ?_
  refine .nil ?_
  refine .then ?_
  refine .seq ?_
  refine .region ?_
  refine .v (.asn rfl) rfl ?_
  refine .nil ?_
  refine .then ?_
  refine .seq ?_
  refine .region ?_
  refine .v (.asn rfl) rfl ?_
  refine .nil ?_
  refine .then ?_
  refine .seq ?_
  refine .seq ?_
  refine .region ?_
  refine .v (.asn rfl) rfl ?_
  refine .nil ?_
  refine .then ?_
  refine .block ?_
  refine .emp ?_
  refine .emp ?_
  refine WC.loopx (fx := [(1, _)]) (pre := [_, _]) (fm := [_, _]) rfl (.cons rfl rfl .nil) (ι := Nat × List Sg × Int × Option Addr × Nat × Itm × Option Addr × Nat × Itm × Bool × Mem) (fun z => z.1 ≤ d.files.length ∧ logF 0 d.files = (z.2.1 ++ (logF z.2.2.1 (d.files.drop z.1)).1, (logF z.2.2.1 (d.files.drop z.1)).2) ∧ (0 ≤ z.2.2.1 ∧ z.2.2.1 ≤ 549756862464) ∧ RSt z.2.1 z.2.2.1 ∧ z.2.1.length ≤ z.1 ∧ Row 3 encI 1 z.2.2.2.1 z.2.2.2.2.1 (z.2.1.map (·.id)) z.2.2.2.2.2.1 ∧ Row 9 encS 1 z.2.2.2.2.2.2.1 z.2.2.2.2.2.2.2.1 (z.2.1.flatMap (·.recs)) z.2.2.2.2.2.2.2.2.1 ∧ Le F z.2.2.2.2.2.2.2.2.2.2) (fun z => d.files.length - z.1) (fun z => [(5, .slice z.2.2.2.1 (z.2.1.map (·.id)).length z.2.2.2.2.1), (6, .slice z.2.2.2.2.2.2.1 (z.2.1.flatMap (·.recs)).length z.2.2.2.2.2.2.2.1), (7, .bool z.2.2.2.2.2.2.2.2.2.1), (8, .int .i64 z.1)]) (fun z => [z.2.2.2.2.2.1, z.2.2.2.2.2.2.2.2.1]) (fun z => z.2.2.2.2.2.2.2.2.2.2) (0, [], 0, none, 0, [], none, 0, [], false, F) ⟨Nat.zero_le _, rfl, by (try dsimp only); omega, .nil, Nat.le_refl _, Row.nil, Row.nil, .rfl⟩ ?he ?hm ?round
  case he => exact .cons rfl rfl (.cons rfl rfl (.cons rfl rfl (.cons rfl rfl (.cons rfl rfl .nil))))
  case hm => exact (fun _ h => h)
  case round =>
    intro z hk
    obtain ⟨k, out, next, a1, c1, it, aL, cL, itL, o, G0⟩ := z
    obtain ⟨hk, hlg, hnx, hst, hol, hr, hrL, hG01⟩ := hk
    dsimp only at hk hlg hnx hst hol hr hrL hG01 ⊢
    have hstl := hst.len
    have hftl := hst.tot
    have hml : (out.map (·.id)).length = out.length := List.length_map _
    replace hS := hS.mono hG01
    have hF := hG01
    dsimp only [List.cons_append, List.nil_append]
    refine .seq ?_
    refine .seq ?_
    refine .region ?_
    refine .v (.mv rfl) rfl ?_
    refine .v (.fa0 fl27_0 rfl) rfl ?_
    refine .v (.ldb ty25 rfl (.there (.there .here)) rfl) rfl ?_
    refine .v (.lenl Try.underlying25 rfl) rfl ?_
    refine .vs (.lt rfl rfl) rfl (fun h16_2 => ?_) (fun h16_2 => ?_)
    · skip
      obtain ⟨f, hf⟩ : ∃ y, d.files[k]? = some y := ⟨_, List.getElem?_eq_getElem (by omega)⟩
      have hdr := drop_get hf
      have hfs := files_small hr0 f (List.mem_of_getElem? hf)
      have hfz := fileT_size f
      have hal := allB_len (fileT f)
      have hrl : (sgOf f).recs.length = (allB (fileT f)).1.length := rfl
      refine .nil ?_
      refine .then ?_
      refine .condT rfl ?_
      refine .skip ?_
      refine .then ?_
      refine .seq ?_
      refine .block ?_
      refine .seq ?_
      refine .region ?_
      refine .v (.fa0 fl27_0 rfl) rfl ?_
      refine .v (.ldb ty25 rfl (.there (.there .here)) rfl) rfl ?_
      refine .v (.mv rfl) rfl ?_
      refine .ix sl25 rfl rfl hS rfl f ⟨by omega, hf⟩ (fun p3 o4 r5 => ?_)
      refine .v (.ldrw ty51 rfl r5 rfl) rfl ?_
      refine .nb (.alloc ty51 rfl) rfl (fun b6 => ?_)
      refine .st (.stw ty51 rfl rfl rfl rfl rfl .here) ?_
      refine .nil ?_
      refine .then ?_
      refine .seq ?_
      refine .seq ?_
      refine .draw [[], [0], [1], [2], [3], [4, 3], [5, 3], [3, 6], [7, 3], [8], [9, 8], [10, 8], [11, 8, 8], [12], [13, 12], [12], [15, 12], [16, 12], [12], [18, 12], [17, 19, 12], [14, 20, 12], [12, 21, 8], [8, 22]] [] (by kernel_rfl) (by kernel_rfl) rfl (e1 := [(1, _), (5, _), (6, _), (7, _), (8, _), (9, _)]) (.cons rfl rfl (.cons rfl rfl (.cons rfl rfl (.cons rfl rfl (.cons rfl rfl (.cons rfl rfl .nil)))))) (fun x hx => by cases hx) rfl ?_
      refine .v (i := 0) [] rfl rfl rfl .nil (.n (.fa0 fl51_0 rfl)) ?_
      refine .v (i := 1) [(24, _)] rfl rfl rfl (.cons (.head _) rfl rfl .nil) (.n (.ldb ty3 rfl .here rfl)) ?_
      refine .vs (i := 2) [(25, _)] rfl rfl rfl (.cons (.head _) rfl rfl .nil) (.n (.lt rfl rfl)) (fun h26_7 => ?_) (fun h26_7 => ?_)
      · skip
        refine .v (i := 3) [(26, _)] rfl rfl rfl (.cons (.head _) rfl rfl .nil) (.n (.mv rfl)) ?_
        refine .v (i := 4) [(27, _)] rfl rfl rfl (.cons (.head _) rfl rfl .nil) (.s rfl rfl rfl) ?_
        refine .v (i := 5) [(28, _), (27, _)] rfl rfl rfl (.cons (.head _) rfl rfl (.cons (.tail _ (.head _)) rfl rfl .nil)) (.s rfl rfl rfl) ?_
        refine .v (i := 6) [(29, _), (27, _)] rfl rfl rfl (.cons (.head _) rfl rfl (.cons (.tail _ (.tail _ (.head _))) rfl rfl .nil)) (.s rfl rfl rfl) ?_
        refine .v (i := 7) [(27, _), (30, _)] rfl rfl rfl (.cons (.tail _ (.tail _ (.tail _ (.head _)))) rfl rfl (.cons (.head _) rfl rfl .nil)) (.n (.pkT rfl rfl)) ?_
        refine .v (i := 8) [(31, _)] rfl rfl rfl (.cons (.head _) rfl rfl .nil) (.n (.mv rfl)) ?_
        refine .v (i := 9) [(32, _)] rfl rfl rfl (.cons (.head _) rfl rfl .nil) (.s rfl rfl rfl) ?_
        refine .v (i := 10) [(33, _), (32, _)] rfl rfl rfl (.cons (.head _) rfl rfl (.cons (.tail _ (.head _)) rfl rfl .nil)) (.s rfl rfl rfl) ?_
        refine .v (i := 11) [(34, _), (32, _)] rfl rfl rfl (.cons (.head _) rfl rfl (.cons (.tail _ (.tail _ (.head _))) rfl rfl .nil)) (.s rfl rfl rfl) ?_
        refine .v (i := 12) [(35, _), (32, _)] rfl rfl rfl (.cons (.head _) rfl rfl (.cons (.tail _ (.tail _ (.tail _ (.head _)))) rfl rfl .nil)) (.s rfl rfl rfl) ?_
        refine .v (i := 13) [(36, _)] rfl rfl rfl (.cons (.head _) rfl rfl .nil) (.u rfl rfl rfl) ?_
        refine .v (i := 14) [(37, _), (36, _)] rfl rfl rfl (.cons (.head _) rfl rfl (.cons (.tail _ (.head _)) rfl rfl .nil)) (.u rfl rfl rfl) ?_
        refine .v (i := 15) [(36, _)] rfl rfl rfl (.cons (.tail _ (.tail _ (.head _))) rfl rfl .nil) (.u rfl rfl rfl) ?_
        refine .v (i := 16) [(39, _), (36, _)] rfl rfl rfl (.cons (.head _) rfl rfl (.cons (.tail _ (.tail _ (.tail _ (.head _)))) rfl rfl .nil)) (.u rfl rfl rfl) ?_
        refine .v (i := 17) [(40, _), (36, _)] rfl rfl rfl (.cons (.head _) rfl rfl (.cons (.tail _ (.tail _ (.tail _ (.tail _ (.head _))))) rfl rfl .nil)) (.u rfl rfl rfl) ?_
        refine .v (i := 18) [(36, _)] rfl rfl rfl (.cons (.tail _ (.tail _ (.tail _ (.tail _ (.tail _ (.head _)))))) rfl rfl .nil) (.u rfl rfl rfl) ?_
        refine .v (i := 19) [(42, _), (36, _)] rfl rfl rfl (.cons (.head _) rfl rfl (.cons (.tail _ (.tail _ (.tail _ (.tail _ (.tail _ (.tail _ (.head _))))))) rfl rfl .nil)) (.u rfl rfl rfl) ?_
        refine .v (i := 20) [(41, _), (43, _), (36, _)] rfl rfl rfl (.cons (.tail _ (.tail _ (.head _))) rfl rfl (.cons (.head _) rfl rfl (.cons (.tail _ (.tail _ (.tail _ (.tail _ (.tail _ (.tail _ (.tail _ (.head _)))))))) rfl rfl .nil))) (.u rfl rfl rfl) ?_
        refine .tail0 21 [[21, 14, 20, 12, 13, 17, 19, 11, 8, 16, 18, 10, 7, 3, 15, 9, 6, 2, 5, 1, 4, 0], [22, 12, 21, 8, 11, 14, 20, 7, 3, 10, 13, 17, 19, 6, 2, 9, 16, 18, 5, 1, 15, 4, 0], [23, 8, 22, 7, 3, 12, 21, 6, 2, 11, 14, 20, 5, 1, 10, 13, 17, 19, 4, 0, 9, 16, 18, 15]] rfl rfl rfl rfl (e' := [(44, _), (43, _), (42, _), (41, _), (40, _), (39, _), (38, _), (37, _), (36, _), (35, _), (34, _), (33, _), (32, _), (31, _), (30, _), (29, _), (28, _), (27, _), (26, _), (25, _), (24, _), (1, _), (5, _), (6, _), (7, _), (8, _), (9, _)]) rfl ?_
        refine .gu rfl rfl rfl rfl ?_
        refine .gs rfl rfl rfl rfl ?_
        refine .v (.pkT rfl rfl) rfl ?_
        refine .nil ?_
        refine .then ?_
        refine .condT rfl ?_
        refine .seq ?_
        refine .seq ?_
        refine .region ?_
        have hpos : (0 < out.length ∧ 0 < next) ∨ (out.length = 0 ∧ next = 0) := by rcases hstl with h | h; exact .inr ⟨by rw [h.1]; rfl, h.2⟩; exact .inl ⟨h.1, h.2.1⟩
        refine .v (.mv rfl) rfl ?_
        refine .v (.lenl Try.underlying59 rfl) rfl ?_
        refine .vs (.gt rfl rfl) rfl (fun h50_8 => ?_) (fun h50_8 => ?_)
        · skip
          have hbad : badId next f.id := by unfold badId; omega
          have hfin : logF 0 d.files = (out, next) := by
            rw [hlg, hdr, logF_stop _ hbad (by omega)]; simp
          refine .nil ?_
          refine .then ?_
          refine .condT rfl ?_
          refine .seq ?_
          refine .region ?_
          refine .v (.mv rfl) rfl ?_
          refine .v (.mv rfl) rfl ?_
          refine .v (.mv rfl) rfl ?_
          refine .v (.asn rfl) rfl ?_
          refine .v (.asn rfl) rfl ?_
          refine .v (.asn rfl) rfl ?_
          refine .nil ?_
          refine .then ?_
          refine .ret ?_
          refine .then_ret ?_
          refine .then_ret ?_
          refine .blk_ret ?_
          refine .then_ret ?_
          refine .then_ret ?_
          refine .blk_ret ?_
          refine .then_ret ?_
          have hv : logD d = out := by unfold logD; rw [hfin]
          refine .freeze (it := it) (.there .here) (fun G1 hle1 hG1 => ?_)
          refine .freeze (it := itL) (.there (.there .here)) (fun G2 hle2 hG2 => ?_)
          exact .done _ [] (.t3 rfl rfl rfl rfl) ((hF.trans hle1).trans hle2) ⟨rfl, _, c1, aL, cL, o, by rw [hv], by rw [hv]; exact (hr.sl encI_ok hG1).mono hle2, by rw [hv]; exact hrL.sl encS_ok hG2⟩ (Inn.keep (.there (.there (.there (.there .here)))))
        · skip
          have hbad : badId next f.id := by unfold badId; omega
          refine .nil ?_
          refine .then ?_
          refine .condF rfl ?_
          refine .skip ?_
          refine .then ?_
          refine .exit ?_
          refine .then_exit ?_
          refine .blk_exit ?_
          refine .then ?_
          refine .region ?_
          refine .v (.mv rfl) rfl ?_
          refine .v (.add rfl rfl (by omega)) rfl ?_
          refine .v (.asn rfl) rfl ?_
          refine .nil ?_
          exact .again (k + 1, out, next, a1, c1, it, aL, cL, itL, o, G0) ⟨by (try dsimp only); omega, by rw [hlg, hdr, logF_skip _ hbad (by omega)], by (try dsimp only); omega, hst, by (try dsimp only); omega, hr, hrL, hG01⟩ (by dsimp only; omega) (.cons rfl rfl (.cons rfl rfl (.cons rfl rfl (.cons rfl rfl (.cons rfl rfl .nil))))) (fun w ho => by dsimp only [List.cons_append, List.nil_append]; exact (subl (.cons _ (.cons_cons _ (.cons_cons _ (.cons_cons _ (.cons_cons _ .slnil)))))) w ho)
      · skip
        refine .v (i := 3) [(26, _)] rfl rfl rfl (.cons (.head _) rfl rfl .nil) (.n (.mv rfl)) ?_
        refine .v (i := 4) [(27, _)] rfl rfl rfl (.cons (.head _) rfl rfl .nil) (.g rfl rfl rfl (.fa0 fl51_0 rfl)) ?_
        refine .v (i := 5) [(28, _), (27, _)] rfl rfl rfl (.cons (.head _) rfl rfl (.cons (.tail _ (.head _)) rfl rfl .nil)) (.g rfl rfl rfl (.ldb ty3 rfl .here rfl)) ?_
        refine .vs (i := 6) [(29, _), (27, _)] rfl rfl rfl (.cons (.head _) rfl rfl (.cons (.tail _ (.tail _ (.head _))) rfl rfl .nil)) (.g rfl rfl rfl (.gt rfl rfl)) (fun h30_9 => ?_) (fun h30_9 => ?_)
        · skip
          refine .v (i := 7) [(27, _), (30, _)] rfl rfl rfl (.cons (.tail _ (.tail _ (.tail _ (.head _)))) rfl rfl (.cons (.head _) rfl rfl .nil)) (.n (.pkF rfl rfl)) ?_
          refine .v (i := 8) [(31, _)] rfl rfl rfl (.cons (.head _) rfl rfl .nil) (.n (.mv rfl)) ?_
          refine .v (i := 9) [(32, _)] rfl rfl rfl (.cons (.head _) rfl rfl .nil) (.s rfl rfl rfl) ?_
          refine .v (i := 10) [(33, _), (32, _)] rfl rfl rfl (.cons (.head _) rfl rfl (.cons (.tail _ (.head _)) rfl rfl .nil)) (.s rfl rfl rfl) ?_
          refine .v (i := 11) [(34, _), (32, _)] rfl rfl rfl (.cons (.head _) rfl rfl (.cons (.tail _ (.tail _ (.head _))) rfl rfl .nil)) (.s rfl rfl rfl) ?_
          refine .v (i := 12) [(35, _), (32, _)] rfl rfl rfl (.cons (.head _) rfl rfl (.cons (.tail _ (.tail _ (.tail _ (.head _)))) rfl rfl .nil)) (.s rfl rfl rfl) ?_
          refine .v (i := 13) [(36, _)] rfl rfl rfl (.cons (.head _) rfl rfl .nil) (.u rfl rfl rfl) ?_
          refine .v (i := 14) [(37, _), (36, _)] rfl rfl rfl (.cons (.head _) rfl rfl (.cons (.tail _ (.head _)) rfl rfl .nil)) (.u rfl rfl rfl) ?_
          refine .v (i := 15) [(36, _)] rfl rfl rfl (.cons (.tail _ (.tail _ (.head _))) rfl rfl .nil) (.u rfl rfl rfl) ?_
          refine .v (i := 16) [(39, _), (36, _)] rfl rfl rfl (.cons (.head _) rfl rfl (.cons (.tail _ (.tail _ (.tail _ (.head _)))) rfl rfl .nil)) (.u rfl rfl rfl) ?_
          refine .v (i := 17) [(40, _), (36, _)] rfl rfl rfl (.cons (.head _) rfl rfl (.cons (.tail _ (.tail _ (.tail _ (.tail _ (.head _))))) rfl rfl .nil)) (.u rfl rfl rfl) ?_
          refine .v (i := 18) [(36, _)] rfl rfl rfl (.cons (.tail _ (.tail _ (.tail _ (.tail _ (.tail _ (.head _)))))) rfl rfl .nil) (.u rfl rfl rfl) ?_
          refine .v (i := 19) [(42, _), (36, _)] rfl rfl rfl (.cons (.head _) rfl rfl (.cons (.tail _ (.tail _ (.tail _ (.tail _ (.tail _ (.tail _ (.head _))))))) rfl rfl .nil)) (.u rfl rfl rfl) ?_
          refine .v (i := 20) [(41, _), (43, _), (36, _)] rfl rfl rfl (.cons (.tail _ (.tail _ (.head _))) rfl rfl (.cons (.head _) rfl rfl (.cons (.tail _ (.tail _ (.tail _ (.tail _ (.tail _ (.tail _ (.tail _ (.head _)))))))) rfl rfl .nil))) (.u rfl rfl rfl) ?_
          refine .tail0 21 [[21, 14, 20, 12, 13, 17, 19, 11, 8, 16, 18, 10, 7, 3, 15, 9, 6, 2, 5, 1, 4, 0], [22, 12, 21, 8, 11, 14, 20, 7, 3, 10, 13, 17, 19, 6, 2, 9, 16, 18, 5, 1, 15, 4, 0], [23, 8, 22, 7, 3, 12, 21, 6, 2, 11, 14, 20, 5, 1, 10, 13, 17, 19, 4, 0, 9, 16, 18, 15]] rfl rfl rfl rfl (e' := [(44, _), (43, _), (42, _), (41, _), (40, _), (39, _), (38, _), (37, _), (36, _), (35, _), (34, _), (33, _), (32, _), (31, _), (30, _), (29, _), (28, _), (27, _), (26, _), (25, _), (24, _), (1, _), (5, _), (6, _), (7, _), (8, _), (9, _)]) rfl ?_
          refine .gu rfl rfl rfl rfl ?_
          refine .gs rfl rfl rfl rfl ?_
          refine .v (.pkT rfl rfl) rfl ?_
          refine .nil ?_
          refine .then ?_
          refine .condT rfl ?_
          refine .seq ?_
          refine .seq ?_
          refine .region ?_
          have hpos : (0 < out.length ∧ 0 < next) ∨ (out.length = 0 ∧ next = 0) := by rcases hstl with h | h; exact .inr ⟨by rw [h.1]; rfl, h.2⟩; exact .inl ⟨h.1, h.2.1⟩
          refine .v (.mv rfl) rfl ?_
          refine .v (.lenl Try.underlying59 rfl) rfl ?_
          refine .vs (.gt rfl rfl) rfl (fun h50_10 => ?_) (fun h50_10 => ?_)
          · skip
            have hbad : badId next f.id := by unfold badId; omega
            have hfin : logF 0 d.files = (out, next) := by
              rw [hlg, hdr, logF_stop _ hbad (by omega)]; simp
            refine .nil ?_
            refine .then ?_
            refine .condT rfl ?_
            refine .seq ?_
            refine .region ?_
            refine .v (.mv rfl) rfl ?_
            refine .v (.mv rfl) rfl ?_
            refine .v (.mv rfl) rfl ?_
            refine .v (.asn rfl) rfl ?_
            refine .v (.asn rfl) rfl ?_
            refine .v (.asn rfl) rfl ?_
            refine .nil ?_
            refine .then ?_
            refine .ret ?_
            refine .then_ret ?_
            refine .then_ret ?_
            refine .blk_ret ?_
            refine .then_ret ?_
            refine .then_ret ?_
            refine .blk_ret ?_
            refine .then_ret ?_
            have hv : logD d = out := by unfold logD; rw [hfin]
            refine .freeze (it := it) (.there .here) (fun G1 hle1 hG1 => ?_)
            refine .freeze (it := itL) (.there (.there .here)) (fun G2 hle2 hG2 => ?_)
            exact .done _ [] (.t3 rfl rfl rfl rfl) ((hF.trans hle1).trans hle2) ⟨rfl, _, c1, aL, cL, o, by rw [hv], by rw [hv]; exact (hr.sl encI_ok hG1).mono hle2, by rw [hv]; exact hrL.sl encS_ok hG2⟩ (Inn.keep (.there (.there (.there (.there .here)))))
          · skip
            have hbad : badId next f.id := by unfold badId; omega
            refine .nil ?_
            refine .then ?_
            refine .condF rfl ?_
            refine .skip ?_
            refine .then ?_
            refine .exit ?_
            refine .then_exit ?_
            refine .blk_exit ?_
            refine .then ?_
            refine .region ?_
            refine .v (.mv rfl) rfl ?_
            refine .v (.add rfl rfl (by omega)) rfl ?_
            refine .v (.asn rfl) rfl ?_
            refine .nil ?_
            exact .again (k + 1, out, next, a1, c1, it, aL, cL, itL, o, G0) ⟨by (try dsimp only); omega, by rw [hlg, hdr, logF_skip _ hbad (by omega)], by (try dsimp only); omega, hst, by (try dsimp only); omega, hr, hrL, hG01⟩ (by dsimp only; omega) (.cons rfl rfl (.cons rfl rfl (.cons rfl rfl (.cons rfl rfl (.cons rfl rfl .nil))))) (fun w ho => by dsimp only [List.cons_append, List.nil_append]; exact (subl (.cons _ (.cons_cons _ (.cons_cons _ (.cons_cons _ (.cons_cons _ .slnil)))))) w ho)
        · skip
          refine .v (i := 7) [(27, _), (30, _)] rfl rfl rfl (.cons (.tail _ (.tail _ (.tail _ (.head _)))) rfl rfl (.cons (.head _) rfl rfl .nil)) (.n (.pkF rfl rfl)) ?_
          refine .v (i := 8) [(31, _)] rfl rfl rfl (.cons (.head _) rfl rfl .nil) (.n (.mv rfl)) ?_
          refine .v (i := 9) [(32, _)] rfl rfl rfl (.cons (.head _) rfl rfl .nil) (.g rfl rfl rfl (.mv rfl)) ?_
          refine .v (i := 10) [(33, _), (32, _)] rfl rfl rfl (.cons (.head _) rfl rfl (.cons (.tail _ (.head _)) rfl rfl .nil)) (.g rfl rfl rfl (.lenl Try.underlying59 rfl)) ?_
          refine .vs (i := 11) [(34, _), (32, _)] rfl rfl rfl (.cons (.head _) rfl rfl (.cons (.tail _ (.tail _ (.head _))) rfl rfl .nil)) (.g rfl rfl rfl (.gt rfl rfl)) (fun h35_11 => ?_) (fun h35_11 => ?_)
          · skip
            obtain ⟨bI, padI, rfl, rfl, hpI⟩ := hr.blk (by omega)
            obtain ⟨s0, r0, hs0, hnx0⟩ := hst.head (by omega)
            have hid0 : (out.map (·.id))[0]? = some s0.id := by rw [hs0]; rfl
            refine .v (i := 12) [(35, _), (32, _)] rfl rfl rfl (.cons (.head _) rfl rfl (.cons (.tail _ (.tail _ (.tail _ (.head _)))) rfl rfl .nil)) (.g rfl rfl rfl (.mv rfl)) ?_
            refine .v (i := 13) [(36, _)] rfl rfl rfl (.cons (.head _) rfl rfl .nil) (.g rfl rfl rfl (.fa0 fl51_0 rfl)) ?_
            refine .v (i := 14) [(37, _), (36, _)] rfl rfl rfl (.cons (.head _) rfl rfl (.cons (.tail _ (.head _)) rfl rfl .nil)) (.g rfl rfl rfl (.ldb ty3 rfl .here rfl)) ?_
            refine .v (i := 15) [(36, _)] rfl rfl rfl (.cons (.tail _ (.tail _ (.head _))) rfl rfl .nil) (.g rfl rfl rfl (.mv rfl)) ?_
            refine .v (i := 16) [(39, _), (36, _)] rfl rfl rfl (.cons (.head _) rfl rfl (.cons (.tail _ (.tail _ (.tail _ (.head _)))) rfl rfl .nil)) (.g rfl rfl rfl (.ixo sl59 rfl rfl 0 ⟨rfl, by omega⟩)) ?_
            refine .v (i := 17) [(40, _), (36, _)] rfl rfl rfl (.cons (.head _) rfl rfl (.cons (.tail _ (.tail _ (.tail _ (.tail _ (.head _))))) rfl rfl .nil)) (.g rfl rfl rfl (.ldb ty3 rfl (.there .here) (encI_ok.get (out.map (·.id)) 0 s0.id hid0 padI 0 _ rfl))) ?_
            refine .v (i := 18) [(36, _)] rfl rfl rfl (.cons (.tail _ (.tail _ (.tail _ (.tail _ (.tail _ (.head _)))))) rfl rfl .nil) (.g rfl rfl rfl (.mv rfl)) ?_
            refine .v (i := 19) [(42, _), (36, _)] rfl rfl rfl (.cons (.head _) rfl rfl (.cons (.tail _ (.tail _ (.tail _ (.tail _ (.tail _ (.tail _ (.head _))))))) rfl rfl .nil)) (.g rfl rfl rfl (.lenl Try.underlying34 rfl)) ?_
            refine .v (i := 20) [(41, _), (43, _), (36, _)] rfl rfl rfl (.cons (.tail _ (.tail _ (.head _))) rfl rfl (.cons (.head _) rfl rfl (.cons (.tail _ (.tail _ (.tail _ (.tail _ (.tail _ (.tail _ (.tail _ (.head _)))))))) rfl rfl .nil))) (.g rfl rfl rfl (.add rfl rfl (by omega))) ?_
            refine .tail0 21 [[21, 14, 20, 12, 13, 17, 19, 11, 8, 16, 18, 10, 7, 3, 15, 9, 6, 2, 5, 1, 4, 0], [22, 12, 21, 8, 11, 14, 20, 7, 3, 10, 13, 17, 19, 6, 2, 9, 16, 18, 5, 1, 15, 4, 0], [23, 8, 22, 7, 3, 12, 21, 6, 2, 11, 14, 20, 5, 1, 10, 13, 17, 19, 4, 0, 9, 16, 18, 15]] rfl rfl rfl rfl (e' := [(44, _), (43, _), (42, _), (41, _), (40, _), (39, _), (38, _), (37, _), (36, _), (35, _), (34, _), (33, _), (32, _), (31, _), (30, _), (29, _), (28, _), (27, _), (26, _), (25, _), (24, _), (1, _), (5, _), (6, _), (7, _), (8, _), (9, _)]) rfl ?_
            refine .g rfl rfl rfl ?_
            refine .vs (.ne rfl rfl) rfl (fun h45_12 => ?_) (fun h45_12 => ?_)
            · skip
              refine .g rfl rfl rfl ?_
              refine .v (.pkT rfl rfl) rfl ?_
              refine .v (.pkF rfl rfl) rfl ?_
              refine .nil ?_
              refine .then ?_
              refine .condT rfl ?_
              refine .seq ?_
              refine .seq ?_
              refine .region ?_
              have hpos : (0 < out.length ∧ 0 < next) ∨ (out.length = 0 ∧ next = 0) := by rcases hstl with h | h; exact .inr ⟨by rw [h.1]; rfl, h.2⟩; exact .inl ⟨h.1, h.2.1⟩
              refine .v (.mv rfl) rfl ?_
              refine .v (.lenl Try.underlying59 rfl) rfl ?_
              refine .vs (.gt rfl rfl) rfl (fun h50_13 => ?_) (fun h50_13 => ?_)
              · skip
                have hbad : badId next f.id := by unfold badId; omega
                have hfin : logF 0 d.files = (out, next) := by
                  rw [hlg, hdr, logF_stop _ hbad (by omega)]; simp
                refine .nil ?_
                refine .then ?_
                refine .condT rfl ?_
                refine .seq ?_
                refine .region ?_
                refine .v (.mv rfl) rfl ?_
                refine .v (.mv rfl) rfl ?_
                refine .v (.mv rfl) rfl ?_
                refine .v (.asn rfl) rfl ?_
                refine .v (.asn rfl) rfl ?_
                refine .v (.asn rfl) rfl ?_
                refine .nil ?_
                refine .then ?_
                refine .ret ?_
                refine .then_ret ?_
                refine .then_ret ?_
                refine .blk_ret ?_
                refine .then_ret ?_
                refine .then_ret ?_
                refine .blk_ret ?_
                refine .then_ret ?_
                have hv : logD d = out := by unfold logD; rw [hfin]
                refine .freeze (it := _) (.there .here) (fun G1 hle1 hG1 => ?_)
                refine .freeze (it := itL) (.there (.there .here)) (fun G2 hle2 hG2 => ?_)
                exact .done _ [] (.t3 rfl rfl rfl rfl) ((hF.trans hle1).trans hle2) ⟨rfl, _, c1, aL, cL, o, by rw [hv], by rw [hv]; exact (hr.sl encI_ok hG1).mono hle2, by rw [hv]; exact hrL.sl encS_ok hG2⟩ (Inn.keep (.there (.there (.there (.there .here)))))
              · skip
                have hbad : badId next f.id := by unfold badId; omega
                refine .nil ?_
                refine .then ?_
                refine .condF rfl ?_
                refine .skip ?_
                refine .then ?_
                refine .exit ?_
                refine .then_exit ?_
                refine .blk_exit ?_
                refine .then ?_
                refine .region ?_
                refine .v (.mv rfl) rfl ?_
                refine .v (.add rfl rfl (by omega)) rfl ?_
                refine .v (.asn rfl) rfl ?_
                refine .nil ?_
                exact .again (k + 1, out, next, some ⟨bI, 0, none⟩, c1, _, aL, cL, itL, o, G0) ⟨by (try dsimp only); omega, by rw [hlg, hdr, logF_skip _ hbad (by omega)], by (try dsimp only); omega, hst, by (try dsimp only); omega, hr, hrL, hG01⟩ (by dsimp only; omega) (.cons rfl rfl (.cons rfl rfl (.cons rfl rfl (.cons rfl rfl (.cons rfl rfl .nil))))) (fun w ho => by dsimp only [List.cons_append, List.nil_append]; exact (subl (.cons _ (.cons_cons _ (.cons_cons _ (.cons_cons _ (.cons_cons _ .slnil)))))) w ho)
            · skip
              refine .g rfl rfl rfl ?_
              refine .v (.pkT rfl rfl) rfl ?_
              refine .v (.pkF rfl rfl) rfl ?_
              refine .nil ?_
              refine .then ?_
              refine .condF rfl ?_
              refine .skip ?_
              refine .then ?_
              refine .seq ?_
              refine .region ?_
              have hpos : (0 < out.length ∧ 0 < next) ∨ (out.length = 0 ∧ next = 0) := by rcases hstl with h | h; exact .inr ⟨by rw [h.1]; rfl, h.2⟩; exact .inl ⟨h.1, h.2.1⟩
              have hbad : ¬ badId next f.id := by unfold badId; omega
              refine .v (.fab fl51_1 rfl) rfl ?_
              refine .v (.ldb ty9 rfl .here rfl) rfl ?_
              refine .v (.fab fl51_2 rfl) rfl ?_
              refine .v (.ldb ty9 rfl .here rfl) rfl ?_
              refine .v (.cat rfl rfl (by omega)) rfl ?_
              refine .cf rfl rfl (Try.call32 _) (rall_fn (fileT f) _ (by omega)) rfl ?_
              rintro _ G14 le15 ⟨a16, c16, rfl, hS16⟩
              replace hS := hS.mono le15
              replace hG01 := hG01.mono le15
              replace hF := hF.trans le15
              refine .v (.mv rfl) rfl ?_
              refine .v (.ext rfl rfl) rfl ?_
              refine .v (.ext rfl rfl) rfl ?_
              refine .v (.asn rfl) rfl ?_
              refine .v (.asn rfl) rfl ?_
              refine .nil ?_
              refine .then ?_
              refine .seq ?_
              refine .region ?_
              refine .v (.mv rfl) rfl ?_
              refine .v (.fa0 fl51_0 rfl) rfl ?_
              refine .v (.ldb ty3 rfl .here rfl) rfl ?_
              refine .nb (.lit1 sl59 ty3 rfl rfl rfl rfl rfl) rfl (fun b17 => ?_)
              refine .ap (.app1 (xs := out.map (·.id)) f.id sl59 ty3 rfl encI_ok rfl rfl hr .here (by omega) (by omega) _ (fun _ => (.there (.there .here)))) rfl (fun a2 c2 it2 hr2 => ?_)
              refine .v (.asn rfl) rfl ?_
              refine .nil ?_
              refine .then ?_
              refine .seq ?_
              refine .region ?_
              refine .v (.mv rfl) rfl ?_
              refine .v (.mv rfl) rfl ?_
              refine .ap (.apps (xs := out.flatMap (·.recs)) (ys := (sgOf f).recs) sl34 ty9 rfl encS_ok (by decide) rfl rfl hrL (fun w R ho => ⟨_, _, ho, hS16⟩) (by omega) (by omega) _ (fun _ => (.there (.there (.there .here))))) rfl (fun aL2 cL2 itL2 hrL2 => ?_)
              refine .v (.asn rfl) rfl ?_
              refine .nil ?_
              refine .then ?_
              refine .region ?_
              refine .v (.mv rfl) rfl ?_
              refine .v (.lens Try.underlying9 rfl) rfl ?_
              refine .v (.eq rfl rfl) rfl ?_
              refine .v (.mv rfl) rfl ?_
              refine .cs (t := 74) rfl (fun c74_18 => ?_) (fun c74_18 => ?_)
              · skip
                refine .g rfl rfl rfl ?_
                refine .v (.fab fl51_1 rfl) rfl ?_
                refine .g rfl rfl rfl ?_
                refine .v (.ldb ty9 rfl (.there .here) rfl) rfl ?_
                refine .g rfl rfl rfl ?_
                refine .v (.lens Try.underlying9 rfl) rfl ?_
                refine .g rfl rfl rfl ?_
                refine .v (.fab fl51_2 rfl) rfl ?_
                refine .g rfl rfl rfl ?_
                refine .v (.ldb ty9 rfl (.there .here) rfl) rfl ?_
                refine .g rfl rfl rfl ?_
                refine .v (.lens Try.underlying9 rfl) rfl ?_
                refine .g rfl rfl rfl ?_
                refine .v (.add rfl rfl (by omega)) rfl ?_
                refine .g rfl rfl rfl ?_
                refine .v (.lt rfl rfl) rfl ?_
                refine .v (.pkT rfl rfl) rfl ?_
                refine .v (.asn rfl) rfl ?_
                refine .nil ?_
                refine .blk ?_
                refine .then ?_
                refine .region ?_
                refine .v (.mv rfl) rfl ?_
                refine .v (.add rfl rfl (by omega)) rfl ?_
                refine .v (.asn rfl) rfl ?_
                refine .nil ?_
                exact .again (k + 1, out ++ [sgOf f], f.id + (sgOf f).recs.length, a2, c2, it2, aL2, cL2, itL2, decide ((f.firm.size : Int) + (f.loose.size : Int) < 512), G14) ⟨by (try dsimp only); omega, by rw [hlg, hdr, logF_take _ hbad]; simp, by (try dsimp only); omega, hst.snoc hbad, by simp; omega, by rw [List.map_append]; exact hr2, by rw [List.flatMap_append]; simpa using hrL2, hG01⟩ (by dsimp only; omega) (.cons rfl (by rw [List.map_append]; rfl) (.cons rfl (by simp only [List.flatMap_append, List.flatMap_cons, List.flatMap_nil, List.append_nil]) (.cons rfl (by dsimp only) (.cons rfl rfl (.cons rfl rfl .nil))))) (fun w ho => by dsimp only [List.cons_append, List.nil_append]; exact (subl (.cons _ (.cons _ (.cons_cons _ (.cons_cons _ (.cons_cons _ (.cons_cons _ .slnil))))))) w ho)
              · skip
                refine .gs rfl rfl rfl rfl ?_
                refine .gs rfl rfl rfl rfl ?_
                refine .gs rfl rfl rfl rfl ?_
                refine .gs rfl rfl rfl rfl ?_
                refine .gs rfl rfl rfl rfl ?_
                refine .gs rfl rfl rfl rfl ?_
                refine .gs rfl rfl rfl rfl ?_
                refine .gs rfl rfl rfl rfl ?_
                refine .v (.pkF rfl rfl) rfl ?_
                refine .v (.asn rfl) rfl ?_
                refine .nil ?_
                refine .blk ?_
                refine .then ?_
                refine .region ?_
                refine .v (.mv rfl) rfl ?_
                refine .v (.add rfl rfl (by omega)) rfl ?_
                refine .v (.asn rfl) rfl ?_
                refine .nil ?_
                exact .again (k + 1, out ++ [sgOf f], f.id + (sgOf f).recs.length, a2, c2, it2, aL2, cL2, itL2, false, G14) ⟨by (try dsimp only); omega, by rw [hlg, hdr, logF_take _ hbad]; simp, by (try dsimp only); omega, hst.snoc hbad, by simp; omega, by rw [List.map_append]; exact hr2, by rw [List.flatMap_append]; simpa using hrL2, hG01⟩ (by dsimp only; omega) (.cons rfl (by rw [List.map_append]; rfl) (.cons rfl (by simp only [List.flatMap_append, List.flatMap_cons, List.flatMap_nil, List.append_nil]) (.cons rfl (by dsimp only) (.cons rfl rfl (.cons rfl rfl .nil))))) (fun w ho => by dsimp only [List.cons_append, List.nil_append]; exact (subl (.cons _ (.cons _ (.cons_cons _ (.cons_cons _ (.cons_cons _ (.cons_cons _ .slnil))))))) w ho)
          · skip
            have hemp : out = [] := List.eq_nil_of_length_eq_zero (by omega)
            have hz0 : next = 0 := by rcases hstl with h | h; exact h.2; exact absurd h.1 (by rw [hemp]; decide)
            refine .v (i := 12) [(35, _), (32, _)] rfl rfl rfl (.cons (.head _) rfl rfl (.cons (.tail _ (.tail _ (.tail _ (.head _)))) rfl rfl .nil)) (.g rfl rfl rfl (.mv rfl)) ?_
            refine .v (i := 13) [(36, _)] rfl rfl rfl (.cons (.head _) rfl rfl .nil) (.s rfl rfl rfl) ?_
            refine .v (i := 14) [(37, _), (36, _)] rfl rfl rfl (.cons (.head _) rfl rfl (.cons (.tail _ (.head _)) rfl rfl .nil)) (.s rfl rfl rfl) ?_
            refine .v (i := 15) [(36, _)] rfl rfl rfl (.cons (.tail _ (.tail _ (.head _))) rfl rfl .nil) (.s rfl rfl rfl) ?_
            refine .v (i := 16) [(39, _), (36, _)] rfl rfl rfl (.cons (.head _) rfl rfl (.cons (.tail _ (.tail _ (.tail _ (.head _)))) rfl rfl .nil)) (.s rfl rfl rfl) ?_
            refine .v (i := 17) [(40, _), (36, _)] rfl rfl rfl (.cons (.head _) rfl rfl (.cons (.tail _ (.tail _ (.tail _ (.tail _ (.head _))))) rfl rfl .nil)) (.s rfl rfl rfl) ?_
            refine .v (i := 18) [(36, _)] rfl rfl rfl (.cons (.tail _ (.tail _ (.tail _ (.tail _ (.tail _ (.head _)))))) rfl rfl .nil) (.s rfl rfl rfl) ?_
            refine .v (i := 19) [(42, _), (36, _)] rfl rfl rfl (.cons (.head _) rfl rfl (.cons (.tail _ (.tail _ (.tail _ (.tail _ (.tail _ (.tail _ (.head _))))))) rfl rfl .nil)) (.s rfl rfl rfl) ?_
            refine .v (i := 20) [(41, _), (43, _), (36, _)] rfl rfl rfl (.cons (.tail _ (.tail _ (.head _))) rfl rfl (.cons (.head _) rfl rfl (.cons (.tail _ (.tail _ (.tail _ (.tail _ (.tail _ (.tail _ (.tail _ (.head _)))))))) rfl rfl .nil))) (.s rfl rfl rfl) ?_
            refine .tail0 21 [[21, 14, 20, 12, 13, 17, 19, 11, 8, 16, 18, 10, 7, 3, 15, 9, 6, 2, 5, 1, 4, 0], [22, 12, 21, 8, 11, 14, 20, 7, 3, 10, 13, 17, 19, 6, 2, 9, 16, 18, 5, 1, 15, 4, 0], [23, 8, 22, 7, 3, 12, 21, 6, 2, 11, 14, 20, 5, 1, 10, 13, 17, 19, 4, 0, 9, 16, 18, 15]] rfl rfl rfl rfl (e' := [(44, _), (43, _), (42, _), (41, _), (40, _), (39, _), (38, _), (37, _), (36, _), (35, _), (34, _), (33, _), (32, _), (31, _), (30, _), (29, _), (28, _), (27, _), (26, _), (25, _), (24, _), (1, _), (5, _), (6, _), (7, _), (8, _), (9, _)]) rfl ?_
            refine .gs rfl rfl rfl rfl ?_
            refine .g rfl rfl rfl ?_
            refine .v (.pkF rfl rfl) rfl ?_
            refine .v (.pkF rfl rfl) rfl ?_
            refine .nil ?_
            refine .then ?_
            refine .condF rfl ?_
            refine .skip ?_
            refine .then ?_
            refine .seq ?_
            refine .region ?_
            have hpos : (0 < out.length ∧ 0 < next) ∨ (out.length = 0 ∧ next = 0) := by rcases hstl with h | h; exact .inr ⟨by rw [h.1]; rfl, h.2⟩; exact .inl ⟨h.1, h.2.1⟩
            have hbad : ¬ badId next f.id := by unfold badId; omega
            refine .v (.fab fl51_1 rfl) rfl ?_
            refine .v (.ldb ty9 rfl .here rfl) rfl ?_
            refine .v (.fab fl51_2 rfl) rfl ?_
            refine .v (.ldb ty9 rfl .here rfl) rfl ?_
            refine .v (.cat rfl rfl (by omega)) rfl ?_
            refine .cf rfl rfl (Try.call32 _) (rall_fn (fileT f) _ (by omega)) rfl ?_
            rintro _ G19 le20 ⟨a21, c21, rfl, hS21⟩
            replace hS := hS.mono le20
            replace hG01 := hG01.mono le20
            replace hF := hF.trans le20
            refine .v (.mv rfl) rfl ?_
            refine .v (.ext rfl rfl) rfl ?_
            refine .v (.ext rfl rfl) rfl ?_
            refine .v (.asn rfl) rfl ?_
            refine .v (.asn rfl) rfl ?_
            refine .nil ?_
            refine .then ?_
            refine .seq ?_
            refine .region ?_
            refine .v (.mv rfl) rfl ?_
            refine .v (.fa0 fl51_0 rfl) rfl ?_
            refine .v (.ldb ty3 rfl .here rfl) rfl ?_
            refine .nb (.lit1 sl59 ty3 rfl rfl rfl rfl rfl) rfl (fun b22 => ?_)
            refine .ap (.app1 (xs := out.map (·.id)) f.id sl59 ty3 rfl encI_ok rfl rfl hr .here (by omega) (by omega) _ (fun _ => (.there (.there .here)))) rfl (fun a2 c2 it2 hr2 => ?_)
            refine .v (.asn rfl) rfl ?_
            refine .nil ?_
            refine .then ?_
            refine .seq ?_
            refine .region ?_
            refine .v (.mv rfl) rfl ?_
            refine .v (.mv rfl) rfl ?_
            refine .ap (.apps (xs := out.flatMap (·.recs)) (ys := (sgOf f).recs) sl34 ty9 rfl encS_ok (by decide) rfl rfl hrL (fun w R ho => ⟨_, _, ho, hS21⟩) (by omega) (by omega) _ (fun _ => (.there (.there (.there .here))))) rfl (fun aL2 cL2 itL2 hrL2 => ?_)
            refine .v (.asn rfl) rfl ?_
            refine .nil ?_
            refine .then ?_
            refine .region ?_
            refine .v (.mv rfl) rfl ?_
            refine .v (.lens Try.underlying9 rfl) rfl ?_
            refine .v (.eq rfl rfl) rfl ?_
            refine .v (.mv rfl) rfl ?_
            refine .cs (t := 74) rfl (fun c74_23 => ?_) (fun c74_23 => ?_)
            · skip
              refine .g rfl rfl rfl ?_
              refine .v (.fab fl51_1 rfl) rfl ?_
              refine .g rfl rfl rfl ?_
              refine .v (.ldb ty9 rfl (.there .here) rfl) rfl ?_
              refine .g rfl rfl rfl ?_
              refine .v (.lens Try.underlying9 rfl) rfl ?_
              refine .g rfl rfl rfl ?_
              refine .v (.fab fl51_2 rfl) rfl ?_
              refine .g rfl rfl rfl ?_
              refine .v (.ldb ty9 rfl (.there .here) rfl) rfl ?_
              refine .g rfl rfl rfl ?_
              refine .v (.lens Try.underlying9 rfl) rfl ?_
              refine .g rfl rfl rfl ?_
              refine .v (.add rfl rfl (by omega)) rfl ?_
              refine .g rfl rfl rfl ?_
              refine .v (.lt rfl rfl) rfl ?_
              refine .v (.pkT rfl rfl) rfl ?_
              refine .v (.asn rfl) rfl ?_
              refine .nil ?_
              refine .blk ?_
              refine .then ?_
              refine .region ?_
              refine .v (.mv rfl) rfl ?_
              refine .v (.add rfl rfl (by omega)) rfl ?_
              refine .v (.asn rfl) rfl ?_
              refine .nil ?_
              exact .again (k + 1, out ++ [sgOf f], f.id + (sgOf f).recs.length, a2, c2, it2, aL2, cL2, itL2, decide ((f.firm.size : Int) + (f.loose.size : Int) < 512), G19) ⟨by (try dsimp only); omega, by rw [hlg, hdr, logF_take _ hbad]; simp, by (try dsimp only); omega, hst.snoc hbad, by simp; omega, by rw [List.map_append]; exact hr2, by rw [List.flatMap_append]; simpa using hrL2, hG01⟩ (by dsimp only; omega) (.cons rfl (by rw [List.map_append]; rfl) (.cons rfl (by simp only [List.flatMap_append, List.flatMap_cons, List.flatMap_nil, List.append_nil]) (.cons rfl (by dsimp only) (.cons rfl rfl (.cons rfl rfl .nil))))) (fun w ho => by dsimp only [List.cons_append, List.nil_append]; exact (subl (.cons _ (.cons _ (.cons_cons _ (.cons_cons _ (.cons_cons _ (.cons_cons _ .slnil))))))) w ho)
            · skip
              refine .gs rfl rfl rfl rfl ?_
              refine .gs rfl rfl rfl rfl ?_
              refine .gs rfl rfl rfl rfl ?_
              refine .gs rfl rfl rfl rfl ?_
              refine .gs rfl rfl rfl rfl ?_
              refine .gs rfl rfl rfl rfl ?_
              refine .gs rfl rfl rfl rfl ?_
              refine .gs rfl rfl rfl rfl ?_
              refine .v (.pkF rfl rfl) rfl ?_
              refine .v (.asn rfl) rfl ?_
              refine .nil ?_
              refine .blk ?_
              refine .then ?_
              refine .region ?_
              refine .v (.mv rfl) rfl ?_
              refine .v (.add rfl rfl (by omega)) rfl ?_
              refine .v (.asn rfl) rfl ?_
              refine .nil ?_
              exact .again (k + 1, out ++ [sgOf f], f.id + (sgOf f).recs.length, a2, c2, it2, aL2, cL2, itL2, false, G19) ⟨by (try dsimp only); omega, by rw [hlg, hdr, logF_take _ hbad]; simp, by (try dsimp only); omega, hst.snoc hbad, by simp; omega, by rw [List.map_append]; exact hr2, by rw [List.flatMap_append]; simpa using hrL2, hG01⟩ (by dsimp only; omega) (.cons rfl (by rw [List.map_append]; rfl) (.cons rfl (by simp only [List.flatMap_append, List.flatMap_cons, List.flatMap_nil, List.append_nil]) (.cons rfl (by dsimp only) (.cons rfl rfl (.cons rfl rfl .nil))))) (fun w ho => by dsimp only [List.cons_append, List.nil_append]; exact (subl (.cons _ (.cons _ (.cons_cons _ (.cons_cons _ (.cons_cons _ (.cons_cons _ .slnil))))))) w ho)
    · skip
      have hfin : logF 0 d.files = (out, next) := by
        rw [hlg, List.drop_of_length_le (by omega)]; simp [logF]
      refine .nil ?_
      refine .then ?_
      refine .condF rfl ?_
      refine .exit ?_
      refine .then_exit ?_
      refine .then_exit ?_
      refine .blk_exit ?_
      refine .then ?_
      refine .seq ?_
      refine .region ?_
      refine .v (.mv rfl) rfl ?_
      refine .v (.mv rfl) rfl ?_
      refine .v (.mv rfl) rfl ?_
      refine .v (.asn rfl) rfl ?_
      refine .v (.asn rfl) rfl ?_
      refine .v (.asn rfl) rfl ?_
      refine .nil ?_
      refine .then ?_
      refine .ret ?_
      have hv : logD d = out := by unfold logD; rw [hfin]
      refine .freeze (it := it) .here (fun G1 hle1 hG1 => ?_)
      refine .freeze (it := itL) (.there .here) (fun G2 hle2 hG2 => ?_)
      exact .done _ [] (.t3 rfl rfl rfl rfl) ((hF.trans hle1).trans hle2) ⟨rfl, _, c1, aL, cL, o, by rw [hv], by rw [hv]; exact (hr.sl encI_ok hG1).mono hle2, by rw [hv]; exact hrL.sl encS_ok hG2⟩ (Inn.keep (.there (.there (.there .here))))
end Go.Proofs.Ytggkhcdilbdifaa.Ow
