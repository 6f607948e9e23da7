/- Walks. -/
import Derived.Test.YtggkhcdilbdifaaWb
import Derived.Test.YtggkhcdilbdifaaWsp
namespace Go.Proofs.Ytggkhcdilbdifaa.Ow
open Go Go.Proofs.Ytggkhcdilbdifaa.Rec
set_option linter.unusedVariables false
theorem text2_fn (d : Dk) (a : Option Addr) (c : Nat) (F : Mem) (hS : Sl F encF 3 a c d.files) (hb : tot d.files ≤ 4611686018427387904) {k : Nat} {f : Fl} (hr : right d = true) (hd : d.down = false) (hf : d.files[k]? = some f) : Fn Try.prog 25 #[dval a c d, .int .i64 f.id] [] F (fun u _ _ => u = .tuple #[.string (fileT f), .int .i64 0]) := by
  have h := text_fn d a c F hS hb f.id
  rw [text_at hr hd hf] at h
  exact h
theorem log_fn (d : Dk) (a : Option Addr) (c : Nat) (F : Mem) (hS : Sl F encF 3 a c d.files) (hb : tot d.files ≤ 4611686018427387904) (hn : d.files.length * 40 ≤ 140737488355328) : Fn Try.prog 18 #[dval a c d] [] F (fun v M G => M = [] ∧ ∃ (l : List KS) (a : Option Addr) (c : Nat), v = .tuple #[.slice a l.length c, .int .i64 (logR d).2.1, .int .i64 (logR d).2.2] ∧ Sl G encG 3 a c l ∧ Segs G l ∧ l.map KS.g = (logR d).1) := by
  refine Fn.start0 Try.func18 rfl Try.ntmps18 rfl (env := [(0, _)]) rfl ?_
  intro R
  refine .seq ?_
  refine .region ?_
  refine .nb (.box rfl rfl) rfl (fun b1 => ?_)
  refine .v (.asn rfl) rfl ?_
  refine .v (.asn rfl) rfl ?_
  refine .v (.asn rfl) rfl ?_
  refine .nil ?_
  refine .then ?_
  refine .seq ?_
  refine .seq ?_
  refine .region ?_
  refine .v (.ldw ty24 rfl .here rfl) rfl ?_
  refine .vb (.call rfl rfl (Try.call29 _) (fun G hle hG => right_fn d a c G (hS.mono hle) hb)) rfl (fun h14_2 => ?_) (fun h14_2 => ?_)
  · skip
    refine .v (.not rfl) rfl ?_
    refine .nil ?_
    refine .then ?_
    refine .condF rfl ?_
    refine .skip ?_
    refine .then ?_
    refine .seq ?_
    refine .seq ?_
    refine .region ?_
    refine .v (.fab fl24_3 rfl) rfl ?_
    refine .v (.ldb ty4 rfl .here rfl) rfl ?_
    refine .nil ?_
    refine .then ?_
    refine .cs (t := 17) rfl (fun c17_3 => ?_) (fun c17_3 => ?_)
    · skip
      refine .condT rfl ?_
      refine .seq ?_
      refine .region ?_
      refine .v (.asn rfl) rfl ?_
      refine .v (.asn rfl) rfl ?_
      refine .v (.asn rfl) rfl ?_
      refine .nil ?_
      refine .then ?_
      refine .ret ?_
      refine .then_ret ?_
      have he : logE d = 7 := by unfold logE; rw [if_neg (by simp [h14_2]), if_pos c17_3]
      exact .done _ [] (.t3 rfl rfl rfl rfl) .rfl ⟨rfl, [], none, 0, by rw [logR_bad (by rw [he]; decide), he]; rfl, .nil, .nil, by rw [logR_bad (by rw [he]; decide)]; rfl⟩ (Inn.keep (.there .here))
    · skip
      refine .condF rfl ?_
      refine .skip ?_
      refine .then ?_
      refine .seq ?_
      refine .region ?_
      refine .v (.asn rfl) rfl ?_
      refine .nil ?_
      refine .then ?_
      refine .seq ?_
      refine .region ?_
      refine .v (.asn rfl) rfl ?_
      refine .nil ?_
      refine .then ?_
      refine .seq ?_
      refine .seq ?_
      refine .region ?_
      have hr0 : right d = true := h14_2
      have hd0 : d.down = false := c17_3
      obtain ⟨hsf, htot, hleft⟩ := right_files hr0
      have hidl := ids_le d
      have hil := ids_len hr0 hd0
      refine .v (.ldw ty24 rfl .here rfl) rfl ?_
      refine .cf rfl rfl (Try.call30 _) (ids_fn d a c _ hS hb hn) rfl ?_
      rintro _ G4 le5 ⟨a6, c6, rfl, hS6⟩
      replace hS := hS.mono le5
      have hF := le5
      refine .v (.lenl Try.underlying59 rfl) rfl ?_
      refine .v (.mv rfl) rfl ?_
      refine .nil ?_
      refine .then ?_
      refine .block ?_
      refine .emp ?_
      refine WC.loopx (fx := [(1, _), (2, _), (3, _), (4, _), (19, _), (20, _)]) (pre := [_]) (fm := [_, _]) rfl (.cons rfl rfl (.cons rfl rfl (.cons rfl rfl (.cons rfl rfl (.cons rfl rfl (.cons rfl rfl .nil)))))) (ι := Nat × List KS × Int × Option Addr × Nat × Itm × Mem) (fun z => z.1 ≤ d.files.length ∧ z.2.1.length ≤ z.1 ∧ logF 0 d.files = (z.2.1.map KS.g ++ (logF z.2.2.1 (d.files.drop z.1)).1, (logF z.2.2.1 (d.files.drop z.1)).2) ∧ (0 ≤ z.2.2.1 ∧ z.2.2.1 ≤ 1099511627776) ∧ Row 57 encG 3 z.2.2.2.1 z.2.2.2.2.1 z.2.1 z.2.2.2.2.2.1 ∧ Segs z.2.2.2.2.2.2 z.2.1 ∧ Le G4 z.2.2.2.2.2.2) (fun z => d.files.length - z.1) (fun z => [(5, .slice z.2.2.2.1 z.2.1.length z.2.2.2.2.1), (6, .int .i64 z.2.2.1), (21, .int .i64 z.1)]) (fun z => [z.2.2.2.2.2.1]) (fun z => z.2.2.2.2.2.2) (0, [], 0, none, 0, [], G4) ⟨by (try dsimp only); omega, by simp, rfl, by (try dsimp only); omega, Row.nil, .nil, .rfl⟩ ?he ?hm ?round
      case he => exact .cons rfl rfl (.cons rfl rfl (.cons rfl rfl (.cons rfl rfl (.cons rfl rfl (.cons rfl rfl (.cons rfl rfl (.cons rfl rfl (.cons rfl rfl .nil))))))))
      case hm => exact (fun _ h => h)
      case round =>
        intro z hk
        obtain ⟨k, out, next, a1, c1, it, G0⟩ := z
        obtain ⟨hk, hol, hlg, hnx, hr, hsg, hG01⟩ := hk
        dsimp only at hk hol hlg hnx hr hsg hG01 ⊢
        replace hS := hS.mono hG01
        replace hS6 := hS6.mono hG01
        replace hF := hF.trans hG01
        dsimp only [List.cons_append, List.nil_append]
        refine .seq ?_
        refine .region ?_
        refine .vs (.lt rfl rfl) rfl (fun h22_7 => ?_) (fun h22_7 => ?_)
        · skip
          obtain ⟨n0, hn0⟩ : ∃ y, (ids d)[k]? = some y := ⟨_, List.getElem?_eq_getElem (by omega)⟩
          obtain ⟨f, hf, rfl⟩ := ids_get hn0
          have hdr := drop_get hf
          have hft := tot_get hf
          have hfz := fileT_size f
          have hal := allB_len (fileT f)
          have hrl : (sgOf f).recs.length = (allB (fileT f)).1.length := rfl
          refine .nil ?_
          refine .then ?_
          refine .seq ?_
          refine .condT rfl ?_
          refine .skip ?_
          refine .then ?_
          refine .seq ?_
          refine .block ?_
          refine .seq ?_
          refine .region ?_
          refine .ix sl59 rfl rfl hS6 rfl f.id ⟨by omega, hn0⟩ (fun p8 o9 r10 => ?_)
          refine .v (.ldr0 ty3 rfl r10 rfl) rfl ?_
          refine .v (.asn rfl) rfl ?_
          refine .nil ?_
          refine .then ?_
          refine .seq ?_
          refine .seq ?_
          refine .region ?_
          refine .v (.mv rfl) rfl ?_
          refine .vs (.lt rfl rfl) rfl (fun h26_11 => ?_) (fun h26_11 => ?_)
          · skip
            refine .v (.mv rfl) rfl ?_
            refine .gs rfl rfl rfl rfl ?_
            refine .gs rfl rfl rfl rfl ?_
            refine .v (.pkT rfl rfl) rfl ?_
            refine .v (.mv rfl) rfl ?_
            refine .gs rfl rfl rfl rfl ?_
            refine .gs rfl rfl rfl rfl ?_
            refine .gs rfl rfl rfl rfl ?_
            refine .gu rfl rfl rfl rfl ?_
            refine .gu rfl rfl rfl rfl ?_
            refine .gu rfl rfl rfl rfl ?_
            refine .gs rfl rfl rfl rfl ?_
            refine .v (.pkT rfl rfl) rfl ?_
            refine .nil ?_
            refine .then ?_
            refine .condT rfl ?_
            refine .seq ?_
            refine .seq ?_
            refine .region ?_
            refine .v (.mv rfl) rfl ?_
            refine .vs (.gt rfl rfl) rfl (fun h41_12 => ?_) (fun h41_12 => ?_)
            · skip
              have hbad : badId next f.id := by unfold badId; omega
              have hfin : logF 0 d.files = (out.map KS.g, next) := by
                rw [hlg, hdr, logF_stop _ hbad (by omega)]; simp
              refine .nil ?_
              refine .then ?_
              refine .condT rfl ?_
              refine .exit ?_
              refine .then_exit ?_
              refine .then_exit ?_
              refine .blk_other rfl ?_
              refine .then_exit ?_
              refine .then_exit ?_
              refine .blk_exit ?_
              refine .then ?_
              refine .seq ?_
              refine .region ?_
              refine .v (.mv rfl) rfl ?_
              refine .v (.mv rfl) rfl ?_
              refine .v (.max rfl rfl) rfl ?_
              refine .v (.asn rfl) rfl ?_
              refine .v (.asn rfl) rfl ?_
              refine .v (.asn rfl) rfl ?_
              refine .nil ?_
              refine .then ?_
              refine .ret ?_
              refine .freeze (it := it) .here (fun G hle hG => ?_)
              have hv : logR d = (out.map KS.g, if 1 > next then 1 else next, 0) := by rw [logR_ok (logE_ok hr0 hd0)]; unfold logD nextD; rw [hfin]
              exact .done _ [] (.t3 rfl rfl rfl rfl) (hF.trans hle) ⟨rfl, out, a1, c1, by rw [hv], hr.sl encG_ok hG, hsg.mono hle, by rw [hv]⟩ (Inn.keep (.there (.there .here)))
            · skip
              have hbad : badId next f.id := by unfold badId; omega
              refine .nil ?_
              refine .then ?_
              refine .condF rfl ?_
              refine .skip ?_
              refine .then ?_
              refine .exit ?_
              refine .then_exit ?_
              refine .blk_exit ?_
              refine .then ?_
              refine .region ?_
              refine .v (.add rfl rfl (by omega)) rfl ?_
              refine .v (.mv rfl) rfl ?_
              refine .nil ?_
              exact .again (k + 1, out, next, a1, c1, it, G0) ⟨by (try dsimp only); omega, by (try dsimp only); omega, by rw [hlg, hdr, logF_skip _ hbad (by omega)], by (try dsimp only); omega, hr, hsg, hG01⟩ (by dsimp only; omega) (.cons rfl rfl (.cons rfl rfl (.cons rfl rfl (.cons rfl rfl (.cons rfl rfl (.cons rfl rfl (.cons rfl rfl (.cons rfl rfl (.cons rfl rfl .nil))))))))) (fun w ho => by dsimp only [List.cons_append, List.nil_append]; exact (subl (.cons_cons _ (.cons_cons _ (.cons_cons _ .slnil)))) w ho)
          · skip
            refine .v (.mv rfl) rfl ?_
            refine .g rfl rfl rfl ?_
            refine .v (.mv rfl) rfl ?_
            refine .g rfl rfl rfl ?_
            refine .vs (.gt rfl rfl) rfl (fun h29_13 => ?_) (fun h29_13 => ?_)
            · skip
              refine .v (.pkF rfl rfl) rfl ?_
              refine .v (.mv rfl) rfl ?_
              refine .gs rfl rfl rfl rfl ?_
              refine .gs rfl rfl rfl rfl ?_
              refine .gs rfl rfl rfl rfl ?_
              refine .gu rfl rfl rfl rfl ?_
              refine .gu rfl rfl rfl rfl ?_
              refine .gu rfl rfl rfl rfl ?_
              refine .gs rfl rfl rfl rfl ?_
              refine .v (.pkT rfl rfl) rfl ?_
              refine .nil ?_
              refine .then ?_
              refine .condT rfl ?_
              refine .seq ?_
              refine .seq ?_
              refine .region ?_
              refine .v (.mv rfl) rfl ?_
              refine .vs (.gt rfl rfl) rfl (fun h41_14 => ?_) (fun h41_14 => ?_)
              · skip
                have hbad : badId next f.id := by unfold badId; omega
                have hfin : logF 0 d.files = (out.map KS.g, next) := by
                  rw [hlg, hdr, logF_stop _ hbad (by omega)]; simp
                refine .nil ?_
                refine .then ?_
                refine .condT rfl ?_
                refine .exit ?_
                refine .then_exit ?_
                refine .then_exit ?_
                refine .blk_other rfl ?_
                refine .then_exit ?_
                refine .then_exit ?_
                refine .blk_exit ?_
                refine .then ?_
                refine .seq ?_
                refine .region ?_
                refine .v (.mv rfl) rfl ?_
                refine .v (.mv rfl) rfl ?_
                refine .v (.max rfl rfl) rfl ?_
                refine .v (.asn rfl) rfl ?_
                refine .v (.asn rfl) rfl ?_
                refine .v (.asn rfl) rfl ?_
                refine .nil ?_
                refine .then ?_
                refine .ret ?_
                refine .freeze (it := it) .here (fun G hle hG => ?_)
                have hv : logR d = (out.map KS.g, if 1 > next then 1 else next, 0) := by rw [logR_ok (logE_ok hr0 hd0)]; unfold logD nextD; rw [hfin]
                exact .done _ [] (.t3 rfl rfl rfl rfl) (hF.trans hle) ⟨rfl, out, a1, c1, by rw [hv], hr.sl encG_ok hG, hsg.mono hle, by rw [hv]⟩ (Inn.keep (.there (.there .here)))
              · skip
                have hbad : badId next f.id := by unfold badId; omega
                refine .nil ?_
                refine .then ?_
                refine .condF rfl ?_
                refine .skip ?_
                refine .then ?_
                refine .exit ?_
                refine .then_exit ?_
                refine .blk_exit ?_
                refine .then ?_
                refine .region ?_
                refine .v (.add rfl rfl (by omega)) rfl ?_
                refine .v (.mv rfl) rfl ?_
                refine .nil ?_
                exact .again (k + 1, out, next, a1, c1, it, G0) ⟨by (try dsimp only); omega, by (try dsimp only); omega, by rw [hlg, hdr, logF_skip _ hbad (by omega)], by (try dsimp only); omega, hr, hsg, hG01⟩ (by dsimp only; omega) (.cons rfl rfl (.cons rfl rfl (.cons rfl rfl (.cons rfl rfl (.cons rfl rfl (.cons rfl rfl (.cons rfl rfl (.cons rfl rfl (.cons rfl rfl .nil))))))))) (fun w ho => by dsimp only [List.cons_append, List.nil_append]; exact (subl (.cons_cons _ (.cons_cons _ (.cons_cons _ .slnil)))) w ho)
            · skip
              refine .v (.pkF rfl rfl) rfl ?_
              refine .v (.mv rfl) rfl ?_
              refine .g rfl rfl rfl ?_
              refine .v (.mv rfl) rfl ?_
              refine .g rfl rfl rfl ?_
              refine .vs (.gt rfl rfl) rfl (fun h33_15 => ?_) (fun h33_15 => ?_)
              · skip
                refine .g rfl rfl rfl ?_
                refine .v (.mv rfl) rfl ?_
                refine .g rfl rfl rfl ?_
                refine .v (.mv rfl) rfl ?_
                refine .g rfl rfl rfl ?_
                refine .v (.mv rfl) rfl ?_
                refine .g rfl rfl rfl ?_
                refine .vs (.ne rfl rfl) rfl (fun h37_16 => ?_) (fun h37_16 => ?_)
                · skip
                  refine .g rfl rfl rfl ?_
                  refine .v (.pkT rfl rfl) rfl ?_
                  refine .v (.pkF rfl rfl) rfl ?_
                  refine .nil ?_
                  refine .then ?_
                  refine .condT rfl ?_
                  refine .seq ?_
                  refine .seq ?_
                  refine .region ?_
                  refine .v (.mv rfl) rfl ?_
                  refine .vs (.gt rfl rfl) rfl (fun h41_17 => ?_) (fun h41_17 => ?_)
                  · skip
                    have hbad : badId next f.id := by unfold badId; omega
                    have hfin : logF 0 d.files = (out.map KS.g, next) := by
                      rw [hlg, hdr, logF_stop _ hbad (by omega)]; simp
                    refine .nil ?_
                    refine .then ?_
                    refine .condT rfl ?_
                    refine .exit ?_
                    refine .then_exit ?_
                    refine .then_exit ?_
                    refine .blk_other rfl ?_
                    refine .then_exit ?_
                    refine .then_exit ?_
                    refine .blk_exit ?_
                    refine .then ?_
                    refine .seq ?_
                    refine .region ?_
                    refine .v (.mv rfl) rfl ?_
                    refine .v (.mv rfl) rfl ?_
                    refine .v (.max rfl rfl) rfl ?_
                    refine .v (.asn rfl) rfl ?_
                    refine .v (.asn rfl) rfl ?_
                    refine .v (.asn rfl) rfl ?_
                    refine .nil ?_
                    refine .then ?_
                    refine .ret ?_
                    refine .freeze (it := it) .here (fun G hle hG => ?_)
                    have hv : logR d = (out.map KS.g, if 1 > next then 1 else next, 0) := by rw [logR_ok (logE_ok hr0 hd0)]; unfold logD nextD; rw [hfin]
                    exact .done _ [] (.t3 rfl rfl rfl rfl) (hF.trans hle) ⟨rfl, out, a1, c1, by rw [hv], hr.sl encG_ok hG, hsg.mono hle, by rw [hv]⟩ (Inn.keep (.there (.there .here)))
                  · skip
                    have hbad : badId next f.id := by unfold badId; omega
                    refine .nil ?_
                    refine .then ?_
                    refine .condF rfl ?_
                    refine .skip ?_
                    refine .then ?_
                    refine .exit ?_
                    refine .then_exit ?_
                    refine .blk_exit ?_
                    refine .then ?_
                    refine .region ?_
                    refine .v (.add rfl rfl (by omega)) rfl ?_
                    refine .v (.mv rfl) rfl ?_
                    refine .nil ?_
                    exact .again (k + 1, out, next, a1, c1, it, G0) ⟨by (try dsimp only); omega, by (try dsimp only); omega, by rw [hlg, hdr, logF_skip _ hbad (by omega)], by (try dsimp only); omega, hr, hsg, hG01⟩ (by dsimp only; omega) (.cons rfl rfl (.cons rfl rfl (.cons rfl rfl (.cons rfl rfl (.cons rfl rfl (.cons rfl rfl (.cons rfl rfl (.cons rfl rfl (.cons rfl rfl .nil))))))))) (fun w ho => by dsimp only [List.cons_append, List.nil_append]; exact (subl (.cons_cons _ (.cons_cons _ (.cons_cons _ .slnil)))) w ho)
                · skip
                  refine .g rfl rfl rfl ?_
                  refine .v (.pkT rfl rfl) rfl ?_
                  refine .v (.pkF rfl rfl) rfl ?_
                  refine .nil ?_
                  refine .then ?_
                  refine .condF rfl ?_
                  refine .skip ?_
                  refine .then ?_
                  refine .seq ?_
                  refine .region ?_
                  have hbad : ¬ badId next f.id := by unfold badId; omega
                  have hfs : (fileT f).size ≤ 1048576 := by omega
                  refine .v (.ldw ty24 rfl (.there .here) rfl) rfl ?_
                  refine .v (.mv rfl) rfl ?_
                  refine .v (.call rfl rfl (Try.call25 _) (fun G hle hG => text2_fn d a c G (hS.mono hle) hb hr0 hd0 hf)) rfl ?_
                  refine .v (.mv rfl) rfl ?_
                  refine .v (.ext rfl rfl) rfl ?_
                  refine .v (.ext rfl rfl) rfl ?_
                  refine .v (.asn rfl) rfl ?_
                  refine .v (.asn rfl) rfl ?_
                  refine .nil ?_
                  refine .then ?_
                  refine .seq ?_
                  refine .region ?_
                  refine .v (.mv rfl) rfl ?_
                  refine .cf rfl rfl (Try.call31 _) (all_fn (fileT f) _ hfs) rfl ?_
                  rintro _ G18 le19 ⟨a20, c20, rfl, hS20⟩
                  replace hS := hS.mono le19
                  replace hS6 := hS6.mono le19
                  replace hG01 := hG01.mono le19
                  replace hsg := hsg.mono le19
                  replace hF := hF.trans le19
                  refine .v (.mv rfl) rfl ?_
                  refine .v (.ext rfl rfl) rfl ?_
                  refine .v (.ext rfl rfl) rfl ?_
                  refine .v (.asn rfl) rfl ?_
                  refine .v (.asn rfl) rfl ?_
                  refine .nil ?_
                  refine .then ?_
                  refine .seq ?_
                  refine .region ?_
                  refine .v (.mv rfl) rfl ?_
                  refine .v (.mv rfl) rfl ?_
                  refine .v (.mv rfl) rfl ?_
                  refine .v (.mv rfl) rfl ?_
                  refine .v (.eqs rfl rfl) rfl ?_
                  refine .v (.mv rfl) rfl ?_
                  refine .cs (t := 58) rfl (fun c58_21 => ?_) (fun c58_21 => ?_)
                  · skip
                    refine .g rfl rfl rfl ?_
                    refine .v (.mv rfl) rfl ?_
                    refine .g rfl rfl rfl ?_
                    refine .v (.lens Try.underlying9 rfl) rfl ?_
                    refine .g rfl rfl rfl ?_
                    refine .v (.lt rfl rfl) rfl ?_
                    refine .v (.pkT rfl rfl) rfl ?_
                    refine .kn (t := 62) (v := .bool (sgOf f).op) rfl (congrArg Value.bool (by unfold sgOf; simp only [c58_21, Bool.true_and, Bool.false_and])) ?_
                    refine .v (.build rfl (fun w => bd57_0_1_2 w _ _ _ _ _)) rfl ?_
                    refine .nb (.lit1 sl52 ty57 rfl rfl rfl rfl rfl) rfl (fun b22 => ?_)
                    refine .ap (.app1 (xs := out) (⟨sgOf f, a20, c20⟩) sl52 ty57 rfl encG_ok rfl rfl hr .here (by omega) (by omega) _ (fun _ => (.there .here))) rfl (fun a2 c2 it2 hr2 => ?_)
                    refine .v (.asn rfl) rfl ?_
                    refine .nil ?_
                    refine .then ?_
                    refine .region ?_
                    refine .v (.mv rfl) rfl ?_
                    refine .v (.mv rfl) rfl ?_
                    refine .v (.lenl Try.underlying34 rfl) rfl ?_
                    refine .v (.add rfl rfl (by omega)) rfl ?_
                    refine .v (.asn rfl) rfl ?_
                    refine .nil ?_
                    refine .blk ?_
                    refine .then ?_
                    refine .region ?_
                    refine .v (.add rfl rfl (by omega)) rfl ?_
                    refine .v (.mv rfl) rfl ?_
                    refine .nil ?_
                    exact .again (k + 1, out ++ [⟨sgOf f, a20, c20⟩], f.id + (sgOf f).recs.length, a2, c2, it2, G18) ⟨by (try dsimp only); omega, by simp; omega, by rw [hlg, hdr, logF_take _ hbad]; simp, by (try dsimp only); omega, hr2, hsg.snoc hS20, hG01⟩ (by dsimp only; omega) (.cons rfl rfl (.cons rfl rfl (.cons rfl rfl (.cons rfl rfl (.cons rfl rfl (.cons rfl rfl (.cons rfl rfl (.cons rfl rfl (.cons rfl rfl .nil))))))))) (fun w ho => by dsimp only [List.cons_append, List.nil_append]; exact (subl (.cons _ (.cons_cons _ (.cons_cons _ (.cons_cons _ .slnil))))) w ho)
                  · skip
                    refine .gs rfl rfl rfl rfl ?_
                    refine .gs rfl rfl rfl rfl ?_
                    refine .gs rfl rfl rfl rfl ?_
                    refine .v (.pkF rfl rfl) rfl ?_
                    refine .kn (t := 62) (v := .bool (sgOf f).op) rfl (congrArg Value.bool (by unfold sgOf; simp only [c58_21, Bool.true_and, Bool.false_and])) ?_
                    refine .v (.build rfl (fun w => bd57_0_1_2 w _ _ _ _ _)) rfl ?_
                    refine .nb (.lit1 sl52 ty57 rfl rfl rfl rfl rfl) rfl (fun b23 => ?_)
                    refine .ap (.app1 (xs := out) (⟨sgOf f, a20, c20⟩) sl52 ty57 rfl encG_ok rfl rfl hr .here (by omega) (by omega) _ (fun _ => (.there .here))) rfl (fun a2 c2 it2 hr2 => ?_)
                    refine .v (.asn rfl) rfl ?_
                    refine .nil ?_
                    refine .then ?_
                    refine .region ?_
                    refine .v (.mv rfl) rfl ?_
                    refine .v (.mv rfl) rfl ?_
                    refine .v (.lenl Try.underlying34 rfl) rfl ?_
                    refine .v (.add rfl rfl (by omega)) rfl ?_
                    refine .v (.asn rfl) rfl ?_
                    refine .nil ?_
                    refine .blk ?_
                    refine .then ?_
                    refine .region ?_
                    refine .v (.add rfl rfl (by omega)) rfl ?_
                    refine .v (.mv rfl) rfl ?_
                    refine .nil ?_
                    exact .again (k + 1, out ++ [⟨sgOf f, a20, c20⟩], f.id + (sgOf f).recs.length, a2, c2, it2, G18) ⟨by (try dsimp only); omega, by simp; omega, by rw [hlg, hdr, logF_take _ hbad]; simp, by (try dsimp only); omega, hr2, hsg.snoc hS20, hG01⟩ (by dsimp only; omega) (.cons rfl rfl (.cons rfl rfl (.cons rfl rfl (.cons rfl rfl (.cons rfl rfl (.cons rfl rfl (.cons rfl rfl (.cons rfl rfl (.cons rfl rfl .nil))))))))) (fun w ho => by dsimp only [List.cons_append, List.nil_append]; exact (subl (.cons _ (.cons_cons _ (.cons_cons _ (.cons_cons _ .slnil))))) w ho)
              · skip
                refine .g rfl rfl rfl ?_
                refine .v (.mv rfl) rfl ?_
                refine .gs rfl rfl rfl rfl ?_
                refine .gs rfl rfl rfl rfl ?_
                refine .gs rfl rfl rfl rfl ?_
                refine .g rfl rfl rfl ?_
                refine .v (.pkF rfl rfl) rfl ?_
                refine .v (.pkF rfl rfl) rfl ?_
                refine .nil ?_
                refine .then ?_
                refine .condF rfl ?_
                refine .skip ?_
                refine .then ?_
                refine .seq ?_
                refine .region ?_
                have hbad : ¬ badId next f.id := by unfold badId; omega
                have hfs : (fileT f).size ≤ 1048576 := by omega
                refine .v (.ldw ty24 rfl (.there .here) rfl) rfl ?_
                refine .v (.mv rfl) rfl ?_
                refine .v (.call rfl rfl (Try.call25 _) (fun G hle hG => text2_fn d a c G (hS.mono hle) hb hr0 hd0 hf)) rfl ?_
                refine .v (.mv rfl) rfl ?_
                refine .v (.ext rfl rfl) rfl ?_
                refine .v (.ext rfl rfl) rfl ?_
                refine .v (.asn rfl) rfl ?_
                refine .v (.asn rfl) rfl ?_
                refine .nil ?_
                refine .then ?_
                refine .seq ?_
                refine .region ?_
                refine .v (.mv rfl) rfl ?_
                refine .cf rfl rfl (Try.call31 _) (all_fn (fileT f) _ hfs) rfl ?_
                rintro _ G24 le25 ⟨a26, c26, rfl, hS26⟩
                replace hS := hS.mono le25
                replace hS6 := hS6.mono le25
                replace hG01 := hG01.mono le25
                replace hsg := hsg.mono le25
                replace hF := hF.trans le25
                refine .v (.mv rfl) rfl ?_
                refine .v (.ext rfl rfl) rfl ?_
                refine .v (.ext rfl rfl) rfl ?_
                refine .v (.asn rfl) rfl ?_
                refine .v (.asn rfl) rfl ?_
                refine .nil ?_
                refine .then ?_
                refine .seq ?_
                refine .region ?_
                refine .v (.mv rfl) rfl ?_
                refine .v (.mv rfl) rfl ?_
                refine .v (.mv rfl) rfl ?_
                refine .v (.mv rfl) rfl ?_
                refine .v (.eqs rfl rfl) rfl ?_
                refine .v (.mv rfl) rfl ?_
                refine .cs (t := 58) rfl (fun c58_27 => ?_) (fun c58_27 => ?_)
                · skip
                  refine .g rfl rfl rfl ?_
                  refine .v (.mv rfl) rfl ?_
                  refine .g rfl rfl rfl ?_
                  refine .v (.lens Try.underlying9 rfl) rfl ?_
                  refine .g rfl rfl rfl ?_
                  refine .v (.lt rfl rfl) rfl ?_
                  refine .v (.pkT rfl rfl) rfl ?_
                  refine .kn (t := 62) (v := .bool (sgOf f).op) rfl (congrArg Value.bool (by unfold sgOf; simp only [c58_27, Bool.true_and, Bool.false_and])) ?_
                  refine .v (.build rfl (fun w => bd57_0_1_2 w _ _ _ _ _)) rfl ?_
                  refine .nb (.lit1 sl52 ty57 rfl rfl rfl rfl rfl) rfl (fun b28 => ?_)
                  refine .ap (.app1 (xs := out) (⟨sgOf f, a26, c26⟩) sl52 ty57 rfl encG_ok rfl rfl hr .here (by omega) (by omega) _ (fun _ => (.there .here))) rfl (fun a2 c2 it2 hr2 => ?_)
                  refine .v (.asn rfl) rfl ?_
                  refine .nil ?_
                  refine .then ?_
                  refine .region ?_
                  refine .v (.mv rfl) rfl ?_
                  refine .v (.mv rfl) rfl ?_
                  refine .v (.lenl Try.underlying34 rfl) rfl ?_
                  refine .v (.add rfl rfl (by omega)) rfl ?_
                  refine .v (.asn rfl) rfl ?_
                  refine .nil ?_
                  refine .blk ?_
                  refine .then ?_
                  refine .region ?_
                  refine .v (.add rfl rfl (by omega)) rfl ?_
                  refine .v (.mv rfl) rfl ?_
                  refine .nil ?_
                  exact .again (k + 1, out ++ [⟨sgOf f, a26, c26⟩], f.id + (sgOf f).recs.length, a2, c2, it2, G24) ⟨by (try dsimp only); omega, by simp; omega, by rw [hlg, hdr, logF_take _ hbad]; simp, by (try dsimp only); omega, hr2, hsg.snoc hS26, hG01⟩ (by dsimp only; omega) (.cons rfl rfl (.cons rfl rfl (.cons rfl rfl (.cons rfl rfl (.cons rfl rfl (.cons rfl rfl (.cons rfl rfl (.cons rfl rfl (.cons rfl rfl .nil))))))))) (fun w ho => by dsimp only [List.cons_append, List.nil_append]; exact (subl (.cons _ (.cons_cons _ (.cons_cons _ (.cons_cons _ .slnil))))) w ho)
                · skip
                  refine .gs rfl rfl rfl rfl ?_
                  refine .gs rfl rfl rfl rfl ?_
                  refine .gs rfl rfl rfl rfl ?_
                  refine .v (.pkF rfl rfl) rfl ?_
                  refine .kn (t := 62) (v := .bool (sgOf f).op) rfl (congrArg Value.bool (by unfold sgOf; simp only [c58_27, Bool.true_and, Bool.false_and])) ?_
                  refine .v (.build rfl (fun w => bd57_0_1_2 w _ _ _ _ _)) rfl ?_
                  refine .nb (.lit1 sl52 ty57 rfl rfl rfl rfl rfl) rfl (fun b29 => ?_)
                  refine .ap (.app1 (xs := out) (⟨sgOf f, a26, c26⟩) sl52 ty57 rfl encG_ok rfl rfl hr .here (by omega) (by omega) _ (fun _ => (.there .here))) rfl (fun a2 c2 it2 hr2 => ?_)
                  refine .v (.asn rfl) rfl ?_
                  refine .nil ?_
                  refine .then ?_
                  refine .region ?_
                  refine .v (.mv rfl) rfl ?_
                  refine .v (.mv rfl) rfl ?_
                  refine .v (.lenl Try.underlying34 rfl) rfl ?_
                  refine .v (.add rfl rfl (by omega)) rfl ?_
                  refine .v (.asn rfl) rfl ?_
                  refine .nil ?_
                  refine .blk ?_
                  refine .then ?_
                  refine .region ?_
                  refine .v (.add rfl rfl (by omega)) rfl ?_
                  refine .v (.mv rfl) rfl ?_
                  refine .nil ?_
                  exact .again (k + 1, out ++ [⟨sgOf f, a26, c26⟩], f.id + (sgOf f).recs.length, a2, c2, it2, G24) ⟨by (try dsimp only); omega, by simp; omega, by rw [hlg, hdr, logF_take _ hbad]; simp, by (try dsimp only); omega, hr2, hsg.snoc hS26, hG01⟩ (by dsimp only; omega) (.cons rfl rfl (.cons rfl rfl (.cons rfl rfl (.cons rfl rfl (.cons rfl rfl (.cons rfl rfl (.cons rfl rfl (.cons rfl rfl (.cons rfl rfl .nil))))))))) (fun w ho => by dsimp only [List.cons_append, List.nil_append]; exact (subl (.cons _ (.cons_cons _ (.cons_cons _ (.cons_cons _ .slnil))))) w ho)
        · skip
          have hfin : logF 0 d.files = (out.map KS.g, next) := by
            rw [hlg, List.drop_of_length_le (by omega)]; simp [logF]
          refine .nil ?_
          refine .then ?_
          refine .seq ?_
          refine .condF rfl ?_
          refine .exit ?_
          refine .then_exit ?_
          refine .then_exit ?_
          refine .blk_exit ?_
          refine .then ?_
          refine .seq ?_
          refine .region ?_
          refine .v (.mv rfl) rfl ?_
          refine .v (.mv rfl) rfl ?_
          refine .v (.max rfl rfl) rfl ?_
          refine .v (.asn rfl) rfl ?_
          refine .v (.asn rfl) rfl ?_
          refine .v (.asn rfl) rfl ?_
          refine .nil ?_
          refine .then ?_
          refine .ret ?_
          refine .freeze (it := it) .here (fun G hle hG => ?_)
          have hv : logR d = (out.map KS.g, if 1 > next then 1 else next, 0) := by rw [logR_ok (logE_ok hr0 hd0)]; unfold logD nextD; rw [hfin]
          exact .done _ [] (.t3 rfl rfl rfl rfl) (hF.trans hle) ⟨rfl, out, a1, c1, by rw [hv], hr.sl encG_ok hG, hsg.mono hle, by rw [hv]⟩ (Inn.keep (.there (.there .here)))
  · skip
    refine .v (.not rfl) rfl ?_
    refine .nil ?_
    refine .then ?_
    refine .condT rfl ?_
    refine .seq ?_
    refine .region ?_
    refine .v (.asn rfl) rfl ?_
    refine .v (.asn rfl) rfl ?_
    refine .v (.asn rfl) rfl ?_
    refine .nil ?_
    refine .then ?_
    refine .ret ?_
    refine .then_ret ?_
    have he : logE d = 1 := by unfold logE; rw [if_pos h14_2]
    exact .done _ [] (.t3 rfl rfl rfl rfl) .rfl ⟨rfl, [], none, 0, by rw [logR_bad (by rw [he]; decide), he]; rfl, .nil, .nil, by rw [logR_bad (by rw [he]; decide)]; rfl⟩ (Inn.keep (.there .here))
theorem first_fn (l : List KS) (a : Option Addr) (c : Nat) (F : Mem) (hS : Sl F encG 3 a c l) : Fn Try.prog 19 #[.slice a l.length c] [] F (fun u _ _ => u = .int .i64 (firstL (l.map KS.g))) := by
  refine Fn.start0 Try.func19 rfl Try.ntmps19 rfl (env := [(0, _)]) rfl ?_
  intro R
  refine .seq ?_
  refine .region ?_
  refine .v (.asn rfl) rfl ?_
  refine .nil ?_
  refine .then ?_
  refine .seq ?_
  refine .seq ?_
  refine .region ?_
  refine .v (.mv rfl) rfl ?_
  refine .v (.lenl Try.underlying52 rfl) rfl ?_
  refine .vs (.eq rfl rfl) rfl (fun h5_1 => ?_) (fun h5_1 => ?_)
  · skip
    refine .nil ?_
    refine .then ?_
    refine .condT rfl ?_
    refine .seq ?_
    refine .region ?_
    refine .v (.asn rfl) rfl ?_
    refine .nil ?_
    refine .then ?_
    refine .ret ?_
    refine .then_ret ?_
    exact .done _ [] (.t1 rfl rfl) .rfl (by rw [List.eq_nil_of_length_eq_zero (l := l) (by omega)]; rfl) (Inn.keep .here)
  · skip
    refine .nil ?_
    refine .then ?_
    refine .condF rfl ?_
    refine .skip ?_
    refine .then ?_
    refine .seq ?_
    refine .region ?_
    refine .v (.mv rfl) rfl ?_
    obtain ⟨x, hx0⟩ : ∃ y, l[0]? = some y := ⟨_, List.getElem?_eq_getElem (by omega)⟩
    refine .ix sl52 rfl rfl hS rfl x ⟨by omega, hx0⟩ (fun p2 o3 r4 => ?_)
    refine .v (.fa0 fl57_0 rfl) rfl ?_
    refine .v (.ldr0 ty3 rfl r4 rfl) rfl ?_
    refine .v (.asn rfl) rfl ?_
    refine .nil ?_
    refine .then ?_
    refine .ret ?_
    exact .done _ [] (.t1 rfl rfl) .rfl (by cases l with | nil => cases hx0 | cons y r => (simp at hx0; subst hx0; rfl)) (Inn.keep .here)
end Go.Proofs.Ytggkhcdilbdifaa.Ow
