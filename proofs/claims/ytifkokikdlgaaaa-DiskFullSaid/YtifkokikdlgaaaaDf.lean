/- Walks. -/
import Derived.Test.YtifkokikdlgaaaaDe
namespace Go.Proofs.Ytifkokikdlgaaaa.Ow
open Go
set_option linter.unusedVariables false
theorem rcrash_fn (d : Dk) (a : Option Addr) (c : Nat) (F : Mem) (hS : Sl F encF 3 a c d.files) (hrt : right d = true) (keep : List Int) (ak : Option Addr) (ck : Nat) (hK : Sl F encI 1 ak ck keep) : Fn Try.prog 21 #[dval a c d, .slice ak keep.length ck] [] F (fun v M G => M = [] ∧ ∃ a' c', v = dval a' c' (crash d keep) ∧ Sl G encF 3 a' c' (crash d keep).files) := by
  have hm := hS.len
  have hkm := hK.len
  obtain ⟨hsf, htot, hleft⟩ := right_files hrt
  have hlen := right_len hsf
  refine Fn.start0 Try.func21 rfl Try.ntmps21 rfl (env := [(0, _), (1, _)]) rfl ?_
  intro R
  refine .seq ?_
  refine .region ?_
  refine .nb (.box rfl rfl) rfl (fun b1 => ?_)
  refine .nb (.alloc ty38 rfl) rfl (fun b2 => ?_)
  refine .nil ?_
  refine .then ?_
  refine .seq ?_
  refine .region ?_
  refine .v (.asn rfl) rfl ?_
  refine .nil ?_
  refine .then ?_
  refine .seq ?_
  refine .seq ?_
  refine .region ?_
  refine .v (.asn rfl) rfl ?_
  refine .nil ?_
  refine .then ?_
  refine .block ?_
  refine WC.loopx (fx := [(1, _), (2, _), (4, _)]) (pre := []) (fm := [_, _, _]) rfl (.cons rfl rfl (.cons rfl rfl (.cons rfl rfl .nil))) (ι := Nat × List Fl × Option Addr × Nat × Itm) (fun z => z.1 ≤ d.files.length ∧ z.2.1.length ≤ z.1 ∧ crashFrom keep 0 d.files = z.2.1 ++ crashFrom keep z.1 (d.files.drop z.1) ∧ Row 76 encF 3 z.2.2.1 z.2.2.2.1 z.2.1 z.2.2.2.2) (fun z => d.files.length - z.1) (fun z => [(5, .slice z.2.2.1 z.2.1.length z.2.2.2.1), (6, .int .i64 z.1)]) (fun z => [z.2.2.2.2]) (fun z => F) (0, [], none, 0, []) ⟨by omega, by simp, rfl, Row.nil⟩ ?he ?hm ?round
  case he => exact .cons rfl rfl (.cons rfl rfl (.cons rfl rfl (.cons rfl rfl (.cons rfl rfl .nil))))
  case hm => exact (fun _ h => h)
  case round =>
    intro z hk
    obtain ⟨k, out, a1, c1, it⟩ := z
    obtain ⟨hk, hol, hcr, hr⟩ := hk
    dsimp only at hk hol hcr hr ⊢
    dsimp only [List.cons_append, List.nil_append]
    refine .seq ?_
    refine .seq ?_
    refine .region ?_
    refine .v (.mv rfl) rfl ?_
    refine .v (.fa0 fl38_0 rfl) rfl ?_
    refine .v (.ldb ty36 rfl (.there (.there .here)) rfl) rfl ?_
    refine .v (.lenl Try.underlying36 rfl) rfl ?_
    refine .vs (.lt rfl rfl) rfl (fun h14_3 => ?_) (fun h14_3 => ?_)
    · skip
      refine .nil ?_
      refine .then ?_
      refine .condT rfl ?_
      refine .skip ?_
      refine .then ?_
      refine .seq ?_
      refine .block ?_
      refine .seq ?_
      refine .region ?_
      refine .v (.fa0 fl38_0 rfl) rfl ?_
      refine .v (.ldb ty36 rfl (.there (.there .here)) rfl) rfl ?_
      refine .v (.mv rfl) rfl ?_
      obtain ⟨f, hf⟩ : ∃ y, d.files[k]? = some y := ⟨_, List.getElem?_eq_getElem (by omega)⟩
      have htf := tot_get hf
      refine .ix sl36 rfl rfl hS rfl f ⟨by omega, hf⟩ (fun p4 o5 r6 => ?_)
      refine .v (.ldrw ty76 rfl r6 rfl) rfl ?_
      refine .nb (.alloc ty76 rfl) rfl (fun b7 => ?_)
      refine .st (.stw ty76 rfl rfl rfl rfl rfl .here) ?_
      refine .nil ?_
      refine .then ?_
      refine .seq ?_
      refine .region ?_
      refine .v (.fab fl76_1 rfl) rfl ?_
      refine .v (.ldb ty9 rfl .here rfl) rfl ?_
      refine .v (.asn rfl) rfl ?_
      refine .nil ?_
      refine .then ?_
      refine .seq ?_
      refine .seq ?_
      refine .region ?_
      refine .v (.asn rfl) rfl ?_
      refine .nil ?_
      refine .then ?_
      refine .block ?_
      refine WC.loop0 (fx := [(1, _), (2, _), (4, _), (5, _), (6, _), (7, _)]) (.cons rfl rfl (.cons rfl rfl (.cons rfl rfl (.cons rfl rfl (.cons rfl rfl (.cons rfl rfl .nil)))))) (ι := Nat) (fun j => j ≤ keepOf keep k f) (fun j => f.loose.size - j) (fun j => [(8, .string (f.firm ++ f.loose.extract 0 j)), (9, .int .i64 j)]) 0 (Nat.zero_le _) ?he ?round
      case he => exact .cons rfl (congrArg Value.string (by simp)) (.cons rfl rfl (.cons rfl rfl (.cons rfl rfl (.cons rfl rfl (.cons rfl rfl (.cons rfl rfl (.cons rfl rfl .nil)))))))
      case round =>
        intro j hk
        have hns := keepOf_le keep k f
        refine .seq ?_
        refine .seq ?_
        refine .region ?_
        refine .v (.mv rfl) rfl ?_
        refine .v (.fab fl76_2 rfl) rfl ?_
        refine .v (.ldb ty9 rfl .here rfl) rfl ?_
        refine .v (.lens Try.underlying9 rfl) rfl ?_
        refine .vs (.lt rfl rfl) rfl (fun h28_8 => ?_) (fun h28_8 => ?_)
        · skip
          refine .v (.mv rfl) rfl ?_
          refine .g rfl rfl rfl ?_
          refine .v (.mv rfl) rfl ?_
          refine .g rfl rfl rfl ?_
          refine .v (.mv rfl) rfl ?_
          refine .g rfl rfl rfl ?_
          refine .v (.lenl Try.underlying43 rfl) rfl ?_
          refine .g rfl rfl rfl ?_
          refine .vs (.lt rfl rfl) rfl (fun h33_9 => ?_) (fun h33_9 => ?_)
          · skip
            refine .v (.pkT rfl rfl) rfl ?_
            refine .v (.mv rfl) rfl ?_
            refine .g rfl rfl rfl ?_
            refine .v (.mv rfl) rfl ?_
            refine .g rfl rfl rfl ?_
            refine .v (.mv rfl) rfl ?_
            refine .g rfl rfl rfl ?_
            refine .v (.mv rfl) rfl ?_
            refine .g rfl rfl rfl ?_
            obtain ⟨q, hq⟩ : ∃ y, keep[k]? = some y := ⟨_, List.getElem?_eq_getElem (by omega)⟩
            refine .ix sl43 rfl rfl hK rfl q ⟨by omega, hq⟩ (fun p10 o11 r12 => ?_)
            refine .g rfl rfl rfl ?_
            refine .v (.ldr0 ty3 rfl r12 rfl) rfl ?_
            refine .g rfl rfl rfl ?_
            refine .vs (.lt rfl rfl) rfl (fun h41_13 => ?_) (fun h41_13 => ?_)
            · skip
              refine .v (.pkT rfl rfl) rfl ?_
              refine .nil ?_
              refine .then ?_
              refine .condT rfl ?_
              refine .skip ?_
              refine .then ?_
              refine .seq ?_
              refine .block ?_
              refine .region ?_
              refine .v (.mv rfl) rfl ?_
              refine .v (.fab fl76_2 rfl) rfl ?_
              refine .v (.ldb ty9 rfl .here rfl) rfl ?_
              refine .v (.mv rfl) rfl ?_
              refine .v (.mv rfl) rfl ?_
              refine .v (.add rfl rfl (by omega)) rfl ?_
              refine .v (.txIn (i := (j : Int)) (j := (j : Int) + 1) Try.underlying9 rfl rfl rfl ⟨by omega, by omega, by omega⟩) rfl ?_
              have e1 : (f.loose.extract 0 j).size = j := by rw [ByteArray.size_extract]; omega
              have e2 : (f.loose.extract (j : Int).toNat ((j : Int) + 1).toNat).size ≤ 1 := by rw [ByteArray.size_extract]; omega
              refine .v (.cat rfl rfl (by rw [ByteArray.size_append]; omega)) rfl ?_
              refine .v (.asn rfl) rfl ?_
              refine .nil ?_
              refine .blk ?_
              refine .then ?_
              refine .region ?_
              refine .v (.mv rfl) rfl ?_
              refine .v (.add rfl rfl (by omega)) rfl ?_
              refine .v (.asn rfl) rfl ?_
              refine .nil ?_
              exact .again (j + 1) (by have := keepOf_step hq (j := j) (f := f) (by omega) (by omega); omega) (by omega) (.cons rfl (congrArg Value.string (extract_grow _ _ (by omega))) (.cons rfl rfl (.cons rfl rfl (.cons rfl rfl (.cons rfl rfl (.cons rfl rfl (.cons rfl rfl (.cons rfl rfl .nil)))))))) (subl (.refl _))
            · skip
              refine .v (.pkT rfl rfl) rfl ?_
              refine .nil ?_
              refine .then ?_
              refine .condF rfl ?_
              refine .exit ?_
              refine .then_exit ?_
              refine .then_exit ?_
              refine .blk_exit ?_
              refine .then ?_
              refine .seq ?_
              refine .region ?_
              have hn : j = keepOf keep k f := by have := keepOf_end hq (j := j) (f := f) (by omega); omega
              refine .v (.mv rfl) rfl ?_
              refine .v (.lens Try.underlying9 rfl) rfl ?_
              refine .vs (.gt rfl rfl) rfl (fun h55_14 => ?_) (fun h55_14 => ?_)
              · skip
                refine .nil ?_
                refine .then ?_
                refine .condT rfl ?_
                refine .region ?_
                refine .v (.mv rfl) rfl ?_
                refine .v (.fa0 fl76_0 rfl) rfl ?_
                refine .v (.ldb ty3 rfl .here rfl) rfl ?_
                refine .v (.mv rfl) rfl ?_
                refine .v (.build rfl (fun w => bd76_0_1 w _ _)) rfl ?_
                refine .nb (.lit1 sl36 ty76 rfl rfl rfl rfl rfl) rfl (fun b15 => ?_)
                refine .ap (.app1 (xs := out) (⟨f.id, f.firm ++ f.loose.extract 0 j, ⟨#[]⟩⟩) sl36 ty76 rfl encF_ok rfl rfl hr .here (by omega) (by omega) _ (fun _ => (.there (.there .here)))) rfl (fun a2 c2 it2 hr2 => ?_)
                refine .v (.asn rfl) rfl ?_
                refine .nil ?_
                refine .blk ?_
                refine .then ?_
                refine .region ?_
                refine .v (.mv rfl) rfl ?_
                refine .v (.add rfl rfl (by omega)) rfl ?_
                refine .v (.asn rfl) rfl ?_
                refine .nil ?_
                exact .again (k + 1, out ++ [⟨f.id, f.firm ++ f.loose.extract 0 j, ⟨#[]⟩⟩], a2, c2, it2) ⟨by omega, by simp; omega, by rw [hcr, drop_get hf, crash_put _ hn (size_ne h55_14)]; simp, hr2⟩ (by dsimp only; omega) (.cons rfl rfl (.cons rfl rfl (.cons rfl rfl (.cons rfl rfl (.cons rfl rfl .nil))))) (fun w ho => by dsimp only [List.cons_append, List.nil_append]; skip; exact (subl (.cons _ (.cons _ (.cons_cons _ (.cons_cons _ (.cons_cons _ (.cons_cons _ .slnil))))))) w ho)
              · skip
                refine .nil ?_
                refine .then ?_
                refine .condF rfl ?_
                refine .skip ?_
                refine .blk ?_
                refine .then ?_
                refine .region ?_
                refine .v (.mv rfl) rfl ?_
                refine .v (.add rfl rfl (by omega)) rfl ?_
                refine .v (.asn rfl) rfl ?_
                refine .nil ?_
                exact .again (k + 1, out, a1, c1, it) ⟨by omega, by dsimp only; omega, by rw [hcr, drop_get hf, crash_skip _ hn (size_eq h55_14)], hr⟩ (by dsimp only; omega) (.cons rfl rfl (.cons rfl rfl (.cons rfl rfl (.cons rfl rfl (.cons rfl rfl .nil))))) (fun w ho => by dsimp only [List.cons_append, List.nil_append]; skip; exact (subl (.cons _ (.cons_cons _ (.cons_cons _ (.cons_cons _ (.cons_cons _ .slnil)))))) w ho)
          · skip
            refine .v (.pkT rfl rfl) rfl ?_
            refine .v (.mv rfl) rfl ?_
            refine .gs rfl rfl rfl rfl ?_
            refine .gs rfl rfl rfl rfl ?_
            refine .gs rfl rfl rfl rfl ?_
            refine .gs rfl rfl rfl rfl ?_
            refine .gs rfl rfl rfl rfl ?_
            refine .gs rfl rfl rfl rfl ?_
            refine .v (.pkF rfl rfl) rfl ?_
            refine .nil ?_
            refine .then ?_
            refine .condF rfl ?_
            refine .exit ?_
            refine .then_exit ?_
            refine .then_exit ?_
            refine .blk_exit ?_
            refine .then ?_
            refine .seq ?_
            refine .region ?_
            have hn : j = keepOf keep k f := by have := keepOf_none (keep := keep) (k := k) (f := f) (by omega); omega
            refine .v (.mv rfl) rfl ?_
            refine .v (.lens Try.underlying9 rfl) rfl ?_
            refine .vs (.gt rfl rfl) rfl (fun h55_16 => ?_) (fun h55_16 => ?_)
            · skip
              refine .nil ?_
              refine .then ?_
              refine .condT rfl ?_
              refine .region ?_
              refine .v (.mv rfl) rfl ?_
              refine .v (.fa0 fl76_0 rfl) rfl ?_
              refine .v (.ldb ty3 rfl .here rfl) rfl ?_
              refine .v (.mv rfl) rfl ?_
              refine .v (.build rfl (fun w => bd76_0_1 w _ _)) rfl ?_
              refine .nb (.lit1 sl36 ty76 rfl rfl rfl rfl rfl) rfl (fun b17 => ?_)
              refine .ap (.app1 (xs := out) (⟨f.id, f.firm ++ f.loose.extract 0 j, ⟨#[]⟩⟩) sl36 ty76 rfl encF_ok rfl rfl hr .here (by omega) (by omega) _ (fun _ => (.there (.there .here)))) rfl (fun a2 c2 it2 hr2 => ?_)
              refine .v (.asn rfl) rfl ?_
              refine .nil ?_
              refine .blk ?_
              refine .then ?_
              refine .region ?_
              refine .v (.mv rfl) rfl ?_
              refine .v (.add rfl rfl (by omega)) rfl ?_
              refine .v (.asn rfl) rfl ?_
              refine .nil ?_
              exact .again (k + 1, out ++ [⟨f.id, f.firm ++ f.loose.extract 0 j, ⟨#[]⟩⟩], a2, c2, it2) ⟨by omega, by simp; omega, by rw [hcr, drop_get hf, crash_put _ hn (size_ne h55_16)]; simp, hr2⟩ (by dsimp only; omega) (.cons rfl rfl (.cons rfl rfl (.cons rfl rfl (.cons rfl rfl (.cons rfl rfl .nil))))) (fun w ho => by dsimp only [List.cons_append, List.nil_append]; skip; exact (subl (.cons _ (.cons _ (.cons_cons _ (.cons_cons _ (.cons_cons _ (.cons_cons _ .slnil))))))) w ho)
            · skip
              refine .nil ?_
              refine .then ?_
              refine .condF rfl ?_
              refine .skip ?_
              refine .blk ?_
              refine .then ?_
              refine .region ?_
              refine .v (.mv rfl) rfl ?_
              refine .v (.add rfl rfl (by omega)) rfl ?_
              refine .v (.asn rfl) rfl ?_
              refine .nil ?_
              exact .again (k + 1, out, a1, c1, it) ⟨by omega, by dsimp only; omega, by rw [hcr, drop_get hf, crash_skip _ hn (size_eq h55_16)], hr⟩ (by dsimp only; omega) (.cons rfl rfl (.cons rfl rfl (.cons rfl rfl (.cons rfl rfl (.cons rfl rfl .nil))))) (fun w ho => by dsimp only [List.cons_append, List.nil_append]; skip; exact (subl (.cons _ (.cons_cons _ (.cons_cons _ (.cons_cons _ (.cons_cons _ .slnil)))))) w ho)
        · skip
          refine .v (.mv rfl) rfl ?_
          refine .gs rfl rfl rfl rfl ?_
          refine .gs rfl rfl rfl rfl ?_
          refine .gs rfl rfl rfl rfl ?_
          refine .gs rfl rfl rfl rfl ?_
          refine .v (.pkF rfl rfl) rfl ?_
          refine .v (.mv rfl) rfl ?_
          refine .gs rfl rfl rfl rfl ?_
          refine .gs rfl rfl rfl rfl ?_
          refine .gs rfl rfl rfl rfl ?_
          refine .gs rfl rfl rfl rfl ?_
          refine .gs rfl rfl rfl rfl ?_
          refine .gs rfl rfl rfl rfl ?_
          refine .v (.pkF rfl rfl) rfl ?_
          refine .nil ?_
          refine .then ?_
          refine .condF rfl ?_
          refine .exit ?_
          refine .then_exit ?_
          refine .then_exit ?_
          refine .blk_exit ?_
          refine .then ?_
          refine .seq ?_
          refine .region ?_
          have hn : j = keepOf keep k f := by omega
          refine .v (.mv rfl) rfl ?_
          refine .v (.lens Try.underlying9 rfl) rfl ?_
          refine .vs (.gt rfl rfl) rfl (fun h55_18 => ?_) (fun h55_18 => ?_)
          · skip
            refine .nil ?_
            refine .then ?_
            refine .condT rfl ?_
            refine .region ?_
            refine .v (.mv rfl) rfl ?_
            refine .v (.fa0 fl76_0 rfl) rfl ?_
            refine .v (.ldb ty3 rfl .here rfl) rfl ?_
            refine .v (.mv rfl) rfl ?_
            refine .v (.build rfl (fun w => bd76_0_1 w _ _)) rfl ?_
            refine .nb (.lit1 sl36 ty76 rfl rfl rfl rfl rfl) rfl (fun b19 => ?_)
            refine .ap (.app1 (xs := out) (⟨f.id, f.firm ++ f.loose.extract 0 j, ⟨#[]⟩⟩) sl36 ty76 rfl encF_ok rfl rfl hr .here (by omega) (by omega) _ (fun _ => (.there (.there .here)))) rfl (fun a2 c2 it2 hr2 => ?_)
            refine .v (.asn rfl) rfl ?_
            refine .nil ?_
            refine .blk ?_
            refine .then ?_
            refine .region ?_
            refine .v (.mv rfl) rfl ?_
            refine .v (.add rfl rfl (by omega)) rfl ?_
            refine .v (.asn rfl) rfl ?_
            refine .nil ?_
            exact .again (k + 1, out ++ [⟨f.id, f.firm ++ f.loose.extract 0 j, ⟨#[]⟩⟩], a2, c2, it2) ⟨by omega, by simp; omega, by rw [hcr, drop_get hf, crash_put _ hn (size_ne h55_18)]; simp, hr2⟩ (by dsimp only; omega) (.cons rfl rfl (.cons rfl rfl (.cons rfl rfl (.cons rfl rfl (.cons rfl rfl .nil))))) (fun w ho => by dsimp only [List.cons_append, List.nil_append]; skip; exact (subl (.cons _ (.cons _ (.cons_cons _ (.cons_cons _ (.cons_cons _ (.cons_cons _ .slnil))))))) w ho)
          · skip
            refine .nil ?_
            refine .then ?_
            refine .condF rfl ?_
            refine .skip ?_
            refine .blk ?_
            refine .then ?_
            refine .region ?_
            refine .v (.mv rfl) rfl ?_
            refine .v (.add rfl rfl (by omega)) rfl ?_
            refine .v (.asn rfl) rfl ?_
            refine .nil ?_
            exact .again (k + 1, out, a1, c1, it) ⟨by omega, by dsimp only; omega, by rw [hcr, drop_get hf, crash_skip _ hn (size_eq h55_18)], hr⟩ (by dsimp only; omega) (.cons rfl rfl (.cons rfl rfl (.cons rfl rfl (.cons rfl rfl (.cons rfl rfl .nil))))) (fun w ho => by dsimp only [List.cons_append, List.nil_append]; skip; exact (subl (.cons _ (.cons_cons _ (.cons_cons _ (.cons_cons _ (.cons_cons _ .slnil)))))) w ho)
    · skip
      refine .nil ?_
      refine .then ?_
      refine .condF rfl ?_
      refine .exit ?_
      refine .then_exit ?_
      refine .then_exit ?_
      refine .blk_exit ?_
      refine .then ?_
      refine .seq ?_
      refine .region ?_
      refine .v (.mv rfl) rfl ?_
      refine .v (.build rfl (fun w => bd38_0 w _ _ _)) rfl ?_
      refine .st (.stw ty38 rfl rfl rfl rfl rfl (.there .here)) ?_
      refine .nil ?_
      refine .then ?_
      refine .ret ?_
      obtain rfl : k = d.files.length := by omega
      have hval : crash d keep = ⟨out, 0, false, false⟩ := by rw [crash, if_pos hrt, hcr, List.drop_length]; simp [crashFrom]
      refine .freeze (it := it) .here (fun G hle hG => ?_)
      exact .done _ [] (.c1 rfl ty38 rfl (.there .here) rfl) hle ⟨rfl, a1, c1, by rw [hval], by rw [hval]; exact hr.sl encF_ok hG⟩ (Inn.keep (.there (.there (.there .here))))
end Go.Proofs.Ytifkokikdlgaaaa.Ow
