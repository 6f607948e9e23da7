/- Walks. -/
import Derived.Test.YtifkokikdlgaaaaDa
namespace Go.Proofs.Ytifkokikdlgaaaa.Ow
open Go
set_option linter.unusedVariables false
theorem crash_fn (d : Dk) (a : Option Addr) (c : Nat) (F : Mem) (hS : Sl F encF 3 a c d.files) (hb : tot d.files ≤ 4611686018427387904) (keep : List Int) (ak : Option Addr) (ck : Nat) (hK : Sl F encI 1 ak ck keep) : Fn Try.prog 17 #[dval a c d, .slice ak keep.length ck] [] F (fun v M G => M = [] ∧ ∃ a' c', v = dval a' c' (crash d keep) ∧ Sl G encF 3 a' c' (crash d keep).files) := by
  have hm := hS.len
  have hkm := hK.len
  refine Fn.start0 Try.func17 rfl Try.ntmps17 rfl (env := [(0, _), (1, _)]) rfl ?_
  intro R
  refine .seq ?_
  refine .region ?_
  refine .nb (.box rfl rfl) rfl (fun b1 => ?_)
  refine .nb (.alloc ty28 rfl) rfl (fun b2 => ?_)
  refine .nil ?_
  refine .then ?_
  refine .seq ?_
  refine .seq ?_
  refine .region ?_
  refine .v (.ldw ty28 rfl (.there .here) rfl) rfl ?_
  refine .vb (.call rfl rfl (Try.call11 _) (fun G hle hG => right_fn d a c G (hS.mono hle) hb)) rfl (fun h11_3 => ?_) (fun h11_3 => ?_)
  · skip
    have hlen := right_len (right_files h11_3).1
    refine .v (.not rfl) rfl ?_
    refine .nil ?_
    refine .then ?_
    refine .condF rfl ?_
    refine .skip ?_
    refine .then ?_
    refine .seq ?_
    refine .region ?_
    refine .nb (.alloc ty28 rfl) rfl (fun b4 => ?_)
    refine .nil ?_
    refine .then ?_
    refine .seq ?_
    refine .seq ?_
    refine .region ?_
    refine .v (.fa0 fl28_0 rfl) rfl ?_
    refine .v (.ldb ty26 rfl (.there (.there .here)) rfl) rfl ?_
    refine .v (.lenl Try.underlying26 rfl) rfl ?_
    refine .v (.mv rfl) rfl ?_
    refine .nil ?_
    refine .then ?_
    refine .block ?_
    refine WC.loopx (fx := [(1, _), (4, _), (5, _), (15, _), (16, _)]) (pre := [_]) (fm := [_, _, _]) rfl (.cons rfl rfl (.cons rfl rfl (.cons rfl rfl (.cons rfl rfl (.cons rfl rfl .nil))))) (ι := Nat × List Fl × Option Addr × Nat × Itm) (fun z => z.1 ≤ d.files.length ∧ z.2.1.length ≤ z.1 ∧ crashFrom keep 0 d.files = z.2.1 ++ crashFrom keep z.1 (d.files.drop z.1) ∧ Row 25 encF 3 z.2.2.1 z.2.2.2.1 z.2.1 z.2.2.2.2) (fun z => d.files.length - z.1) (fun z => [(17, .int .i64 z.1)]) (fun z => [z.2.2.2.2, [⟨b4, 28, [.slice z.2.2.1 z.2.1.length z.2.2.2.1, .int .i64 0, .bool false, .bool false]⟩]]) (fun z => F) (0, [], none, 0, []) ⟨by omega, by simp, rfl, Row.nil⟩ ?he ?hm ?round
    case he => exact .cons rfl rfl (.cons rfl rfl (.cons rfl rfl (.cons rfl rfl (.cons rfl rfl (.cons rfl rfl .nil)))))
    case hm => exact (fun _ h => h)
    case round =>
      intro z hk
      obtain ⟨k, out, a1, c1, it⟩ := z
      obtain ⟨hk, hol, hcr, hr⟩ := hk
      dsimp only at hk hol hcr hr ⊢
      dsimp only [List.cons_append, List.nil_append]
      refine .seq ?_
      refine .region ?_
      refine .vs (.lt rfl rfl) rfl (fun h18_5 => ?_) (fun h18_5 => ?_)
      · skip
        refine .nil ?_
        refine .then ?_
        refine .seq ?_
        refine .condT rfl ?_
        refine .skip ?_
        refine .then ?_
        refine .seq ?_
        refine .block ?_
        refine .seq ?_
        refine .region ?_
        refine .v (.mv rfl) rfl ?_
        obtain ⟨f, hf⟩ : ∃ y, d.files[k]? = some y := ⟨_, List.getElem?_eq_getElem (by omega)⟩
        have htf := tot_get hf
        refine .ix sl26 rfl rfl hS rfl f ⟨by omega, hf⟩ (fun p6 o7 r8 => ?_)
        refine .v (.ldrw ty25 rfl r8 rfl) rfl ?_
        refine .nb (.alloc ty25 rfl) rfl (fun b9 => ?_)
        refine .v (.asn rfl) rfl ?_
        refine .st (.stw ty25 rfl rfl rfl rfl rfl .here) ?_
        refine .nil ?_
        refine .then ?_
        refine .seq ?_
        refine .region ?_
        refine .v (.asn rfl) rfl ?_
        refine .nil ?_
        refine .then ?_
        refine .seq ?_
        refine .seq ?_
        refine .region ?_
        refine .v (.mv rfl) rfl ?_
        refine .v (.mv rfl) rfl ?_
        refine .v (.lenl Try.underlying43 rfl) rfl ?_
        refine .vs (.lt rfl rfl) rfl (fun h25_10 => ?_) (fun h25_10 => ?_)
        · skip
          refine .nil ?_
          refine .then ?_
          refine .condT rfl ?_
          refine .draw [[], [], [0, 1], [2], [3], [], [5], [6], [4, 7], [8, 0, 1, 2, 3, 4, 5, 6, 7, 8]] [] (by kernel_rfl) (by kernel_rfl) rfl (e1 := [(1, _), (4, _), (5, _), (6, _), (7, _), (8, _), (15, _), (16, _), (17, _)]) (.cons rfl rfl (.cons rfl rfl (.cons rfl rfl (.cons rfl rfl (.cons rfl rfl (.cons rfl rfl (.cons rfl rfl (.cons rfl rfl (.cons rfl rfl .nil))))))))) (fun x hx => by cases hx) rfl ?_
          obtain ⟨q, hq⟩ : ∃ y, keep[k]? = some y := ⟨_, List.getElem?_eq_getElem (by omega)⟩
          refine .v (i := 0) [] rfl rfl rfl .nil (.n (.mv rfl)) ?_
          refine .v (i := 1) [] rfl rfl rfl .nil (.n (.mv rfl)) ?_
          refine .ix (i := 2) (j := (k : Int)) [(26, _), (27, _)] rfl rfl rfl (.cons (.tail _ (.head _)) rfl rfl (.cons (.head _) rfl rfl .nil)) hK q ⟨by omega, hq⟩ (fun b_ o_ hr_ ha_ hle_ => .n (.ixs sl43 rfl rfl ⟨by omega, hq⟩ ha_ hle_)) (fun p11 o12 r13 => ?_)
          refine .v (i := 3) [(28, _)] rfl rfl rfl (.cons (.head _) rfl rfl .nil) (.n (.ldr0 ty3 rfl r13 rfl)) ?_
          refine .v (i := 4) [(29, _)] rfl rfl rfl (.cons (.head _) rfl rfl .nil) (.n (.max rfl rfl)) ?_
          refine .v (i := 5) [] rfl rfl rfl .nil (.n (.fab fl25_2 rfl)) ?_
          refine .v (i := 6) [(31, _)] rfl rfl rfl (.cons (.head _) rfl rfl .nil) (.n (.ldb ty9 rfl .here rfl)) ?_
          refine .v (i := 7) [(32, _)] rfl rfl rfl (.cons (.head _) rfl rfl .nil) (.n (.lens Try.underlying9 rfl)) ?_
          refine .tail0 8 [[8, 4, 7, 3, 6, 2, 5, 0, 1], [9, 8, 0, 1, 2, 3, 4, 5, 6, 7]] rfl rfl rfl rfl (e' := [(33, _), (32, _), (31, _), (30, _), (29, _), (28, _), (27, _), (26, _), (1, _), (4, _), (5, _), (6, _), (7, _), (8, _), (15, _), (16, _), (17, _)]) rfl ?_
          refine .v (.min rfl rfl) rfl ?_
          refine .v (.asn rfl) rfl ?_
          refine .kn (t := 8) (v := .int .i64 (keepOf keep k f : Nat)) rfl (congrArg (Value.int .i64) (keepOf_min hq f).symm) ?_
          obtain ⟨n, hn⟩ : ∃ n, n = keepOf keep k f := ⟨_, rfl⟩
          have hns : n ≤ f.loose.size := by rw [hn]; exact keepOf_le _ _ _
          rw [← hn]
          refine .nil ?_
          refine .then ?_
          refine .seq ?_
          refine .draw [[], [0], [], [2], [], [3, 4], [1, 5], [6, 0, 1, 2, 3, 4, 5, 6]] [] (by kernel_rfl) (by kernel_rfl) rfl (e1 := [(1, _), (4, _), (5, _), (7, _), (8, _), (15, _), (16, _), (17, _)]) (.cons rfl rfl (.cons rfl rfl (.cons rfl rfl (.cons rfl rfl (.cons rfl rfl (.cons rfl rfl (.cons rfl rfl (.cons rfl rfl .nil)))))))) (fun x hx => by cases hx) rfl ?_
          refine .v (i := 0) [] rfl rfl rfl .nil (.n (.fab fl25_1 rfl)) ?_
          refine .v (i := 1) [(35, _)] rfl rfl rfl (.cons (.head _) rfl rfl .nil) (.n (.ldb ty9 rfl .here rfl)) ?_
          refine .v (i := 2) [] rfl rfl rfl .nil (.n (.fab fl25_2 rfl)) ?_
          refine .v (i := 3) [(37, _)] rfl rfl rfl (.cons (.head _) rfl rfl .nil) (.n (.ldb ty9 rfl .here rfl)) ?_
          refine .v (i := 4) [] rfl rfl rfl .nil (.n (.mv rfl)) ?_
          refine .v (i := 5) [(38, _), (39, _)] rfl rfl rfl (.cons (.tail _ (.head _)) rfl rfl (.cons (.head _) rfl rfl .nil)) (.n (.txTo (i := (n : Int)) Try.underlying9 rfl rfl ⟨by omega, by omega⟩)) ?_
          refine .tail0 6 [[6, 1, 5, 0, 3, 4, 2], [7, 6, 0, 1, 2, 3, 4, 5]] rfl rfl rfl rfl (e' := [(40, _), (39, _), (38, _), (37, _), (36, _), (35, _), (1, _), (4, _), (5, _), (7, _), (8, _), (15, _), (16, _), (17, _)]) rfl ?_
          refine .v (.cat rfl rfl (by rw [ByteArray.size_extract]; omega)) rfl ?_
          refine .v (.asn rfl) rfl ?_
          refine .nil ?_
          refine .then ?_
          refine .seq ?_
          refine .region ?_
          refine .v (.mv rfl) rfl ?_
          refine .vs (.nes rfl rfl) rfl (fun h43_14 => ?_) (fun h43_14 => ?_)
          · skip
            refine .nil ?_
            refine .then ?_
            refine .condT rfl ?_
            refine .region ?_
            refine .v (.fa0 fl28_0 rfl) rfl ?_
            refine .v (.ldb ty26 rfl (.there (.there .here)) rfl) rfl ?_
            refine .v (.fa0 fl25_0 rfl) rfl ?_
            refine .v (.ldb ty3 rfl .here rfl) rfl ?_
            refine .v (.mv rfl) rfl ?_
            refine .v (.build rfl (fun w => bd25_0_1 w _ _)) rfl ?_
            refine .nb (.lit1 sl26 ty25 rfl rfl rfl rfl rfl) rfl (fun b15 => ?_)
            refine .ap (.app1 (xs := out) (⟨f.id, f.firm ++ f.loose.extract 0 n, ⟨#[]⟩⟩) sl26 ty25 rfl encF_ok rfl rfl hr .here (by omega) (by omega) _ (fun _ => (.there (.there .here)))) rfl (fun a2 c2 it2 hr2 => ?_)
            refine .v (.fa0 fl28_0 rfl) rfl ?_
            refine .st (.stb ty26 rfl rfl rfl st0 (.there (.there (.there .here)))) ?_
            refine .nil ?_
            refine .blk ?_
            refine .then ?_
            refine .region ?_
            refine .v (.add rfl rfl (by omega)) rfl ?_
            refine .v (.mv rfl) rfl ?_
            refine .nil ?_
            exact .again (k + 1, out ++ [⟨f.id, f.firm ++ f.loose.extract 0 n, ⟨#[]⟩⟩], a2, c2, it2) ⟨by omega, by simp; omega, by rw [hcr, drop_get hf, crash_put _ hn h43_14]; simp, hr2⟩ (by omega) (.cons rfl rfl (.cons rfl rfl (.cons rfl rfl (.cons rfl rfl (.cons rfl rfl (.cons rfl rfl .nil)))))) (fun w ho => by dsimp only [List.cons_append, List.nil_append]; skip; exact (subl (.cons _ (.cons _ (.cons_cons _ (.cons_cons _ (.cons_cons _ (.cons_cons _ (.cons_cons _ .slnil)))))))) w ho)
          · skip
            refine .nil ?_
            refine .then ?_
            refine .condF rfl ?_
            refine .skip ?_
            refine .blk ?_
            refine .then ?_
            refine .region ?_
            refine .v (.add rfl rfl (by omega)) rfl ?_
            refine .v (.mv rfl) rfl ?_
            refine .nil ?_
            exact .again (k + 1, out, a1, c1, it) ⟨by omega, by dsimp only; omega, by rw [hcr, drop_get hf, crash_skip _ hn (Decidable.not_not.1 h43_14)], hr⟩ (by omega) (.cons rfl rfl (.cons rfl rfl (.cons rfl rfl (.cons rfl rfl (.cons rfl rfl (.cons rfl rfl .nil)))))) (fun w ho => by dsimp only [List.cons_append, List.nil_append]; skip; exact (subl (.cons _ (.cons_cons _ (.cons_cons _ (.cons_cons _ (.cons_cons _ (.cons_cons _ .slnil))))))) w ho)
        · skip
          obtain ⟨n, hn0⟩ : ∃ n : Nat, n = 0 := ⟨_, rfl⟩
          have hn : n = keepOf keep k f := by rw [hn0, keepOf_none (by omega)]
          have hns : n ≤ f.loose.size := by omega
          refine .kn (t := 8) (v := .int .i64 (n : Nat)) rfl (by rw [hn0]; rfl) ?_
          refine .nil ?_
          refine .then ?_
          refine .condF rfl ?_
          refine .skip ?_
          refine .then ?_
          refine .seq ?_
          refine .draw [[], [0], [], [2], [], [3, 4], [1, 5], [6, 0, 1, 2, 3, 4, 5, 6]] [] (by kernel_rfl) (by kernel_rfl) rfl (e1 := [(1, _), (4, _), (5, _), (7, _), (8, _), (15, _), (16, _), (17, _)]) (.cons rfl rfl (.cons rfl rfl (.cons rfl rfl (.cons rfl rfl (.cons rfl rfl (.cons rfl rfl (.cons rfl rfl (.cons rfl rfl .nil)))))))) (fun x hx => by cases hx) rfl ?_
          refine .v (i := 0) [] rfl rfl rfl .nil (.n (.fab fl25_1 rfl)) ?_
          refine .v (i := 1) [(35, _)] rfl rfl rfl (.cons (.head _) rfl rfl .nil) (.n (.ldb ty9 rfl .here rfl)) ?_
          refine .v (i := 2) [] rfl rfl rfl .nil (.n (.fab fl25_2 rfl)) ?_
          refine .v (i := 3) [(37, _)] rfl rfl rfl (.cons (.head _) rfl rfl .nil) (.n (.ldb ty9 rfl .here rfl)) ?_
          refine .v (i := 4) [] rfl rfl rfl .nil (.n (.mv rfl)) ?_
          refine .v (i := 5) [(38, _), (39, _)] rfl rfl rfl (.cons (.tail _ (.head _)) rfl rfl (.cons (.head _) rfl rfl .nil)) (.n (.txTo (i := (n : Int)) Try.underlying9 rfl rfl ⟨by omega, by omega⟩)) ?_
          refine .tail0 6 [[6, 1, 5, 0, 3, 4, 2], [7, 6, 0, 1, 2, 3, 4, 5]] rfl rfl rfl rfl (e' := [(40, _), (39, _), (38, _), (37, _), (36, _), (35, _), (1, _), (4, _), (5, _), (7, _), (8, _), (15, _), (16, _), (17, _)]) rfl ?_
          refine .v (.cat rfl rfl (by rw [ByteArray.size_extract]; omega)) rfl ?_
          refine .v (.asn rfl) rfl ?_
          refine .nil ?_
          refine .then ?_
          refine .seq ?_
          refine .region ?_
          refine .v (.mv rfl) rfl ?_
          refine .vs (.nes rfl rfl) rfl (fun h43_16 => ?_) (fun h43_16 => ?_)
          · skip
            refine .nil ?_
            refine .then ?_
            refine .condT rfl ?_
            refine .region ?_
            refine .v (.fa0 fl28_0 rfl) rfl ?_
            refine .v (.ldb ty26 rfl (.there (.there .here)) rfl) rfl ?_
            refine .v (.fa0 fl25_0 rfl) rfl ?_
            refine .v (.ldb ty3 rfl .here rfl) rfl ?_
            refine .v (.mv rfl) rfl ?_
            refine .v (.build rfl (fun w => bd25_0_1 w _ _)) rfl ?_
            refine .nb (.lit1 sl26 ty25 rfl rfl rfl rfl rfl) rfl (fun b17 => ?_)
            refine .ap (.app1 (xs := out) (⟨f.id, f.firm ++ f.loose.extract 0 n, ⟨#[]⟩⟩) sl26 ty25 rfl encF_ok rfl rfl hr .here (by omega) (by omega) _ (fun _ => (.there (.there .here)))) rfl (fun a2 c2 it2 hr2 => ?_)
            refine .v (.fa0 fl28_0 rfl) rfl ?_
            refine .st (.stb ty26 rfl rfl rfl st0 (.there (.there (.there .here)))) ?_
            refine .nil ?_
            refine .blk ?_
            refine .then ?_
            refine .region ?_
            refine .v (.add rfl rfl (by omega)) rfl ?_
            refine .v (.mv rfl) rfl ?_
            refine .nil ?_
            exact .again (k + 1, out ++ [⟨f.id, f.firm ++ f.loose.extract 0 n, ⟨#[]⟩⟩], a2, c2, it2) ⟨by omega, by simp; omega, by rw [hcr, drop_get hf, crash_put _ hn h43_16]; simp, hr2⟩ (by omega) (.cons rfl rfl (.cons rfl rfl (.cons rfl rfl (.cons rfl rfl (.cons rfl rfl (.cons rfl rfl .nil)))))) (fun w ho => by dsimp only [List.cons_append, List.nil_append]; skip; exact (subl (.cons _ (.cons _ (.cons_cons _ (.cons_cons _ (.cons_cons _ (.cons_cons _ (.cons_cons _ .slnil)))))))) w ho)
          · skip
            refine .nil ?_
            refine .then ?_
            refine .condF rfl ?_
            refine .skip ?_
            refine .blk ?_
            refine .then ?_
            refine .region ?_
            refine .v (.add rfl rfl (by omega)) rfl ?_
            refine .v (.mv rfl) rfl ?_
            refine .nil ?_
            exact .again (k + 1, out, a1, c1, it) ⟨by omega, by dsimp only; omega, by rw [hcr, drop_get hf, crash_skip _ hn (Decidable.not_not.1 h43_16)], hr⟩ (by omega) (.cons rfl rfl (.cons rfl rfl (.cons rfl rfl (.cons rfl rfl (.cons rfl rfl (.cons rfl rfl .nil)))))) (fun w ho => by dsimp only [List.cons_append, List.nil_append]; skip; exact (subl (.cons _ (.cons_cons _ (.cons_cons _ (.cons_cons _ (.cons_cons _ (.cons_cons _ .slnil))))))) w ho)
      · skip
        refine .nil ?_
        refine .then ?_
        refine .seq ?_
        refine .condF rfl ?_
        refine .exit ?_
        refine .then_exit ?_
        refine .then_exit ?_
        refine .blk_exit ?_
        refine .then ?_
        refine .seq ?_
        refine .region ?_
        refine .v (.ldw ty28 rfl (.there .here) rfl) rfl ?_
        refine .st (.stw ty28 rfl rfl rfl rfl rfl (.there (.there .here))) ?_
        refine .nil ?_
        refine .then ?_
        refine .ret ?_
        obtain rfl : k = d.files.length := by omega
        have hval : crash d keep = ⟨out, 0, false, false⟩ := by rw [crash, if_pos h11_3, hcr, List.drop_length]; simp [crashFrom]
        refine .freeze (it := it) .here (fun G hle hG => ?_)
        exact .done _ [] (.c1 rfl ty28 rfl (.there (.there .here)) rfl) hle ⟨rfl, a1, c1, by rw [hval], by rw [hval]; exact hr.sl encF_ok hG⟩ (Inn.keep (.there (.there (.there (.there .here)))))
  · skip
    refine .v (.not rfl) rfl ?_
    refine .nil ?_
    refine .then ?_
    refine .condT rfl ?_
    refine .seq ?_
    refine .region ?_
    refine .v (.ldw ty28 rfl (.there .here) rfl) rfl ?_
    refine .st (.stw ty28 rfl rfl rfl rfl rfl .here) ?_
    refine .nil ?_
    refine .then ?_
    refine .ret ?_
    refine .then_ret ?_
    exact .done _ [] (.c1 rfl ty28 rfl .here rfl) .rfl ⟨rfl, a, c, (by rw [show crash d keep = d from by simp [crash, *]]), (by rw [show crash d keep = d from by simp [crash, *]]; exact hS)⟩ (Inn.keep (.there (.there .here)))
end Go.Proofs.Ytifkokikdlgaaaa.Ow
