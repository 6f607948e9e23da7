/- Walks. -/
import Derived.Test.YtggkhcdilbdifaaWc
namespace Go.Proofs.Ytggkhcdilbdifaa.Ow
open Go Go.Proofs.Ytggkhcdilbdifaa.Rec
set_option linter.unusedVariables false
theorem span_fn (d : Dk) (a : Option Addr) (c : Nat) (F : Mem) (hS : Sl F encF 3 a c d.files) (hb : tot d.files ≤ 4611686018427387904) (hn : d.files.length * 40 ≤ 140737488355328) : Fn Try.prog 9 #[dval a c d] [] F (fun u _ _ => u = .tuple #[.int .i64 (spanD d).1, .int .i64 (spanD d).2.1, .int .i64 (spanD d).2.2]) := by
  refine Fn.start0 Try.func9 rfl Try.ntmps9 rfl (env := [(0, _)]) rfl ?_
  intro R
  refine .seq ?_
  refine .region ?_
  refine .nb (.box rfl rfl) rfl (fun b1 => ?_)
  refine .v (.asn rfl) rfl ?_
  refine .v (.asn rfl) rfl ?_
  refine .v (.asn rfl) rfl ?_
  refine .nil ?_
  refine .then ?_
  refine .seq ?_
  refine .region ?_
  refine .v (.ldw ty24 rfl .here rfl) rfl ?_
  refine .cf rfl rfl (Try.call18 _) (log_fn d a c _ hS hb hn) rfl ?_
  rintro _ G2 le3 ⟨l4, al4, cl4, rfl, hSg4, hsg4, hmp4⟩
  replace hS := hS.mono le3
  have hF := le3
  have her := logR_err d
  refine .v (.mv rfl) rfl ?_
  refine .v (.ext rfl rfl) rfl ?_
  refine .v (.ext rfl rfl) rfl ?_
  refine .v (.ext rfl rfl) rfl ?_
  refine .v (.asn rfl) rfl ?_
  refine .v (.asn rfl) rfl ?_
  refine .v (.asn rfl) rfl ?_
  refine .nil ?_
  refine .then ?_
  refine .seq ?_
  refine .seq ?_
  refine .region ?_
  refine .v (.mv rfl) rfl ?_
  refine .vs (.ne rfl rfl) rfl (fun h15_5 => ?_) (fun h15_5 => ?_)
  · skip
    have hE : ¬ logE d = 0 := by rw [← her]; exact h15_5
    refine .nil ?_
    refine .then ?_
    refine .condT rfl ?_
    refine .seq ?_
    refine .region ?_
    refine .v (.mv rfl) rfl ?_
    refine .v (.asn rfl) rfl ?_
    refine .v (.asn rfl) rfl ?_
    refine .v (.asn rfl) rfl ?_
    refine .nil ?_
    refine .then ?_
    refine .ret ?_
    refine .then_ret ?_
    exact .done _ [] (.t3 rfl rfl rfl rfl) hF (by rw [show spanD d = (0, 0, logE d) from if_neg hE, her]) (Inn.keep (.there .here))
  · skip
    have hE : logE d = 0 := by rw [← her]; exact Decidable.not_not.1 h15_5
    have hR := logR_ok hE
    rw [hR] at hmp4
    dsimp only at hmp4
    obtain ⟨hr0, hd0⟩ := logE_zero hE
    have hnx := nextD_le hr0
    have hrecs := recs_le hr0
    refine .nil ?_
    refine .then ?_
    refine .condF rfl ?_
    refine .skip ?_
    refine .then ?_
    refine .seq ?_
    refine .region ?_
    refine .v (.mv rfl) rfl ?_
    refine .v (.call rfl rfl (Try.call19 _) (fun G hle hG => first_fn l4 al4 cl4 G (hSg4.mono hle))) rfl ?_
    refine .v (.mv rfl) rfl ?_
    refine .v (.asn rfl) rfl ?_
    refine .v (.asn rfl) rfl ?_
    refine .v (.asn rfl) rfl ?_
    refine .nil ?_
    refine .then ?_
    refine .ret ?_
    exact .done _ [] (.t3 rfl rfl rfl rfl) hF (by rw [show spanD d = (firstL (logD d), nextD d, 0) from if_pos hE, hmp4, hR]) (Inn.keep (.there .here))
theorem from_fn (d : Dk) (a : Option Addr) (c : Nat) (F : Mem) (hS : Sl F encF 3 a c d.files) (hb : tot d.files ≤ 4611686018427387904) (hn : d.files.length * 40 ≤ 140737488355328) (pos : Int) : Fn Try.prog 10 #[dval a c d, .int .i64 pos] [] F (fun v M G => M = [] ∧ ∃ (a : Option Addr) (c : Nat), v = .tuple #[.slice a (fromD d pos).1.length c, .int .i64 (fromD d pos).2] ∧ Sl G encS 1 a c (fromD d pos).1) := by
  refine Fn.start0 Try.func10 rfl Try.ntmps10 rfl (env := [(0, _), (1, _)]) rfl ?_
  intro R
  refine .seq ?_
  refine .region ?_
  refine .nb (.box rfl rfl) rfl (fun b1 => ?_)
  refine .v (.asn rfl) rfl ?_
  refine .v (.asn rfl) rfl ?_
  refine .nil ?_
  refine .then ?_
  refine .seq ?_
  refine .region ?_
  refine .v (.ldw ty24 rfl .here rfl) rfl ?_
  refine .cf rfl rfl (Try.call18 _) (log_fn d a c _ hS hb hn) rfl ?_
  rintro _ G2 le3 ⟨l4, al4, cl4, rfl, hSg4, hsg4, hmp4⟩
  replace hS := hS.mono le3
  have hF := le3
  have her := logR_err d
  refine .v (.mv rfl) rfl ?_
  refine .v (.ext rfl rfl) rfl ?_
  refine .v (.ext rfl rfl) rfl ?_
  refine .v (.ext rfl rfl) rfl ?_
  refine .v (.asn rfl) rfl ?_
  refine .v (.asn rfl) rfl ?_
  refine .v (.asn rfl) rfl ?_
  refine .nil ?_
  refine .then ?_
  refine .seq ?_
  refine .block ?_
  refine .seq ?_
  refine .region ?_
  refine .v (.mv rfl) rfl ?_
  refine .vs (.ne rfl rfl) rfl (fun h22_5 => ?_) (fun h22_5 => ?_)
  · skip
    have hE : ¬ logE d = 0 := by rw [← her]; exact h22_5
    refine .v (.asn rfl) rfl ?_
    refine .nil ?_
    refine .then ?_
    refine .condT rfl ?_
    refine .seq ?_
    refine .region ?_
    refine .v (.mv rfl) rfl ?_
    refine .v (.asn rfl) rfl ?_
    refine .v (.asn rfl) rfl ?_
    refine .nil ?_
    refine .then ?_
    refine .ret ?_
    refine .blk_ret ?_
    refine .then_ret ?_
    exact .done _ [] (.t2 rfl rfl rfl) hF ⟨rfl, none, 0, by rw [show fromD d pos = _ from if_neg hE, her]; first | done | rfl, by rw [show fromD d pos = _ from if_neg hE]; exact .nil⟩ (Inn.keep (.there .here))
  · skip
    have hE : logE d = 0 := by rw [← her]; exact Decidable.not_not.1 h22_5
    have hR := logR_ok hE
    rw [hR] at hmp4
    dsimp only at hmp4
    obtain ⟨hr0, hd0⟩ := logE_zero hE
    have hnx := nextD_le hr0
    have hrecs := recs_le hr0
    have hfr : firstL (l4.map KS.g) = firstL (logD d) := by rw [hmp4]
    have hnr : (logR d).2.1 = nextD d := by rw [hR]
    have hlen := hSg4.len
    refine .v (.asn rfl) rfl ?_
    refine .nil ?_
    refine .then ?_
    refine .condF rfl ?_
    refine .seq ?_
    refine .region ?_
    refine .v (.mv rfl) rfl ?_
    refine .v (.mv rfl) rfl ?_
    refine .v (.call rfl rfl (Try.call19 _) (fun G hle hG => first_fn l4 al4 cl4 G (hSg4.mono hle))) rfl ?_
    refine .vs (.lt rfl rfl) rfl (fun h28_6 => ?_) (fun h28_6 => ?_)
    · skip
      refine .v (.mv rfl) rfl ?_
      refine .gs rfl rfl rfl rfl ?_
      refine .gs rfl rfl rfl rfl ?_
      refine .gs rfl rfl rfl rfl ?_
      refine .v (.pkT rfl rfl) rfl ?_
      refine .v (.asn rfl) rfl ?_
      refine .nil ?_
      refine .then ?_
      refine .condT rfl ?_
      refine .seq ?_
      refine .region ?_
      refine .v (.asn rfl) rfl ?_
      refine .v (.asn rfl) rfl ?_
      refine .nil ?_
      refine .then ?_
      refine .ret ?_
      refine .blk_ret ?_
      refine .then_ret ?_
      exact .done _ [] (.t2 rfl rfl rfl) hF ⟨rfl, none, 0, by rw [show fromD d pos = _ from (if_pos hE).trans (if_pos (by omega))]; first | done | rfl, by rw [show fromD d pos = _ from (if_pos hE).trans (if_pos (by omega))]; exact .nil⟩ (Inn.keep (.there .here))
    · skip
      refine .v (.mv rfl) rfl ?_
      refine .g rfl rfl rfl ?_
      refine .v (.mv rfl) rfl ?_
      refine .g rfl rfl rfl ?_
      refine .v (.mv rfl) rfl ?_
      refine .g rfl rfl rfl ?_
      refine .vs (.gt rfl rfl) rfl (fun h32_7 => ?_) (fun h32_7 => ?_)
      · skip
        refine .v (.pkF rfl rfl) rfl ?_
        refine .v (.asn rfl) rfl ?_
        refine .nil ?_
        refine .then ?_
        refine .condT rfl ?_
        refine .seq ?_
        refine .region ?_
        refine .v (.asn rfl) rfl ?_
        refine .v (.asn rfl) rfl ?_
        refine .nil ?_
        refine .then ?_
        refine .ret ?_
        refine .blk_ret ?_
        refine .then_ret ?_
        exact .done _ [] (.t2 rfl rfl rfl) hF ⟨rfl, none, 0, by rw [show fromD d pos = _ from (if_pos hE).trans (if_pos (by omega))]; first | done | rfl, by rw [show fromD d pos = _ from (if_pos hE).trans (if_pos (by omega))]; exact .nil⟩ (Inn.keep (.there .here))
      · skip
        refine .v (.pkF rfl rfl) rfl ?_
        refine .v (.asn rfl) rfl ?_
        refine .nil ?_
        refine .then ?_
        refine .condF rfl ?_
        refine .skip ?_
        refine .blk ?_
        refine .then ?_
        refine .seq ?_
        refine .region ?_
        refine .v (.asn rfl) rfl ?_
        refine .nil ?_
        refine .then ?_
        refine .seq ?_
        refine .seq ?_
        refine .region ?_
        refine .v (.mv rfl) rfl ?_
        refine .v (.lenl Try.underlying52 rfl) rfl ?_
        refine .v (.mv rfl) rfl ?_
        refine .nil ?_
        refine .then ?_
        refine .block ?_
        refine .emp ?_
        refine WC.loopx (fx := [(1, _), (4, _), (5, _), (34, _), (35, _)]) (pre := [_]) (fm := [_, _]) rfl (.cons rfl rfl (.cons rfl rfl (.cons rfl rfl (.cons rfl rfl (.cons rfl rfl .nil))))) (ι := Nat × List ByteArray × Option Addr × Nat × Itm) (fun z => z.1 ≤ l4.length ∧ z.2.1.length ≤ trK l4 z.1 ∧ z.2.1 = fromS pos ((l4.take z.1).map KS.g) ∧ Row 9 encS 1 z.2.2.1 z.2.2.2.1 z.2.1 z.2.2.2.2) (fun z => l4.length - z.1) (fun z => [(9, .slice z.2.2.1 z.2.1.length z.2.2.2.1), (36, .int .i64 z.1)]) (fun z => [z.2.2.2.2]) (fun z => G2) (0, [], none, 0, []) ⟨Nat.zero_le _, by simp, rfl, Row.nil⟩ ?he ?hm ?round
        case he => exact .cons rfl rfl (.cons rfl rfl (.cons rfl rfl (.cons rfl rfl (.cons rfl rfl (.cons rfl rfl (.cons rfl rfl .nil))))))
        case hm => exact (fun _ h => h)
        case round =>
          intro z hk
          obtain ⟨k, out, a1, c1, it⟩ := z
          obtain ⟨hk, hol, hout, hr⟩ := hk
          dsimp only at hk hol hout hr ⊢
          dsimp only [List.cons_append, List.nil_append]
          refine .seq ?_
          refine .region ?_
          refine .vs (.lt rfl rfl) rfl (fun h37_8 => ?_) (fun h37_8 => ?_)
          · skip
            refine .nil ?_
            refine .then ?_
            refine .seq ?_
            refine .condT rfl ?_
            refine .skip ?_
            refine .then ?_
            refine .seq ?_
            refine .block ?_
            refine .seq ?_
            refine .region ?_
            obtain ⟨x, hx⟩ : ∃ y, l4[k]? = some y := ⟨_, List.getElem?_eq_getElem (by omega)⟩
            have hr_x := hsg4.at' x (List.mem_of_getElem? hx)
            have hrxl := hr_x.len
            have htr := trK_succ hx
            have htl := trK_le l4 (k + 1)
            rw [hmp4] at htl
            have hxr := logD_range d x.g (by rw [← hmp4]; exact List.mem_map_of_mem (List.mem_of_getElem? hx))
            refine .ix sl52 rfl rfl hSg4 rfl x ⟨by omega, hx⟩ (fun p9 o10 r11 => ?_)
            refine .v (.ldrw ty57 rfl r11 rfl) rfl ?_
            refine .nb (.alloc ty57 rfl) rfl (fun b12 => ?_)
            refine .st (.stw ty57 rfl rfl rfl rfl rfl .here) ?_
            refine .nil ?_
            refine .then ?_
            refine .seq ?_
            refine .region ?_
            refine .v (.fab fl57_1 rfl) rfl ?_
            refine .v (.ldb ty34 rfl .here rfl) rfl ?_
            refine .v (.lenl Try.underlying34 rfl) rfl ?_
            refine .v (.mv rfl) rfl ?_
            refine .nil ?_
            refine .then ?_
            refine .block ?_
            refine WC.loopx (fx := [(1, _), (4, _), (5, _), (11, _), (34, _), (35, _), (36, _), (41, _), (42, _)]) (pre := [_, _]) (fm := [_, _]) rfl (.cons rfl rfl (.cons rfl rfl (.cons rfl rfl (.cons rfl rfl (.cons rfl rfl (.cons rfl rfl (.cons rfl rfl (.cons rfl rfl (.cons rfl rfl .nil))))))))) (ι := Nat × List ByteArray × Option Addr × Nat × Itm) (fun z => z.1 ≤ x.g.recs.length ∧ z.2.1.length ≤ trK l4 k + z.1 ∧ z.2.1 = out ++ (x.g.recs.take z.1).drop (pos - x.g.id).toNat ∧ Row 9 encS 1 z.2.2.1 z.2.2.2.1 z.2.1 z.2.2.2.2) (fun z => x.g.recs.length - z.1) (fun z => [(9, .slice z.2.2.1 z.2.1.length z.2.2.2.1), (43, .int .i64 z.1)]) (fun z => [[⟨b12, 57, [.int .i64 x.g.id, .slice x.ra x.g.recs.length x.rc, .bool x.g.op]⟩], z.2.2.2.2]) (fun z => G2) (0, out, a1, c1, it) ⟨Nat.zero_le _, by (try dsimp only); omega, by simp, hr⟩ ?he ?hm ?round
            case he => exact .cons rfl rfl (.cons rfl rfl (.cons rfl rfl (.cons rfl rfl (.cons rfl rfl (.cons rfl rfl (.cons rfl rfl (.cons rfl rfl (.cons rfl rfl (.cons rfl rfl (.cons rfl rfl .nil))))))))))
            case hm => exact (fun _ h => h)
            case round =>
              intro z hk
              obtain ⟨j, out2, a2, c2, it2⟩ := z
              obtain ⟨hj, hol2, hout2, hr2⟩ := hk
              dsimp only at hj hol2 hout2 hr2 ⊢
              dsimp only [List.cons_append, List.nil_append]
              refine .seq ?_
              refine .region ?_
              refine .vs (.lt rfl rfl) rfl (fun h44_13 => ?_) (fun h44_13 => ?_)
              · skip
                refine .nil ?_
                refine .then ?_
                refine .seq ?_
                refine .condT rfl ?_
                refine .skip ?_
                refine .then ?_
                refine .seq ?_
                refine .block ?_
                refine .seq ?_
                refine .region ?_
                refine .v (.mv rfl) rfl ?_
                obtain ⟨y, hy⟩ : ∃ y, x.g.recs[j]? = some y := ⟨_, List.getElem?_eq_getElem (by omega)⟩
                refine .ix sl34 rfl rfl hr_x rfl y ⟨by omega, hy⟩ (fun p14 o15 r16 => ?_)
                refine .v (.ldr0 ty9 rfl r16 rfl) rfl ?_
                refine .v (.asn rfl) rfl ?_
                refine .v (.asn rfl) rfl ?_
                refine .nil ?_
                refine .then ?_
                refine .seq ?_
                refine .region ?_
                refine .v (.fa0 fl57_0 rfl) rfl ?_
                refine .v (.ldb ty3 rfl .here rfl) rfl ?_
                refine .v (.mv rfl) rfl ?_
                refine .v (.add rfl rfl (by omega)) rfl ?_
                refine .v (.mv rfl) rfl ?_
                refine .vs (.ge rfl rfl) rfl (fun h53_17 => ?_) (fun h53_17 => ?_)
                · skip
                  refine .nil ?_
                  refine .then ?_
                  refine .condT rfl ?_
                  refine .region ?_
                  refine .v (.mv rfl) rfl ?_
                  refine .v (.mv rfl) rfl ?_
                  refine .nb (.lit1 sl34 ty9 rfl rfl rfl rfl rfl) rfl (fun b18 => ?_)
                  refine .ap (.app1 (xs := out2) (y) sl34 ty9 rfl encS_ok rfl rfl hr2 .here (by omega) (by omega) _ (fun _ => (.there (.there .here)))) rfl (fun a3 c3 it3 hr3 => ?_)
                  refine .v (.asn rfl) rfl ?_
                  refine .nil ?_
                  refine .blk ?_
                  refine .then ?_
                  refine .region ?_
                  refine .v (.add rfl rfl (by omega)) rfl ?_
                  refine .v (.mv rfl) rfl ?_
                  refine .nil ?_
                  exact .again (j + 1, out2 ++ [y], a3, c3, it3) ⟨by (try dsimp only); omega, by simp; omega, by rw [hout2, drop_grow hy (by omega)]; simp, hr3⟩ (by dsimp only; omega) (.cons rfl rfl (.cons rfl rfl (.cons rfl rfl (.cons rfl rfl (.cons rfl rfl (.cons rfl rfl (.cons rfl rfl (.cons rfl rfl (.cons rfl rfl (.cons rfl rfl (.cons rfl rfl .nil))))))))))) (fun w ho => by dsimp only [List.cons_append, List.nil_append]; skip; exact (subl (.cons _ (.cons_cons _ (.cons_cons _ (.cons_cons _ (.cons_cons _ .slnil)))))) w ho)
                · skip
                  refine .nil ?_
                  refine .then ?_
                  refine .condF rfl ?_
                  refine .skip ?_
                  refine .blk ?_
                  refine .then ?_
                  refine .region ?_
                  refine .v (.add rfl rfl (by omega)) rfl ?_
                  refine .v (.mv rfl) rfl ?_
                  refine .nil ?_
                  exact .again (j + 1, out2, a2, c2, it2) ⟨by (try dsimp only); omega, by (try dsimp only); omega, by rw [hout2, drop_not (by omega)], hr2⟩ (by dsimp only; omega) (.cons rfl rfl (.cons rfl rfl (.cons rfl rfl (.cons rfl rfl (.cons rfl rfl (.cons rfl rfl (.cons rfl rfl (.cons rfl rfl (.cons rfl rfl (.cons rfl rfl (.cons rfl rfl .nil))))))))))) (fun w ho => by dsimp only [List.cons_append, List.nil_append]; skip; exact (subl (.cons_cons _ (.cons_cons _ (.cons_cons _ (.cons_cons _ .slnil))))) w ho)
              · skip
                refine .nil ?_
                refine .then ?_
                refine .seq ?_
                refine .condF rfl ?_
                refine .exit ?_
                refine .then_exit ?_
                refine .then_exit ?_
                refine .blk_exit ?_
                refine .blk ?_
                refine .then ?_
                refine .region ?_
                refine .v (.add rfl rfl (by omega)) rfl ?_
                refine .v (.mv rfl) rfl ?_
                refine .nil ?_
                exact .again (k + 1, out2, a2, c2, it2) ⟨by (try dsimp only); omega, by (try dsimp only); rw [htr]; omega, by rw [hout2, show j = x.g.recs.length by omega, List.take_length, hout, fromS_snoc hx], hr2⟩ (by dsimp only; omega) (.cons rfl rfl (.cons rfl rfl (.cons rfl rfl (.cons rfl rfl (.cons rfl rfl (.cons rfl rfl (.cons rfl rfl .nil))))))) (fun w ho => by dsimp only [List.cons_append, List.nil_append]; skip; exact (subl (.cons _ (.cons_cons _ (.cons_cons _ (.cons_cons _ .slnil))))) w ho)
          · skip
            refine .nil ?_
            refine .then ?_
            refine .seq ?_
            refine .condF rfl ?_
            refine .exit ?_
            refine .then_exit ?_
            refine .then_exit ?_
            refine .blk_exit ?_
            refine .then ?_
            refine .seq ?_
            refine .region ?_
            refine .v (.mv rfl) rfl ?_
            refine .v (.asn rfl) rfl ?_
            refine .v (.asn rfl) rfl ?_
            refine .nil ?_
            refine .then ?_
            refine .ret ?_
            obtain rfl : k = l4.length := by omega
            have hfv : fromD d pos = (out, 0) := by
              rw [hout, List.take_length, hmp4]; exact (if_pos hE).trans (if_neg (by omega))
            refine .freeze (it := it) .here (fun G hle hG => ?_)
            exact .done _ [] (.t2 rfl rfl rfl) (hF.trans hle) ⟨rfl, a1, c1, by rw [hfv], by rw [hfv]; exact hr.sl encS_ok hG⟩ (Inn.keep (.there (.there .here)))
end Go.Proofs.Ytggkhcdilbdifaa.Ow
