/- Walks. -/
import Derived.Test.YtggkhcdilbdifaaWg
namespace Go.Proofs.Ytggkhcdilbdifaa.Ow
open Go Go.Proofs.Ytggkhcdilbdifaa.Rec
set_option linter.unusedVariables false
theorem rspan_fn (d : Dk) (a : Option Addr) (c : Nat) (F : Mem) (hS : Sl F encF 3 a c d.files) (hr0 : right d = true) : Fn Try.prog 14 #[dval a c d] [] F (fun u _ _ => u = .tuple #[.int .i64 (firstL (logD d)), .int .i64 (nextD d)]) := by
  have hnx := nextD_le hr0
  have hrecs := recs_le hr0
  have hlr := log_ref d
  have hml : ((logD d).map (·.id)).length = (logD d).length := List.length_map _
  refine Fn.start0 Try.func14 rfl Try.ntmps14 rfl (env := [(0, _)]) rfl ?_
  intro R
  refine .seq ?_
  refine .region ?_
  refine .nb (.box rfl rfl) rfl (fun b1 => ?_)
  refine .v (.asn rfl) rfl ?_
  refine .v (.asn rfl) rfl ?_
  refine .nil ?_
  refine .then ?_
  refine .seq ?_
  refine .region ?_
  refine .v (.ldw ty27 rfl .here rfl) rfl ?_
  refine .cf rfl rfl (Try.call21 _) (rlog_fn d a c _ hS hr0) rfl ?_
  rintro _ G2 le3 ⟨ai4, ci4, al4, cl4, o4, rfl, hI4, hL4⟩
  replace hS := hS.mono le3
  have hF := le3
  refine .v (.mv rfl) rfl ?_
  refine .v (.ext rfl rfl) rfl ?_
  refine .v (.ext rfl rfl) rfl ?_
  refine .v (.ext rfl rfl) rfl ?_
  refine .v (.asn rfl) rfl ?_
  refine .v (.asn rfl) rfl ?_
  refine .v (.asn rfl) rfl ?_
  refine .nil ?_
  refine .then ?_
  refine .seq ?_
  refine .seq ?_
  refine .region ?_
  refine .v (.mv rfl) rfl ?_
  refine .v (.lenl Try.underlying59 rfl) rfl ?_
  refine .vs (.eq rfl rfl) rfl (fun h15_5 => ?_) (fun h15_5 => ?_)
  · skip
    have hnil : logD d = [] := List.eq_nil_of_length_eq_zero (by omega)
    obtain ⟨_, hlr1, hlr2⟩ := hlr.resolve_right (fun h => h.1 hnil)
    refine .nil ?_
    refine .then ?_
    refine .condT rfl ?_
    refine .seq ?_
    refine .region ?_
    refine .v (.asn rfl) rfl ?_
    refine .v (.asn rfl) rfl ?_
    refine .nil ?_
    refine .then ?_
    refine .ret ?_
    refine .then_ret ?_
    exact .done _ [] (.t2 rfl rfl rfl) hF (by rw [hlr1, hlr2]) (Inn.keep (.there .here))
  · skip
    obtain ⟨s0, r0, hs0⟩ : ∃ s r, logD d = s :: r := by cases e : logD d with | nil => exact absurd (show (((logD d).map (·.id)).length : Int) = 0 by rw [e]; rfl) h15_5 | cons s r => exact ⟨s, r, rfl⟩
    have hid0 : ((logD d).map (·.id))[0]? = some s0.id := by rw [hs0]; rfl
    have hfs0 : firstL (logD d) = s0.id := by rw [hs0]; rfl
    have hs1 := logD_range d s0 (by rw [hs0]; exact List.mem_cons_self ..)
    obtain ⟨_, hlr1, hlr2, hlr3⟩ := hlr.resolve_left (fun h => by rw [h.1] at hs0; cases hs0)
    refine .nil ?_
    refine .then ?_
    refine .condF rfl ?_
    refine .skip ?_
    refine .then ?_
    refine .seq ?_
    refine .draw [[], [0], [1], [], [3], [4], [], [6], [5, 7], [2, 0, 1, 2], [8, 9, 0, 1, 2, 3, 4, 5, 6, 7, 8, 9]] [] (by kernel_rfl) (by kernel_rfl) rfl (e1 := [(3, _), (4, _), (5, _)]) (.cons rfl rfl (.cons rfl rfl (.cons rfl rfl .nil))) (fun x hx => by cases hx) rfl ?_
    refine .v (i := 0) [] rfl rfl rfl .nil (.n (.mv rfl)) ?_
    refine .ix (i := 1) (j := 0) [(16, _)] rfl rfl rfl (.cons (.head _) rfl rfl .nil) hI4 s0.id ⟨by omega, hid0⟩ (fun b_ o_ hr_ ha_ hle_ => .n (.ixs sl59 rfl rfl ⟨by omega, hid0⟩ ha_ hle_)) (fun p6 o7 r8 => ?_)
    refine .v (i := 2) [(17, _)] rfl rfl rfl (.cons (.head _) rfl rfl .nil) (.n (.ldr0 ty3 rfl r8 rfl)) ?_
    refine .v (i := 3) [] rfl rfl rfl .nil (.n (.mv rfl)) ?_
    refine .ix (i := 4) (j := 0) [(19, _)] rfl rfl rfl (.cons (.head _) rfl rfl .nil) hI4 s0.id ⟨by omega, hid0⟩ (fun b_ o_ hr_ ha_ hle_ => .n (.ixs sl59 rfl rfl ⟨by omega, hid0⟩ ha_ hle_)) (fun p9 o10 r11 => ?_)
    refine .v (i := 5) [(20, _)] rfl rfl rfl (.cons (.head _) rfl rfl .nil) (.n (.ldr0 ty3 rfl r11 rfl)) ?_
    refine .v (i := 6) [] rfl rfl rfl .nil (.n (.mv rfl)) ?_
    refine .v (i := 7) [(22, _)] rfl rfl rfl (.cons (.head _) rfl rfl .nil) (.n (.lenl Try.underlying34 rfl)) ?_
    refine .v (i := 8) [(21, _), (23, _)] rfl rfl rfl (.cons (.tail _ (.tail _ (.head _))) rfl rfl (.cons (.head _) rfl rfl .nil)) (.n (.add rfl rfl (by omega))) ?_
    refine .v (i := 9) [(18, _)] rfl rfl rfl (.cons (.tail _ (.tail _ (.tail _ (.tail _ (.tail _ (.tail _ (.head _))))))) rfl rfl .nil) (.n (.asn rfl)) ?_
    refine .tail0 10 [[10, 8, 9, 0, 1, 2, 3, 4, 5, 6, 7]] rfl rfl rfl rfl (e' := [(2, _), (24, _), (23, _), (22, _), (21, _), (20, _), (19, _), (18, _), (17, _), (16, _), (3, _), (4, _), (5, _)]) rfl ?_
    refine .v (.asn rfl) rfl ?_
    refine .nil ?_
    refine .then ?_
    refine .ret ?_
    exact .done _ [] (.t2 rfl rfl rfl) hF (by rw [hfs0, hlr2, hfs0]) (Inn.keep (.there .here))
theorem rfrom_fn (d : Dk) (a : Option Addr) (c : Nat) (F : Mem) (hS : Sl F encF 3 a c d.files) (hb : tot d.files ≤ 4611686018427387904) (pos : Int) : Fn Try.prog 11 #[dval a c d, .int .i64 pos] [] F (fun v M G => M = [] ∧ ∃ (a : Option Addr) (c : Nat), v = .tuple #[.slice a (fromD d pos).1.length c, .int .i64 (fromD d pos).2] ∧ Sl G encS 1 a c (fromD d pos).1) := by
  refine Fn.start0 Try.func11 rfl Try.ntmps11 rfl (env := [(0, _), (1, _)]) rfl ?_
  intro R
  refine .seq ?_
  refine .region ?_
  refine .nb (.box rfl rfl) rfl (fun b1 => ?_)
  refine .v (.asn rfl) rfl ?_
  refine .v (.asn rfl) rfl ?_
  refine .nil ?_
  refine .then ?_
  refine .seq ?_
  refine .region ?_
  refine .v (.ldw ty27 rfl .here rfl) rfl ?_
  refine .v (.call rfl rfl (Try.call20 _) (fun G hle hG => rbad_fn d a c G (hS.mono hle) hb)) rfl ?_
  refine .v (.asn rfl) rfl ?_
  refine .nil ?_
  refine .then ?_
  refine .seq ?_
  refine .seq ?_
  refine .region ?_
  refine .v (.mv rfl) rfl ?_
  refine .vs (.ne rfl rfl) rfl (fun h15_2 => ?_) (fun h15_2 => ?_)
  · skip
    have hE : ¬ logE d = 0 := h15_2
    refine .nil ?_
    refine .then ?_
    refine .condT rfl ?_
    refine .seq ?_
    refine .region ?_
    refine .v (.mv rfl) rfl ?_
    refine .v (.asn rfl) rfl ?_
    refine .v (.asn rfl) rfl ?_
    refine .nil ?_
    refine .then ?_
    refine .ret ?_
    refine .then_ret ?_
    exact .done _ [] (.t2 rfl rfl rfl) .rfl ⟨rfl, none, 0, by rw [show fromD d pos = _ from if_neg hE]; first | done | rfl, by rw [show fromD d pos = _ from if_neg hE]; exact .nil⟩ (Inn.keep (.there .here))
  · skip
    have hE : logE d = 0 := Decidable.not_not.1 h15_2
    obtain ⟨hr0, hd0⟩ := logE_zero hE
    have hnx := nextD_le hr0
    have hrecs := recs_le hr0
    have hlr := log_ref d
    have hml : ((logD d).map (·.id)).length = (logD d).length := List.length_map _
    refine .nil ?_
    refine .then ?_
    refine .condF rfl ?_
    refine .skip ?_
    refine .then ?_
    refine .seq ?_
    refine .region ?_
    refine .v (.ldw ty27 rfl .here rfl) rfl ?_
    refine .v (.call rfl rfl (Try.call14 _) (fun G hle hG => rspan_fn d a c G (hS.mono hle) hr0)) rfl ?_
    refine .v (.mv rfl) rfl ?_
    refine .v (.ext rfl rfl) rfl ?_
    refine .v (.ext rfl rfl) rfl ?_
    refine .v (.asn rfl) rfl ?_
    refine .v (.asn rfl) rfl ?_
    refine .nil ?_
    refine .then ?_
    refine .seq ?_
    refine .region ?_
    refine .v (.ldw ty27 rfl .here rfl) rfl ?_
    refine .cf rfl rfl (Try.call21 _) (rlog_fn d a c _ hS hr0) rfl ?_
    rintro _ G3 le4 ⟨ai5, ci5, al5, cl5, o5, rfl, hI5, hL5⟩
    replace hS := hS.mono le4
    have hF := le4
    refine .v (.mv rfl) rfl ?_
    refine .v (.ext rfl rfl) rfl ?_
    refine .v (.ext rfl rfl) rfl ?_
    refine .v (.ext rfl rfl) rfl ?_
    refine .v (.asn rfl) rfl ?_
    refine .v (.asn rfl) rfl ?_
    refine .v (.asn rfl) rfl ?_
    refine .nil ?_
    refine .then ?_
    refine .seq ?_
    refine .seq ?_
    refine .region ?_
    refine .v (.mv rfl) rfl ?_
    refine .v (.mv rfl) rfl ?_
    refine .vs (.lt rfl rfl) rfl (fun h30_6 => ?_) (fun h30_6 => ?_)
    · skip
      refine .v (.mv rfl) rfl ?_
      refine .gs rfl rfl rfl rfl ?_
      refine .gs rfl rfl rfl rfl ?_
      refine .gs rfl rfl rfl rfl ?_
      refine .v (.pkT rfl rfl) rfl ?_
      refine .nil ?_
      refine .then ?_
      refine .condT rfl ?_
      refine .seq ?_
      refine .region ?_
      refine .v (.asn rfl) rfl ?_
      refine .v (.asn rfl) rfl ?_
      refine .nil ?_
      refine .then ?_
      refine .ret ?_
      refine .then_ret ?_
      exact .done _ [] (.t2 rfl rfl rfl) hF ⟨rfl, none, 0, by rw [show fromD d pos = _ from (if_pos hE).trans (if_pos (by omega))]; first | done | rfl, by rw [show fromD d pos = _ from (if_pos hE).trans (if_pos (by omega))]; exact .nil⟩ (Inn.keep (.there .here))
    · skip
      refine .v (.mv rfl) rfl ?_
      refine .g rfl rfl rfl ?_
      refine .v (.mv rfl) rfl ?_
      refine .g rfl rfl rfl ?_
      refine .v (.mv rfl) rfl ?_
      refine .g rfl rfl rfl ?_
      refine .vs (.gt rfl rfl) rfl (fun h34_7 => ?_) (fun h34_7 => ?_)
      · skip
        refine .v (.pkF rfl rfl) rfl ?_
        refine .nil ?_
        refine .then ?_
        refine .condT rfl ?_
        refine .seq ?_
        refine .region ?_
        refine .v (.asn rfl) rfl ?_
        refine .v (.asn rfl) rfl ?_
        refine .nil ?_
        refine .then ?_
        refine .ret ?_
        refine .then_ret ?_
        exact .done _ [] (.t2 rfl rfl rfl) hF ⟨rfl, none, 0, by rw [show fromD d pos = _ from (if_pos hE).trans (if_pos (by omega))]; first | done | rfl, by rw [show fromD d pos = _ from (if_pos hE).trans (if_pos (by omega))]; exact .nil⟩ (Inn.keep (.there .here))
      · skip
        refine .v (.pkF rfl rfl) rfl ?_
        refine .nil ?_
        refine .then ?_
        refine .condF rfl ?_
        refine .skip ?_
        refine .then ?_
        refine .seq ?_
        refine .region ?_
        have hle : pos - firstL (logD d) ≤ ((logD d).flatMap (·.recs)).length := by rcases hlr with ⟨h1, h2, h3⟩ | ⟨_, h1, h2, h3⟩ <;> omega
        have hfs : fromS pos (logD d) = ((logD d).flatMap (·.recs)).drop (pos - firstL (logD d)).toNat := by rcases hlr with ⟨h1, h2, h3⟩ | ⟨_, h1, h2, h3⟩; (rw [h1]; simp [fromS]); exact h3 pos (by omega)
        have hfv : fromD d pos = (((logD d).flatMap (·.recs)).drop (pos - firstL (logD d)).toNat, 0) := by rw [← hfs]; exact (if_pos hE).trans (if_neg (by omega))
        refine .v (.mv rfl) rfl ?_
        refine .v (.mv rfl) rfl ?_
        refine .v (.mv rfl) rfl ?_
        refine .v (.sub rfl rfl (by omega)) rfl ?_
        refine .v (.slFrom sl34 rfl rfl ⟨by omega, by omega⟩) rfl ?_
        refine .v (.asn rfl) rfl ?_
        refine .v (.asn rfl) rfl ?_
        refine .nil ?_
        refine .then ?_
        refine .ret ?_
        exact .done _ [] (.t2 rfl rfl rfl) hF ⟨rfl, _, _, by rw [hfv, List.length_drop], by rw [hfv]; exact hL5.drop (by omega)⟩ (Inn.keep (.there .here))
theorem ref_fn (d : Dk) (a : Option Addr) (c : Nat) (F : Mem) (hS : Sl F encF 3 a c d.files) (hn : d.files.length * 40 ≤ 140737488355328) : Fn Try.prog 6 #[dval a c d] [] F (fun v M G => M = [] ∧ ∃ a' c', v = dval a' c' d ∧ Sl G encF 3 a' c' d.files) := by
  have hm := hS.len
  refine Fn.start0 Try.func6 rfl Try.ntmps6 rfl (env := [(0, _)]) rfl ?_
  intro R
  refine .seq ?_
  refine .region ?_
  refine .nb (.box rfl rfl) rfl (fun b1 => ?_)
  refine .nb (.alloc ty27 rfl) rfl (fun b2 => ?_)
  refine .nil ?_
  refine .then ?_
  refine .seq ?_
  refine .region ?_
  refine .v (.fab fl24_1 rfl) rfl ?_
  refine .v (.ldb ty3 rfl (.there .here) rfl) rfl ?_
  refine .v (.fab fl24_2 rfl) rfl ?_
  refine .v (.ldb ty4 rfl (.there .here) rfl) rfl ?_
  refine .v (.fab fl24_3 rfl) rfl ?_
  refine .v (.ldb ty4 rfl (.there .here) rfl) rfl ?_
  refine .v (.build rfl (fun w => bd27_1_2_3 w _ _ _)) rfl ?_
  refine .nb (.alloc ty27 rfl) rfl (fun b3 => ?_)
  refine .st (.stw ty27 rfl rfl rfl rfl rfl .here) ?_
  refine .nil ?_
  refine .then ?_
  refine .seq ?_
  refine .seq ?_
  refine .region ?_
  refine .v (.fa0 fl24_0 rfl) rfl ?_
  refine .v (.ldb ty22 rfl (.there (.there .here)) rfl) rfl ?_
  refine .v (.lenl Try.underlying22 rfl) rfl ?_
  refine .v (.mv rfl) rfl ?_
  refine .nil ?_
  refine .then ?_
  refine .block ?_
  refine WC.loopx (fx := [(2, _), (3, _), (14, _), (15, _)]) (pre := [_]) (fm := [_, _, _]) rfl (.cons rfl rfl (.cons rfl rfl (.cons rfl rfl (.cons rfl rfl .nil)))) (ι := Nat × Option Addr × Nat × Itm) (fun z => z.1 ≤ d.files.length ∧ Row 51 encF 3 z.2.1 z.2.2.1 (d.files.take z.1) z.2.2.2) (fun z => d.files.length - z.1) (fun z => [(16, .int .i64 z.1)]) (fun z => [z.2.2.2, [⟨b3, 27, [.slice z.2.1 (d.files.take z.1).length z.2.2.1, .int .i64 d.left, .bool d.armed, .bool d.down]⟩]]) (fun z => F) (0, none, 0, []) ⟨by omega, Row.nil⟩ ?he ?hm ?round
  case he => exact .cons rfl rfl (.cons rfl rfl (.cons rfl rfl (.cons rfl rfl (.cons rfl rfl .nil))))
  case hm => exact (fun _ h => h)
  case round =>
    intro z hk
    obtain ⟨k, a1, c1, it⟩ := z
    obtain ⟨hk, hr⟩ := hk
    dsimp only at hk hr ⊢
    dsimp only [List.cons_append, List.nil_append]
    refine .seq ?_
    refine .region ?_
    refine .vs (.lt rfl rfl) rfl (fun h17_4 => ?_) (fun h17_4 => ?_)
    · skip
      refine .nil ?_
      refine .then ?_
      refine .seq ?_
      refine .condT rfl ?_
      refine .skip ?_
      refine .then ?_
      refine .seq ?_
      refine .block ?_
      refine .seq ?_
      refine .region ?_
      obtain ⟨f, hf⟩ : ∃ y, d.files[k]? = some y := ⟨_, List.getElem?_eq_getElem (by omega)⟩
      refine .ix sl22 rfl rfl hS rfl f ⟨by omega, hf⟩ (fun p5 o6 r7 => ?_)
      refine .v (.ldrw ty50 rfl r7 rfl) rfl ?_
      refine .nb (.alloc ty50 rfl) rfl (fun b8 => ?_)
      refine .st (.stw ty50 rfl rfl rfl rfl rfl .here) ?_
      refine .nil ?_
      refine .then ?_
      refine .region ?_
      refine .v (.fa0 fl27_0 rfl) rfl ?_
      refine .v (.ldb ty25 rfl (.there (.there .here)) rfl) rfl ?_
      refine .v (.ldw ty50 rfl .here rfl) rfl ?_
      refine .nb (.lit1 sl25 ty51 rfl rfl rfl rfl rfl) rfl (fun b9 => ?_)
      refine .ap (.app1 (xs := (d.files.take k)) (f) sl25 ty51 rfl encF_ok rfl rfl hr .here (by rw [take_len hk]; omega) (by rw [take_len hk]; omega) _ (fun _ => (.there (.there .here)))) rfl (fun a2 c2 it2 hr2 => ?_)
      refine .v (.fa0 fl27_0 rfl) rfl ?_
      refine .st (.stb ty25 rfl rfl rfl st0 (.there (.there (.there .here)))) ?_
      refine .nil ?_
      refine .blk ?_
      refine .then ?_
      refine .region ?_
      refine .v (.add rfl rfl (by omega)) rfl ?_
      refine .v (.mv rfl) rfl ?_
      refine .nil ?_
      exact .again (k + 1, a2, c2, it2) ⟨by omega, by rw [take_snoc hf]; exact hr2⟩ (by omega) (.cons rfl rfl (.cons rfl rfl (.cons rfl rfl (.cons rfl rfl (.cons rfl rfl .nil))))) (fun w ho => by dsimp only [List.cons_append, List.nil_append]; rw [take_snoc hf]; exact (subl (.cons _ (.cons _ (.cons_cons _ (.cons_cons _ (.cons_cons _ (.cons_cons _ (.cons_cons _ .slnil)))))))) w ho)
    · skip
      refine .nil ?_
      refine .then ?_
      refine .seq ?_
      refine .condF rfl ?_
      refine .exit ?_
      refine .then_exit ?_
      refine .then_exit ?_
      refine .blk_exit ?_
      refine .then ?_
      refine .seq ?_
      refine .region ?_
      refine .v (.ldw ty27 rfl (.there .here) rfl) rfl ?_
      refine .st (.stw ty27 rfl rfl rfl rfl rfl (.there (.there .here))) ?_
      refine .nil ?_
      refine .then ?_
      refine .ret ?_
      obtain rfl : k = d.files.length := by omega
      refine .freeze (it := it) .here (fun G hle hG => ?_)
      rw [List.take_length] at hr
      exact .done _ [] (.c1 rfl ty27 rfl (.there (.there .here)) rfl) hle ⟨rfl, a1, c1, by rw [List.take_length], hr.sl encF_ok hG⟩ (Inn.keep (.there (.there (.there (.there .here)))))
end Go.Proofs.Ytggkhcdilbdifaa.Ow
