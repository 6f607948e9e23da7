/- Walks. -/
import Derived.Test.YtggkhcdilbdifaaWe
namespace Go.Proofs.Ytggkhcdilbdifaa.Ow
open Go Go.Proofs.Ytggkhcdilbdifaa.Rec
set_option linter.unusedVariables false
theorem cut_fn (d : Dk) (a : Option Addr) (c : Nat) (F : Mem) (hS : Sl F encF 3 a c d.files) (hb : tot d.files ≤ 4611686018427387904) (hn : d.files.length * 40 ≤ 140737488355328) (below : Int) : Fn Try.prog 17 #[dval a c d, .int .i64 below] [] F (fun v M G => M = [] ∧ ∃ a' c', v = .tuple #[dval a' c' (cutD d below).1, .int .i64 (cutD d below).2] ∧ Sl G encF 3 a' c' (cutD d below).1.files) := by
  refine Fn.start0 Try.func17 rfl Try.ntmps17 rfl (env := [(0, _), (1, _)]) rfl ?_
  intro R
  refine .seq ?_
  refine .region ?_
  refine .nb (.box rfl rfl) rfl (fun b1 => ?_)
  refine .nb (.alloc ty24 rfl) rfl (fun b2 => ?_)
  refine .v (.asn rfl) rfl ?_
  refine .nil ?_
  refine .then ?_
  refine .seq ?_
  refine .region ?_
  refine .v (.ldw ty24 rfl (.there .here) rfl) rfl ?_
  refine .cf rfl rfl (Try.call18 _) (log_fn d a c _ hS hb hn) rfl ?_
  rintro _ G3 le4 ⟨l5, al5, cl5, rfl, hSg5, hsg5, hmp5⟩
  replace hS := hS.mono le4
  have hF := le4
  have her := logR_err d
  refine .v (.mv rfl) rfl ?_
  refine .v (.ext rfl rfl) rfl ?_
  refine .v (.ext rfl rfl) rfl ?_
  refine .v (.ext rfl rfl) rfl ?_
  refine .v (.asn rfl) rfl ?_
  refine .v (.asn rfl) rfl ?_
  refine .v (.asn rfl) rfl ?_
  refine .nil ?_
  refine .then ?_
  refine .seq ?_
  refine .seq ?_
  refine .region ?_
  refine .v (.mv rfl) rfl ?_
  refine .vs (.ne rfl rfl) rfl (fun h17_6 => ?_) (fun h17_6 => ?_)
  · skip
    have hE : ¬ logE d = 0 := by rw [← her]; exact h17_6
    refine .nil ?_
    refine .then ?_
    refine .condT rfl ?_
    refine .seq ?_
    refine .region ?_
    refine .v (.ldw ty24 rfl (.there .here) rfl) rfl ?_
    refine .v (.mv rfl) rfl ?_
    refine .st (.stw ty24 rfl rfl rfl rfl rfl .here) ?_
    refine .v (.asn rfl) rfl ?_
    refine .nil ?_
    refine .then ?_
    refine .ret ?_
    refine .then_ret ?_
    have hv : cutD d below = (d, (logR d).2.2) := (if_neg hE).trans (by rw [her])
    exact .done _ [] (.ct rfl ty24 rfl .here rfl rfl) hF ⟨rfl, a, c, by rw [hv], by rw [hv]; exact hS⟩ (Inn.keep (.there (.there .here)))
  · skip
    have hE : logE d = 0 := by rw [← her]; exact Decidable.not_not.1 h17_6
    have hR := logR_ok hE
    rw [hR] at hmp5
    dsimp only at hmp5
    obtain ⟨hr0, hd0⟩ := logE_zero hE
    have hnx := nextD_le hr0
    have hrecs := recs_le hr0
    refine .nil ?_
    refine .then ?_
    refine .condF rfl ?_
    refine .skip ?_
    refine .then ?_
    refine .seq ?_
    refine .seq ?_
    refine .region ?_
    refine .v (.asn rfl) rfl ?_
    refine .nil ?_
    refine .then ?_
    refine .block ?_
    refine WC.loopx (fx := [(1, _), (2, _), (4, _), (6, _)]) (pre := [_, _]) (fm := [_]) rfl (.cons rfl rfl (.cons rfl rfl (.cons rfl rfl (.cons rfl rfl .nil)))) (ι := Nat × Dk × Option Addr × Nat × Mem) (fun z => z.1 ≤ l5.length ∧ right z.2.1 = true ∧ cutL below d (logD d) = cutL below z.2.1 ((logD d).drop z.1) ∧ Sl z.2.2.2.2 encF 3 z.2.2.1 z.2.2.2.1 z.2.1.files ∧ Le G3 z.2.2.2.2) (fun z => l5.length - z.1) (fun z => [(9, .int .i64 z.1)]) (fun z => [[⟨b2, 24, [.slice none 0 0, .int .i64 0, .bool false, .bool false]⟩], [⟨b1, 24, [.slice z.2.2.1 z.2.1.files.length z.2.2.2.1, .int .i64 z.2.1.left, .bool z.2.1.armed, .bool z.2.1.down]⟩]]) (fun z => z.2.2.2.2) (0, d, a, c, G3) ⟨Nat.zero_le _, hr0, rfl, hS, .rfl⟩ ?he ?hm ?round
    case he => exact .cons rfl rfl (.cons rfl rfl (.cons rfl rfl (.cons rfl rfl (.cons rfl rfl .nil))))
    case hm => exact (fun _ h => h)
    case round =>
      intro z hk
      obtain ⟨k, D, a1, c1, G0⟩ := z
      obtain ⟨hk, hrD, hcut, hSd, hG01⟩ := hk
      dsimp only at hk hrD hcut hSd hG01 ⊢
      replace hS := hS.mono hG01
      replace hSg5 := hSg5.mono hG01
      replace hsg5 := hsg5.mono hG01
      replace hF := hF.trans hG01
      dsimp only [List.cons_append, List.nil_append]
      refine .seq ?_
      refine .seq ?_
      refine .region ?_
      have hlen : l5.length ≤ d.files.length := by have e := congrArg List.length hmp5; rw [List.length_map] at e; rw [e]; exact logF_len 0 d.files
      refine .v (.mv rfl) rfl ?_
      refine .v (.add rfl rfl (by omega)) rfl ?_
      refine .v (.mv rfl) rfl ?_
      refine .v (.lenl Try.underlying52 rfl) rfl ?_
      refine .vs (.lt rfl rfl) rfl (fun h24_7 => ?_) (fun h24_7 => ?_)
      · skip
        obtain ⟨x1, hx1⟩ : ∃ y, l5[k + 1]? = some y := ⟨_, List.getElem?_eq_getElem (by omega)⟩
        obtain ⟨x0, hx0⟩ : ∃ y, l5[k]? = some y := ⟨_, List.getElem?_eq_getElem (by omega)⟩
        have hr_x1 := hsg5.at' x1 (List.mem_of_getElem? hx1)
        have hg1 : (logD d)[k + 1]? = some x1.g := by rw [← hmp5, List.getElem?_map, hx1]; rfl
        have hg0 : (logD d)[k]? = some x0.g := by rw [← hmp5, List.getElem?_map, hx0]; rfl
        refine .v (.mv rfl) rfl ?_
        refine .g rfl rfl rfl ?_
        refine .v (.mv rfl) rfl ?_
        refine .g rfl rfl rfl ?_
        refine .v (.mv rfl) rfl ?_
        refine .g rfl rfl rfl ?_
        refine .v (.add rfl rfl (by omega)) rfl ?_
        refine .g rfl rfl rfl ?_
        refine .ix sl52 rfl rfl hSg5 rfl x1 ⟨by omega, by rw [show ((k : Int) + 1).toNat = k + 1 by omega]; exact hx1⟩ (fun p8 o9 r10 => ?_)
        refine .g rfl rfl rfl ?_
        refine .v (.fae fl57_1 rfl) rfl ?_
        refine .g rfl rfl rfl ?_
        refine .v (.ldr (j := 1) ty34 rfl r10 rfl) rfl ?_
        refine .g rfl rfl rfl ?_
        refine .v (.lenl Try.underlying34 rfl) rfl ?_
        refine .g rfl rfl rfl ?_
        refine .vs (.gt rfl rfl) rfl (fun h33_11 => ?_) (fun h33_11 => ?_)
        · skip
          refine .v (.pkT rfl rfl) rfl ?_
          refine .v (.mv rfl) rfl ?_
          refine .g rfl rfl rfl ?_
          refine .v (.mv rfl) rfl ?_
          refine .g rfl rfl rfl ?_
          refine .v (.mv rfl) rfl ?_
          refine .g rfl rfl rfl ?_
          refine .v (.add rfl rfl (by omega)) rfl ?_
          refine .g rfl rfl rfl ?_
          refine .ix sl52 rfl rfl hSg5 rfl x1 ⟨by omega, by rw [show ((k : Int) + 1).toNat = k + 1 by omega]; exact hx1⟩ (fun p12 o13 r14 => ?_)
          refine .g rfl rfl rfl ?_
          refine .v (.fa0 fl57_0 rfl) rfl ?_
          refine .g rfl rfl rfl ?_
          refine .v (.ldr0 ty3 rfl r14 rfl) rfl ?_
          refine .g rfl rfl rfl ?_
          refine .v (.mv rfl) rfl ?_
          refine .g rfl rfl rfl ?_
          refine .vs (.le rfl rfl) rfl (fun h43_15 => ?_) (fun h43_15 => ?_)
          · skip
            have hgo := cutL_go (d := D) hg0 hg1 (below := below) (by omega)
            refine .v (.pkT rfl rfl) rfl ?_
            refine .nil ?_
            refine .then ?_
            refine .condT rfl ?_
            refine .skip ?_
            refine .then ?_
            refine .seq ?_
            refine .block ?_
            refine .seq ?_
            refine .draw [[], [], [], [1, 2], [3], [4], [0, 5], [6], [7], [7], [8, 6, 0, 1, 2, 3, 4, 5, 6, 7, 8], [9, 10, 0, 1, 2, 3, 4, 5, 6, 7, 8, 9, 10]] [] (by kernel_rfl) (by kernel_rfl) rfl (e1 := [(1, _), (2, _), (4, _), (6, _), (9, _)]) (.cons rfl rfl (.cons rfl rfl (.cons rfl rfl (.cons rfl rfl (.cons rfl rfl .nil))))) (fun x hx => by cases hx) rfl ?_
            refine .v (i := 0) [] rfl rfl rfl .nil (.n (.ldw ty24 rfl (.there .here) rfl)) ?_
            refine .v (i := 1) [] rfl rfl rfl .nil (.n (.mv rfl)) ?_
            refine .v (i := 2) [] rfl rfl rfl .nil (.n (.mv rfl)) ?_
            refine .ix (i := 3) (j := (k : Int)) [(49, _), (50, _)] rfl rfl rfl (.cons (.tail _ (.head _)) rfl rfl (.cons (.head _) rfl rfl .nil)) hSg5 x0 ⟨by omega, hx0⟩ (fun b_ o_ hr_ ha_ hle_ => .n (.ixs sl52 rfl rfl ⟨by omega, hx0⟩ ha_ hle_)) (fun p16 o17 r18 => ?_)
            refine .v (i := 4) [(51, _)] rfl rfl rfl (.cons (.head _) rfl rfl .nil) (.n (.fa0 fl57_0 rfl)) ?_
            refine .v (i := 5) [(52, _)] rfl rfl rfl (.cons (.head _) rfl rfl .nil) (.n (.ldr0 ty3 rfl r18 rfl)) ?_
            refine .e (i := 6) [(48, _), (53, _)] [6, 0, 5, 4, 3, 1, 2] rfl rfl rfl (.cons (.tail _ (.tail _ (.tail _ (.tail _ (.tail _ (.head _)))))) rfl rfl (.cons (.head _) rfl rfl .nil)) rfl rfl rfl .n (.call rfl rfl (Try.call26 _) (remove_fn D a1 c1 _ hSd (right_tot hrD) x0.g.id) _ rfl) ?_
            rintro _ _ G19 le20 ⟨_, rfl, rfl, a21, c21, rfl, hS21⟩
            replace hS := hS.mono le20
            replace hSg5 := hSg5.mono le20
            replace hsg5 := hsg5.mono le20
            replace hSd := hSd.mono le20
            replace hG01 := hG01.mono le20
            replace hF := hF.trans le20
            refine ⟨.skip rfl (.skip rfl (.skip rfl (.skip rfl (.skip rfl (.skip rfl .nil))))), rfl, ?_⟩
            refine .v (i := 7) [(54, _)] rfl rfl rfl (.cons (.head _) rfl rfl .nil) (.n (.mv rfl)) ?_
            refine .v (i := 8) [(47, _)] rfl rfl rfl (.cons (.head _) rfl rfl .nil) (.n (.ext rfl rfl)) ?_
            refine .v (i := 9) [(47, _)] rfl rfl rfl (.cons (.tail _ (.head _)) rfl rfl .nil) (.n (.ext rfl rfl)) ?_
            refine .e (i := 10) [(55, _)] [10, 8, 6, 0, 1, 2, 3, 4, 5, 7] rfl rfl rfl (.cons (.tail _ (.head _)) rfl rfl .nil) rfl rfl rfl .n (.stw ty24 rfl rfl rfl rfl rfl (.there .here)) ?_
            rintro _ _ Gs22 _ ⟨rfl, rfl, hGs_⟩
            subst Gs22
            refine ⟨.again [(47, _)] rfl (.cons (.tail _ (.tail _ (.head _))) rfl rfl .nil) (.n (.ext rfl rfl)) (.skip rfl (.skip rfl (.skip rfl (.skip rfl (.skip rfl (.skip rfl (.skip rfl (.skip rfl (.skip rfl .nil))))))))), rfl, ?_⟩
            refine .tail0 11 [[11, 9, 10, 0, 1, 2, 3, 4, 5, 6, 7, 8]] rfl rfl rfl rfl (e' := [(56, _), (55, _), (47, _), (54, _), (53, _), (52, _), (51, _), (50, _), (49, _), (48, _), (1, _), (2, _), (4, _), (6, _), (9, _)]) rfl ?_
            refine .v (.asn rfl) rfl ?_
            refine .nil ?_
            refine .then ?_
            refine .seq ?_
            refine .region ?_
            refine .v (.mv rfl) rfl ?_
            refine .vs (.ne rfl rfl) rfl (fun h58_23 => ?_) (fun h58_23 => ?_)
            · skip
              refine .nil ?_
              refine .then ?_
              refine .condT rfl ?_
              refine .seq ?_
              refine .region ?_
              refine .v (.ldw ty24 rfl (.there .here) rfl) rfl ?_
              refine .v (.mv rfl) rfl ?_
              refine .st (.stw ty24 rfl rfl rfl rfl rfl .here) ?_
              refine .v (.asn rfl) rfl ?_
              refine .nil ?_
              refine .then ?_
              refine .ret ?_
              refine .blk_ret ?_
              refine .then_ret ?_
              refine .then_ret ?_
              refine .blk_ret ?_
              refine .then_ret ?_
              have hv : cutD d below = remove D x0.g.id := (if_pos hE).trans (by rw [hcut, hgo, if_neg h58_23])
              exact .done _ [] (.ct rfl ty24 rfl .here rfl rfl) hF ⟨rfl, a21, c21, by rw [hv], by rw [hv]; exact hS21⟩ (Inn.keep (.there (.there .here)))
            · skip
              refine .nil ?_
              refine .then ?_
              refine .condF rfl ?_
              refine .skip ?_
              refine .blk ?_
              refine .then ?_
              refine .region ?_
              refine .v (.mv rfl) rfl ?_
              refine .v (.add rfl rfl (by omega)) rfl ?_
              refine .v (.asn rfl) rfl ?_
              refine .nil ?_
              exact .again (k + 1, (remove D x0.g.id).1, a21, c21, G19) ⟨by (try dsimp only); omega, remove_right hrD _, by rw [hcut, hgo, if_pos (Decidable.not_not.1 h58_23)], hS21, hG01⟩ (by dsimp only; omega) (.cons rfl rfl (.cons rfl rfl (.cons rfl rfl (.cons rfl rfl (.cons rfl rfl .nil))))) (subl (.cons_cons _ (.cons_cons _ (.cons_cons _ .slnil))))
          · skip
            have hstop : cutL below D ((logD d).drop k) = (D, 0) := cutL_stop hg1 (by omega)
            refine .v (.pkT rfl rfl) rfl ?_
            refine .nil ?_
            refine .then ?_
            refine .condF rfl ?_
            refine .exit ?_
            refine .then_exit ?_
            refine .then_exit ?_
            refine .blk_exit ?_
            refine .then ?_
            refine .seq ?_
            refine .region ?_
            refine .v (.ldw ty24 rfl (.there .here) rfl) rfl ?_
            refine .st (.stw ty24 rfl rfl rfl rfl rfl .here) ?_
            refine .v (.asn rfl) rfl ?_
            refine .nil ?_
            refine .then ?_
            refine .ret ?_
            have hv : cutD d below = (D, 0) := (if_pos hE).trans (by rw [hcut, hstop])
            exact .done _ [] (.ct rfl ty24 rfl .here rfl rfl) hF ⟨rfl, a1, c1, by rw [hv], by rw [hv]; exact hSd⟩ (Inn.keep (.there (.there .here)))
        · skip
          have hstop : cutL below D ((logD d).drop k) = (D, 0) := cutL_stop hg1 (by omega)
          refine .v (.pkT rfl rfl) rfl ?_
          refine .v (.mv rfl) rfl ?_
          refine .gs rfl rfl rfl rfl ?_
          refine .gs rfl rfl rfl rfl ?_
          refine .gs rfl rfl rfl rfl ?_
          refine .gs rfl rfl rfl rfl ?_
          refine .gs rfl rfl rfl rfl ?_
          refine .gs rfl rfl rfl rfl ?_
          refine .gs rfl rfl rfl rfl ?_
          refine .gs rfl rfl rfl rfl ?_
          refine .v (.pkF rfl rfl) rfl ?_
          refine .nil ?_
          refine .then ?_
          refine .condF rfl ?_
          refine .exit ?_
          refine .then_exit ?_
          refine .then_exit ?_
          refine .blk_exit ?_
          refine .then ?_
          refine .seq ?_
          refine .region ?_
          refine .v (.ldw ty24 rfl (.there .here) rfl) rfl ?_
          refine .st (.stw ty24 rfl rfl rfl rfl rfl .here) ?_
          refine .v (.asn rfl) rfl ?_
          refine .nil ?_
          refine .then ?_
          refine .ret ?_
          have hv : cutD d below = (D, 0) := (if_pos hE).trans (by rw [hcut, hstop])
          exact .done _ [] (.ct rfl ty24 rfl .here rfl rfl) hF ⟨rfl, a1, c1, by rw [hv], by rw [hv]; exact hSd⟩ (Inn.keep (.there (.there .here)))
      · skip
        have hstop : cutL below D ((logD d).drop k) = (D, 0) := cutL_end (by rw [← hmp5, List.length_map]; omega)
        refine .v (.mv rfl) rfl ?_
        refine .gs rfl rfl rfl rfl ?_
        refine .gs rfl rfl rfl rfl ?_
        refine .gs rfl rfl rfl rfl ?_
        refine .gs rfl rfl rfl rfl ?_
        refine .gs rfl rfl rfl rfl ?_
        refine .gs rfl rfl rfl rfl ?_
        refine .gs rfl rfl rfl rfl ?_
        refine .gs rfl rfl rfl rfl ?_
        refine .v (.pkF rfl rfl) rfl ?_
        refine .v (.mv rfl) rfl ?_
        refine .gs rfl rfl rfl rfl ?_
        refine .gs rfl rfl rfl rfl ?_
        refine .gs rfl rfl rfl rfl ?_
        refine .gs rfl rfl rfl rfl ?_
        refine .gs rfl rfl rfl rfl ?_
        refine .gs rfl rfl rfl rfl ?_
        refine .gs rfl rfl rfl rfl ?_
        refine .gs rfl rfl rfl rfl ?_
        refine .v (.pkF rfl rfl) rfl ?_
        refine .nil ?_
        refine .then ?_
        refine .condF rfl ?_
        refine .exit ?_
        refine .then_exit ?_
        refine .then_exit ?_
        refine .blk_exit ?_
        refine .then ?_
        refine .seq ?_
        refine .region ?_
        refine .v (.ldw ty24 rfl (.there .here) rfl) rfl ?_
        refine .st (.stw ty24 rfl rfl rfl rfl rfl .here) ?_
        refine .v (.asn rfl) rfl ?_
        refine .nil ?_
        refine .then ?_
        refine .ret ?_
        have hv : cutD d below = (D, 0) := (if_pos hE).trans (by rw [hcut, hstop])
        exact .done _ [] (.ct rfl ty24 rfl .here rfl rfl) hF ⟨rfl, a1, c1, by rw [hv], by rw [hv]; exact hSd⟩ (Inn.keep (.there (.there .here)))
theorem rbad_fn (d : Dk) (a : Option Addr) (c : Nat) (F : Mem) (hS : Sl F encF 3 a c d.files) (hb : tot d.files ≤ 4611686018427387904) : Fn Try.prog 20 #[dval a c d] [] F (fun u _ _ => u = .int .i64 (logE d)) := by
  refine Fn.start0 Try.func20 rfl Try.ntmps20 rfl (env := [(0, _)]) rfl ?_
  intro R
  refine .seq ?_
  refine .region ?_
  refine .nb (.box rfl rfl) rfl (fun b1 => ?_)
  refine .v (.asn rfl) rfl ?_
  refine .nil ?_
  refine .then ?_
  refine .seq ?_
  refine .seq ?_
  refine .region ?_
  refine .v (.ldw ty27 rfl .here rfl) rfl ?_
  refine .vb (.call rfl rfl (Try.call13 _) (fun G hle hG => rright_fn d a c G (hS.mono hle) hb)) rfl (fun h4_2 => ?_) (fun h4_2 => ?_)
  · skip
    refine .v (.not rfl) rfl ?_
    refine .nil ?_
    refine .then ?_
    refine .condF rfl ?_
    refine .skip ?_
    refine .then ?_
    refine .seq ?_
    refine .seq ?_
    refine .region ?_
    refine .v (.fab fl27_3 rfl) rfl ?_
    refine .v (.ldb ty4 rfl .here rfl) rfl ?_
    refine .nil ?_
    refine .then ?_
    refine .cs (t := 7) rfl (fun c7_3 => ?_) (fun c7_3 => ?_)
    · skip
      refine .condT rfl ?_
      refine .seq ?_
      refine .region ?_
      refine .v (.asn rfl) rfl ?_
      refine .nil ?_
      refine .then ?_
      refine .ret ?_
      refine .then_ret ?_
      exact .done _ [] (.t1 rfl rfl) .rfl (by rw [show logE d = 7 from by unfold logE; rw [if_neg (by simp [h4_2]), if_pos c7_3]]) (Inn.keep (.there .here))
    · skip
      refine .condF rfl ?_
      refine .skip ?_
      refine .then ?_
      refine .seq ?_
      refine .region ?_
      refine .v (.asn rfl) rfl ?_
      refine .nil ?_
      refine .then ?_
      refine .ret ?_
      exact .done _ [] (.t1 rfl rfl) .rfl (by rw [show logE d = 0 from by unfold logE; rw [if_neg (by simp [h4_2]), if_neg (by simp [c7_3])]]) (Inn.keep (.there .here))
  · skip
    refine .v (.not rfl) rfl ?_
    refine .nil ?_
    refine .then ?_
    refine .condT rfl ?_
    refine .seq ?_
    refine .region ?_
    refine .v (.asn rfl) rfl ?_
    refine .nil ?_
    refine .then ?_
    refine .ret ?_
    refine .then_ret ?_
    exact .done _ [] (.t1 rfl rfl) .rfl (by rw [show logE d = 1 from by unfold logE; rw [if_pos h4_2]]) (Inn.keep (.there .here))
/-- The state of the reference's log. -/
inductive RSt : List Sg → Int → Prop
  | nil : RSt [] 0
  | cons {l : List Sg} {a b : Int} : l ≠ [] → 1 ≤ a → Chain a l b → RSt l b
theorem Chain.snoc : ∀ {l : List Sg} {a b : Int} {f : Fl}, Chain a l b → ¬ badId b f.id → f.id = b → Chain a (l ++ [sgOf f]) (f.id + (sgOf f).recs.length)
  | [], a, b, f, h, hb, e => by
    have h : a = b := h
    have := logF_next_lt hb
    exact ⟨by show f.id = a; omega, by show 1 ≤ f.id; omega, by show f.id ≤ 549755813888; omega, by show a + _ = f.id + _; omega⟩
  | s :: r, a, b, f, h, hb, e => by
    obtain ⟨h1, h2, h3, h4⟩ := h
    exact ⟨h1, h2, h3, h4.snoc hb e⟩
theorem RSt.snoc {l : List Sg} {b : Int} {f : Fl} (h : RSt l b) (hb : ¬ badId b f.id) : RSt (l ++ [sgOf f]) (f.id + (sgOf f).recs.length) := by
  obtain ⟨h1, h2, h3⟩ := logF_next_lt hb
  cases h with
  | nil => exact .cons (by simp) h1 ⟨rfl, h1, h2, rfl⟩
  | cons h0 ha hc => exact .cons (by simp) ha (hc.snoc hb (by have := hc.len; omega))
theorem RSt.tot {l : List Sg} {b : Int} (h : RSt l b) : ((l.flatMap (·.recs)).length : Int) ≤ b := by
  cases h with
  | nil => exact Int.le_refl _
  | cons h0 ha hc => have := hc.len; omega
theorem RSt.len {l : List Sg} {b : Int} (h : RSt l b) : (l = [] ∧ b = 0) ∨ (0 < l.length ∧ 0 < b ∧ ∃ s r, l = s :: r ∧ b = s.id + (l.flatMap (·.recs)).length) := by
  cases h with
  | nil => exact .inl ⟨rfl, rfl⟩
  | cons h0 ha hc =>
    have hl := hc.len
    cases l with
    | nil => exact absurd rfl h0
    | cons s r => exact .inr ⟨by simp, by omega, s, r, rfl, by rw [hc.1]; exact hl⟩
theorem RSt.head {l : List Sg} {b : Int} (h : RSt l b) (h0 : 0 < l.length) : ∃ s r, l = s :: r ∧ b = s.id + (l.flatMap (·.recs)).length := by
  rcases h.len with h | h
  · rw [h.1] at h0; exact absurd h0 (by decide)
  · exact h.2.2
end Go.Proofs.Ytggkhcdilbdifaa.Ow
