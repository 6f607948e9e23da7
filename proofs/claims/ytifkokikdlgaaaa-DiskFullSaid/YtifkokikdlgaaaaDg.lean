/- Walks. -/
import Derived.Test.YtifkokikdlgaaaaDf
namespace Go.Proofs.Ytifkokikdlgaaaa.Ow
open Go
set_option linter.unusedVariables false
theorem awake_fn (F : Mem) : Fn Try.prog 10 #[] [] F (fun v M G => M = [] ∧ v = .bool true) := by
  refine Fn.start0 Try.func10 rfl Try.ntmps10 rfl (env := []) rfl ?_
  intro R
  refine .seq ?_
  refine .region ?_
  refine .v (.asn rfl) rfl ?_
  refine .nil ?_
  refine .then ?_
  refine .seq ?_
  refine .region ?_
  refine .v (.build rfl (fun w => bd28_ w)) rfl ?_
  refine .cf rfl rfl (Try.call9 _) (append_fn ⟨[], 0, false, false⟩ none 0 F .nil awake_b1 1 ⟨#[97, 98]⟩) rfl ?_
  rw [awake_1]
  rintro _ G1 le2 ⟨a1, c1, rfl, hS1⟩
  have hF := le2
  refine .v (.mv rfl) rfl ?_
  refine .v (.ext rfl rfl) rfl ?_
  refine .v (.ext rfl rfl) rfl ?_
  refine .nb (.alloc ty28 rfl) rfl (fun b3 => ?_)
  refine .st (.stw ty28 rfl rfl rfl rfl rfl .here) ?_
  refine .v (.asn rfl) rfl ?_
  refine .nil ?_
  refine .then ?_
  refine .seq ?_
  refine .region ?_
  refine .v (.ldw ty28 rfl .here rfl) rfl ?_
  refine .cf rfl rfl (Try.call14 _) (sync_fn ⟨[⟨1, ⟨#[]⟩, ⟨#[97, 98]⟩⟩], 0, false, false⟩ _ _ _ hS1 awake_b2 1) rfl ?_
  rw [awake_2]
  rintro _ G4 le5 ⟨a2, c2, rfl, hS2⟩
  replace hF := hF.trans le5
  refine .v (.mv rfl) rfl ?_
  refine .v (.ext rfl rfl) rfl ?_
  refine .v (.ext rfl rfl) rfl ?_
  refine .st (.stw ty28 rfl rfl rfl rfl rfl .here) ?_
  refine .v (.asn rfl) rfl ?_
  refine .nil ?_
  refine .then ?_
  refine .seq ?_
  refine .region ?_
  refine .v (.ldw ty28 rfl .here rfl) rfl ?_
  refine .cf rfl rfl (Try.call17 _) (crash_fn ⟨[⟨1, ⟨#[97, 98]⟩, ⟨#[]⟩⟩], 0, false, false⟩ _ _ _ hS2 awake_b3 [] none 0 .nil) rfl ?_
  rw [awake_3]
  rintro _ G6 le7 ⟨a3, c3, rfl, hS3⟩
  replace hF := hF.trans le7
  refine .v (.call rfl rfl (Try.call23 _) (fun G hle hG => awake_4 ▸ text_fn ⟨[⟨1, ⟨#[97, 98]⟩, ⟨#[]⟩⟩], 0, false, false⟩ _ _ _ (hS3.mono hle) awake_b3 1)) rfl ?_
  refine .v (.mv rfl) rfl ?_
  refine .v (.ext rfl rfl) rfl ?_
  refine .v (.ext rfl rfl) rfl ?_
  refine .v (.asn rfl) rfl ?_
  refine .v (.asn rfl) rfl ?_
  refine .nil ?_
  refine .then ?_
  refine .seq ?_
  refine .region ?_
  refine .v (.mv rfl) rfl ?_
  refine .vT (.eq rfl rfl) rfl rfl ?_
  refine .v (.mv rfl) rfl ?_
  refine .g rfl rfl rfl ?_
  refine .v (.mv rfl) rfl ?_
  refine .g rfl rfl rfl ?_
  refine .vT (.eq rfl rfl) rfl rfl ?_
  refine .v (.pkT rfl rfl) rfl ?_
  refine .v (.mv rfl) rfl ?_
  refine .g rfl rfl rfl ?_
  refine .v (.mv rfl) rfl ?_
  refine .g rfl rfl rfl ?_
  refine .vT (.eqs rfl rfl) rfl rfl ?_
  refine .v (.pkT rfl rfl) rfl ?_
  refine .v (.mv rfl) rfl ?_
  refine .g rfl rfl rfl ?_
  refine .v (.mv rfl) rfl ?_
  refine .g rfl rfl rfl ?_
  refine .vT (.eq rfl rfl) rfl rfl ?_
  refine .v (.pkT rfl rfl) rfl ?_
  refine .v (.asn rfl) rfl ?_
  refine .nil ?_
  refine .then ?_
  refine .ret ?_
  exact .done _ [] (.t1 rfl rfl) hF ⟨rfl, rfl⟩ (Inn.keep (.there .here))
theorem ref_fn (d : Dk) (a : Option Addr) (c : Nat) (F : Mem) (hS : Sl F encF 3 a c d.files) (hn : d.files.length * 40 ≤ 140737488355328) : Fn Try.prog 13 #[dval a c d] [] F (fun v M G => M = [] ∧ ∃ a' c', v = dval a' c' d ∧ Sl G encF 3 a' c' d.files) := by
  have hm := hS.len
  refine Fn.start0 Try.func13 rfl Try.ntmps13 rfl (env := [(0, _)]) rfl ?_
  intro R
  refine .seq ?_
  refine .region ?_
  refine .nb (.box rfl rfl) rfl (fun b1 => ?_)
  refine .nb (.alloc ty38 rfl) rfl (fun b2 => ?_)
  refine .nil ?_
  refine .then ?_
  refine .seq ?_
  refine .region ?_
  refine .v (.fab fl28_1 rfl) rfl ?_
  refine .v (.ldb ty3 rfl (.there .here) rfl) rfl ?_
  refine .v (.fab fl28_2 rfl) rfl ?_
  refine .v (.ldb ty4 rfl (.there .here) rfl) rfl ?_
  refine .v (.fab fl28_3 rfl) rfl ?_
  refine .v (.ldb ty4 rfl (.there .here) rfl) rfl ?_
  refine .v (.build rfl (fun w => bd38_1_2_3 w _ _ _)) rfl ?_
  refine .nb (.alloc ty38 rfl) rfl (fun b3 => ?_)
  refine .st (.stw ty38 rfl rfl rfl rfl rfl .here) ?_
  refine .nil ?_
  refine .then ?_
  refine .seq ?_
  refine .seq ?_
  refine .region ?_
  refine .v (.fa0 fl28_0 rfl) rfl ?_
  refine .v (.ldb ty26 rfl (.there (.there .here)) rfl) rfl ?_
  refine .v (.lenl Try.underlying26 rfl) rfl ?_
  refine .v (.mv rfl) rfl ?_
  refine .nil ?_
  refine .then ?_
  refine .block ?_
  refine WC.loopx (fx := [(2, _), (3, _), (14, _), (15, _)]) (pre := [_]) (fm := [_, _, _]) rfl (.cons rfl rfl (.cons rfl rfl (.cons rfl rfl (.cons rfl rfl .nil)))) (ι := Nat × Option Addr × Nat × Itm) (fun z => z.1 ≤ d.files.length ∧ Row 76 encF 3 z.2.1 z.2.2.1 (d.files.take z.1) z.2.2.2) (fun z => d.files.length - z.1) (fun z => [(16, .int .i64 z.1)]) (fun z => [z.2.2.2, [⟨b3, 38, [.slice z.2.1 (d.files.take z.1).length z.2.2.1, .int .i64 d.left, .bool d.armed, .bool d.down]⟩]]) (fun z => F) (0, none, 0, []) ⟨by omega, Row.nil⟩ ?he ?hm ?round
  case he => exact .cons rfl rfl (.cons rfl rfl (.cons rfl rfl (.cons rfl rfl (.cons rfl rfl .nil))))
  case hm => exact (fun _ h => h)
  case round =>
    intro z hk
    obtain ⟨k, a1, c1, it⟩ := z
    obtain ⟨hk, hr⟩ := hk
    dsimp only at hk hr ⊢
    dsimp only [List.cons_append, List.nil_append]
    refine .seq ?_
    refine .region ?_
    refine .vs (.lt rfl rfl) rfl (fun h17_4 => ?_) (fun h17_4 => ?_)
    · skip
      refine .nil ?_
      refine .then ?_
      refine .seq ?_
      refine .condT rfl ?_
      refine .skip ?_
      refine .then ?_
      refine .seq ?_
      refine .block ?_
      refine .seq ?_
      refine .region ?_
      obtain ⟨f, hf⟩ : ∃ y, d.files[k]? = some y := ⟨_, List.getElem?_eq_getElem (by omega)⟩
      refine .ix sl26 rfl rfl hS rfl f ⟨by omega, hf⟩ (fun p5 o6 r7 => ?_)
      refine .v (.ldrw ty25 rfl r7 rfl) rfl ?_
      refine .nb (.alloc ty25 rfl) rfl (fun b8 => ?_)
      refine .st (.stw ty25 rfl rfl rfl rfl rfl .here) ?_
      refine .nil ?_
      refine .then ?_
      refine .region ?_
      refine .v (.fa0 fl38_0 rfl) rfl ?_
      refine .v (.ldb ty36 rfl (.there (.there .here)) rfl) rfl ?_
      refine .v (.ldw ty25 rfl .here rfl) rfl ?_
      refine .nb (.lit1 sl36 ty76 rfl rfl rfl rfl rfl) rfl (fun b9 => ?_)
      refine .ap (.app1 (xs := (d.files.take k)) (f) sl36 ty76 rfl encF_ok rfl rfl hr .here (by rw [take_len hk]; omega) (by rw [take_len hk]; omega) _ (fun _ => (.there (.there .here)))) rfl (fun a2 c2 it2 hr2 => ?_)
      refine .v (.fa0 fl38_0 rfl) rfl ?_
      refine .st (.stb ty36 rfl rfl rfl st0 (.there (.there (.there .here)))) ?_
      refine .nil ?_
      refine .blk ?_
      refine .then ?_
      refine .region ?_
      refine .v (.add rfl rfl (by omega)) rfl ?_
      refine .v (.mv rfl) rfl ?_
      refine .nil ?_
      exact .again (k + 1, a2, c2, it2) ⟨by omega, by rw [take_snoc hf]; exact hr2⟩ (by omega) (.cons rfl rfl (.cons rfl rfl (.cons rfl rfl (.cons rfl rfl (.cons rfl rfl .nil))))) (fun w ho => by dsimp only [List.cons_append, List.nil_append]; rw [take_snoc hf]; exact (subl (.cons _ (.cons _ (.cons_cons _ (.cons_cons _ (.cons_cons _ (.cons_cons _ (.cons_cons _ .slnil)))))))) w ho)
    · skip
      refine .nil ?_
      refine .then ?_
      refine .seq ?_
      refine .condF rfl ?_
      refine .exit ?_
      refine .then_exit ?_
      refine .then_exit ?_
      refine .blk_exit ?_
      refine .then ?_
      refine .seq ?_
      refine .region ?_
      refine .v (.ldw ty38 rfl (.there .here) rfl) rfl ?_
      refine .st (.stw ty38 rfl rfl rfl rfl rfl (.there (.there .here))) ?_
      refine .nil ?_
      refine .then ?_
      refine .ret ?_
      obtain rfl : k = d.files.length := by omega
      refine .freeze (it := it) .here (fun G hle hG => ?_)
      rw [List.take_length] at hr
      exact .done _ [] (.c1 rfl ty38 rfl (.there (.there .here)) rfl) hle ⟨rfl, a1, c1, by rw [List.take_length], hr.sl encF_ok hG⟩ (Inn.keep (.there (.there (.there (.there .here)))))
theorem _root_.Go.IntKind.wrap_u64_nonneg (n : Int) : 0 ≤ IntKind.u64.wrap n ∧ (0 : Int) < 8 := by
  have e : IntKind.u64.wrap n = n % 18446744073709551616 := by simp [IntKind.wrap, IntKind.bits, IntKind.signed]
  rw [e]
  omega
theorem act_fn (d : Dk) (a : Option Addr) (c : Nat) (F : Mem) (hS : Sl F encF 3 a c d.files) (hb : tot d.files ≤ 4611686018427387904) (x : Ac) (ak : Option Addr) (ck : Nat) (hK : Sl F encI 1 ak ck x.keep) : Fn Try.prog 26 #[dval a c d, .agg #[.int .i64 x.kind, .int .i64 x.id, .int .i64 x.n, .string x.data, .slice ak x.keep.length ck]] [] F (fun v M G => M = [] ∧ ∃ a' c', v = dval a' c' (actD d x) ∧ Sl G encF 3 a' c' (actD d x).files) := by
  have hwr := IntKind.wrap_u64_nonneg x.kind
  refine Fn.start0 Try.func26 rfl Try.ntmps26 rfl (env := [(0, _), (1, _)]) rfl ?_
  intro R
  refine .seq ?_
  refine .region ?_
  refine .nb (.box rfl rfl) rfl (fun b1 => ?_)
  refine .nb (.box rfl rfl) rfl (fun b2 => ?_)
  refine .nb (.alloc ty28 rfl) rfl (fun b3 => ?_)
  refine .nil ?_
  refine .then ?_
  refine .seq ?_
  refine .seq ?_
  refine .region ?_
  refine .v (.fa0 fl59_0 rfl) rfl ?_
  refine .v (.ldb ty3 rfl (.there .here) rfl) rfl ?_
  refine .v (.cvt rfl Try.underlying3 Try.underlying63) rfl ?_
  refine .v (.remk rfl rfl (by have := IntKind.wrap_u64_nonneg x.kind; omega)) rfl ?_
  refine .nil ?_
  refine .then ?_
  refine .block ?_
  refine .seq ?_
  refine .seq ?_
  refine .region ?_
  refine .vs (.eq rfl rfl) rfl (fun h19_4 => ?_) (fun h19_4 => ?_)
  · skip
    refine .v (.asn rfl) rfl ?_
    refine .nil ?_
    refine .then ?_
    refine .condT rfl ?_
    refine .skip ?_
    refine .then ?_
    refine .condT rfl ?_
    refine .region ?_
    refine .v (.ldw ty28 rfl (.there (.there .here)) rfl) rfl ?_
    refine .v (.fab fl59_1 rfl) rfl ?_
    refine .v (.ldb ty3 rfl (.there .here) rfl) rfl ?_
    refine .cf rfl rfl (Try.call14 _) (sync_fn d a c _ hS hb _) rfl ?_
    rintro _ G5 le6 ⟨a7, c7, rfl, hS7⟩
    have hF := le6
    refine .v (.mv rfl) rfl ?_
    refine .v (.ext rfl rfl) rfl ?_
    refine .v (.ext rfl rfl) rfl ?_
    refine .st (.stw ty28 rfl rfl rfl rfl rfl (.there (.there .here))) ?_
    refine .nil ?_
    refine .blk ?_
    refine .then ?_
    refine .seq ?_
    refine .region ?_
    refine .v (.ldw ty28 rfl (.there (.there .here)) rfl) rfl ?_
    refine .st (.stw ty28 rfl rfl rfl rfl rfl .here) ?_
    refine .nil ?_
    refine .then ?_
    refine .ret ?_
    have hval : actD d x = (sync d x.id).1 := by simp [actD, kindOf, *]
    exact .done _ [] (.c1 rfl ty28 rfl .here rfl) hF ⟨rfl, a7, c7, by rw [hval], by rw [hval]; exact hS7⟩ (Inn.keep (.there (.there (.there .here))))
  · skip
    refine .v (.asn rfl) rfl ?_
    refine .nil ?_
    refine .then ?_
    refine .condF rfl ?_
    refine .region ?_
    refine .vs (.eq rfl rfl) rfl (fun h20_8 => ?_) (fun h20_8 => ?_)
    · skip
      refine .v (.asn rfl) rfl ?_
      refine .nil ?_
      refine .then ?_
      refine .condT rfl ?_
      refine .region ?_
      refine .v (.ldw ty28 rfl (.there (.there .here)) rfl) rfl ?_
      refine .v (.fab fl59_1 rfl) rfl ?_
      refine .v (.ldb ty3 rfl (.there .here) rfl) rfl ?_
      refine .cf rfl rfl (Try.call14 _) (sync_fn d a c _ hS hb _) rfl ?_
      rintro _ G9 le10 ⟨a11, c11, rfl, hS11⟩
      have hF := le10
      refine .v (.mv rfl) rfl ?_
      refine .v (.ext rfl rfl) rfl ?_
      refine .v (.ext rfl rfl) rfl ?_
      refine .st (.stw ty28 rfl rfl rfl rfl rfl (.there (.there .here))) ?_
      refine .nil ?_
      refine .blk ?_
      refine .then ?_
      refine .seq ?_
      refine .region ?_
      refine .v (.ldw ty28 rfl (.there (.there .here)) rfl) rfl ?_
      refine .st (.stw ty28 rfl rfl rfl rfl rfl .here) ?_
      refine .nil ?_
      refine .then ?_
      refine .ret ?_
      have hval : actD d x = (sync d x.id).1 := by simp [actD, kindOf, *]
      exact .done _ [] (.c1 rfl ty28 rfl .here rfl) hF ⟨rfl, a11, c11, by rw [hval], by rw [hval]; exact hS11⟩ (Inn.keep (.there (.there (.there .here))))
    · skip
      refine .v (.asn rfl) rfl ?_
      refine .nil ?_
      refine .then ?_
      refine .condF rfl ?_
      refine .seq ?_
      refine .region ?_
      refine .vs (.eq rfl rfl) rfl (fun h29_12 => ?_) (fun h29_12 => ?_)
      · skip
        refine .v (.asn rfl) rfl ?_
        refine .nil ?_
        refine .then ?_
        refine .condT rfl ?_
        refine .region ?_
        refine .v (.ldw ty28 rfl (.there (.there .here)) rfl) rfl ?_
        refine .v (.fab fl59_1 rfl) rfl ?_
        refine .v (.ldb ty3 rfl (.there .here) rfl) rfl ?_
        refine .cf rfl rfl (Try.call22 _) (remove_fn d a c _ hS hb _) rfl ?_
        rintro _ G13 le14 ⟨a15, c15, rfl, hS15⟩
        have hF := le14
        refine .v (.mv rfl) rfl ?_
        refine .v (.ext rfl rfl) rfl ?_
        refine .v (.ext rfl rfl) rfl ?_
        refine .st (.stw ty28 rfl rfl rfl rfl rfl (.there (.there .here))) ?_
        refine .nil ?_
        refine .blk ?_
        refine .then ?_
        refine .seq ?_
        refine .region ?_
        refine .v (.ldw ty28 rfl (.there (.there .here)) rfl) rfl ?_
        refine .st (.stw ty28 rfl rfl rfl rfl rfl .here) ?_
        refine .nil ?_
        refine .then ?_
        refine .ret ?_
        have hval : actD d x = (remove d x.id).1 := by simp [actD, kindOf, *]
        exact .done _ [] (.c1 rfl ty28 rfl .here rfl) hF ⟨rfl, a15, c15, by rw [hval], by rw [hval]; exact hS15⟩ (Inn.keep (.there (.there (.there .here))))
      · skip
        refine .v (.asn rfl) rfl ?_
        refine .nil ?_
        refine .then ?_
        refine .condF rfl ?_
        refine .seq ?_
        refine .region ?_
        refine .vs (.eq rfl rfl) rfl (fun h38_16 => ?_) (fun h38_16 => ?_)
        · skip
          refine .v (.asn rfl) rfl ?_
          refine .nil ?_
          refine .then ?_
          refine .condT rfl ?_
          refine .region ?_
          refine .v (.ldw ty28 rfl (.there (.there .here)) rfl) rfl ?_
          refine .v (.fab fl59_2 rfl) rfl ?_
          refine .v (.ldb ty3 rfl (.there .here) rfl) rfl ?_
          have harm : (arm d x.n).files = d.files := by unfold arm; split <;> rfl
          have hSa : Sl F encF 3 a c (arm d x.n).files := by rw [harm]; exact hS
          refine .v (.call rfl rfl (Try.call16 _) (fun G hle hG => arm_fn d a c G (hS.mono hle) hb _)) rfl ?_
          refine .st (.stw ty28 rfl rfl rfl rfl rfl (.there (.there .here))) ?_
          refine .nil ?_
          refine .blk ?_
          refine .then ?_
          refine .seq ?_
          refine .region ?_
          refine .v (.ldw ty28 rfl (.there (.there .here)) rfl) rfl ?_
          refine .st (.stw ty28 rfl rfl rfl rfl rfl .here) ?_
          refine .nil ?_
          refine .then ?_
          refine .ret ?_
          have hval : actD d x = arm d x.n := by simp [actD, kindOf, *]
          exact .done _ [] (.c1 rfl ty28 rfl .here rfl) .rfl ⟨rfl, a, c, by rw [hval], by rw [hval]; exact hSa⟩ (Inn.keep (.there (.there (.there .here))))
        · skip
          refine .v (.asn rfl) rfl ?_
          refine .nil ?_
          refine .then ?_
          refine .condF rfl ?_
          refine .seq ?_
          refine .region ?_
          refine .vs (.eq rfl rfl) rfl (fun h44_17 => ?_) (fun h44_17 => ?_)
          · skip
            refine .v (.asn rfl) rfl ?_
            refine .nil ?_
            refine .then ?_
            refine .condT rfl ?_
            refine .region ?_
            refine .v (.ldw ty28 rfl (.there (.there .here)) rfl) rfl ?_
            refine .v (.fab fl59_4 rfl) rfl ?_
            refine .v (.ldb ty43 rfl (.there .here) rfl) rfl ?_
            refine .cf rfl rfl (Try.call17 _) (crash_fn d a c _ hS hb x.keep ak ck hK) rfl ?_
            rintro _ G18 le19 ⟨a20, c20, rfl, hS20⟩
            have hF := le19
            refine .st (.stw ty28 rfl rfl rfl rfl rfl (.there (.there .here))) ?_
            refine .nil ?_
            refine .blk ?_
            refine .then ?_
            refine .seq ?_
            refine .region ?_
            refine .v (.ldw ty28 rfl (.there (.there .here)) rfl) rfl ?_
            refine .st (.stw ty28 rfl rfl rfl rfl rfl .here) ?_
            refine .nil ?_
            refine .then ?_
            refine .ret ?_
            have hval : actD d x = crash d x.keep := by simp [actD, kindOf, *]
            exact .done _ [] (.c1 rfl ty28 rfl .here rfl) hF ⟨rfl, a20, c20, by rw [hval], by rw [hval]; exact hS20⟩ (Inn.keep (.there (.there (.there .here))))
          · skip
            refine .v (.asn rfl) rfl ?_
            refine .nil ?_
            refine .then ?_
            refine .condF rfl ?_
            refine .region ?_
            refine .v (.ldw ty28 rfl (.there (.there .here)) rfl) rfl ?_
            refine .v (.fab fl59_1 rfl) rfl ?_
            refine .v (.ldb ty3 rfl (.there .here) rfl) rfl ?_
            refine .v (.fab fl59_3 rfl) rfl ?_
            refine .v (.ldb ty9 rfl (.there .here) rfl) rfl ?_
            refine .cf rfl rfl (Try.call9 _) (append_fn d a c _ hS hb _ _) rfl ?_
            rintro _ G21 le22 ⟨a23, c23, rfl, hS23⟩
            have hF := le22
            refine .v (.mv rfl) rfl ?_
            refine .v (.ext rfl rfl) rfl ?_
            refine .v (.ext rfl rfl) rfl ?_
            refine .st (.stw ty28 rfl rfl rfl rfl rfl (.there (.there .here))) ?_
            refine .nil ?_
            refine .blk ?_
            refine .then ?_
            refine .seq ?_
            refine .region ?_
            refine .v (.ldw ty28 rfl (.there (.there .here)) rfl) rfl ?_
            refine .st (.stw ty28 rfl rfl rfl rfl rfl .here) ?_
            refine .nil ?_
            refine .then ?_
            refine .ret ?_
            have hval : actD d x = (append d x.id x.data).1 := by simp [actD, kindOf, *]
            exact .done _ [] (.c1 rfl ty28 rfl .here rfl) hF ⟨rfl, a23, c23, by rw [hval], by rw [hval]; exact hS23⟩ (Inn.keep (.there (.there (.there .here))))
theorem file_fn (d : Dk) (a : Option Addr) (c : Nat) (F : Mem) (hS : Sl F encF 3 a c d.files) (hb : tot d.files ≤ 4611686018427387904) (id : Int) : Fn Try.prog 27 #[dval a c d, .int .i64 id] [] F (fun u _ _ => u = .tuple #[.string (fileOf d.files id).1, .string (fileOf d.files id).2]) := by
  have hm := hS.len
  refine Fn.start0 Try.func27 rfl Try.ntmps27 rfl (env := [(0, _), (1, _)]) rfl ?_
  intro R
  refine .seq ?_
  refine .region ?_
  refine .nb (.box rfl rfl) rfl (fun b1 => ?_)
  refine .v (.asn rfl) rfl ?_
  refine .v (.asn rfl) rfl ?_
  refine .nil ?_
  refine .then ?_
  refine .seq ?_
  refine .seq ?_
  refine .region ?_
  refine .v (.fa0 fl28_0 rfl) rfl ?_
  refine .v (.ldb ty26 rfl .here rfl) rfl ?_
  refine .v (.lenl Try.underlying26 rfl) rfl ?_
  refine .v (.mv rfl) rfl ?_
  refine .nil ?_
  refine .then ?_
  refine .block ?_
  refine WC.loop0 (fx := [(1, _), (9, _), (10, _)]) (.cons rfl rfl (.cons rfl rfl (.cons rfl rfl .nil))) (ι := Nat) (fun k => k ≤ d.files.length ∧ ∀ p g, p < k → d.files[p]? = some g → g.id ≠ id) (fun k => d.files.length - k) (fun k => [(11, .int .i64 k)]) 0 ⟨by omega, fun p g h => absurd h (Nat.not_lt_zero _)⟩ ?he ?round
  case he => exact .cons rfl rfl (.cons rfl rfl (.cons rfl rfl (.cons rfl rfl .nil)))
  case round =>
    intro k hk
    obtain ⟨hk, hk2⟩ := hk
    refine .seq ?_
    refine .region ?_
    refine .vs (.lt rfl rfl) rfl (fun h12_2 => ?_) (fun h12_2 => ?_)
    · skip
      refine .nil ?_
      refine .then ?_
      refine .seq ?_
      refine .condT rfl ?_
      refine .skip ?_
      refine .then ?_
      refine .seq ?_
      refine .block ?_
      refine .seq ?_
      refine .region ?_
      obtain ⟨f, hf⟩ : ∃ y, d.files[k]? = some y := ⟨_, List.getElem?_eq_getElem (by omega)⟩
      have hft := tot_get hf
      refine .ix sl26 rfl rfl hS rfl f ⟨by omega, hf⟩ (fun p3 o4 r5 => ?_)
      refine .v (.ldrw ty25 rfl r5 rfl) rfl ?_
      refine .nb (.alloc ty25 rfl) rfl (fun b6 => ?_)
      refine .st (.stw ty25 rfl rfl rfl rfl rfl .here) ?_
      refine .nil ?_
      refine .then ?_
      refine .seq ?_
      refine .region ?_
      refine .v (.fa0 fl25_0 rfl) rfl ?_
      refine .v (.ldb ty3 rfl .here rfl) rfl ?_
      refine .v (.mv rfl) rfl ?_
      refine .vs (.eq rfl rfl) rfl (fun h18_7 => ?_) (fun h18_7 => ?_)
      · skip
        refine .nil ?_
        refine .then ?_
        refine .condT rfl ?_
        refine .seq ?_
        refine .draw [[], [0], [], [2], [], [4], [3, 5], [1, 0, 1], [6, 7, 0, 1, 2, 3, 4, 5, 6, 7]] [] (by kernel_rfl) (by kernel_rfl) rfl (e1 := [(1, _), (7, _), (9, _), (10, _), (11, _)]) (.cons rfl rfl (.cons rfl rfl (.cons rfl rfl (.cons rfl rfl (.cons rfl rfl .nil))))) (fun x hx => by cases hx) rfl ?_
        refine .v (i := 0) [] rfl rfl rfl .nil (.n (.fab fl25_1 rfl)) ?_
        refine .v (i := 1) [(19, _)] rfl rfl rfl (.cons (.head _) rfl rfl .nil) (.n (.ldb ty9 rfl .here rfl)) ?_
        refine .v (i := 2) [] rfl rfl rfl .nil (.n (.fab fl25_1 rfl)) ?_
        refine .v (i := 3) [(21, _)] rfl rfl rfl (.cons (.head _) rfl rfl .nil) (.n (.ldb ty9 rfl .here rfl)) ?_
        refine .v (i := 4) [] rfl rfl rfl .nil (.n (.fab fl25_2 rfl)) ?_
        refine .v (i := 5) [(23, _)] rfl rfl rfl (.cons (.head _) rfl rfl .nil) (.n (.ldb ty9 rfl .here rfl)) ?_
        refine .v (i := 6) [(22, _), (24, _)] rfl rfl rfl (.cons (.tail _ (.tail _ (.head _))) rfl rfl (.cons (.head _) rfl rfl .nil)) (.n (.cat rfl rfl (by omega))) ?_
        refine .v (i := 7) [(20, _)] rfl rfl rfl (.cons (.tail _ (.tail _ (.tail _ (.tail _ (.tail _ (.head _)))))) rfl rfl .nil) (.n (.asn rfl)) ?_
        refine .tail0 8 [[8, 6, 7, 0, 1, 2, 3, 4, 5]] rfl rfl rfl rfl (e' := [(4, _), (25, _), (24, _), (23, _), (22, _), (21, _), (20, _), (19, _), (1, _), (7, _), (9, _), (10, _), (11, _)]) rfl ?_
        refine .v (.asn rfl) rfl ?_
        refine .nil ?_
        refine .then ?_
        refine .ret ?_
        refine .blk_ret ?_
        refine .then_ret ?_
        refine .then_ret ?_
        refine .blk_ret ?_
        refine .then_ret ?_
        exact .done _ [] (.t2 rfl rfl rfl) .rfl (by rw [fileOf_some hf h18_7 hk2]) (Inn.keep (.there (.there .here)))
      · skip
        refine .nil ?_
        refine .then ?_
        refine .condF rfl ?_
        refine .skip ?_
        refine .blk ?_
        refine .then ?_
        refine .region ?_
        refine .v (.add rfl rfl (by omega)) rfl ?_
        refine .v (.mv rfl) rfl ?_
        refine .nil ?_
        exact .again (k + 1) ⟨by omega, fun p g hp hg => if e : p = k then (by subst e; rw [hf] at hg; injection hg with hg; subst hg; exact h18_7) else hk2 p g (by omega) hg⟩ (by omega) (.cons rfl rfl (.cons rfl rfl (.cons rfl rfl (.cons rfl rfl .nil)))) (subl (.cons _ (.refl _)))
    · skip
      refine .nil ?_
      refine .then ?_
      refine .seq ?_
      refine .condF rfl ?_
      refine .exit ?_
      refine .then_exit ?_
      refine .then_exit ?_
      refine .blk_exit ?_
      refine .then ?_
      refine .seq ?_
      refine .region ?_
      refine .v (.asn rfl) rfl ?_
      refine .v (.asn rfl) rfl ?_
      refine .nil ?_
      refine .then ?_
      refine .ret ?_
      exact .done _ [] (.t2 rfl rfl rfl) .rfl (by rw [fileOf_none fun p g hp hg => hk2 p g (by omega) hg]) (Inn.keep (.there .here))
theorem begins_fn (p q : ByteArray) (F : Mem) : Fn Try.prog 28 #[.string p, .string q] [] F (fun u _ _ => u = .bool (begins p q)) := by
  refine Fn.start0 Try.func28 rfl Try.ntmps28 rfl (env := [(0, _), (1, _)]) rfl ?_
  intro R
  refine .seq ?_
  refine .region ?_
  refine .v (.asn rfl) rfl ?_
  refine .nil ?_
  refine .then ?_
  refine .seq ?_
  refine .region ?_
  refine .v (.mv rfl) rfl ?_
  refine .v (.lens Try.underlying9 rfl) rfl ?_
  refine .v (.mv rfl) rfl ?_
  refine .v (.lens Try.underlying9 rfl) rfl ?_
  refine .vs (.le rfl rfl) rfl (fun h9_1 => ?_) (fun h9_1 => ?_)
  · skip
    refine .v (.mv rfl) rfl ?_
    refine .g rfl rfl rfl ?_
    refine .v (.mv rfl) rfl ?_
    refine .g rfl rfl rfl ?_
    refine .v (.mv rfl) rfl ?_
    refine .g rfl rfl rfl ?_
    refine .v (.lens Try.underlying9 rfl) rfl ?_
    refine .g rfl rfl rfl ?_
    refine .v (.txTo (i := (p.size : Int)) Try.underlying9 rfl rfl ⟨by omega, by omega⟩) rfl ?_
    refine .g rfl rfl rfl ?_
    refine .v (.mv rfl) rfl ?_
    refine .g rfl rfl rfl ?_
    refine .vs (.eqs rfl rfl) rfl (fun h16_2 => ?_) (fun h16_2 => ?_)
    · skip
      refine .v (.pkT rfl rfl) rfl ?_
      refine .v (.asn rfl) rfl ?_
      refine .nil ?_
      refine .then ?_
      refine .ret ?_
      exact .done _ [] (.t1 rfl rfl) .rfl (by have e : p.size ≤ q.size := Int.ofNat_le.1 h9_1; have h := h16_2; rw [Int.toNat_natCast] at h; simp [begins, e, h]) (Inn.keep .here)
    · skip
      refine .v (.pkT rfl rfl) rfl ?_
      refine .v (.asn rfl) rfl ?_
      refine .nil ?_
      refine .then ?_
      refine .ret ?_
      exact .done _ [] (.t1 rfl rfl) .rfl (by have e : p.size ≤ q.size := Int.ofNat_le.1 h9_1; have h := h16_2; rw [Int.toNat_natCast] at h; simp [begins, e, h]) (Inn.keep .here)
  · skip
    refine .v (.mv rfl) rfl ?_
    refine .gs rfl rfl rfl rfl ?_
    refine .gs rfl rfl rfl rfl ?_
    refine .gs rfl rfl rfl rfl ?_
    refine .gs rfl rfl rfl rfl ?_
    refine .gs rfl rfl rfl rfl ?_
    refine .gs rfl rfl rfl rfl ?_
    refine .v (.pkF rfl rfl) rfl ?_
    refine .v (.asn rfl) rfl ?_
    refine .nil ?_
    refine .then ?_
    refine .ret ?_
    exact .done _ [] (.t1 rfl rfl) .rfl (by simp [begins]; omega) (Inn.keep .here)
end Go.Proofs.Ytifkokikdlgaaaa.Ow
