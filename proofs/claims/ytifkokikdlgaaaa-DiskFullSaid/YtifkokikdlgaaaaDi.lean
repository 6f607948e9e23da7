/- Walks. -/
import Derived.Test.YtifkokikdlgaaaaDh
namespace Go.Proofs.Ytifkokikdlgaaaa.Ow
open Go
set_option linter.unusedVariables false
theorem diskApart_fn (d : Dk) (a : Option Addr) (c : Nat) (F : Mem) (hS : Sl F encF 3 a c d.files) (hn : d.files.length * 40 ≤ 140737488355328) (id other : Int) (s : ByteArray) (what : Int) (hw : 0 ≤ what ∧ what < 256) : Fn Try.prog 8 #[dval a c d, .int .i64 id, .int .i64 other, .string s, .int .u8 what] [] F (fun v M G => M = [] ∧ v = .bool true) := by
  refine Fn.start0 Try.func8 rfl Try.ntmps8 rfl (env := [(0, _), (1, _), (2, _), (3, _), (4, _)]) rfl ?_
  intro R
  refine .seq ?_
  refine .region ?_
  refine .nb (.box rfl rfl) rfl (fun b1 => ?_)
  refine .v (.asn rfl) rfl ?_
  refine .nil ?_
  refine .then ?_
  refine .seq ?_
  refine .seq ?_
  refine .region ?_
  refine .v (.ldw ty28 rfl .here rfl) rfl ?_
  refine .cf rfl rfl (Try.call13 _) (ref_fn d a c _ hS hn) rfl ?_
  rintro _ G2 le3 ⟨a4, c4, rfl, hS4⟩
  replace hS := hS.mono le3
  have hF := le3
  refine .vb (.call rfl rfl (Try.call12 _) (fun G hle hG => rsmall_fn d a4 c4 G (hS4.mono hle))) rfl (fun h19_5 => ?_) (fun h19_5 => ?_)
  · skip
    have hb60 := small_len h19_5
    have hb49 := small_tot h19_5
    have hb : tot d.files ≤ 4611686018427387904 := Nat.le_trans hb49 (by decide)
    refine .v (.not rfl) rfl ?_
    refine .v (.mv rfl) rfl ?_
    refine .g rfl rfl rfl ?_
    refine .v (.mv rfl) rfl ?_
    refine .g rfl rfl rfl ?_
    refine .v (.lens Try.underlying9 rfl) rfl ?_
    refine .g rfl rfl rfl ?_
    refine .vs (.gt rfl rfl) rfl (fun h24_6 => ?_) (fun h24_6 => ?_)
    · skip
      refine .v (.pkF rfl rfl) rfl ?_
      refine .v (.mv rfl) rfl ?_
      refine .gs rfl rfl rfl rfl ?_
      refine .gs rfl rfl rfl rfl ?_
      refine .gs rfl rfl rfl rfl ?_
      refine .v (.pkT rfl rfl) rfl ?_
      refine .nil ?_
      refine .then ?_
      refine .condT rfl ?_
      refine .seq ?_
      refine .region ?_
      refine .cf rfl rfl (Try.call10 _) (awake_fn _) rfl ?_
      rintro _ G7 le8 rfl
      replace hS := hS.mono le8
      replace hS4 := hS4.mono le8
      replace hF := hF.trans le8
      refine .v (.asn rfl) rfl ?_
      refine .nil ?_
      refine .then ?_
      refine .ret ?_
      refine .then_ret ?_
      exact .done _ [] (.t1 rfl rfl) hF ⟨rfl, rfl⟩ (Inn.keep (.there .here))
    · skip
      refine .v (.pkF rfl rfl) rfl ?_
      refine .v (.mv rfl) rfl ?_
      refine .g rfl rfl rfl ?_
      refine .v (.mv rfl) rfl ?_
      refine .g rfl rfl rfl ?_
      refine .v (.mv rfl) rfl ?_
      refine .g rfl rfl rfl ?_
      refine .vs (.eq rfl rfl) rfl (fun h29_10 => ?_) (fun h29_10 => ?_)
      · skip
        refine .v (.pkF rfl rfl) rfl ?_
        refine .nil ?_
        refine .then ?_
        refine .condT rfl ?_
        refine .seq ?_
        refine .region ?_
        refine .cf rfl rfl (Try.call10 _) (awake_fn _) rfl ?_
        rintro _ G11 le12 rfl
        replace hS := hS.mono le12
        replace hS4 := hS4.mono le12
        replace hF := hF.trans le12
        refine .v (.asn rfl) rfl ?_
        refine .nil ?_
        refine .then ?_
        refine .ret ?_
        refine .then_ret ?_
        exact .done _ [] (.t1 rfl rfl) hF ⟨rfl, rfl⟩ (Inn.keep (.there .here))
      · skip
        refine .v (.pkF rfl rfl) rfl ?_
        refine .nil ?_
        refine .then ?_
        refine .condF rfl ?_
        refine .skip ?_
        refine .then ?_
        refine .seq ?_
        refine .region ?_
        refine .v (.mv rfl) rfl ?_
        refine .v (.remk rfl rfl (by omega)) rfl ?_
        refine .v (.cvti rfl Try.underlying5 Try.underlying3 (wrap_in (by omega) (by omega))) rfl ?_
        refine .v (.mv rfl) rfl ?_
        refine .v (.mv rfl) rfl ?_
        refine .v (.build rfl (fun w => bd59_0_1_3 w _ _ _)) rfl ?_
        refine .nb (.alloc ty59 rfl) rfl (fun b14 => ?_)
        refine .st (.stw ty59 rfl rfl rfl rfl rfl .here) ?_
        refine .nil ?_
        refine .then ?_
        refine .seq ?_
        refine .region ?_
        refine .v (.ldw ty28 rfl (.there .here) rfl) rfl ?_
        refine .v (.ldw ty59 rfl .here rfl) rfl ?_
        refine .cf rfl rfl (Try.call26 _) (act_fn d a c _ hS hb ⟨what % 6, id, 0, s, []⟩ none 0 .nil) rfl ?_
        rintro _ G15 le16 ⟨a17, c17, rfl, hS17⟩
        replace hS := hS.mono le16
        replace hS4 := hS4.mono le16
        replace hF := hF.trans le16
        have hx := act_apart (d := d) (x := ⟨what % 6, id, 0, s, []⟩) (other := other) (by dsimp only; omega) h29_10
        have hbe : tot (actD d ⟨what % 6, id, 0, s, []⟩).files ≤ 4611686018427387904 := act_small hb (by dsimp only; omega) (by dsimp only; omega)
        refine .nb (.alloc ty28 rfl) rfl (fun b18 => ?_)
        refine .st (.stw ty28 rfl rfl rfl rfl rfl .here) ?_
        refine .nil ?_
        refine .then ?_
        refine .seq ?_
        refine .region ?_
        refine .v (.ldw ty28 rfl (.there (.there .here)) rfl) rfl ?_
        refine .v (.mv rfl) rfl ?_
        refine .v (.call rfl rfl (Try.call27 _) (fun G hle hG => file_fn d a c G (hS.mono hle) hb other)) rfl ?_
        refine .v (.mv rfl) rfl ?_
        refine .v (.ext rfl rfl) rfl ?_
        refine .v (.ext rfl rfl) rfl ?_
        refine .v (.asn rfl) rfl ?_
        refine .v (.asn rfl) rfl ?_
        refine .nil ?_
        refine .then ?_
        refine .seq ?_
        refine .region ?_
        refine .v (.ldw ty28 rfl .here rfl) rfl ?_
        refine .v (.mv rfl) rfl ?_
        refine .v (.call rfl rfl (Try.call27 _) (fun G hle hG => file_fn (actD d ⟨what % 6, id, 0, s, []⟩) a17 c17 G (hS17.mono hle) hbe other)) rfl ?_
        refine .v (.mv rfl) rfl ?_
        refine .v (.ext rfl rfl) rfl ?_
        refine .v (.ext rfl rfl) rfl ?_
        refine .v (.asn rfl) rfl ?_
        refine .v (.asn rfl) rfl ?_
        refine .nil ?_
        refine .then ?_
        refine .seq ?_
        refine .region ?_
        refine .v (.mv rfl) rfl ?_
        refine .v (.mv rfl) rfl ?_
        refine .vT (.eqs rfl rfl) rfl (by rw [hx]) ?_
        refine .v (.mv rfl) rfl ?_
        refine .g rfl rfl rfl ?_
        refine .v (.mv rfl) rfl ?_
        refine .g rfl rfl rfl ?_
        refine .v (.mv rfl) rfl ?_
        refine .g rfl rfl rfl ?_
        refine .vT (.eqs rfl rfl) rfl (by rw [hx]) ?_
        refine .v (.pkT rfl rfl) rfl ?_
        refine .v (.mv rfl) rfl ?_
        refine .g rfl rfl rfl ?_
        refine .cf rfl rfl (Try.call10 _) (awake_fn _) rfl ?_
        rintro _ G19 le20 rfl
        replace hS := hS.mono le20
        replace hS4 := hS4.mono le20
        replace hS17 := hS17.mono le20
        replace hF := hF.trans le20
        refine .v (.pkT rfl rfl) rfl ?_
        refine .v (.asn rfl) rfl ?_
        refine .nil ?_
        refine .then ?_
        refine .ret ?_
        exact .done _ [] (.t1 rfl rfl) hF ⟨rfl, rfl⟩ (Inn.keep (.there (.there (.there .here))))
  · skip
    refine .v (.not rfl) rfl ?_
    refine .v (.mv rfl) rfl ?_
    refine .gs rfl rfl rfl rfl ?_
    refine .gs rfl rfl rfl rfl ?_
    refine .gs rfl rfl rfl rfl ?_
    refine .v (.pkT rfl rfl) rfl ?_
    refine .v (.mv rfl) rfl ?_
    refine .gs rfl rfl rfl rfl ?_
    refine .gs rfl rfl rfl rfl ?_
    refine .gs rfl rfl rfl rfl ?_
    refine .v (.pkT rfl rfl) rfl ?_
    refine .nil ?_
    refine .then ?_
    refine .condT rfl ?_
    refine .seq ?_
    refine .region ?_
    refine .cf rfl rfl (Try.call10 _) (awake_fn _) rfl ?_
    rintro _ G22 le23 rfl
    replace hS := hS.mono le23
    replace hS4 := hS4.mono le23
    replace hF := hF.trans le23
    refine .v (.asn rfl) rfl ?_
    refine .nil ?_
    refine .then ?_
    refine .ret ?_
    refine .then_ret ?_
    exact .done _ [] (.t1 rfl rfl) hF ⟨rfl, rfl⟩ (Inn.keep (.there .here))
theorem diskFirm_fn (l : List KA) (a : Option Addr) (c : Nat) (F : Mem) (hA : Sl F encA 5 a c l) (hKs : ∀ y, y ∈ l → Sl F encI 1 y.ak y.ck y.x.keep) (id : Int) : Fn Try.prog 7 #[.slice a l.length c, .int .i64 id] [] F (fun v M G => M = [] ∧ v = .bool true) := by
  have hm := hA.len
  refine Fn.start0 Try.func7 rfl Try.ntmps7 rfl (env := [(0, _), (1, _)]) rfl ?_
  intro R
  refine .seq ?_
  refine .region ?_
  refine .v (.asn rfl) rfl ?_
  refine .nil ?_
  refine .then ?_
  refine .seq ?_
  refine .region ?_
  refine .v (.build rfl (fun w => bd28_ w)) rfl ?_
  refine .nb (.alloc ty28 rfl) rfl (fun b1 => ?_)
  refine .st (.stw ty28 rfl rfl rfl rfl rfl .here) ?_
  refine .nil ?_
  refine .then ?_
  refine .seq ?_
  refine .seq ?_
  refine .region ?_
  refine .v (.asn rfl) rfl ?_
  refine .nil ?_
  refine .then ?_
  refine .block ?_
  refine WC.loopx (fx := [(0, _), (1, _), (5, _)]) (pre := [_]) (fm := [_]) rfl (.cons rfl rfl (.cons rfl rfl (.cons rfl rfl .nil))) (ι := Nat × Dk × Option Addr × Nat × Mem) (fun z => z.1 ≤ l.length ∧ right z.2.1 = true ∧ Sl z.2.2.2.2 encF 3 z.2.2.1 z.2.2.2.1 z.2.1.files ∧ Le F z.2.2.2.2) (fun z => l.length - z.1) (fun z => [(6, .int .i64 z.1)]) (fun z => [[⟨b1, 28, [.slice z.2.2.1 z.2.1.files.length z.2.2.2.1, .int .i64 z.2.1.left, .bool z.2.1.armed, .bool z.2.1.down]⟩]]) (fun z => z.2.2.2.2) (0, ⟨[], 0, false, false⟩, none, 0, F) ⟨Nat.zero_le _, right_empty, .nil, .rfl⟩ ?he ?hm ?round
  case he => exact .cons rfl rfl (.cons rfl rfl (.cons rfl rfl (.cons rfl rfl .nil)))
  case hm => exact (fun _ h => h)
  case round =>
    intro z hk
    obtain ⟨k, d, a, c, G0⟩ := z
    obtain ⟨hk, hr, hS, hF⟩ := hk
    dsimp only at hk hr hS hF ⊢
    replace hA := hA.mono hF
    have hb : tot d.files ≤ 4611686018427387904 := by have := right_files hr; omega
    dsimp only [List.cons_append, List.nil_append]
    refine .seq ?_
    refine .seq ?_
    refine .region ?_
    refine .v (.mv rfl) rfl ?_
    refine .v (.mv rfl) rfl ?_
    refine .v (.lenl Try.underlying57 rfl) rfl ?_
    refine .vs (.lt rfl rfl) rfl (fun h16_2 => ?_) (fun h16_2 => ?_)
    · skip
      refine .v (.mv rfl) rfl ?_
      refine .g rfl rfl rfl ?_
      refine .v (.mv rfl) rfl ?_
      refine .g rfl rfl rfl ?_
      refine .vs (.lt rfl rfl) rfl (fun h19_3 => ?_) (fun h19_3 => ?_)
      · skip
        refine .v (.pkT rfl rfl) rfl ?_
        refine .nil ?_
        refine .then ?_
        refine .condT rfl ?_
        refine .skip ?_
        refine .then ?_
        refine .seq ?_
        refine .block ?_
        refine .seq ?_
        refine .seq ?_
        refine .region ?_
        refine .v (.mv rfl) rfl ?_
        refine .v (.mv rfl) rfl ?_
        obtain ⟨ka, hka⟩ : ∃ y, l[k]? = some y := ⟨_, List.getElem?_eq_getElem (by omega)⟩
        have hKa := (hKs ka (List.mem_of_getElem? hka)).mono hF
        have hre := act_right hr ka.x
        have hbe : tot (actD d ka.x).files ≤ 4611686018427387904 := by have := right_files hre; omega
        have hwr := IntKind.wrap_u64_nonneg ka.x.kind
        refine .ix sl57 rfl rfl hA rfl ka ⟨by omega, hka⟩ (fun p4 o5 r6 => ?_)
        refine .v (.fae fl59_3 rfl) rfl ?_
        refine .v (.ldr (j := 3) ty9 rfl r6 rfl) rfl ?_
        refine .v (.lens Try.underlying9 rfl) rfl ?_
        refine .vs (.gt rfl rfl) rfl (fun h29_7 => ?_) (fun h29_7 => ?_)
        · skip
          refine .v (.mv rfl) rfl ?_
          refine .gs rfl rfl rfl rfl ?_
          refine .gs rfl rfl rfl rfl ?_
          refine .gs rfl rfl rfl rfl ?_
          refine .gs rfl rfl rfl rfl ?_
          refine .gs rfl rfl rfl rfl ?_
          refine .gs rfl rfl rfl rfl ?_
          refine .gs rfl rfl rfl rfl ?_
          refine .v (.pkT rfl rfl) rfl ?_
          refine .nil ?_
          refine .then ?_
          refine .condT rfl ?_
          refine .seq ?_
          refine .region ?_
          refine .cf rfl rfl (Try.call10 _) (awake_fn _) rfl ?_
          rintro _ G8 le9 rfl
          replace hS := hS.mono le9
          replace hA := hA.mono le9
          replace hF := hF.trans le9
          refine .v (.asn rfl) rfl ?_
          refine .nil ?_
          refine .then ?_
          refine .ret ?_
          refine .then_ret ?_
          refine .blk_ret ?_
          refine .then_ret ?_
          refine .then_ret ?_
          refine .blk_ret ?_
          refine .then_ret ?_
          exact .done _ [] (.t1 rfl rfl) hF ⟨rfl, rfl⟩ (Inn.keep (.there .here))
        · skip
          refine .v (.mv rfl) rfl ?_
          refine .g rfl rfl rfl ?_
          refine .v (.mv rfl) rfl ?_
          refine .g rfl rfl rfl ?_
          refine .v (.mv rfl) rfl ?_
          refine .g rfl rfl rfl ?_
          refine .ix sl57 rfl rfl hA rfl ka ⟨by omega, hka⟩ (fun p11 o12 r13 => ?_)
          refine .g rfl rfl rfl ?_
          refine .v (.fae fl59_4 rfl) rfl ?_
          refine .g rfl rfl rfl ?_
          refine .v (.ldr (j := 4) ty43 rfl r13 rfl) rfl ?_
          refine .g rfl rfl rfl ?_
          refine .v (.lenl Try.underlying43 rfl) rfl ?_
          refine .g rfl rfl rfl ?_
          refine .vs (.gt rfl rfl) rfl (fun h37_14 => ?_) (fun h37_14 => ?_)
          · skip
            refine .v (.pkF rfl rfl) rfl ?_
            refine .nil ?_
            refine .then ?_
            refine .condT rfl ?_
            refine .seq ?_
            refine .region ?_
            refine .cf rfl rfl (Try.call10 _) (awake_fn _) rfl ?_
            rintro _ G15 le16 rfl
            replace hS := hS.mono le16
            replace hA := hA.mono le16
            replace hF := hF.trans le16
            refine .v (.asn rfl) rfl ?_
            refine .nil ?_
            refine .then ?_
            refine .ret ?_
            refine .then_ret ?_
            refine .blk_ret ?_
            refine .then_ret ?_
            refine .then_ret ?_
            refine .blk_ret ?_
            refine .then_ret ?_
            exact .done _ [] (.t1 rfl rfl) hF ⟨rfl, rfl⟩ (Inn.keep (.there .here))
          · skip
            refine .v (.pkF rfl rfl) rfl ?_
            refine .nil ?_
            refine .then ?_
            refine .condF rfl ?_
            refine .skip ?_
            refine .then ?_
            refine .seq ?_
            refine .draw [[], [], [], [1, 2], [3], [0, 4], [], [6, 5, 5, 0, 1, 2, 3, 4, 5, 6]] [⟨6, 7, 28, _⟩] (by kernel_rfl) (by kernel_rfl) rfl (e1 := [(0, _), (1, _), (5, _), (6, _)]) (.cons rfl rfl (.cons rfl rfl (.cons rfl rfl (.cons rfl rfl .nil)))) (fun x hx => by rcases List.mem_cons.1 hx with rfl | hx; (exact ⟨_, _, _, _, _, _, _, rfl, ty28, rfl⟩); cases hx) rfl ?_
            refine .v (i := 0) [] rfl rfl rfl .nil (.n (.ldw ty28 rfl .here rfl)) ?_
            refine .v (i := 1) [] rfl rfl rfl .nil (.n (.mv rfl)) ?_
            refine .v (i := 2) [] rfl rfl rfl .nil (.n (.mv rfl)) ?_
            refine .ix (i := 3) (j := (k : Int)) [(41, _), (42, _)] rfl rfl rfl (.cons (.tail _ (.head _)) rfl rfl (.cons (.head _) rfl rfl .nil)) hA ka ⟨by omega, hka⟩ (fun b_ o_ hr_ ha_ hle_ => .n (.ixs sl57 rfl rfl ⟨by omega, hka⟩ ha_ hle_)) (fun p18 o19 r20 => ?_)
            refine .v (i := 4) [(43, _)] rfl rfl rfl (.cons (.head _) rfl rfl .nil) (.n (.ldrw ty59 rfl r20 rfl)) ?_
            refine .e (i := 5) [(40, _), (44, _)] [5, 0, 4, 3, 1, 2] rfl rfl rfl (.cons (.tail _ (.tail _ (.tail _ (.tail _ (.head _))))) rfl rfl (.cons (.head _) rfl rfl .nil)) rfl rfl rfl .n (.call rfl rfl (Try.call26 _) (act_fn d a c _ hS hb ka.x ka.ak ka.ck hKa) _ rfl) ?_
            rintro _ _ G21 le22 ⟨_, rfl, rfl, a23, c23, rfl, hS23⟩
            replace hS := hS.mono le22
            replace hA := hA.mono le22
            replace hF := hF.trans le22
            refine ⟨.skip rfl (.skip rfl (.skip rfl (.skip rfl (.skip rfl .nil)))), rfl, ?_⟩
            refine .tail1 7 [[7, 6, 5, 0, 1, 2, 3, 4]] rfl rfl rfl rfl (e' := fun f => [(7, _), (45, _), (44, _), (43, _), (42, _), (41, _), (40, _), (0, _), (1, _), (5, _), (6, _)]) (M := fun f => [_, _, _]) (fun _ => rfl) (fun _ => rfl) (fun f24 => ?_)
            refine .st (.stw ty28 rfl rfl rfl rfl rfl .here) ?_
            refine .nil ?_
            refine .then ?_
            refine .seq ?_
            refine .region ?_
            refine .v (.ldw ty28 rfl (.there .here) rfl) rfl ?_
            refine .v (.mv rfl) rfl ?_
            refine .v (.call rfl rfl (Try.call27 _) (fun G hle hG => file_fn d a c G (hS.mono hle) hb id)) rfl ?_
            refine .v (.mv rfl) rfl ?_
            refine .v (.ext rfl rfl) rfl ?_
            refine .v (.ext rfl rfl) rfl ?_
            refine .v (.asn rfl) rfl ?_
            refine .v (.asn rfl) rfl ?_
            refine .nil ?_
            refine .then ?_
            refine .seq ?_
            refine .region ?_
            refine .v (.ldw ty28 rfl .here rfl) rfl ?_
            refine .v (.mv rfl) rfl ?_
            refine .v (.call rfl rfl (Try.call27 _) (fun G hle hG => file_fn (actD d ka.x) a23 c23 G (hS23.mono hle) hbe id)) rfl ?_
            refine .v (.mv rfl) rfl ?_
            refine .v (.ext rfl rfl) rfl ?_
            refine .v (.ext rfl rfl) rfl ?_
            refine .v (.asn rfl) rfl ?_
            refine .v (.asn rfl) rfl ?_
            refine .nil ?_
            refine .then ?_
            refine .seq ?_
            refine .seq ?_
            refine .region ?_
            refine .v (.ldw ty28 rfl .here rfl) rfl ?_
            refine .bT (.call rfl rfl (Try.call11 _) (fun G hle hG => right_fn (actD d ka.x) a23 c23 G (hS23.mono hle) hbe)) rfl hre ?_
            refine .v (.not rfl) rfl ?_
            refine .v (.mv rfl) rfl ?_
            refine .g rfl rfl rfl ?_
            refine .v (.mv rfl) rfl ?_
            refine .g rfl rfl rfl ?_
            refine .v (.mv rfl) rfl ?_
            refine .g rfl rfl rfl ?_
            refine .ix sl57 rfl rfl hA rfl ka ⟨by omega, hka⟩ (fun p25 o26 r27 => ?_)
            refine .g rfl rfl rfl ?_
            refine .v (.fa0 fl59_0 rfl) rfl ?_
            refine .g rfl rfl rfl ?_
            refine .v (.ldr0 ty3 rfl r27 rfl) rfl ?_
            refine .g rfl rfl rfl ?_
            refine .v (.cvt rfl Try.underlying3 Try.underlying63) rfl ?_
            refine .g rfl rfl rfl ?_
            refine .v (.remk rfl rfl (by omega)) rfl ?_
            refine .g rfl rfl rfl ?_
            refine .vs (.ne rfl rfl) rfl (fun h69_28 => ?_) (fun h69_28 => ?_)
            · skip
              refine .g rfl rfl rfl ?_
              refine .v (.mv rfl) rfl ?_
              refine .g rfl rfl rfl ?_
              refine .v (.mv rfl) rfl ?_
              refine .g rfl rfl rfl ?_
              refine .v (.mv rfl) rfl ?_
              refine .g rfl rfl rfl ?_
              refine .bT (.call rfl rfl (Try.call28 _) (fun G hle hG => begins_fn _ _ G)) rfl (act_firm hr ka.x id h69_28) ?_
              refine .g rfl rfl rfl ?_
              refine .v (.not rfl) rfl ?_
              refine .g rfl rfl rfl ?_
              refine .v (.pkT rfl rfl) rfl ?_
              refine .v (.pkF rfl rfl) rfl ?_
              refine .nil ?_
              refine .then ?_
              refine .condF rfl ?_
              refine .skip ?_
              refine .then ?_
              refine .seq ?_
              refine .seq ?_
              refine .region ?_
              refine .v (.mv rfl) rfl ?_
              refine .v (.mv rfl) rfl ?_
              refine .ix sl57 rfl rfl hA rfl ka ⟨by omega, hka⟩ (fun p29 o30 r31 => ?_)
              refine .v (.fa0 fl59_0 rfl) rfl ?_
              refine .v (.ldr0 ty3 rfl r31 rfl) rfl ?_
              refine .v (.cvt rfl Try.underlying3 Try.underlying63) rfl ?_
              refine .v (.remk rfl rfl (by omega)) rfl ?_
              refine .vs (.eq rfl rfl) rfl (fun h84_32 => ?_) (fun h84_32 => ?_)
              · skip
                refine .v (.mv rfl) rfl ?_
                refine .g rfl rfl rfl ?_
                refine .v (.mv rfl) rfl ?_
                refine .g rfl rfl rfl ?_
                refine .v (.mv rfl) rfl ?_
                refine .g rfl rfl rfl ?_
                refine .vF (.nes rfl rfl) rfl (fun h => h (act_crash hr ka.x id h84_32).1) ?_
                refine .g rfl rfl rfl ?_
                refine .v (.mv rfl) rfl ?_
                refine .g rfl rfl rfl ?_
                refine .v (.mv rfl) rfl ?_
                refine .g rfl rfl rfl ?_
                refine .v (.mv rfl) rfl ?_
                refine .g rfl rfl rfl ?_
                refine .bT (.call rfl rfl (Try.call28 _) (fun G hle hG => begins_fn _ _ G)) rfl (act_crash hr ka.x id h84_32).2.1 ?_
                refine .g rfl rfl rfl ?_
                refine .v (.not rfl) rfl ?_
                refine .g rfl rfl rfl ?_
                refine .v (.pkF rfl rfl) rfl ?_
                refine .g rfl rfl rfl ?_
                refine .v (.mv rfl) rfl ?_
                refine .g rfl rfl rfl ?_
                refine .v (.fab fl28_3 rfl) rfl ?_
                refine .g rfl rfl rfl ?_
                refine .v (.ldb ty4 rfl .here rfl) rfl ?_
                refine .g rfl rfl rfl ?_
                refine .v (.pkF rfl rfl) rfl ?_
                refine .g rfl rfl rfl ?_
                refine .v (.mv rfl) rfl ?_
                refine .kn (t := 99) rfl (congrArg Value.bool (act_crash hr ka.x id h84_32).2.2.1) ?_
                refine .g rfl rfl rfl ?_
                refine .v (.fab fl28_2 rfl) rfl ?_
                refine .g rfl rfl rfl ?_
                refine .v (.ldb ty4 rfl .here rfl) rfl ?_
                refine .g rfl rfl rfl ?_
                refine .v (.pkF rfl rfl) rfl ?_
                refine .v (.pkT rfl rfl) rfl ?_
                refine .nil ?_
                refine .then ?_
                refine .kn (t := 103) rfl (congrArg Value.bool (act_crash hr ka.x id h84_32).2.2.2) ?_
                refine .condF rfl ?_
                refine .skip ?_
                refine .then ?_
                refine .region ?_
                refine .v (.ldw ty28 rfl .here rfl) rfl ?_
                refine .st (.stw ty28 rfl rfl rfl rfl rfl (.there .here)) ?_
                refine .nil ?_
                refine .blk ?_
                refine .then ?_
                refine .region ?_
                refine .v (.mv rfl) rfl ?_
                refine .v (.add rfl rfl (by omega)) rfl ?_
                refine .v (.asn rfl) rfl ?_
                refine .nil ?_
                exact .again (k + 1, (actD d ka.x), a23, c23, G21) ⟨by omega, hre, hS23, hF⟩ (by dsimp only; omega) (.cons rfl rfl (.cons rfl rfl (.cons rfl rfl (.cons rfl rfl .nil)))) (subl (.cons _ (.cons_cons _ (.cons_cons _ .slnil))))
              · skip
                refine .v (.mv rfl) rfl ?_
                refine .gs rfl rfl rfl rfl ?_
                refine .gs rfl rfl rfl rfl ?_
                refine .gs rfl rfl rfl rfl ?_
                refine .gs rfl rfl rfl rfl ?_
                refine .gu rfl rfl rfl rfl ?_
                refine .gu rfl rfl rfl rfl ?_
                refine .gu rfl rfl rfl rfl ?_
                refine .gu rfl rfl rfl rfl ?_
                refine .gs rfl rfl rfl rfl ?_
                refine .gs rfl rfl rfl rfl ?_
                refine .gu rfl rfl rfl rfl ?_
                refine .gu rfl rfl rfl rfl ?_
                refine .gs rfl rfl rfl rfl ?_
                refine .gs rfl rfl rfl rfl ?_
                refine .gu rfl rfl rfl rfl ?_
                refine .gu rfl rfl rfl rfl ?_
                refine .gs rfl rfl rfl rfl ?_
                refine .v (.pkF rfl rfl) rfl ?_
                refine .nil ?_
                refine .then ?_
                refine .condF rfl ?_
                refine .skip ?_
                refine .then ?_
                refine .region ?_
                refine .v (.ldw ty28 rfl .here rfl) rfl ?_
                refine .st (.stw ty28 rfl rfl rfl rfl rfl (.there .here)) ?_
                refine .nil ?_
                refine .blk ?_
                refine .then ?_
                refine .region ?_
                refine .v (.mv rfl) rfl ?_
                refine .v (.add rfl rfl (by omega)) rfl ?_
                refine .v (.asn rfl) rfl ?_
                refine .nil ?_
                exact .again (k + 1, (actD d ka.x), a23, c23, G21) ⟨by omega, hre, hS23, hF⟩ (by dsimp only; omega) (.cons rfl rfl (.cons rfl rfl (.cons rfl rfl (.cons rfl rfl .nil)))) (subl (.cons _ (.cons_cons _ (.cons_cons _ .slnil))))
            · skip
              refine .g rfl rfl rfl ?_
              refine .v (.mv rfl) rfl ?_
              refine .gs rfl rfl rfl rfl ?_
              refine .gs rfl rfl rfl rfl ?_
              refine .gs rfl rfl rfl rfl ?_
              refine .gs rfl rfl rfl rfl ?_
              refine .g rfl rfl rfl ?_
              refine .v (.pkF rfl rfl) rfl ?_
              refine .v (.pkF rfl rfl) rfl ?_
              refine .nil ?_
              refine .then ?_
              refine .condF rfl ?_
              refine .skip ?_
              refine .then ?_
              refine .seq ?_
              refine .seq ?_
              refine .region ?_
              refine .v (.mv rfl) rfl ?_
              refine .v (.mv rfl) rfl ?_
              refine .ix sl57 rfl rfl hA rfl ka ⟨by omega, hka⟩ (fun p33 o34 r35 => ?_)
              refine .v (.fa0 fl59_0 rfl) rfl ?_
              refine .v (.ldr0 ty3 rfl r35 rfl) rfl ?_
              refine .v (.cvt rfl Try.underlying3 Try.underlying63) rfl ?_
              refine .v (.remk rfl rfl (by omega)) rfl ?_
              refine .vs (.eq rfl rfl) rfl (fun h84_36 => ?_) (fun h84_36 => ?_)
              · skip
                refine .v (.mv rfl) rfl ?_
                refine .g rfl rfl rfl ?_
                refine .v (.mv rfl) rfl ?_
                refine .g rfl rfl rfl ?_
                refine .v (.mv rfl) rfl ?_
                refine .g rfl rfl rfl ?_
                refine .vF (.nes rfl rfl) rfl (fun h => h (act_crash hr ka.x id h84_36).1) ?_
                refine .g rfl rfl rfl ?_
                refine .v (.mv rfl) rfl ?_
                refine .g rfl rfl rfl ?_
                refine .v (.mv rfl) rfl ?_
                refine .g rfl rfl rfl ?_
                refine .v (.mv rfl) rfl ?_
                refine .g rfl rfl rfl ?_
                refine .bT (.call rfl rfl (Try.call28 _) (fun G hle hG => begins_fn _ _ G)) rfl (act_crash hr ka.x id h84_36).2.1 ?_
                refine .g rfl rfl rfl ?_
                refine .v (.not rfl) rfl ?_
                refine .g rfl rfl rfl ?_
                refine .v (.pkF rfl rfl) rfl ?_
                refine .g rfl rfl rfl ?_
                refine .v (.mv rfl) rfl ?_
                refine .g rfl rfl rfl ?_
                refine .v (.fab fl28_3 rfl) rfl ?_
                refine .g rfl rfl rfl ?_
                refine .v (.ldb ty4 rfl .here rfl) rfl ?_
                refine .g rfl rfl rfl ?_
                refine .v (.pkF rfl rfl) rfl ?_
                refine .g rfl rfl rfl ?_
                refine .v (.mv rfl) rfl ?_
                refine .kn (t := 99) rfl (congrArg Value.bool (act_crash hr ka.x id h84_36).2.2.1) ?_
                refine .g rfl rfl rfl ?_
                refine .v (.fab fl28_2 rfl) rfl ?_
                refine .g rfl rfl rfl ?_
                refine .v (.ldb ty4 rfl .here rfl) rfl ?_
                refine .g rfl rfl rfl ?_
                refine .v (.pkF rfl rfl) rfl ?_
                refine .v (.pkT rfl rfl) rfl ?_
                refine .nil ?_
                refine .then ?_
                refine .kn (t := 103) rfl (congrArg Value.bool (act_crash hr ka.x id h84_36).2.2.2) ?_
                refine .condF rfl ?_
                refine .skip ?_
                refine .then ?_
                refine .region ?_
                refine .v (.ldw ty28 rfl .here rfl) rfl ?_
                refine .st (.stw ty28 rfl rfl rfl rfl rfl (.there .here)) ?_
                refine .nil ?_
                refine .blk ?_
                refine .then ?_
                refine .region ?_
                refine .v (.mv rfl) rfl ?_
                refine .v (.add rfl rfl (by omega)) rfl ?_
                refine .v (.asn rfl) rfl ?_
                refine .nil ?_
                exact .again (k + 1, (actD d ka.x), a23, c23, G21) ⟨by omega, hre, hS23, hF⟩ (by dsimp only; omega) (.cons rfl rfl (.cons rfl rfl (.cons rfl rfl (.cons rfl rfl .nil)))) (subl (.cons _ (.cons_cons _ (.cons_cons _ .slnil))))
              · skip
                refine .v (.mv rfl) rfl ?_
                refine .gs rfl rfl rfl rfl ?_
                refine .gs rfl rfl rfl rfl ?_
                refine .gs rfl rfl rfl rfl ?_
                refine .gs rfl rfl rfl rfl ?_
                refine .gu rfl rfl rfl rfl ?_
                refine .gu rfl rfl rfl rfl ?_
                refine .gu rfl rfl rfl rfl ?_
                refine .gu rfl rfl rfl rfl ?_
                refine .gs rfl rfl rfl rfl ?_
                refine .gs rfl rfl rfl rfl ?_
                refine .gu rfl rfl rfl rfl ?_
                refine .gu rfl rfl rfl rfl ?_
                refine .gs rfl rfl rfl rfl ?_
                refine .gs rfl rfl rfl rfl ?_
                refine .gu rfl rfl rfl rfl ?_
                refine .gu rfl rfl rfl rfl ?_
                refine .gs rfl rfl rfl rfl ?_
                refine .v (.pkF rfl rfl) rfl ?_
                refine .nil ?_
                refine .then ?_
                refine .condF rfl ?_
                refine .skip ?_
                refine .then ?_
                refine .region ?_
                refine .v (.ldw ty28 rfl .here rfl) rfl ?_
                refine .st (.stw ty28 rfl rfl rfl rfl rfl (.there .here)) ?_
                refine .nil ?_
                refine .blk ?_
                refine .then ?_
                refine .region ?_
                refine .v (.mv rfl) rfl ?_
                refine .v (.add rfl rfl (by omega)) rfl ?_
                refine .v (.asn rfl) rfl ?_
                refine .nil ?_
                exact .again (k + 1, (actD d ka.x), a23, c23, G21) ⟨by omega, hre, hS23, hF⟩ (by dsimp only; omega) (.cons rfl rfl (.cons rfl rfl (.cons rfl rfl (.cons rfl rfl .nil)))) (subl (.cons _ (.cons_cons _ (.cons_cons _ .slnil))))
      · skip
        refine .v (.pkT rfl rfl) rfl ?_
        refine .nil ?_
        refine .then ?_
        refine .condF rfl ?_
        refine .exit ?_
        refine .then_exit ?_
        refine .then_exit ?_
        refine .blk_exit ?_
        refine .then ?_
        refine .seq ?_
        refine .region ?_
        refine .cf rfl rfl (Try.call10 _) (awake_fn _) rfl ?_
        rintro _ G37 le38 rfl
        replace hS := hS.mono le38
        replace hA := hA.mono le38
        replace hF := hF.trans le38
        refine .v (.asn rfl) rfl ?_
        refine .nil ?_
        refine .then ?_
        refine .ret ?_
        exact .done _ [] (.t1 rfl rfl) hF ⟨rfl, rfl⟩ (Inn.keep (.there .here))
    · skip
      refine .v (.mv rfl) rfl ?_
      refine .gs rfl rfl rfl rfl ?_
      refine .gs rfl rfl rfl rfl ?_
      refine .v (.pkF rfl rfl) rfl ?_
      refine .nil ?_
      refine .then ?_
      refine .condF rfl ?_
      refine .exit ?_
      refine .then_exit ?_
      refine .then_exit ?_
      refine .blk_exit ?_
      refine .then ?_
      refine .seq ?_
      refine .region ?_
      refine .cf rfl rfl (Try.call10 _) (awake_fn _) rfl ?_
      rintro _ G40 le41 rfl
      replace hS := hS.mono le41
      replace hA := hA.mono le41
      replace hF := hF.trans le41
      refine .v (.asn rfl) rfl ?_
      refine .nil ?_
      refine .then ?_
      refine .ret ?_
      exact .done _ [] (.t1 rfl rfl) hF ⟨rfl, rfl⟩ (Inn.keep (.there .here))
end Go.Proofs.Ytifkokikdlgaaaa.Ow
