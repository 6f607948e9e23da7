/- Walks. -/
import Derived.Test.YtifkokikdlgaaaaDc
namespace Go.Proofs.Ytifkokikdlgaaaa.Ow
open Go
set_option linter.unusedVariables false
theorem rdo0_fn (d : Dk) (a : Option Addr) (c : Nat) (F : Mem) (hS : Sl F encF 3 a c d.files) (hb : tot d.files ≤ 4611686018427387904) (id : Int) (s : ByteArray) (hs : s.size ≤ 4611686018427387903) : Fn Try.prog 24 #[dval a c d, .int .i64 0, .int .i64 id, .string s] [] F (fun v M G => M = [] ∧ ∃ a' c', v = .tuple #[dval a' c' (append d id s).1, .int .i64 (append d id s).2] ∧ Sl G encF 3 a' c' (append d id s).1.files) := by
  refine Fn.start0 Try.func24 rfl Try.ntmps24 rfl (env := [(0, _), (1, _), (2, _), (3, _)]) rfl ?_
  intro R
  refine .seq ?_
  refine .region ?_
  refine .nb (.box rfl rfl) rfl (fun b1 => ?_)
  refine .nb (.alloc ty38 rfl) rfl (fun b2 => ?_)
  refine .v (.asn rfl) rfl ?_
  refine .nil ?_
  refine .then ?_
  refine .seq ?_
  refine .seq ?_
  refine .region ?_
  refine .v (.ldw ty38 rfl (.there .here) rfl) rfl ?_
  refine .vb (.call rfl rfl (Try.call19 _) (fun G hle hG => rright_fn d a c G (hS.mono hle) hb)) rfl (fun h13_3 => ?_) (fun h13_3 => ?_)
  · skip
    refine .v (.not rfl) rfl ?_
    refine .v (.mv rfl) rfl ?_
    refine .g rfl rfl rfl ?_
    refine .v (.mv rfl) rfl ?_
    refine .g rfl rfl rfl ?_
    refine .vb (.call rfl rfl (Try.call36 _) (fun G hle hG => rnumber_fn _ G)) rfl (fun h17_4 => ?_) (fun h17_4 => ?_)
    · skip
      obtain ⟨hsf, htot, hleft⟩ := right_files h13_3
      have hlen := right_len hsf
      have hnum := h17_4
      simp only [number, Bool.and_eq_true, decide_eq_true_eq] at hnum
      refine .g rfl rfl rfl ?_
      refine .v (.not rfl) rfl ?_
      refine .v (.pkF rfl rfl) rfl ?_
      refine .nil ?_
      refine .then ?_
      refine .condF rfl ?_
      refine .skip ?_
      refine .then ?_
      refine .seq ?_
      refine .seq ?_
      refine .region ?_
      refine .v (.fab fl38_3 rfl) rfl ?_
      refine .v (.ldb ty4 rfl (.there .here) rfl) rfl ?_
      refine .nil ?_
      refine .then ?_
      refine .cs (t := 22) rfl (fun c22_5 => ?_) (fun c22_5 => ?_)
      · skip
        refine .condT rfl ?_
        refine .seq ?_
        refine .region ?_
        refine .v (.ldw ty38 rfl (.there .here) rfl) rfl ?_
        refine .st (.stw ty38 rfl rfl rfl rfl rfl .here) ?_
        refine .v (.asn rfl) rfl ?_
        refine .nil ?_
        refine .then ?_
        refine .ret ?_
        refine .then_ret ?_
        rw [show append d id s = _ from append_err (ready_down h13_3 h17_4 c22_5) (by decide)]
        exact .done _ [] (.ct rfl ty38 rfl .here rfl rfl) .rfl ⟨rfl, a, c, rfl, hS⟩ (Inn.keep (.there (.there .here)))
      · skip
        refine .condF rfl ?_
        refine .skip ?_
        refine .then ?_
        refine .seq ?_
        refine .region ?_
        refine .v (.ldw ty38 rfl (.there .here) rfl) rfl ?_
        refine .v (.mv rfl) rfl ?_
        refine .v (.call rfl rfl (Try.call39 _) (fun G hle hG => rat_fn d a c G (hS.mono hle) _)) rfl ?_
        refine .v (.asn rfl) rfl ?_
        refine .nil ?_
        refine .then ?_
        refine .seq ?_
        refine .seq ?_
        refine .region ?_
        refine .v (.mv rfl) rfl ?_
        refine .vT (.eq rfl rfl) rfl rfl ?_
        refine .v (.mv rfl) rfl ?_
        refine .g rfl rfl rfl ?_
        refine .v (.ldw ty38 rfl (.there .here) rfl) rfl ?_
        refine .g rfl rfl rfl ?_
        refine .v (.call rfl rfl (Try.call37 _) (fun G hle hG => rsize_fn d a c G (hS.mono hle) hb)) rfl ?_
        refine .g rfl rfl rfl ?_
        refine .v (.mv rfl) rfl ?_
        refine .g rfl rfl rfl ?_
        refine .v (.lens Try.underlying9 rfl) rfl ?_
        refine .g rfl rfl rfl ?_
        refine .v (.add rfl rfl (by omega)) rfl ?_
        refine .g rfl rfl rfl ?_
        refine .vs (.gt rfl rfl) rfl (fun h35_6 => ?_) (fun h35_6 => ?_)
        · skip
          refine .v (.pkT rfl rfl) rfl ?_
          refine .nil ?_
          refine .then ?_
          refine .condT rfl ?_
          refine .seq ?_
          refine .region ?_
          refine .v (.ldw ty38 rfl (.there .here) rfl) rfl ?_
          refine .st (.stw ty38 rfl rfl rfl rfl rfl .here) ?_
          refine .v (.asn rfl) rfl ?_
          refine .nil ?_
          refine .then ?_
          refine .ret ?_
          refine .then_ret ?_
          rw [show append d id s = _ from (by unfold append; rw [ready_ok h13_3 h17_4 c22_5, if_neg (by decide), if_pos (by omega)])]
          exact .done _ [] (.ct rfl ty38 rfl .here rfl rfl) .rfl ⟨rfl, a, c, rfl, hS⟩ (Inn.keep (.there (.there .here)))
        · skip
          refine .v (.pkT rfl rfl) rfl ?_
          refine .nil ?_
          refine .then ?_
          refine .condF rfl ?_
          refine .skip ?_
          refine .then ?_
          refine .seq ?_
          refine .seq ?_
          refine .region ?_
          refine .v (.mv rfl) rfl ?_
          refine .vF (.gt rfl rfl) rfl (by decide) ?_
          refine .v (.mv rfl) rfl ?_
          refine .gs rfl rfl rfl rfl ?_
          refine .gs rfl rfl rfl rfl ?_
          refine .v (.pkF rfl rfl) rfl ?_
          refine .nil ?_
          refine .then ?_
          refine .condF rfl ?_
          refine .skip ?_
          refine .then ?_
          refine .seq ?_
          refine .seq ?_
          refine .region ?_
          refine .v (.fab fl38_2 rfl) rfl ?_
          refine .v (.ldb ty4 rfl (.there .here) rfl) rfl ?_
          refine .v (.mv rfl) rfl ?_
          refine .cs (t := 47) rfl (fun c47_7 => ?_) (fun c47_7 => ?_)
          · skip
            refine .g rfl rfl rfl ?_
            refine .v (.fab fl38_1 rfl) rfl ?_
            refine .g rfl rfl rfl ?_
            refine .v (.ldb ty3 rfl (.there .here) rfl) rfl ?_
            refine .g rfl rfl rfl ?_
            refine .vs (.eq rfl rfl) rfl (fun h50_8 => ?_) (fun h50_8 => ?_)
            · skip
              refine .v (.pkT rfl rfl) rfl ?_
              refine .nil ?_
              refine .then ?_
              refine .condT rfl ?_
              refine .seq ?_
              refine .region ?_
              refine .v (.fab fl38_3 rfl) rfl ?_
              refine .st (.stb ty4 rfl rfl rfl st3 (.there .here)) ?_
              refine .nil ?_
              refine .then ?_
              refine .seq ?_
              refine .region ?_
              refine .v (.ldw ty38 rfl (.there .here) rfl) rfl ?_
              refine .st (.stw ty38 rfl rfl rfl rfl rfl .here) ?_
              refine .v (.asn rfl) rfl ?_
              refine .nil ?_
              refine .then ?_
              refine .ret ?_
              refine .then_ret ?_
              rw [show append d id s = _ from (by unfold append; rw [ready_ok h13_3 h17_4 c22_5, if_neg (by decide), if_neg (by omega), show spend d = (⟨d.files, d.left, d.armed, true⟩, false) from by simp [spend, c47_7, h50_8], if_pos rfl])]
              exact .done _ [] (.ct rfl ty38 rfl .here rfl rfl) .rfl ⟨rfl, a, c, rfl, hS⟩ (Inn.keep (.there (.there .here)))
            · skip
              refine .v (.pkT rfl rfl) rfl ?_
              refine .nil ?_
              refine .then ?_
              refine .condF rfl ?_
              refine .skip ?_
              refine .then ?_
              refine .seq ?_
              refine .seq ?_
              refine .region ?_
              refine .v (.fab fl38_2 rfl) rfl ?_
              refine .v (.ldb ty4 rfl (.there .here) rfl) rfl ?_
              refine .nil ?_
              refine .then ?_
              refine .kn (t := 55) rfl (congrArg Value.bool c47_7) ?_
              refine .condT rfl ?_
              refine .region ?_
              refine .v (.fab fl38_1 rfl) rfl ?_
              refine .v (.ldb ty3 rfl (.there .here) rfl) rfl ?_
              refine .v (.sub rfl rfl (by omega)) rfl ?_
              refine .v (.fab fl38_1 rfl) rfl ?_
              refine .st (.stb ty3 rfl rfl rfl st1 (.there .here)) ?_
              refine .nil ?_
              refine .then ?_
              refine .seq ?_
              refine .region ?_
              refine .v (.mv rfl) rfl ?_
              refine .v (.build rfl (fun w => bd76_0 w _)) rfl ?_
              refine .nb (.alloc ty76 rfl) rfl (fun b9 => ?_)
              refine .st (.stw ty76 rfl rfl rfl rfl rfl .here) ?_
              refine .nil ?_
              refine .then ?_
              refine .seq ?_
              refine .seq ?_
              refine .region ?_
              refine .v (.mv rfl) rfl ?_
              refine .vs (.ge rfl rfl) rfl (fun h63_10 => ?_) (fun h63_10 => ?_)
              · skip
                refine .nil ?_
                refine .then ?_
                refine .condT rfl ?_
                refine .region ?_
                refine .v (.fa0 fl38_0 rfl) rfl ?_
                refine .v (.ldb ty36 rfl (.there (.there .here)) rfl) rfl ?_
                refine .v (.mv rfl) rfl ?_
                rcases at_cases hsf id with ⟨hth, hat, f, hf, hfi⟩ | ⟨hth, hat⟩
                rotate_left
                · omega
                have hft := tot_get hf
                refine .ix sl36 rfl rfl hS rfl f ⟨by omega, by rw [hat]; exact hf⟩ (fun p11 o12 r13 => ?_)
                refine .v (.ldrw ty76 rfl r13 rfl) rfl ?_
                refine .st (.stw ty76 rfl rfl rfl rfl rfl .here) ?_
                refine .nil ?_
                refine .then ?_
                refine .seq ?_
                refine .seq ?_
                refine .region ?_
                refine .v (.mv rfl) rfl ?_
                refine .vT (.eq rfl rfl) rfl (by decide) ?_
                refine .nil ?_
                refine .then ?_
                refine .condT rfl ?_
                refine .region ?_
                refine .v (.fab fl76_2 rfl) rfl ?_
                refine .v (.ldb ty9 rfl .here rfl) rfl ?_
                refine .v (.mv rfl) rfl ?_
                refine .v (.cat rfl rfl (by have h0 : (⟨#[]⟩ : ByteArray).size = 0 := rfl; omega)) rfl ?_
                refine .v (.fab fl76_2 rfl) rfl ?_
                refine .st (.stb ty9 rfl rfl rfl st2 .here) ?_
                refine .nil ?_
                refine .then ?_
                refine .seq ?_
                refine .seq ?_
                refine .region ?_
                refine .v (.mv rfl) rfl ?_
                refine .vF (.eq rfl rfl) rfl (by decide) ?_
                refine .nil ?_
                refine .then ?_
                refine .condF rfl ?_
                refine .skip ?_
                refine .then ?_
                refine .seq ?_
                refine .region ?_
                refine .v (.ldw ty38 rfl (.there (.there .here)) rfl) rfl ?_
                refine .v (.ldw ty76 rfl .here rfl) rfl ?_
                refine .v (.mv rfl) rfl ?_
                refine .vF (.eq rfl rfl) rfl (by decide) ?_
                refine .cf rfl rfl (Try.call40 _) (rturn_fn (⟨d.files, d.left - 1, d.armed, d.down⟩ : Dk) a c _ hS (⟨f.id, f.firm, f.loose ++ s⟩ : Fl) false hlen) rfl ?_
                rintro _ G14 le15 ⟨a2, c2, rfl, hS2⟩
                have hF := le15
                refine .st (.stw ty38 rfl rfl rfl rfl rfl (.there .here)) ?_
                refine .v (.asn rfl) rfl ?_
                refine .nil ?_
                refine .then ?_
                refine .ret ?_
                have hth2 : there d.files f.id = true := by rw [hfi]; exact hth
                have hput := turn_put hsf (⟨f.id, f.firm, f.loose ++ s⟩ : Fl) (by dsimp only; omega)
                have hval : append d id s = (⟨turnGo (⟨f.id, f.firm, f.loose ++ s⟩ : Fl) false d.files, (⟨d.files, d.left - 1, d.armed, d.down⟩ : Dk).left, d.armed, d.down⟩, 0) := by
                  unfold append
                  rw [ready_ok h13_3 h17_4 c22_5, if_neg (by decide), if_neg (by omega), show spend d = ((⟨d.files, d.left - 1, d.armed, d.down⟩ : Dk), true) from by simp [spend, c47_7, h50_8], if_neg (by simp), hput]
                  rw [modify_set _ (show (putFile d.files id)[pos d.files id]? = some f by unfold putFile; rw [if_pos hth]; exact hf)]
                  simp [hfi]
                rw [show append d id s = _ from hval]
                exact .done _ [] (.ct rfl ty38 rfl (.there .here) rfl rfl) hF ⟨rfl, a2, c2, rfl, hS2⟩ (Inn.keep (.there (.there (.there .here))))
              · skip
                refine .nil ?_
                refine .then ?_
                refine .condF rfl ?_
                refine .skip ?_
                refine .then ?_
                refine .seq ?_
                refine .seq ?_
                refine .region ?_
                refine .v (.mv rfl) rfl ?_
                refine .vT (.eq rfl rfl) rfl (by decide) ?_
                refine .nil ?_
                refine .then ?_
                refine .condT rfl ?_
                refine .region ?_
                refine .v (.fab fl76_2 rfl) rfl ?_
                refine .v (.ldb ty9 rfl .here rfl) rfl ?_
                refine .v (.mv rfl) rfl ?_
                refine .v (.cat rfl rfl (by have h0 : (⟨#[]⟩ : ByteArray).size = 0 := rfl; omega)) rfl ?_
                refine .v (.fab fl76_2 rfl) rfl ?_
                refine .st (.stb ty9 rfl rfl rfl st2 .here) ?_
                refine .nil ?_
                refine .then ?_
                refine .seq ?_
                refine .seq ?_
                refine .region ?_
                refine .v (.mv rfl) rfl ?_
                refine .vF (.eq rfl rfl) rfl (by decide) ?_
                refine .nil ?_
                refine .then ?_
                refine .condF rfl ?_
                refine .skip ?_
                refine .then ?_
                refine .seq ?_
                refine .region ?_
                refine .v (.ldw ty38 rfl (.there (.there .here)) rfl) rfl ?_
                refine .v (.ldw ty76 rfl .here rfl) rfl ?_
                refine .v (.mv rfl) rfl ?_
                refine .vF (.eq rfl rfl) rfl (by decide) ?_
                rcases at_cases hsf id with ⟨hth, hat, f, hf, hfi⟩ | ⟨hth, hat⟩
                · omega
                refine .cf rfl rfl (Try.call40 _) (rturn_fn (⟨d.files, d.left - 1, d.armed, d.down⟩ : Dk) a c _ hS (⟨id, (⟨#[]⟩ : ByteArray), (⟨#[]⟩ : ByteArray) ++ s⟩ : Fl) false hlen) rfl ?_
                rintro _ G17 le18 ⟨a2, c2, rfl, hS2⟩
                have hF := le18
                refine .st (.stw ty38 rfl rfl rfl rfl rfl (.there .here)) ?_
                refine .v (.asn rfl) rfl ?_
                refine .nil ?_
                refine .then ?_
                refine .ret ?_
                have hput := turn_put hsf (⟨id, (⟨#[]⟩ : ByteArray), (⟨#[]⟩ : ByteArray) ++ s⟩ : Fl) (by dsimp only; omega)
                have hval : append d id s = (⟨turnGo (⟨id, (⟨#[]⟩ : ByteArray), (⟨#[]⟩ : ByteArray) ++ s⟩ : Fl) false d.files, (⟨d.files, d.left - 1, d.armed, d.down⟩ : Dk).left, d.armed, d.down⟩, 0) := by
                  unfold append
                  rw [ready_ok h13_3 h17_4 c22_5, if_neg (by decide), if_neg (by omega), show spend d = ((⟨d.files, d.left - 1, d.armed, d.down⟩ : Dk), true) from by simp [spend, c47_7, h50_8], if_neg (by simp), hput]
                  rw [modify_set _ (show (putFile d.files id)[pos d.files id]? = some ⟨id, ⟨#[]⟩, ⟨#[]⟩⟩ by unfold putFile; rw [if_neg (by rw [hth]; decide), List.getElem?_append_right (by simp [Nat.min_eq_left (pos_le d.files id)])]; simp [Nat.min_eq_left (pos_le d.files id)])]
                rw [show append d id s = _ from hval]
                exact .done _ [] (.ct rfl ty38 rfl (.there .here) rfl rfl) hF ⟨rfl, a2, c2, rfl, hS2⟩ (Inn.keep (.there (.there (.there .here))))
          · skip
            refine .gs rfl rfl rfl rfl ?_
            refine .gs rfl rfl rfl rfl ?_
            refine .gs rfl rfl rfl rfl ?_
            refine .v (.pkF rfl rfl) rfl ?_
            refine .nil ?_
            refine .then ?_
            refine .condF rfl ?_
            refine .skip ?_
            refine .then ?_
            refine .seq ?_
            refine .seq ?_
            refine .region ?_
            refine .v (.fab fl38_2 rfl) rfl ?_
            refine .v (.ldb ty4 rfl (.there .here) rfl) rfl ?_
            refine .nil ?_
            refine .then ?_
            refine .kn (t := 55) rfl (congrArg Value.bool c47_7) ?_
            refine .condF rfl ?_
            refine .skip ?_
            refine .then ?_
            refine .seq ?_
            refine .region ?_
            refine .v (.mv rfl) rfl ?_
            refine .v (.build rfl (fun w => bd76_0 w _)) rfl ?_
            refine .nb (.alloc ty76 rfl) rfl (fun b20 => ?_)
            refine .st (.stw ty76 rfl rfl rfl rfl rfl .here) ?_
            refine .nil ?_
            refine .then ?_
            refine .seq ?_
            refine .seq ?_
            refine .region ?_
            refine .v (.mv rfl) rfl ?_
            refine .vs (.ge rfl rfl) rfl (fun h63_21 => ?_) (fun h63_21 => ?_)
            · skip
              refine .nil ?_
              refine .then ?_
              refine .condT rfl ?_
              refine .region ?_
              refine .v (.fa0 fl38_0 rfl) rfl ?_
              refine .v (.ldb ty36 rfl (.there (.there .here)) rfl) rfl ?_
              refine .v (.mv rfl) rfl ?_
              rcases at_cases hsf id with ⟨hth, hat, f, hf, hfi⟩ | ⟨hth, hat⟩
              rotate_left
              · omega
              have hft := tot_get hf
              refine .ix sl36 rfl rfl hS rfl f ⟨by omega, by rw [hat]; exact hf⟩ (fun p22 o23 r24 => ?_)
              refine .v (.ldrw ty76 rfl r24 rfl) rfl ?_
              refine .st (.stw ty76 rfl rfl rfl rfl rfl .here) ?_
              refine .nil ?_
              refine .then ?_
              refine .seq ?_
              refine .seq ?_
              refine .region ?_
              refine .v (.mv rfl) rfl ?_
              refine .vT (.eq rfl rfl) rfl (by decide) ?_
              refine .nil ?_
              refine .then ?_
              refine .condT rfl ?_
              refine .region ?_
              refine .v (.fab fl76_2 rfl) rfl ?_
              refine .v (.ldb ty9 rfl .here rfl) rfl ?_
              refine .v (.mv rfl) rfl ?_
              refine .v (.cat rfl rfl (by have h0 : (⟨#[]⟩ : ByteArray).size = 0 := rfl; omega)) rfl ?_
              refine .v (.fab fl76_2 rfl) rfl ?_
              refine .st (.stb ty9 rfl rfl rfl st2 .here) ?_
              refine .nil ?_
              refine .then ?_
              refine .seq ?_
              refine .seq ?_
              refine .region ?_
              refine .v (.mv rfl) rfl ?_
              refine .vF (.eq rfl rfl) rfl (by decide) ?_
              refine .nil ?_
              refine .then ?_
              refine .condF rfl ?_
              refine .skip ?_
              refine .then ?_
              refine .seq ?_
              refine .region ?_
              refine .v (.ldw ty38 rfl (.there (.there .here)) rfl) rfl ?_
              refine .v (.ldw ty76 rfl .here rfl) rfl ?_
              refine .v (.mv rfl) rfl ?_
              refine .vF (.eq rfl rfl) rfl (by decide) ?_
              refine .cf rfl rfl (Try.call40 _) (rturn_fn d a c _ hS (⟨f.id, f.firm, f.loose ++ s⟩ : Fl) false hlen) rfl ?_
              rintro _ G25 le26 ⟨a2, c2, rfl, hS2⟩
              have hF := le26
              refine .st (.stw ty38 rfl rfl rfl rfl rfl (.there .here)) ?_
              refine .v (.asn rfl) rfl ?_
              refine .nil ?_
              refine .then ?_
              refine .ret ?_
              have hth2 : there d.files f.id = true := by rw [hfi]; exact hth
              have hput := turn_put hsf (⟨f.id, f.firm, f.loose ++ s⟩ : Fl) (by dsimp only; omega)
              have hval : append d id s = (⟨turnGo (⟨f.id, f.firm, f.loose ++ s⟩ : Fl) false d.files, d.left, d.armed, d.down⟩, 0) := by
                unfold append
                rw [ready_ok h13_3 h17_4 c22_5, if_neg (by decide), if_neg (by omega), show spend d = (d, true) from by simp [spend, c47_7], if_neg (by simp), hput]
                rw [modify_set _ (show (putFile d.files id)[pos d.files id]? = some f by unfold putFile; rw [if_pos hth]; exact hf)]
                simp [hfi]
              rw [show append d id s = _ from hval]
              exact .done _ [] (.ct rfl ty38 rfl (.there .here) rfl rfl) hF ⟨rfl, a2, c2, rfl, hS2⟩ (Inn.keep (.there (.there (.there .here))))
            · skip
              refine .nil ?_
              refine .then ?_
              refine .condF rfl ?_
              refine .skip ?_
              refine .then ?_
              refine .seq ?_
              refine .seq ?_
              refine .region ?_
              refine .v (.mv rfl) rfl ?_
              refine .vT (.eq rfl rfl) rfl (by decide) ?_
              refine .nil ?_
              refine .then ?_
              refine .condT rfl ?_
              refine .region ?_
              refine .v (.fab fl76_2 rfl) rfl ?_
              refine .v (.ldb ty9 rfl .here rfl) rfl ?_
              refine .v (.mv rfl) rfl ?_
              refine .v (.cat rfl rfl (by have h0 : (⟨#[]⟩ : ByteArray).size = 0 := rfl; omega)) rfl ?_
              refine .v (.fab fl76_2 rfl) rfl ?_
              refine .st (.stb ty9 rfl rfl rfl st2 .here) ?_
              refine .nil ?_
              refine .then ?_
              refine .seq ?_
              refine .seq ?_
              refine .region ?_
              refine .v (.mv rfl) rfl ?_
              refine .vF (.eq rfl rfl) rfl (by decide) ?_
              refine .nil ?_
              refine .then ?_
              refine .condF rfl ?_
              refine .skip ?_
              refine .then ?_
              refine .seq ?_
              refine .region ?_
              refine .v (.ldw ty38 rfl (.there (.there .here)) rfl) rfl ?_
              refine .v (.ldw ty76 rfl .here rfl) rfl ?_
              refine .v (.mv rfl) rfl ?_
              refine .vF (.eq rfl rfl) rfl (by decide) ?_
              rcases at_cases hsf id with ⟨hth, hat, f, hf, hfi⟩ | ⟨hth, hat⟩
              · omega
              refine .cf rfl rfl (Try.call40 _) (rturn_fn d a c _ hS (⟨id, (⟨#[]⟩ : ByteArray), (⟨#[]⟩ : ByteArray) ++ s⟩ : Fl) false hlen) rfl ?_
              rintro _ G28 le29 ⟨a2, c2, rfl, hS2⟩
              have hF := le29
              refine .st (.stw ty38 rfl rfl rfl rfl rfl (.there .here)) ?_
              refine .v (.asn rfl) rfl ?_
              refine .nil ?_
              refine .then ?_
              refine .ret ?_
              have hput := turn_put hsf (⟨id, (⟨#[]⟩ : ByteArray), (⟨#[]⟩ : ByteArray) ++ s⟩ : Fl) (by dsimp only; omega)
              have hval : append d id s = (⟨turnGo (⟨id, (⟨#[]⟩ : ByteArray), (⟨#[]⟩ : ByteArray) ++ s⟩ : Fl) false d.files, d.left, d.armed, d.down⟩, 0) := by
                unfold append
                rw [ready_ok h13_3 h17_4 c22_5, if_neg (by decide), if_neg (by omega), show spend d = (d, true) from by simp [spend, c47_7], if_neg (by simp), hput]
                rw [modify_set _ (show (putFile d.files id)[pos d.files id]? = some ⟨id, ⟨#[]⟩, ⟨#[]⟩⟩ by unfold putFile; rw [if_neg (by rw [hth]; decide), List.getElem?_append_right (by simp [Nat.min_eq_left (pos_le d.files id)])]; simp [Nat.min_eq_left (pos_le d.files id)])]
              rw [show append d id s = _ from hval]
              exact .done _ [] (.ct rfl ty38 rfl (.there .here) rfl rfl) hF ⟨rfl, a2, c2, rfl, hS2⟩ (Inn.keep (.there (.there (.there .here))))
    · skip
      refine .g rfl rfl rfl ?_
      refine .v (.not rfl) rfl ?_
      refine .v (.pkF rfl rfl) rfl ?_
      refine .nil ?_
      refine .then ?_
      refine .condT rfl ?_
      refine .seq ?_
      refine .region ?_
      refine .v (.ldw ty38 rfl (.there .here) rfl) rfl ?_
      refine .st (.stw ty38 rfl rfl rfl rfl rfl .here) ?_
      refine .v (.asn rfl) rfl ?_
      refine .nil ?_
      refine .then ?_
      refine .ret ?_
      refine .then_ret ?_
      rw [show append d id s = _ from append_err (ready_num h17_4) (by decide)]
      exact .done _ [] (.ct rfl ty38 rfl .here rfl rfl) .rfl ⟨rfl, a, c, rfl, hS⟩ (Inn.keep (.there (.there .here)))
  · skip
    refine .v (.not rfl) rfl ?_
    refine .v (.mv rfl) rfl ?_
    refine .gs rfl rfl rfl rfl ?_
    refine .gs rfl rfl rfl rfl ?_
    refine .gs rfl rfl rfl rfl ?_
    refine .v (.pkT rfl rfl) rfl ?_
    refine .nil ?_
    refine .then ?_
    refine .condT rfl ?_
    refine .seq ?_
    refine .region ?_
    refine .v (.ldw ty38 rfl (.there .here) rfl) rfl ?_
    refine .st (.stw ty38 rfl rfl rfl rfl rfl .here) ?_
    refine .v (.asn rfl) rfl ?_
    refine .nil ?_
    refine .then ?_
    refine .ret ?_
    refine .then_ret ?_
    rw [show append d id s = _ from append_err (ready_right h13_3) (by decide)]
    exact .done _ [] (.ct rfl ty38 rfl .here rfl rfl) .rfl ⟨rfl, a, c, rfl, hS⟩ (Inn.keep (.there (.there .here)))
theorem rdo1_fn (d : Dk) (a : Option Addr) (c : Nat) (F : Mem) (hS : Sl F encF 3 a c d.files) (hb : tot d.files ≤ 4611686018427387904) (id : Int) (s : ByteArray) (hs : s.size ≤ 4611686018427387903) : Fn Try.prog 24 #[dval a c d, .int .i64 1, .int .i64 id, .string s] [] F (fun v M G => M = [] ∧ ∃ a' c', v = .tuple #[dval a' c' (sync d id).1, .int .i64 (sync d id).2] ∧ Sl G encF 3 a' c' (sync d id).1.files) := by
  refine Fn.start0 Try.func24 rfl Try.ntmps24 rfl (env := [(0, _), (1, _), (2, _), (3, _)]) rfl ?_
  intro R
  refine .seq ?_
  refine .region ?_
  refine .nb (.box rfl rfl) rfl (fun b1 => ?_)
  refine .nb (.alloc ty38 rfl) rfl (fun b2 => ?_)
  refine .v (.asn rfl) rfl ?_
  refine .nil ?_
  refine .then ?_
  refine .seq ?_
  refine .seq ?_
  refine .region ?_
  refine .v (.ldw ty38 rfl (.there .here) rfl) rfl ?_
  refine .vb (.call rfl rfl (Try.call19 _) (fun G hle hG => rright_fn d a c G (hS.mono hle) hb)) rfl (fun h13_3 => ?_) (fun h13_3 => ?_)
  · skip
    refine .v (.not rfl) rfl ?_
    refine .v (.mv rfl) rfl ?_
    refine .g rfl rfl rfl ?_
    refine .v (.mv rfl) rfl ?_
    refine .g rfl rfl rfl ?_
    refine .vb (.call rfl rfl (Try.call36 _) (fun G hle hG => rnumber_fn _ G)) rfl (fun h17_4 => ?_) (fun h17_4 => ?_)
    · skip
      obtain ⟨hsf, htot, hleft⟩ := right_files h13_3
      have hlen := right_len hsf
      have hnum := h17_4
      simp only [number, Bool.and_eq_true, decide_eq_true_eq] at hnum
      refine .g rfl rfl rfl ?_
      refine .v (.not rfl) rfl ?_
      refine .v (.pkF rfl rfl) rfl ?_
      refine .nil ?_
      refine .then ?_
      refine .condF rfl ?_
      refine .skip ?_
      refine .then ?_
      refine .seq ?_
      refine .seq ?_
      refine .region ?_
      refine .v (.fab fl38_3 rfl) rfl ?_
      refine .v (.ldb ty4 rfl (.there .here) rfl) rfl ?_
      refine .nil ?_
      refine .then ?_
      refine .cs (t := 22) rfl (fun c22_5 => ?_) (fun c22_5 => ?_)
      · skip
        refine .condT rfl ?_
        refine .seq ?_
        refine .region ?_
        refine .v (.ldw ty38 rfl (.there .here) rfl) rfl ?_
        refine .st (.stw ty38 rfl rfl rfl rfl rfl .here) ?_
        refine .v (.asn rfl) rfl ?_
        refine .nil ?_
        refine .then ?_
        refine .ret ?_
        refine .then_ret ?_
        rw [show sync d id = _ from sync_err (ready_down h13_3 h17_4 c22_5) (by decide)]
        exact .done _ [] (.ct rfl ty38 rfl .here rfl rfl) .rfl ⟨rfl, a, c, rfl, hS⟩ (Inn.keep (.there (.there .here)))
      · skip
        refine .condF rfl ?_
        refine .skip ?_
        refine .then ?_
        refine .seq ?_
        refine .region ?_
        refine .v (.ldw ty38 rfl (.there .here) rfl) rfl ?_
        refine .v (.mv rfl) rfl ?_
        refine .v (.call rfl rfl (Try.call39 _) (fun G hle hG => rat_fn d a c G (hS.mono hle) _)) rfl ?_
        refine .v (.asn rfl) rfl ?_
        refine .nil ?_
        refine .then ?_
        refine .seq ?_
        refine .seq ?_
        refine .region ?_
        refine .v (.mv rfl) rfl ?_
        refine .vF (.eq rfl rfl) rfl (by decide) ?_
        refine .v (.mv rfl) rfl ?_
        refine .gs rfl rfl rfl rfl ?_
        refine .gs rfl rfl rfl rfl ?_
        refine .gs rfl rfl rfl rfl ?_
        refine .gs rfl rfl rfl rfl ?_
        refine .gs rfl rfl rfl rfl ?_
        refine .gs rfl rfl rfl rfl ?_
        refine .v (.pkF rfl rfl) rfl ?_
        refine .nil ?_
        refine .then ?_
        refine .condF rfl ?_
        refine .skip ?_
        refine .then ?_
        refine .seq ?_
        refine .seq ?_
        refine .region ?_
        refine .v (.mv rfl) rfl ?_
        refine .vT (.gt rfl rfl) rfl (by decide) ?_
        refine .v (.mv rfl) rfl ?_
        refine .g rfl rfl rfl ?_
        refine .v (.mv rfl) rfl ?_
        refine .g rfl rfl rfl ?_
        refine .vs (.lt rfl rfl) rfl (fun h42_6 => ?_) (fun h42_6 => ?_)
        · skip
          refine .v (.pkT rfl rfl) rfl ?_
          refine .nil ?_
          refine .then ?_
          refine .condT rfl ?_
          refine .seq ?_
          refine .region ?_
          refine .v (.ldw ty38 rfl (.there .here) rfl) rfl ?_
          refine .st (.stw ty38 rfl rfl rfl rfl rfl .here) ?_
          refine .v (.asn rfl) rfl ?_
          refine .nil ?_
          refine .then ?_
          refine .ret ?_
          refine .then_ret ?_
          have hth : there d.files id = false := by
            rcases at_cases hsf id with ⟨_, hat, _⟩ | ⟨hth, _⟩
            · have := h42_6; omega
            · exact hth
          rw [show sync d id = _ from (by unfold sync; rw [ready_ok h13_3 h17_4 c22_5, if_neg (by decide), if_pos hth])]
          exact .done _ [] (.ct rfl ty38 rfl .here rfl rfl) .rfl ⟨rfl, a, c, rfl, hS⟩ (Inn.keep (.there (.there .here)))
        · skip
          refine .v (.pkT rfl rfl) rfl ?_
          refine .nil ?_
          refine .then ?_
          refine .condF rfl ?_
          refine .skip ?_
          refine .then ?_
          refine .seq ?_
          refine .seq ?_
          refine .region ?_
          refine .v (.fab fl38_2 rfl) rfl ?_
          refine .v (.ldb ty4 rfl (.there .here) rfl) rfl ?_
          refine .v (.mv rfl) rfl ?_
          refine .cs (t := 47) rfl (fun c47_7 => ?_) (fun c47_7 => ?_)
          · skip
            refine .g rfl rfl rfl ?_
            refine .v (.fab fl38_1 rfl) rfl ?_
            refine .g rfl rfl rfl ?_
            refine .v (.ldb ty3 rfl (.there .here) rfl) rfl ?_
            refine .g rfl rfl rfl ?_
            refine .vs (.eq rfl rfl) rfl (fun h50_8 => ?_) (fun h50_8 => ?_)
            · skip
              refine .v (.pkT rfl rfl) rfl ?_
              refine .nil ?_
              refine .then ?_
              refine .condT rfl ?_
              refine .seq ?_
              refine .region ?_
              refine .v (.fab fl38_3 rfl) rfl ?_
              refine .st (.stb ty4 rfl rfl rfl st3 (.there .here)) ?_
              refine .nil ?_
              refine .then ?_
              refine .seq ?_
              refine .region ?_
              refine .v (.ldw ty38 rfl (.there .here) rfl) rfl ?_
              refine .st (.stw ty38 rfl rfl rfl rfl rfl .here) ?_
              refine .v (.asn rfl) rfl ?_
              refine .nil ?_
              refine .then ?_
              refine .ret ?_
              refine .then_ret ?_
              have hth : there d.files id = true := by rcases at_cases hsf id with ⟨hth, _⟩ | ⟨_, hat⟩; exact hth; rw [hat] at h42_6; omega
              rw [show sync d id = _ from (by unfold sync; rw [ready_ok h13_3 h17_4 c22_5, if_neg (by decide), if_neg (by rw [hth]; decide), show spend d = (⟨d.files, d.left, d.armed, true⟩, false) from by simp [spend, c47_7, h50_8], if_pos rfl])]
              exact .done _ [] (.ct rfl ty38 rfl .here rfl rfl) .rfl ⟨rfl, a, c, rfl, hS⟩ (Inn.keep (.there (.there .here)))
            · skip
              refine .v (.pkT rfl rfl) rfl ?_
              refine .nil ?_
              refine .then ?_
              refine .condF rfl ?_
              refine .skip ?_
              refine .then ?_
              refine .seq ?_
              refine .seq ?_
              refine .region ?_
              refine .v (.fab fl38_2 rfl) rfl ?_
              refine .v (.ldb ty4 rfl (.there .here) rfl) rfl ?_
              refine .nil ?_
              refine .then ?_
              refine .kn (t := 55) rfl (congrArg Value.bool c47_7) ?_
              refine .condT rfl ?_
              refine .region ?_
              refine .v (.fab fl38_1 rfl) rfl ?_
              refine .v (.ldb ty3 rfl (.there .here) rfl) rfl ?_
              refine .v (.sub rfl rfl (by omega)) rfl ?_
              refine .v (.fab fl38_1 rfl) rfl ?_
              refine .st (.stb ty3 rfl rfl rfl st1 (.there .here)) ?_
              refine .nil ?_
              refine .then ?_
              refine .seq ?_
              refine .region ?_
              refine .v (.mv rfl) rfl ?_
              refine .v (.build rfl (fun w => bd76_0 w _)) rfl ?_
              refine .nb (.alloc ty76 rfl) rfl (fun b9 => ?_)
              refine .st (.stw ty76 rfl rfl rfl rfl rfl .here) ?_
              refine .nil ?_
              refine .then ?_
              refine .seq ?_
              refine .seq ?_
              refine .region ?_
              refine .v (.mv rfl) rfl ?_
              refine .vT (.ge rfl rfl) rfl (by omega) ?_
              refine .nil ?_
              refine .then ?_
              refine .condT rfl ?_
              refine .region ?_
              refine .v (.fa0 fl38_0 rfl) rfl ?_
              refine .v (.ldb ty36 rfl (.there (.there .here)) rfl) rfl ?_
              refine .v (.mv rfl) rfl ?_
              rcases at_cases hsf id with ⟨hth, hat, f, hf, hfi⟩ | ⟨hth, hat⟩
              rotate_left
              · omega
              have hft := tot_get hf
              refine .ix sl36 rfl rfl hS rfl f ⟨by omega, by rw [hat]; exact hf⟩ (fun p10 o11 r12 => ?_)
              refine .v (.ldrw ty76 rfl r12 rfl) rfl ?_
              refine .st (.stw ty76 rfl rfl rfl rfl rfl .here) ?_
              refine .nil ?_
              refine .then ?_
              refine .seq ?_
              refine .seq ?_
              refine .region ?_
              refine .v (.mv rfl) rfl ?_
              refine .vF (.eq rfl rfl) rfl (by decide) ?_
              refine .nil ?_
              refine .then ?_
              refine .condF rfl ?_
              refine .skip ?_
              refine .then ?_
              refine .seq ?_
              refine .seq ?_
              refine .region ?_
              refine .v (.mv rfl) rfl ?_
              refine .vT (.eq rfl rfl) rfl (by decide) ?_
              refine .nil ?_
              refine .then ?_
              refine .condT rfl ?_
              refine .region ?_
              refine .v (.fab fl76_1 rfl) rfl ?_
              refine .v (.ldb ty9 rfl .here rfl) rfl ?_
              refine .v (.fab fl76_2 rfl) rfl ?_
              refine .v (.ldb ty9 rfl .here rfl) rfl ?_
              refine .v (.cat rfl rfl (by have h0 : (⟨#[]⟩ : ByteArray).size = 0 := rfl; omega)) rfl ?_
              refine .v (.fab fl76_1 rfl) rfl ?_
              refine .st (.stb ty9 rfl rfl rfl st1 .here) ?_
              refine .v (.fab fl76_2 rfl) rfl ?_
              refine .st (.stb ty9 rfl rfl rfl st2 .here) ?_
              refine .nil ?_
              refine .then ?_
              refine .seq ?_
              refine .region ?_
              refine .v (.ldw ty38 rfl (.there (.there .here)) rfl) rfl ?_
              refine .v (.ldw ty76 rfl .here rfl) rfl ?_
              refine .v (.mv rfl) rfl ?_
              refine .vF (.eq rfl rfl) rfl (by decide) ?_
              refine .cf rfl rfl (Try.call40 _) (rturn_fn (⟨d.files, d.left - 1, d.armed, d.down⟩ : Dk) a c _ hS (⟨f.id, f.firm ++ f.loose, ⟨#[]⟩⟩ : Fl) false hlen) rfl ?_
              rintro _ G13 le14 ⟨a2, c2, rfl, hS2⟩
              have hF := le14
              refine .st (.stw ty38 rfl rfl rfl rfl rfl (.there .here)) ?_
              refine .v (.asn rfl) rfl ?_
              refine .nil ?_
              refine .then ?_
              refine .ret ?_
              have hth2 : there d.files f.id = true := by rw [hfi]; exact hth
              have hput := turn_put hsf (⟨f.id, f.firm ++ f.loose, ⟨#[]⟩⟩ : Fl) (by dsimp only; omega)
              have hval : sync d id = (⟨turnGo (⟨f.id, f.firm ++ f.loose, ⟨#[]⟩⟩ : Fl) false d.files, (⟨d.files, d.left - 1, d.armed, d.down⟩ : Dk).left, d.armed, d.down⟩, 0) := by
                unfold sync
                rw [ready_ok h13_3 h17_4 c22_5, if_neg (by decide), if_neg (by rw [hth]; decide), show spend d = ((⟨d.files, d.left - 1, d.armed, d.down⟩ : Dk), true) from by simp [spend, c47_7, h50_8], if_neg (by simp), hput]
                rw [modify_set _ hf]
                simp [putFile, hth, hfi]
              rw [show sync d id = _ from hval]
              exact .done _ [] (.ct rfl ty38 rfl (.there .here) rfl rfl) hF ⟨rfl, a2, c2, rfl, hS2⟩ (Inn.keep (.there (.there (.there .here))))
          · skip
            refine .gs rfl rfl rfl rfl ?_
            refine .gs rfl rfl rfl rfl ?_
            refine .gs rfl rfl rfl rfl ?_
            refine .v (.pkF rfl rfl) rfl ?_
            refine .nil ?_
            refine .then ?_
            refine .condF rfl ?_
            refine .skip ?_
            refine .then ?_
            refine .seq ?_
            refine .seq ?_
            refine .region ?_
            refine .v (.fab fl38_2 rfl) rfl ?_
            refine .v (.ldb ty4 rfl (.there .here) rfl) rfl ?_
            refine .nil ?_
            refine .then ?_
            refine .kn (t := 55) rfl (congrArg Value.bool c47_7) ?_
            refine .condF rfl ?_
            refine .skip ?_
            refine .then ?_
            refine .seq ?_
            refine .region ?_
            refine .v (.mv rfl) rfl ?_
            refine .v (.build rfl (fun w => bd76_0 w _)) rfl ?_
            refine .nb (.alloc ty76 rfl) rfl (fun b16 => ?_)
            refine .st (.stw ty76 rfl rfl rfl rfl rfl .here) ?_
            refine .nil ?_
            refine .then ?_
            refine .seq ?_
            refine .seq ?_
            refine .region ?_
            refine .v (.mv rfl) rfl ?_
            refine .vT (.ge rfl rfl) rfl (by omega) ?_
            refine .nil ?_
            refine .then ?_
            refine .condT rfl ?_
            refine .region ?_
            refine .v (.fa0 fl38_0 rfl) rfl ?_
            refine .v (.ldb ty36 rfl (.there (.there .here)) rfl) rfl ?_
            refine .v (.mv rfl) rfl ?_
            rcases at_cases hsf id with ⟨hth, hat, f, hf, hfi⟩ | ⟨hth, hat⟩
            rotate_left
            · omega
            have hft := tot_get hf
            refine .ix sl36 rfl rfl hS rfl f ⟨by omega, by rw [hat]; exact hf⟩ (fun p17 o18 r19 => ?_)
            refine .v (.ldrw ty76 rfl r19 rfl) rfl ?_
            refine .st (.stw ty76 rfl rfl rfl rfl rfl .here) ?_
            refine .nil ?_
            refine .then ?_
            refine .seq ?_
            refine .seq ?_
            refine .region ?_
            refine .v (.mv rfl) rfl ?_
            refine .vF (.eq rfl rfl) rfl (by decide) ?_
            refine .nil ?_
            refine .then ?_
            refine .condF rfl ?_
            refine .skip ?_
            refine .then ?_
            refine .seq ?_
            refine .seq ?_
            refine .region ?_
            refine .v (.mv rfl) rfl ?_
            refine .vT (.eq rfl rfl) rfl (by decide) ?_
            refine .nil ?_
            refine .then ?_
            refine .condT rfl ?_
            refine .region ?_
            refine .v (.fab fl76_1 rfl) rfl ?_
            refine .v (.ldb ty9 rfl .here rfl) rfl ?_
            refine .v (.fab fl76_2 rfl) rfl ?_
            refine .v (.ldb ty9 rfl .here rfl) rfl ?_
            refine .v (.cat rfl rfl (by have h0 : (⟨#[]⟩ : ByteArray).size = 0 := rfl; omega)) rfl ?_
            refine .v (.fab fl76_1 rfl) rfl ?_
            refine .st (.stb ty9 rfl rfl rfl st1 .here) ?_
            refine .v (.fab fl76_2 rfl) rfl ?_
            refine .st (.stb ty9 rfl rfl rfl st2 .here) ?_
            refine .nil ?_
            refine .then ?_
            refine .seq ?_
            refine .region ?_
            refine .v (.ldw ty38 rfl (.there (.there .here)) rfl) rfl ?_
            refine .v (.ldw ty76 rfl .here rfl) rfl ?_
            refine .v (.mv rfl) rfl ?_
            refine .vF (.eq rfl rfl) rfl (by decide) ?_
            refine .cf rfl rfl (Try.call40 _) (rturn_fn d a c _ hS (⟨f.id, f.firm ++ f.loose, ⟨#[]⟩⟩ : Fl) false hlen) rfl ?_
            rintro _ G20 le21 ⟨a2, c2, rfl, hS2⟩
            have hF := le21
            refine .st (.stw ty38 rfl rfl rfl rfl rfl (.there .here)) ?_
            refine .v (.asn rfl) rfl ?_
            refine .nil ?_
            refine .then ?_
            refine .ret ?_
            have hth2 : there d.files f.id = true := by rw [hfi]; exact hth
            have hput := turn_put hsf (⟨f.id, f.firm ++ f.loose, ⟨#[]⟩⟩ : Fl) (by dsimp only; omega)
            have hval : sync d id = (⟨turnGo (⟨f.id, f.firm ++ f.loose, ⟨#[]⟩⟩ : Fl) false d.files, d.left, d.armed, d.down⟩, 0) := by
              unfold sync
              rw [ready_ok h13_3 h17_4 c22_5, if_neg (by decide), if_neg (by rw [hth]; decide), show spend d = (d, true) from by simp [spend, c47_7], if_neg (by simp), hput]
              rw [modify_set _ hf]
              simp [putFile, hth, hfi]
            rw [show sync d id = _ from hval]
            exact .done _ [] (.ct rfl ty38 rfl (.there .here) rfl rfl) hF ⟨rfl, a2, c2, rfl, hS2⟩ (Inn.keep (.there (.there (.there .here))))
    · skip
      refine .g rfl rfl rfl ?_
      refine .v (.not rfl) rfl ?_
      refine .v (.pkF rfl rfl) rfl ?_
      refine .nil ?_
      refine .then ?_
      refine .condT rfl ?_
      refine .seq ?_
      refine .region ?_
      refine .v (.ldw ty38 rfl (.there .here) rfl) rfl ?_
      refine .st (.stw ty38 rfl rfl rfl rfl rfl .here) ?_
      refine .v (.asn rfl) rfl ?_
      refine .nil ?_
      refine .then ?_
      refine .ret ?_
      refine .then_ret ?_
      rw [show sync d id = _ from sync_err (ready_num h17_4) (by decide)]
      exact .done _ [] (.ct rfl ty38 rfl .here rfl rfl) .rfl ⟨rfl, a, c, rfl, hS⟩ (Inn.keep (.there (.there .here)))
  · skip
    refine .v (.not rfl) rfl ?_
    refine .v (.mv rfl) rfl ?_
    refine .gs rfl rfl rfl rfl ?_
    refine .gs rfl rfl rfl rfl ?_
    refine .gs rfl rfl rfl rfl ?_
    refine .v (.pkT rfl rfl) rfl ?_
    refine .nil ?_
    refine .then ?_
    refine .condT rfl ?_
    refine .seq ?_
    refine .region ?_
    refine .v (.ldw ty38 rfl (.there .here) rfl) rfl ?_
    refine .st (.stw ty38 rfl rfl rfl rfl rfl .here) ?_
    refine .v (.asn rfl) rfl ?_
    refine .nil ?_
    refine .then ?_
    refine .ret ?_
    refine .then_ret ?_
    rw [show sync d id = _ from sync_err (ready_right h13_3) (by decide)]
    exact .done _ [] (.ct rfl ty38 rfl .here rfl rfl) .rfl ⟨rfl, a, c, rfl, hS⟩ (Inn.keep (.there (.there .here)))
theorem rdo2_fn (d : Dk) (a : Option Addr) (c : Nat) (F : Mem) (hS : Sl F encF 3 a c d.files) (hb : tot d.files ≤ 4611686018427387904) (id : Int) (s : ByteArray) (hs : s.size ≤ 4611686018427387903) : Fn Try.prog 24 #[dval a c d, .int .i64 2, .int .i64 id, .string s] [] F (fun v M G => M = [] ∧ ∃ a' c', v = .tuple #[dval a' c' (remove d id).1, .int .i64 (remove d id).2] ∧ Sl G encF 3 a' c' (remove d id).1.files) := by
  refine Fn.start0 Try.func24 rfl Try.ntmps24 rfl (env := [(0, _), (1, _), (2, _), (3, _)]) rfl ?_
  intro R
  refine .seq ?_
  refine .region ?_
  refine .nb (.box rfl rfl) rfl (fun b1 => ?_)
  refine .nb (.alloc ty38 rfl) rfl (fun b2 => ?_)
  refine .v (.asn rfl) rfl ?_
  refine .nil ?_
  refine .then ?_
  refine .seq ?_
  refine .seq ?_
  refine .region ?_
  refine .v (.ldw ty38 rfl (.there .here) rfl) rfl ?_
  refine .vb (.call rfl rfl (Try.call19 _) (fun G hle hG => rright_fn d a c G (hS.mono hle) hb)) rfl (fun h13_3 => ?_) (fun h13_3 => ?_)
  · skip
    refine .v (.not rfl) rfl ?_
    refine .v (.mv rfl) rfl ?_
    refine .g rfl rfl rfl ?_
    refine .v (.mv rfl) rfl ?_
    refine .g rfl rfl rfl ?_
    refine .vb (.call rfl rfl (Try.call36 _) (fun G hle hG => rnumber_fn _ G)) rfl (fun h17_4 => ?_) (fun h17_4 => ?_)
    · skip
      obtain ⟨hsf, htot, hleft⟩ := right_files h13_3
      have hlen := right_len hsf
      have hnum := h17_4
      simp only [number, Bool.and_eq_true, decide_eq_true_eq] at hnum
      refine .g rfl rfl rfl ?_
      refine .v (.not rfl) rfl ?_
      refine .v (.pkF rfl rfl) rfl ?_
      refine .nil ?_
      refine .then ?_
      refine .condF rfl ?_
      refine .skip ?_
      refine .then ?_
      refine .seq ?_
      refine .seq ?_
      refine .region ?_
      refine .v (.fab fl38_3 rfl) rfl ?_
      refine .v (.ldb ty4 rfl (.there .here) rfl) rfl ?_
      refine .nil ?_
      refine .then ?_
      refine .cs (t := 22) rfl (fun c22_5 => ?_) (fun c22_5 => ?_)
      · skip
        refine .condT rfl ?_
        refine .seq ?_
        refine .region ?_
        refine .v (.ldw ty38 rfl (.there .here) rfl) rfl ?_
        refine .st (.stw ty38 rfl rfl rfl rfl rfl .here) ?_
        refine .v (.asn rfl) rfl ?_
        refine .nil ?_
        refine .then ?_
        refine .ret ?_
        refine .then_ret ?_
        rw [show remove d id = _ from remove_err (ready_down h13_3 h17_4 c22_5) (by decide)]
        exact .done _ [] (.ct rfl ty38 rfl .here rfl rfl) .rfl ⟨rfl, a, c, rfl, hS⟩ (Inn.keep (.there (.there .here)))
      · skip
        refine .condF rfl ?_
        refine .skip ?_
        refine .then ?_
        refine .seq ?_
        refine .region ?_
        refine .v (.ldw ty38 rfl (.there .here) rfl) rfl ?_
        refine .v (.mv rfl) rfl ?_
        refine .v (.call rfl rfl (Try.call39 _) (fun G hle hG => rat_fn d a c G (hS.mono hle) _)) rfl ?_
        refine .v (.asn rfl) rfl ?_
        refine .nil ?_
        refine .then ?_
        refine .seq ?_
        refine .seq ?_
        refine .region ?_
        refine .v (.mv rfl) rfl ?_
        refine .vF (.eq rfl rfl) rfl (by decide) ?_
        refine .v (.mv rfl) rfl ?_
        refine .gs rfl rfl rfl rfl ?_
        refine .gs rfl rfl rfl rfl ?_
        refine .gs rfl rfl rfl rfl ?_
        refine .gs rfl rfl rfl rfl ?_
        refine .gs rfl rfl rfl rfl ?_
        refine .gs rfl rfl rfl rfl ?_
        refine .v (.pkF rfl rfl) rfl ?_
        refine .nil ?_
        refine .then ?_
        refine .condF rfl ?_
        refine .skip ?_
        refine .then ?_
        refine .seq ?_
        refine .seq ?_
        refine .region ?_
        refine .v (.mv rfl) rfl ?_
        refine .vT (.gt rfl rfl) rfl (by decide) ?_
        refine .v (.mv rfl) rfl ?_
        refine .g rfl rfl rfl ?_
        refine .v (.mv rfl) rfl ?_
        refine .g rfl rfl rfl ?_
        refine .vs (.lt rfl rfl) rfl (fun h42_6 => ?_) (fun h42_6 => ?_)
        · skip
          refine .v (.pkT rfl rfl) rfl ?_
          refine .nil ?_
          refine .then ?_
          refine .condT rfl ?_
          refine .seq ?_
          refine .region ?_
          refine .v (.ldw ty38 rfl (.there .here) rfl) rfl ?_
          refine .st (.stw ty38 rfl rfl rfl rfl rfl .here) ?_
          refine .v (.asn rfl) rfl ?_
          refine .nil ?_
          refine .then ?_
          refine .ret ?_
          refine .then_ret ?_
          have hth : there d.files id = false := by
            rcases at_cases hsf id with ⟨_, hat, _⟩ | ⟨hth, _⟩
            · have := h42_6; omega
            · exact hth
          rw [show remove d id = _ from (by unfold remove; rw [ready_ok h13_3 h17_4 c22_5, if_neg (by decide), if_pos hth])]
          exact .done _ [] (.ct rfl ty38 rfl .here rfl rfl) .rfl ⟨rfl, a, c, rfl, hS⟩ (Inn.keep (.there (.there .here)))
        · skip
          refine .v (.pkT rfl rfl) rfl ?_
          refine .nil ?_
          refine .then ?_
          refine .condF rfl ?_
          refine .skip ?_
          refine .then ?_
          refine .seq ?_
          refine .seq ?_
          refine .region ?_
          refine .v (.fab fl38_2 rfl) rfl ?_
          refine .v (.ldb ty4 rfl (.there .here) rfl) rfl ?_
          refine .v (.mv rfl) rfl ?_
          refine .cs (t := 47) rfl (fun c47_7 => ?_) (fun c47_7 => ?_)
          · skip
            refine .g rfl rfl rfl ?_
            refine .v (.fab fl38_1 rfl) rfl ?_
            refine .g rfl rfl rfl ?_
            refine .v (.ldb ty3 rfl (.there .here) rfl) rfl ?_
            refine .g rfl rfl rfl ?_
            refine .vs (.eq rfl rfl) rfl (fun h50_8 => ?_) (fun h50_8 => ?_)
            · skip
              refine .v (.pkT rfl rfl) rfl ?_
              refine .nil ?_
              refine .then ?_
              refine .condT rfl ?_
              refine .seq ?_
              refine .region ?_
              refine .v (.fab fl38_3 rfl) rfl ?_
              refine .st (.stb ty4 rfl rfl rfl st3 (.there .here)) ?_
              refine .nil ?_
              refine .then ?_
              refine .seq ?_
              refine .region ?_
              refine .v (.ldw ty38 rfl (.there .here) rfl) rfl ?_
              refine .st (.stw ty38 rfl rfl rfl rfl rfl .here) ?_
              refine .v (.asn rfl) rfl ?_
              refine .nil ?_
              refine .then ?_
              refine .ret ?_
              refine .then_ret ?_
              have hth : there d.files id = true := by rcases at_cases hsf id with ⟨hth, _⟩ | ⟨_, hat⟩; exact hth; rw [hat] at h42_6; omega
              rw [show remove d id = _ from (by unfold remove; rw [ready_ok h13_3 h17_4 c22_5, if_neg (by decide), if_neg (by rw [hth]; decide), show spend d = (⟨d.files, d.left, d.armed, true⟩, false) from by simp [spend, c47_7, h50_8], if_pos rfl])]
              exact .done _ [] (.ct rfl ty38 rfl .here rfl rfl) .rfl ⟨rfl, a, c, rfl, hS⟩ (Inn.keep (.there (.there .here)))
            · skip
              refine .v (.pkT rfl rfl) rfl ?_
              refine .nil ?_
              refine .then ?_
              refine .condF rfl ?_
              refine .skip ?_
              refine .then ?_
              refine .seq ?_
              refine .seq ?_
              refine .region ?_
              refine .v (.fab fl38_2 rfl) rfl ?_
              refine .v (.ldb ty4 rfl (.there .here) rfl) rfl ?_
              refine .nil ?_
              refine .then ?_
              refine .kn (t := 55) rfl (congrArg Value.bool c47_7) ?_
              refine .condT rfl ?_
              refine .region ?_
              refine .v (.fab fl38_1 rfl) rfl ?_
              refine .v (.ldb ty3 rfl (.there .here) rfl) rfl ?_
              refine .v (.sub rfl rfl (by omega)) rfl ?_
              refine .v (.fab fl38_1 rfl) rfl ?_
              refine .st (.stb ty3 rfl rfl rfl st1 (.there .here)) ?_
              refine .nil ?_
              refine .then ?_
              refine .seq ?_
              refine .region ?_
              refine .v (.mv rfl) rfl ?_
              refine .v (.build rfl (fun w => bd76_0 w _)) rfl ?_
              refine .nb (.alloc ty76 rfl) rfl (fun b9 => ?_)
              refine .st (.stw ty76 rfl rfl rfl rfl rfl .here) ?_
              refine .nil ?_
              refine .then ?_
              refine .seq ?_
              refine .seq ?_
              refine .region ?_
              refine .v (.mv rfl) rfl ?_
              refine .vT (.ge rfl rfl) rfl (by omega) ?_
              refine .nil ?_
              refine .then ?_
              refine .condT rfl ?_
              refine .region ?_
              refine .v (.fa0 fl38_0 rfl) rfl ?_
              refine .v (.ldb ty36 rfl (.there (.there .here)) rfl) rfl ?_
              refine .v (.mv rfl) rfl ?_
              rcases at_cases hsf id with ⟨hth, hat, f, hf, hfi⟩ | ⟨hth, hat⟩
              rotate_left
              · omega
              have hft := tot_get hf
              refine .ix sl36 rfl rfl hS rfl f ⟨by omega, by rw [hat]; exact hf⟩ (fun p10 o11 r12 => ?_)
              refine .v (.ldrw ty76 rfl r12 rfl) rfl ?_
              refine .st (.stw ty76 rfl rfl rfl rfl rfl .here) ?_
              refine .nil ?_
              refine .then ?_
              refine .seq ?_
              refine .seq ?_
              refine .region ?_
              refine .v (.mv rfl) rfl ?_
              refine .vF (.eq rfl rfl) rfl (by decide) ?_
              refine .nil ?_
              refine .then ?_
              refine .condF rfl ?_
              refine .skip ?_
              refine .then ?_
              refine .seq ?_
              refine .seq ?_
              refine .region ?_
              refine .v (.mv rfl) rfl ?_
              refine .vF (.eq rfl rfl) rfl (by decide) ?_
              refine .nil ?_
              refine .then ?_
              refine .condF rfl ?_
              refine .skip ?_
              refine .then ?_
              refine .seq ?_
              refine .region ?_
              refine .v (.ldw ty38 rfl (.there (.there .here)) rfl) rfl ?_
              refine .v (.ldw ty76 rfl .here rfl) rfl ?_
              refine .v (.mv rfl) rfl ?_
              refine .vT (.eq rfl rfl) rfl (by decide) ?_
              refine .cf rfl rfl (Try.call40 _) (rturn_fn (⟨d.files, d.left - 1, d.armed, d.down⟩ : Dk) a c _ hS (⟨f.id, f.firm, f.loose⟩ : Fl) true hlen) rfl ?_
              rintro _ G13 le14 ⟨a2, c2, rfl, hS2⟩
              have hF := le14
              refine .st (.stw ty38 rfl rfl rfl rfl rfl (.there .here)) ?_
              refine .v (.asn rfl) rfl ?_
              refine .nil ?_
              refine .then ?_
              refine .ret ?_
              have hth2 : there d.files f.id = true := by rw [hfi]; exact hth
              have hput := turn_out hsf (⟨f.id, f.firm, f.loose⟩ : Fl) hth2
              have hval : remove d id = (⟨turnGo (⟨f.id, f.firm, f.loose⟩ : Fl) true d.files, (⟨d.files, d.left - 1, d.armed, d.down⟩ : Dk).left, d.armed, d.down⟩, 0) := by
                unfold remove
                rw [ready_ok h13_3 h17_4 c22_5, if_neg (by decide), if_neg (by rw [hth]; decide), show spend d = ((⟨d.files, d.left - 1, d.armed, d.down⟩ : Dk), true) from by simp [spend, c47_7, h50_8], if_neg (by simp), hput]
                simp [hfi]
              rw [show remove d id = _ from hval]
              exact .done _ [] (.ct rfl ty38 rfl (.there .here) rfl rfl) hF ⟨rfl, a2, c2, rfl, hS2⟩ (Inn.keep (.there (.there (.there .here))))
          · skip
            refine .gs rfl rfl rfl rfl ?_
            refine .gs rfl rfl rfl rfl ?_
            refine .gs rfl rfl rfl rfl ?_
            refine .v (.pkF rfl rfl) rfl ?_
            refine .nil ?_
            refine .then ?_
            refine .condF rfl ?_
            refine .skip ?_
            refine .then ?_
            refine .seq ?_
            refine .seq ?_
            refine .region ?_
            refine .v (.fab fl38_2 rfl) rfl ?_
            refine .v (.ldb ty4 rfl (.there .here) rfl) rfl ?_
            refine .nil ?_
            refine .then ?_
            refine .kn (t := 55) rfl (congrArg Value.bool c47_7) ?_
            refine .condF rfl ?_
            refine .skip ?_
            refine .then ?_
            refine .seq ?_
            refine .region ?_
            refine .v (.mv rfl) rfl ?_
            refine .v (.build rfl (fun w => bd76_0 w _)) rfl ?_
            refine .nb (.alloc ty76 rfl) rfl (fun b16 => ?_)
            refine .st (.stw ty76 rfl rfl rfl rfl rfl .here) ?_
            refine .nil ?_
            refine .then ?_
            refine .seq ?_
            refine .seq ?_
            refine .region ?_
            refine .v (.mv rfl) rfl ?_
            refine .vT (.ge rfl rfl) rfl (by omega) ?_
            refine .nil ?_
            refine .then ?_
            refine .condT rfl ?_
            refine .region ?_
            refine .v (.fa0 fl38_0 rfl) rfl ?_
            refine .v (.ldb ty36 rfl (.there (.there .here)) rfl) rfl ?_
            refine .v (.mv rfl) rfl ?_
            rcases at_cases hsf id with ⟨hth, hat, f, hf, hfi⟩ | ⟨hth, hat⟩
            rotate_left
            · omega
            have hft := tot_get hf
            refine .ix sl36 rfl rfl hS rfl f ⟨by omega, by rw [hat]; exact hf⟩ (fun p17 o18 r19 => ?_)
            refine .v (.ldrw ty76 rfl r19 rfl) rfl ?_
            refine .st (.stw ty76 rfl rfl rfl rfl rfl .here) ?_
            refine .nil ?_
            refine .then ?_
            refine .seq ?_
            refine .seq ?_
            refine .region ?_
            refine .v (.mv rfl) rfl ?_
            refine .vF (.eq rfl rfl) rfl (by decide) ?_
            refine .nil ?_
            refine .then ?_
            refine .condF rfl ?_
            refine .skip ?_
            refine .then ?_
            refine .seq ?_
            refine .seq ?_
            refine .region ?_
            refine .v (.mv rfl) rfl ?_
            refine .vF (.eq rfl rfl) rfl (by decide) ?_
            refine .nil ?_
            refine .then ?_
            refine .condF rfl ?_
            refine .skip ?_
            refine .then ?_
            refine .seq ?_
            refine .region ?_
            refine .v (.ldw ty38 rfl (.there (.there .here)) rfl) rfl ?_
            refine .v (.ldw ty76 rfl .here rfl) rfl ?_
            refine .v (.mv rfl) rfl ?_
            refine .vT (.eq rfl rfl) rfl (by decide) ?_
            refine .cf rfl rfl (Try.call40 _) (rturn_fn d a c _ hS (⟨f.id, f.firm, f.loose⟩ : Fl) true hlen) rfl ?_
            rintro _ G20 le21 ⟨a2, c2, rfl, hS2⟩
            have hF := le21
            refine .st (.stw ty38 rfl rfl rfl rfl rfl (.there .here)) ?_
            refine .v (.asn rfl) rfl ?_
            refine .nil ?_
            refine .then ?_
            refine .ret ?_
            have hth2 : there d.files f.id = true := by rw [hfi]; exact hth
            have hput := turn_out hsf (⟨f.id, f.firm, f.loose⟩ : Fl) hth2
            have hval : remove d id = (⟨turnGo (⟨f.id, f.firm, f.loose⟩ : Fl) true d.files, d.left, d.armed, d.down⟩, 0) := by
              unfold remove
              rw [ready_ok h13_3 h17_4 c22_5, if_neg (by decide), if_neg (by rw [hth]; decide), show spend d = (d, true) from by simp [spend, c47_7], if_neg (by simp), hput]
              simp [hfi]
            rw [show remove d id = _ from hval]
            exact .done _ [] (.ct rfl ty38 rfl (.there .here) rfl rfl) hF ⟨rfl, a2, c2, rfl, hS2⟩ (Inn.keep (.there (.there (.there .here))))
    · skip
      refine .g rfl rfl rfl ?_
      refine .v (.not rfl) rfl ?_
      refine .v (.pkF rfl rfl) rfl ?_
      refine .nil ?_
      refine .then ?_
      refine .condT rfl ?_
      refine .seq ?_
      refine .region ?_
      refine .v (.ldw ty38 rfl (.there .here) rfl) rfl ?_
      refine .st (.stw ty38 rfl rfl rfl rfl rfl .here) ?_
      refine .v (.asn rfl) rfl ?_
      refine .nil ?_
      refine .then ?_
      refine .ret ?_
      refine .then_ret ?_
      rw [show remove d id = _ from remove_err (ready_num h17_4) (by decide)]
      exact .done _ [] (.ct rfl ty38 rfl .here rfl rfl) .rfl ⟨rfl, a, c, rfl, hS⟩ (Inn.keep (.there (.there .here)))
  · skip
    refine .v (.not rfl) rfl ?_
    refine .v (.mv rfl) rfl ?_
    refine .gs rfl rfl rfl rfl ?_
    refine .gs rfl rfl rfl rfl ?_
    refine .gs rfl rfl rfl rfl ?_
    refine .v (.pkT rfl rfl) rfl ?_
    refine .nil ?_
    refine .then ?_
    refine .condT rfl ?_
    refine .seq ?_
    refine .region ?_
    refine .v (.ldw ty38 rfl (.there .here) rfl) rfl ?_
    refine .st (.stw ty38 rfl rfl rfl rfl rfl .here) ?_
    refine .v (.asn rfl) rfl ?_
    refine .nil ?_
    refine .then ?_
    refine .ret ?_
    refine .then_ret ?_
    rw [show remove d id = _ from remove_err (ready_right h13_3) (by decide)]
    exact .done _ [] (.ct rfl ty38 rfl .here rfl rfl) .rfl ⟨rfl, a, c, rfl, hS⟩ (Inn.keep (.there (.there .here)))
end Go.Proofs.Ytifkokikdlgaaaa.Ow
