/- Walks. -/
import Derived.Test.YtggkhcdilbdifaaWd
namespace Go.Proofs.Ytggkhcdilbdifaa.Ow
open Go Go.Proofs.Ytggkhcdilbdifaa.Rec
set_option linter.unusedVariables false
theorem wput_fn (d : Dk) (a : Option Addr) (c : Nat) (F : Mem) (hS : Sl F encF 3 a c d.files) (hb : tot d.files ≤ 4611686018427387904) (hn : d.files.length * 40 ≤ 140737488355328) (b : ByteArray) (hbs : b.size ≤ 1048576) : Fn Try.prog 16 #[dval a c d, .string b] [] F (fun v M G => M = [] ∧ ∃ a' c', v = .tuple #[dval a' c' (putD d b).1, .int .i64 (putD d b).2.1, .int .i64 (putD d b).2.2] ∧ Sl G encF 3 a' c' (putD d b).1.files) := by
  refine Fn.start0 Try.func16 rfl Try.ntmps16 rfl (env := [(0, _), (1, _)]) rfl ?_
  intro R
  refine .seq ?_
  refine .region ?_
  refine .nb (.box rfl rfl) rfl (fun b1 => ?_)
  refine .nb (.alloc ty24 rfl) rfl (fun b2 => ?_)
  refine .v (.asn rfl) rfl ?_
  refine .v (.asn rfl) rfl ?_
  refine .nil ?_
  refine .then ?_
  refine .seq ?_
  refine .region ?_
  refine .v (.ldw ty24 rfl (.there .here) rfl) rfl ?_
  refine .cf rfl rfl (Try.call18 _) (log_fn d a c _ hS hb hn) rfl ?_
  rintro _ G3 le4 ⟨l5, al5, cl5, rfl, hSg5, hsg5, hmp5⟩
  replace hS := hS.mono le4
  have hF := le4
  have her := logR_err d
  refine .v (.mv rfl) rfl ?_
  refine .v (.ext rfl rfl) rfl ?_
  refine .v (.ext rfl rfl) rfl ?_
  refine .v (.ext rfl rfl) rfl ?_
  refine .v (.asn rfl) rfl ?_
  refine .v (.asn rfl) rfl ?_
  refine .v (.asn rfl) rfl ?_
  refine .nil ?_
  refine .then ?_
  refine .seq ?_
  refine .seq ?_
  refine .region ?_
  refine .v (.mv rfl) rfl ?_
  refine .vs (.ne rfl rfl) rfl (fun h22_6 => ?_) (fun h22_6 => ?_)
  · skip
    have hE : ¬ logE d = 0 := by rw [← her]; exact h22_6
    refine .nil ?_
    refine .then ?_
    refine .condT rfl ?_
    refine .seq ?_
    refine .region ?_
    refine .v (.ldw ty24 rfl (.there .here) rfl) rfl ?_
    refine .v (.mv rfl) rfl ?_
    refine .st (.stw ty24 rfl rfl rfl rfl rfl .here) ?_
    refine .v (.asn rfl) rfl ?_
    refine .v (.asn rfl) rfl ?_
    refine .nil ?_
    refine .then ?_
    refine .ret ?_
    refine .then_ret ?_
    have hv : putD d b = (d, 0, (logR d).2.2) := (putD_err b hE).trans (by rw [her])
    exact .done _ [] (.ctt rfl ty24 rfl .here rfl rfl rfl) hF ⟨rfl, a, c, by rw [hv], by rw [hv]; exact hS⟩ (Inn.keep (.there (.there .here)))
  · skip
    have hE : logE d = 0 := by rw [← her]; exact Decidable.not_not.1 h22_6
    have hR := logR_ok hE
    rw [hR] at hmp5
    dsimp only at hmp5
    obtain ⟨hr0, hd0⟩ := logE_zero hE
    have hnx := nextD_le hr0
    have hrecs := recs_le hr0
    refine .nil ?_
    refine .then ?_
    refine .condF rfl ?_
    refine .skip ?_
    refine .then ?_
    refine .seq ?_
    refine .region ?_
    refine .kn (t := 8) (v := .int .i64 (nextD d)) rfl (by rw [hR]) ?_
    refine .v (.mv rfl) rfl ?_
    refine .v (.call rfl rfl (Try.call24 _) (fun G hle hG => put_fn b G (by omega))) rfl ?_
    refine .v (.mv rfl) rfl ?_
    refine .v (.ext rfl rfl) rfl ?_
    refine .v (.ext rfl rfl) rfl ?_
    refine .v (.asn rfl) rfl ?_
    refine .v (.asn rfl) rfl ?_
    refine .nil ?_
    refine .then ?_
    refine .seq ?_
    refine .block ?_
    refine .seq ?_
    refine .region ?_
    refine .v (.mv rfl) rfl ?_
    refine .vs (.ne rfl rfl) rfl (fun h32_7 => ?_) (fun h32_7 => ?_)
    · skip
      refine .v (.asn rfl) rfl ?_
      refine .nil ?_
      refine .then ?_
      refine .condT rfl ?_
      refine .seq ?_
      refine .region ?_
      refine .v (.ldw ty24 rfl (.there .here) rfl) rfl ?_
      refine .v (.mv rfl) rfl ?_
      refine .st (.stw ty24 rfl rfl rfl rfl rfl .here) ?_
      refine .v (.asn rfl) rfl ?_
      refine .v (.asn rfl) rfl ?_
      refine .nil ?_
      refine .then ?_
      refine .ret ?_
      refine .blk_ret ?_
      refine .then_ret ?_
      have hv : putD d b = (d, 0, (putB b).2) := putD_long hE h32_7
      exact .done _ [] (.ctt rfl ty24 rfl .here rfl rfl rfl) hF ⟨rfl, a, c, by rw [hv], by rw [hv]; exact hS⟩ (Inn.keep (.there (.there .here)))
    · skip
      have h1 : (putB b).2 = 0 := Decidable.not_not.1 h32_7
      refine .v (.asn rfl) rfl ?_
      refine .nil ?_
      refine .then ?_
      refine .condF rfl ?_
      refine .seq ?_
      refine .region ?_
      refine .v (.mv rfl) rfl ?_
      refine .vs (.ge rfl rfl) rfl (fun h37_8 => ?_) (fun h37_8 => ?_)
      · skip
        refine .v (.asn rfl) rfl ?_
        refine .nil ?_
        refine .then ?_
        refine .condT rfl ?_
        refine .seq ?_
        refine .region ?_
        refine .v (.ldw ty24 rfl (.there .here) rfl) rfl ?_
        refine .st (.stw ty24 rfl rfl rfl rfl rfl .here) ?_
        refine .v (.asn rfl) rfl ?_
        refine .v (.asn rfl) rfl ?_
        refine .nil ?_
        refine .then ?_
        refine .ret ?_
        refine .blk_ret ?_
        refine .then_ret ?_
        have hv : putD d b = (d, 0, 6) := putD_full hE h1 (by omega)
        exact .done _ [] (.ctt rfl ty24 rfl .here rfl rfl rfl) hF ⟨rfl, a, c, by rw [hv], by rw [hv]; exact hS⟩ (Inn.keep (.there (.there .here)))
      · skip
        refine .v (.asn rfl) rfl ?_
        refine .nil ?_
        refine .then ?_
        refine .condF rfl ?_
        refine .skip ?_
        refine .blk ?_
        refine .then ?_
        refine .seq ?_
        refine .region ?_
        refine .v (.mv rfl) rfl ?_
        refine .v (.asn rfl) rfl ?_
        refine .nil ?_
        refine .then ?_
        refine .seq ?_
        refine .seq ?_
        refine .region ?_
        refine .v (.mv rfl) rfl ?_
        refine .v (.lenl Try.underlying52 rfl) rfl ?_
        refine .v (.asn rfl) rfl ?_
        refine .nil ?_
        refine .then ?_
        refine .seq ?_
        refine .region ?_
        refine .v (.mv rfl) rfl ?_
        refine .vs (.gt rfl rfl) rfl (fun h43_9 => ?_) (fun h43_9 => ?_)
        · skip
          obtain ⟨x, hx⟩ : ∃ y, l5[l5.length - 1]? = some y := ⟨_, List.getElem?_eq_getElem (by omega)⟩
          have hla := last_of hmp5 hx
          have hr_x := hsg5.at' x (List.mem_of_getElem? hx)
          have hlen := hSg5.len
          have hxr := logD_range d x.g (by rw [← hmp5]; exact List.mem_map_of_mem (List.mem_of_getElem? hx))
          refine .v (.mv rfl) rfl ?_
          refine .g rfl rfl rfl ?_
          refine .v (.mv rfl) rfl ?_
          refine .g rfl rfl rfl ?_
          refine .v (.mv rfl) rfl ?_
          refine .g rfl rfl rfl ?_
          refine .v (.sub rfl rfl (by omega)) rfl ?_
          refine .g rfl rfl rfl ?_
          refine .ix sl52 rfl rfl hSg5 rfl x ⟨by omega, by rw [show ((l5.length : Int) - 1).toNat = l5.length - 1 by omega]; exact hx⟩ (fun p10 o11 r12 => ?_)
          refine .g rfl rfl rfl ?_
          refine .v (.fae fl57_2 rfl) rfl ?_
          refine .g rfl rfl rfl ?_
          refine .v (.ldr (j := 2) ty4 rfl r12 rfl) rfl ?_
          refine .v (.pkT rfl rfl) rfl ?_
          refine .nil ?_
          refine .then ?_
          refine .cs (t := 51) rfl (fun c51_13 => ?_) (fun c51_13 => ?_)
          · skip
            refine .condT rfl ?_
            refine .region ?_
            obtain ⟨hto, hcl⟩ := put_open hla c51_13
            have h3 : ((d, (0 : Int)) : Dk × Int).2 = 0 := rfl
            refine .v (.mv rfl) rfl ?_
            refine .v (.mv rfl) rfl ?_
            refine .v (.sub rfl rfl (by omega)) rfl ?_
            refine .ix sl52 rfl rfl hSg5 rfl x ⟨by omega, by rw [show ((l5.length : Int) - 1).toNat = l5.length - 1 by omega]; exact hx⟩ (fun p14 o15 r16 => ?_)
            refine .v (.fa0 fl57_0 rfl) rfl ?_
            refine .v (.ldr0 ty3 rfl r16 rfl) rfl ?_
            refine .v (.asn rfl) rfl ?_
            refine .nil ?_
            refine .then ?_
            refine .seq ?_
            refine .seq ?_
            refine .region ?_
            refine .v (.ldw ty24 rfl (.there .here) rfl) rfl ?_
            refine .v (.mv rfl) rfl ?_
            refine .v (.mv rfl) rfl ?_
            refine .cf rfl rfl (Try.call27 _) (append_fn d a c _ hS hb x.g.id (putB b).1) rfl ?_
            rintro _ G17 le18 ⟨a19, c19, rfl, hS19⟩
            replace hS := hS.mono le18
            replace hSg5 := hSg5.mono le18
            replace hsg5 := hsg5.mono le18
            replace hF := hF.trans le18
            refine .v (.mv rfl) rfl ?_
            refine .v (.ext rfl rfl) rfl ?_
            refine .v (.ext rfl rfl) rfl ?_
            refine .st (.stw ty24 rfl rfl rfl rfl rfl (.there .here)) ?_
            refine .v (.asn rfl) rfl ?_
            refine .nil ?_
            refine .then ?_
            refine .seq ?_
            refine .region ?_
            refine .v (.mv rfl) rfl ?_
            refine .vs (.ne rfl rfl) rfl (fun h84_20 => ?_) (fun h84_20 => ?_)
            · skip
              refine .nil ?_
              refine .then ?_
              refine .condT rfl ?_
              refine .seq ?_
              refine .region ?_
              refine .v (.ldw ty24 rfl (.there .here) rfl) rfl ?_
              refine .v (.mv rfl) rfl ?_
              refine .st (.stw ty24 rfl rfl rfl rfl rfl .here) ?_
              refine .v (.asn rfl) rfl ?_
              refine .v (.asn rfl) rfl ?_
              refine .nil ?_
              refine .then ?_
              refine .ret ?_
              refine .then_ret ?_
              have hv : putD d b = ((append (d, 0).1 x.g.id (putB b).1).1, 0, (append (d, 0).1 x.g.id (putB b).1).2) := putD_app hE h1 (by omega) hcl h3 hto h84_20
              exact .done _ [] (.ctt rfl ty24 rfl .here rfl rfl rfl) hF ⟨rfl, a19, c19, by rw [hv], by rw [hv]; exact hS19⟩ (Inn.keep (.there (.there .here)))
            · skip
              have h4 : (append (d, 0).1 x.g.id (putB b).1).2 = 0 := Decidable.not_not.1 h84_20
              refine .nil ?_
              refine .then ?_
              refine .condF rfl ?_
              refine .skip ?_
              refine .then ?_
              refine .seq ?_
              refine .seq ?_
              refine .region ?_
              refine .v (.ldw ty24 rfl (.there .here) rfl) rfl ?_
              refine .v (.mv rfl) rfl ?_
              refine .cf rfl rfl (Try.call28 _) (sync_fn (append d x.g.id (putB b).1).1 a19 c19 _ hS19 (right_tot (append_right hr0 _ _)) x.g.id) rfl ?_
              rintro _ G21 le22 ⟨a23, c23, rfl, hS23⟩
              replace hS := hS.mono le22
              replace hSg5 := hSg5.mono le22
              replace hsg5 := hsg5.mono le22
              replace hS19 := hS19.mono le22
              replace hF := hF.trans le22
              refine .v (.mv rfl) rfl ?_
              refine .v (.ext rfl rfl) rfl ?_
              refine .v (.ext rfl rfl) rfl ?_
              refine .st (.stw ty24 rfl rfl rfl rfl rfl (.there .here)) ?_
              refine .v (.asn rfl) rfl ?_
              refine .nil ?_
              refine .then ?_
              refine .seq ?_
              refine .region ?_
              refine .v (.mv rfl) rfl ?_
              refine .vs (.ne rfl rfl) rfl (fun h94_24 => ?_) (fun h94_24 => ?_)
              · skip
                refine .nil ?_
                refine .then ?_
                refine .condT rfl ?_
                refine .seq ?_
                refine .region ?_
                refine .v (.ldw ty24 rfl (.there .here) rfl) rfl ?_
                refine .v (.mv rfl) rfl ?_
                refine .st (.stw ty24 rfl rfl rfl rfl rfl .here) ?_
                refine .v (.asn rfl) rfl ?_
                refine .v (.asn rfl) rfl ?_
                refine .nil ?_
                refine .then ?_
                refine .ret ?_
                refine .then_ret ?_
                have hv : putD d b = ((sync (append (d, 0).1 x.g.id (putB b).1).1 x.g.id).1, 0, (sync (append (d, 0).1 x.g.id (putB b).1).1 x.g.id).2) := putD_sync hE h1 (by omega) hcl h3 hto h4 h94_24
                exact .done _ [] (.ctt rfl ty24 rfl .here rfl rfl rfl) hF ⟨rfl, a23, c23, by rw [hv], by rw [hv]; exact hS23⟩ (Inn.keep (.there (.there .here)))
              · skip
                refine .nil ?_
                refine .then ?_
                refine .condF rfl ?_
                refine .skip ?_
                refine .then ?_
                refine .seq ?_
                refine .region ?_
                refine .v (.ldw ty24 rfl (.there .here) rfl) rfl ?_
                refine .v (.mv rfl) rfl ?_
                refine .st (.stw ty24 rfl rfl rfl rfl rfl .here) ?_
                refine .v (.asn rfl) rfl ?_
                refine .v (.asn rfl) rfl ?_
                refine .nil ?_
                refine .then ?_
                refine .ret ?_
                have hv : putD d b = ((sync (append (d, 0).1 x.g.id (putB b).1).1 x.g.id).1, nextD d, 0) := putD_ok hE h1 (by omega) hcl h3 hto h4 (Decidable.not_not.1 h94_24)
                exact .done _ [] (.ctt rfl ty24 rfl .here rfl rfl rfl) hF ⟨rfl, a23, c23, by rw [hv], by rw [hv]; exact hS23⟩ (Inn.keep (.there (.there .here)))
          · skip
            refine .condF rfl ?_
            refine .seq ?_
            refine .region ?_
            have hsh : lastOpen d = false := shut_some hla c51_13
            have hto := put_shut hsh
            refine .v (.ldw ty24 rfl (.there .here) rfl) rfl ?_
            refine .v (.mv rfl) rfl ?_
            refine .v (.call rfl rfl (Try.call25 _) (fun G hle hG => text_fn d a c G (hS.mono hle) hb (nextD d))) rfl ?_
            refine .v (.mv rfl) rfl ?_
            refine .v (.ext rfl rfl) rfl ?_
            refine .v (.ext rfl rfl) rfl ?_
            refine .v (.asn rfl) rfl ?_
            refine .v (.asn rfl) rfl ?_
            refine .nil ?_
            refine .then ?_
            refine .seq ?_
            refine .region ?_
            refine .v (.mv rfl) rfl ?_
            refine .vs (.eq rfl rfl) rfl (fun h65_25 => ?_) (fun h65_25 => ?_)
            · skip
              have hcl := clear_gone hsh h65_25
              refine .nil ?_
              refine .then ?_
              refine .condT rfl ?_
              refine .seq ?_
              refine .region ?_
              refine .v (.ldw ty24 rfl (.there .here) rfl) rfl ?_
              refine .v (.mv rfl) rfl ?_
              refine .cf rfl rfl (Try.call26 _) (remove_fn d a c _ hS hb (nextD d)) rfl ?_
              rintro _ G26 le27 ⟨a28, c28, rfl, hS28⟩
              replace hS := hS.mono le27
              replace hSg5 := hSg5.mono le27
              replace hsg5 := hsg5.mono le27
              replace hF := hF.trans le27
              refine .v (.mv rfl) rfl ?_
              refine .v (.ext rfl rfl) rfl ?_
              refine .v (.ext rfl rfl) rfl ?_
              refine .st (.stw ty24 rfl rfl rfl rfl rfl (.there .here)) ?_
              refine .v (.asn rfl) rfl ?_
              refine .nil ?_
              refine .then ?_
              refine .seq ?_
              refine .region ?_
              refine .v (.mv rfl) rfl ?_
              refine .vs (.ne rfl rfl) rfl (fun h73_29 => ?_) (fun h73_29 => ?_)
              · skip
                refine .nil ?_
                refine .then ?_
                refine .condT rfl ?_
                refine .seq ?_
                refine .region ?_
                refine .v (.ldw ty24 rfl (.there .here) rfl) rfl ?_
                refine .v (.mv rfl) rfl ?_
                refine .st (.stw ty24 rfl rfl rfl rfl rfl .here) ?_
                refine .v (.asn rfl) rfl ?_
                refine .v (.asn rfl) rfl ?_
                refine .nil ?_
                refine .then ?_
                refine .ret ?_
                refine .then_ret ?_
                have hv : putD d b = ((remove d (nextD d)).1, 0, (remove d (nextD d)).2) := putD_clear hE h1 (by omega) hcl h73_29
                exact .done _ [] (.ctt rfl ty24 rfl .here rfl rfl rfl) hF ⟨rfl, a28, c28, by rw [hv], by rw [hv]; exact hS28⟩ (Inn.keep (.there (.there .here)))
              · skip
                have h3 : (remove d (nextD d)).2 = 0 := Decidable.not_not.1 h73_29
                refine .nil ?_
                refine .then ?_
                refine .condF rfl ?_
                refine .skip ?_
                refine .then ?_
                refine .seq ?_
                refine .seq ?_
                refine .region ?_
                refine .v (.ldw ty24 rfl (.there .here) rfl) rfl ?_
                refine .v (.mv rfl) rfl ?_
                refine .v (.mv rfl) rfl ?_
                refine .cf rfl rfl (Try.call27 _) (append_fn (remove d (nextD d)).1 a28 c28 _ hS28 (right_tot (remove_right hr0 _)) (nextD d) (putB b).1) rfl ?_
                rintro _ G30 le31 ⟨a32, c32, rfl, hS32⟩
                replace hS := hS.mono le31
                replace hSg5 := hSg5.mono le31
                replace hsg5 := hsg5.mono le31
                replace hS28 := hS28.mono le31
                replace hF := hF.trans le31
                refine .v (.mv rfl) rfl ?_
                refine .v (.ext rfl rfl) rfl ?_
                refine .v (.ext rfl rfl) rfl ?_
                refine .st (.stw ty24 rfl rfl rfl rfl rfl (.there .here)) ?_
                refine .v (.asn rfl) rfl ?_
                refine .nil ?_
                refine .then ?_
                refine .seq ?_
                refine .region ?_
                refine .v (.mv rfl) rfl ?_
                refine .vs (.ne rfl rfl) rfl (fun h84_33 => ?_) (fun h84_33 => ?_)
                · skip
                  refine .nil ?_
                  refine .then ?_
                  refine .condT rfl ?_
                  refine .seq ?_
                  refine .region ?_
                  refine .v (.ldw ty24 rfl (.there .here) rfl) rfl ?_
                  refine .v (.mv rfl) rfl ?_
                  refine .st (.stw ty24 rfl rfl rfl rfl rfl .here) ?_
                  refine .v (.asn rfl) rfl ?_
                  refine .v (.asn rfl) rfl ?_
                  refine .nil ?_
                  refine .then ?_
                  refine .ret ?_
                  refine .then_ret ?_
                  have hv : putD d b = ((append (remove d (nextD d)).1 (nextD d) (putB b).1).1, 0, (append (remove d (nextD d)).1 (nextD d) (putB b).1).2) := putD_app hE h1 (by omega) hcl h3 hto h84_33
                  exact .done _ [] (.ctt rfl ty24 rfl .here rfl rfl rfl) hF ⟨rfl, a32, c32, by rw [hv], by rw [hv]; exact hS32⟩ (Inn.keep (.there (.there .here)))
                · skip
                  have h4 : (append (remove d (nextD d)).1 (nextD d) (putB b).1).2 = 0 := Decidable.not_not.1 h84_33
                  refine .nil ?_
                  refine .then ?_
                  refine .condF rfl ?_
                  refine .skip ?_
                  refine .then ?_
                  refine .seq ?_
                  refine .seq ?_
                  refine .region ?_
                  refine .v (.ldw ty24 rfl (.there .here) rfl) rfl ?_
                  refine .v (.mv rfl) rfl ?_
                  refine .cf rfl rfl (Try.call28 _) (sync_fn (append (remove d (nextD d)).1 (nextD d) (putB b).1).1 a32 c32 _ hS32 (right_tot (append_right (remove_right hr0 _) _ _)) (nextD d)) rfl ?_
                  rintro _ G34 le35 ⟨a36, c36, rfl, hS36⟩
                  replace hS := hS.mono le35
                  replace hSg5 := hSg5.mono le35
                  replace hsg5 := hsg5.mono le35
                  replace hS28 := hS28.mono le35
                  replace hS32 := hS32.mono le35
                  replace hF := hF.trans le35
                  refine .v (.mv rfl) rfl ?_
                  refine .v (.ext rfl rfl) rfl ?_
                  refine .v (.ext rfl rfl) rfl ?_
                  refine .st (.stw ty24 rfl rfl rfl rfl rfl (.there .here)) ?_
                  refine .v (.asn rfl) rfl ?_
                  refine .nil ?_
                  refine .then ?_
                  refine .seq ?_
                  refine .region ?_
                  refine .v (.mv rfl) rfl ?_
                  refine .vs (.ne rfl rfl) rfl (fun h94_37 => ?_) (fun h94_37 => ?_)
                  · skip
                    refine .nil ?_
                    refine .then ?_
                    refine .condT rfl ?_
                    refine .seq ?_
                    refine .region ?_
                    refine .v (.ldw ty24 rfl (.there .here) rfl) rfl ?_
                    refine .v (.mv rfl) rfl ?_
                    refine .st (.stw ty24 rfl rfl rfl rfl rfl .here) ?_
                    refine .v (.asn rfl) rfl ?_
                    refine .v (.asn rfl) rfl ?_
                    refine .nil ?_
                    refine .then ?_
                    refine .ret ?_
                    refine .then_ret ?_
                    have hv : putD d b = ((sync (append (remove d (nextD d)).1 (nextD d) (putB b).1).1 (nextD d)).1, 0, (sync (append (remove d (nextD d)).1 (nextD d) (putB b).1).1 (nextD d)).2) := putD_sync hE h1 (by omega) hcl h3 hto h4 h94_37
                    exact .done _ [] (.ctt rfl ty24 rfl .here rfl rfl rfl) hF ⟨rfl, a36, c36, by rw [hv], by rw [hv]; exact hS36⟩ (Inn.keep (.there (.there .here)))
                  · skip
                    refine .nil ?_
                    refine .then ?_
                    refine .condF rfl ?_
                    refine .skip ?_
                    refine .then ?_
                    refine .seq ?_
                    refine .region ?_
                    refine .v (.ldw ty24 rfl (.there .here) rfl) rfl ?_
                    refine .v (.mv rfl) rfl ?_
                    refine .st (.stw ty24 rfl rfl rfl rfl rfl .here) ?_
                    refine .v (.asn rfl) rfl ?_
                    refine .v (.asn rfl) rfl ?_
                    refine .nil ?_
                    refine .then ?_
                    refine .ret ?_
                    have hv : putD d b = ((sync (append (remove d (nextD d)).1 (nextD d) (putB b).1).1 (nextD d)).1, nextD d, 0) := putD_ok hE h1 (by omega) hcl h3 hto h4 (Decidable.not_not.1 h94_37)
                    exact .done _ [] (.ctt rfl ty24 rfl .here rfl rfl rfl) hF ⟨rfl, a36, c36, by rw [hv], by rw [hv]; exact hS36⟩ (Inn.keep (.there (.there .here)))
            · skip
              have hcl := clear_none hsh h65_25
              have h3 : ((d, (0 : Int)) : Dk × Int).2 = 0 := rfl
              refine .nil ?_
              refine .then ?_
              refine .condF rfl ?_
              refine .skip ?_
              refine .then ?_
              refine .seq ?_
              refine .seq ?_
              refine .region ?_
              refine .v (.ldw ty24 rfl (.there .here) rfl) rfl ?_
              refine .v (.mv rfl) rfl ?_
              refine .v (.mv rfl) rfl ?_
              refine .cf rfl rfl (Try.call27 _) (append_fn d a c _ hS hb (nextD d) (putB b).1) rfl ?_
              rintro _ G38 le39 ⟨a40, c40, rfl, hS40⟩
              replace hS := hS.mono le39
              replace hSg5 := hSg5.mono le39
              replace hsg5 := hsg5.mono le39
              replace hF := hF.trans le39
              refine .v (.mv rfl) rfl ?_
              refine .v (.ext rfl rfl) rfl ?_
              refine .v (.ext rfl rfl) rfl ?_
              refine .st (.stw ty24 rfl rfl rfl rfl rfl (.there .here)) ?_
              refine .v (.asn rfl) rfl ?_
              refine .nil ?_
              refine .then ?_
              refine .seq ?_
              refine .region ?_
              refine .v (.mv rfl) rfl ?_
              refine .vs (.ne rfl rfl) rfl (fun h84_41 => ?_) (fun h84_41 => ?_)
              · skip
                refine .nil ?_
                refine .then ?_
                refine .condT rfl ?_
                refine .seq ?_
                refine .region ?_
                refine .v (.ldw ty24 rfl (.there .here) rfl) rfl ?_
                refine .v (.mv rfl) rfl ?_
                refine .st (.stw ty24 rfl rfl rfl rfl rfl .here) ?_
                refine .v (.asn rfl) rfl ?_
                refine .v (.asn rfl) rfl ?_
                refine .nil ?_
                refine .then ?_
                refine .ret ?_
                refine .then_ret ?_
                have hv : putD d b = ((append (d, 0).1 (nextD d) (putB b).1).1, 0, (append (d, 0).1 (nextD d) (putB b).1).2) := putD_app hE h1 (by omega) hcl h3 hto h84_41
                exact .done _ [] (.ctt rfl ty24 rfl .here rfl rfl rfl) hF ⟨rfl, a40, c40, by rw [hv], by rw [hv]; exact hS40⟩ (Inn.keep (.there (.there .here)))
              · skip
                have h4 : (append (d, 0).1 (nextD d) (putB b).1).2 = 0 := Decidable.not_not.1 h84_41
                refine .nil ?_
                refine .then ?_
                refine .condF rfl ?_
                refine .skip ?_
                refine .then ?_
                refine .seq ?_
                refine .seq ?_
                refine .region ?_
                refine .v (.ldw ty24 rfl (.there .here) rfl) rfl ?_
                refine .v (.mv rfl) rfl ?_
                refine .cf rfl rfl (Try.call28 _) (sync_fn (append d (nextD d) (putB b).1).1 a40 c40 _ hS40 (right_tot (append_right hr0 _ _)) (nextD d)) rfl ?_
                rintro _ G42 le43 ⟨a44, c44, rfl, hS44⟩
                replace hS := hS.mono le43
                replace hSg5 := hSg5.mono le43
                replace hsg5 := hsg5.mono le43
                replace hS40 := hS40.mono le43
                replace hF := hF.trans le43
                refine .v (.mv rfl) rfl ?_
                refine .v (.ext rfl rfl) rfl ?_
                refine .v (.ext rfl rfl) rfl ?_
                refine .st (.stw ty24 rfl rfl rfl rfl rfl (.there .here)) ?_
                refine .v (.asn rfl) rfl ?_
                refine .nil ?_
                refine .then ?_
                refine .seq ?_
                refine .region ?_
                refine .v (.mv rfl) rfl ?_
                refine .vs (.ne rfl rfl) rfl (fun h94_45 => ?_) (fun h94_45 => ?_)
                · skip
                  refine .nil ?_
                  refine .then ?_
                  refine .condT rfl ?_
                  refine .seq ?_
                  refine .region ?_
                  refine .v (.ldw ty24 rfl (.there .here) rfl) rfl ?_
                  refine .v (.mv rfl) rfl ?_
                  refine .st (.stw ty24 rfl rfl rfl rfl rfl .here) ?_
                  refine .v (.asn rfl) rfl ?_
                  refine .v (.asn rfl) rfl ?_
                  refine .nil ?_
                  refine .then ?_
                  refine .ret ?_
                  refine .then_ret ?_
                  have hv : putD d b = ((sync (append (d, 0).1 (nextD d) (putB b).1).1 (nextD d)).1, 0, (sync (append (d, 0).1 (nextD d) (putB b).1).1 (nextD d)).2) := putD_sync hE h1 (by omega) hcl h3 hto h4 h94_45
                  exact .done _ [] (.ctt rfl ty24 rfl .here rfl rfl rfl) hF ⟨rfl, a44, c44, by rw [hv], by rw [hv]; exact hS44⟩ (Inn.keep (.there (.there .here)))
                · skip
                  refine .nil ?_
                  refine .then ?_
                  refine .condF rfl ?_
                  refine .skip ?_
                  refine .then ?_
                  refine .seq ?_
                  refine .region ?_
                  refine .v (.ldw ty24 rfl (.there .here) rfl) rfl ?_
                  refine .v (.mv rfl) rfl ?_
                  refine .st (.stw ty24 rfl rfl rfl rfl rfl .here) ?_
                  refine .v (.asn rfl) rfl ?_
                  refine .v (.asn rfl) rfl ?_
                  refine .nil ?_
                  refine .then ?_
                  refine .ret ?_
                  have hv : putD d b = ((sync (append (d, 0).1 (nextD d) (putB b).1).1 (nextD d)).1, nextD d, 0) := putD_ok hE h1 (by omega) hcl h3 hto h4 (Decidable.not_not.1 h94_45)
                  exact .done _ [] (.ctt rfl ty24 rfl .here rfl rfl rfl) hF ⟨rfl, a44, c44, by rw [hv], by rw [hv]; exact hS44⟩ (Inn.keep (.there (.there .here)))
        · skip
          have hsh : lastOpen d = false := shut_none (by rw [← hmp5, List.eq_nil_of_length_eq_zero (l := l5) (by omega)]; rfl)
          refine .v (.mv rfl) rfl ?_
          refine .gs rfl rfl rfl rfl ?_
          refine .gs rfl rfl rfl rfl ?_
          refine .gs rfl rfl rfl rfl ?_
          refine .gs rfl rfl rfl rfl ?_
          refine .gs rfl rfl rfl rfl ?_
          refine .gs rfl rfl rfl rfl ?_
          refine .v (.pkF rfl rfl) rfl ?_
          refine .nil ?_
          refine .then ?_
          refine .condF rfl ?_
          refine .seq ?_
          refine .region ?_
          have hto := put_shut hsh
          refine .v (.ldw ty24 rfl (.there .here) rfl) rfl ?_
          refine .v (.mv rfl) rfl ?_
          refine .v (.call rfl rfl (Try.call25 _) (fun G hle hG => text_fn d a c G (hS.mono hle) hb (nextD d))) rfl ?_
          refine .v (.mv rfl) rfl ?_
          refine .v (.ext rfl rfl) rfl ?_
          refine .v (.ext rfl rfl) rfl ?_
          refine .v (.asn rfl) rfl ?_
          refine .v (.asn rfl) rfl ?_
          refine .nil ?_
          refine .then ?_
          refine .seq ?_
          refine .region ?_
          refine .v (.mv rfl) rfl ?_
          refine .vs (.eq rfl rfl) rfl (fun h65_46 => ?_) (fun h65_46 => ?_)
          · skip
            have hcl := clear_gone hsh h65_46
            refine .nil ?_
            refine .then ?_
            refine .condT rfl ?_
            refine .seq ?_
            refine .region ?_
            refine .v (.ldw ty24 rfl (.there .here) rfl) rfl ?_
            refine .v (.mv rfl) rfl ?_
            refine .cf rfl rfl (Try.call26 _) (remove_fn d a c _ hS hb (nextD d)) rfl ?_
            rintro _ G47 le48 ⟨a49, c49, rfl, hS49⟩
            replace hS := hS.mono le48
            replace hSg5 := hSg5.mono le48
            replace hsg5 := hsg5.mono le48
            replace hF := hF.trans le48
            refine .v (.mv rfl) rfl ?_
            refine .v (.ext rfl rfl) rfl ?_
            refine .v (.ext rfl rfl) rfl ?_
            refine .st (.stw ty24 rfl rfl rfl rfl rfl (.there .here)) ?_
            refine .v (.asn rfl) rfl ?_
            refine .nil ?_
            refine .then ?_
            refine .seq ?_
            refine .region ?_
            refine .v (.mv rfl) rfl ?_
            refine .vs (.ne rfl rfl) rfl (fun h73_50 => ?_) (fun h73_50 => ?_)
            · skip
              refine .nil ?_
              refine .then ?_
              refine .condT rfl ?_
              refine .seq ?_
              refine .region ?_
              refine .v (.ldw ty24 rfl (.there .here) rfl) rfl ?_
              refine .v (.mv rfl) rfl ?_
              refine .st (.stw ty24 rfl rfl rfl rfl rfl .here) ?_
              refine .v (.asn rfl) rfl ?_
              refine .v (.asn rfl) rfl ?_
              refine .nil ?_
              refine .then ?_
              refine .ret ?_
              refine .then_ret ?_
              have hv : putD d b = ((remove d (nextD d)).1, 0, (remove d (nextD d)).2) := putD_clear hE h1 (by omega) hcl h73_50
              exact .done _ [] (.ctt rfl ty24 rfl .here rfl rfl rfl) hF ⟨rfl, a49, c49, by rw [hv], by rw [hv]; exact hS49⟩ (Inn.keep (.there (.there .here)))
            · skip
              have h3 : (remove d (nextD d)).2 = 0 := Decidable.not_not.1 h73_50
              refine .nil ?_
              refine .then ?_
              refine .condF rfl ?_
              refine .skip ?_
              refine .then ?_
              refine .seq ?_
              refine .seq ?_
              refine .region ?_
              refine .v (.ldw ty24 rfl (.there .here) rfl) rfl ?_
              refine .v (.mv rfl) rfl ?_
              refine .v (.mv rfl) rfl ?_
              refine .cf rfl rfl (Try.call27 _) (append_fn (remove d (nextD d)).1 a49 c49 _ hS49 (right_tot (remove_right hr0 _)) (nextD d) (putB b).1) rfl ?_
              rintro _ G51 le52 ⟨a53, c53, rfl, hS53⟩
              replace hS := hS.mono le52
              replace hSg5 := hSg5.mono le52
              replace hsg5 := hsg5.mono le52
              replace hS49 := hS49.mono le52
              replace hF := hF.trans le52
              refine .v (.mv rfl) rfl ?_
              refine .v (.ext rfl rfl) rfl ?_
              refine .v (.ext rfl rfl) rfl ?_
              refine .st (.stw ty24 rfl rfl rfl rfl rfl (.there .here)) ?_
              refine .v (.asn rfl) rfl ?_
              refine .nil ?_
              refine .then ?_
              refine .seq ?_
              refine .region ?_
              refine .v (.mv rfl) rfl ?_
              refine .vs (.ne rfl rfl) rfl (fun h84_54 => ?_) (fun h84_54 => ?_)
              · skip
                refine .nil ?_
                refine .then ?_
                refine .condT rfl ?_
                refine .seq ?_
                refine .region ?_
                refine .v (.ldw ty24 rfl (.there .here) rfl) rfl ?_
                refine .v (.mv rfl) rfl ?_
                refine .st (.stw ty24 rfl rfl rfl rfl rfl .here) ?_
                refine .v (.asn rfl) rfl ?_
                refine .v (.asn rfl) rfl ?_
                refine .nil ?_
                refine .then ?_
                refine .ret ?_
                refine .then_ret ?_
                have hv : putD d b = ((append (remove d (nextD d)).1 (nextD d) (putB b).1).1, 0, (append (remove d (nextD d)).1 (nextD d) (putB b).1).2) := putD_app hE h1 (by omega) hcl h3 hto h84_54
                exact .done _ [] (.ctt rfl ty24 rfl .here rfl rfl rfl) hF ⟨rfl, a53, c53, by rw [hv], by rw [hv]; exact hS53⟩ (Inn.keep (.there (.there .here)))
              · skip
                have h4 : (append (remove d (nextD d)).1 (nextD d) (putB b).1).2 = 0 := Decidable.not_not.1 h84_54
                refine .nil ?_
                refine .then ?_
                refine .condF rfl ?_
                refine .skip ?_
                refine .then ?_
                refine .seq ?_
                refine .seq ?_
                refine .region ?_
                refine .v (.ldw ty24 rfl (.there .here) rfl) rfl ?_
                refine .v (.mv rfl) rfl ?_
                refine .cf rfl rfl (Try.call28 _) (sync_fn (append (remove d (nextD d)).1 (nextD d) (putB b).1).1 a53 c53 _ hS53 (right_tot (append_right (remove_right hr0 _) _ _)) (nextD d)) rfl ?_
                rintro _ G55 le56 ⟨a57, c57, rfl, hS57⟩
                replace hS := hS.mono le56
                replace hSg5 := hSg5.mono le56
                replace hsg5 := hsg5.mono le56
                replace hS49 := hS49.mono le56
                replace hS53 := hS53.mono le56
                replace hF := hF.trans le56
                refine .v (.mv rfl) rfl ?_
                refine .v (.ext rfl rfl) rfl ?_
                refine .v (.ext rfl rfl) rfl ?_
                refine .st (.stw ty24 rfl rfl rfl rfl rfl (.there .here)) ?_
                refine .v (.asn rfl) rfl ?_
                refine .nil ?_
                refine .then ?_
                refine .seq ?_
                refine .region ?_
                refine .v (.mv rfl) rfl ?_
                refine .vs (.ne rfl rfl) rfl (fun h94_58 => ?_) (fun h94_58 => ?_)
                · skip
                  refine .nil ?_
                  refine .then ?_
                  refine .condT rfl ?_
                  refine .seq ?_
                  refine .region ?_
                  refine .v (.ldw ty24 rfl (.there .here) rfl) rfl ?_
                  refine .v (.mv rfl) rfl ?_
                  refine .st (.stw ty24 rfl rfl rfl rfl rfl .here) ?_
                  refine .v (.asn rfl) rfl ?_
                  refine .v (.asn rfl) rfl ?_
                  refine .nil ?_
                  refine .then ?_
                  refine .ret ?_
                  refine .then_ret ?_
                  have hv : putD d b = ((sync (append (remove d (nextD d)).1 (nextD d) (putB b).1).1 (nextD d)).1, 0, (sync (append (remove d (nextD d)).1 (nextD d) (putB b).1).1 (nextD d)).2) := putD_sync hE h1 (by omega) hcl h3 hto h4 h94_58
                  exact .done _ [] (.ctt rfl ty24 rfl .here rfl rfl rfl) hF ⟨rfl, a57, c57, by rw [hv], by rw [hv]; exact hS57⟩ (Inn.keep (.there (.there .here)))
                · skip
                  refine .nil ?_
                  refine .then ?_
                  refine .condF rfl ?_
                  refine .skip ?_
                  refine .then ?_
                  refine .seq ?_
                  refine .region ?_
                  refine .v (.ldw ty24 rfl (.there .here) rfl) rfl ?_
                  refine .v (.mv rfl) rfl ?_
                  refine .st (.stw ty24 rfl rfl rfl rfl rfl .here) ?_
                  refine .v (.asn rfl) rfl ?_
                  refine .v (.asn rfl) rfl ?_
                  refine .nil ?_
                  refine .then ?_
                  refine .ret ?_
                  have hv : putD d b = ((sync (append (remove d (nextD d)).1 (nextD d) (putB b).1).1 (nextD d)).1, nextD d, 0) := putD_ok hE h1 (by omega) hcl h3 hto h4 (Decidable.not_not.1 h94_58)
                  exact .done _ [] (.ctt rfl ty24 rfl .here rfl rfl rfl) hF ⟨rfl, a57, c57, by rw [hv], by rw [hv]; exact hS57⟩ (Inn.keep (.there (.there .here)))
          · skip
            have hcl := clear_none hsh h65_46
            have h3 : ((d, (0 : Int)) : Dk × Int).2 = 0 := rfl
            refine .nil ?_
            refine .then ?_
            refine .condF rfl ?_
            refine .skip ?_
            refine .then ?_
            refine .seq ?_
            refine .seq ?_
            refine .region ?_
            refine .v (.ldw ty24 rfl (.there .here) rfl) rfl ?_
            refine .v (.mv rfl) rfl ?_
            refine .v (.mv rfl) rfl ?_
            refine .cf rfl rfl (Try.call27 _) (append_fn d a c _ hS hb (nextD d) (putB b).1) rfl ?_
            rintro _ G59 le60 ⟨a61, c61, rfl, hS61⟩
            replace hS := hS.mono le60
            replace hSg5 := hSg5.mono le60
            replace hsg5 := hsg5.mono le60
            replace hF := hF.trans le60
            refine .v (.mv rfl) rfl ?_
            refine .v (.ext rfl rfl) rfl ?_
            refine .v (.ext rfl rfl) rfl ?_
            refine .st (.stw ty24 rfl rfl rfl rfl rfl (.there .here)) ?_
            refine .v (.asn rfl) rfl ?_
            refine .nil ?_
            refine .then ?_
            refine .seq ?_
            refine .region ?_
            refine .v (.mv rfl) rfl ?_
            refine .vs (.ne rfl rfl) rfl (fun h84_62 => ?_) (fun h84_62 => ?_)
            · skip
              refine .nil ?_
              refine .then ?_
              refine .condT rfl ?_
              refine .seq ?_
              refine .region ?_
              refine .v (.ldw ty24 rfl (.there .here) rfl) rfl ?_
              refine .v (.mv rfl) rfl ?_
              refine .st (.stw ty24 rfl rfl rfl rfl rfl .here) ?_
              refine .v (.asn rfl) rfl ?_
              refine .v (.asn rfl) rfl ?_
              refine .nil ?_
              refine .then ?_
              refine .ret ?_
              refine .then_ret ?_
              have hv : putD d b = ((append (d, 0).1 (nextD d) (putB b).1).1, 0, (append (d, 0).1 (nextD d) (putB b).1).2) := putD_app hE h1 (by omega) hcl h3 hto h84_62
              exact .done _ [] (.ctt rfl ty24 rfl .here rfl rfl rfl) hF ⟨rfl, a61, c61, by rw [hv], by rw [hv]; exact hS61⟩ (Inn.keep (.there (.there .here)))
            · skip
              have h4 : (append (d, 0).1 (nextD d) (putB b).1).2 = 0 := Decidable.not_not.1 h84_62
              refine .nil ?_
              refine .then ?_
              refine .condF rfl ?_
              refine .skip ?_
              refine .then ?_
              refine .seq ?_
              refine .seq ?_
              refine .region ?_
              refine .v (.ldw ty24 rfl (.there .here) rfl) rfl ?_
              refine .v (.mv rfl) rfl ?_
              refine .cf rfl rfl (Try.call28 _) (sync_fn (append d (nextD d) (putB b).1).1 a61 c61 _ hS61 (right_tot (append_right hr0 _ _)) (nextD d)) rfl ?_
              rintro _ G63 le64 ⟨a65, c65, rfl, hS65⟩
              replace hS := hS.mono le64
              replace hSg5 := hSg5.mono le64
              replace hsg5 := hsg5.mono le64
              replace hS61 := hS61.mono le64
              replace hF := hF.trans le64
              refine .v (.mv rfl) rfl ?_
              refine .v (.ext rfl rfl) rfl ?_
              refine .v (.ext rfl rfl) rfl ?_
              refine .st (.stw ty24 rfl rfl rfl rfl rfl (.there .here)) ?_
              refine .v (.asn rfl) rfl ?_
              refine .nil ?_
              refine .then ?_
              refine .seq ?_
              refine .region ?_
              refine .v (.mv rfl) rfl ?_
              refine .vs (.ne rfl rfl) rfl (fun h94_66 => ?_) (fun h94_66 => ?_)
              · skip
                refine .nil ?_
                refine .then ?_
                refine .condT rfl ?_
                refine .seq ?_
                refine .region ?_
                refine .v (.ldw ty24 rfl (.there .here) rfl) rfl ?_
                refine .v (.mv rfl) rfl ?_
                refine .st (.stw ty24 rfl rfl rfl rfl rfl .here) ?_
                refine .v (.asn rfl) rfl ?_
                refine .v (.asn rfl) rfl ?_
                refine .nil ?_
                refine .then ?_
                refine .ret ?_
                refine .then_ret ?_
                have hv : putD d b = ((sync (append (d, 0).1 (nextD d) (putB b).1).1 (nextD d)).1, 0, (sync (append (d, 0).1 (nextD d) (putB b).1).1 (nextD d)).2) := putD_sync hE h1 (by omega) hcl h3 hto h4 h94_66
                exact .done _ [] (.ctt rfl ty24 rfl .here rfl rfl rfl) hF ⟨rfl, a65, c65, by rw [hv], by rw [hv]; exact hS65⟩ (Inn.keep (.there (.there .here)))
              · skip
                refine .nil ?_
                refine .then ?_
                refine .condF rfl ?_
                refine .skip ?_
                refine .then ?_
                refine .seq ?_
                refine .region ?_
                refine .v (.ldw ty24 rfl (.there .here) rfl) rfl ?_
                refine .v (.mv rfl) rfl ?_
                refine .st (.stw ty24 rfl rfl rfl rfl rfl .here) ?_
                refine .v (.asn rfl) rfl ?_
                refine .v (.asn rfl) rfl ?_
                refine .nil ?_
                refine .then ?_
                refine .ret ?_
                have hv : putD d b = ((sync (append (d, 0).1 (nextD d) (putB b).1).1 (nextD d)).1, nextD d, 0) := putD_ok hE h1 (by omega) hcl h3 hto h4 (Decidable.not_not.1 h94_66)
                exact .done _ [] (.ctt rfl ty24 rfl .here rfl rfl rfl) hF ⟨rfl, a65, c65, by rw [hv], by rw [hv]; exact hS65⟩ (Inn.keep (.there (.there .here)))
end Go.Proofs.Ytggkhcdilbdifaa.Ow
