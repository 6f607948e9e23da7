/- Walks. -/
import Derived.Test.YtggkhcdilbdifaaWi
namespace Go.Proofs.Ytggkhcdilbdifaa.Ow
open Go Go.Proofs.Ytggkhcdilbdifaa.Rec
set_option linter.unusedVariables false
theorem same_fn' (l m : List ByteArray) (a b : Option Addr) (c e : Nat) (n1 n2 : Nat) (F : Mem) (h1 : n1 = l.length) (h2 : n2 = m.length) (hS : Sl F encS 1 a c l) (hT : Sl F encS 1 b e m) : Fn Try.prog 12 #[.slice a n1 c, .slice b n2 e] [] F (fun u _ _ => u = .bool (decide (l = m))) := by
  subst h1 h2
  exact same_fn l m a b c e F hS hT
theorem walReads_fn (d : Dk) (a : Option Addr) (c : Nat) (F : Mem) (hS : Sl F encF 3 a c d.files) (hn : d.files.length * 40 ≤ 140737488355328) (pos : Int) : Fn Try.prog 3 #[dval a c d, .int .i64 pos] [] F (fun v M G => M = [] ∧ v = .bool true) := by
  refine Fn.start0 Try.func3 rfl Try.ntmps3 rfl (env := [(0, _), (1, _)]) rfl ?_
  intro R
  refine .seq ?_
  refine .region ?_
  refine .nb (.box rfl rfl) rfl (fun b1 => ?_)
  refine .v (.asn rfl) rfl ?_
  refine .nil ?_
  refine .then ?_
  refine .seq ?_
  refine .region ?_
  refine .v (.ldw ty24 rfl .here rfl) rfl ?_
  refine .cf rfl rfl (Try.call6 _) (ref_fn d a c _ hS hn) rfl ?_
  rintro _ G2 le3 ⟨a4, c4, rfl, hS4⟩
  replace hS := hS.mono le3
  have hF := le3
  refine .nb (.alloc ty27 rfl) rfl (fun b5 => ?_)
  refine .st (.stw ty27 rfl rfl rfl rfl rfl .here) ?_
  refine .nil ?_
  refine .then ?_
  refine .seq ?_
  refine .seq ?_
  refine .region ?_
  refine .v (.ldw ty27 rfl .here rfl) rfl ?_
  refine .vb (.call rfl rfl (Try.call7 _) (fun G hle hG => rsmall_fn d a4 c4 G (hS4.mono hle))) rfl (fun h18_6 => ?_) (fun h18_6 => ?_)
  · skip
    have hb60 := small_len h18_6
    have hb49 := small_tot h18_6
    have hb : tot d.files ≤ 4611686018427387904 := Nat.le_trans hb49 (by decide)
    refine .v (.not rfl) rfl ?_
    refine .nil ?_
    refine .then ?_
    refine .condF rfl ?_
    refine .skip ?_
    refine .then ?_
    refine .seq ?_
    refine .region ?_
    refine .v (.ldw ty24 rfl (.there .here) rfl) rfl ?_
    refine .v (.call rfl rfl (Try.call9 _) (fun G hle hG => span_fn d a c G (hS.mono hle) hb hn)) rfl ?_
    refine .v (.mv rfl) rfl ?_
    refine .v (.ext rfl rfl) rfl ?_
    refine .v (.ext rfl rfl) rfl ?_
    refine .v (.ext rfl rfl) rfl ?_
    refine .v (.asn rfl) rfl ?_
    refine .v (.asn rfl) rfl ?_
    refine .v (.asn rfl) rfl ?_
    refine .nil ?_
    refine .then ?_
    refine .seq ?_
    refine .region ?_
    refine .v (.ldw ty24 rfl (.there .here) rfl) rfl ?_
    refine .v (.mv rfl) rfl ?_
    refine .cf rfl rfl (Try.call10 _) (from_fn d a c _ hS hb hn pos) rfl ?_
    rintro _ G7 le8 ⟨af9, cf9, rfl, hF9⟩
    replace hS := hS.mono le8
    replace hS4 := hS4.mono le8
    replace hF := hF.trans le8
    refine .v (.mv rfl) rfl ?_
    refine .v (.ext rfl rfl) rfl ?_
    refine .v (.ext rfl rfl) rfl ?_
    refine .v (.asn rfl) rfl ?_
    refine .v (.asn rfl) rfl ?_
    refine .nil ?_
    refine .then ?_
    refine .seq ?_
    refine .region ?_
    refine .v (.ldw ty27 rfl .here rfl) rfl ?_
    refine .v (.mv rfl) rfl ?_
    refine .cf rfl rfl (Try.call11 _) (rfrom_fn d a4 c4 _ hS4 hb pos) rfl ?_
    rintro _ G10 le11 ⟨af12, cf12, rfl, hF12⟩
    replace hS := hS.mono le11
    replace hS4 := hS4.mono le11
    replace hF9 := hF9.mono le11
    replace hF := hF.trans le11
    refine .v (.mv rfl) rfl ?_
    refine .v (.ext rfl rfl) rfl ?_
    refine .v (.ext rfl rfl) rfl ?_
    refine .v (.asn rfl) rfl ?_
    refine .v (.asn rfl) rfl ?_
    refine .nil ?_
    refine .then ?_
    refine .seq ?_
    refine .seq ?_
    refine .region ?_
    refine .v (.mv rfl) rfl ?_
    refine .v (.mv rfl) rfl ?_
    refine .bT (.call rfl rfl (Try.call12 _) (fun G hle hG => same_fn (fromD d pos).1 (fromD d pos).1 af9 af12 cf9 cf12 G (hF9.mono hle) (hF12.mono hle))) rfl (decide_eq_true rfl) ?_
    refine .v (.not rfl) rfl ?_
    refine .v (.mv rfl) rfl ?_
    refine .g rfl rfl rfl ?_
    refine .v (.mv rfl) rfl ?_
    refine .g rfl rfl rfl ?_
    refine .v (.mv rfl) rfl ?_
    refine .g rfl rfl rfl ?_
    refine .vF (.ne rfl rfl) rfl (fun h => h rfl) ?_
    refine .v (.pkF rfl rfl) rfl ?_
    refine .nil ?_
    refine .then ?_
    refine .condF rfl ?_
    refine .skip ?_
    refine .then ?_
    refine .seq ?_
    refine .seq ?_
    refine .region ?_
    refine .v (.ldw ty27 rfl .here rfl) rfl ?_
    refine .vb (.call rfl rfl (Try.call13 _) (fun G hle hG => rright_fn d a4 c4 G (hS4.mono hle) hb)) rfl (fun h49_13 => ?_) (fun h49_13 => ?_)
    · skip
      refine .v (.not rfl) rfl ?_
      refine .v (.mv rfl) rfl ?_
      refine .g rfl rfl rfl ?_
      refine .v (.fab fl24_3 rfl) rfl ?_
      refine .g rfl rfl rfl ?_
      refine .v (.ldb ty4 rfl (.there .here) rfl) rfl ?_
      refine .v (.pkF rfl rfl) rfl ?_
      refine .nil ?_
      refine .then ?_
      refine .cs (t := 54) rfl (fun c54_14 => ?_) (fun c54_14 => ?_)
      · skip
        refine .condT rfl ?_
        refine .seq ?_
        refine .region ?_
        have hE : ¬ logE d = 0 := by unfold logE; simp [h49_13, c54_14]
        have hsp : spanD d = (0, 0, logE d) := if_neg hE
        have hfr : fromD d pos = ([], logE d) := if_neg hE
        refine .v (.mv rfl) rfl ?_
        refine .vT (.eq rfl rfl) rfl (by rw [hsp]) ?_
        refine .v (.mv rfl) rfl ?_
        refine .g rfl rfl rfl ?_
        refine .v (.mv rfl) rfl ?_
        refine .g rfl rfl rfl ?_
        refine .vT (.eq rfl rfl) rfl (by rw [hsp]) ?_
        refine .v (.pkT rfl rfl) rfl ?_
        refine .v (.mv rfl) rfl ?_
        refine .g rfl rfl rfl ?_
        refine .v (.mv rfl) rfl ?_
        refine .g rfl rfl rfl ?_
        refine .v (.mv rfl) rfl ?_
        refine .g rfl rfl rfl ?_
        refine .vT (.eq rfl rfl) rfl (by rw [hsp, hfr]) ?_
        refine .v (.pkT rfl rfl) rfl ?_
        refine .v (.mv rfl) rfl ?_
        refine .g rfl rfl rfl ?_
        refine .cf rfl rfl (Try.call8 _) (awake_fn _) rfl ?_
        rintro _ G15 le16 rfl
        replace hS := hS.mono le16
        replace hS4 := hS4.mono le16
        replace hF9 := hF9.mono le16
        replace hF12 := hF12.mono le16
        replace hF := hF.trans le16
        refine .v (.pkT rfl rfl) rfl ?_
        refine .v (.asn rfl) rfl ?_
        refine .nil ?_
        refine .then ?_
        refine .ret ?_
        refine .then_ret ?_
        exact .done _ [] (.t1 rfl rfl) hF ⟨rfl, rfl⟩ (Inn.keep (.there (.there .here)))
      · skip
        refine .condF rfl ?_
        refine .skip ?_
        refine .then ?_
        refine .seq ?_
        refine .region ?_
        have hr0 : right d = true := h49_13
        have hd0 : d.down = false := c54_14
        have hE := logE_ok hr0 hd0
        have hsp : spanD d = (firstL (logD d), nextD d, 0) := if_pos hE
        refine .v (.ldw ty27 rfl .here rfl) rfl ?_
        refine .v (.call rfl rfl (Try.call14 _) (fun G hle hG => rspan_fn d a4 c4 G (hS4.mono hle) hr0)) rfl ?_
        refine .v (.mv rfl) rfl ?_
        refine .v (.ext rfl rfl) rfl ?_
        refine .v (.ext rfl rfl) rfl ?_
        refine .v (.asn rfl) rfl ?_
        refine .v (.asn rfl) rfl ?_
        refine .nil ?_
        refine .then ?_
        refine .seq ?_
        refine .region ?_
        refine .v (.mv rfl) rfl ?_
        refine .v (.mv rfl) rfl ?_
        refine .vT (.eq rfl rfl) rfl (by rw [hsp]) ?_
        refine .v (.mv rfl) rfl ?_
        refine .g rfl rfl rfl ?_
        refine .v (.mv rfl) rfl ?_
        refine .g rfl rfl rfl ?_
        refine .v (.mv rfl) rfl ?_
        refine .g rfl rfl rfl ?_
        refine .vT (.eq rfl rfl) rfl (by rw [hsp]) ?_
        refine .v (.pkT rfl rfl) rfl ?_
        refine .v (.mv rfl) rfl ?_
        refine .g rfl rfl rfl ?_
        refine .v (.mv rfl) rfl ?_
        refine .g rfl rfl rfl ?_
        refine .vT (.eq rfl rfl) rfl (by rw [hsp]) ?_
        refine .v (.pkT rfl rfl) rfl ?_
        refine .v (.mv rfl) rfl ?_
        refine .g rfl rfl rfl ?_
        refine .cf rfl rfl (Try.call8 _) (awake_fn _) rfl ?_
        rintro _ G18 le19 rfl
        replace hS := hS.mono le19
        replace hS4 := hS4.mono le19
        replace hF9 := hF9.mono le19
        replace hF12 := hF12.mono le19
        replace hF := hF.trans le19
        refine .v (.pkT rfl rfl) rfl ?_
        refine .v (.asn rfl) rfl ?_
        refine .nil ?_
        refine .then ?_
        refine .ret ?_
        exact .done _ [] (.t1 rfl rfl) hF ⟨rfl, rfl⟩ (Inn.keep (.there (.there .here)))
    · skip
      refine .v (.not rfl) rfl ?_
      refine .v (.mv rfl) rfl ?_
      refine .gs rfl rfl rfl rfl ?_
      refine .gs rfl rfl rfl rfl ?_
      refine .v (.pkT rfl rfl) rfl ?_
      refine .nil ?_
      refine .then ?_
      refine .condT rfl ?_
      refine .seq ?_
      refine .region ?_
      have hE : ¬ logE d = 0 := by unfold logE; simp [h49_13]
      have hsp : spanD d = (0, 0, logE d) := if_neg hE
      have hfr : fromD d pos = ([], logE d) := if_neg hE
      refine .v (.mv rfl) rfl ?_
      refine .vT (.eq rfl rfl) rfl (by rw [hsp]) ?_
      refine .v (.mv rfl) rfl ?_
      refine .g rfl rfl rfl ?_
      refine .v (.mv rfl) rfl ?_
      refine .g rfl rfl rfl ?_
      refine .vT (.eq rfl rfl) rfl (by rw [hsp]) ?_
      refine .v (.pkT rfl rfl) rfl ?_
      refine .v (.mv rfl) rfl ?_
      refine .g rfl rfl rfl ?_
      refine .v (.mv rfl) rfl ?_
      refine .g rfl rfl rfl ?_
      refine .v (.mv rfl) rfl ?_
      refine .g rfl rfl rfl ?_
      refine .vT (.eq rfl rfl) rfl (by rw [hsp, hfr]) ?_
      refine .v (.pkT rfl rfl) rfl ?_
      refine .v (.mv rfl) rfl ?_
      refine .g rfl rfl rfl ?_
      refine .cf rfl rfl (Try.call8 _) (awake_fn _) rfl ?_
      rintro _ G21 le22 rfl
      replace hS := hS.mono le22
      replace hS4 := hS4.mono le22
      replace hF9 := hF9.mono le22
      replace hF12 := hF12.mono le22
      replace hF := hF.trans le22
      refine .v (.pkT rfl rfl) rfl ?_
      refine .v (.asn rfl) rfl ?_
      refine .nil ?_
      refine .then ?_
      refine .ret ?_
      refine .then_ret ?_
      exact .done _ [] (.t1 rfl rfl) hF ⟨rfl, rfl⟩ (Inn.keep (.there (.there .here)))
  · skip
    refine .v (.not rfl) rfl ?_
    refine .nil ?_
    refine .then ?_
    refine .condT rfl ?_
    refine .seq ?_
    refine .region ?_
    refine .cf rfl rfl (Try.call8 _) (awake_fn _) rfl ?_
    rintro _ G24 le25 rfl
    replace hS := hS.mono le25
    replace hS4 := hS4.mono le25
    replace hF := hF.trans le25
    refine .v (.asn rfl) rfl ?_
    refine .nil ?_
    refine .then ?_
    refine .ret ?_
    refine .then_ret ?_
    exact .done _ [] (.t1 rfl rfl) hF ⟨rfl, rfl⟩ (Inn.keep (.there (.there .here)))
theorem walCuts_armed (d : Dk) (a : Option Addr) (c : Nat) (F : Mem) (hS : Sl F encF 3 a c d.files) (hn : d.files.length * 40 ≤ 140737488355328) (below : Int) (ha : d.armed = true) : Fn Try.prog 5 #[dval a c d, .int .i64 below] [] F (fun v M G => M = [] ∧ v = .bool true) := by
  refine Fn.start0 Try.func5 rfl Try.ntmps5 rfl (env := [(0, _), (1, _)]) rfl ?_
  intro R
  refine .seq ?_
  refine .region ?_
  refine .nb (.box rfl rfl) rfl (fun b1 => ?_)
  refine .v (.asn rfl) rfl ?_
  refine .nil ?_
  refine .then ?_
  refine .seq ?_
  refine .seq ?_
  refine .region ?_
  refine .v (.ldw ty24 rfl .here rfl) rfl ?_
  refine .cf rfl rfl (Try.call6 _) (ref_fn d a c _ hS hn) rfl ?_
  rintro _ G2 le3 ⟨a4, c4, rfl, hS4⟩
  replace hS := hS.mono le3
  have hF := le3
  refine .vb (.call rfl rfl (Try.call7 _) (fun G hle hG => rsmall_fn d a4 c4 G (hS4.mono hle))) rfl (fun h19_5 => ?_) (fun h19_5 => ?_)
  · skip
    have hb60 := small_len h19_5
    have hb49 := small_tot h19_5
    have hb : tot d.files ≤ 4611686018427387904 := Nat.le_trans hb49 (by decide)
    refine .v (.not rfl) rfl ?_
    refine .v (.mv rfl) rfl ?_
    refine .g rfl rfl rfl ?_
    refine .v (.fab fl24_2 rfl) rfl ?_
    refine .g rfl rfl rfl ?_
    refine .v (.ldb ty4 rfl .here rfl) rfl ?_
    refine .v (.pkF rfl rfl) rfl ?_
    refine .nil ?_
    refine .then ?_
    refine .kn (t := 24) rfl (congrArg Value.bool ha) ?_
    refine .condT rfl ?_
    refine .seq ?_
    refine .region ?_
    refine .cf rfl rfl (Try.call8 _) (awake_fn _) rfl ?_
    rintro _ G6 le7 rfl
    replace hS := hS.mono le7
    replace hS4 := hS4.mono le7
    replace hF := hF.trans le7
    refine .v (.asn rfl) rfl ?_
    refine .nil ?_
    refine .then ?_
    refine .ret ?_
    refine .then_ret ?_
    exact .done _ [] (.t1 rfl rfl) hF ⟨rfl, rfl⟩ (Inn.keep (.there .here))
  · skip
    refine .v (.not rfl) rfl ?_
    refine .v (.mv rfl) rfl ?_
    refine .gs rfl rfl rfl rfl ?_
    refine .gs rfl rfl rfl rfl ?_
    refine .v (.pkT rfl rfl) rfl ?_
    refine .nil ?_
    refine .then ?_
    refine .condT rfl ?_
    refine .seq ?_
    refine .region ?_
    refine .cf rfl rfl (Try.call8 _) (awake_fn _) rfl ?_
    rintro _ G9 le10 rfl
    replace hS := hS.mono le10
    replace hS4 := hS4.mono le10
    replace hF := hF.trans le10
    refine .v (.asn rfl) rfl ?_
    refine .nil ?_
    refine .then ?_
    refine .ret ?_
    refine .then_ret ?_
    exact .done _ [] (.t1 rfl rfl) hF ⟨rfl, rfl⟩ (Inn.keep (.there .here))
theorem walCuts_bad (d : Dk) (a : Option Addr) (c : Nat) (F : Mem) (hS : Sl F encF 3 a c d.files) (hn : d.files.length * 40 ≤ 140737488355328) (below : Int) (ha : d.armed = false) (hE : ¬ logE d = 0) : Fn Try.prog 5 #[dval a c d, .int .i64 below] [] F (fun v M G => M = [] ∧ v = .bool true) := by
  have hcut : cutD d below = (d, logE d) := if_neg hE
  have hsp : spanD d = (0, 0, logE d) := if_neg hE
  refine Fn.start0 Try.func5 rfl Try.ntmps5 rfl (env := [(0, _), (1, _)]) rfl ?_
  intro R
  refine .seq ?_
  refine .region ?_
  refine .nb (.box rfl rfl) rfl (fun b1 => ?_)
  refine .v (.asn rfl) rfl ?_
  refine .nil ?_
  refine .then ?_
  refine .seq ?_
  refine .seq ?_
  refine .region ?_
  refine .v (.ldw ty24 rfl .here rfl) rfl ?_
  refine .cf rfl rfl (Try.call6 _) (ref_fn d a c _ hS hn) rfl ?_
  rintro _ G2 le3 ⟨a4, c4, rfl, hS4⟩
  replace hS := hS.mono le3
  have hF := le3
  refine .vb (.call rfl rfl (Try.call7 _) (fun G hle hG => rsmall_fn d a4 c4 G (hS4.mono hle))) rfl (fun h19_5 => ?_) (fun h19_5 => ?_)
  · skip
    have hb60 := small_len h19_5
    have hb49 := small_tot h19_5
    have hb : tot d.files ≤ 4611686018427387904 := Nat.le_trans hb49 (by decide)
    refine .v (.not rfl) rfl ?_
    refine .v (.mv rfl) rfl ?_
    refine .g rfl rfl rfl ?_
    refine .v (.fab fl24_2 rfl) rfl ?_
    refine .g rfl rfl rfl ?_
    refine .v (.ldb ty4 rfl .here rfl) rfl ?_
    refine .v (.pkF rfl rfl) rfl ?_
    refine .nil ?_
    refine .then ?_
    refine .kn (t := 24) rfl (congrArg Value.bool ha) ?_
    refine .condF rfl ?_
    refine .skip ?_
    refine .then ?_
    refine .seq ?_
    refine .region ?_
    refine .v (.ldw ty24 rfl .here rfl) rfl ?_
    refine .v (.call rfl rfl (Try.call9 _) (fun G hle hG => span_fn d a c G (hS.mono hle) hb hn)) rfl ?_
    refine .v (.mv rfl) rfl ?_
    refine .v (.ext rfl rfl) rfl ?_
    refine .v (.ext rfl rfl) rfl ?_
    refine .v (.ext rfl rfl) rfl ?_
    refine .v (.asn rfl) rfl ?_
    refine .v (.asn rfl) rfl ?_
    refine .v (.asn rfl) rfl ?_
    refine .nil ?_
    refine .then ?_
    refine .seq ?_
    refine .region ?_
    refine .v (.ldw ty24 rfl .here rfl) rfl ?_
    refine .v (.mv rfl) rfl ?_
    refine .cf rfl rfl (Try.call17 _) (cut_fn d a c _ hS hb hn below) rfl ?_
    rw [hcut]
    rintro _ G6 le7 ⟨a8, c8, rfl, hS8⟩
    replace hS := hS.mono le7
    replace hS4 := hS4.mono le7
    replace hF := hF.trans le7
    refine .v (.mv rfl) rfl ?_
    refine .v (.ext rfl rfl) rfl ?_
    refine .v (.ext rfl rfl) rfl ?_
    refine .nb (.alloc ty24 rfl) rfl (fun b9 => ?_)
    refine .st (.stw ty24 rfl rfl rfl rfl rfl .here) ?_
    refine .v (.asn rfl) rfl ?_
    refine .nil ?_
    refine .then ?_
    refine .seq ?_
    refine .seq ?_
    refine .region ?_
    refine .v (.mv rfl) rfl ?_
    refine .vT (.ne rfl rfl) rfl (by rw [hsp]; exact hE) ?_
    refine .v (.mv rfl) rfl ?_
    refine .gs rfl rfl rfl rfl ?_
    refine .gs rfl rfl rfl rfl ?_
    refine .v (.pkT rfl rfl) rfl ?_
    refine .nil ?_
    refine .then ?_
    refine .condT rfl ?_
    refine .seq ?_
    refine .region ?_
    refine .v (.mv rfl) rfl ?_
    refine .v (.mv rfl) rfl ?_
    refine .vT (.eq rfl rfl) rfl (by rw [hsp]) ?_
    refine .v (.mv rfl) rfl ?_
    refine .g rfl rfl rfl ?_
    refine .cf rfl rfl (Try.call8 _) (awake_fn _) rfl ?_
    rintro _ G10 le11 rfl
    replace hS := hS.mono le11
    replace hS4 := hS4.mono le11
    replace hS8 := hS8.mono le11
    replace hF := hF.trans le11
    refine .v (.pkT rfl rfl) rfl ?_
    refine .v (.asn rfl) rfl ?_
    refine .nil ?_
    refine .then ?_
    refine .ret ?_
    refine .then_ret ?_
    exact .done _ [] (.t1 rfl rfl) hF ⟨rfl, rfl⟩ (Inn.keep (.there (.there .here)))
  · skip
    refine .v (.not rfl) rfl ?_
    refine .v (.mv rfl) rfl ?_
    refine .gs rfl rfl rfl rfl ?_
    refine .gs rfl rfl rfl rfl ?_
    refine .v (.pkT rfl rfl) rfl ?_
    refine .nil ?_
    refine .then ?_
    refine .condT rfl ?_
    refine .seq ?_
    refine .region ?_
    refine .cf rfl rfl (Try.call8 _) (awake_fn _) rfl ?_
    rintro _ G13 le14 rfl
    replace hS := hS.mono le14
    replace hS4 := hS4.mono le14
    replace hF := hF.trans le14
    refine .v (.asn rfl) rfl ?_
    refine .nil ?_
    refine .then ?_
    refine .ret ?_
    refine .then_ret ?_
    exact .done _ [] (.t1 rfl rfl) hF ⟨rfl, rfl⟩ (Inn.keep (.there .here))
theorem walCuts_ok (d : Dk) (a : Option Addr) (c : Nat) (F : Mem) (hS : Sl F encF 3 a c d.files) (hn : d.files.length * 40 ≤ 140737488355328) (below : Int) (ha : d.armed = false) (hE : logE d = 0) : Fn Try.prog 5 #[dval a c d, .int .i64 below] [] F (fun v M G => M = [] ∧ v = .bool true) := by
  obtain ⟨d', hcut, hE2, hnx, hx1, hx2, hfr, hfr0, _⟩ := cut_law hE ha below
  have hsp : spanD d = (firstL (logD d), nextD d, 0) := if_pos hE
  have hsp2 : spanD d' = (firstL (logD d'), nextD d', 0) := if_pos hE2
  have hrt2 := (logE_zero hE2).1
  have hb2 := right_tot hrt2
  have hn2 := right_hn hrt2
  refine Fn.start0 Try.func5 rfl Try.ntmps5 rfl (env := [(0, _), (1, _)]) rfl ?_
  intro R
  refine .seq ?_
  refine .region ?_
  refine .nb (.box rfl rfl) rfl (fun b1 => ?_)
  refine .v (.asn rfl) rfl ?_
  refine .nil ?_
  refine .then ?_
  refine .seq ?_
  refine .seq ?_
  refine .region ?_
  refine .v (.ldw ty24 rfl .here rfl) rfl ?_
  refine .cf rfl rfl (Try.call6 _) (ref_fn d a c _ hS hn) rfl ?_
  rintro _ G2 le3 ⟨a4, c4, rfl, hS4⟩
  replace hS := hS.mono le3
  have hF := le3
  refine .vb (.call rfl rfl (Try.call7 _) (fun G hle hG => rsmall_fn d a4 c4 G (hS4.mono hle))) rfl (fun h19_5 => ?_) (fun h19_5 => ?_)
  · skip
    have hb60 := small_len h19_5
    have hb49 := small_tot h19_5
    have hb : tot d.files ≤ 4611686018427387904 := Nat.le_trans hb49 (by decide)
    refine .v (.not rfl) rfl ?_
    refine .v (.mv rfl) rfl ?_
    refine .g rfl rfl rfl ?_
    refine .v (.fab fl24_2 rfl) rfl ?_
    refine .g rfl rfl rfl ?_
    refine .v (.ldb ty4 rfl .here rfl) rfl ?_
    refine .v (.pkF rfl rfl) rfl ?_
    refine .nil ?_
    refine .then ?_
    refine .kn (t := 24) rfl (congrArg Value.bool ha) ?_
    refine .condF rfl ?_
    refine .skip ?_
    refine .then ?_
    refine .seq ?_
    refine .region ?_
    refine .v (.ldw ty24 rfl .here rfl) rfl ?_
    refine .v (.call rfl rfl (Try.call9 _) (fun G hle hG => span_fn d a c G (hS.mono hle) hb hn)) rfl ?_
    refine .v (.mv rfl) rfl ?_
    refine .v (.ext rfl rfl) rfl ?_
    refine .v (.ext rfl rfl) rfl ?_
    refine .v (.ext rfl rfl) rfl ?_
    refine .v (.asn rfl) rfl ?_
    refine .v (.asn rfl) rfl ?_
    refine .v (.asn rfl) rfl ?_
    refine .nil ?_
    refine .then ?_
    refine .seq ?_
    refine .region ?_
    refine .v (.ldw ty24 rfl .here rfl) rfl ?_
    refine .v (.mv rfl) rfl ?_
    refine .cf rfl rfl (Try.call17 _) (cut_fn d a c _ hS hb hn below) rfl ?_
    rw [hcut]
    rintro _ G6 le7 ⟨a8, c8, rfl, hS8⟩
    replace hS := hS.mono le7
    replace hS4 := hS4.mono le7
    replace hF := hF.trans le7
    refine .v (.mv rfl) rfl ?_
    refine .v (.ext rfl rfl) rfl ?_
    refine .v (.ext rfl rfl) rfl ?_
    refine .nb (.alloc ty24 rfl) rfl (fun b9 => ?_)
    refine .st (.stw ty24 rfl rfl rfl rfl rfl .here) ?_
    refine .v (.asn rfl) rfl ?_
    refine .nil ?_
    refine .then ?_
    refine .seq ?_
    refine .seq ?_
    refine .region ?_
    refine .v (.mv rfl) rfl ?_
    refine .vF (.ne rfl rfl) rfl (by rw [hsp]; exact fun h => h rfl) ?_
    refine .v (.mv rfl) rfl ?_
    refine .g rfl rfl rfl ?_
    refine .v (.mv rfl) rfl ?_
    refine .g rfl rfl rfl ?_
    refine .vF (.ne rfl rfl) rfl (fun h => h rfl) ?_
    refine .v (.pkF rfl rfl) rfl ?_
    refine .nil ?_
    refine .then ?_
    refine .condF rfl ?_
    refine .skip ?_
    refine .then ?_
    refine .seq ?_
    refine .region ?_
    refine .v (.ldw ty24 rfl .here rfl) rfl ?_
    refine .v (.call rfl rfl (Try.call9 _) (fun G hle hG => span_fn d' a8 c8 G (hS8.mono hle) hb2 hn2)) rfl ?_
    refine .v (.mv rfl) rfl ?_
    refine .v (.ext rfl rfl) rfl ?_
    refine .v (.ext rfl rfl) rfl ?_
    refine .v (.ext rfl rfl) rfl ?_
    refine .v (.asn rfl) rfl ?_
    refine .v (.asn rfl) rfl ?_
    refine .v (.asn rfl) rfl ?_
    refine .nil ?_
    refine .then ?_
    refine .seq ?_
    refine .seq ?_
    refine .region ?_
    refine .v (.mv rfl) rfl ?_
    refine .vF (.ne rfl rfl) rfl (by rw [hsp2]; exact fun h => h rfl) ?_
    refine .v (.mv rfl) rfl ?_
    refine .g rfl rfl rfl ?_
    refine .v (.mv rfl) rfl ?_
    refine .g rfl rfl rfl ?_
    refine .v (.mv rfl) rfl ?_
    refine .g rfl rfl rfl ?_
    refine .vF (.ne rfl rfl) rfl (by rw [hsp2, hsp, hnx]; exact fun h => h rfl) ?_
    refine .v (.pkF rfl rfl) rfl ?_
    refine .v (.mv rfl) rfl ?_
    refine .g rfl rfl rfl ?_
    refine .v (.mv rfl) rfl ?_
    refine .g rfl rfl rfl ?_
    refine .v (.mv rfl) rfl ?_
    refine .g rfl rfl rfl ?_
    refine .vF (.lt rfl rfl) rfl (by rw [hsp2, hsp]; dsimp only; omega) ?_
    refine .v (.pkF rfl rfl) rfl ?_
    refine .v (.mv rfl) rfl ?_
    refine .g rfl rfl rfl ?_
    refine .v (.mv rfl) rfl ?_
    refine .g rfl rfl rfl ?_
    refine .v (.mv rfl) rfl ?_
    refine .g rfl rfl rfl ?_
    refine .v (.mv rfl) rfl ?_
    refine .g rfl rfl rfl ?_
    refine .v (.max rfl rfl) rfl ?_
    refine .g rfl rfl rfl ?_
    refine .vF (.gt rfl rfl) rfl (by rw [hsp2, hsp]; dsimp only; split <;> omega) ?_
    refine .v (.pkF rfl rfl) rfl ?_
    refine .nil ?_
    refine .then ?_
    refine .condF rfl ?_
    refine .skip ?_
    refine .then ?_
    refine .seq ?_
    refine .region ?_
    refine .v (.ldw ty24 rfl (.there .here) rfl) rfl ?_
    refine .v (.mv rfl) rfl ?_
    refine .cf rfl rfl (Try.call10 _) (from_fn d a c _ hS hb hn (spanD d').1) rfl ?_
    rintro _ G10 le11 ⟨af12, cf12, rfl, hF12⟩
    replace hS := hS.mono le11
    replace hS4 := hS4.mono le11
    replace hS8 := hS8.mono le11
    replace hF := hF.trans le11
    refine .v (.mv rfl) rfl ?_
    refine .v (.ext rfl rfl) rfl ?_
    refine .v (.ext rfl rfl) rfl ?_
    refine .v (.asn rfl) rfl ?_
    refine .v (.asn rfl) rfl ?_
    refine .nil ?_
    refine .then ?_
    refine .seq ?_
    refine .region ?_
    refine .v (.ldw ty24 rfl .here rfl) rfl ?_
    refine .v (.mv rfl) rfl ?_
    refine .cf rfl rfl (Try.call10 _) (from_fn d' a8 c8 _ hS8 hb2 hn2 (spanD d').1) rfl ?_
    rintro _ G13 le14 ⟨af15, cf15, rfl, hF15⟩
    replace hS := hS.mono le14
    replace hS4 := hS4.mono le14
    replace hS8 := hS8.mono le14
    replace hF12 := hF12.mono le14
    replace hF := hF.trans le14
    refine .v (.mv rfl) rfl ?_
    refine .v (.ext rfl rfl) rfl ?_
    refine .v (.ext rfl rfl) rfl ?_
    refine .v (.asn rfl) rfl ?_
    refine .v (.asn rfl) rfl ?_
    refine .nil ?_
    refine .then ?_
    refine .seq ?_
    refine .region ?_
    refine .v (.mv rfl) rfl ?_
    refine .vT (.eq rfl rfl) rfl (by rw [hsp2]; exact hfr0) ?_
    refine .v (.mv rfl) rfl ?_
    refine .g rfl rfl rfl ?_
    refine .v (.mv rfl) rfl ?_
    refine .g rfl rfl rfl ?_
    refine .vT (.eq rfl rfl) rfl (by rw [hsp2, ← hfr]; exact hfr0) ?_
    refine .v (.pkT rfl rfl) rfl ?_
    refine .v (.mv rfl) rfl ?_
    refine .g rfl rfl rfl ?_
    refine .v (.mv rfl) rfl ?_
    refine .g rfl rfl rfl ?_
    refine .v (.mv rfl) rfl ?_
    refine .g rfl rfl rfl ?_
    refine .bT (.call rfl rfl (Try.call12 _) (fun G hle hG => same_fn (fromD d (spanD d').1).1 (fromD d' (spanD d').1).1 af12 af15 cf12 cf15 G (hF12.mono hle) (hF15.mono hle))) rfl (decide_eq_true (by rw [hsp2, hfr])) ?_
    refine .v (.pkT rfl rfl) rfl ?_
    refine .v (.mv rfl) rfl ?_
    refine .g rfl rfl rfl ?_
    refine .cf rfl rfl (Try.call8 _) (awake_fn _) rfl ?_
    rintro _ G16 le17 rfl
    replace hS := hS.mono le17
    replace hS4 := hS4.mono le17
    replace hS8 := hS8.mono le17
    replace hF12 := hF12.mono le17
    replace hF15 := hF15.mono le17
    replace hF := hF.trans le17
    refine .v (.pkT rfl rfl) rfl ?_
    refine .v (.asn rfl) rfl ?_
    refine .nil ?_
    refine .then ?_
    refine .ret ?_
    exact .done _ [] (.t1 rfl rfl) hF ⟨rfl, rfl⟩ (Inn.keep (.there (.there .here)))
  · skip
    refine .v (.not rfl) rfl ?_
    refine .v (.mv rfl) rfl ?_
    refine .gs rfl rfl rfl rfl ?_
    refine .gs rfl rfl rfl rfl ?_
    refine .v (.pkT rfl rfl) rfl ?_
    refine .nil ?_
    refine .then ?_
    refine .condT rfl ?_
    refine .seq ?_
    refine .region ?_
    refine .cf rfl rfl (Try.call8 _) (awake_fn _) rfl ?_
    rintro _ G19 le20 rfl
    replace hS := hS.mono le20
    replace hS4 := hS4.mono le20
    replace hF := hF.trans le20
    refine .v (.asn rfl) rfl ?_
    refine .nil ?_
    refine .then ?_
    refine .ret ?_
    refine .then_ret ?_
    exact .done _ [] (.t1 rfl rfl) hF ⟨rfl, rfl⟩ (Inn.keep (.there .here))
theorem walCuts_fn (d : Dk) (a : Option Addr) (c : Nat) (F : Mem) (hS : Sl F encF 3 a c d.files) (hn : d.files.length * 40 ≤ 140737488355328) (below : Int) : Fn Try.prog 5 #[dval a c d, .int .i64 below] [] F (fun v M G => M = [] ∧ v = .bool true) := by
  cases ha : d.armed with
  | true => exact walCuts_armed d a c F hS hn below ha
  | false =>
    by_cases hE : logE d = 0
    · exact walCuts_ok d a c F hS hn below ha hE
    · exact walCuts_bad d a c F hS hn below ha hE
theorem walRolls_fn (l : List ByteArray) (a : Option Addr) (c : Nat) (F : Mem) (hS : Sl F encS 1 a c l) : Fn Try.prog 4 #[.slice a l.length c] [] F (fun v M G => M = [] ∧ v = .bool true) := by
  have hm := hS.len
  refine Fn.start0 Try.func4 rfl Try.ntmps4 rfl (env := [(0, _)]) rfl ?_
  intro R
  refine .seq ?_
  refine .region ?_
  refine .v (.asn rfl) rfl ?_
  refine .nil ?_
  refine .then ?_
  refine .seq ?_
  refine .seq ?_
  refine .region ?_
  refine .v (.mv rfl) rfl ?_
  refine .vb (.call rfl rfl (Try.call15 _) (fun G hle hG => small4_fn l a c G (hS.mono hle) 60 4096 (by omega))) rfl (fun h15_1 => ?_) (fun h15_1 => ?_)
  · skip
    have hsm := h15_1
    simp only [small4, Bool.and_eq_true, decide_eq_true_eq] at hsm
    refine .v (.not rfl) rfl ?_
    refine .nil ?_
    refine .then ?_
    refine .condF rfl ?_
    refine .skip ?_
    refine .then ?_
    refine .seq ?_
    refine .region ?_
    refine .v (.build rfl (fun w => bd24_ w)) rfl ?_
    refine .nb (.alloc ty24 rfl) rfl (fun b2 => ?_)
    refine .st (.stw ty24 rfl rfl rfl rfl rfl .here) ?_
    refine .nil ?_
    refine .then ?_
    refine .seq ?_
    refine .seq ?_
    refine .region ?_
    refine .v (.mv rfl) rfl ?_
    refine .v (.lenl Try.underlying34 rfl) rfl ?_
    refine .v (.mv rfl) rfl ?_
    refine .nil ?_
    refine .then ?_
    refine .block ?_
    have hF : Le F F := .rfl
    refine WC.loopx (fx := [(0, _), (3, _), (19, _), (20, _)]) (pre := [_]) (fm := [_]) rfl (.cons rfl rfl (.cons rfl rfl (.cons rfl rfl (.cons rfl rfl .nil)))) (ι := Nat × List (List ByteArray) × Option Addr × Nat × Mem) (fun z => z.1 ≤ l.length ∧ GoodS z.2.1 ∧ z.2.1.flatten = l.take z.1 ∧ tot (mkF 1 z.2.1) = totS (l.take z.1) + 9 * z.1 ∧ Sl z.2.2.2.2 encF 3 z.2.2.1 z.2.2.2.1 (cdisk z.2.1).files ∧ Le F z.2.2.2.2) (fun z => l.length - z.1) (fun z => [(21, .int .i64 z.1)]) (fun z => [[⟨b2, 24, [.slice z.2.2.1 (cdisk z.2.1).files.length z.2.2.2.1, .int .i64 0, .bool false, .bool false]⟩]]) (fun z => z.2.2.2.2) (0, [], none, 0, F) ⟨Nat.zero_le _, (fun x hx => by cases hx), rfl, rfl, .nil, .rfl⟩ ?he ?hm ?round
    case he => exact .cons rfl rfl (.cons rfl rfl (.cons rfl rfl (.cons rfl rfl (.cons rfl rfl .nil))))
    case hm => exact (fun _ h => h)
    case round =>
      intro z hk
      obtain ⟨k, s, a1, c1, G0⟩ := z
      obtain ⟨hk, hg, hfl, htt, hSd, hG01⟩ := hk
      dsimp only at hk hg hfl htt hSd hG01 ⊢
      have hflen : s.flatten.length = k := by rw [hfl, take_len hk]
      replace hS := hS.mono hG01
      replace hF := hF.trans hG01
      dsimp only [List.cons_append, List.nil_append]
      refine .seq ?_
      refine .region ?_
      refine .vs (.lt rfl rfl) rfl (fun h22_3 => ?_) (fun h22_3 => ?_)
      · skip
        obtain ⟨x, hx⟩ : ∃ y, l[k]? = some y := ⟨_, List.getElem?_eq_getElem (by omega)⟩
        have htx := totS_take hx
        have htl := totS_le hx
        refine .nil ?_
        refine .then ?_
        refine .seq ?_
        refine .condT rfl ?_
        refine .skip ?_
        refine .then ?_
        refine .seq ?_
        refine .block ?_
        refine .seq ?_
        refine .region ?_
        refine .v (.mv rfl) rfl ?_
        refine .ix sl34 rfl rfl hS rfl x ⟨by omega, hx⟩ (fun p4 o5 r6 => ?_)
        refine .v (.ldr0 ty9 rfl r6 rfl) rfl ?_
        refine .v (.asn rfl) rfl ?_
        refine .v (.asn rfl) rfl ?_
        refine .nil ?_
        refine .then ?_
        refine .seq ?_
        refine .region ?_
        refine .v (.ldw ty24 rfl .here rfl) rfl ?_
        refine .v (.mv rfl) rfl ?_
        obtain ⟨s2, hput, hg2, hf2, ht2⟩ := put_chain (b := x) hg (by omega) (by omega) (by omega)
        have hrt := cdisk_right hg (by omega) (by omega)
        refine .cf rfl rfl (Try.call16 _) (wput_fn (cdisk s) a1 c1 _ hSd (right_tot hrt) (right_hn hrt) x (by omega)) rfl ?_
        rw [hput]
        rintro _ G7 le8 ⟨a2, c2, rfl, hS2⟩
        replace hS := hS.mono le8
        replace hSd := hSd.mono le8
        replace hG01 := hG01.mono le8
        replace hF := hF.trans le8
        refine .v (.mv rfl) rfl ?_
        refine .v (.ext rfl rfl) rfl ?_
        refine .v (.ext rfl rfl) rfl ?_
        refine .v (.ext rfl rfl) rfl ?_
        refine .nb (.alloc ty24 rfl) rfl (fun b10 => ?_)
        refine .st (.stw ty24 rfl rfl rfl rfl rfl .here) ?_
        refine .v (.asn rfl) rfl ?_
        refine .v (.asn rfl) rfl ?_
        refine .nil ?_
        refine .then ?_
        refine .seq ?_
        refine .seq ?_
        refine .region ?_
        refine .v (.mv rfl) rfl ?_
        refine .vF (.ne rfl rfl) rfl (fun h => h rfl) ?_
        refine .v (.mv rfl) rfl ?_
        refine .g rfl rfl rfl ?_
        refine .v (.mv rfl) rfl ?_
        refine .g rfl rfl rfl ?_
        refine .v (.mv rfl) rfl ?_
        refine .g rfl rfl rfl ?_
        refine .v (.add rfl rfl (by omega)) rfl ?_
        refine .g rfl rfl rfl ?_
        refine .vF (.ne rfl rfl) rfl (by (try dsimp only); omega) ?_
        refine .v (.pkF rfl rfl) rfl ?_
        refine .nil ?_
        refine .then ?_
        refine .condF rfl ?_
        refine .skip ?_
        refine .then ?_
        refine .region ?_
        refine .v (.ldw ty24 rfl .here rfl) rfl ?_
        refine .st (.stw ty24 rfl rfl rfl rfl rfl (.there .here)) ?_
        refine .nil ?_
        refine .blk ?_
        refine .then ?_
        refine .region ?_
        refine .v (.add rfl rfl (by omega)) rfl ?_
        refine .v (.mv rfl) rfl ?_
        refine .nil ?_
        exact .again (k + 1, s2, a2, c2, G7) ⟨by (try dsimp only); omega, hg2, by rw [hf2, hfl, take_snoc hx], by (try dsimp only); rw [ht2, htx]; omega, hS2, hG01⟩ (by dsimp only; omega) (.cons rfl rfl (.cons rfl rfl (.cons rfl rfl (.cons rfl rfl (.cons rfl rfl .nil))))) (subl (.cons _ (.cons_cons _ (.cons_cons _ .slnil))))
      · skip
        obtain rfl : k = l.length := by omega
        rw [List.take_length] at hfl htt
        obtain ⟨hfr1, d', A, hcut, hE2, hsp, hA1, hA2, hA3, hfr2⟩ := rolls_law hg hfl (by omega) (by omega)
        have hrt := cdisk_right hg (by omega) (by omega)
        have hrt2 := (logE_zero hE2).1
        refine .nil ?_
        refine .then ?_
        refine .seq ?_
        refine .condF rfl ?_
        refine .exit ?_
        refine .then_exit ?_
        refine .then_exit ?_
        refine .blk_exit ?_
        refine .then ?_
        refine .seq ?_
        refine .region ?_
        refine .v (.ldw ty24 rfl .here rfl) rfl ?_
        refine .cf rfl rfl (Try.call10 _) (from_fn (cdisk s) a1 c1 _ hSd (right_tot hrt) (right_hn hrt) 1) rfl ?_
        rw [hfr1]
        rintro _ G11 le12 ⟨a13, c13, rfl, hF13⟩
        replace hS := hS.mono le12
        replace hSd := hSd.mono le12
        replace hG01 := hG01.mono le12
        replace hF := hF.trans le12
        refine .v (.mv rfl) rfl ?_
        refine .v (.ext rfl rfl) rfl ?_
        refine .v (.ext rfl rfl) rfl ?_
        refine .v (.asn rfl) rfl ?_
        refine .v (.asn rfl) rfl ?_
        refine .nil ?_
        refine .then ?_
        refine .seq ?_
        refine .seq ?_
        refine .region ?_
        refine .v (.mv rfl) rfl ?_
        refine .v (.mv rfl) rfl ?_
        refine .bT (.call rfl rfl (Try.call12 _) (fun G hle hG => same_fn l l a13 a c13 c G (hF13.mono hle) (hS.mono hle))) rfl (decide_eq_true rfl) ?_
        refine .v (.not rfl) rfl ?_
        refine .v (.mv rfl) rfl ?_
        refine .g rfl rfl rfl ?_
        refine .v (.mv rfl) rfl ?_
        refine .g rfl rfl rfl ?_
        refine .vF (.ne rfl rfl) rfl (fun h => h rfl) ?_
        refine .v (.pkF rfl rfl) rfl ?_
        refine .nil ?_
        refine .then ?_
        refine .condF rfl ?_
        refine .skip ?_
        refine .then ?_
        refine .seq ?_
        refine .region ?_
        refine .v (.ldw ty24 rfl .here rfl) rfl ?_
        refine .v (.mv rfl) rfl ?_
        refine .v (.lenl Try.underlying34 rfl) rfl ?_
        refine .v (.add rfl rfl (by omega)) rfl ?_
        refine .cf rfl rfl (Try.call17 _) (cut_fn (cdisk s) a1 c1 _ hSd (right_tot hrt) (right_hn hrt) ((l.length : Int) + 1)) rfl ?_
        rw [hcut]
        rintro _ G14 le15 ⟨a16, c16, rfl, hS16⟩
        replace hS := hS.mono le15
        replace hSd := hSd.mono le15
        replace hG01 := hG01.mono le15
        replace hF13 := hF13.mono le15
        replace hF := hF.trans le15
        refine .v (.mv rfl) rfl ?_
        refine .v (.ext rfl rfl) rfl ?_
        refine .v (.ext rfl rfl) rfl ?_
        refine .st (.stw ty24 rfl rfl rfl rfl rfl .here) ?_
        refine .v (.asn rfl) rfl ?_
        refine .nil ?_
        refine .then ?_
        refine .seq ?_
        refine .region ?_
        refine .v (.ldw ty24 rfl .here rfl) rfl ?_
        refine .v (.call rfl rfl (Try.call9 _) (fun G hle hG => hsp ▸ span_fn d' a16 c16 G (hS16.mono hle) (right_tot hrt2) (right_hn hrt2))) rfl ?_
        refine .v (.mv rfl) rfl ?_
        refine .v (.ext rfl rfl) rfl ?_
        refine .v (.ext rfl rfl) rfl ?_
        refine .v (.ext rfl rfl) rfl ?_
        refine .v (.asn rfl) rfl ?_
        refine .v (.asn rfl) rfl ?_
        refine .v (.asn rfl) rfl ?_
        refine .nil ?_
        refine .then ?_
        refine .seq ?_
        refine .seq ?_
        refine .region ?_
        refine .v (.mv rfl) rfl ?_
        refine .vF (.ne rfl rfl) rfl (fun h => h rfl) ?_
        refine .v (.mv rfl) rfl ?_
        refine .g rfl rfl rfl ?_
        refine .v (.mv rfl) rfl ?_
        refine .g rfl rfl rfl ?_
        refine .vF (.ne rfl rfl) rfl (fun h => h rfl) ?_
        refine .v (.pkF rfl rfl) rfl ?_
        refine .v (.mv rfl) rfl ?_
        refine .g rfl rfl rfl ?_
        refine .v (.mv rfl) rfl ?_
        refine .g rfl rfl rfl ?_
        refine .v (.mv rfl) rfl ?_
        refine .g rfl rfl rfl ?_
        refine .v (.lenl Try.underlying34 rfl) rfl ?_
        refine .g rfl rfl rfl ?_
        refine .v (.add rfl rfl (by omega)) rfl ?_
        refine .g rfl rfl rfl ?_
        refine .vF (.ne rfl rfl) rfl (fun h => h rfl) ?_
        refine .v (.pkF rfl rfl) rfl ?_
        refine .v (.mv rfl) rfl ?_
        refine .g rfl rfl rfl ?_
        refine .v (.mv rfl) rfl ?_
        refine .g rfl rfl rfl ?_
        refine .v (.lenl Try.underlying34 rfl) rfl ?_
        refine .g rfl rfl rfl ?_
        refine .vs (.gt rfl rfl) rfl (fun h86_17 => ?_) (fun h86_17 => ?_)
        · skip
          refine .g rfl rfl rfl ?_
          refine .v (.mv rfl) rfl ?_
          refine .g rfl rfl rfl ?_
          refine .v (.mv rfl) rfl ?_
          refine .g rfl rfl rfl ?_
          refine .v (.mv rfl) rfl ?_
          refine .g rfl rfl rfl ?_
          refine .vF (.ge rfl rfl) rfl (by (try dsimp only); omega) ?_
          refine .g rfl rfl rfl ?_
          refine .v (.pkT rfl rfl) rfl ?_
          refine .v (.pkF rfl rfl) rfl ?_
          refine .nil ?_
          refine .then ?_
          refine .condF rfl ?_
          refine .skip ?_
          refine .then ?_
          refine .seq ?_
          refine .region ?_
          refine .v (.ldw ty24 rfl .here rfl) rfl ?_
          refine .v (.mv rfl) rfl ?_
          refine .cf rfl rfl (Try.call10 _) (from_fn d' a16 c16 _ hS16 (right_tot hrt2) (right_hn hrt2) A) rfl ?_
          rw [hfr2]
          rintro _ G18 le19 ⟨a20, c20, rfl, hF20⟩
          replace hS := hS.mono le19
          replace hSd := hSd.mono le19
          replace hG01 := hG01.mono le19
          replace hF13 := hF13.mono le19
          replace hS16 := hS16.mono le19
          replace hF := hF.trans le19
          refine .v (.mv rfl) rfl ?_
          refine .v (.ext rfl rfl) rfl ?_
          refine .v (.ext rfl rfl) rfl ?_
          refine .v (.asn rfl) rfl ?_
          refine .v (.asn rfl) rfl ?_
          refine .nil ?_
          refine .then ?_
          refine .seq ?_
          refine .region ?_
          refine .v (.mv rfl) rfl ?_
          refine .vT (.eq rfl rfl) rfl rfl ?_
          refine .v (.mv rfl) rfl ?_
          refine .g rfl rfl rfl ?_
          refine .v (.mv rfl) rfl ?_
          refine .g rfl rfl rfl ?_
          refine .v (.mv rfl) rfl ?_
          refine .g rfl rfl rfl ?_
          refine .v (.mv rfl) rfl ?_
          refine .g rfl rfl rfl ?_
          refine .v (.sub rfl rfl (by omega)) rfl ?_
          refine .g rfl rfl rfl ?_
          refine .v (.slFrom sl34 rfl rfl ⟨by omega, by omega⟩) rfl ?_
          refine .g rfl rfl rfl ?_
          refine .bT (.call rfl rfl (Try.call12 _) (fun G hle hG => same_fn' (l.drop (A - 1).toNat) (l.drop (A - 1).toNat) a20 _ c20 _ _ _ G rfl (by rw [List.length_drop]) (hF20.mono hle) ((hS.drop (i := (A - 1).toNat) (by omega)).mono hle))) rfl (decide_eq_true rfl) ?_
          refine .v (.pkT rfl rfl) rfl ?_
          refine .v (.mv rfl) rfl ?_
          refine .g rfl rfl rfl ?_
          refine .cf rfl rfl (Try.call8 _) (awake_fn _) rfl ?_
          rintro _ G21 le22 rfl
          replace hS := hS.mono le22
          replace hSd := hSd.mono le22
          replace hG01 := hG01.mono le22
          replace hF13 := hF13.mono le22
          replace hS16 := hS16.mono le22
          replace hF20 := hF20.mono le22
          replace hF := hF.trans le22
          refine .v (.pkT rfl rfl) rfl ?_
          refine .v (.asn rfl) rfl ?_
          refine .nil ?_
          refine .then ?_
          refine .ret ?_
          exact .done _ [] (.t1 rfl rfl) hF ⟨rfl, rfl⟩ (Inn.keep (.there .here))
        · skip
          refine .g rfl rfl rfl ?_
          refine .v (.mv rfl) rfl ?_
          refine .gs rfl rfl rfl rfl ?_
          refine .gs rfl rfl rfl rfl ?_
          refine .gs rfl rfl rfl rfl ?_
          refine .g rfl rfl rfl ?_
          refine .v (.pkF rfl rfl) rfl ?_
          refine .v (.pkF rfl rfl) rfl ?_
          refine .nil ?_
          refine .then ?_
          refine .condF rfl ?_
          refine .skip ?_
          refine .then ?_
          refine .seq ?_
          refine .region ?_
          refine .v (.ldw ty24 rfl .here rfl) rfl ?_
          refine .v (.mv rfl) rfl ?_
          refine .cf rfl rfl (Try.call10 _) (from_fn d' a16 c16 _ hS16 (right_tot hrt2) (right_hn hrt2) A) rfl ?_
          rw [hfr2]
          rintro _ G24 le25 ⟨a26, c26, rfl, hF26⟩
          replace hS := hS.mono le25
          replace hSd := hSd.mono le25
          replace hG01 := hG01.mono le25
          replace hF13 := hF13.mono le25
          replace hS16 := hS16.mono le25
          replace hF := hF.trans le25
          refine .v (.mv rfl) rfl ?_
          refine .v (.ext rfl rfl) rfl ?_
          refine .v (.ext rfl rfl) rfl ?_
          refine .v (.asn rfl) rfl ?_
          refine .v (.asn rfl) rfl ?_
          refine .nil ?_
          refine .then ?_
          refine .seq ?_
          refine .region ?_
          refine .v (.mv rfl) rfl ?_
          refine .vT (.eq rfl rfl) rfl rfl ?_
          refine .v (.mv rfl) rfl ?_
          refine .g rfl rfl rfl ?_
          refine .v (.mv rfl) rfl ?_
          refine .g rfl rfl rfl ?_
          refine .v (.mv rfl) rfl ?_
          refine .g rfl rfl rfl ?_
          refine .v (.mv rfl) rfl ?_
          refine .g rfl rfl rfl ?_
          refine .v (.sub rfl rfl (by omega)) rfl ?_
          refine .g rfl rfl rfl ?_
          refine .v (.slFrom sl34 rfl rfl ⟨by omega, by omega⟩) rfl ?_
          refine .g rfl rfl rfl ?_
          refine .bT (.call rfl rfl (Try.call12 _) (fun G hle hG => same_fn' (l.drop (A - 1).toNat) (l.drop (A - 1).toNat) a26 _ c26 _ _ _ G rfl (by rw [List.length_drop]) (hF26.mono hle) ((hS.drop (i := (A - 1).toNat) (by omega)).mono hle))) rfl (decide_eq_true rfl) ?_
          refine .v (.pkT rfl rfl) rfl ?_
          refine .v (.mv rfl) rfl ?_
          refine .g rfl rfl rfl ?_
          refine .cf rfl rfl (Try.call8 _) (awake_fn _) rfl ?_
          rintro _ G27 le28 rfl
          replace hS := hS.mono le28
          replace hSd := hSd.mono le28
          replace hG01 := hG01.mono le28
          replace hF13 := hF13.mono le28
          replace hS16 := hS16.mono le28
          replace hF26 := hF26.mono le28
          replace hF := hF.trans le28
          refine .v (.pkT rfl rfl) rfl ?_
          refine .v (.asn rfl) rfl ?_
          refine .nil ?_
          refine .then ?_
          refine .ret ?_
          exact .done _ [] (.t1 rfl rfl) hF ⟨rfl, rfl⟩ (Inn.keep (.there .here))
  · skip
    refine .v (.not rfl) rfl ?_
    refine .nil ?_
    refine .then ?_
    refine .condT rfl ?_
    refine .seq ?_
    refine .region ?_
    refine .cf rfl rfl (Try.call8 _) (awake_fn _) rfl ?_
    rintro _ G30 le31 rfl
    replace hS := hS.mono le31
    have hF := le31
    refine .v (.asn rfl) rfl ?_
    refine .nil ?_
    refine .then ?_
    refine .ret ?_
    refine .then_ret ?_
    exact .done _ [] (.t1 rfl rfl) hF ⟨rfl, rfl⟩ (Inn.keep .here)
end Go.Proofs.Ytggkhcdilbdifaa.Ow
