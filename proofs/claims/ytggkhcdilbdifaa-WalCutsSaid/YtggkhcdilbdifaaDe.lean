/- Walks. -/
import Derived.Test.YtggkhcdilbdifaaDc
namespace Go.Proofs.Ytggkhcdilbdifaa.Ow
open Go
set_option linter.unusedVariables false
theorem rsmall_fn (d : Dk) (a : Option Addr) (c : Nat) (F : Mem) (hS : Sl F encF 3 a c d.files) : Fn Try.prog 7 #[dval a c d] [] F (fun u _ _ => u = .bool (small d)) := by
  have hm := hS.len
  refine Fn.start0 Try.func7 rfl Try.ntmps7 rfl (env := [(0, _)]) rfl ?_
  intro R
  refine .seq ?_
  refine .region ?_
  refine .nb (.box rfl rfl) rfl (fun b1 => ?_)
  refine .v (.asn rfl) rfl ?_
  refine .nil ?_
  refine .then ?_
  refine .seq ?_
  refine .seq ?_
  refine .region ?_
  refine .v (.fa0 fl27_0 rfl) rfl ?_
  refine .v (.ldb ty25 rfl .here rfl) rfl ?_
  refine .v (.lenl Try.underlying25 rfl) rfl ?_
  refine .vs (.gt rfl rfl) rfl (fun h7_2 => ?_) (fun h7_2 => ?_)
  · skip
    refine .nil ?_
    refine .then ?_
    refine .condT rfl ?_
    refine .seq ?_
    refine .region ?_
    refine .v (.asn rfl) rfl ?_
    refine .nil ?_
    refine .then ?_
    refine .ret ?_
    refine .then_ret ?_
    exact .done _ [] (.t1 rfl rfl) .rfl (by simp [small]; omega) (Inn.keep (.there .here))
  · skip
    refine .nil ?_
    refine .then ?_
    refine .condF rfl ?_
    refine .skip ?_
    refine .then ?_
    refine .seq ?_
    refine .seq ?_
    refine .region ?_
    refine .v (.asn rfl) rfl ?_
    refine .nil ?_
    refine .then ?_
    refine .block ?_
    refine WC.loop0 (fx := [(1, _)]) (.cons rfl rfl .nil) (ι := Nat) (fun k => k ≤ d.files.length ∧ ∀ p g, p < k → d.files[p]? = some g → g.firm.size ≤ 4096 ∧ g.loose.size ≤ 4096) (fun k => d.files.length - k) (fun k => [(3, .int .i64 k)]) 0 ⟨by omega, fun p g h => absurd h (Nat.not_lt_zero _)⟩ ?he ?round
    case he => exact .cons rfl rfl (.cons rfl rfl .nil)
    case round =>
      intro k hk
      obtain ⟨hk, hk2⟩ := hk
      refine .seq ?_
      refine .seq ?_
      refine .region ?_
      refine .v (.mv rfl) rfl ?_
      refine .v (.fa0 fl27_0 rfl) rfl ?_
      refine .v (.ldb ty25 rfl .here rfl) rfl ?_
      refine .v (.lenl Try.underlying25 rfl) rfl ?_
      refine .vs (.lt rfl rfl) rfl (fun h12_3 => ?_) (fun h12_3 => ?_)
      · skip
        refine .nil ?_
        refine .then ?_
        refine .condT rfl ?_
        refine .skip ?_
        refine .then ?_
        refine .seq ?_
        refine .block ?_
        refine .seq ?_
        refine .region ?_
        refine .v (.fa0 fl27_0 rfl) rfl ?_
        refine .v (.ldb ty25 rfl .here rfl) rfl ?_
        refine .v (.mv rfl) rfl ?_
        obtain ⟨f, hf⟩ : ∃ y, d.files[k]? = some y := ⟨_, List.getElem?_eq_getElem (by omega)⟩
        refine .ix sl25 rfl rfl hS rfl f ⟨by omega, hf⟩ (fun p4 o5 r6 => ?_)
        refine .v (.fae fl51_1 rfl) rfl ?_
        refine .v (.ldr (j := 1) ty9 rfl r6 rfl) rfl ?_
        refine .v (.lens Try.underlying9 rfl) rfl ?_
        refine .vs (.gt rfl rfl) rfl (fun h22_7 => ?_) (fun h22_7 => ?_)
        · skip
          refine .v (.mv rfl) rfl ?_
          refine .gs rfl rfl rfl rfl ?_
          refine .gs rfl rfl rfl rfl ?_
          refine .gs rfl rfl rfl rfl ?_
          refine .gs rfl rfl rfl rfl ?_
          refine .gs rfl rfl rfl rfl ?_
          refine .gs rfl rfl rfl rfl ?_
          refine .gs rfl rfl rfl rfl ?_
          refine .gs rfl rfl rfl rfl ?_
          refine .v (.pkT rfl rfl) rfl ?_
          refine .nil ?_
          refine .then ?_
          refine .condT rfl ?_
          refine .seq ?_
          refine .region ?_
          refine .v (.asn rfl) rfl ?_
          refine .nil ?_
          refine .then ?_
          refine .ret ?_
          refine .blk_ret ?_
          refine .then_ret ?_
          refine .then_ret ?_
          refine .blk_ret ?_
          refine .then_ret ?_
          exact .done _ [] (.t1 rfl rfl) .rfl (by rw [small_no hf (by omega)]) (Inn.keep (.there .here))
        · skip
          refine .v (.mv rfl) rfl ?_
          refine .g rfl rfl rfl ?_
          refine .v (.fa0 fl27_0 rfl) rfl ?_
          refine .g rfl rfl rfl ?_
          refine .v (.ldb ty25 rfl .here rfl) rfl ?_
          refine .g rfl rfl rfl ?_
          refine .v (.mv rfl) rfl ?_
          refine .g rfl rfl rfl ?_
          refine .ix sl25 rfl rfl hS rfl f ⟨by omega, hf⟩ (fun p8 o9 r10 => ?_)
          refine .g rfl rfl rfl ?_
          refine .v (.fae fl51_2 rfl) rfl ?_
          refine .g rfl rfl rfl ?_
          refine .v (.ldr (j := 2) ty9 rfl r10 rfl) rfl ?_
          refine .g rfl rfl rfl ?_
          refine .v (.lens Try.underlying9 rfl) rfl ?_
          refine .g rfl rfl rfl ?_
          refine .vs (.gt rfl rfl) rfl (fun h31_11 => ?_) (fun h31_11 => ?_)
          · skip
            refine .v (.pkF rfl rfl) rfl ?_
            refine .nil ?_
            refine .then ?_
            refine .condT rfl ?_
            refine .seq ?_
            refine .region ?_
            refine .v (.asn rfl) rfl ?_
            refine .nil ?_
            refine .then ?_
            refine .ret ?_
            refine .blk_ret ?_
            refine .then_ret ?_
            refine .then_ret ?_
            refine .blk_ret ?_
            refine .then_ret ?_
            exact .done _ [] (.t1 rfl rfl) .rfl (by rw [small_no hf (by omega)]) (Inn.keep (.there .here))
          · skip
            refine .v (.pkF rfl rfl) rfl ?_
            refine .nil ?_
            refine .then ?_
            refine .condF rfl ?_
            refine .skip ?_
            refine .blk ?_
            refine .then ?_
            refine .region ?_
            refine .v (.mv rfl) rfl ?_
            refine .v (.add rfl rfl (by omega)) rfl ?_
            refine .v (.asn rfl) rfl ?_
            refine .nil ?_
            exact .again (k + 1) ⟨by omega, fun p g hp hg => if e : p = k then (by subst e; rw [hf] at hg; injection hg with hg; subst hg; omega) else hk2 p g (by omega) hg⟩ (by omega) (.cons rfl rfl (.cons rfl rfl .nil)) (subl (.refl _))
      · skip
        refine .nil ?_
        refine .then ?_
        refine .condF rfl ?_
        refine .exit ?_
        refine .then_exit ?_
        refine .then_exit ?_
        refine .blk_exit ?_
        refine .then ?_
        refine .seq ?_
        refine .region ?_
        refine .v (.asn rfl) rfl ?_
        refine .nil ?_
        refine .then ?_
        refine .ret ?_
        exact .done _ [] (.t1 rfl rfl) .rfl (by rw [small_yes (by omega) fun p g hp hg => hk2 p g (by omega) hg]) (Inn.keep (.there .here))
end Go.Proofs.Ytggkhcdilbdifaa.Ow
