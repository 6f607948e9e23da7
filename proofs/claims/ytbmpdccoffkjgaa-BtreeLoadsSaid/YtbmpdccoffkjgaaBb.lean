/- Walks. -/
import Derived.Test.YtbmpdccoffkjgaaBa
namespace Go.Proofs.Ytbmpdccoffkjgaa.Ow
open Go
set_option linter.unusedVariables false
theorem cmpstr_fn (x y : ByteArray) (F : Mem) : Fn Try.prog 55 #[.string x, .string y] [] F (fun u _ _ => u = .int .i64 (cmpK x y)) := by
  refine Fn.start0 Try.func55 rfl Try.ntmps55 rfl (env := [(0, _), (1, _)]) rfl ?_
  intro R
  refine .seq ?_
  refine .region ?_
  refine .v (.asn rfl) rfl ?_
  refine .nil ?_
  refine .then ?_
  refine .seq ?_
  refine .region ?_
  refine .v (.mv rfl) rfl ?_
  refine .v (.mv rfl) rfl ?_
  refine .v (.own rfl rfl (fun w R ho => run_cmpstr Try.func61 (by kernel_rfl) (by kernel_rfl) (by kernel_rfl) (by kernel_rfl) w x y)) rfl ?_
  refine .v (.asn rfl) rfl ?_
  refine .nil ?_
  refine .then ?_
  refine .ret ?_
  exact .done _ [] (.t1 rfl rfl) .rfl rfl (Inn.keep .here)
theorem compare_fn (x y : ByteArray) (F : Mem) : Fn Try.prog 46 #[.string x, .string y] [] F (fun u _ _ => u = .int .i64 (cmpK x y)) := by
  refine Fn.start0 Try.func46 rfl Try.ntmps46 rfl (env := [(0, _), (1, _)]) rfl ?_
  intro R
  refine .seq ?_
  refine .region ?_
  refine .v (.asn rfl) rfl ?_
  refine .nil ?_
  refine .then ?_
  refine .seq ?_
  refine .region ?_
  refine .v (.mv rfl) rfl ?_
  refine .v (.mv rfl) rfl ?_
  refine .v (.call rfl rfl (Try.call55 _) (fun G hle hG => cmpstr_fn x y G)) rfl ?_
  refine .v (.asn rfl) rfl ?_
  refine .nil ?_
  refine .then ?_
  refine .ret ?_
  exact .done _ [] (.t1 rfl rfl) .rfl rfl (Inn.keep .here)
theorem fcmp_fn (p : Pr) (y : ByteArray) (F : Mem) : Fn Try.prog 45 #[.agg #[.string p.key, .string p.val], .string y] [] F (fun u _ _ => u = .int .i64 (cmpK p.key y)) := by
  refine Fn.start0 Try.func45 rfl Try.ntmps45 rfl (env := [(0, _), (1, _)]) rfl ?_
  intro R
  refine .seq ?_
  refine .region ?_
  refine .nb (.box rfl rfl) rfl (fun b1 => ?_)
  refine .v (.asn rfl) rfl ?_
  refine .nil ?_
  refine .then ?_
  refine .seq ?_
  refine .region ?_
  refine .v (.fa0 fl47_0 rfl) rfl ?_
  refine .v (.ldb ty9 rfl .here rfl) rfl ?_
  refine .v (.mv rfl) rfl ?_
  refine .v (.call rfl rfl (Try.call46 _) (fun G hle hG => compare_fn p.key y G)) rfl ?_
  refine .v (.asn rfl) rfl ?_
  refine .nil ?_
  refine .then ?_
  refine .ret ?_
  exact .done _ [] (.t1 rfl rfl) .rfl rfl (Inn.keep (.there .here))
theorem bs_fn (xs : List Pr) (a : Option Addr) (c : Nat) (F : Mem) (hS : Sl F encP 2 a c xs) (hs : Srt xs) (k : ByteArray) (hlen : xs.length ≤ 4611686018427387904) : Fn Try.prog 44 #[.slice a xs.length c, .string k, .func (.func 45) #[] #[]] [] F (fun u _ _ => u = .tuple #[.int .i64 (posK xs k), .bool (hasK xs k)]) := by
  have hm := hS.len
  refine Fn.start0 Try.func44 rfl Try.ntmps44 rfl (env := [(0, _), (1, _), (2, _)]) rfl ?_
  intro R
  refine .seq ?_
  refine .region ?_
  refine .v (.asn rfl) rfl ?_
  refine .v (.asn rfl) rfl ?_
  refine .nil ?_
  refine .then ?_
  refine .seq ?_
  refine .region ?_
  refine .v (.mv rfl) rfl ?_
  refine .v (.lenl Try.underlying22 rfl) rfl ?_
  refine .v (.asn rfl) rfl ?_
  refine .nil ?_
  refine .then ?_
  refine .seq ?_
  refine .region ?_
  refine .v (.mv rfl) rfl ?_
  refine .v (.asn rfl) rfl ?_
  refine .v (.asn rfl) rfl ?_
  refine .nil ?_
  refine .then ?_
  refine .seq ?_
  refine .block ?_
  refine WC.loop0 (fx := [(0, _), (1, _), (2, _), (6, _), (7, _), (8, _)]) (.cons rfl rfl (.cons rfl rfl (.cons rfl rfl (.cons rfl rfl (.cons rfl rfl (.cons rfl rfl .nil)))))) (ι := Nat × Nat) (fun z => z.1 ≤ z.2 ∧ z.2 ≤ xs.length ∧ (∀ p f, p < z.1 → xs[p]? = some f → slt f.key k = true) ∧ (∀ p f, z.2 ≤ p → xs[p]? = some f → slt f.key k = false)) (fun z => z.2 - z.1) (fun z => [(9, .int .i64 z.1), (10, .int .i64 z.2)]) (0, xs.length) ⟨by omega, Nat.le_refl _, fun p f h => by omega, fun p f h hp => by have := (List.getElem?_eq_some_iff.1 hp).1; omega⟩ ?he ?round
  case he => exact .cons rfl rfl (.cons rfl rfl (.cons rfl rfl (.cons rfl rfl (.cons rfl rfl (.cons rfl rfl (.cons rfl rfl (.cons rfl rfl .nil)))))))
  case round =>
    intro z hk
    obtain ⟨i, j⟩ := z
    obtain ⟨hk, hk0, hk1, hk2⟩ := hk
    dsimp only at hk hk0 hk1 hk2 ⊢
    refine .seq ?_
    refine .seq ?_
    refine .region ?_
    refine .v (.mv rfl) rfl ?_
    refine .v (.mv rfl) rfl ?_
    refine .vs (.lt rfl rfl) rfl (fun h17_1 => ?_) (fun h17_1 => ?_)
    · skip
      refine .nil ?_
      refine .then ?_
      refine .condT rfl ?_
      refine .skip ?_
      refine .then ?_
      refine .block ?_
      refine .seq ?_
      refine .region ?_
      refine .v (.mv rfl) rfl ?_
      refine .v (.mv rfl) rfl ?_
      refine .v (.add rfl rfl (by omega)) rfl ?_
      refine .v (.cvti rfl Try.underlying3 Try.underlying40 (wrapu_in (by omega) (by omega))) rfl ?_
      refine .v (.shr1 rfl rfl) rfl ?_
      refine .v (.cvti rfl Try.underlying40 Try.underlying3 (wrap_in (by omega) (by omega))) rfl ?_
      obtain ⟨h, hh⟩ : ∃ h : Nat, h = (i + j) / 2 := ⟨_, rfl⟩
      refine .kn (t := 23) (v := .int .i64 (h : Nat)) rfl (congrArg (Value.int .i64) (by omega)) ?_
      refine .v (.asn rfl) rfl ?_
      refine .nil ?_
      refine .then ?_
      refine .seq ?_
      refine .region ?_
      refine .v (.mv rfl) rfl ?_
      refine .v (.mv rfl) rfl ?_
      refine .v (.mv rfl) rfl ?_
      obtain ⟨x, hx⟩ : ∃ y, xs[h]? = some y := ⟨_, List.getElem?_eq_getElem (by omega)⟩
      have hc0 := cmpK_lt (x := x.key) (y := k)
      have hc1 := cmpK_zero (x := x.key) (y := k)
      refine .ix sl22 rfl rfl hS rfl x ⟨by omega, hx⟩ (fun p2 o3 r4 => ?_)
      refine .v (.ldrw ty47 rfl r4 rfl) rfl ?_
      refine .v (.mv rfl) rfl ?_
      refine .v (.call rfl rfl (Try.call45 _) (fun G hle hG => fcmp_fn x k G)) rfl ?_
      refine .vs (.lt rfl rfl) rfl (fun h31_5 => ?_) (fun h31_5 => ?_)
      · skip
        have hlt : slt x.key k = true := hc0.1 h31_5
        refine .nil ?_
        refine .then ?_
        refine .condT rfl ?_
        refine .region ?_
        refine .v (.mv rfl) rfl ?_
        refine .v (.add rfl rfl (by omega)) rfl ?_
        refine .v (.asn rfl) rfl ?_
        refine .nil ?_
        refine .blk ?_
        exact .again (h + 1, j) ⟨by (try dsimp only); omega, by (try dsimp only); omega, fun p f hp hf => (if e : p = h then by rw [e, hx] at hf; injection hf with hf; subst hf; exact hlt else slt_trans (hs.lt (show p < h by (try dsimp only at hp); omega) hf hx) hlt), hk2⟩ (by omega) (.cons rfl rfl (.cons rfl rfl (.cons rfl rfl (.cons rfl rfl (.cons rfl rfl (.cons rfl rfl (.cons rfl rfl (.cons rfl rfl .nil)))))))) (subl (.refl _))
      · skip
        have hlt : slt x.key k = false := Bool.eq_false_iff.2 fun e => h31_5 (hc0.2 e)
        refine .nil ?_
        refine .then ?_
        refine .condF rfl ?_
        refine .region ?_
        refine .v (.mv rfl) rfl ?_
        refine .v (.asn rfl) rfl ?_
        refine .nil ?_
        refine .blk ?_
        exact .again (i, h) ⟨by (try dsimp only); omega, by (try dsimp only); omega, hk1, fun p f hp hf => (if e : p = h then by rw [e, hx] at hf; injection hf with hf; subst hf; exact hlt else by (have h1 := hs.lt (show h < p by (try dsimp only at hp); omega) hx hf); (cases h2 : slt f.key k with | false => rfl | true => (rw [slt_trans h1 h2] at hlt; cases hlt)))⟩ (by omega) (.cons rfl rfl (.cons rfl rfl (.cons rfl rfl (.cons rfl rfl (.cons rfl rfl (.cons rfl rfl (.cons rfl rfl (.cons rfl rfl .nil)))))))) (subl (.refl _))
    · skip
      refine .nil ?_
      refine .then ?_
      refine .condF rfl ?_
      refine .exit ?_
      refine .then_exit ?_
      refine .then_exit ?_
      refine .blk_exit ?_
      refine .then ?_
      refine .seq ?_
      refine .region ?_
      refine .v (.mv rfl) rfl ?_
      obtain rfl : i = j := by omega
      have hp := posK_of (l := xs) (k := k) (by omega) hk1 hk2
      refine .v (.mv rfl) rfl ?_
      refine .v (.mv rfl) rfl ?_
      refine .vs (.lt rfl rfl) rfl (fun h38_6 => ?_) (fun h38_6 => ?_)
      · skip
        refine .v (.mv rfl) rfl ?_
        refine .g rfl rfl rfl ?_
        refine .v (.mv rfl) rfl ?_
        refine .g rfl rfl rfl ?_
        refine .v (.mv rfl) rfl ?_
        refine .g rfl rfl rfl ?_
        refine .v (.mv rfl) rfl ?_
        refine .g rfl rfl rfl ?_
        obtain ⟨x, hx⟩ : ∃ y, xs[i]? = some y := ⟨_, List.getElem?_eq_getElem (by omega)⟩
        have hc0 := cmpK_lt (x := x.key) (y := k)
        have hc1 := cmpK_zero (x := x.key) (y := k)
        have ht := hasK_of hs hx hk1 (hk2 i x (by omega) hx)
        rw [show decide (x.key = k) = decide (cmpK x.key k = 0) from decide_eq_decide.2 hc1.symm] at ht
        refine .ix sl22 rfl rfl hS rfl x ⟨by omega, hx⟩ (fun p7 o8 r9 => ?_)
        refine .g rfl rfl rfl ?_
        refine .v (.ldrw ty47 rfl r9 rfl) rfl ?_
        refine .g rfl rfl rfl ?_
        refine .v (.mv rfl) rfl ?_
        refine .g rfl rfl rfl ?_
        refine .v (.call rfl rfl (Try.call45 _) (fun G hle hG => fcmp_fn x k G)) rfl ?_
        refine .g rfl rfl rfl ?_
        refine .vs (.eq rfl rfl) rfl (fun h47_10 => ?_) (fun h47_10 => ?_)
        · skip
          refine .v (.pkT rfl rfl) rfl ?_
          refine .v (.asn rfl) rfl ?_
          refine .v (.asn rfl) rfl ?_
          refine .nil ?_
          refine .then ?_
          refine .ret ?_
          exact .done _ [] (.t2 rfl rfl rfl) .rfl (by first | (rw [hp, ht, decide_eq_true (by omega)]) | (rw [hp, ht, decide_eq_false (by omega)]) | (rw [hp, ht])) (Inn.keep .here)
        · skip
          refine .v (.pkT rfl rfl) rfl ?_
          refine .v (.asn rfl) rfl ?_
          refine .v (.asn rfl) rfl ?_
          refine .nil ?_
          refine .then ?_
          refine .ret ?_
          exact .done _ [] (.t2 rfl rfl rfl) .rfl (by first | (rw [hp, ht, decide_eq_true (by omega)]) | (rw [hp, ht, decide_eq_false (by omega)]) | (rw [hp, ht])) (Inn.keep .here)
      · skip
        refine .v (.mv rfl) rfl ?_
        refine .gs rfl rfl rfl rfl ?_
        refine .gs rfl rfl rfl rfl ?_
        refine .gs rfl rfl rfl rfl ?_
        refine .gs rfl rfl rfl rfl ?_
        refine .gs rfl rfl rfl rfl ?_
        refine .gs rfl rfl rfl rfl ?_
        refine .gs rfl rfl rfl rfl ?_
        refine .gs rfl rfl rfl rfl ?_
        have ht : hasK xs k = false := hasK_none fun p f hpl hpf => hk1 p f (by omega) hpf
        refine .v (.pkF rfl rfl) rfl ?_
        refine .v (.asn rfl) rfl ?_
        refine .v (.asn rfl) rfl ?_
        refine .nil ?_
        refine .then ?_
        refine .ret ?_
        exact .done _ [] (.t2 rfl rfl rfl) .rfl (by first | (rw [hp, ht, decide_eq_true (by omega)]) | (rw [hp, ht, decide_eq_false (by omega)]) | (rw [hp, ht])) (Inn.keep .here)
theorem find_fn (xs : List Pr) (a : Option Addr) (c : Nat) (F : Mem) (hS : Sl F encP 2 a c xs) (hs : Srt xs) (k : ByteArray) (hlen : xs.length ≤ 4611686018427387904) (a2 : Option Addr) (n2 c2 : Nat) : Fn Try.prog 36 #[.agg #[.slice a xs.length c, .slice a2 n2 c2], .string k] [] F (fun u _ _ => u = .tuple #[.int .i64 (posK xs k), .bool (hasK xs k)]) := by
  refine Fn.start0 Try.func36 rfl Try.ntmps36 rfl (env := [(0, _), (1, _)]) rfl ?_
  intro R
  refine .seq ?_
  refine .region ?_
  refine .nb (.box rfl rfl) rfl (fun b1 => ?_)
  refine .v (.asn rfl) rfl ?_
  refine .v (.asn rfl) rfl ?_
  refine .nil ?_
  refine .then ?_
  refine .seq ?_
  refine .region ?_
  refine .v (.fa0 fl68_0 rfl) rfl ?_
  refine .v (.ldb ty22 rfl .here rfl) rfl ?_
  refine .v (.mv rfl) rfl ?_
  refine .v (.call rfl rfl (Try.call44 _) (fun G hle hG => bs_fn xs a c G (hS.mono hle) hs k hlen)) rfl ?_
  refine .v (.ext rfl rfl) rfl ?_
  refine .v (.ext rfl rfl) rfl ?_
  refine .v (.asn rfl) rfl ?_
  refine .v (.asn rfl) rfl ?_
  refine .nil ?_
  refine .then ?_
  refine .ret ?_
  exact .done _ [] (.t2 rfl rfl rfl) .rfl rfl (Inn.keep (.there .here))
theorem leaf_fn (a : Option Addr) (n c : Nat) (a2 : Option Addr) (n2 c2 : Nat) (F : Mem) : Fn Try.prog 37 #[.agg #[.slice a n c, .slice a2 n2 c2]] [] F (fun u _ _ => u = .bool (decide (n2 = 0))) := by
  refine Fn.start0 Try.func37 rfl Try.ntmps37 rfl (env := [(0, _)]) rfl ?_
  intro R
  refine .seq ?_
  refine .region ?_
  refine .nb (.box rfl rfl) rfl (fun b1 => ?_)
  refine .v (.asn rfl) rfl ?_
  refine .nil ?_
  refine .then ?_
  refine .seq ?_
  refine .region ?_
  refine .v (.fab fl68_1 rfl) rfl ?_
  refine .v (.ldb ty58 rfl .here rfl) rfl ?_
  refine .v (.lenl Try.underlying58 rfl) rfl ?_
  refine .vs (.eq rfl rfl) rfl (fun h6_2 => ?_) (fun h6_2 => ?_)
  · skip
    refine .v (.asn rfl) rfl ?_
    refine .nil ?_
    refine .then ?_
    refine .ret ?_
    exact .done _ [] (.t1 rfl rfl) .rfl (by rw [decide_eq_true (by omega)]) (Inn.keep (.there .here))
  · skip
    refine .v (.asn rfl) rfl ?_
    refine .nil ?_
    refine .then ?_
    refine .ret ?_
    exact .done _ [] (.t1 rfl rfl) .rfl (by rw [decide_eq_false (by omega)]) (Inn.keep (.there .here))
end Go.Proofs.Ytbmpdccoffkjgaa.Ow
