/- Walks. -/
import Derived.Test.YtggkhcdilbdifaaDsp
import Derived.Test.YtggkhcdilbdifaaOwn10
import Derived.Test.YtggkhcdilbdifaaTys
namespace Go.Proofs.Ytggkhcdilbdifaa.Ow
open Go
set_option linter.unusedVariables false
theorem number_fn (n : Int) (F : Mem) : Fn Try.prog 42 #[.int .i64 n] [] F (fun u _ _ => u = .bool (number n)) := by
  refine Fn.start0 Try.func42 rfl Try.ntmps42 rfl (env := [(0, _)]) rfl ?_
  intro R
  refine .seq ?_
  refine .region ?_
  refine .v (.asn rfl) rfl ?_
  refine .nil ?_
  refine .then ?_
  refine .seq ?_
  refine .region ?_
  refine .v (.mv rfl) rfl ?_
  refine .vs (.ge rfl rfl) rfl (fun h4_1 => ?_) (fun h4_1 => ?_)
  · skip
    refine .v (.mv rfl) rfl ?_
    refine .g rfl rfl rfl ?_
    refine .v (.mv rfl) rfl ?_
    refine .g rfl rfl rfl ?_
    refine .vs (.le rfl rfl) rfl (fun h7_2 => ?_) (fun h7_2 => ?_)
    · skip
      refine .v (.pkT rfl rfl) rfl ?_
      refine .v (.asn rfl) rfl ?_
      refine .nil ?_
      refine .then ?_
      refine .ret ?_
      exact .done _ [] (.t1 rfl rfl) .rfl (by simp [number, *]) (Inn.keep .here)
    · skip
      refine .v (.pkT rfl rfl) rfl ?_
      refine .v (.asn rfl) rfl ?_
      refine .nil ?_
      refine .then ?_
      refine .ret ?_
      exact .done _ [] (.t1 rfl rfl) .rfl (by simp [number, *]) (Inn.keep .here)
  · skip
    refine .v (.mv rfl) rfl ?_
    refine .gs rfl rfl rfl rfl ?_
    refine .gs rfl rfl rfl rfl ?_
    refine .v (.pkF rfl rfl) rfl ?_
    refine .v (.asn rfl) rfl ?_
    refine .nil ?_
    refine .then ?_
    refine .ret ?_
    exact .done _ [] (.t1 rfl rfl) .rfl (by simp [number, *]) (Inn.keep .here)
theorem size_fn (d : Dk) (a : Option Addr) (c : Nat) (F : Mem) (hS : Sl F encF 3 a c d.files) (hb : tot d.files ≤ 4611686018427387904) : Fn Try.prog 40 #[dval a c d] [] F (fun u _ _ => u = .int .i64 (tot d.files)) := by
  have hm := hS.len
  refine Fn.start0 Try.func40 rfl Try.ntmps40 rfl (env := [(0, _)]) rfl ?_
  intro R
  refine .seq ?_
  refine .region ?_
  refine .nb (.box rfl rfl) rfl (fun b1 => ?_)
  refine .v (.asn rfl) rfl ?_
  refine .nil ?_
  refine .then ?_
  refine .seq ?_
  refine .region ?_
  refine .v (.asn rfl) rfl ?_
  refine .nil ?_
  refine .then ?_
  refine .seq ?_
  refine .seq ?_
  refine .region ?_
  refine .v (.fa0 fl24_0 rfl) rfl ?_
  refine .v (.ldb ty22 rfl .here rfl) rfl ?_
  refine .v (.lenl Try.underlying22 rfl) rfl ?_
  refine .v (.mv rfl) rfl ?_
  refine .nil ?_
  refine .then ?_
  refine .block ?_
  refine WC.loop0 (fx := [(2, _), (7, _), (8, _)]) (.cons rfl rfl (.cons rfl rfl (.cons rfl rfl .nil))) (ι := Nat) (fun k => k ≤ d.files.length) (fun k => d.files.length - k) (fun k => [(3, .int .i64 (tot (d.files.take k))), (9, .int .i64 k)]) 0 (by omega) ?he ?round
  case he => exact .cons rfl rfl (.cons rfl rfl (.cons rfl rfl (.cons rfl rfl (.cons rfl rfl .nil))))
  case round =>
    intro k hk
    refine .seq ?_
    refine .region ?_
    refine .vs (.lt rfl rfl) rfl (fun h10_2 => ?_) (fun h10_2 => ?_)
    · skip
      refine .nil ?_
      refine .then ?_
      refine .seq ?_
      refine .condT rfl ?_
      refine .skip ?_
      refine .then ?_
      refine .seq ?_
      refine .block ?_
      refine .seq ?_
      refine .region ?_
      obtain ⟨f, hf⟩ : ∃ y, d.files[k]? = some y := ⟨_, List.getElem?_eq_getElem (by omega)⟩
      have h1 := tot_le hf
      have h2 := tot_take hf
      refine .ix sl22 rfl rfl hS rfl f ⟨by omega, hf⟩ (fun p3 o4 r5 => ?_)
      refine .v (.ldrw ty50 rfl r5 rfl) rfl ?_
      refine .nb (.alloc ty50 rfl) rfl (fun b6 => ?_)
      refine .st (.stw ty50 rfl rfl rfl rfl rfl .here) ?_
      refine .nil ?_
      refine .then ?_
      refine .region ?_
      refine .v (.mv rfl) rfl ?_
      refine .v (.fab fl50_1 rfl) rfl ?_
      refine .v (.ldb ty9 rfl .here rfl) rfl ?_
      refine .v (.lens Try.underlying9 rfl) rfl ?_
      refine .v (.fab fl50_2 rfl) rfl ?_
      refine .v (.ldb ty9 rfl .here rfl) rfl ?_
      refine .v (.lens Try.underlying9 rfl) rfl ?_
      refine .v (.add rfl rfl (by omega)) rfl ?_
      refine .v (.add rfl rfl (by omega)) rfl ?_
      refine .v (.asn rfl) rfl ?_
      refine .nil ?_
      refine .blk ?_
      refine .then ?_
      refine .region ?_
      refine .v (.add rfl rfl (by omega)) rfl ?_
      refine .v (.mv rfl) rfl ?_
      refine .nil ?_
      exact .again (k + 1) (by omega) (by omega) (.cons rfl (congrArg (Value.int .i64) (by omega)) (.cons rfl rfl (.cons rfl rfl (.cons rfl rfl (.cons rfl rfl .nil))))) (subl (.cons _ (.refl _)))
    · skip
      refine .nil ?_
      refine .then ?_
      refine .seq ?_
      refine .condF rfl ?_
      refine .exit ?_
      refine .then_exit ?_
      refine .then_exit ?_
      refine .blk_exit ?_
      refine .then ?_
      refine .seq ?_
      refine .region ?_
      refine .v (.mv rfl) rfl ?_
      refine .v (.asn rfl) rfl ?_
      refine .nil ?_
      refine .then ?_
      refine .ret ?_
      exact .done _ [] (.t1 rfl rfl) .rfl (congrArg (Value.int .i64) (by obtain rfl : k = d.files.length := (by omega); simp)) (Inn.keep (.there .here))
theorem right_fn (d : Dk) (a : Option Addr) (c : Nat) (F : Mem) (hS : Sl F encF 3 a c d.files) (hb : tot d.files ≤ 4611686018427387904) : Fn Try.prog 29 #[dval a c d] [] F (fun u _ _ => u = .bool (right d)) := by
  have hm := hS.len
  refine Fn.start0 Try.func29 rfl Try.ntmps29 rfl (env := [(0, _)]) rfl ?_
  intro R
  refine .seq ?_
  refine .region ?_
  refine .nb (.box rfl rfl) rfl (fun b1 => ?_)
  refine .v (.asn rfl) rfl ?_
  refine .nil ?_
  refine .then ?_
  refine .seq ?_
  refine .region ?_
  refine .v (.asn rfl) rfl ?_
  refine .nil ?_
  refine .then ?_
  refine .seq ?_
  refine .seq ?_
  refine .region ?_
  refine .v (.fa0 fl24_0 rfl) rfl ?_
  refine .v (.ldb ty22 rfl .here rfl) rfl ?_
  refine .v (.lenl Try.underlying22 rfl) rfl ?_
  refine .v (.mv rfl) rfl ?_
  refine .nil ?_
  refine .then ?_
  refine .block ?_
  refine WC.loop0 (fx := [(1, _), (7, _), (8, _)]) (.cons rfl rfl (.cons rfl rfl (.cons rfl rfl .nil))) (ι := Nat × Int) (fun x => x.1 ≤ d.files.length ∧ rightFrom (-1) d.files = rightFrom x.2 (d.files.drop x.1)) (fun x => d.files.length - x.1) (fun x => [(3, .int .i64 x.2), (9, .int .i64 x.1)]) (0, -1) ⟨by omega, rfl⟩ ?he ?round
  case he => exact .cons rfl rfl (.cons rfl rfl (.cons rfl rfl (.cons rfl rfl (.cons rfl rfl .nil))))
  case round =>
    intro x hk
    obtain ⟨k, last⟩ := x
    obtain ⟨hk, hk2⟩ := hk
    dsimp only at hk hk2 ⊢
    refine .seq ?_
    refine .region ?_
    refine .vs (.lt rfl rfl) rfl (fun h10_2 => ?_) (fun h10_2 => ?_)
    · skip
      refine .nil ?_
      refine .then ?_
      refine .seq ?_
      refine .condT rfl ?_
      refine .skip ?_
      refine .then ?_
      refine .seq ?_
      refine .block ?_
      refine .seq ?_
      refine .region ?_
      obtain ⟨f, hf⟩ : ∃ y, d.files[k]? = some y := ⟨_, List.getElem?_eq_getElem (by omega)⟩
      have hdr := drop_get hf
      refine .ix sl22 rfl rfl hS rfl f ⟨by omega, hf⟩ (fun p3 o4 r5 => ?_)
      refine .v (.ldrw ty50 rfl r5 rfl) rfl ?_
      refine .nb (.alloc ty50 rfl) rfl (fun b6 => ?_)
      refine .st (.stw ty50 rfl rfl rfl rfl rfl .here) ?_
      refine .nil ?_
      refine .then ?_
      refine .seq ?_
      refine .seq ?_
      refine .region ?_
      refine .v (.fa0 fl50_0 rfl) rfl ?_
      refine .v (.ldb ty3 rfl .here rfl) rfl ?_
      refine .v (.mv rfl) rfl ?_
      refine .vs (.le rfl rfl) rfl (fun h16_7 => ?_) (fun h16_7 => ?_)
      · skip
        refine .v (.mv rfl) rfl ?_
        refine .gs rfl rfl rfl rfl ?_
        refine .gs rfl rfl rfl rfl ?_
        refine .gs rfl rfl rfl rfl ?_
        refine .gs rfl rfl rfl rfl ?_
        refine .v (.pkT rfl rfl) rfl ?_
        refine .nil ?_
        refine .then ?_
        refine .condT rfl ?_
        refine .seq ?_
        refine .region ?_
        refine .v (.asn rfl) rfl ?_
        refine .nil ?_
        refine .then ?_
        refine .ret ?_
        refine .then_ret ?_
        refine .blk_ret ?_
        refine .then_ret ?_
        refine .then_ret ?_
        refine .blk_ret ?_
        refine .then_ret ?_
        exact .done _ [] (.t1 rfl rfl) .rfl (by simp only [right, hk2, hdr, rightFrom]; simp [*]) (Inn.keep (.there (.there .here)))
      · skip
        refine .v (.mv rfl) rfl ?_
        refine .g rfl rfl rfl ?_
        refine .v (.fa0 fl50_0 rfl) rfl ?_
        refine .g rfl rfl rfl ?_
        refine .v (.ldb ty3 rfl .here rfl) rfl ?_
        refine .g rfl rfl rfl ?_
        refine .vb (.call rfl rfl (Try.call42 _) (fun G hle hG => number_fn _ G)) rfl (fun h20_8 => ?_) (fun h20_8 => ?_)
        · skip
          refine .g rfl rfl rfl ?_
          refine .v (.not rfl) rfl ?_
          refine .v (.pkF rfl rfl) rfl ?_
          refine .nil ?_
          refine .then ?_
          refine .condF rfl ?_
          refine .skip ?_
          refine .then ?_
          refine .region ?_
          refine .v (.fa0 fl50_0 rfl) rfl ?_
          refine .v (.ldb ty3 rfl .here rfl) rfl ?_
          refine .v (.asn rfl) rfl ?_
          refine .nil ?_
          refine .blk ?_
          refine .then ?_
          refine .region ?_
          refine .v (.add rfl rfl (by omega)) rfl ?_
          refine .v (.mv rfl) rfl ?_
          refine .nil ?_
          exact .again (k + 1, f.id) ⟨by omega, by rw [hk2, hdr]; simp [rightFrom, *]⟩ (by omega) (.cons rfl rfl (.cons rfl rfl (.cons rfl rfl (.cons rfl rfl (.cons rfl rfl .nil))))) (subl (.cons _ (.refl _)))
        · skip
          refine .g rfl rfl rfl ?_
          refine .v (.not rfl) rfl ?_
          refine .v (.pkF rfl rfl) rfl ?_
          refine .nil ?_
          refine .then ?_
          refine .condT rfl ?_
          refine .seq ?_
          refine .region ?_
          refine .v (.asn rfl) rfl ?_
          refine .nil ?_
          refine .then ?_
          refine .ret ?_
          refine .then_ret ?_
          refine .blk_ret ?_
          refine .then_ret ?_
          refine .then_ret ?_
          refine .blk_ret ?_
          refine .then_ret ?_
          exact .done _ [] (.t1 rfl rfl) .rfl (by simp only [right, hk2, hdr, rightFrom]; simp [*]) (Inn.keep (.there (.there .here)))
    · skip
      refine .nil ?_
      refine .then ?_
      refine .seq ?_
      refine .condF rfl ?_
      refine .exit ?_
      refine .then_exit ?_
      refine .then_exit ?_
      refine .blk_exit ?_
      refine .then ?_
      refine .seq ?_
      refine .region ?_
      obtain hz : rightFrom last (d.files.drop k) = true := by rw [List.drop_of_length_le (by omega)]; rfl
      refine .v (.ldw ty24 rfl .here rfl) rfl ?_
      refine .v (.call rfl rfl (Try.call40 _) (fun G hle hG => size_fn d a c G (hS.mono hle) hb)) rfl ?_
      refine .vs (.le rfl rfl) rfl (fun h28_9 => ?_) (fun h28_9 => ?_)
      · skip
        refine .v (.mv rfl) rfl ?_
        refine .g rfl rfl rfl ?_
        refine .v (.fab fl24_1 rfl) rfl ?_
        refine .g rfl rfl rfl ?_
        refine .v (.ldb ty3 rfl .here rfl) rfl ?_
        refine .g rfl rfl rfl ?_
        refine .vb (.call rfl rfl (Try.call42 _) (fun G hle hG => number_fn _ G)) rfl (fun h32_10 => ?_) (fun h32_10 => ?_)
        · skip
          refine .v (.pkT rfl rfl) rfl ?_
          refine .v (.mv rfl) rfl ?_
          refine .g rfl rfl rfl ?_
          refine .v (.fab fl24_2 rfl) rfl ?_
          refine .g rfl rfl rfl ?_
          refine .v (.ldb ty4 rfl .here rfl) rfl ?_
          refine .g rfl rfl rfl ?_
          refine .v (.mv rfl) rfl ?_
          refine .cs (t := 37) rfl (fun c37_11 => ?_) (fun c37_11 => ?_)
          · skip
            refine .gs rfl rfl rfl rfl ?_
            refine .gs rfl rfl rfl rfl ?_
            refine .gs rfl rfl rfl rfl ?_
            refine .g rfl rfl rfl ?_
            refine .v (.pkT rfl rfl) rfl ?_
            refine .v (.pkT rfl rfl) rfl ?_
            refine .v (.asn rfl) rfl ?_
            refine .nil ?_
            refine .then ?_
            refine .ret ?_
            exact .done _ [] (.t1 rfl rfl) .rfl (by simp only [right, hk2, hz]; first | (simp_all; done) | (simp_all; omega)) (Inn.keep (.there .here))
          · skip
            refine .g rfl rfl rfl ?_
            refine .v (.fab fl24_1 rfl) rfl ?_
            refine .g rfl rfl rfl ?_
            refine .v (.ldb ty3 rfl .here rfl) rfl ?_
            refine .g rfl rfl rfl ?_
            refine .vs (.eq rfl rfl) rfl (fun h40_12 => ?_) (fun h40_12 => ?_)
            · skip
              refine .g rfl rfl rfl ?_
              refine .v (.pkF rfl rfl) rfl ?_
              refine .v (.pkT rfl rfl) rfl ?_
              refine .v (.asn rfl) rfl ?_
              refine .nil ?_
              refine .then ?_
              refine .ret ?_
              exact .done _ [] (.t1 rfl rfl) .rfl (by simp only [right, hk2, hz]; first | (simp_all; done) | (simp_all; omega)) (Inn.keep (.there .here))
            · skip
              refine .g rfl rfl rfl ?_
              refine .v (.pkF rfl rfl) rfl ?_
              refine .v (.pkT rfl rfl) rfl ?_
              refine .v (.asn rfl) rfl ?_
              refine .nil ?_
              refine .then ?_
              refine .ret ?_
              exact .done _ [] (.t1 rfl rfl) .rfl (by simp only [right, hk2, hz]; first | (simp_all; done) | (simp_all; omega)) (Inn.keep (.there .here))
        · skip
          refine .v (.pkT rfl rfl) rfl ?_
          refine .v (.mv rfl) rfl ?_
          refine .gs rfl rfl rfl rfl ?_
          refine .gs rfl rfl rfl rfl ?_
          refine .gs rfl rfl rfl rfl ?_
          refine .gu rfl rfl rfl rfl ?_
          refine .gu rfl rfl rfl rfl ?_
          refine .gu rfl rfl rfl rfl ?_
          refine .gs rfl rfl rfl rfl ?_
          refine .v (.pkF rfl rfl) rfl ?_
          refine .v (.asn rfl) rfl ?_
          refine .nil ?_
          refine .then ?_
          refine .ret ?_
          exact .done _ [] (.t1 rfl rfl) .rfl (by simp only [right, hk2, hz]; first | (simp_all; done) | (simp_all; omega)) (Inn.keep (.there .here))
      · skip
        refine .v (.mv rfl) rfl ?_
        refine .gs rfl rfl rfl rfl ?_
        refine .gs rfl rfl rfl rfl ?_
        refine .gs rfl rfl rfl rfl ?_
        refine .v (.pkF rfl rfl) rfl ?_
        refine .v (.mv rfl) rfl ?_
        refine .gs rfl rfl rfl rfl ?_
        refine .gs rfl rfl rfl rfl ?_
        refine .gs rfl rfl rfl rfl ?_
        refine .gu rfl rfl rfl rfl ?_
        refine .gu rfl rfl rfl rfl ?_
        refine .gu rfl rfl rfl rfl ?_
        refine .gs rfl rfl rfl rfl ?_
        refine .v (.pkF rfl rfl) rfl ?_
        refine .v (.asn rfl) rfl ?_
        refine .nil ?_
        refine .then ?_
        refine .ret ?_
        exact .done _ [] (.t1 rfl rfl) .rfl (by simp only [right, hk2, hz]; first | (simp_all; done) | (simp_all; omega)) (Inn.keep (.there .here))
theorem ready_fn (d : Dk) (a : Option Addr) (c : Nat) (F : Mem) (hS : Sl F encF 3 a c d.files) (hb : tot d.files ≤ 4611686018427387904) (id : Int) : Fn Try.prog 35 #[dval a c d, .int .i64 id] [] F (fun u _ _ => u = .int .i64 (ready d id)) := by
  refine Fn.start0 Try.func35 rfl Try.ntmps35 rfl (env := [(0, _), (1, _)]) rfl ?_
  intro R
  refine .seq ?_
  refine .region ?_
  refine .nb (.box rfl rfl) rfl (fun b1 => ?_)
  refine .v (.asn rfl) rfl ?_
  refine .nil ?_
  refine .then ?_
  refine .seq ?_
  refine .block ?_
  refine .seq ?_
  refine .region ?_
  refine .v (.ldw ty24 rfl .here rfl) rfl ?_
  refine .vb (.call rfl rfl (Try.call29 _) (fun G hle hG => right_fn d a c G (hS.mono hle) hb)) rfl (fun h7_2 => ?_) (fun h7_2 => ?_)
  · skip
    refine .v (.not rfl) rfl ?_
    refine .v (.mv rfl) rfl ?_
    refine .g rfl rfl rfl ?_
    refine .v (.mv rfl) rfl ?_
    refine .g rfl rfl rfl ?_
    refine .vb (.call rfl rfl (Try.call42 _) (fun G hle hG => number_fn _ G)) rfl (fun h11_3 => ?_) (fun h11_3 => ?_)
    · skip
      refine .g rfl rfl rfl ?_
      refine .v (.not rfl) rfl ?_
      refine .v (.pkF rfl rfl) rfl ?_
      refine .v (.asn rfl) rfl ?_
      refine .nil ?_
      refine .then ?_
      refine .condF rfl ?_
      refine .seq ?_
      refine .region ?_
      refine .v (.fab fl24_3 rfl) rfl ?_
      refine .v (.ldb ty4 rfl .here rfl) rfl ?_
      refine .v (.asn rfl) rfl ?_
      refine .nil ?_
      refine .then ?_
      refine .cs (t := 14) rfl (fun c14_4 => ?_) (fun c14_4 => ?_)
      · skip
        refine .condT rfl ?_
        refine .seq ?_
        refine .region ?_
        refine .v (.asn rfl) rfl ?_
        refine .nil ?_
        refine .then ?_
        refine .ret ?_
        refine .blk_ret ?_
        refine .then_ret ?_
        exact .done _ [] (.t1 rfl rfl) .rfl (by simp [ready, *]) (Inn.keep (.there .here))
      · skip
        refine .condF rfl ?_
        refine .skip ?_
        refine .blk ?_
        refine .then ?_
        refine .seq ?_
        refine .region ?_
        refine .v (.asn rfl) rfl ?_
        refine .nil ?_
        refine .then ?_
        refine .ret ?_
        exact .done _ [] (.t1 rfl rfl) .rfl (by simp [ready, *]) (Inn.keep (.there .here))
    · skip
      refine .g rfl rfl rfl ?_
      refine .v (.not rfl) rfl ?_
      refine .v (.pkF rfl rfl) rfl ?_
      refine .v (.asn rfl) rfl ?_
      refine .nil ?_
      refine .then ?_
      refine .condT rfl ?_
      refine .seq ?_
      refine .region ?_
      refine .v (.asn rfl) rfl ?_
      refine .nil ?_
      refine .then ?_
      refine .ret ?_
      refine .blk_ret ?_
      refine .then_ret ?_
      exact .done _ [] (.t1 rfl rfl) .rfl (by simp [ready, *]) (Inn.keep (.there .here))
  · skip
    refine .v (.not rfl) rfl ?_
    refine .v (.mv rfl) rfl ?_
    refine .gs rfl rfl rfl rfl ?_
    refine .gs rfl rfl rfl rfl ?_
    refine .gs rfl rfl rfl rfl ?_
    refine .v (.pkT rfl rfl) rfl ?_
    refine .v (.asn rfl) rfl ?_
    refine .nil ?_
    refine .then ?_
    refine .condT rfl ?_
    refine .seq ?_
    refine .region ?_
    refine .v (.asn rfl) rfl ?_
    refine .nil ?_
    refine .then ?_
    refine .ret ?_
    refine .blk_ret ?_
    refine .then_ret ?_
    exact .done _ [] (.t1 rfl rfl) .rfl (by simp [ready, *]) (Inn.keep (.there .here))
theorem spend_fn (d : Dk) (a : Option Addr) (c : Nat) (F : Mem) (hS : Sl F encF 3 a c d.files) (d1 : Dk) (ok : Bool) (hsp : spend d = (d1, ok)) (hl : -9223372036854775807 ≤ d.left ∧ d.left ≤ 9223372036854775807) : Fn Try.prog 37 #[dval a c d] [] F (fun u _ _ => u = .tuple #[dval a c d1, .bool ok]) := by
  refine Fn.start0 Try.func37 rfl Try.ntmps37 rfl (env := [(0, _)]) rfl ?_
  intro R
  refine .seq ?_
  refine .region ?_
  refine .nb (.box rfl rfl) rfl (fun b1 => ?_)
  refine .nb (.alloc ty24 rfl) rfl (fun b2 => ?_)
  refine .v (.asn rfl) rfl ?_
  refine .nil ?_
  refine .then ?_
  refine .seq ?_
  refine .block ?_
  refine .seq ?_
  refine .region ?_
  refine .v (.fab fl24_2 rfl) rfl ?_
  refine .v (.ldb ty4 rfl (.there .here) rfl) rfl ?_
  refine .v (.mv rfl) rfl ?_
  refine .cs (t := 7) rfl (fun c7_3 => ?_) (fun c7_3 => ?_)
  · skip
    refine .g rfl rfl rfl ?_
    refine .v (.fab fl24_1 rfl) rfl ?_
    refine .g rfl rfl rfl ?_
    refine .v (.ldb ty3 rfl (.there .here) rfl) rfl ?_
    refine .g rfl rfl rfl ?_
    refine .vs (.eq rfl rfl) rfl (fun h10_4 => ?_) (fun h10_4 => ?_)
    · skip
      refine .v (.pkT rfl rfl) rfl ?_
      refine .v (.asn rfl) rfl ?_
      refine .nil ?_
      refine .then ?_
      refine .condT rfl ?_
      refine .seq ?_
      refine .region ?_
      refine .v (.fab fl24_3 rfl) rfl ?_
      refine .st (.stb ty4 rfl rfl rfl st3 (.there .here)) ?_
      refine .nil ?_
      refine .then ?_
      refine .seq ?_
      refine .region ?_
      refine .v (.ldw ty24 rfl (.there .here) rfl) rfl ?_
      refine .st (.stw ty24 rfl rfl rfl rfl rfl .here) ?_
      refine .v (.asn rfl) rfl ?_
      refine .nil ?_
      refine .then ?_
      refine .ret ?_
      refine .blk_ret ?_
      refine .then_ret ?_
      exact .done _ [] (.ct rfl ty24 rfl .here rfl rfl) .rfl (by simp [spend, *] at hsp; obtain ⟨rfl, rfl⟩ := hsp; simp [*]) (Inn.keep (.there (.there .here)))
    · skip
      refine .v (.pkT rfl rfl) rfl ?_
      refine .v (.asn rfl) rfl ?_
      refine .nil ?_
      refine .then ?_
      refine .condF rfl ?_
      refine .seq ?_
      refine .region ?_
      refine .v (.fab fl24_2 rfl) rfl ?_
      refine .v (.ldb ty4 rfl (.there .here) rfl) rfl ?_
      refine .v (.asn rfl) rfl ?_
      refine .nil ?_
      refine .then ?_
      refine .kn (t := 14) rfl (congrArg Value.bool c7_3) ?_
      refine .condT rfl ?_
      refine .region ?_
      refine .v (.fab fl24_1 rfl) rfl ?_
      refine .v (.ldb ty3 rfl (.there .here) rfl) rfl ?_
      refine .v (.sub rfl rfl (by omega)) rfl ?_
      refine .v (.fab fl24_1 rfl) rfl ?_
      refine .st (.stb ty3 rfl rfl rfl st1 (.there .here)) ?_
      refine .nil ?_
      refine .blk ?_
      refine .then ?_
      refine .seq ?_
      refine .region ?_
      refine .v (.ldw ty24 rfl (.there .here) rfl) rfl ?_
      refine .st (.stw ty24 rfl rfl rfl rfl rfl .here) ?_
      refine .v (.asn rfl) rfl ?_
      refine .nil ?_
      refine .then ?_
      refine .ret ?_
      exact .done _ [] (.ct rfl ty24 rfl .here rfl rfl) .rfl (by simp [spend, *] at hsp; obtain ⟨rfl, rfl⟩ := hsp; simp [*]) (Inn.keep (.there (.there .here)))
  · skip
    refine .gs rfl rfl rfl rfl ?_
    refine .gs rfl rfl rfl rfl ?_
    refine .gs rfl rfl rfl rfl ?_
    refine .v (.pkF rfl rfl) rfl ?_
    refine .v (.asn rfl) rfl ?_
    refine .nil ?_
    refine .then ?_
    refine .condF rfl ?_
    refine .seq ?_
    refine .region ?_
    refine .v (.fab fl24_2 rfl) rfl ?_
    refine .v (.ldb ty4 rfl (.there .here) rfl) rfl ?_
    refine .v (.asn rfl) rfl ?_
    refine .nil ?_
    refine .then ?_
    refine .kn (t := 14) rfl (congrArg Value.bool c7_3) ?_
    refine .condF rfl ?_
    refine .skip ?_
    refine .blk ?_
    refine .then ?_
    refine .seq ?_
    refine .region ?_
    refine .v (.ldw ty24 rfl (.there .here) rfl) rfl ?_
    refine .st (.stw ty24 rfl rfl rfl rfl rfl .here) ?_
    refine .v (.asn rfl) rfl ?_
    refine .nil ?_
    refine .then ?_
    refine .ret ?_
    exact .done _ [] (.ct rfl ty24 rfl .here rfl rfl) .rfl (by simp [spend, *] at hsp; obtain ⟨rfl, rfl⟩ := hsp; simp [*]) (Inn.keep (.there (.there .here)))
theorem cmp_fn (x : Fl) (id : Int) (F : Mem) (h : 0 ≤ x.id ∧ x.id ≤ 1099511627776 ∧ 0 ≤ id ∧ id ≤ 1099511627776) : Fn Try.prog 47 #[.agg #[.int .i64 x.id, .string x.firm, .string x.loose], .int .i64 id] [] F (fun u _ _ => u = .int .i64 (x.id - id)) := by
  refine Fn.start0 Try.func47 rfl Try.ntmps47 rfl (env := [(0, _), (1, _)]) rfl ?_
  intro R
  refine .seq ?_
  refine .region ?_
  refine .nb (.box rfl rfl) rfl (fun b1 => ?_)
  refine .v (.asn rfl) rfl ?_
  refine .nil ?_
  refine .then ?_
  refine .seq ?_
  refine .region ?_
  refine .v (.fa0 fl50_0 rfl) rfl ?_
  refine .v (.ldb ty3 rfl .here rfl) rfl ?_
  refine .v (.mv rfl) rfl ?_
  refine .v (.sub rfl rfl (by omega)) rfl ?_
  refine .v (.asn rfl) rfl ?_
  refine .nil ?_
  refine .then ?_
  refine .ret ?_
  exact .done _ [] (.t1 rfl rfl) .rfl rfl (Inn.keep (.there .here))
theorem bsearch_fn (xs : List Fl) (a : Option Addr) (c : Nat) (F : Mem) (hS : Sl F encF 3 a c xs) (hs : rightFrom (-1) xs = true) (id : Int) (hid : 0 ≤ id ∧ id ≤ 1099511627776) (hlen : xs.length ≤ 4611686018427387904) : Fn Try.prog 46 #[.slice a xs.length c, .int .i64 id, .func (.func 47) #[] #[]] [] F (fun u _ _ => u = .tuple #[.int .i64 (pos xs id), .bool (there xs id)]) := by
  have hm := hS.len
  refine Fn.start0 Try.func46 rfl Try.ntmps46 rfl (env := [(0, _), (1, _), (2, _)]) rfl ?_
  intro R
  refine .seq ?_
  refine .region ?_
  refine .v (.asn rfl) rfl ?_
  refine .v (.asn rfl) rfl ?_
  refine .nil ?_
  refine .then ?_
  refine .seq ?_
  refine .region ?_
  refine .v (.mv rfl) rfl ?_
  refine .v (.lenl Try.underlying22 rfl) rfl ?_
  refine .v (.asn rfl) rfl ?_
  refine .nil ?_
  refine .then ?_
  refine .seq ?_
  refine .region ?_
  refine .v (.mv rfl) rfl ?_
  refine .v (.asn rfl) rfl ?_
  refine .v (.asn rfl) rfl ?_
  refine .nil ?_
  refine .then ?_
  refine .seq ?_
  refine .block ?_
  refine WC.loop0 (fx := [(0, _), (1, _), (2, _), (6, _), (7, _), (8, _)]) (.cons rfl rfl (.cons rfl rfl (.cons rfl rfl (.cons rfl rfl (.cons rfl rfl (.cons rfl rfl .nil)))))) (ι := Nat × Nat) (fun z => z.1 ≤ z.2 ∧ z.2 ≤ xs.length ∧ (∀ p f, p < z.1 → xs[p]? = some f → f.id < id) ∧ (∀ p f, z.2 ≤ p → xs[p]? = some f → id ≤ f.id)) (fun z => z.2 - z.1) (fun z => [(9, .int .i64 z.1), (10, .int .i64 z.2)]) (0, xs.length) ⟨by omega, Nat.le_refl _, fun p f h => by omega, fun p f h hp => by have := (List.getElem?_eq_some_iff.1 hp).1; omega⟩ ?he ?round
  case he => exact .cons rfl rfl (.cons rfl rfl (.cons rfl rfl (.cons rfl rfl (.cons rfl rfl (.cons rfl rfl (.cons rfl rfl (.cons rfl rfl .nil)))))))
  case round =>
    intro z hk
    obtain ⟨i, j⟩ := z
    obtain ⟨hk, hk0, hk1, hk2⟩ := hk
    dsimp only at hk hk0 hk1 hk2 ⊢
    refine .seq ?_
    refine .seq ?_
    refine .region ?_
    refine .v (.mv rfl) rfl ?_
    refine .v (.mv rfl) rfl ?_
    refine .vs (.lt rfl rfl) rfl (fun h17_1 => ?_) (fun h17_1 => ?_)
    · skip
      refine .nil ?_
      refine .then ?_
      refine .condT rfl ?_
      refine .skip ?_
      refine .then ?_
      refine .block ?_
      refine .seq ?_
      refine .region ?_
      refine .v (.mv rfl) rfl ?_
      refine .v (.mv rfl) rfl ?_
      refine .v (.add rfl rfl (by omega)) rfl ?_
      refine .v (.cvti rfl Try.underlying3 Try.underlying87 (wrapu_in (by omega) (by omega))) rfl ?_
      refine .v (.shr1 rfl rfl) rfl ?_
      refine .v (.cvti rfl Try.underlying87 Try.underlying3 (wrap_in (by omega) (by omega))) rfl ?_
      obtain ⟨h, hh⟩ : ∃ h : Nat, h = (i + j) / 2 := ⟨_, rfl⟩
      refine .kn (t := 23) (v := .int .i64 (h : Nat)) rfl (congrArg (Value.int .i64) (by omega)) ?_
      refine .v (.asn rfl) rfl ?_
      refine .nil ?_
      refine .then ?_
      refine .seq ?_
      refine .region ?_
      refine .v (.mv rfl) rfl ?_
      refine .v (.mv rfl) rfl ?_
      refine .v (.mv rfl) rfl ?_
      obtain ⟨x, hx⟩ : ∃ y, xs[h]? = some y := ⟨_, List.getElem?_eq_getElem (by omega)⟩
      have hx0 := rightFrom_get hs hx
      refine .ix sl22 rfl rfl hS rfl x ⟨by omega, hx⟩ (fun p2 o3 r4 => ?_)
      refine .v (.ldrw ty50 rfl r4 rfl) rfl ?_
      refine .v (.mv rfl) rfl ?_
      refine .v (.call rfl rfl (Try.call47 _) (fun G hle hG => cmp_fn x id G (by omega))) rfl ?_
      refine .vs (.lt rfl rfl) rfl (fun h31_5 => ?_) (fun h31_5 => ?_)
      · skip
        refine .nil ?_
        refine .then ?_
        refine .condT rfl ?_
        refine .region ?_
        refine .v (.mv rfl) rfl ?_
        refine .v (.add rfl rfl (by omega)) rfl ?_
        refine .v (.asn rfl) rfl ?_
        refine .nil ?_
        refine .blk ?_
        exact .again (h + 1, j) (by first | exact ⟨by omega, by omega, fun p f hp hf => (if e : p = h then by rw [e, hx] at hf; injection hf with hf; subst hf; omega else by have := rightFrom_lt hs (show p < h by omega) hf hx; omega), hk2⟩ | exact ⟨by omega, by omega, hk1, fun p f hp hf => (if e : p = h then by rw [e, hx] at hf; injection hf with hf; subst hf; omega else by have := rightFrom_lt hs (show h < p by omega) hx hf; omega)⟩) (by omega) (.cons rfl rfl (.cons rfl rfl (.cons rfl rfl (.cons rfl rfl (.cons rfl rfl (.cons rfl rfl (.cons rfl rfl (.cons rfl rfl .nil)))))))) (subl (.refl _))
      · skip
        refine .nil ?_
        refine .then ?_
        refine .condF rfl ?_
        refine .region ?_
        refine .v (.mv rfl) rfl ?_
        refine .v (.asn rfl) rfl ?_
        refine .nil ?_
        refine .blk ?_
        exact .again (i, h) (by first | exact ⟨by omega, by omega, fun p f hp hf => (if e : p = h then by rw [e, hx] at hf; injection hf with hf; subst hf; omega else by have := rightFrom_lt hs (show p < h by omega) hf hx; omega), hk2⟩ | exact ⟨by omega, by omega, hk1, fun p f hp hf => (if e : p = h then by rw [e, hx] at hf; injection hf with hf; subst hf; omega else by have := rightFrom_lt hs (show h < p by omega) hx hf; omega)⟩) (by omega) (.cons rfl rfl (.cons rfl rfl (.cons rfl rfl (.cons rfl rfl (.cons rfl rfl (.cons rfl rfl (.cons rfl rfl (.cons rfl rfl .nil)))))))) (subl (.refl _))
    · skip
      refine .nil ?_
      refine .then ?_
      refine .condF rfl ?_
      refine .exit ?_
      refine .then_exit ?_
      refine .then_exit ?_
      refine .blk_exit ?_
      refine .then ?_
      refine .seq ?_
      refine .region ?_
      refine .v (.mv rfl) rfl ?_
      obtain rfl : i = j := by omega
      have hp := pos_of (by omega) hk1 hk2
      refine .v (.mv rfl) rfl ?_
      refine .v (.mv rfl) rfl ?_
      refine .vs (.lt rfl rfl) rfl (fun h38_6 => ?_) (fun h38_6 => ?_)
      · skip
        refine .v (.mv rfl) rfl ?_
        refine .g rfl rfl rfl ?_
        refine .v (.mv rfl) rfl ?_
        refine .g rfl rfl rfl ?_
        refine .v (.mv rfl) rfl ?_
        refine .g rfl rfl rfl ?_
        refine .v (.mv rfl) rfl ?_
        refine .g rfl rfl rfl ?_
        obtain ⟨x, hx⟩ : ∃ y, xs[i]? = some y := ⟨_, List.getElem?_eq_getElem (by omega)⟩
        have hx0 := rightFrom_get hs hx
        have ht := there_of hs hx hk1 (hk2 i x (by omega) hx)
        refine .ix sl22 rfl rfl hS rfl x ⟨by omega, hx⟩ (fun p7 o8 r9 => ?_)
        refine .g rfl rfl rfl ?_
        refine .v (.ldrw ty50 rfl r9 rfl) rfl ?_
        refine .g rfl rfl rfl ?_
        refine .v (.mv rfl) rfl ?_
        refine .g rfl rfl rfl ?_
        refine .v (.call rfl rfl (Try.call47 _) (fun G hle hG => cmp_fn x id G (by omega))) rfl ?_
        refine .g rfl rfl rfl ?_
        refine .vs (.eq rfl rfl) rfl (fun h47_10 => ?_) (fun h47_10 => ?_)
        · skip
          refine .v (.pkT rfl rfl) rfl ?_
          refine .v (.asn rfl) rfl ?_
          refine .v (.asn rfl) rfl ?_
          refine .nil ?_
          refine .then ?_
          refine .ret ?_
          exact .done _ [] (.t2 rfl rfl rfl) .rfl (by first | (rw [hp, ht, decide_eq_true (by omega)]) | (rw [hp, ht, decide_eq_false (by omega)]) | (rw [hp, ht])) (Inn.keep .here)
        · skip
          refine .v (.pkT rfl rfl) rfl ?_
          refine .v (.asn rfl) rfl ?_
          refine .v (.asn rfl) rfl ?_
          refine .nil ?_
          refine .then ?_
          refine .ret ?_
          exact .done _ [] (.t2 rfl rfl rfl) .rfl (by first | (rw [hp, ht, decide_eq_true (by omega)]) | (rw [hp, ht, decide_eq_false (by omega)]) | (rw [hp, ht])) (Inn.keep .here)
      · skip
        refine .v (.mv rfl) rfl ?_
        refine .gs rfl rfl rfl rfl ?_
        refine .gs rfl rfl rfl rfl ?_
        refine .gs rfl rfl rfl rfl ?_
        refine .gs rfl rfl rfl rfl ?_
        refine .gs rfl rfl rfl rfl ?_
        refine .gs rfl rfl rfl rfl ?_
        refine .gs rfl rfl rfl rfl ?_
        refine .gs rfl rfl rfl rfl ?_
        have ht : there xs id = false := there_none fun p f hpl hpf => hk1 p f (by omega) hpf
        refine .v (.pkF rfl rfl) rfl ?_
        refine .v (.asn rfl) rfl ?_
        refine .v (.asn rfl) rfl ?_
        refine .nil ?_
        refine .then ?_
        refine .ret ?_
        exact .done _ [] (.t2 rfl rfl rfl) .rfl (by first | (rw [hp, ht, decide_eq_true (by omega)]) | (rw [hp, ht, decide_eq_false (by omega)]) | (rw [hp, ht])) (Inn.keep .here)
theorem find_fn (d : Dk) (a : Option Addr) (c : Nat) (F : Mem) (hS : Sl F encF 3 a c d.files) (hs : rightFrom (-1) d.files = true) (id : Int) (hid : 0 ≤ id ∧ id ≤ 1099511627776) (hlen : d.files.length ≤ 4611686018427387904) : Fn Try.prog 36 #[dval a c d, .int .i64 id] [] F (fun u _ _ => u = .tuple #[.int .i64 (pos d.files id), .bool (there d.files id)]) := by
  refine Fn.start0 Try.func36 rfl Try.ntmps36 rfl (env := [(0, _), (1, _)]) rfl ?_
  intro R
  refine .seq ?_
  refine .region ?_
  refine .nb (.box rfl rfl) rfl (fun b1 => ?_)
  refine .v (.asn rfl) rfl ?_
  refine .v (.asn rfl) rfl ?_
  refine .nil ?_
  refine .then ?_
  refine .seq ?_
  refine .region ?_
  refine .v (.fa0 fl24_0 rfl) rfl ?_
  refine .v (.ldb ty22 rfl .here rfl) rfl ?_
  refine .v (.mv rfl) rfl ?_
  refine .v (.call rfl rfl (Try.call46 _) (fun G hle hG => bsearch_fn d.files a c G (hS.mono hle) hs id hid hlen)) rfl ?_
  refine .v (.ext rfl rfl) rfl ?_
  refine .v (.ext rfl rfl) rfl ?_
  refine .v (.asn rfl) rfl ?_
  refine .v (.asn rfl) rfl ?_
  refine .nil ?_
  refine .then ?_
  refine .ret ?_
  exact .done _ [] (.t2 rfl rfl rfl) .rfl rfl (Inn.keep (.there .here))
theorem clone_F (xs : List Fl) (a : Option Addr) (c : Nat) (F : Mem) (hS : Sl F encF 3 a c xs) (hsz : xs.length * 40 ≤ 140737488355328) : Fn Try.prog 39 #[.slice a xs.length c] [] F (fun v M G => ∃ it, M = [it] ∧ G = F ∧ ∃ a' c', v = .slice a' xs.length c' ∧ Row 50 encF 3 a' c' xs it) := by
  refine Fn.start0 Try.func39 rfl Try.ntmps39 rfl (env := [(0, _)]) rfl ?_
  intro R
  refine .seq ?_
  refine .region ?_
  refine .v (.asn rfl) rfl ?_
  refine .nil ?_
  refine .then ?_
  refine .seq ?_
  refine .seq ?_
  refine .region ?_
  refine .v (.mv rfl) rfl ?_
  refine .vs (.eqsl Try.underlying22 rfl rfl) rfl (fun h4_1 => ?_) (fun h4_1 => ?_)
  · skip
    refine .nil ?_
    refine .then ?_
    refine .condT rfl ?_
    refine .seq ?_
    refine .region ?_
    refine .v (.asn rfl) rfl ?_
    refine .nil ?_
    refine .then ?_
    refine .ret ?_
    refine .then_ret ?_
    subst h4_1
    obtain rfl := hS.none
    refine .items (L' := [[], R]) (fun w ho => by simpa using ho) ?_
    exact .done _ [[]] (.t1 rfl rfl) .rfl ⟨[], rfl, rfl, none, 0, rfl, Row.nil⟩ (fun w ho => by simpa using ho)
  · skip
    refine .nil ?_
    refine .then ?_
    refine .condF rfl ?_
    refine .skip ?_
    refine .then ?_
    refine .seq ?_
    refine .region ?_
    refine .nb (.lit0 sl22) rfl (fun b2 => ?_)
    refine .v (.mv rfl) rfl ?_
    refine .ap (.apps (xs := ([] : List Fl)) sl22 ty50 rfl encF_ok (by decide) rfl rfl .lit0 (fun w R ho => ⟨F, _, ho, hS⟩) (by simpa using hsz) (by simpa using hS.len) _ (fun _ => .here)) rfl (fun a1 c1 it1 hr1 => ?_)
    refine .v (.asn rfl) rfl ?_
    refine .nil ?_
    refine .then ?_
    refine .ret ?_
    exact .done _ [it1] (.t1 rfl rfl) .rfl ⟨it1, rfl, rfl, a1, c1, rfl, by simpa using hr1⟩ (keep (.cons_cons _ (.cons_cons _ .slnil)))
theorem insert_F (xs : List Fl) (x : Fl) (i : Nat) (a : Option Addr) (c : Nat) (it : Itm) (b : Nat) (F : Mem) (hr : Row 50 encF 3 a c xs it) (hx0 : F b = some (.cells (encF x).toArray 50 (0, 0))) (hi : i ≤ xs.length) (hsz : (xs.length + 1) * 40 ≤ 140737488355328) : Fn Try.prog 41 #[.slice a xs.length c, .int .i64 i, .slice (some ⟨b, 0, none⟩) 1 1] [it] F (fun v M G => ∃ it', M = [it'] ∧ G = F ∧ ∃ a' c', v = .slice a' (xs.take i ++ x :: xs.drop i).length c' ∧ Row 50 encF 3 a' c' (xs.take i ++ x :: xs.drop i) it') := by
  have hx := Rd.of0 hx0
  have hm := hr.len
  have hmx := hr.max
  refine Fn.start1 Try.func41 rfl Try.ntmps41 rfl (env := [(0, _), (1, _), (2, _)]) rfl ?_
  intro R
  refine .seq ?_
  refine .region ?_
  refine .v (.asn rfl) rfl ?_
  refine .nil ?_
  refine .then ?_
  refine .seq ?_
  refine .region ?_
  refine .v (.mv rfl) rfl ?_
  refine .v (.mv rfl) rfl ?_
  refine .v (.slFrom sl22 rfl rfl ⟨by omega, by omega⟩) rfl ?_
  refine .nil ?_
  refine .then ?_
  refine .seq ?_
  refine .region ?_
  refine .v (.mv rfl) rfl ?_
  refine .v (.lenl Try.underlying22 rfl) rfl ?_
  refine .v (.asn rfl) rfl ?_
  refine .nil ?_
  refine .then ?_
  refine .seq ?_
  refine .seq ?_
  refine .region ?_
  refine .v (.mv rfl) rfl ?_
  refine .vF (.eq rfl rfl) rfl (by decide) ?_
  refine .nil ?_
  refine .then ?_
  refine .condF rfl ?_
  refine .skip ?_
  refine .then ?_
  refine .seq ?_
  refine .region ?_
  refine .v (.mv rfl) rfl ?_
  refine .v (.lenl Try.underlying22 rfl) rfl ?_
  refine .v (.asn rfl) rfl ?_
  refine .nil ?_
  refine .then ?_
  refine .seq ?_
  refine .seq ?_
  refine .region ?_
  refine .v (.mv rfl) rfl ?_
  refine .v (.mv rfl) rfl ?_
  refine .vs (.eq rfl rfl) rfl (fun h22_1 => ?_) (fun h22_1 => ?_)
  · skip
    refine .nil ?_
    refine .then ?_
    refine .condT rfl ?_
    refine .seq ?_
    refine .region ?_
    refine .v (.mv rfl) rfl ?_
    refine .v (.mv rfl) rfl ?_
    refine .ap (.apps (ys := [x]) sl22 ty50 rfl encF_ok (by decide) rfl rfl hr (fun w R ho => ⟨F, _, ho, .one hx⟩) hsz (by simp; omega) _ (fun _ => .here)) rfl (fun a1 c1 it1 hr1 => ?_)
    refine .v (.asn rfl) rfl ?_
    refine .nil ?_
    refine .then ?_
    refine .ret ?_
    refine .then_ret ?_
    obtain rfl : i = xs.length := by omega
    exact .done _ [it1] (.t1 rfl rfl) .rfl ⟨it1, rfl, rfl, a1, c1, by simp, by simpa using hr1⟩ (keep (.cons_cons _ (.cons_cons _ .slnil)))
  · skip
    have hlt : i < xs.length := by omega
    obtain ⟨b0, pad, rfl, rfl, hp⟩ := hr.blk (by omega)
    have hcap := hr.cap
    have hA := encF_ok.take xs pad i hi
    have hD := encF_ok.drop xs pad i hi
    have lA : ((xs.take i).flatMap encF).length = i * 3 := by rw [encF_ok.fl, List.length_take, Nat.min_eq_left hi]
    have lD : ((xs.drop i).flatMap encF).length = (xs.length - i) * 3 := by rw [encF_ok.fl, List.length_drop]
    have lX : (encF x).length = 3 := encF_ok.len x
    have lP : (xs.flatMap encF).length = xs.length * 3 := encF_ok.fl xs
    refine .nil ?_
    refine .then ?_
    refine .condF rfl ?_
    refine .skip ?_
    refine .then ?_
    refine .seq ?_
    refine .seq ?_
    refine .region ?_
    refine .v (.mv rfl) rfl ?_
    refine .v (.mv rfl) rfl ?_
    refine .v (.add rfl rfl (by omega)) rfl ?_
    refine .v (.mv rfl) rfl ?_
    refine .v (.capl Try.underlying22 rfl) rfl ?_
    refine .vs (.gt rfl rfl) rfl (fun h31_2 => ?_) (fun h31_2 => ?_)
    · skip
      refine .nil ?_
      refine .then ?_
      refine .condT rfl ?_
      refine .seq ?_
      refine .region ?_
      refine .v (.mv rfl) rfl ?_
      refine .v (.mv rfl) rfl ?_
      refine .v (.sto i sl22 rfl rfl ⟨by omega, by omega⟩) rfl ?_
      refine .v (.mv rfl) rfl ?_
      refine .v (.mv rfl) rfl ?_
      refine .v (.add rfl rfl (by omega)) rfl ?_
      refine .v (.mv rfl) rfl ?_
      refine .v (.sub rfl rfl (by omega)) rfl ?_
      refine .az (.apz (m := i) (k := xs.length + 1 - i) sl22 ty50 rfl Try.underlying3 rfl rfl .here (by rw [List.length_append, lP]; have := Nat.mul_le_mul_right 3 hi; omega) ⟨by omega, by omega⟩ (by omega) (by rw [show i + (xs.length + 1 - i) = xs.length + 1 by omega]; exact hsz) (by omega) (by decide) (by decide)) rfl (fun nb C zs hC1 hC2 hz => ?_)
      rw [hA]
      refine .kn (t := 40) (v := .slice (some ⟨nb, 0, none⟩) (xs.length + 1) C) rfl (by rw [show i + (xs.length + 1 - i) = xs.length + 1 by omega]) ?_
      refine .v (.asn rfl) rfl ?_
      refine .nil ?_
      refine .then ?_
      refine .seq ?_
      refine .region ?_
      refine .v (.mv rfl) rfl ?_
      refine .v (.mv rfl) rfl ?_
      refine .v (.sfo (i) sl22 rfl rfl ⟨by omega, by omega, by omega⟩) rfl ?_
      refine .v (.mv rfl) rfl ?_
      refine .cp (.cpy (vs := encF x) (cs' := (((xs.take i).flatMap encF) ++ zs).take (i * 3) ++ encF x ++ (((xs.take i).flatMap encF) ++ zs).drop (i * 3 + 3)) 1 sl22 rfl rfl (by show Nat.min 1 (xs.length + 1 - i) = 1; simp only [Nat.min_def]; split <;> omega) (by rw [lX]) (encF_ok.one x) (fun w R ho j v hj => ⟨_, rfl, by rw [add_at]; exact hx.cell ho hj⟩) (fun h => by cases h) (by rw [List.length_append, lA, hz]; have := Nat.mul_le_mul_right 3 (show 1 ≤ C - i by omega); omega) (by simp [Nat.zero_add]) .here) rfl ?_
      refine .nil ?_
      refine .then ?_
      refine .seq ?_
      refine .draw [[], [], [], [1, 2], [0, 3], [], [], [5, 6], [4, 7]] [] (by kernel_rfl) (by kernel_rfl) rfl (e1 := [(0, _), (1, _), (2, _), (6, _), (7, _), (8, _), (9, _)]) (.cons rfl rfl (.cons rfl rfl (.cons rfl rfl (.cons rfl rfl (.cons rfl rfl (.cons rfl rfl (.cons rfl rfl .nil))))))) (fun x hx => by cases hx) rfl ?_
      refine .v (i := 0) [] rfl rfl rfl .nil (.n (.mv rfl)) ?_
      refine .v (i := 1) [] rfl rfl rfl .nil (.n (.mv rfl)) ?_
      refine .v (i := 2) [] rfl rfl rfl .nil (.n (.mv rfl)) ?_
      refine .v (i := 3) [(47, _), (48, _)] rfl rfl rfl (.cons (.tail _ (.head _)) rfl rfl (.cons (.head _) rfl rfl .nil)) (.n (.add rfl rfl (by omega))) ?_
      refine .v (i := 4) [(46, _), (49, _)] rfl rfl rfl (.cons (.tail _ (.tail _ (.tail _ (.head _)))) rfl rfl (.cons (.head _) rfl rfl .nil)) (.n (.sfo (i + 1) sl22 rfl rfl ⟨by omega, by omega, by omega⟩)) ?_
      refine .v (i := 5) [] rfl rfl rfl .nil (.n (.mv rfl)) ?_
      refine .v (i := 6) [] rfl rfl rfl .nil (.n (.mv rfl)) ?_
      refine .v (i := 7) [(51, _), (52, _)] rfl rfl rfl (.cons (.tail _ (.head _)) rfl rfl (.cons (.head _) rfl rfl .nil)) (.n (.sfo (i) sl22 rfl rfl ⟨by omega, by omega, by omega⟩)) ?_
      refine .tail0 8 [[8, 4, 7, 0, 3, 5, 6, 1, 2]] rfl rfl rfl rfl (e' := [(53, _), (52, _), (51, _), (50, _), (49, _), (48, _), (47, _), (46, _), (0, _), (1, _), (2, _), (6, _), (7, _), (8, _), (9, _)]) rfl ?_
      refine .cp (.cpy (vs := ((xs.drop i).flatMap encF)) (cs' := ((xs.take i).flatMap encF) ++ encF x ++ ((xs.drop i).flatMap encF) ++ zs.drop (3 + (xs.length - i) * 3)) (xs.length - i) sl22 rfl rfl (by simp only [Nat.min_def]; split <;> omega) lD (encF_ok.fone _) (fun w R ho j v hj => ⟨_, rfl, by rw [add_at, ho.cell (Inn.one (.there .here) R), Nat.zero_add, ← List.getElem?_drop, hD]; rw [List.getElem?_append_left (List.getElem?_eq_some_iff.1 hj).1]; exact hj⟩) (fun h => by cases h) ?_ ?_ .here) rfl ?_
      · simp only [List.length_append, List.length_take, List.length_drop, lA, lX, hz]; have := Nat.mul_le_mul_right 3 (show xs.length + 1 ≤ C by omega); have := Nat.mul_le_mul_right 3 hi; simp only [Nat.sub_mul] at *; omega
      · rw [show 0 + (i + 1) * 3 = i * 3 + 3 by omega]; exact (ins_grow lA lX lD).symm
      refine .nil ?_
      refine .then ?_
      refine .seq ?_
      refine .region ?_
      refine .v (.mv rfl) rfl ?_
      refine .v (.asn rfl) rfl ?_
      refine .nil ?_
      refine .then ?_
      refine .ret ?_
      refine .then_ret ?_
      exact .done _ [_] (.t1 rfl rfl) .rfl ⟨_, rfl, rfl, _, _, by simp; omega, Row.of (zs.drop (3 + (xs.length - i) * 3)) (by simp [List.flatMap_append, List.flatMap_cons, List.append_assoc]) (by simp only [List.length_drop, List.length_append, List.length_cons, List.length_take, hz]; simp only [Nat.sub_mul, Nat.add_mul, Nat.min_eq_left hi]; omega) (by simp; omega) hC2⟩ (keep (.cons_cons _ (.cons _ (.cons_cons _ .slnil))))
    · skip
      refine .nil ?_
      refine .then ?_
      refine .condF rfl ?_
      refine .skip ?_
      refine .then ?_
      refine .seq ?_
      refine .region ?_
      refine .v (.mv rfl) rfl ?_
      refine .v (.mv rfl) rfl ?_
      refine .v (.mv rfl) rfl ?_
      refine .v (.add rfl rfl (by omega)) rfl ?_
      refine .v (.sto (xs.length + 1) sl22 rfl rfl ⟨by omega, by omega⟩) rfl ?_
      refine .v (.asn rfl) rfl ?_
      refine .nil ?_
      refine .then ?_
      refine .seq ?_
      refine .seq ?_
      refine .region ?_
      refine .v (.mv rfl) rfl ?_
      refine .v (.mv rfl) rfl ?_
      refine .v (.mv rfl) rfl ?_
      refine .v (.mv rfl) rfl ?_
      refine .v (.add rfl rfl (by omega)) rfl ?_
      refine .v (.sfo (i + 1) sl22 rfl rfl ⟨by omega, by omega, by omega⟩) rfl ?_
      refine .v (.own rfl rfl (fun w R ho => run_overlaps (tR := 4) Try.func48 (by kernel_rfl) (by kernel_rfl) (by kernel_rfl) (by kernel_rfl) sl22 ho hx0 (Inn.one .here R) (by rw [List.length_append, lP]; have := Nat.mul_le_mul_right 3 hlt; omega))) rfl ?_
      refine .v (.not rfl) rfl ?_
      refine .nil ?_
      refine .then ?_
      refine .condT rfl ?_
      refine .seq ?_
      refine .draw [[], [], [], [1, 2], [0, 3], [], [], [5, 6], [4, 7]] [] (by kernel_rfl) (by kernel_rfl) rfl (e1 := [(0, _), (1, _), (2, _), (6, _), (7, _), (8, _)]) (.cons rfl rfl (.cons rfl rfl (.cons rfl rfl (.cons rfl rfl (.cons rfl rfl (.cons rfl rfl .nil)))))) (fun x hx => by cases hx) rfl ?_
      refine .v (i := 0) [] rfl rfl rfl .nil (.n (.mv rfl)) ?_
      refine .v (i := 1) [] rfl rfl rfl .nil (.n (.mv rfl)) ?_
      refine .v (i := 2) [] rfl rfl rfl .nil (.n (.mv rfl)) ?_
      refine .v (i := 3) [(70, _), (71, _)] rfl rfl rfl (.cons (.tail _ (.head _)) rfl rfl (.cons (.head _) rfl rfl .nil)) (.n (.add rfl rfl (by omega))) ?_
      refine .v (i := 4) [(69, _), (72, _)] rfl rfl rfl (.cons (.tail _ (.tail _ (.tail _ (.head _)))) rfl rfl (.cons (.head _) rfl rfl .nil)) (.n (.sfo (i + 1) sl22 rfl rfl ⟨by omega, by omega, by omega⟩)) ?_
      refine .v (i := 5) [] rfl rfl rfl .nil (.n (.mv rfl)) ?_
      refine .v (i := 6) [] rfl rfl rfl .nil (.n (.mv rfl)) ?_
      refine .v (i := 7) [(74, _), (75, _)] rfl rfl rfl (.cons (.tail _ (.head _)) rfl rfl (.cons (.head _) rfl rfl .nil)) (.n (.sfo (i) sl22 rfl rfl ⟨by omega, by omega, by omega⟩)) ?_
      refine .tail0 8 [[8, 4, 7, 0, 3, 5, 6, 1, 2]] rfl rfl rfl rfl (e' := [(76, _), (75, _), (74, _), (73, _), (72, _), (71, _), (70, _), (69, _), (0, _), (1, _), (2, _), (6, _), (7, _), (8, _)]) rfl ?_
      refine .cp (.cpy (vs := ((xs.drop i).flatMap encF)) (cs' := (xs.flatMap encF ++ pad).take (i * 3 + 3) ++ ((xs.drop i).flatMap encF) ++ (xs.flatMap encF ++ pad).drop (i * 3 + 3 + (xs.length - i) * 3)) (xs.length - i) sl22 rfl rfl (by simp only [Nat.min_def]; split <;> omega) lD (encF_ok.fone _) (fun w R ho j v hj => ⟨_, rfl, by rw [add_at, ho.cell (Inn.one .here R), Nat.zero_add, ← List.getElem?_drop, hD]; rw [List.getElem?_append_left (List.getElem?_eq_some_iff.1 hj).1]; exact hj⟩) (fun h => by cases h) (by rw [List.length_append, lP, hp]; have := Nat.mul_le_mul_right 3 (show xs.length + 1 ≤ c by omega); simp only [Nat.sub_mul] at *; omega) (by rw [show 0 + (i + 1) * 3 = i * 3 + 3 by omega]) .here) rfl ?_
      refine .nil ?_
      refine .then ?_
      refine .seq ?_
      refine .region ?_
      refine .v (.mv rfl) rfl ?_
      refine .v (.mv rfl) rfl ?_
      refine .v (.sfo (i) sl22 rfl rfl ⟨by omega, by omega, by omega⟩) rfl ?_
      refine .v (.mv rfl) rfl ?_
      refine .cp (.cpy (vs := encF x) (cs' := ((xs.take i).flatMap encF) ++ encF x ++ ((xs.drop i).flatMap encF) ++ pad.drop 3) 1 sl22 rfl rfl (by show Nat.min 1 (xs.length + 1 - i) = 1; simp only [Nat.min_def]; split <;> omega) (by rw [lX]) (encF_ok.one x) (fun w R ho j v hj => ⟨_, rfl, by rw [add_at]; exact hx.cell ho hj⟩) (fun h => by cases h) ?_ ?_ .here) rfl ?_
      · simp only [List.length_append, List.length_take, List.length_drop, lP, hp, lD]; have := Nat.mul_le_mul_right 3 (show xs.length + 1 ≤ c by omega); have := Nat.mul_le_mul_right 3 hi; simp only [Nat.sub_mul] at *; omega
      · rw [show 0 + i * 3 + 1 * 3 = i * 3 + 3 by omega, Nat.zero_add, show xs.flatMap encF ++ pad = ((xs.take i).flatMap encF) ++ ((xs.drop i).flatMap encF) ++ pad by rw [← List.flatMap_append, List.take_append_drop]]; exact (ins_room lA lX lD (by rw [hp]; have := Nat.mul_le_mul_right 3 (show 1 ≤ c - xs.length by omega); omega)).symm
      refine .nil ?_
      refine .then ?_
      refine .seq ?_
      refine .region ?_
      refine .v (.mv rfl) rfl ?_
      refine .v (.asn rfl) rfl ?_
      refine .nil ?_
      refine .then ?_
      refine .ret ?_
      refine .then_ret ?_
      exact .done _ [_] (.t1 rfl rfl) .rfl ⟨_, rfl, rfl, _, _, by simp; omega, Row.of (pad.drop 3) (by simp [List.flatMap_append, List.flatMap_cons, List.append_assoc]) (by simp only [List.length_drop, List.length_append, List.length_cons, List.length_take, hp]; simp only [Nat.sub_mul, Nat.add_mul, Nat.min_eq_left hi]; omega) (by simp; omega) hr.max⟩ (keep (.cons_cons _ (.cons_cons _ .slnil)))
theorem delete_F (xs : List Fl) (i : Nat) (a : Option Addr) (c : Nat) (it : Itm) (F : Mem) (hr : Row 50 encF 3 a c xs it) (hi : i < xs.length) : Fn Try.prog 38 #[.slice a xs.length c, .int .i64 i, .int .i64 ((i : Int) + 1)] [it] F (fun v M G => ∃ it', M = [it'] ∧ G = F ∧ ∃ a' c', v = .slice a' (xs.take i ++ xs.drop (i + 1)).length c' ∧ Row 50 encF 3 a' c' (xs.take i ++ xs.drop (i + 1)) it') := by
  have hm := hr.len
  have hmx := hr.max
  obtain ⟨b0, pad, rfl, rfl, hp⟩ := hr.blk (by omega)
  have hcap := hr.cap
  have hA := encF_ok.take xs pad i (by omega)
  have lA : ((xs.take i).flatMap encF).length = i * 3 := by rw [encF_ok.fl, List.length_take, Nat.min_eq_left (by omega)]
  have lV : ((xs.drop (i + 1)).flatMap encF).length = (xs.length - (i + 1)) * 3 := by rw [encF_ok.fl, List.length_drop]
  have lP : (xs.flatMap encF).length = xs.length * 3 := encF_ok.fl xs
  refine Fn.start1 Try.func38 rfl Try.ntmps38 rfl (env := [(0, _), (1, _), (2, _)]) rfl ?_
  intro R
  refine .seq ?_
  refine .region ?_
  refine .v (.asn rfl) rfl ?_
  refine .nil ?_
  refine .then ?_
  refine .seq ?_
  refine .region ?_
  refine .v (.mv rfl) rfl ?_
  refine .v (.mv rfl) rfl ?_
  refine .v (.mv rfl) rfl ?_
  refine .v (.mv rfl) rfl ?_
  refine .v (.lenl Try.underlying22 rfl) rfl ?_
  refine .v (.slIn3 sl22 rfl rfl rfl rfl ⟨by omega, by omega, by omega, by omega⟩) rfl ?_
  refine .nil ?_
  refine .then ?_
  refine .seq ?_
  refine .seq ?_
  refine .region ?_
  refine .v (.mv rfl) rfl ?_
  refine .v (.mv rfl) rfl ?_
  refine .vF (.eq rfl rfl) rfl (by omega) ?_
  refine .nil ?_
  refine .then ?_
  refine .condF rfl ?_
  refine .skip ?_
  refine .then ?_
  refine .seq ?_
  refine .region ?_
  refine .v (.mv rfl) rfl ?_
  refine .v (.lenl Try.underlying22 rfl) rfl ?_
  refine .v (.asn rfl) rfl ?_
  refine .nil ?_
  refine .then ?_
  refine .seq ?_
  refine .draw [[], [], [0, 1], [], [], [3, 4], [2, 5], [6, 6, 0, 1, 2, 3, 4, 5, 6]] [] (by kernel_rfl) (by kernel_rfl) rfl (e1 := [(0, _), (1, _), (2, _), (6, _), (7, _)]) (.cons rfl rfl (.cons rfl rfl (.cons rfl rfl (.cons rfl rfl (.cons rfl rfl .nil))))) (fun x hx => by cases hx) rfl ?_
  refine .v (i := 0) [] rfl rfl rfl .nil (.n (.mv rfl)) ?_
  refine .v (i := 1) [] rfl rfl rfl .nil (.n (.mv rfl)) ?_
  refine .v (i := 2) [(20, _), (21, _)] rfl rfl rfl (.cons (.tail _ (.head _)) rfl rfl (.cons (.head _) rfl rfl .nil)) (.n (.sto i sl22 rfl rfl ⟨by omega, by omega⟩)) ?_
  refine .v (i := 3) [] rfl rfl rfl .nil (.n (.mv rfl)) ?_
  refine .v (i := 4) [] rfl rfl rfl .nil (.n (.mv rfl)) ?_
  refine .v (i := 5) [(23, _), (24, _)] rfl rfl rfl (.cons (.tail _ (.head _)) rfl rfl (.cons (.head _) rfl rfl .nil)) (.n (.sfd (i + 1) sl22 rfl rfl ⟨by omega, by omega⟩)) ?_
  refine .tail0 6 [[6, 2, 5, 0, 1, 3, 4], [7, 6, 0, 1, 2, 3, 4, 5]] rfl rfl rfl rfl (e' := [(25, _), (24, _), (23, _), (22, _), (21, _), (20, _), (0, _), (1, _), (2, _), (6, _), (7, _)]) rfl ?_
  have hcA := Nat.mul_le_mul_right 3 hcap
  refine .cp (.apc (vs := ((xs.drop (i + 1)).flatMap encF)) (cs' := (((xs.take i).flatMap encF) ++ ((xs.drop (i + 1)).flatMap encF) ++ (xs.flatMap encF ++ pad).drop (i * 3 + (xs.length - (i + 1)) * 3))) (xs.length - (i + 1)) sl22 rfl rfl ⟨rfl, by omega⟩ lV (encF_ok.fone _) ?_ ?_ ?_ (by rw [hA]) .here) rfl ?_
  · intro w R ho j v hj
    have hjl := (List.getElem?_eq_some_iff.1 hj).1
    have hne : ¬ (c = i + 1) := fun e => by rw [lV, show xs.length - (i + 1) = 0 by omega] at hjl; omega
    refine ⟨⟨b0, (i + 1) * 3, none⟩, ?_, ?_⟩
    · simp [hne, add_at]
    · rw [add_at, ho.cell (Inn.one .here R), ← List.getElem?_drop, encF_ok.drop xs pad (i + 1) (by omega), List.getElem?_append_left hjl]; exact hj
  · intro h; by_cases e : c = i + 1 <;> simp [e] at h
  · rw [List.length_append, lP, hp]; have := Nat.mul_le_mul_right 3 (show i + 1 ≤ xs.length by omega); simp only [Nat.sub_mul] at *; omega
  refine .v (.asn rfl) rfl ?_
  refine .nil ?_
  refine .then ?_
  refine .seq ?_
  refine .region ?_
  refine .v (.mv rfl) rfl ?_
  refine .v (.mv rfl) rfl ?_
  refine .v (.lenl Try.underlying22 rfl) rfl ?_
  refine .v (.mv rfl) rfl ?_
  refine .v (.sio (i + (xs.length - (i + 1))) xs.length sl22 rfl rfl rfl ⟨by omega, by omega, by omega, by omega, by omega⟩) rfl ?_
  obtain ⟨zz, hzz⟩ : ∃ zz, zz = (Builtin.zeroCells ((.agg #[(.int .i64 0), (.string ⟨#[]⟩), (.string ⟨#[]⟩)] : Value)).cells (xs.length - (i + (xs.length - (i + 1))))).toList := ⟨_, rfl⟩
  have lZ : zz.length = 3 := by rw [hzz, zeroCells_length, show xs.length - (i + (xs.length - (i + 1))) = 1 by omega]; rfl
  refine .cp0 (.clr (cs' := ((xs.take i).flatMap encF) ++ ((xs.drop (i + 1)).flatMap encF) ++ (zz ++ pad)) sl22 ty50 rfl rfl rfl rfl (by omega) ?_ zz hzz ?_ .here) ?_
  · simp only [List.length_append, List.length_drop, lA, lV, lP, hp]; have := Nat.mul_le_mul_right 3 hcap; have := Nat.mul_le_mul_right 3 (show i + 1 ≤ xs.length by omega); rw [show xs.length - (i + (xs.length - (i + 1))) = 1 by omega]; simp only [Nat.sub_mul, Nat.add_mul] at *; omega
  · exact (del_cells lA lV lP (by have := Nat.mul_le_mul_right 3 (show i + 1 ≤ xs.length by omega); simp only [Nat.sub_mul, Nat.add_mul] at *; omega) (by simp only [Nat.sub_mul, Nat.add_mul, Nat.zero_add]) (by rw [show xs.length - (i + (xs.length - (i + 1))) = 1 by omega]; have := Nat.mul_le_mul_right 3 (show i + 1 ≤ xs.length by omega); simp only [Nat.sub_mul, Nat.add_mul, Nat.zero_add] at *; omega)).symm
  refine .nil ?_
  refine .then ?_
  refine .seq ?_
  refine .region ?_
  refine .v (.mv rfl) rfl ?_
  refine .v (.asn rfl) rfl ?_
  refine .nil ?_
  refine .then ?_
  refine .ret ?_
  exact .done _ [_] (.t1 rfl rfl) .rfl ⟨_, rfl, rfl, _, _, by simp; omega, Row.of (zz ++ pad) (by simp [List.flatMap_append, List.append_assoc]) (by simp only [List.length_append, List.length_drop, List.length_take, lZ, hp]; rw [Nat.min_eq_left (by omega)]; have := Nat.mul_le_mul_right 3 hcap; have := Nat.mul_le_mul_right 3 (show i + 1 ≤ xs.length by omega); simp only [Nat.sub_mul, Nat.add_mul] at *; omega) (by simp; omega) hr.max⟩ (keep (.cons_cons _ (.cons_cons _ .slnil)))
theorem append_fn (d : Dk) (a : Option Addr) (c : Nat) (F : Mem) (hS : Sl F encF 3 a c d.files) (hb : tot d.files ≤ 4611686018427387904) (id : Int) (s : ByteArray) : Fn Try.prog 27 #[dval a c d, .int .i64 id, .string s] [] F (fun v M G => M = [] ∧ ∃ a' c', v = .tuple #[dval a' c' (append d id s).1, .int .i64 (append d id s).2] ∧ Sl G encF 3 a' c' (append d id s).1.files) := by
  refine Fn.start0 Try.func27 rfl Try.ntmps27 rfl (env := [(0, _), (1, _), (2, _)]) rfl ?_
  intro R
  refine .seq ?_
  refine .region ?_
  refine .nb (.box rfl rfl) rfl (fun b1 => ?_)
  refine .nb (.alloc ty24 rfl) rfl (fun b2 => ?_)
  refine .v (.asn rfl) rfl ?_
  refine .nil ?_
  refine .then ?_
  refine .seq ?_
  refine .seq ?_
  refine .region ?_
  refine .v (.ldw ty24 rfl (.there .here) rfl) rfl ?_
  refine .v (.mv rfl) rfl ?_
  refine .v (.call rfl rfl (Try.call35 _) (fun G hle hG => ready_fn d a c G (hS.mono hle) hb _)) rfl ?_
  refine .v (.asn rfl) rfl ?_
  refine .nil ?_
  refine .then ?_
  refine .seq ?_
  refine .region ?_
  refine .v (.mv rfl) rfl ?_
  refine .vs (.ne rfl rfl) rfl (fun h16_3 => ?_) (fun h16_3 => ?_)
  · skip
    refine .nil ?_
    refine .then ?_
    refine .condT rfl ?_
    refine .seq ?_
    refine .region ?_
    refine .v (.ldw ty24 rfl (.there .here) rfl) rfl ?_
    refine .v (.mv rfl) rfl ?_
    refine .st (.stw ty24 rfl rfl rfl rfl rfl .here) ?_
    refine .v (.asn rfl) rfl ?_
    refine .nil ?_
    refine .then ?_
    refine .ret ?_
    refine .then_ret ?_
    rw [show append d id s = _ from if_pos h16_3]
    exact .done _ [] (.ct rfl ty24 rfl .here rfl rfl) .rfl ⟨rfl, a, c, rfl, hS⟩ (Inn.keep (.there (.there .here)))
  · skip
    have hz : ready d id = 0 := Decidable.not_not.1 h16_3
    obtain ⟨hrt, hdn, hid⟩ := ready_zero hz
    obtain ⟨hsf, htot, hleft⟩ := right_files hrt
    have hlen := right_len hsf
    refine .nil ?_
    refine .then ?_
    refine .condF rfl ?_
    refine .skip ?_
    refine .then ?_
    refine .seq ?_
    refine .seq ?_
    refine .region ?_
    refine .v (.mv rfl) rfl ?_
    refine .v (.lens Try.underlying9 rfl) rfl ?_
    refine .v (.ldw ty24 rfl (.there .here) rfl) rfl ?_
    refine .v (.call rfl rfl (Try.call40 _) (fun G hle hG => size_fn d a c G (hS.mono hle) hb)) rfl ?_
    refine .v (.sub rfl rfl (by omega)) rfl ?_
    refine .vs (.gt rfl rfl) rfl (fun h24_4 => ?_) (fun h24_4 => ?_)
    · skip
      refine .nil ?_
      refine .then ?_
      refine .condT rfl ?_
      refine .seq ?_
      refine .region ?_
      refine .v (.ldw ty24 rfl (.there .here) rfl) rfl ?_
      refine .st (.stw ty24 rfl rfl rfl rfl rfl .here) ?_
      refine .v (.asn rfl) rfl ?_
      refine .nil ?_
      refine .then ?_
      refine .ret ?_
      refine .then_ret ?_
      rw [show append d id s = _ from (by unfold append; rw [if_neg (by simp [hz]), if_pos h24_4])]
      exact .done _ [] (.ct rfl ty24 rfl .here rfl rfl) .rfl ⟨rfl, a, c, rfl, hS⟩ (Inn.keep (.there (.there .here)))
    · skip
      refine .nil ?_
      refine .then ?_
      refine .condF rfl ?_
      refine .skip ?_
      refine .then ?_
      refine .seq ?_
      refine .region ?_
      refine .v (.ldw ty24 rfl (.there .here) rfl) rfl ?_
      obtain ⟨d1, ok, hsp⟩ : ∃ d1 ok, spend d = (d1, ok) := ⟨_, _, rfl⟩
      have hdf := spend_files hsp
      have hS1 : Sl F encF 3 a c d1.files := by rw [hdf]; exact hS
      refine .v (.call rfl rfl (Try.call37 _) (fun G hle hG => spend_fn d a c G (hS.mono hle) d1 ok hsp (by omega))) rfl ?_
      refine .v (.mv rfl) rfl ?_
      refine .v (.ext rfl rfl) rfl ?_
      refine .v (.ext rfl rfl) rfl ?_
      refine .st (.stw ty24 rfl rfl rfl rfl rfl (.there .here)) ?_
      refine .v (.asn rfl) rfl ?_
      refine .nil ?_
      refine .then ?_
      refine .seq ?_
      refine .seq ?_
      refine .region ?_
      refine .v (.mv rfl) rfl ?_
      refine .v (.not rfl) rfl ?_
      refine .nil ?_
      refine .then ?_
      refine .cs (t := 32) rfl (fun c32_5 => ?_) (fun c32_5 => ?_)
      · skip
        refine .condT rfl ?_
        refine .seq ?_
        refine .region ?_
        refine .v (.ldw ty24 rfl (.there .here) rfl) rfl ?_
        refine .st (.stw ty24 rfl rfl rfl rfl rfl .here) ?_
        refine .v (.asn rfl) rfl ?_
        refine .nil ?_
        refine .then ?_
        refine .ret ?_
        refine .then_ret ?_
        rw [show append d id s = _ from (by unfold append; rw [if_neg (by simp [hz]), if_neg h24_4, hsp, if_pos (by simpa using c32_5)])]
        exact .done _ [] (.ct rfl ty24 rfl .here rfl rfl) .rfl ⟨rfl, a, c, rfl, hS1⟩ (Inn.keep (.there (.there .here)))
      · skip
        refine .condF rfl ?_
        refine .skip ?_
        refine .then ?_
        refine .seq ?_
        refine .region ?_
        refine .v (.ldw ty24 rfl (.there .here) rfl) rfl ?_
        refine .v (.mv rfl) rfl ?_
        refine .v (.call rfl rfl (Try.call36 _) (fun G hle hG => find_fn d1 a c G (hS1.mono hle) (by rw [hdf]; exact hsf) _ hid (by rw [hdf]; omega))) rfl ?_
        refine .v (.mv rfl) rfl ?_
        refine .v (.ext rfl rfl) rfl ?_
        refine .v (.ext rfl rfl) rfl ?_
        refine .v (.asn rfl) rfl ?_
        refine .v (.asn rfl) rfl ?_
        refine .nil ?_
        refine .then ?_
        refine .seq ?_
        refine .region ?_
        refine .v (.fa0 fl24_0 rfl) rfl ?_
        refine .v (.ldb ty22 rfl (.there .here) rfl) rfl ?_
        refine .lend (.make rfl rfl (Try.call39 _) (fun G hle hG => (clone_F d1.files a c G (hS1.mono hle) (by rw [hdf]; omega)).mono (fun v M H _ ⟨it, h1, _, h2⟩ => ⟨it, h1, h2⟩))) rfl ?_
        rintro _ it1 ⟨a1, c1, rfl, hr1⟩
        refine .v (.fa0 fl24_0 rfl) rfl ?_
        refine .st (.stb ty22 rfl rfl rfl st0 (.there (.there .here))) ?_
        refine .nil ?_
        refine .then ?_
        refine .seq ?_
        refine .seq ?_
        refine .region ?_
        refine .v (.mv rfl) rfl ?_
        refine .v (.not rfl) rfl ?_
        refine .nil ?_
        refine .then ?_
        refine .cs (t := 45) rfl (fun c45_6 => ?_) (fun c45_6 => ?_)
        · skip
          refine .condT rfl ?_
          refine .region ?_
          refine .v (.fa0 fl24_0 rfl) rfl ?_
          refine .v (.ldb ty22 rfl (.there (.there .here)) rfl) rfl ?_
          refine .v (.mv rfl) rfl ?_
          refine .v (.mv rfl) rfl ?_
          refine .v (.build rfl (fun w => bd50_0 w _)) rfl ?_
          refine .nb (.lit1 sl22 ty50 rfl rfl rfl rfl rfl) rfl (fun b7 => ?_)
          refine .lend (.lend rfl rfl (Try.call41 _) _ (fun _ => (.there .here)) (fun G hle hG => (insert_F d1.files ⟨_, ⟨#[]⟩, ⟨#[]⟩⟩ (pos d1.files id) a1 c1 it1 b7 G hr1 (hG ⟨b7, 50, _⟩ (Inn.ob .here)) (pos_le _ _) (by rw [hdf]; omega)).mono (fun v M H _ ⟨it, h1, _, h2⟩ => ⟨it, h1, h2⟩))) rfl ?_
          rintro _ it2 ⟨a2, c2, rfl, hr2⟩
          refine .v (.fa0 fl24_0 rfl) rfl ?_
          refine .st (.stb ty22 rfl rfl rfl st0 (.there (.there (.there .here)))) ?_
          refine .nil ?_
          refine .then ?_
          refine .seq ?_
          refine .region ?_
          have hth : there d1.files id = false := by simpa using c45_6
          have hput : putFile d1.files id = (d1.files.take (pos d1.files id) ++ ⟨id, ⟨#[]⟩, ⟨#[]⟩⟩ :: d1.files.drop (pos d1.files id)) := by rw [putFile, hth]; rfl
          obtain ⟨f, hf, hfl⟩ := putFile_get (l := d1.files) (id := id) (by rw [hdf]; exact hsf)
          rw [hput] at hf
          rw [hdf] at hfl
          have hfi := (List.getElem?_eq_some_iff.1 hf).1
          obtain ⟨b2, pad2, rfl, rfl, hp2⟩ := hr2.blk (by omega)
          refine .v (.fa0 fl24_0 rfl) rfl ?_
          refine .v (.ldb ty22 rfl (.there (.there (.there .here))) rfl) rfl ?_
          refine .v (.mv rfl) rfl ?_
          refine .v (.ixo sl22 rfl rfl (pos d1.files id) ⟨rfl, hfi⟩) rfl ?_
          refine .v (.fae fl50_2 rfl) rfl ?_
          refine .v (.ldb ty9 rfl (.there .here) (encF_ok.get (d1.files.take (pos d1.files id) ++ ⟨id, ⟨#[]⟩, ⟨#[]⟩⟩ :: d1.files.drop (pos d1.files id)) _ f hf pad2 2 _ rfl)) rfl ?_
          refine .v (.mv rfl) rfl ?_
          refine .v (.cat rfl rfl (by omega)) rfl ?_
          refine .v (.ixo sl22 rfl rfl (pos d1.files id) ⟨rfl, hfi⟩) rfl ?_
          refine .v (.fae fl50_2 rfl) rfl ?_
          refine .st (.stp (vs := [.string (f.loose ++ s)]) (cs' := ((d1.files.take (pos d1.files id) ++ ⟨id, ⟨#[]⟩, ⟨#[]⟩⟩ :: d1.files.drop (pos d1.files id)).set (pos d1.files id) ⟨f.id, f.firm, f.loose ++ s⟩).flatMap encF ++ pad2) ty9 rfl rfl rfl rfl (by simp [Value.oneCell']) (by rw [List.length_append, encF_ok.fl]; omega) (encF_ok.put1 hf (by decide) rfl) (.there .here)) ?_
          refine .nil ?_
          refine .then ?_
          refine .seq ?_
          refine .region ?_
          refine .v (.ldw ty24 rfl (.there (.there (.there .here))) rfl) rfl ?_
          refine .st (.stw ty24 rfl rfl rfl rfl rfl (.there (.there .here))) ?_
          refine .v (.asn rfl) rfl ?_
          refine .nil ?_
          refine .then ?_
          refine .ret ?_
          refine .freeze (it := [⟨b2, 50, _⟩]) (.there .here) (fun G hle hG => ?_)
          have hrz : Row 50 encF 3 (some ⟨b2, 0, none⟩) c2 ((d1.files.take (pos d1.files id) ++ ⟨id, ⟨#[]⟩, ⟨#[]⟩⟩ :: d1.files.drop (pos d1.files id)).set (pos d1.files id) ⟨f.id, f.firm, f.loose ++ s⟩) _ := Row.of pad2 rfl (by rw [List.length_set]; exact hp2) (by rw [List.length_set]; exact hr2.cap) hr2.max
          have hval : append d id s = (⟨(d1.files.take (pos d1.files id) ++ ⟨id, ⟨#[]⟩, ⟨#[]⟩⟩ :: d1.files.drop (pos d1.files id)).set (pos d1.files id) ⟨f.id, f.firm, f.loose ++ s⟩, d1.left, d1.armed, d1.down⟩, 0) := by
            unfold append
            rw [if_neg (by simp [hz]), if_neg h24_4, hsp, if_neg (by simpa using c32_5), ← hdf, hput, modify_set _ hf]
          rw [show append d id s = _ from hval]
          exact .done _ [] (.ct rfl ty24 rfl (.there (.there .here)) rfl rfl) hle ⟨rfl, _, c2, by simp, hrz.sl encF_ok hG⟩ (Inn.keep (.there (.there (.there (.there .here)))))
        · skip
          refine .condF rfl ?_
          refine .skip ?_
          refine .then ?_
          refine .seq ?_
          refine .region ?_
          have hth : there d1.files id = true := by simpa using c45_6
          have hput : putFile d1.files id = d1.files := by rw [putFile, hth]; rfl
          have hr2 := hr1
          obtain ⟨f, hf, hfl⟩ := putFile_get (l := d1.files) (id := id) (by rw [hdf]; exact hsf)
          rw [hput] at hf
          rw [hdf] at hfl
          have hfi := (List.getElem?_eq_some_iff.1 hf).1
          obtain ⟨b2, pad2, rfl, rfl, hp2⟩ := hr2.blk (by omega)
          refine .v (.fa0 fl24_0 rfl) rfl ?_
          refine .v (.ldb ty22 rfl (.there (.there .here)) rfl) rfl ?_
          refine .v (.mv rfl) rfl ?_
          refine .v (.ixo sl22 rfl rfl (pos d1.files id) ⟨rfl, hfi⟩) rfl ?_
          refine .v (.fae fl50_2 rfl) rfl ?_
          refine .v (.ldb ty9 rfl .here (encF_ok.get d1.files _ f hf pad2 2 _ rfl)) rfl ?_
          refine .v (.mv rfl) rfl ?_
          refine .v (.cat rfl rfl (by omega)) rfl ?_
          refine .v (.ixo sl22 rfl rfl (pos d1.files id) ⟨rfl, hfi⟩) rfl ?_
          refine .v (.fae fl50_2 rfl) rfl ?_
          refine .st (.stp (vs := [.string (f.loose ++ s)]) (cs' := (d1.files.set (pos d1.files id) ⟨f.id, f.firm, f.loose ++ s⟩).flatMap encF ++ pad2) ty9 rfl rfl rfl rfl (by simp [Value.oneCell']) (by rw [List.length_append, encF_ok.fl]; omega) (encF_ok.put1 hf (by decide) rfl) .here) ?_
          refine .nil ?_
          refine .then ?_
          refine .seq ?_
          refine .region ?_
          refine .v (.ldw ty24 rfl (.there (.there .here)) rfl) rfl ?_
          refine .st (.stw ty24 rfl rfl rfl rfl rfl (.there .here)) ?_
          refine .v (.asn rfl) rfl ?_
          refine .nil ?_
          refine .then ?_
          refine .ret ?_
          refine .freeze (it := [⟨b2, 50, _⟩]) .here (fun G hle hG => ?_)
          have hrz : Row 50 encF 3 (some ⟨b2, 0, none⟩) c1 (d1.files.set (pos d1.files id) ⟨f.id, f.firm, f.loose ++ s⟩) _ := Row.of pad2 rfl (by rw [List.length_set]; exact hp2) (by rw [List.length_set]; exact hr2.cap) hr2.max
          have hval : append d id s = (⟨d1.files.set (pos d1.files id) ⟨f.id, f.firm, f.loose ++ s⟩, d1.left, d1.armed, d1.down⟩, 0) := by
            unfold append
            rw [if_neg (by simp [hz]), if_neg h24_4, hsp, if_neg (by simpa using c32_5), ← hdf, hput, modify_set _ hf]
          rw [show append d id s = _ from hval]
          exact .done _ [] (.ct rfl ty24 rfl (.there .here) rfl rfl) hle ⟨rfl, _, c1, by simp, hrz.sl encF_ok hG⟩ (Inn.keep (.there (.there (.there .here))))
theorem sync_fn (d : Dk) (a : Option Addr) (c : Nat) (F : Mem) (hS : Sl F encF 3 a c d.files) (hb : tot d.files ≤ 4611686018427387904) (id : Int) : Fn Try.prog 28 #[dval a c d, .int .i64 id] [] F (fun v M G => M = [] ∧ ∃ a' c', v = .tuple #[dval a' c' (sync d id).1, .int .i64 (sync d id).2] ∧ Sl G encF 3 a' c' (sync d id).1.files) := by
  refine Fn.start0 Try.func28 rfl Try.ntmps28 rfl (env := [(0, _), (1, _)]) rfl ?_
  intro R
  refine .seq ?_
  refine .region ?_
  refine .nb (.box rfl rfl) rfl (fun b1 => ?_)
  refine .nb (.alloc ty24 rfl) rfl (fun b2 => ?_)
  refine .v (.asn rfl) rfl ?_
  refine .nil ?_
  refine .then ?_
  refine .seq ?_
  refine .seq ?_
  refine .region ?_
  refine .v (.ldw ty24 rfl (.there .here) rfl) rfl ?_
  refine .v (.mv rfl) rfl ?_
  refine .v (.call rfl rfl (Try.call35 _) (fun G hle hG => ready_fn d a c G (hS.mono hle) hb _)) rfl ?_
  refine .v (.asn rfl) rfl ?_
  refine .nil ?_
  refine .then ?_
  refine .seq ?_
  refine .region ?_
  refine .v (.mv rfl) rfl ?_
  refine .vs (.ne rfl rfl) rfl (fun h14_3 => ?_) (fun h14_3 => ?_)
  · skip
    refine .nil ?_
    refine .then ?_
    refine .condT rfl ?_
    refine .seq ?_
    refine .region ?_
    refine .v (.ldw ty24 rfl (.there .here) rfl) rfl ?_
    refine .v (.mv rfl) rfl ?_
    refine .st (.stw ty24 rfl rfl rfl rfl rfl .here) ?_
    refine .v (.asn rfl) rfl ?_
    refine .nil ?_
    refine .then ?_
    refine .ret ?_
    refine .then_ret ?_
    rw [show sync d id = _ from if_pos h14_3]
    exact .done _ [] (.ct rfl ty24 rfl .here rfl rfl) .rfl ⟨rfl, a, c, rfl, hS⟩ (Inn.keep (.there (.there .here)))
  · skip
    have hz : ready d id = 0 := Decidable.not_not.1 h14_3
    obtain ⟨hrt, hdn, hid⟩ := ready_zero hz
    obtain ⟨hsf, htot, hleft⟩ := right_files hrt
    have hlen := right_len hsf
    refine .nil ?_
    refine .then ?_
    refine .condF rfl ?_
    refine .skip ?_
    refine .then ?_
    refine .seq ?_
    refine .region ?_
    refine .v (.ldw ty24 rfl (.there .here) rfl) rfl ?_
    refine .v (.mv rfl) rfl ?_
    refine .v (.call rfl rfl (Try.call36 _) (fun G hle hG => find_fn d a c G (hS.mono hle) hsf _ hid (by omega))) rfl ?_
    refine .v (.mv rfl) rfl ?_
    refine .v (.ext rfl rfl) rfl ?_
    refine .v (.ext rfl rfl) rfl ?_
    refine .v (.asn rfl) rfl ?_
    refine .v (.asn rfl) rfl ?_
    refine .nil ?_
    refine .then ?_
    refine .seq ?_
    refine .seq ?_
    refine .region ?_
    refine .v (.mv rfl) rfl ?_
    refine .v (.not rfl) rfl ?_
    refine .nil ?_
    refine .then ?_
    refine .cs (t := 24) rfl (fun c24_4 => ?_) (fun c24_4 => ?_)
    · skip
      refine .condT rfl ?_
      refine .seq ?_
      refine .region ?_
      refine .v (.ldw ty24 rfl (.there .here) rfl) rfl ?_
      refine .st (.stw ty24 rfl rfl rfl rfl rfl .here) ?_
      refine .v (.asn rfl) rfl ?_
      refine .nil ?_
      refine .then ?_
      refine .ret ?_
      refine .then_ret ?_
      rw [show sync d id = _ from (by unfold sync; rw [if_neg (by simp [hz]), if_pos (by simpa using c24_4)])]
      exact .done _ [] (.ct rfl ty24 rfl .here rfl rfl) .rfl ⟨rfl, a, c, rfl, hS⟩ (Inn.keep (.there (.there .here)))
    · skip
      refine .condF rfl ?_
      refine .skip ?_
      refine .then ?_
      refine .seq ?_
      refine .region ?_
      refine .v (.ldw ty24 rfl (.there .here) rfl) rfl ?_
      obtain ⟨d1, ok, hsp⟩ : ∃ d1 ok, spend d = (d1, ok) := ⟨_, _, rfl⟩
      have hdf := spend_files hsp
      have hS1 : Sl F encF 3 a c d1.files := by rw [hdf]; exact hS
      refine .v (.call rfl rfl (Try.call37 _) (fun G hle hG => spend_fn d a c G (hS.mono hle) d1 ok hsp (by omega))) rfl ?_
      refine .v (.mv rfl) rfl ?_
      refine .v (.ext rfl rfl) rfl ?_
      refine .v (.ext rfl rfl) rfl ?_
      refine .st (.stw ty24 rfl rfl rfl rfl rfl (.there .here)) ?_
      refine .v (.asn rfl) rfl ?_
      refine .nil ?_
      refine .then ?_
      refine .seq ?_
      refine .seq ?_
      refine .region ?_
      refine .v (.mv rfl) rfl ?_
      refine .v (.not rfl) rfl ?_
      refine .nil ?_
      refine .then ?_
      refine .cs (t := 32) rfl (fun c32_5 => ?_) (fun c32_5 => ?_)
      · skip
        refine .condT rfl ?_
        refine .seq ?_
        refine .region ?_
        refine .v (.ldw ty24 rfl (.there .here) rfl) rfl ?_
        refine .st (.stw ty24 rfl rfl rfl rfl rfl .here) ?_
        refine .v (.asn rfl) rfl ?_
        refine .nil ?_
        refine .then ?_
        refine .ret ?_
        refine .then_ret ?_
        rw [show sync d id = _ from (by unfold sync; rw [if_neg (by simp [hz]), if_neg (by simpa using c24_4), hsp, if_pos (by simpa using c32_5)])]
        exact .done _ [] (.ct rfl ty24 rfl .here rfl rfl) .rfl ⟨rfl, a, c, rfl, hS1⟩ (Inn.keep (.there (.there .here)))
      · skip
        refine .condF rfl ?_
        refine .skip ?_
        refine .then ?_
        refine .seq ?_
        refine .region ?_
        refine .v (.fa0 fl24_0 rfl) rfl ?_
        refine .v (.ldb ty22 rfl (.there .here) rfl) rfl ?_
        refine .lend (.make rfl rfl (Try.call39 _) (fun G hle hG => (clone_F d1.files a c G (hS1.mono hle) (by rw [hdf]; omega)).mono (fun v M H _ ⟨it, h1, _, h2⟩ => ⟨it, h1, h2⟩))) rfl ?_
        rintro _ it1 ⟨a1, c1, rfl, hr1⟩
        have hth : there d.files id = true := by simpa using c24_4
        obtain ⟨f, hf0, _⟩ := there_get hsf hth
        have hf : d1.files[pos d.files id]? = some f := by rw [hdf]; exact hf0
        have hfi := (List.getElem?_eq_some_iff.1 hf).1
        have hft := tot_get hf0
        obtain ⟨b2, pad2, rfl, rfl, hp2⟩ := hr1.blk (by omega)
        have hf1 : (d1.files.set (pos d.files id) ⟨f.id, f.firm ++ f.loose, f.loose⟩)[pos d.files id]? = some ⟨f.id, f.firm ++ f.loose, f.loose⟩ := by rw [List.getElem?_set_self hfi]
        refine .v (.fa0 fl24_0 rfl) rfl ?_
        refine .st (.stb ty22 rfl rfl rfl st0 (.there (.there .here))) ?_
        refine .nil ?_
        refine .then ?_
        refine .seq ?_
        refine .draw [[], [0], [], [1, 2], [3], [4], [], [6], [], [7, 8], [9], [10], [5, 11], [1, 2, 0, 1, 2, 3, 4, 5, 6, 7, 8, 9, 10, 11, 12], [13, 0, 1, 2, 3, 4, 5, 6, 7, 8, 9, 10, 11, 12], [14, 12, 0, 1, 2, 3, 4, 5, 6, 7, 8, 9, 10, 11, 12]] [] (by kernel_rfl) (by kernel_rfl) rfl (e1 := [(2, _), (4, _), (5, _), (7, _)]) (.cons rfl rfl (.cons rfl rfl (.cons rfl rfl (.cons rfl rfl .nil)))) (fun x hx => by cases hx) rfl ?_
        refine .v (i := 0) [] rfl rfl rfl .nil (.n (.fa0 fl24_0 rfl)) ?_
        refine .v (i := 1) [(38, _)] rfl rfl rfl (.cons (.head _) rfl rfl .nil) (.n (.ldb ty22 rfl (.there (.there .here)) rfl)) ?_
        refine .v (i := 2) [] rfl rfl rfl .nil (.n (.mv rfl)) ?_
        refine .v (i := 3) [(39, _), (40, _)] rfl rfl rfl (.cons (.tail _ (.head _)) rfl rfl (.cons (.head _) rfl rfl .nil)) (.n (.ixo sl22 rfl rfl (pos d.files id) ⟨rfl, hfi⟩)) ?_
        refine .v (i := 4) [(41, _)] rfl rfl rfl (.cons (.head _) rfl rfl .nil) (.n (.fae fl50_1 rfl)) ?_
        refine .v (i := 5) [(42, _)] rfl rfl rfl (.cons (.head _) rfl rfl .nil) (.n (.ldb ty9 rfl .here (encF_ok.get d1.files _ f hf pad2 1 _ rfl))) ?_
        refine .v (i := 6) [] rfl rfl rfl .nil (.n (.fa0 fl24_0 rfl)) ?_
        refine .v (i := 7) [(44, _)] rfl rfl rfl (.cons (.head _) rfl rfl .nil) (.n (.ldb ty22 rfl (.there (.there .here)) rfl)) ?_
        refine .v (i := 8) [] rfl rfl rfl .nil (.n (.mv rfl)) ?_
        refine .v (i := 9) [(45, _), (46, _)] rfl rfl rfl (.cons (.tail _ (.head _)) rfl rfl (.cons (.head _) rfl rfl .nil)) (.n (.ixo sl22 rfl rfl (pos d.files id) ⟨rfl, hfi⟩)) ?_
        refine .v (i := 10) [(47, _)] rfl rfl rfl (.cons (.head _) rfl rfl .nil) (.n (.fae fl50_2 rfl)) ?_
        refine .v (i := 11) [(48, _)] rfl rfl rfl (.cons (.head _) rfl rfl .nil) (.n (.ldb ty9 rfl .here (encF_ok.get d1.files _ f hf pad2 2 _ rfl))) ?_
        refine .tail0 12 [[12, 5, 11, 4, 10, 3, 9, 1, 2, 7, 8, 0, 6], [13, 1, 2, 0, 3, 4, 5, 6, 7, 8, 9, 10, 11, 12], [14, 13, 0, 1, 2, 3, 4, 5, 6, 7, 8, 9, 10, 11, 12], [15, 14, 12, 0, 1, 2, 3, 4, 5, 6, 7, 8, 9, 10, 11, 13]] rfl rfl rfl rfl (e' := [(49, _), (48, _), (47, _), (46, _), (45, _), (44, _), (43, _), (42, _), (41, _), (40, _), (39, _), (38, _), (2, _), (4, _), (5, _), (7, _)]) rfl ?_
        refine .v (.cat rfl rfl (by omega)) rfl ?_
        refine .v (.ixo sl22 rfl rfl (pos d.files id) ⟨rfl, hfi⟩) rfl ?_
        refine .v (.fae fl50_1 rfl) rfl ?_
        refine .st (.stp (vs := [.string (f.firm ++ f.loose)]) (cs' := (d1.files.set (pos d.files id) ⟨f.id, f.firm ++ f.loose, f.loose⟩).flatMap encF ++ pad2) ty9 rfl rfl rfl rfl (by simp [Value.oneCell']) (by rw [List.length_append, encF_ok.fl]; omega) (encF_ok.put1 hf (by decide) rfl) .here) ?_
        refine .nil ?_
        refine .then ?_
        refine .seq ?_
        refine .region ?_
        refine .v (.fa0 fl24_0 rfl) rfl ?_
        refine .v (.ldb ty22 rfl (.there (.there .here)) rfl) rfl ?_
        refine .v (.mv rfl) rfl ?_
        refine .v (.ixo sl22 rfl rfl (pos d.files id) ⟨rfl, hfi⟩) rfl ?_
        refine .v (.fae fl50_2 rfl) rfl ?_
        refine .st (.stp (vs := [.string ⟨#[]⟩]) (cs' := ((d1.files.set (pos d.files id) ⟨f.id, f.firm ++ f.loose, f.loose⟩).set (pos d.files id) ⟨f.id, f.firm ++ f.loose, ⟨#[]⟩⟩).flatMap encF ++ pad2) ty9 rfl rfl rfl rfl (by simp [Value.oneCell']) (by rw [List.length_append, encF_ok.fl, List.length_set]; omega) (encF_ok.put1 hf1 (by decide) rfl) .here) ?_
        refine .nil ?_
        refine .then ?_
        refine .seq ?_
        refine .region ?_
        refine .v (.ldw ty24 rfl (.there (.there .here)) rfl) rfl ?_
        refine .st (.stw ty24 rfl rfl rfl rfl rfl (.there .here)) ?_
        refine .v (.asn rfl) rfl ?_
        refine .nil ?_
        refine .then ?_
        refine .ret ?_
        refine .freeze (it := [⟨b2, 50, _⟩]) .here (fun G hle hG => ?_)
        have hss : (d1.files.set (pos d.files id) ⟨f.id, f.firm ++ f.loose, f.loose⟩).set (pos d.files id) ⟨f.id, f.firm ++ f.loose, ⟨#[]⟩⟩ = d1.files.set (pos d.files id) ⟨f.id, f.firm ++ f.loose, ⟨#[]⟩⟩ := List.set_set ..
        rw [hss] at hG
        have hrz : Row 50 encF 3 (some ⟨b2, 0, none⟩) c1 (d1.files.set (pos d.files id) ⟨f.id, f.firm ++ f.loose, ⟨#[]⟩⟩) _ := Row.of pad2 rfl (by rw [List.length_set]; exact hp2) (by rw [List.length_set]; exact hr1.cap) hr1.max
        have hval : sync d id = (⟨d1.files.set (pos d.files id) ⟨f.id, f.firm ++ f.loose, ⟨#[]⟩⟩, d1.left, d1.armed, d1.down⟩, 0) := by
          unfold sync
          rw [if_neg (by simp [hz]), if_neg (by simpa using c24_4), hsp, if_neg (by simpa using c32_5), ← hdf, modify_set _ (by rw [hdf]; exact hf0), hdf]
        rw [show sync d id = _ from hval]
        exact .done _ [] (.ct rfl ty24 rfl (.there .here) rfl rfl) hle ⟨rfl, _, c1, by simp, hrz.sl encF_ok hG⟩ (Inn.keep (.there (.there (.there .here))))
theorem remove_fn (d : Dk) (a : Option Addr) (c : Nat) (F : Mem) (hS : Sl F encF 3 a c d.files) (hb : tot d.files ≤ 4611686018427387904) (id : Int) : Fn Try.prog 26 #[dval a c d, .int .i64 id] [] F (fun v M G => M = [] ∧ ∃ a' c', v = .tuple #[dval a' c' (remove d id).1, .int .i64 (remove d id).2] ∧ Sl G encF 3 a' c' (remove d id).1.files) := by
  refine Fn.start0 Try.func26 rfl Try.ntmps26 rfl (env := [(0, _), (1, _)]) rfl ?_
  intro R
  refine .seq ?_
  refine .region ?_
  refine .nb (.box rfl rfl) rfl (fun b1 => ?_)
  refine .nb (.alloc ty24 rfl) rfl (fun b2 => ?_)
  refine .v (.asn rfl) rfl ?_
  refine .nil ?_
  refine .then ?_
  refine .seq ?_
  refine .seq ?_
  refine .region ?_
  refine .v (.ldw ty24 rfl (.there .here) rfl) rfl ?_
  refine .v (.mv rfl) rfl ?_
  refine .v (.call rfl rfl (Try.call35 _) (fun G hle hG => ready_fn d a c G (hS.mono hle) hb _)) rfl ?_
  refine .v (.asn rfl) rfl ?_
  refine .nil ?_
  refine .then ?_
  refine .seq ?_
  refine .region ?_
  refine .v (.mv rfl) rfl ?_
  refine .vs (.ne rfl rfl) rfl (fun h14_3 => ?_) (fun h14_3 => ?_)
  · skip
    refine .nil ?_
    refine .then ?_
    refine .condT rfl ?_
    refine .seq ?_
    refine .region ?_
    refine .v (.ldw ty24 rfl (.there .here) rfl) rfl ?_
    refine .v (.mv rfl) rfl ?_
    refine .st (.stw ty24 rfl rfl rfl rfl rfl .here) ?_
    refine .v (.asn rfl) rfl ?_
    refine .nil ?_
    refine .then ?_
    refine .ret ?_
    refine .then_ret ?_
    rw [show remove d id = _ from if_pos h14_3]
    exact .done _ [] (.ct rfl ty24 rfl .here rfl rfl) .rfl ⟨rfl, a, c, rfl, hS⟩ (Inn.keep (.there (.there .here)))
  · skip
    have hz : ready d id = 0 := Decidable.not_not.1 h14_3
    obtain ⟨hrt, hdn, hid⟩ := ready_zero hz
    obtain ⟨hsf, htot, hleft⟩ := right_files hrt
    have hlen := right_len hsf
    refine .nil ?_
    refine .then ?_
    refine .condF rfl ?_
    refine .skip ?_
    refine .then ?_
    refine .seq ?_
    refine .region ?_
    refine .v (.ldw ty24 rfl (.there .here) rfl) rfl ?_
    refine .v (.mv rfl) rfl ?_
    refine .v (.call rfl rfl (Try.call36 _) (fun G hle hG => find_fn d a c G (hS.mono hle) hsf _ hid (by omega))) rfl ?_
    refine .v (.mv rfl) rfl ?_
    refine .v (.ext rfl rfl) rfl ?_
    refine .v (.ext rfl rfl) rfl ?_
    refine .v (.asn rfl) rfl ?_
    refine .v (.asn rfl) rfl ?_
    refine .nil ?_
    refine .then ?_
    refine .seq ?_
    refine .seq ?_
    refine .region ?_
    refine .v (.mv rfl) rfl ?_
    refine .v (.not rfl) rfl ?_
    refine .nil ?_
    refine .then ?_
    refine .cs (t := 24) rfl (fun c24_4 => ?_) (fun c24_4 => ?_)
    · skip
      refine .condT rfl ?_
      refine .seq ?_
      refine .region ?_
      refine .v (.ldw ty24 rfl (.there .here) rfl) rfl ?_
      refine .st (.stw ty24 rfl rfl rfl rfl rfl .here) ?_
      refine .v (.asn rfl) rfl ?_
      refine .nil ?_
      refine .then ?_
      refine .ret ?_
      refine .then_ret ?_
      rw [show remove d id = _ from (by unfold remove; rw [if_neg (by simp [hz]), if_pos (by simpa using c24_4)])]
      exact .done _ [] (.ct rfl ty24 rfl .here rfl rfl) .rfl ⟨rfl, a, c, rfl, hS⟩ (Inn.keep (.there (.there .here)))
    · skip
      refine .condF rfl ?_
      refine .skip ?_
      refine .then ?_
      refine .seq ?_
      refine .region ?_
      refine .v (.ldw ty24 rfl (.there .here) rfl) rfl ?_
      obtain ⟨d1, ok, hsp⟩ : ∃ d1 ok, spend d = (d1, ok) := ⟨_, _, rfl⟩
      have hdf := spend_files hsp
      have hS1 : Sl F encF 3 a c d1.files := by rw [hdf]; exact hS
      refine .v (.call rfl rfl (Try.call37 _) (fun G hle hG => spend_fn d a c G (hS.mono hle) d1 ok hsp (by omega))) rfl ?_
      refine .v (.mv rfl) rfl ?_
      refine .v (.ext rfl rfl) rfl ?_
      refine .v (.ext rfl rfl) rfl ?_
      refine .st (.stw ty24 rfl rfl rfl rfl rfl (.there .here)) ?_
      refine .v (.asn rfl) rfl ?_
      refine .nil ?_
      refine .then ?_
      refine .seq ?_
      refine .seq ?_
      refine .region ?_
      refine .v (.mv rfl) rfl ?_
      refine .v (.not rfl) rfl ?_
      refine .nil ?_
      refine .then ?_
      refine .cs (t := 32) rfl (fun c32_5 => ?_) (fun c32_5 => ?_)
      · skip
        refine .condT rfl ?_
        refine .seq ?_
        refine .region ?_
        refine .v (.ldw ty24 rfl (.there .here) rfl) rfl ?_
        refine .st (.stw ty24 rfl rfl rfl rfl rfl .here) ?_
        refine .v (.asn rfl) rfl ?_
        refine .nil ?_
        refine .then ?_
        refine .ret ?_
        refine .then_ret ?_
        rw [show remove d id = _ from (by unfold remove; rw [if_neg (by simp [hz]), if_neg (by simpa using c24_4), hsp, if_pos (by simpa using c32_5)])]
        exact .done _ [] (.ct rfl ty24 rfl .here rfl rfl) .rfl ⟨rfl, a, c, rfl, hS1⟩ (Inn.keep (.there (.there .here)))
      · skip
        refine .condF rfl ?_
        refine .skip ?_
        refine .then ?_
        refine .seq ?_
        refine .region ?_
        refine .v (.fa0 fl24_0 rfl) rfl ?_
        refine .v (.ldb ty22 rfl (.there .here) rfl) rfl ?_
        refine .lend (.make rfl rfl (Try.call39 _) (fun G hle hG => (clone_F d1.files a c G (hS1.mono hle) (by rw [hdf]; omega)).mono (fun v M H _ ⟨it, h1, _, h2⟩ => ⟨it, h1, h2⟩))) rfl ?_
        rintro _ it1 ⟨a1, c1, rfl, hr1⟩
        refine .v (.mv rfl) rfl ?_
        refine .v (.mv rfl) rfl ?_
        refine .v (.add rfl rfl (by have := pos_le d.files id; omega)) rfl ?_
        have hth : there d.files id = true := by simpa using c24_4
        obtain ⟨f, hf0, _⟩ := there_get hsf hth
        have hfi : pos d.files id < d1.files.length := by rw [hdf]; exact (List.getElem?_eq_some_iff.1 hf0).1
        refine .lend (.lend rfl rfl (Try.call38 _) _ (fun _ => .here) (fun G hle hG => (delete_F d1.files (pos d.files id) a1 c1 it1 G hr1 hfi).mono (fun v M H _ ⟨it, h1, _, h2⟩ => ⟨it, h1, h2⟩))) rfl ?_
        rintro _ it2 ⟨a2, c2, rfl, hr2⟩
        refine .v (.fa0 fl24_0 rfl) rfl ?_
        refine .st (.stb ty22 rfl rfl rfl st0 (.there (.there .here))) ?_
        refine .nil ?_
        refine .then ?_
        refine .seq ?_
        refine .region ?_
        refine .v (.ldw ty24 rfl (.there (.there .here)) rfl) rfl ?_
        refine .st (.stw ty24 rfl rfl rfl rfl rfl (.there .here)) ?_
        refine .v (.asn rfl) rfl ?_
        refine .nil ?_
        refine .then ?_
        refine .ret ?_
        refine .freeze (it := it2) .here (fun G hle hG => ?_)
        have hval : remove d id = (⟨d1.files.take (pos d.files id) ++ d1.files.drop (pos d.files id + 1), d1.left, d1.armed, d1.down⟩, 0) := by
          unfold remove
          rw [if_neg (by simp [hz]), if_neg (by simpa using c24_4), hsp, if_neg (by simpa using c32_5), ← hdf]
        rw [show remove d id = _ from hval]
        exact .done _ [] (.ct rfl ty24 rfl (.there .here) rfl rfl) hle ⟨rfl, _, c2, rfl, hr2.sl encF_ok hG⟩ (Inn.keep (.there (.there (.there .here))))
theorem text_fn (d : Dk) (a : Option Addr) (c : Nat) (F : Mem) (hS : Sl F encF 3 a c d.files) (hb : tot d.files ≤ 4611686018427387904) (id : Int) : Fn Try.prog 25 #[dval a c d, .int .i64 id] [] F (fun u _ _ => u = .tuple #[.string (text d id).1, .int .i64 (text d id).2]) := by
  refine Fn.start0 Try.func25 rfl Try.ntmps25 rfl (env := [(0, _), (1, _)]) rfl ?_
  intro R
  refine .seq ?_
  refine .region ?_
  refine .nb (.box rfl rfl) rfl (fun b1 => ?_)
  refine .v (.asn rfl) rfl ?_
  refine .v (.asn rfl) rfl ?_
  refine .nil ?_
  refine .then ?_
  refine .seq ?_
  refine .seq ?_
  refine .region ?_
  refine .v (.ldw ty24 rfl .here rfl) rfl ?_
  refine .v (.mv rfl) rfl ?_
  refine .v (.call rfl rfl (Try.call35 _) (fun G hle hG => ready_fn d a c G (hS.mono hle) hb _)) rfl ?_
  refine .v (.asn rfl) rfl ?_
  refine .nil ?_
  refine .then ?_
  refine .seq ?_
  refine .region ?_
  refine .v (.mv rfl) rfl ?_
  refine .vs (.ne rfl rfl) rfl (fun h13_2 => ?_) (fun h13_2 => ?_)
  · skip
    refine .nil ?_
    refine .then ?_
    refine .condT rfl ?_
    refine .seq ?_
    refine .region ?_
    refine .v (.mv rfl) rfl ?_
    refine .v (.asn rfl) rfl ?_
    refine .v (.asn rfl) rfl ?_
    refine .nil ?_
    refine .then ?_
    refine .ret ?_
    refine .then_ret ?_
    exact .done _ [] (.t2 rfl rfl rfl) .rfl (by rw [show text d id = _ from if_pos h13_2]) (Inn.keep (.there .here))
  · skip
    have hz : ready d id = 0 := Decidable.not_not.1 h13_2
    obtain ⟨hrt, hdn, hid⟩ := ready_zero hz
    obtain ⟨hsf, htot, hleft⟩ := right_files hrt
    have hlen := right_len hsf
    refine .nil ?_
    refine .then ?_
    refine .condF rfl ?_
    refine .skip ?_
    refine .then ?_
    refine .seq ?_
    refine .region ?_
    refine .v (.ldw ty24 rfl .here rfl) rfl ?_
    refine .v (.mv rfl) rfl ?_
    refine .v (.call rfl rfl (Try.call36 _) (fun G hle hG => find_fn d a c G (hS.mono hle) hsf _ hid (by omega))) rfl ?_
    refine .v (.mv rfl) rfl ?_
    refine .v (.ext rfl rfl) rfl ?_
    refine .v (.ext rfl rfl) rfl ?_
    refine .v (.asn rfl) rfl ?_
    refine .v (.asn rfl) rfl ?_
    refine .nil ?_
    refine .then ?_
    refine .seq ?_
    refine .seq ?_
    refine .region ?_
    refine .v (.mv rfl) rfl ?_
    refine .v (.not rfl) rfl ?_
    refine .nil ?_
    refine .then ?_
    refine .cs (t := 22) rfl (fun c22_3 => ?_) (fun c22_3 => ?_)
    · skip
      refine .condT rfl ?_
      refine .seq ?_
      refine .region ?_
      refine .v (.asn rfl) rfl ?_
      refine .v (.asn rfl) rfl ?_
      refine .nil ?_
      refine .then ?_
      refine .ret ?_
      refine .then_ret ?_
      exact .done _ [] (.t2 rfl rfl rfl) .rfl (by rw [show text d id = (⟨#[]⟩, 8) from by unfold text; rw [if_neg (by simp [hz])]; exact text_none (by simpa using c22_3)]) (Inn.keep (.there .here))
    · skip
      refine .condF rfl ?_
      refine .skip ?_
      refine .then ?_
      refine .seq ?_
      refine .draw [[], [0], [], [1, 2], [3], [4], [], [6], [], [7, 8], [9], [10], [5, 11], [12, 0, 1, 2, 3, 4, 5, 6, 7, 8, 9, 10, 11, 12], [13, 0, 1, 2, 3, 4, 5, 6, 7, 8, 9, 10, 11, 12, 13]] [] (by kernel_rfl) (by kernel_rfl) rfl (e1 := [(2, _), (4, _), (5, _), (7, _)]) (.cons rfl rfl (.cons rfl rfl (.cons rfl rfl (.cons rfl rfl .nil)))) (fun x hx => by cases hx) rfl ?_
      have hth : there d.files id = true := by simpa using c22_3
      obtain ⟨f, hf, _⟩ := there_get hsf hth
      have hft := tot_get hf
      refine .v (i := 0) [] rfl rfl rfl .nil (.n (.fa0 fl24_0 rfl)) ?_
      refine .v (i := 1) [(23, _)] rfl rfl rfl (.cons (.head _) rfl rfl .nil) (.n (.ldb ty22 rfl .here rfl)) ?_
      refine .v (i := 2) [] rfl rfl rfl .nil (.n (.mv rfl)) ?_
      refine .ix (i := 3) (j := ((pos d.files id : Nat) : Int)) [(24, _), (25, _)] rfl rfl rfl (.cons (.tail _ (.head _)) rfl rfl (.cons (.head _) rfl rfl .nil)) hS f ⟨by omega, hf⟩ (fun b_ o_ hr_ ha_ hle_ => .n (.ixs sl22 rfl rfl ⟨by omega, hf⟩ ha_ hle_)) (fun p4 o5 r6 => ?_)
      refine .v (i := 4) [(26, _)] rfl rfl rfl (.cons (.head _) rfl rfl .nil) (.n (.fae fl50_1 rfl)) ?_
      refine .v (i := 5) [(27, _)] rfl rfl rfl (.cons (.head _) rfl rfl .nil) (.n (.ldr (j := 1) ty9 rfl r6 rfl)) ?_
      refine .v (i := 6) [] rfl rfl rfl .nil (.n (.fa0 fl24_0 rfl)) ?_
      refine .v (i := 7) [(29, _)] rfl rfl rfl (.cons (.head _) rfl rfl .nil) (.n (.ldb ty22 rfl .here rfl)) ?_
      refine .v (i := 8) [] rfl rfl rfl .nil (.n (.mv rfl)) ?_
      refine .ix (i := 9) (j := ((pos d.files id : Nat) : Int)) [(30, _), (31, _)] rfl rfl rfl (.cons (.tail _ (.head _)) rfl rfl (.cons (.head _) rfl rfl .nil)) hS f ⟨by omega, hf⟩ (fun b_ o_ hr_ ha_ hle_ => .n (.ixs sl22 rfl rfl ⟨by omega, hf⟩ ha_ hle_)) (fun p7 o8 r9 => ?_)
      refine .v (i := 10) [(32, _)] rfl rfl rfl (.cons (.head _) rfl rfl .nil) (.n (.fae fl50_2 rfl)) ?_
      refine .v (i := 11) [(33, _)] rfl rfl rfl (.cons (.head _) rfl rfl .nil) (.n (.ldr (j := 2) ty9 rfl r9 rfl)) ?_
      refine .tail0 12 [[12, 5, 11, 4, 10, 3, 9, 1, 2, 7, 8, 0, 6], [13, 12, 0, 1, 2, 3, 4, 5, 6, 7, 8, 9, 10, 11], [14, 13, 0, 1, 2, 3, 4, 5, 6, 7, 8, 9, 10, 11, 12]] rfl rfl rfl rfl (e' := [(34, _), (33, _), (32, _), (31, _), (30, _), (29, _), (28, _), (27, _), (26, _), (25, _), (24, _), (23, _), (2, _), (4, _), (5, _), (7, _)]) rfl ?_
      refine .v (.cat rfl rfl (by omega)) rfl ?_
      refine .v (.asn rfl) rfl ?_
      refine .v (.asn rfl) rfl ?_
      refine .nil ?_
      refine .then ?_
      refine .ret ?_
      exact .done _ [] (.t2 rfl rfl rfl) .rfl (by rw [show text d id = (f.firm ++ f.loose, 0) from by unfold text; rw [if_neg (by simp [hz]), hf]; exact if_neg (by simp [hth])]) (Inn.keep (.there .here))
theorem ids_fn (d : Dk) (a : Option Addr) (c : Nat) (F : Mem) (hS : Sl F encF 3 a c d.files) (hb : tot d.files ≤ 4611686018427387904) (hn : d.files.length * 40 ≤ 140737488355328) : Fn Try.prog 30 #[dval a c d] [] F (fun v M G => M = [] ∧ ∃ a' c', v = .slice a' (ids d).length c' ∧ Sl G encI 1 a' c' (ids d)) := by
  have hm := hS.len
  refine Fn.start0 Try.func30 rfl Try.ntmps30 rfl (env := [(0, _)]) rfl ?_
  intro R
  refine .seq ?_
  refine .region ?_
  refine .nb (.box rfl rfl) rfl (fun b1 => ?_)
  refine .v (.asn rfl) rfl ?_
  refine .nil ?_
  refine .then ?_
  refine .seq ?_
  refine .seq ?_
  refine .region ?_
  refine .v (.ldw ty24 rfl .here rfl) rfl ?_
  refine .vb (.call rfl rfl (Try.call29 _) (fun G hle hG => right_fn d a c G (hS.mono hle) hb)) rfl (fun h7_2 => ?_) (fun h7_2 => ?_)
  · skip
    refine .v (.not rfl) rfl ?_
    refine .v (.mv rfl) rfl ?_
    refine .g rfl rfl rfl ?_
    refine .v (.fab fl24_3 rfl) rfl ?_
    refine .g rfl rfl rfl ?_
    refine .v (.ldb ty4 rfl .here rfl) rfl ?_
    refine .v (.pkF rfl rfl) rfl ?_
    refine .nil ?_
    refine .then ?_
    refine .cs (t := 12) rfl (fun c12_3 => ?_) (fun c12_3 => ?_)
    · skip
      refine .condT rfl ?_
      refine .seq ?_
      refine .region ?_
      refine .v (.asn rfl) rfl ?_
      refine .nil ?_
      refine .then ?_
      refine .ret ?_
      refine .then_ret ?_
      exact .done _ [] (.t1 rfl rfl) .rfl ⟨rfl, none, 0, (by rw [show ids d = [] from by simp [ids, *]]; rfl), (by rw [show ids d = [] from by simp [ids, *]]; exact Sl.nil)⟩ (Inn.keep (.there .here))
    · skip
      refine .condF rfl ?_
      refine .skip ?_
      refine .then ?_
      refine .seq ?_
      refine .region ?_
      refine .v (.asn rfl) rfl ?_
      refine .nil ?_
      refine .then ?_
      refine .seq ?_
      refine .seq ?_
      refine .region ?_
      refine .v (.fa0 fl24_0 rfl) rfl ?_
      refine .v (.ldb ty22 rfl .here rfl) rfl ?_
      refine .v (.lenl Try.underlying22 rfl) rfl ?_
      refine .v (.mv rfl) rfl ?_
      refine .nil ?_
      refine .then ?_
      refine .block ?_
      refine WC.loopx (fx := [(2, _), (14, _), (15, _)]) (pre := []) (fm := [_, _]) rfl (.cons rfl rfl (.cons rfl rfl (.cons rfl rfl .nil))) (ι := Nat × Option Addr × Nat × Itm) (fun z => z.1 ≤ d.files.length ∧ Row 3 encI 1 z.2.1 z.2.2.1 ((d.files.take z.1).map (·.id)) z.2.2.2) (fun z => d.files.length - z.1) (fun z => [(3, .slice z.2.1 ((d.files.take z.1).map (·.id)).length z.2.2.1), (16, .int .i64 z.1)]) (fun z => [z.2.2.2]) (fun z => F) (0, none, 0, []) ⟨by omega, Row.nil⟩ ?he ?hm ?round
      case he => exact .cons rfl rfl (.cons rfl rfl (.cons rfl rfl (.cons rfl rfl (.cons rfl rfl .nil))))
      case hm => exact (fun _ h => h)
      case round =>
        intro z hk
        obtain ⟨k, a1, c1, it⟩ := z
        obtain ⟨hk, hr⟩ := hk
        dsimp only at hk hr ⊢
        dsimp only [List.cons_append, List.nil_append]
        refine .seq ?_
        refine .region ?_
        refine .vs (.lt rfl rfl) rfl (fun h17_4 => ?_) (fun h17_4 => ?_)
        · skip
          refine .nil ?_
          refine .then ?_
          refine .seq ?_
          refine .condT rfl ?_
          refine .skip ?_
          refine .then ?_
          refine .seq ?_
          refine .block ?_
          refine .seq ?_
          refine .region ?_
          obtain ⟨f, hf⟩ : ∃ y, d.files[k]? = some y := ⟨_, List.getElem?_eq_getElem (by omega)⟩
          refine .ix sl22 rfl rfl hS rfl f ⟨by omega, hf⟩ (fun p5 o6 r7 => ?_)
          refine .v (.ldrw ty50 rfl r7 rfl) rfl ?_
          refine .nb (.alloc ty50 rfl) rfl (fun b8 => ?_)
          refine .st (.stw ty50 rfl rfl rfl rfl rfl .here) ?_
          refine .nil ?_
          refine .then ?_
          refine .region ?_
          refine .v (.mv rfl) rfl ?_
          refine .v (.fa0 fl50_0 rfl) rfl ?_
          refine .v (.ldb ty3 rfl .here rfl) rfl ?_
          refine .nb (.lit1 sl59 ty3 rfl rfl rfl rfl rfl) rfl (fun b9 => ?_)
          refine .ap (.app1 (xs := (d.files.take k).map (·.id)) (f.id) sl59 ty3 rfl encI_ok rfl rfl hr .here (by rw [List.length_map, take_len hk]; omega) (by rw [List.length_map, take_len hk]; omega) _ (fun _ => (.there (.there .here)))) rfl (fun a2 c2 it2 hr2 => ?_)
          refine .v (.asn rfl) rfl ?_
          refine .nil ?_
          refine .blk ?_
          refine .then ?_
          refine .region ?_
          refine .v (.add rfl rfl (by omega)) rfl ?_
          refine .v (.mv rfl) rfl ?_
          refine .nil ?_
          exact .again (k + 1, a2, c2, it2) ⟨by omega, by rw [take_snoc hf, List.map_append]; exact hr2⟩ (by omega) (.cons rfl (by rw [take_snoc hf, List.map_append]; rfl) (.cons rfl rfl (.cons rfl rfl (.cons rfl rfl (.cons rfl rfl .nil))))) (fun w ho => by dsimp only [List.cons_append, List.nil_append]; skip; exact (subl (.cons _ (.cons _ (.cons_cons _ (.cons_cons _ (.cons_cons _ .slnil)))))) w ho)
        · skip
          refine .nil ?_
          refine .then ?_
          refine .seq ?_
          refine .condF rfl ?_
          refine .exit ?_
          refine .then_exit ?_
          refine .then_exit ?_
          refine .blk_exit ?_
          refine .then ?_
          refine .seq ?_
          refine .region ?_
          refine .v (.mv rfl) rfl ?_
          refine .v (.asn rfl) rfl ?_
          refine .nil ?_
          refine .then ?_
          refine .ret ?_
          obtain rfl : k = d.files.length := by omega
          have hval : (d.files.take d.files.length).map (·.id) = ids d := by rw [List.take_length]; simp [ids, *]
          rw [hval] at hr
          refine .freeze (it := it) .here (fun G hle hG => ?_)
          exact .done _ [] (.t1 rfl rfl) hle ⟨rfl, a1, c1, by rw [hval], hr.sl encI_ok hG⟩ (Inn.keep (.there (.there .here)))
  · skip
    refine .v (.not rfl) rfl ?_
    refine .v (.mv rfl) rfl ?_
    refine .gs rfl rfl rfl rfl ?_
    refine .gs rfl rfl rfl rfl ?_
    refine .v (.pkT rfl rfl) rfl ?_
    refine .nil ?_
    refine .then ?_
    refine .condT rfl ?_
    refine .seq ?_
    refine .region ?_
    refine .v (.asn rfl) rfl ?_
    refine .nil ?_
    refine .then ?_
    refine .ret ?_
    refine .then_ret ?_
    exact .done _ [] (.t1 rfl rfl) .rfl ⟨rfl, none, 0, (by rw [show ids d = [] from by simp [ids, *]]; rfl), (by rw [show ids d = [] from by simp [ids, *]]; exact Sl.nil)⟩ (Inn.keep (.there .here))
end Go.Proofs.Ytggkhcdilbdifaa.Ow
