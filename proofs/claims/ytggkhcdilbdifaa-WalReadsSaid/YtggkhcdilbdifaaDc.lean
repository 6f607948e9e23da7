/- Walks. -/
import Derived.Test.YtggkhcdilbdifaaDa
namespace Go.Proofs.Ytggkhcdilbdifaa.Ow
open Go
set_option linter.unusedVariables false
theorem rnumber_fn (n : Int) (F : Mem) : Fn Try.prog 22 #[.int .i64 n] [] F (fun u _ _ => u = .bool (number n)) := by
  refine Fn.start0 Try.func22 rfl Try.ntmps22 rfl (env := [(0, _)]) rfl ?_
  intro R
  refine .seq ?_
  refine .region ?_
  refine .v (.asn rfl) rfl ?_
  refine .nil ?_
  refine .then ?_
  refine .seq ?_
  refine .region ?_
  refine .v (.mv rfl) rfl ?_
  refine .vs (.ge rfl rfl) rfl (fun h4_1 => ?_) (fun h4_1 => ?_)
  · skip
    refine .v (.mv rfl) rfl ?_
    refine .g rfl rfl rfl ?_
    refine .v (.mv rfl) rfl ?_
    refine .g rfl rfl rfl ?_
    refine .vs (.le rfl rfl) rfl (fun h7_2 => ?_) (fun h7_2 => ?_)
    · skip
      refine .v (.pkT rfl rfl) rfl ?_
      refine .v (.asn rfl) rfl ?_
      refine .nil ?_
      refine .then ?_
      refine .ret ?_
      exact .done _ [] (.t1 rfl rfl) .rfl (by simp [number, *]) (Inn.keep .here)
    · skip
      refine .v (.pkT rfl rfl) rfl ?_
      refine .v (.asn rfl) rfl ?_
      refine .nil ?_
      refine .then ?_
      refine .ret ?_
      exact .done _ [] (.t1 rfl rfl) .rfl (by simp [number, *]) (Inn.keep .here)
  · skip
    refine .v (.mv rfl) rfl ?_
    refine .gs rfl rfl rfl rfl ?_
    refine .gs rfl rfl rfl rfl ?_
    refine .v (.pkF rfl rfl) rfl ?_
    refine .v (.asn rfl) rfl ?_
    refine .nil ?_
    refine .then ?_
    refine .ret ?_
    exact .done _ [] (.t1 rfl rfl) .rfl (by simp [number, *]) (Inn.keep .here)
theorem rsize_fn (d : Dk) (a : Option Addr) (c : Nat) (F : Mem) (hS : Sl F encF 3 a c d.files) (hb : tot d.files ≤ 4611686018427387904) : Fn Try.prog 23 #[dval a c d] [] F (fun u _ _ => u = .int .i64 (tot d.files)) := by
  have hm := hS.len
  refine Fn.start0 Try.func23 rfl Try.ntmps23 rfl (env := [(0, _)]) rfl ?_
  intro R
  refine .seq ?_
  refine .region ?_
  refine .nb (.box rfl rfl) rfl (fun b1 => ?_)
  refine .v (.asn rfl) rfl ?_
  refine .nil ?_
  refine .then ?_
  refine .seq ?_
  refine .region ?_
  refine .v (.asn rfl) rfl ?_
  refine .nil ?_
  refine .then ?_
  refine .seq ?_
  refine .seq ?_
  refine .region ?_
  refine .v (.asn rfl) rfl ?_
  refine .nil ?_
  refine .then ?_
  refine .block ?_
  refine WC.loop0 (fx := [(1, _), (2, _)]) (.cons rfl rfl (.cons rfl rfl .nil)) (ι := Nat) (fun k => k ≤ d.files.length) (fun k => d.files.length - k) (fun k => [(3, .int .i64 (tot (d.files.take k))), (4, .int .i64 k)]) 0 (by omega) ?he ?round
  case he => exact .cons rfl rfl (.cons rfl rfl (.cons rfl rfl (.cons rfl rfl .nil)))
  case round =>
    intro k hk
    refine .seq ?_
    refine .seq ?_
    refine .region ?_
    refine .v (.mv rfl) rfl ?_
    refine .v (.fa0 fl27_0 rfl) rfl ?_
    refine .v (.ldb ty25 rfl .here rfl) rfl ?_
    refine .v (.lenl Try.underlying25 rfl) rfl ?_
    refine .vs (.lt rfl rfl) rfl (fun h9_2 => ?_) (fun h9_2 => ?_)
    · skip
      refine .nil ?_
      refine .then ?_
      refine .condT rfl ?_
      refine .skip ?_
      refine .then ?_
      refine .seq ?_
      refine .block ?_
      refine .draw [[], [], [1], [], [2, 3], [4], [5], [6], [], [8], [], [9, 10], [11], [12], [13], [7, 14], [0, 15], [16, 0, 1, 2, 3, 4, 5, 6, 7, 8, 9, 10, 11, 12, 13, 14, 15, 16]] [] (by kernel_rfl) (by kernel_rfl) rfl (e1 := [(1, _), (2, _), (3, _), (4, _)]) (.cons rfl rfl (.cons rfl rfl (.cons rfl rfl (.cons rfl rfl .nil)))) (fun x hx => by cases hx) rfl ?_
      refine .v (i := 0) [] rfl rfl rfl .nil (.n (.mv rfl)) ?_
      refine .v (i := 1) [] rfl rfl rfl .nil (.n (.fa0 fl27_0 rfl)) ?_
      refine .v (i := 2) [(13, _)] rfl rfl rfl (.cons (.head _) rfl rfl .nil) (.n (.ldb ty25 rfl .here rfl)) ?_
      refine .v (i := 3) [] rfl rfl rfl .nil (.n (.mv rfl)) ?_
      obtain ⟨f, hf⟩ : ∃ y, d.files[k]? = some y := ⟨_, List.getElem?_eq_getElem (by omega)⟩
      have h1 := tot_le hf
      have h2 := tot_take hf
      refine .ix (i := 4) (j := (k : Int)) [(14, _), (15, _)] rfl rfl rfl (.cons (.tail _ (.head _)) rfl rfl (.cons (.head _) rfl rfl .nil)) hS f ⟨by omega, hf⟩ (fun b_ o_ hr_ ha_ hle_ => .n (.ixs sl25 rfl rfl ⟨by omega, hf⟩ ha_ hle_)) (fun p3 o4 r5 => ?_)
      refine .v (i := 5) [(16, _)] rfl rfl rfl (.cons (.head _) rfl rfl .nil) (.n (.fae fl51_1 rfl)) ?_
      refine .v (i := 6) [(17, _)] rfl rfl rfl (.cons (.head _) rfl rfl .nil) (.n (.ldr (j := 1) ty9 rfl r5 rfl)) ?_
      refine .v (i := 7) [(18, _)] rfl rfl rfl (.cons (.head _) rfl rfl .nil) (.n (.lens Try.underlying9 rfl)) ?_
      refine .v (i := 8) [] rfl rfl rfl .nil (.n (.fa0 fl27_0 rfl)) ?_
      refine .v (i := 9) [(20, _)] rfl rfl rfl (.cons (.head _) rfl rfl .nil) (.n (.ldb ty25 rfl .here rfl)) ?_
      refine .v (i := 10) [] rfl rfl rfl .nil (.n (.mv rfl)) ?_
      refine .ix (i := 11) (j := (k : Int)) [(21, _), (22, _)] rfl rfl rfl (.cons (.tail _ (.head _)) rfl rfl (.cons (.head _) rfl rfl .nil)) hS f ⟨by omega, hf⟩ (fun b_ o_ hr_ ha_ hle_ => .n (.ixs sl25 rfl rfl ⟨by omega, hf⟩ ha_ hle_)) (fun p6 o7 r8 => ?_)
      refine .v (i := 12) [(23, _)] rfl rfl rfl (.cons (.head _) rfl rfl .nil) (.n (.fae fl51_2 rfl)) ?_
      refine .v (i := 13) [(24, _)] rfl rfl rfl (.cons (.head _) rfl rfl .nil) (.n (.ldr (j := 2) ty9 rfl r8 rfl)) ?_
      refine .v (i := 14) [(25, _)] rfl rfl rfl (.cons (.head _) rfl rfl .nil) (.n (.lens Try.underlying9 rfl)) ?_
      refine .v (i := 15) [(19, _), (26, _)] rfl rfl rfl (.cons (.tail _ (.tail _ (.tail _ (.tail _ (.tail _ (.tail _ (.tail _ (.head _)))))))) rfl rfl (.cons (.head _) rfl rfl .nil)) (.n (.add rfl rfl (by omega))) ?_
      refine .tail0 16 [[16, 0, 15, 7, 14, 6, 13, 5, 12, 4, 11, 2, 3, 9, 10, 1, 8], [17, 16, 0, 1, 2, 3, 4, 5, 6, 7, 8, 9, 10, 11, 12, 13, 14, 15]] rfl rfl rfl rfl (e' := [(27, _), (26, _), (25, _), (24, _), (23, _), (22, _), (21, _), (20, _), (19, _), (18, _), (17, _), (16, _), (15, _), (14, _), (13, _), (12, _), (1, _), (2, _), (3, _), (4, _)]) rfl ?_
      refine .v (.add rfl rfl (by omega)) rfl ?_
      refine .v (.asn rfl) rfl ?_
      refine .nil ?_
      refine .blk ?_
      refine .then ?_
      refine .region ?_
      refine .v (.mv rfl) rfl ?_
      refine .v (.add rfl rfl (by omega)) rfl ?_
      refine .v (.asn rfl) rfl ?_
      refine .nil ?_
      exact .again (k + 1) (by omega) (by omega) (.cons rfl (congrArg (Value.int .i64) (by omega)) (.cons rfl rfl (.cons rfl rfl (.cons rfl rfl .nil)))) (subl (.refl _))
    · skip
      refine .nil ?_
      refine .then ?_
      refine .condF rfl ?_
      refine .exit ?_
      refine .then_exit ?_
      refine .then_exit ?_
      refine .blk_exit ?_
      refine .then ?_
      refine .seq ?_
      refine .region ?_
      refine .v (.mv rfl) rfl ?_
      refine .v (.asn rfl) rfl ?_
      refine .nil ?_
      refine .then ?_
      refine .ret ?_
      exact .done _ [] (.t1 rfl rfl) .rfl (congrArg (Value.int .i64) (by obtain rfl : k = d.files.length := (by omega); simp)) (Inn.keep (.there .here))
theorem rright_fn (d : Dk) (a : Option Addr) (c : Nat) (F : Mem) (hS : Sl F encF 3 a c d.files) (hb : tot d.files ≤ 4611686018427387904) : Fn Try.prog 13 #[dval a c d] [] F (fun u _ _ => u = .bool (right d)) := by
  have hm := hS.len
  refine Fn.start0 Try.func13 rfl Try.ntmps13 rfl (env := [(0, _)]) rfl ?_
  intro R
  refine .seq ?_
  refine .region ?_
  refine .nb (.box rfl rfl) rfl (fun b1 => ?_)
  refine .v (.asn rfl) rfl ?_
  refine .nil ?_
  refine .then ?_
  refine .seq ?_
  refine .seq ?_
  refine .region ?_
  refine .v (.asn rfl) rfl ?_
  refine .nil ?_
  refine .then ?_
  refine .block ?_
  refine WC.loop0 (fx := [(1, _)]) (.cons rfl rfl .nil) (ι := Nat × Int) (fun x => x.1 ≤ d.files.length ∧ rightFrom (-1) d.files = rightFrom x.2 (d.files.drop x.1) ∧ (x.1 = 0 → x.2 = -1) ∧ (∀ g, 0 < x.1 → d.files[x.1 - 1]? = some g → x.2 = g.id)) (fun x => d.files.length - x.1) (fun x => [(3, .int .i64 x.1)]) (0, -1) ⟨by omega, rfl, fun _ => rfl, fun g h => absurd h (Nat.lt_irrefl _)⟩ ?he ?round
  case he => exact .cons rfl rfl (.cons rfl rfl .nil)
  case round =>
    intro x hk
    obtain ⟨k, last⟩ := x
    obtain ⟨hk, hk2, hk3, hk4⟩ := hk
    dsimp only at hk hk2 hk3 hk4 ⊢
    refine .seq ?_
    refine .seq ?_
    refine .region ?_
    refine .v (.mv rfl) rfl ?_
    refine .v (.fa0 fl27_0 rfl) rfl ?_
    refine .v (.ldb ty25 rfl .here rfl) rfl ?_
    refine .v (.lenl Try.underlying25 rfl) rfl ?_
    refine .vs (.lt rfl rfl) rfl (fun h8_2 => ?_) (fun h8_2 => ?_)
    · skip
      refine .nil ?_
      refine .then ?_
      refine .condT rfl ?_
      refine .skip ?_
      refine .then ?_
      refine .seq ?_
      refine .block ?_
      refine .seq ?_
      refine .draw [[], [0], [], [1, 2], [3], [4], [5], [6], [7, 6], [8], [9, 8], [10, 8, 8], [11], [12, 11], [11], [14, 11], [13, 15, 11], [16, 11], [17, 11], [11], [19, 11], [11], [20, 21, 11], [22, 11], [23, 11], [18, 24, 11], [11, 25, 8], [8, 26]] [] (by kernel_rfl) (by kernel_rfl) rfl (e1 := [(1, _), (3, _)]) (.cons rfl rfl (.cons rfl rfl .nil)) (fun x hx => by cases hx) rfl ?_
      refine .v (i := 0) [] rfl rfl rfl .nil (.n (.fa0 fl27_0 rfl)) ?_
      refine .v (i := 1) [(11, _)] rfl rfl rfl (.cons (.head _) rfl rfl .nil) (.n (.ldb ty25 rfl .here rfl)) ?_
      refine .v (i := 2) [] rfl rfl rfl .nil (.n (.mv rfl)) ?_
      obtain ⟨f, hf⟩ : ∃ y, d.files[k]? = some y := ⟨_, List.getElem?_eq_getElem (by omega)⟩
      have hdr := drop_get hf
      refine .ix (i := 3) (j := (k : Int)) [(12, _), (13, _)] rfl rfl rfl (.cons (.tail _ (.head _)) rfl rfl (.cons (.head _) rfl rfl .nil)) hS f ⟨by omega, hf⟩ (fun b_ o_ hr_ ha_ hle_ => .n (.ixs sl25 rfl rfl ⟨by omega, hf⟩ ha_ hle_)) (fun p3 o4 r5 => ?_)
      refine .v (i := 4) [(14, _)] rfl rfl rfl (.cons (.head _) rfl rfl .nil) (.n (.fa0 fl51_0 rfl)) ?_
      refine .v (i := 5) [(15, _)] rfl rfl rfl (.cons (.head _) rfl rfl .nil) (.n (.ldr0 ty3 rfl r5 rfl)) ?_
      refine .vb (i := 6) [(16, _)] rfl rfl rfl (.cons (.head _) rfl rfl .nil) (.n (.call rfl rfl (Try.call22 _) (fun G hle hG => rnumber_fn _ G))) (fun h17_6 => ?_) (fun h17_6 => ?_)
      · skip
        refine .v (i := 7) [(17, _)] rfl rfl rfl (.cons (.head _) rfl rfl .nil) (.n (.not rfl)) ?_
        refine .v (i := 8) [(18, _)] rfl rfl rfl (.cons (.head _) rfl rfl .nil) (.n (.mv rfl)) ?_
        refine .v (i := 9) [(19, _)] rfl rfl rfl (.cons (.head _) rfl rfl .nil) (.g rfl rfl rfl (.mv rfl)) ?_
        refine .vs (i := 10) [(20, _), (19, _)] rfl rfl rfl (.cons (.head _) rfl rfl (.cons (.tail _ (.head _)) rfl rfl .nil)) (.g rfl rfl rfl (.gt rfl rfl)) (fun h21_7 => ?_) (fun h21_7 => ?_)
        · skip
          refine .v (i := 11) [(21, _), (19, _)] rfl rfl rfl (.cons (.head _) rfl rfl (.cons (.tail _ (.tail _ (.head _))) rfl rfl .nil)) (.g rfl rfl rfl (.mv rfl)) ?_
          refine .v (i := 12) [(22, _)] rfl rfl rfl (.cons (.head _) rfl rfl .nil) (.g rfl rfl rfl (.fa0 fl27_0 rfl)) ?_
          refine .v (i := 13) [(23, _), (22, _)] rfl rfl rfl (.cons (.head _) rfl rfl (.cons (.tail _ (.head _)) rfl rfl .nil)) (.g rfl rfl rfl (.ldb ty25 rfl .here rfl)) ?_
          refine .v (i := 14) [(22, _)] rfl rfl rfl (.cons (.tail _ (.tail _ (.head _))) rfl rfl .nil) (.g rfl rfl rfl (.mv rfl)) ?_
          refine .v (i := 15) [(25, _), (22, _)] rfl rfl rfl (.cons (.head _) rfl rfl (.cons (.tail _ (.tail _ (.tail _ (.head _)))) rfl rfl .nil)) (.g rfl rfl rfl (.sub rfl rfl (by omega))) ?_
          obtain ⟨g, hg⟩ : ∃ y, d.files[k - 1]? = some y := ⟨_, List.getElem?_eq_getElem (by omega)⟩
          refine .ix (i := 16) (j := ((k : Int) - 1)) [(24, _), (26, _), (22, _)] rfl rfl rfl (.cons (.tail _ (.tail _ (.head _))) rfl rfl (.cons (.head _) rfl rfl (.cons (.tail _ (.tail _ (.tail _ (.tail _ (.head _))))) rfl rfl .nil))) hS g ⟨by omega, (by rw [show ((k : Int) - 1).toNat = k - 1 by omega]; exact hg)⟩ (fun b_ o_ hr_ ha_ hle_ => .g rfl rfl rfl (.ixs sl25 rfl rfl ⟨by omega, (by rw [show ((k : Int) - 1).toNat = k - 1 by omega]; exact hg)⟩ ha_ hle_)) (fun p8 o9 r10 => ?_)
          refine .v (i := 17) [(27, _), (22, _)] rfl rfl rfl (.cons (.head _) rfl rfl (.cons (.tail _ (.tail _ (.tail _ (.tail _ (.tail _ (.head _)))))) rfl rfl .nil)) (.g rfl rfl rfl (.fa0 fl51_0 rfl)) ?_
          refine .v (i := 18) [(28, _), (22, _)] rfl rfl rfl (.cons (.head _) rfl rfl (.cons (.tail _ (.tail _ (.tail _ (.tail _ (.tail _ (.tail _ (.head _))))))) rfl rfl .nil)) (.g rfl rfl rfl (.ldr0 ty3 rfl r10 rfl)) ?_
          refine .v (i := 19) [(22, _)] rfl rfl rfl (.cons (.tail _ (.tail _ (.tail _ (.tail _ (.tail _ (.tail _ (.tail _ (.head _)))))))) rfl rfl .nil) (.g rfl rfl rfl (.fa0 fl27_0 rfl)) ?_
          refine .v (i := 20) [(30, _), (22, _)] rfl rfl rfl (.cons (.head _) rfl rfl (.cons (.tail _ (.tail _ (.tail _ (.tail _ (.tail _ (.tail _ (.tail _ (.tail _ (.head _))))))))) rfl rfl .nil)) (.g rfl rfl rfl (.ldb ty25 rfl .here rfl)) ?_
          refine .v (i := 21) [(22, _)] rfl rfl rfl (.cons (.tail _ (.tail _ (.tail _ (.tail _ (.tail _ (.tail _ (.tail _ (.tail _ (.tail _ (.head _)))))))))) rfl rfl .nil) (.g rfl rfl rfl (.mv rfl)) ?_
          refine .ix (i := 22) (j := (k : Int)) [(31, _), (32, _), (22, _)] rfl rfl rfl (.cons (.tail _ (.head _)) rfl rfl (.cons (.head _) rfl rfl (.cons (.tail _ (.tail _ (.tail _ (.tail _ (.tail _ (.tail _ (.tail _ (.tail _ (.tail _ (.tail _ (.head _))))))))))) rfl rfl .nil))) hS f ⟨by omega, hf⟩ (fun b_ o_ hr_ ha_ hle_ => .g rfl rfl rfl (.ixs sl25 rfl rfl ⟨by omega, hf⟩ ha_ hle_)) (fun p11 o12 r13 => ?_)
          refine .v (i := 23) [(33, _), (22, _)] rfl rfl rfl (.cons (.head _) rfl rfl (.cons (.tail _ (.tail _ (.tail _ (.tail _ (.tail _ (.tail _ (.tail _ (.tail _ (.tail _ (.tail _ (.tail _ (.head _)))))))))))) rfl rfl .nil)) (.g rfl rfl rfl (.fa0 fl51_0 rfl)) ?_
          refine .v (i := 24) [(34, _), (22, _)] rfl rfl rfl (.cons (.head _) rfl rfl (.cons (.tail _ (.tail _ (.tail _ (.tail _ (.tail _ (.tail _ (.tail _ (.tail _ (.tail _ (.tail _ (.tail _ (.tail _ (.head _))))))))))))) rfl rfl .nil)) (.g rfl rfl rfl (.ldr0 ty3 rfl r13 rfl)) ?_
          refine .tail0 25 [[25, 18, 24, 11, 17, 23, 10, 8, 16, 22, 9, 7, 6, 13, 15, 20, 21, 5, 12, 14, 19, 4, 3, 1, 2, 0], [26, 11, 25, 8, 10, 18, 24, 7, 6, 9, 17, 23, 5, 16, 22, 4, 13, 15, 20, 21, 3, 12, 14, 19, 1, 2, 0], [27, 8, 26, 7, 6, 11, 25, 5, 10, 18, 24, 4, 9, 17, 23, 3, 16, 22, 1, 2, 13, 15, 20, 21, 0, 12, 14, 19]] rfl rfl rfl rfl (e' := [(35, _), (34, _), (33, _), (32, _), (31, _), (30, _), (29, _), (28, _), (27, _), (26, _), (25, _), (24, _), (23, _), (22, _), (21, _), (20, _), (19, _), (18, _), (17, _), (16, _), (15, _), (14, _), (13, _), (12, _), (11, _), (1, _), (3, _)]) rfl ?_
          refine .g rfl rfl rfl ?_
          refine .vs (.ge rfl rfl) rfl (fun h36_14 => ?_) (fun h36_14 => ?_)
          · skip
            refine .g rfl rfl rfl ?_
            refine .v (.pkT rfl rfl) rfl ?_
            refine .v (.pkF rfl rfl) rfl ?_
            refine .nil ?_
            refine .then ?_
            refine .condT rfl ?_
            refine .seq ?_
            refine .region ?_
            refine .v (.asn rfl) rfl ?_
            refine .nil ?_
            refine .then ?_
            refine .ret ?_
            refine .blk_ret ?_
            refine .then_ret ?_
            refine .then_ret ?_
            refine .blk_ret ?_
            refine .then_ret ?_
            exact .done _ [] (.t1 rfl rfl) .rfl (by have hgt : f.id ≤ last := (by rw [hk4 g (by omega) hg]; omega); rw [right, hk2, hdr, rightFrom, decide_eq_true hgt]; rfl) (Inn.keep (.there .here))
          · skip
            refine .g rfl rfl rfl ?_
            refine .v (.pkT rfl rfl) rfl ?_
            refine .v (.pkF rfl rfl) rfl ?_
            refine .nil ?_
            refine .then ?_
            refine .condF rfl ?_
            refine .skip ?_
            refine .blk ?_
            refine .then ?_
            refine .region ?_
            refine .v (.mv rfl) rfl ?_
            refine .v (.add rfl rfl (by omega)) rfl ?_
            refine .v (.asn rfl) rfl ?_
            refine .nil ?_
            exact .again (k + 1, f.id) (by have hgt : ¬ f.id ≤ last := (by rw [hk4 g (by omega) hg]; omega); exact ⟨by omega, by rw [hk2, hdr]; simp [rightFrom, h17_6, hgt], fun h => by simp at h, fun g _ hg => by rw [Nat.add_sub_cancel, hf] at hg; injection hg with hg; rw [hg]⟩) (by omega) (.cons rfl rfl (.cons rfl rfl .nil)) (subl (.refl _))
        · skip
          refine .v (i := 11) [(21, _), (19, _)] rfl rfl rfl (.cons (.head _) rfl rfl (.cons (.tail _ (.tail _ (.head _))) rfl rfl .nil)) (.g rfl rfl rfl (.mv rfl)) ?_
          refine .v (i := 12) [(22, _)] rfl rfl rfl (.cons (.head _) rfl rfl .nil) (.s rfl rfl rfl) ?_
          refine .v (i := 13) [(23, _), (22, _)] rfl rfl rfl (.cons (.head _) rfl rfl (.cons (.tail _ (.head _)) rfl rfl .nil)) (.s rfl rfl rfl) ?_
          refine .v (i := 14) [(22, _)] rfl rfl rfl (.cons (.tail _ (.tail _ (.head _))) rfl rfl .nil) (.s rfl rfl rfl) ?_
          refine .v (i := 15) [(25, _), (22, _)] rfl rfl rfl (.cons (.head _) rfl rfl (.cons (.tail _ (.tail _ (.tail _ (.head _)))) rfl rfl .nil)) (.s rfl rfl rfl) ?_
          refine .v (i := 16) [(24, _), (26, _), (22, _)] rfl rfl rfl (.cons (.tail _ (.tail _ (.head _))) rfl rfl (.cons (.head _) rfl rfl (.cons (.tail _ (.tail _ (.tail _ (.tail _ (.head _))))) rfl rfl .nil))) (.s rfl rfl rfl) ?_
          refine .v (i := 17) [(27, _), (22, _)] rfl rfl rfl (.cons (.head _) rfl rfl (.cons (.tail _ (.tail _ (.tail _ (.tail _ (.tail _ (.head _)))))) rfl rfl .nil)) (.s rfl rfl rfl) ?_
          refine .v (i := 18) [(28, _), (22, _)] rfl rfl rfl (.cons (.head _) rfl rfl (.cons (.tail _ (.tail _ (.tail _ (.tail _ (.tail _ (.tail _ (.head _))))))) rfl rfl .nil)) (.s rfl rfl rfl) ?_
          refine .v (i := 19) [(22, _)] rfl rfl rfl (.cons (.tail _ (.tail _ (.tail _ (.tail _ (.tail _ (.tail _ (.tail _ (.head _)))))))) rfl rfl .nil) (.s rfl rfl rfl) ?_
          refine .v (i := 20) [(30, _), (22, _)] rfl rfl rfl (.cons (.head _) rfl rfl (.cons (.tail _ (.tail _ (.tail _ (.tail _ (.tail _ (.tail _ (.tail _ (.tail _ (.head _))))))))) rfl rfl .nil)) (.s rfl rfl rfl) ?_
          refine .v (i := 21) [(22, _)] rfl rfl rfl (.cons (.tail _ (.tail _ (.tail _ (.tail _ (.tail _ (.tail _ (.tail _ (.tail _ (.tail _ (.head _)))))))))) rfl rfl .nil) (.s rfl rfl rfl) ?_
          refine .v (i := 22) [(31, _), (32, _), (22, _)] rfl rfl rfl (.cons (.tail _ (.head _)) rfl rfl (.cons (.head _) rfl rfl (.cons (.tail _ (.tail _ (.tail _ (.tail _ (.tail _ (.tail _ (.tail _ (.tail _ (.tail _ (.tail _ (.head _))))))))))) rfl rfl .nil))) (.s rfl rfl rfl) ?_
          refine .v (i := 23) [(33, _), (22, _)] rfl rfl rfl (.cons (.head _) rfl rfl (.cons (.tail _ (.tail _ (.tail _ (.tail _ (.tail _ (.tail _ (.tail _ (.tail _ (.tail _ (.tail _ (.tail _ (.head _)))))))))))) rfl rfl .nil)) (.s rfl rfl rfl) ?_
          refine .v (i := 24) [(34, _), (22, _)] rfl rfl rfl (.cons (.head _) rfl rfl (.cons (.tail _ (.tail _ (.tail _ (.tail _ (.tail _ (.tail _ (.tail _ (.tail _ (.tail _ (.tail _ (.tail _ (.tail _ (.head _))))))))))))) rfl rfl .nil)) (.s rfl rfl rfl) ?_
          refine .tail0 25 [[25, 18, 24, 11, 17, 23, 10, 8, 16, 22, 9, 7, 6, 13, 15, 20, 21, 5, 12, 14, 19, 4, 3, 1, 2, 0], [26, 11, 25, 8, 10, 18, 24, 7, 6, 9, 17, 23, 5, 16, 22, 4, 13, 15, 20, 21, 3, 12, 14, 19, 1, 2, 0], [27, 8, 26, 7, 6, 11, 25, 5, 10, 18, 24, 4, 9, 17, 23, 3, 16, 22, 1, 2, 13, 15, 20, 21, 0, 12, 14, 19]] rfl rfl rfl rfl (e' := [(35, _), (34, _), (33, _), (32, _), (31, _), (30, _), (29, _), (28, _), (27, _), (26, _), (25, _), (24, _), (23, _), (22, _), (21, _), (20, _), (19, _), (18, _), (17, _), (16, _), (15, _), (14, _), (13, _), (12, _), (11, _), (1, _), (3, _)]) rfl ?_
          refine .gs rfl rfl rfl rfl ?_
          refine .g rfl rfl rfl ?_
          refine .v (.pkF rfl rfl) rfl ?_
          refine .v (.pkF rfl rfl) rfl ?_
          refine .nil ?_
          refine .then ?_
          refine .condF rfl ?_
          refine .skip ?_
          refine .blk ?_
          refine .then ?_
          refine .region ?_
          refine .v (.mv rfl) rfl ?_
          refine .v (.add rfl rfl (by omega)) rfl ?_
          refine .v (.asn rfl) rfl ?_
          refine .nil ?_
          exact .again (k + 1, f.id) (by have hgt : ¬ f.id ≤ last := (by rw [hk3 (by omega)]; have hh := h17_6; simp only [number, Bool.and_eq_true, decide_eq_true_eq] at hh; omega); exact ⟨by omega, by rw [hk2, hdr]; simp [rightFrom, h17_6, hgt], fun h => by simp at h, fun g _ hg => by rw [Nat.add_sub_cancel, hf] at hg; injection hg with hg; rw [hg]⟩) (by omega) (.cons rfl rfl (.cons rfl rfl .nil)) (subl (.refl _))
      · skip
        refine .v (i := 7) [(17, _)] rfl rfl rfl (.cons (.head _) rfl rfl .nil) (.n (.not rfl)) ?_
        refine .v (i := 8) [(18, _)] rfl rfl rfl (.cons (.head _) rfl rfl .nil) (.n (.mv rfl)) ?_
        refine .v (i := 9) [(19, _)] rfl rfl rfl (.cons (.head _) rfl rfl .nil) (.s rfl rfl rfl) ?_
        refine .v (i := 10) [(20, _), (19, _)] rfl rfl rfl (.cons (.head _) rfl rfl (.cons (.tail _ (.head _)) rfl rfl .nil)) (.s rfl rfl rfl) ?_
        refine .v (i := 11) [(21, _), (19, _)] rfl rfl rfl (.cons (.head _) rfl rfl (.cons (.tail _ (.tail _ (.head _))) rfl rfl .nil)) (.s rfl rfl rfl) ?_
        refine .v (i := 12) [(22, _)] rfl rfl rfl (.cons (.head _) rfl rfl .nil) (.u rfl rfl rfl) ?_
        refine .v (i := 13) [(23, _), (22, _)] rfl rfl rfl (.cons (.head _) rfl rfl (.cons (.tail _ (.head _)) rfl rfl .nil)) (.u rfl rfl rfl) ?_
        refine .v (i := 14) [(22, _)] rfl rfl rfl (.cons (.tail _ (.tail _ (.head _))) rfl rfl .nil) (.u rfl rfl rfl) ?_
        refine .v (i := 15) [(25, _), (22, _)] rfl rfl rfl (.cons (.head _) rfl rfl (.cons (.tail _ (.tail _ (.tail _ (.head _)))) rfl rfl .nil)) (.u rfl rfl rfl) ?_
        refine .v (i := 16) [(24, _), (26, _), (22, _)] rfl rfl rfl (.cons (.tail _ (.tail _ (.head _))) rfl rfl (.cons (.head _) rfl rfl (.cons (.tail _ (.tail _ (.tail _ (.tail _ (.head _))))) rfl rfl .nil))) (.u rfl rfl rfl) ?_
        refine .v (i := 17) [(27, _), (22, _)] rfl rfl rfl (.cons (.head _) rfl rfl (.cons (.tail _ (.tail _ (.tail _ (.tail _ (.tail _ (.head _)))))) rfl rfl .nil)) (.u rfl rfl rfl) ?_
        refine .v (i := 18) [(28, _), (22, _)] rfl rfl rfl (.cons (.head _) rfl rfl (.cons (.tail _ (.tail _ (.tail _ (.tail _ (.tail _ (.tail _ (.head _))))))) rfl rfl .nil)) (.u rfl rfl rfl) ?_
        refine .v (i := 19) [(22, _)] rfl rfl rfl (.cons (.tail _ (.tail _ (.tail _ (.tail _ (.tail _ (.tail _ (.tail _ (.head _)))))))) rfl rfl .nil) (.u rfl rfl rfl) ?_
        refine .v (i := 20) [(30, _), (22, _)] rfl rfl rfl (.cons (.head _) rfl rfl (.cons (.tail _ (.tail _ (.tail _ (.tail _ (.tail _ (.tail _ (.tail _ (.tail _ (.head _))))))))) rfl rfl .nil)) (.u rfl rfl rfl) ?_
        refine .v (i := 21) [(22, _)] rfl rfl rfl (.cons (.tail _ (.tail _ (.tail _ (.tail _ (.tail _ (.tail _ (.tail _ (.tail _ (.tail _ (.head _)))))))))) rfl rfl .nil) (.u rfl rfl rfl) ?_
        refine .v (i := 22) [(31, _), (32, _), (22, _)] rfl rfl rfl (.cons (.tail _ (.head _)) rfl rfl (.cons (.head _) rfl rfl (.cons (.tail _ (.tail _ (.tail _ (.tail _ (.tail _ (.tail _ (.tail _ (.tail _ (.tail _ (.tail _ (.head _))))))))))) rfl rfl .nil))) (.u rfl rfl rfl) ?_
        refine .v (i := 23) [(33, _), (22, _)] rfl rfl rfl (.cons (.head _) rfl rfl (.cons (.tail _ (.tail _ (.tail _ (.tail _ (.tail _ (.tail _ (.tail _ (.tail _ (.tail _ (.tail _ (.tail _ (.head _)))))))))))) rfl rfl .nil)) (.u rfl rfl rfl) ?_
        refine .v (i := 24) [(34, _), (22, _)] rfl rfl rfl (.cons (.head _) rfl rfl (.cons (.tail _ (.tail _ (.tail _ (.tail _ (.tail _ (.tail _ (.tail _ (.tail _ (.tail _ (.tail _ (.tail _ (.tail _ (.head _))))))))))))) rfl rfl .nil)) (.u rfl rfl rfl) ?_
        refine .tail0 25 [[25, 18, 24, 11, 17, 23, 10, 8, 16, 22, 9, 7, 6, 13, 15, 20, 21, 5, 12, 14, 19, 4, 3, 1, 2, 0], [26, 11, 25, 8, 10, 18, 24, 7, 6, 9, 17, 23, 5, 16, 22, 4, 13, 15, 20, 21, 3, 12, 14, 19, 1, 2, 0], [27, 8, 26, 7, 6, 11, 25, 5, 10, 18, 24, 4, 9, 17, 23, 3, 16, 22, 1, 2, 13, 15, 20, 21, 0, 12, 14, 19]] rfl rfl rfl rfl (e' := [(35, _), (34, _), (33, _), (32, _), (31, _), (30, _), (29, _), (28, _), (27, _), (26, _), (25, _), (24, _), (23, _), (22, _), (21, _), (20, _), (19, _), (18, _), (17, _), (16, _), (15, _), (14, _), (13, _), (12, _), (11, _), (1, _), (3, _)]) rfl ?_
        refine .gu rfl rfl rfl rfl ?_
        refine .gs rfl rfl rfl rfl ?_
        refine .v (.pkT rfl rfl) rfl ?_
        refine .nil ?_
        refine .then ?_
        refine .condT rfl ?_
        refine .seq ?_
        refine .region ?_
        refine .v (.asn rfl) rfl ?_
        refine .nil ?_
        refine .then ?_
        refine .ret ?_
        refine .blk_ret ?_
        refine .then_ret ?_
        refine .then_ret ?_
        refine .blk_ret ?_
        refine .then_ret ?_
        exact .done _ [] (.t1 rfl rfl) .rfl (by rw [right, hk2, hdr, rightFrom, h17_6]; simp) (Inn.keep (.there .here))
    · skip
      refine .nil ?_
      refine .then ?_
      refine .condF rfl ?_
      refine .exit ?_
      refine .then_exit ?_
      refine .then_exit ?_
      refine .blk_exit ?_
      refine .then ?_
      refine .seq ?_
      refine .region ?_
      have hz : rightFrom last (d.files.drop k) = true := by rw [List.drop_of_length_le (by omega)]; rfl
      refine .v (.ldw ty27 rfl .here rfl) rfl ?_
      refine .v (.call rfl rfl (Try.call23 _) (fun G hle hG => rsize_fn d a c G (hS.mono hle) hb)) rfl ?_
      refine .vs (.le rfl rfl) rfl (fun h41_15 => ?_) (fun h41_15 => ?_)
      · skip
        refine .v (.mv rfl) rfl ?_
        refine .g rfl rfl rfl ?_
        refine .v (.fab fl27_1 rfl) rfl ?_
        refine .g rfl rfl rfl ?_
        refine .v (.ldb ty3 rfl .here rfl) rfl ?_
        refine .g rfl rfl rfl ?_
        refine .vb (.call rfl rfl (Try.call22 _) (fun G hle hG => rnumber_fn _ G)) rfl (fun h45_16 => ?_) (fun h45_16 => ?_)
        · skip
          refine .v (.pkT rfl rfl) rfl ?_
          refine .v (.mv rfl) rfl ?_
          refine .g rfl rfl rfl ?_
          refine .v (.fab fl27_1 rfl) rfl ?_
          refine .g rfl rfl rfl ?_
          refine .v (.ldb ty3 rfl .here rfl) rfl ?_
          refine .g rfl rfl rfl ?_
          refine .vs (.eq rfl rfl) rfl (fun h50_17 => ?_) (fun h50_17 => ?_)
          · skip
            refine .g rfl rfl rfl ?_
            refine .v (.mv rfl) rfl ?_
            refine .gs rfl rfl rfl rfl ?_
            refine .gs rfl rfl rfl rfl ?_
            refine .g rfl rfl rfl ?_
            refine .v (.pkT rfl rfl) rfl ?_
            refine .v (.pkT rfl rfl) rfl ?_
            refine .v (.asn rfl) rfl ?_
            refine .nil ?_
            refine .then ?_
            refine .ret ?_
            exact .done _ [] (.t1 rfl rfl) .rfl (by simp only [right, hk2, hz]; first | (simp_all; done) | (simp_all; omega)) (Inn.keep (.there .here))
          · skip
            refine .g rfl rfl rfl ?_
            refine .v (.mv rfl) rfl ?_
            refine .g rfl rfl rfl ?_
            refine .v (.fab fl27_2 rfl) rfl ?_
            refine .g rfl rfl rfl ?_
            refine .v (.ldb ty4 rfl .here rfl) rfl ?_
            refine .g rfl rfl rfl ?_
            refine .v (.pkF rfl rfl) rfl ?_
            refine .v (.pkT rfl rfl) rfl ?_
            refine .v (.asn rfl) rfl ?_
            refine .nil ?_
            refine .then ?_
            refine .ret ?_
            exact .done _ [] (.t1 rfl rfl) .rfl (by simp only [right, hk2, hz]; first | (simp_all; done) | (simp_all; omega)) (Inn.keep (.there .here))
        · skip
          refine .v (.pkT rfl rfl) rfl ?_
          refine .v (.mv rfl) rfl ?_
          refine .gs rfl rfl rfl rfl ?_
          refine .gs rfl rfl rfl rfl ?_
          refine .gs rfl rfl rfl rfl ?_
          refine .gs rfl rfl rfl rfl ?_
          refine .gu rfl rfl rfl rfl ?_
          refine .gu rfl rfl rfl rfl ?_
          refine .gs rfl rfl rfl rfl ?_
          refine .v (.pkF rfl rfl) rfl ?_
          refine .v (.asn rfl) rfl ?_
          refine .nil ?_
          refine .then ?_
          refine .ret ?_
          exact .done _ [] (.t1 rfl rfl) .rfl (by simp only [right, hk2, hz]; first | (simp_all; done) | (simp_all; omega)) (Inn.keep (.there .here))
      · skip
        refine .v (.mv rfl) rfl ?_
        refine .gs rfl rfl rfl rfl ?_
        refine .gs rfl rfl rfl rfl ?_
        refine .gs rfl rfl rfl rfl ?_
        refine .v (.pkF rfl rfl) rfl ?_
        refine .v (.mv rfl) rfl ?_
        refine .gs rfl rfl rfl rfl ?_
        refine .gs rfl rfl rfl rfl ?_
        refine .gs rfl rfl rfl rfl ?_
        refine .gs rfl rfl rfl rfl ?_
        refine .gu rfl rfl rfl rfl ?_
        refine .gu rfl rfl rfl rfl ?_
        refine .gs rfl rfl rfl rfl ?_
        refine .v (.pkF rfl rfl) rfl ?_
        refine .v (.asn rfl) rfl ?_
        refine .nil ?_
        refine .then ?_
        refine .ret ?_
        exact .done _ [] (.t1 rfl rfl) .rfl (by simp only [right, hk2, hz]; first | (simp_all; done) | (simp_all; omega)) (Inn.keep (.there .here))
end Go.Proofs.Ytggkhcdilbdifaa.Ow
