/- Walks. -/
import Derived.Test.YtifkokikdlgaaaaDb
namespace Go.Proofs.Ytifkokikdlgaaaa.Ow
open Go
set_option linter.unusedVariables false
theorem rnumber_fn (n : Int) (F : Mem) : Fn Try.prog 36 #[.int .i64 n] [] F (fun u _ _ => u = .bool (number n)) := by
  refine Fn.start0 Try.func36 rfl Try.ntmps36 rfl (env := [(0, _)]) rfl ?_
  intro R
  refine .seq ?_
  refine .region ?_
  refine .v (.asn rfl) rfl ?_
  refine .nil ?_
  refine .then ?_
  refine .seq ?_
  refine .region ?_
  refine .v (.mv rfl) rfl ?_
  refine .vs (.ge rfl rfl) rfl (fun h4_1 => ?_) (fun h4_1 => ?_)
  · skip
    refine .v (.mv rfl) rfl ?_
    refine .g rfl rfl rfl ?_
    refine .v (.mv rfl) rfl ?_
    refine .g rfl rfl rfl ?_
    refine .vs (.le rfl rfl) rfl (fun h7_2 => ?_) (fun h7_2 => ?_)
    · skip
      refine .v (.pkT rfl rfl) rfl ?_
      refine .v (.asn rfl) rfl ?_
      refine .nil ?_
      refine .then ?_
      refine .ret ?_
      exact .done _ [] (.t1 rfl rfl) .rfl (by simp [number, *]) (Inn.keep .here)
    · skip
      refine .v (.pkT rfl rfl) rfl ?_
      refine .v (.asn rfl) rfl ?_
      refine .nil ?_
      refine .then ?_
      refine .ret ?_
      exact .done _ [] (.t1 rfl rfl) .rfl (by simp [number, *]) (Inn.keep .here)
  · skip
    refine .v (.mv rfl) rfl ?_
    refine .gs rfl rfl rfl rfl ?_
    refine .gs rfl rfl rfl rfl ?_
    refine .v (.pkF rfl rfl) rfl ?_
    refine .v (.asn rfl) rfl ?_
    refine .nil ?_
    refine .then ?_
    refine .ret ?_
    exact .done _ [] (.t1 rfl rfl) .rfl (by simp [number, *]) (Inn.keep .here)
theorem rsize_fn (d : Dk) (a : Option Addr) (c : Nat) (F : Mem) (hS : Sl F encF 3 a c d.files) (hb : tot d.files ≤ 4611686018427387904) : Fn Try.prog 37 #[dval a c d] [] F (fun u _ _ => u = .int .i64 (tot d.files)) := by
  have hm := hS.len
  refine Fn.start0 Try.func37 rfl Try.ntmps37 rfl (env := [(0, _)]) rfl ?_
  intro R
  refine .seq ?_
  refine .region ?_
  refine .nb (.box rfl rfl) rfl (fun b1 => ?_)
  refine .v (.asn rfl) rfl ?_
  refine .nil ?_
  refine .then ?_
  refine .seq ?_
  refine .region ?_
  refine .v (.asn rfl) rfl ?_
  refine .nil ?_
  refine .then ?_
  refine .seq ?_
  refine .seq ?_
  refine .region ?_
  refine .v (.asn rfl) rfl ?_
  refine .nil ?_
  refine .then ?_
  refine .block ?_
  refine WC.loop0 (fx := [(1, _), (2, _)]) (.cons rfl rfl (.cons rfl rfl .nil)) (ι := Nat) (fun k => k ≤ d.files.length) (fun k => d.files.length - k) (fun k => [(3, .int .i64 (tot (d.files.take k))), (4, .int .i64 k)]) 0 (by omega) ?he ?round
  case he => exact .cons rfl rfl (.cons rfl rfl (.cons rfl rfl (.cons rfl rfl .nil)))
  case round =>
    intro k hk
    refine .seq ?_
    refine .seq ?_
    refine .region ?_
    refine .v (.mv rfl) rfl ?_
    refine .v (.fa0 fl38_0 rfl) rfl ?_
    refine .v (.ldb ty36 rfl .here rfl) rfl ?_
    refine .v (.lenl Try.underlying36 rfl) rfl ?_
    refine .vs (.lt rfl rfl) rfl (fun h9_2 => ?_) (fun h9_2 => ?_)
    · skip
      refine .nil ?_
      refine .then ?_
      refine .condT rfl ?_
      refine .skip ?_
      refine .then ?_
      refine .seq ?_
      refine .block ?_
      refine .draw [[], [], [1], [], [2, 3], [4], [5], [6], [], [8], [], [9, 10], [11], [12], [13], [7, 14], [0, 15], [16, 0, 1, 2, 3, 4, 5, 6, 7, 8, 9, 10, 11, 12, 13, 14, 15, 16]] [] (by kernel_rfl) (by kernel_rfl) rfl (e1 := [(1, _), (2, _), (3, _), (4, _)]) (.cons rfl rfl (.cons rfl rfl (.cons rfl rfl (.cons rfl rfl .nil)))) (fun x hx => by cases hx) rfl ?_
      refine .v (i := 0) [] rfl rfl rfl .nil (.n (.mv rfl)) ?_
      refine .v (i := 1) [] rfl rfl rfl .nil (.n (.fa0 fl38_0 rfl)) ?_
      refine .v (i := 2) [(13, _)] rfl rfl rfl (.cons (.head _) rfl rfl .nil) (.n (.ldb ty36 rfl .here rfl)) ?_
      refine .v (i := 3) [] rfl rfl rfl .nil (.n (.mv rfl)) ?_
      obtain ⟨f, hf⟩ : ∃ y, d.files[k]? = some y := ⟨_, List.getElem?_eq_getElem (by omega)⟩
      have h1 := tot_le hf
      have h2 := tot_take hf
      refine .ix (i := 4) (j := (k : Int)) [(14, _), (15, _)] rfl rfl rfl (.cons (.tail _ (.head _)) rfl rfl (.cons (.head _) rfl rfl .nil)) hS f ⟨by omega, hf⟩ (fun b_ o_ hr_ ha_ hle_ => .n (.ixs sl36 rfl rfl ⟨by omega, hf⟩ ha_ hle_)) (fun p3 o4 r5 => ?_)
      refine .v (i := 5) [(16, _)] rfl rfl rfl (.cons (.head _) rfl rfl .nil) (.n (.fae fl76_1 rfl)) ?_
      refine .v (i := 6) [(17, _)] rfl rfl rfl (.cons (.head _) rfl rfl .nil) (.n (.ldr (j := 1) ty9 rfl r5 rfl)) ?_
      refine .v (i := 7) [(18, _)] rfl rfl rfl (.cons (.head _) rfl rfl .nil) (.n (.lens Try.underlying9 rfl)) ?_
      refine .v (i := 8) [] rfl rfl rfl .nil (.n (.fa0 fl38_0 rfl)) ?_
      refine .v (i := 9) [(20, _)] rfl rfl rfl (.cons (.head _) rfl rfl .nil) (.n (.ldb ty36 rfl .here rfl)) ?_
      refine .v (i := 10) [] rfl rfl rfl .nil (.n (.mv rfl)) ?_
      refine .ix (i := 11) (j := (k : Int)) [(21, _), (22, _)] rfl rfl rfl (.cons (.tail _ (.head _)) rfl rfl (.cons (.head _) rfl rfl .nil)) hS f ⟨by omega, hf⟩ (fun b_ o_ hr_ ha_ hle_ => .n (.ixs sl36 rfl rfl ⟨by omega, hf⟩ ha_ hle_)) (fun p6 o7 r8 => ?_)
      refine .v (i := 12) [(23, _)] rfl rfl rfl (.cons (.head _) rfl rfl .nil) (.n (.fae fl76_2 rfl)) ?_
      refine .v (i := 13) [(24, _)] rfl rfl rfl (.cons (.head _) rfl rfl .nil) (.n (.ldr (j := 2) ty9 rfl r8 rfl)) ?_
      refine .v (i := 14) [(25, _)] rfl rfl rfl (.cons (.head _) rfl rfl .nil) (.n (.lens Try.underlying9 rfl)) ?_
      refine .v (i := 15) [(19, _), (26, _)] rfl rfl rfl (.cons (.tail _ (.tail _ (.tail _ (.tail _ (.tail _ (.tail _ (.tail _ (.head _)))))))) rfl rfl (.cons (.head _) rfl rfl .nil)) (.n (.add rfl rfl (by omega))) ?_
      refine .tail0 16 [[16, 0, 15, 7, 14, 6, 13, 5, 12, 4, 11, 2, 3, 9, 10, 1, 8], [17, 16, 0, 1, 2, 3, 4, 5, 6, 7, 8, 9, 10, 11, 12, 13, 14, 15]] rfl rfl rfl rfl (e' := [(27, _), (26, _), (25, _), (24, _), (23, _), (22, _), (21, _), (20, _), (19, _), (18, _), (17, _), (16, _), (15, _), (14, _), (13, _), (12, _), (1, _), (2, _), (3, _), (4, _)]) rfl ?_
      refine .v (.add rfl rfl (by omega)) rfl ?_
      refine .v (.asn rfl) rfl ?_
      refine .nil ?_
      refine .blk ?_
      refine .then ?_
      refine .region ?_
      refine .v (.mv rfl) rfl ?_
      refine .v (.add rfl rfl (by omega)) rfl ?_
      refine .v (.asn rfl) rfl ?_
      refine .nil ?_
      exact .again (k + 1) (by omega) (by omega) (.cons rfl (congrArg (Value.int .i64) (by omega)) (.cons rfl rfl (.cons rfl rfl (.cons rfl rfl .nil)))) (subl (.refl _))
    · skip
      refine .nil ?_
      refine .then ?_
      refine .condF rfl ?_
      refine .exit ?_
      refine .then_exit ?_
      refine .then_exit ?_
      refine .blk_exit ?_
      refine .then ?_
      refine .seq ?_
      refine .region ?_
      refine .v (.mv rfl) rfl ?_
      refine .v (.asn rfl) rfl ?_
      refine .nil ?_
      refine .then ?_
      refine .ret ?_
      exact .done _ [] (.t1 rfl rfl) .rfl (congrArg (Value.int .i64) (by obtain rfl : k = d.files.length := (by omega); simp)) (Inn.keep (.there .here))
theorem rright_fn (d : Dk) (a : Option Addr) (c : Nat) (F : Mem) (hS : Sl F encF 3 a c d.files) (hb : tot d.files ≤ 4611686018427387904) : Fn Try.prog 19 #[dval a c d] [] F (fun u _ _ => u = .bool (right d)) := by
  have hm := hS.len
  refine Fn.start0 Try.func19 rfl Try.ntmps19 rfl (env := [(0, _)]) rfl ?_
  intro R
  refine .seq ?_
  refine .region ?_
  refine .nb (.box rfl rfl) rfl (fun b1 => ?_)
  refine .v (.asn rfl) rfl ?_
  refine .nil ?_
  refine .then ?_
  refine .seq ?_
  refine .seq ?_
  refine .region ?_
  refine .v (.asn rfl) rfl ?_
  refine .nil ?_
  refine .then ?_
  refine .block ?_
  refine WC.loop0 (fx := [(1, _)]) (.cons rfl rfl .nil) (ι := Nat × Int) (fun x => x.1 ≤ d.files.length ∧ rightFrom (-1) d.files = rightFrom x.2 (d.files.drop x.1) ∧ (x.1 = 0 → x.2 = -1) ∧ (∀ g, 0 < x.1 → d.files[x.1 - 1]? = some g → x.2 = g.id)) (fun x => d.files.length - x.1) (fun x => [(3, .int .i64 x.1)]) (0, -1) ⟨by omega, rfl, fun _ => rfl, fun g h => absurd h (Nat.lt_irrefl _)⟩ ?he ?round
  case he => exact .cons rfl rfl (.cons rfl rfl .nil)
  case round =>
    intro x hk
    obtain ⟨k, last⟩ := x
    obtain ⟨hk, hk2, hk3, hk4⟩ := hk
    dsimp only at hk hk2 hk3 hk4 ⊢
    refine .seq ?_
    refine .seq ?_
    refine .region ?_
    refine .v (.mv rfl) rfl ?_
    refine .v (.fa0 fl38_0 rfl) rfl ?_
    refine .v (.ldb ty36 rfl .here rfl) rfl ?_
    refine .v (.lenl Try.underlying36 rfl) rfl ?_
    refine .vs (.lt rfl rfl) rfl (fun h8_2 => ?_) (fun h8_2 => ?_)
    · skip
      refine .nil ?_
      refine .then ?_
      refine .condT rfl ?_
      refine .skip ?_
      refine .then ?_
      refine .seq ?_
      refine .block ?_
      refine .seq ?_
      refine .draw [[], [0], [], [1, 2], [3], [4], [5], [6], [7, 6], [8], [9, 8], [10, 8, 8], [11], [12, 11], [11], [14, 11], [13, 15, 11], [16, 11], [17, 11], [11], [19, 11], [11], [20, 21, 11], [22, 11], [23, 11], [18, 24, 11], [11, 25, 8], [8, 26]] [] (by kernel_rfl) (by kernel_rfl) rfl (e1 := [(1, _), (3, _)]) (.cons rfl rfl (.cons rfl rfl .nil)) (fun x hx => by cases hx) rfl ?_
      refine .v (i := 0) [] rfl rfl rfl .nil (.n (.fa0 fl38_0 rfl)) ?_
      refine .v (i := 1) [(11, _)] rfl rfl rfl (.cons (.head _) rfl rfl .nil) (.n (.ldb ty36 rfl .here rfl)) ?_
      refine .v (i := 2) [] rfl rfl rfl .nil (.n (.mv rfl)) ?_
      obtain ⟨f, hf⟩ : ∃ y, d.files[k]? = some y := ⟨_, List.getElem?_eq_getElem (by omega)⟩
      have hdr := drop_get hf
      refine .ix (i := 3) (j := (k : Int)) [(12, _), (13, _)] rfl rfl rfl (.cons (.tail _ (.head _)) rfl rfl (.cons (.head _) rfl rfl .nil)) hS f ⟨by omega, hf⟩ (fun b_ o_ hr_ ha_ hle_ => .n (.ixs sl36 rfl rfl ⟨by omega, hf⟩ ha_ hle_)) (fun p3 o4 r5 => ?_)
      refine .v (i := 4) [(14, _)] rfl rfl rfl (.cons (.head _) rfl rfl .nil) (.n (.fa0 fl76_0 rfl)) ?_
      refine .v (i := 5) [(15, _)] rfl rfl rfl (.cons (.head _) rfl rfl .nil) (.n (.ldr0 ty3 rfl r5 rfl)) ?_
      refine .vb (i := 6) [(16, _)] rfl rfl rfl (.cons (.head _) rfl rfl .nil) (.n (.call rfl rfl (Try.call36 _) (fun G hle hG => rnumber_fn _ G))) (fun h17_6 => ?_) (fun h17_6 => ?_)
      · skip
        refine .v (i := 7) [(17, _)] rfl rfl rfl (.cons (.head _) rfl rfl .nil) (.n (.not rfl)) ?_
        refine .v (i := 8) [(18, _)] rfl rfl rfl (.cons (.head _) rfl rfl .nil) (.n (.mv rfl)) ?_
        refine .v (i := 9) [(19, _)] rfl rfl rfl (.cons (.head _) rfl rfl .nil) (.g rfl rfl rfl (.mv rfl)) ?_
        refine .vs (i := 10) [(20, _), (19, _)] rfl rfl rfl (.cons (.head _) rfl rfl (.cons (.tail _ (.head _)) rfl rfl .nil)) (.g rfl rfl rfl (.gt rfl rfl)) (fun h21_7 => ?_) (fun h21_7 => ?_)
        · skip
          refine .v (i := 11) [(21, _), (19, _)] rfl rfl rfl (.cons (.head _) rfl rfl (.cons (.tail _ (.tail _ (.head _))) rfl rfl .nil)) (.g rfl rfl rfl (.mv rfl)) ?_
          refine .v (i := 12) [(22, _)] rfl rfl rfl (.cons (.head _) rfl rfl .nil) (.g rfl rfl rfl (.fa0 fl38_0 rfl)) ?_
          refine .v (i := 13) [(23, _), (22, _)] rfl rfl rfl (.cons (.head _) rfl rfl (.cons (.tail _ (.head _)) rfl rfl .nil)) (.g rfl rfl rfl (.ldb ty36 rfl .here rfl)) ?_
          refine .v (i := 14) [(22, _)] rfl rfl rfl (.cons (.tail _ (.tail _ (.head _))) rfl rfl .nil) (.g rfl rfl rfl (.mv rfl)) ?_
          refine .v (i := 15) [(25, _), (22, _)] rfl rfl rfl (.cons (.head _) rfl rfl (.cons (.tail _ (.tail _ (.tail _ (.head _)))) rfl rfl .nil)) (.g rfl rfl rfl (.sub rfl rfl (by omega))) ?_
          obtain ⟨g, hg⟩ : ∃ y, d.files[k - 1]? = some y := ⟨_, List.getElem?_eq_getElem (by omega)⟩
          refine .ix (i := 16) (j := ((k : Int) - 1)) [(24, _), (26, _), (22, _)] rfl rfl rfl (.cons (.tail _ (.tail _ (.head _))) rfl rfl (.cons (.head _) rfl rfl (.cons (.tail _ (.tail _ (.tail _ (.tail _ (.head _))))) rfl rfl .nil))) hS g ⟨by omega, (by rw [show ((k : Int) - 1).toNat = k - 1 by omega]; exact hg)⟩ (fun b_ o_ hr_ ha_ hle_ => .g rfl rfl rfl (.ixs sl36 rfl rfl ⟨by omega, (by rw [show ((k : Int) - 1).toNat = k - 1 by omega]; exact hg)⟩ ha_ hle_)) (fun p8 o9 r10 => ?_)
          refine .v (i := 17) [(27, _), (22, _)] rfl rfl rfl (.cons (.head _) rfl rfl (.cons (.tail _ (.tail _ (.tail _ (.tail _ (.tail _ (.head _)))))) rfl rfl .nil)) (.g rfl rfl rfl (.fa0 fl76_0 rfl)) ?_
          refine .v (i := 18) [(28, _), (22, _)] rfl rfl rfl (.cons (.head _) rfl rfl (.cons (.tail _ (.tail _ (.tail _ (.tail _ (.tail _ (.tail _ (.head _))))))) rfl rfl .nil)) (.g rfl rfl rfl (.ldr0 ty3 rfl r10 rfl)) ?_
          refine .v (i := 19) [(22, _)] rfl rfl rfl (.cons (.tail _ (.tail _ (.tail _ (.tail _ (.tail _ (.tail _ (.tail _ (.head _)))))))) rfl rfl .nil) (.g rfl rfl rfl (.fa0 fl38_0 rfl)) ?_
          refine .v (i := 20) [(30, _), (22, _)] rfl rfl rfl (.cons (.head _) rfl rfl (.cons (.tail _ (.tail _ (.tail _ (.tail _ (.tail _ (.tail _ (.tail _ (.tail _ (.head _))))))))) rfl rfl .nil)) (.g rfl rfl rfl (.ldb ty36 rfl .here rfl)) ?_
          refine .v (i := 21) [(22, _)] rfl rfl rfl (.cons (.tail _ (.tail _ (.tail _ (.tail _ (.tail _ (.tail _ (.tail _ (.tail _ (.tail _ (.head _)))))))))) rfl rfl .nil) (.g rfl rfl rfl (.mv rfl)) ?_
          refine .ix (i := 22) (j := (k : Int)) [(31, _), (32, _), (22, _)] rfl rfl rfl (.cons (.tail _ (.head _)) rfl rfl (.cons (.head _) rfl rfl (.cons (.tail _ (.tail _ (.tail _ (.tail _ (.tail _ (.tail _ (.tail _ (.tail _ (.tail _ (.tail _ (.head _))))))))))) rfl rfl .nil))) hS f ⟨by omega, hf⟩ (fun b_ o_ hr_ ha_ hle_ => .g rfl rfl rfl (.ixs sl36 rfl rfl ⟨by omega, hf⟩ ha_ hle_)) (fun p11 o12 r13 => ?_)
          refine .v (i := 23) [(33, _), (22, _)] rfl rfl rfl (.cons (.head _) rfl rfl (.cons (.tail _ (.tail _ (.tail _ (.tail _ (.tail _ (.tail _ (.tail _ (.tail _ (.tail _ (.tail _ (.tail _ (.head _)))))))))))) rfl rfl .nil)) (.g rfl rfl rfl (.fa0 fl76_0 rfl)) ?_
          refine .v (i := 24) [(34, _), (22, _)] rfl rfl rfl (.cons (.head _) rfl rfl (.cons (.tail _ (.tail _ (.tail _ (.tail _ (.tail _ (.tail _ (.tail _ (.tail _ (.tail _ (.tail _ (.tail _ (.tail _ (.head _))))))))))))) rfl rfl .nil)) (.g rfl rfl rfl (.ldr0 ty3 rfl r13 rfl)) ?_
          refine .tail0 25 [[25, 18, 24, 11, 17, 23, 10, 8, 16, 22, 9, 7, 6, 13, 15, 20, 21, 5, 12, 14, 19, 4, 3, 1, 2, 0], [26, 11, 25, 8, 10, 18, 24, 7, 6, 9, 17, 23, 5, 16, 22, 4, 13, 15, 20, 21, 3, 12, 14, 19, 1, 2, 0], [27, 8, 26, 7, 6, 11, 25, 5, 10, 18, 24, 4, 9, 17, 23, 3, 16, 22, 1, 2, 13, 15, 20, 21, 0, 12, 14, 19]] rfl rfl rfl rfl (e' := [(35, _), (34, _), (33, _), (32, _), (31, _), (30, _), (29, _), (28, _), (27, _), (26, _), (25, _), (24, _), (23, _), (22, _), (21, _), (20, _), (19, _), (18, _), (17, _), (16, _), (15, _), (14, _), (13, _), (12, _), (11, _), (1, _), (3, _)]) rfl ?_
          refine .g rfl rfl rfl ?_
          refine .vs (.ge rfl rfl) rfl (fun h36_14 => ?_) (fun h36_14 => ?_)
          · skip
            refine .g rfl rfl rfl ?_
            refine .v (.pkT rfl rfl) rfl ?_
            refine .v (.pkF rfl rfl) rfl ?_
            refine .nil ?_
            refine .then ?_
            refine .condT rfl ?_
            refine .seq ?_
            refine .region ?_
            refine .v (.asn rfl) rfl ?_
            refine .nil ?_
            refine .then ?_
            refine .ret ?_
            refine .blk_ret ?_
            refine .then_ret ?_
            refine .then_ret ?_
            refine .blk_ret ?_
            refine .then_ret ?_
            exact .done _ [] (.t1 rfl rfl) .rfl (by have hgt : f.id ≤ last := (by rw [hk4 g (by omega) hg]; omega); rw [right, hk2, hdr, rightFrom, decide_eq_true hgt]; rfl) (Inn.keep (.there .here))
          · skip
            refine .g rfl rfl rfl ?_
            refine .v (.pkT rfl rfl) rfl ?_
            refine .v (.pkF rfl rfl) rfl ?_
            refine .nil ?_
            refine .then ?_
            refine .condF rfl ?_
            refine .skip ?_
            refine .blk ?_
            refine .then ?_
            refine .region ?_
            refine .v (.mv rfl) rfl ?_
            refine .v (.add rfl rfl (by omega)) rfl ?_
            refine .v (.asn rfl) rfl ?_
            refine .nil ?_
            exact .again (k + 1, f.id) (by have hgt : ¬ f.id ≤ last := (by rw [hk4 g (by omega) hg]; omega); exact ⟨by omega, by rw [hk2, hdr]; simp [rightFrom, h17_6, hgt], fun h => by simp at h, fun g _ hg => by rw [Nat.add_sub_cancel, hf] at hg; injection hg with hg; rw [hg]⟩) (by omega) (.cons rfl rfl (.cons rfl rfl .nil)) (subl (.refl _))
        · skip
          refine .v (i := 11) [(21, _), (19, _)] rfl rfl rfl (.cons (.head _) rfl rfl (.cons (.tail _ (.tail _ (.head _))) rfl rfl .nil)) (.g rfl rfl rfl (.mv rfl)) ?_
          refine .v (i := 12) [(22, _)] rfl rfl rfl (.cons (.head _) rfl rfl .nil) (.s rfl rfl rfl) ?_
          refine .v (i := 13) [(23, _), (22, _)] rfl rfl rfl (.cons (.head _) rfl rfl (.cons (.tail _ (.head _)) rfl rfl .nil)) (.s rfl rfl rfl) ?_
          refine .v (i := 14) [(22, _)] rfl rfl rfl (.cons (.tail _ (.tail _ (.head _))) rfl rfl .nil) (.s rfl rfl rfl) ?_
          refine .v (i := 15) [(25, _), (22, _)] rfl rfl rfl (.cons (.head _) rfl rfl (.cons (.tail _ (.tail _ (.tail _ (.head _)))) rfl rfl .nil)) (.s rfl rfl rfl) ?_
          refine .v (i := 16) [(24, _), (26, _), (22, _)] rfl rfl rfl (.cons (.tail _ (.tail _ (.head _))) rfl rfl (.cons (.head _) rfl rfl (.cons (.tail _ (.tail _ (.tail _ (.tail _ (.head _))))) rfl rfl .nil))) (.s rfl rfl rfl) ?_
          refine .v (i := 17) [(27, _), (22, _)] rfl rfl rfl (.cons (.head _) rfl rfl (.cons (.tail _ (.tail _ (.tail _ (.tail _ (.tail _ (.head _)))))) rfl rfl .nil)) (.s rfl rfl rfl) ?_
          refine .v (i := 18) [(28, _), (22, _)] rfl rfl rfl (.cons (.head _) rfl rfl (.cons (.tail _ (.tail _ (.tail _ (.tail _ (.tail _ (.tail _ (.head _))))))) rfl rfl .nil)) (.s rfl rfl rfl) ?_
          refine .v (i := 19) [(22, _)] rfl rfl rfl (.cons (.tail _ (.tail _ (.tail _ (.tail _ (.tail _ (.tail _ (.tail _ (.head _)))))))) rfl rfl .nil) (.s rfl rfl rfl) ?_
          refine .v (i := 20) [(30, _), (22, _)] rfl rfl rfl (.cons (.head _) rfl rfl (.cons (.tail _ (.tail _ (.tail _ (.tail _ (.tail _ (.tail _ (.tail _ (.tail _ (.head _))))))))) rfl rfl .nil)) (.s rfl rfl rfl) ?_
          refine .v (i := 21) [(22, _)] rfl rfl rfl (.cons (.tail _ (.tail _ (.tail _ (.tail _ (.tail _ (.tail _ (.tail _ (.tail _ (.tail _ (.head _)))))))))) rfl rfl .nil) (.s rfl rfl rfl) ?_
          refine .v (i := 22) [(31, _), (32, _), (22, _)] rfl rfl rfl (.cons (.tail _ (.head _)) rfl rfl (.cons (.head _) rfl rfl (.cons (.tail _ (.tail _ (.tail _ (.tail _ (.tail _ (.tail _ (.tail _ (.tail _ (.tail _ (.tail _ (.head _))))))))))) rfl rfl .nil))) (.s rfl rfl rfl) ?_
          refine .v (i := 23) [(33, _), (22, _)] rfl rfl rfl (.cons (.head _) rfl rfl (.cons (.tail _ (.tail _ (.tail _ (.tail _ (.tail _ (.tail _ (.tail _ (.tail _ (.tail _ (.tail _ (.tail _ (.head _)))))))))))) rfl rfl .nil)) (.s rfl rfl rfl) ?_
          refine .v (i := 24) [(34, _), (22, _)] rfl rfl rfl (.cons (.head _) rfl rfl (.cons (.tail _ (.tail _ (.tail _ (.tail _ (.tail _ (.tail _ (.tail _ (.tail _ (.tail _ (.tail _ (.tail _ (.tail _ (.head _))))))))))))) rfl rfl .nil)) (.s rfl rfl rfl) ?_
          refine .tail0 25 [[25, 18, 24, 11, 17, 23, 10, 8, 16, 22, 9, 7, 6, 13, 15, 20, 21, 5, 12, 14, 19, 4, 3, 1, 2, 0], [26, 11, 25, 8, 10, 18, 24, 7, 6, 9, 17, 23, 5, 16, 22, 4, 13, 15, 20, 21, 3, 12, 14, 19, 1, 2, 0], [27, 8, 26, 7, 6, 11, 25, 5, 10, 18, 24, 4, 9, 17, 23, 3, 16, 22, 1, 2, 13, 15, 20, 21, 0, 12, 14, 19]] rfl rfl rfl rfl (e' := [(35, _), (34, _), (33, _), (32, _), (31, _), (30, _), (29, _), (28, _), (27, _), (26, _), (25, _), (24, _), (23, _), (22, _), (21, _), (20, _), (19, _), (18, _), (17, _), (16, _), (15, _), (14, _), (13, _), (12, _), (11, _), (1, _), (3, _)]) rfl ?_
          refine .gs rfl rfl rfl rfl ?_
          refine .g rfl rfl rfl ?_
          refine .v (.pkF rfl rfl) rfl ?_
          refine .v (.pkF rfl rfl) rfl ?_
          refine .nil ?_
          refine .then ?_
          refine .condF rfl ?_
          refine .skip ?_
          refine .blk ?_
          refine .then ?_
          refine .region ?_
          refine .v (.mv rfl) rfl ?_
          refine .v (.add rfl rfl (by omega)) rfl ?_
          refine .v (.asn rfl) rfl ?_
          refine .nil ?_
          exact .again (k + 1, f.id) (by have hgt : ¬ f.id ≤ last := (by rw [hk3 (by omega)]; have hh := h17_6; simp only [number, Bool.and_eq_true, decide_eq_true_eq] at hh; omega); exact ⟨by omega, by rw [hk2, hdr]; simp [rightFrom, h17_6, hgt], fun h => by simp at h, fun g _ hg => by rw [Nat.add_sub_cancel, hf] at hg; injection hg with hg; rw [hg]⟩) (by omega) (.cons rfl rfl (.cons rfl rfl .nil)) (subl (.refl _))
      · skip
        refine .v (i := 7) [(17, _)] rfl rfl rfl (.cons (.head _) rfl rfl .nil) (.n (.not rfl)) ?_
        refine .v (i := 8) [(18, _)] rfl rfl rfl (.cons (.head _) rfl rfl .nil) (.n (.mv rfl)) ?_
        refine .v (i := 9) [(19, _)] rfl rfl rfl (.cons (.head _) rfl rfl .nil) (.s rfl rfl rfl) ?_
        refine .v (i := 10) [(20, _), (19, _)] rfl rfl rfl (.cons (.head _) rfl rfl (.cons (.tail _ (.head _)) rfl rfl .nil)) (.s rfl rfl rfl) ?_
        refine .v (i := 11) [(21, _), (19, _)] rfl rfl rfl (.cons (.head _) rfl rfl (.cons (.tail _ (.tail _ (.head _))) rfl rfl .nil)) (.s rfl rfl rfl) ?_
        refine .v (i := 12) [(22, _)] rfl rfl rfl (.cons (.head _) rfl rfl .nil) (.u rfl rfl rfl) ?_
        refine .v (i := 13) [(23, _), (22, _)] rfl rfl rfl (.cons (.head _) rfl rfl (.cons (.tail _ (.head _)) rfl rfl .nil)) (.u rfl rfl rfl) ?_
        refine .v (i := 14) [(22, _)] rfl rfl rfl (.cons (.tail _ (.tail _ (.head _))) rfl rfl .nil) (.u rfl rfl rfl) ?_
        refine .v (i := 15) [(25, _), (22, _)] rfl rfl rfl (.cons (.head _) rfl rfl (.cons (.tail _ (.tail _ (.tail _ (.head _)))) rfl rfl .nil)) (.u rfl rfl rfl) ?_
        refine .v (i := 16) [(24, _), (26, _), (22, _)] rfl rfl rfl (.cons (.tail _ (.tail _ (.head _))) rfl rfl (.cons (.head _) rfl rfl (.cons (.tail _ (.tail _ (.tail _ (.tail _ (.head _))))) rfl rfl .nil))) (.u rfl rfl rfl) ?_
        refine .v (i := 17) [(27, _), (22, _)] rfl rfl rfl (.cons (.head _) rfl rfl (.cons (.tail _ (.tail _ (.tail _ (.tail _ (.tail _ (.head _)))))) rfl rfl .nil)) (.u rfl rfl rfl) ?_
        refine .v (i := 18) [(28, _), (22, _)] rfl rfl rfl (.cons (.head _) rfl rfl (.cons (.tail _ (.tail _ (.tail _ (.tail _ (.tail _ (.tail _ (.head _))))))) rfl rfl .nil)) (.u rfl rfl rfl) ?_
        refine .v (i := 19) [(22, _)] rfl rfl rfl (.cons (.tail _ (.tail _ (.tail _ (.tail _ (.tail _ (.tail _ (.tail _ (.head _)))))))) rfl rfl .nil) (.u rfl rfl rfl) ?_
        refine .v (i := 20) [(30, _), (22, _)] rfl rfl rfl (.cons (.head _) rfl rfl (.cons (.tail _ (.tail _ (.tail _ (.tail _ (.tail _ (.tail _ (.tail _ (.tail _ (.head _))))))))) rfl rfl .nil)) (.u rfl rfl rfl) ?_
        refine .v (i := 21) [(22, _)] rfl rfl rfl (.cons (.tail _ (.tail _ (.tail _ (.tail _ (.tail _ (.tail _ (.tail _ (.tail _ (.tail _ (.head _)))))))))) rfl rfl .nil) (.u rfl rfl rfl) ?_
        refine .v (i := 22) [(31, _), (32, _), (22, _)] rfl rfl rfl (.cons (.tail _ (.head _)) rfl rfl (.cons (.head _) rfl rfl (.cons (.tail _ (.tail _ (.tail _ (.tail _ (.tail _ (.tail _ (.tail _ (.tail _ (.tail _ (.tail _ (.head _))))))))))) rfl rfl .nil))) (.u rfl rfl rfl) ?_
        refine .v (i := 23) [(33, _), (22, _)] rfl rfl rfl (.cons (.head _) rfl rfl (.cons (.tail _ (.tail _ (.tail _ (.tail _ (.tail _ (.tail _ (.tail _ (.tail _ (.tail _ (.tail _ (.tail _ (.head _)))))))))))) rfl rfl .nil)) (.u rfl rfl rfl) ?_
        refine .v (i := 24) [(34, _), (22, _)] rfl rfl rfl (.cons (.head _) rfl rfl (.cons (.tail _ (.tail _ (.tail _ (.tail _ (.tail _ (.tail _ (.tail _ (.tail _ (.tail _ (.tail _ (.tail _ (.tail _ (.head _))))))))))))) rfl rfl .nil)) (.u rfl rfl rfl) ?_
        refine .tail0 25 [[25, 18, 24, 11, 17, 23, 10, 8, 16, 22, 9, 7, 6, 13, 15, 20, 21, 5, 12, 14, 19, 4, 3, 1, 2, 0], [26, 11, 25, 8, 10, 18, 24, 7, 6, 9, 17, 23, 5, 16, 22, 4, 13, 15, 20, 21, 3, 12, 14, 19, 1, 2, 0], [27, 8, 26, 7, 6, 11, 25, 5, 10, 18, 24, 4, 9, 17, 23, 3, 16, 22, 1, 2, 13, 15, 20, 21, 0, 12, 14, 19]] rfl rfl rfl rfl (e' := [(35, _), (34, _), (33, _), (32, _), (31, _), (30, _), (29, _), (28, _), (27, _), (26, _), (25, _), (24, _), (23, _), (22, _), (21, _), (20, _), (19, _), (18, _), (17, _), (16, _), (15, _), (14, _), (13, _), (12, _), (11, _), (1, _), (3, _)]) rfl ?_
        refine .gu rfl rfl rfl rfl ?_
        refine .gs rfl rfl rfl rfl ?_
        refine .v (.pkT rfl rfl) rfl ?_
        refine .nil ?_
        refine .then ?_
        refine .condT rfl ?_
        refine .seq ?_
        refine .region ?_
        refine .v (.asn rfl) rfl ?_
        refine .nil ?_
        refine .then ?_
        refine .ret ?_
        refine .blk_ret ?_
        refine .then_ret ?_
        refine .then_ret ?_
        refine .blk_ret ?_
        refine .then_ret ?_
        exact .done _ [] (.t1 rfl rfl) .rfl (by rw [right, hk2, hdr, rightFrom, h17_6]; simp) (Inn.keep (.there .here))
    · skip
      refine .nil ?_
      refine .then ?_
      refine .condF rfl ?_
      refine .exit ?_
      refine .then_exit ?_
      refine .then_exit ?_
      refine .blk_exit ?_
      refine .then ?_
      refine .seq ?_
      refine .region ?_
      have hz : rightFrom last (d.files.drop k) = true := by rw [List.drop_of_length_le (by omega)]; rfl
      refine .v (.ldw ty38 rfl .here rfl) rfl ?_
      refine .v (.call rfl rfl (Try.call37 _) (fun G hle hG => rsize_fn d a c G (hS.mono hle) hb)) rfl ?_
      refine .vs (.le rfl rfl) rfl (fun h41_15 => ?_) (fun h41_15 => ?_)
      · skip
        refine .v (.mv rfl) rfl ?_
        refine .g rfl rfl rfl ?_
        refine .v (.fab fl38_1 rfl) rfl ?_
        refine .g rfl rfl rfl ?_
        refine .v (.ldb ty3 rfl .here rfl) rfl ?_
        refine .g rfl rfl rfl ?_
        refine .vb (.call rfl rfl (Try.call36 _) (fun G hle hG => rnumber_fn _ G)) rfl (fun h45_16 => ?_) (fun h45_16 => ?_)
        · skip
          refine .v (.pkT rfl rfl) rfl ?_
          refine .v (.mv rfl) rfl ?_
          refine .g rfl rfl rfl ?_
          refine .v (.fab fl38_1 rfl) rfl ?_
          refine .g rfl rfl rfl ?_
          refine .v (.ldb ty3 rfl .here rfl) rfl ?_
          refine .g rfl rfl rfl ?_
          refine .vs (.eq rfl rfl) rfl (fun h50_17 => ?_) (fun h50_17 => ?_)
          · skip
            refine .g rfl rfl rfl ?_
            refine .v (.mv rfl) rfl ?_
            refine .gs rfl rfl rfl rfl ?_
            refine .gs rfl rfl rfl rfl ?_
            refine .g rfl rfl rfl ?_
            refine .v (.pkT rfl rfl) rfl ?_
            refine .v (.pkT rfl rfl) rfl ?_
            refine .v (.asn rfl) rfl ?_
            refine .nil ?_
            refine .then ?_
            refine .ret ?_
            exact .done _ [] (.t1 rfl rfl) .rfl (by simp only [right, hk2, hz]; first | (simp_all; done) | (simp_all; omega)) (Inn.keep (.there .here))
          · skip
            refine .g rfl rfl rfl ?_
            refine .v (.mv rfl) rfl ?_
            refine .g rfl rfl rfl ?_
            refine .v (.fab fl38_2 rfl) rfl ?_
            refine .g rfl rfl rfl ?_
            refine .v (.ldb ty4 rfl .here rfl) rfl ?_
            refine .g rfl rfl rfl ?_
            refine .v (.pkF rfl rfl) rfl ?_
            refine .v (.pkT rfl rfl) rfl ?_
            refine .v (.asn rfl) rfl ?_
            refine .nil ?_
            refine .then ?_
            refine .ret ?_
            exact .done _ [] (.t1 rfl rfl) .rfl (by simp only [right, hk2, hz]; first | (simp_all; done) | (simp_all; omega)) (Inn.keep (.there .here))
        · skip
          refine .v (.pkT rfl rfl) rfl ?_
          refine .v (.mv rfl) rfl ?_
          refine .gs rfl rfl rfl rfl ?_
          refine .gs rfl rfl rfl rfl ?_
          refine .gs rfl rfl rfl rfl ?_
          refine .gs rfl rfl rfl rfl ?_
          refine .gu rfl rfl rfl rfl ?_
          refine .gu rfl rfl rfl rfl ?_
          refine .gs rfl rfl rfl rfl ?_
          refine .v (.pkF rfl rfl) rfl ?_
          refine .v (.asn rfl) rfl ?_
          refine .nil ?_
          refine .then ?_
          refine .ret ?_
          exact .done _ [] (.t1 rfl rfl) .rfl (by simp only [right, hk2, hz]; first | (simp_all; done) | (simp_all; omega)) (Inn.keep (.there .here))
      · skip
        refine .v (.mv rfl) rfl ?_
        refine .gs rfl rfl rfl rfl ?_
        refine .gs rfl rfl rfl rfl ?_
        refine .gs rfl rfl rfl rfl ?_
        refine .v (.pkF rfl rfl) rfl ?_
        refine .v (.mv rfl) rfl ?_
        refine .gs rfl rfl rfl rfl ?_
        refine .gs rfl rfl rfl rfl ?_
        refine .gs rfl rfl rfl rfl ?_
        refine .gs rfl rfl rfl rfl ?_
        refine .gu rfl rfl rfl rfl ?_
        refine .gu rfl rfl rfl rfl ?_
        refine .gs rfl rfl rfl rfl ?_
        refine .v (.pkF rfl rfl) rfl ?_
        refine .v (.asn rfl) rfl ?_
        refine .nil ?_
        refine .then ?_
        refine .ret ?_
        exact .done _ [] (.t1 rfl rfl) .rfl (by simp only [right, hk2, hz]; first | (simp_all; done) | (simp_all; omega)) (Inn.keep (.there .here))
theorem rat_fn (d : Dk) (a : Option Addr) (c : Nat) (F : Mem) (hS : Sl F encF 3 a c d.files) (id : Int) : Fn Try.prog 39 #[dval a c d, .int .i64 id] [] F (fun u _ _ => u = .int .i64 (atF d.files id)) := by
  have hm := hS.len
  refine Fn.start0 Try.func39 rfl Try.ntmps39 rfl (env := [(0, _), (1, _)]) rfl ?_
  intro R
  refine .seq ?_
  refine .region ?_
  refine .nb (.box rfl rfl) rfl (fun b1 => ?_)
  refine .v (.asn rfl) rfl ?_
  refine .nil ?_
  refine .then ?_
  refine .seq ?_
  refine .seq ?_
  refine .region ?_
  refine .v (.asn rfl) rfl ?_
  refine .nil ?_
  refine .then ?_
  refine .block ?_
  refine WC.loop0 (fx := [(1, _), (2, _)]) (.cons rfl rfl (.cons rfl rfl .nil)) (ι := Nat) (fun k => k ≤ d.files.length ∧ ∀ p g, p < k → d.files[p]? = some g → g.id ≠ id) (fun k => d.files.length - k) (fun k => [(5, .int .i64 k)]) 0 ⟨by omega, fun p g h => absurd h (Nat.not_lt_zero _)⟩ ?he ?round
  case he => exact .cons rfl rfl (.cons rfl rfl (.cons rfl rfl .nil))
  case round =>
    intro k hk
    obtain ⟨hk, hk2⟩ := hk
    refine .seq ?_
    refine .seq ?_
    refine .region ?_
    refine .v (.mv rfl) rfl ?_
    refine .v (.fa0 fl38_0 rfl) rfl ?_
    refine .v (.ldb ty36 rfl .here rfl) rfl ?_
    refine .v (.lenl Try.underlying36 rfl) rfl ?_
    refine .vs (.lt rfl rfl) rfl (fun h10_2 => ?_) (fun h10_2 => ?_)
    · skip
      refine .nil ?_
      refine .then ?_
      refine .condT rfl ?_
      refine .skip ?_
      refine .then ?_
      refine .seq ?_
      refine .block ?_
      refine .seq ?_
      refine .region ?_
      refine .v (.fa0 fl38_0 rfl) rfl ?_
      refine .v (.ldb ty36 rfl .here rfl) rfl ?_
      refine .v (.mv rfl) rfl ?_
      obtain ⟨f, hf⟩ : ∃ y, d.files[k]? = some y := ⟨_, List.getElem?_eq_getElem (by omega)⟩
      refine .ix sl36 rfl rfl hS rfl f ⟨by omega, hf⟩ (fun p3 o4 r5 => ?_)
      refine .v (.fa0 fl76_0 rfl) rfl ?_
      refine .v (.ldr0 ty3 rfl r5 rfl) rfl ?_
      refine .v (.mv rfl) rfl ?_
      refine .vs (.eq rfl rfl) rfl (fun h20_6 => ?_) (fun h20_6 => ?_)
      · skip
        refine .nil ?_
        refine .then ?_
        refine .condT rfl ?_
        refine .seq ?_
        refine .region ?_
        refine .v (.mv rfl) rfl ?_
        refine .v (.asn rfl) rfl ?_
        refine .nil ?_
        refine .then ?_
        refine .ret ?_
        refine .blk_ret ?_
        refine .then_ret ?_
        refine .then_ret ?_
        refine .blk_ret ?_
        refine .then_ret ?_
        exact .done _ [] (.t1 rfl rfl) .rfl (by rw [atF_some hf h20_6 hk2]) (Inn.keep (.there .here))
      · skip
        refine .nil ?_
        refine .then ?_
        refine .condF rfl ?_
        refine .skip ?_
        refine .blk ?_
        refine .then ?_
        refine .region ?_
        refine .v (.mv rfl) rfl ?_
        refine .v (.add rfl rfl (by omega)) rfl ?_
        refine .v (.asn rfl) rfl ?_
        refine .nil ?_
        exact .again (k + 1) ⟨by omega, fun p g hp hg => if e : p = k then (by subst e; rw [hf] at hg; injection hg with hg; subst hg; exact h20_6) else hk2 p g (by omega) hg⟩ (by omega) (.cons rfl rfl (.cons rfl rfl (.cons rfl rfl .nil))) (subl (.refl _))
    · skip
      refine .nil ?_
      refine .then ?_
      refine .condF rfl ?_
      refine .exit ?_
      refine .then_exit ?_
      refine .then_exit ?_
      refine .blk_exit ?_
      refine .then ?_
      refine .seq ?_
      refine .region ?_
      refine .v (.asn rfl) rfl ?_
      refine .nil ?_
      refine .then ?_
      refine .ret ?_
      exact .done _ [] (.t1 rfl rfl) .rfl (by rw [atF_none fun p g hp hg => hk2 p g (by omega) hg]) (Inn.keep (.there .here))
theorem rturn_fn (d : Dk) (a : Option Addr) (c : Nat) (F : Mem) (hS : Sl F encF 3 a c d.files) (f : Fl) (gone : Bool) (hn : d.files.length ≤ 1099511627777) : Fn Try.prog 40 #[dval a c d, .agg #[.int .i64 f.id, .string f.firm, .string f.loose], .bool gone] [] F (fun v M G => M = [] ∧ ∃ a' c', v = dval a' c' ⟨turnGo f gone d.files, d.left, d.armed, d.down⟩ ∧ Sl G encF 3 a' c' (turnGo f gone d.files)) := by
  have hm := hS.len
  refine Fn.start0 Try.func40 rfl Try.ntmps40 rfl (env := [(0, _), (1, _), (2, _)]) rfl ?_
  intro R
  refine .seq ?_
  refine .region ?_
  refine .nb (.box rfl rfl) rfl (fun b1 => ?_)
  refine .nb (.box rfl rfl) rfl (fun b2 => ?_)
  refine .nb (.alloc ty38 rfl) rfl (fun b3 => ?_)
  refine .nil ?_
  refine .then ?_
  refine .seq ?_
  refine .region ?_
  refine .v (.asn rfl) rfl ?_
  refine .nil ?_
  refine .then ?_
  refine .seq ?_
  refine .region ?_
  refine .v (.mv rfl) rfl ?_
  refine .v (.asn rfl) rfl ?_
  refine .nil ?_
  refine .then ?_
  refine .seq ?_
  refine .seq ?_
  refine .region ?_
  refine .v (.asn rfl) rfl ?_
  refine .nil ?_
  refine .then ?_
  refine .block ?_
  refine WC.loopx (fx := [(3, _), (4, _), (6, _)]) (pre := []) (fm := [_, _, _, _]) rfl (.cons rfl rfl (.cons rfl rfl (.cons rfl rfl .nil))) (ι := Nat × Bool × List Fl × Option Addr × Nat × Itm) (fun z => z.1 ≤ d.files.length ∧ z.2.2.1.length ≤ 2 * z.1 ∧ turnGo f gone d.files = z.2.2.1 ++ turnGo f z.2.1 (d.files.drop z.1) ∧ Row 76 encF 3 z.2.2.2.1 z.2.2.2.2.1 z.2.2.1 z.2.2.2.2.2) (fun z => d.files.length - z.1) (fun z => [(7, .slice z.2.2.2.1 z.2.2.1.length z.2.2.2.2.1), (8, .bool z.2.1), (9, .int .i64 z.1)]) (fun z => [z.2.2.2.2.2]) (fun z => F) (0, gone, [], none, 0, []) ⟨by omega, by simp, rfl, Row.nil⟩ ?he ?hm ?round
  case he => exact .cons rfl rfl (.cons rfl rfl (.cons rfl rfl (.cons rfl rfl (.cons rfl rfl (.cons rfl rfl .nil)))))
  case hm => exact (fun _ h => h)
  case round =>
    intro z hk
    obtain ⟨k, put, out, a1, c1, it⟩ := z
    obtain ⟨hk, hol, hcr, hr⟩ := hk
    dsimp only at hk hol hcr hr ⊢
    dsimp only [List.cons_append, List.nil_append]
    refine .seq ?_
    refine .seq ?_
    refine .region ?_
    refine .v (.mv rfl) rfl ?_
    refine .v (.fa0 fl38_0 rfl) rfl ?_
    refine .v (.ldb ty36 rfl (.there (.there (.there .here))) rfl) rfl ?_
    refine .v (.lenl Try.underlying36 rfl) rfl ?_
    refine .vs (.lt rfl rfl) rfl (fun h15_4 => ?_) (fun h15_4 => ?_)
    · skip
      obtain ⟨x, hf⟩ : ∃ y, d.files[k]? = some y := ⟨_, List.getElem?_eq_getElem (by omega)⟩
      refine .nil ?_
      refine .then ?_
      refine .condT rfl ?_
      refine .skip ?_
      refine .then ?_
      refine .seq ?_
      refine .block ?_
      refine .seq ?_
      refine .seq ?_
      refine .cs (t := 8) rfl (fun c8_5 => ?_) (fun c8_5 => ?_)
      · skip
        refine .draw [[], [0], [1], [2], [3, 2], [2], [5, 2], [2], [6, 7, 2], [8, 2], [9, 2], [4, 10, 2], [2, 11]] [] (by kernel_rfl) (by kernel_rfl) rfl (e1 := [(3, _), (4, _), (6, _), (7, _), (8, _), (9, _)]) (.cons rfl rfl (.cons rfl rfl (.cons rfl rfl (.cons rfl rfl (.cons rfl rfl (.cons rfl rfl .nil)))))) (fun x hx => by cases hx) rfl ?_
        refine .v (i := 0) [] rfl rfl rfl .nil (.n (.mv rfl)) ?_
        refine .v (i := 1) [(18, _)] rfl rfl rfl (.cons (.head _) rfl rfl .nil) (.n (.not rfl)) ?_
        refine .v (i := 2) [(19, _)] rfl rfl rfl (.cons (.head _) rfl rfl .nil) (.n (.mv rfl)) ?_
        refine .v (i := 3) [(20, _)] rfl rfl rfl (.cons (.head _) rfl rfl .nil) (.s rfl rfl rfl) ?_
        refine .v (i := 4) [(21, _), (20, _)] rfl rfl rfl (.cons (.head _) rfl rfl (.cons (.tail _ (.head _)) rfl rfl .nil)) (.s rfl rfl rfl) ?_
        refine .v (i := 5) [(20, _)] rfl rfl rfl (.cons (.tail _ (.tail _ (.head _))) rfl rfl .nil) (.s rfl rfl rfl) ?_
        refine .v (i := 6) [(23, _), (20, _)] rfl rfl rfl (.cons (.head _) rfl rfl (.cons (.tail _ (.tail _ (.tail _ (.head _)))) rfl rfl .nil)) (.s rfl rfl rfl) ?_
        refine .v (i := 7) [(20, _)] rfl rfl rfl (.cons (.tail _ (.tail _ (.tail _ (.tail _ (.head _))))) rfl rfl .nil) (.s rfl rfl rfl) ?_
        refine .v (i := 8) [(24, _), (25, _), (20, _)] rfl rfl rfl (.cons (.tail _ (.head _)) rfl rfl (.cons (.head _) rfl rfl (.cons (.tail _ (.tail _ (.tail _ (.tail _ (.tail _ (.head _)))))) rfl rfl .nil))) (.s rfl rfl rfl) ?_
        refine .v (i := 9) [(26, _), (20, _)] rfl rfl rfl (.cons (.head _) rfl rfl (.cons (.tail _ (.tail _ (.tail _ (.tail _ (.tail _ (.tail _ (.head _))))))) rfl rfl .nil)) (.s rfl rfl rfl) ?_
        refine .v (i := 10) [(27, _), (20, _)] rfl rfl rfl (.cons (.head _) rfl rfl (.cons (.tail _ (.tail _ (.tail _ (.tail _ (.tail _ (.tail _ (.tail _ (.head _)))))))) rfl rfl .nil)) (.s rfl rfl rfl) ?_
        refine .tail0 11 [[11, 4, 10, 2, 3, 9, 1, 8, 0, 6, 7, 5], [12, 2, 11, 1, 4, 10, 0, 3, 9, 8, 6, 7, 5]] rfl rfl rfl rfl (e' := [(28, _), (27, _), (26, _), (25, _), (24, _), (23, _), (22, _), (21, _), (20, _), (19, _), (18, _), (3, _), (4, _), (6, _), (7, _), (8, _), (9, _)]) rfl ?_
        refine .gs rfl rfl rfl rfl ?_
        refine .v (.pkF rfl rfl) rfl ?_
        refine .nil ?_
        refine .then ?_
        refine .condF rfl ?_
        refine .skip ?_
        refine .then ?_
        refine .seq ?_
        refine .draw [[], [0], [], [1, 2], [3], [4], [], [6], [5, 7]] [] (by kernel_rfl) (by kernel_rfl) rfl (e1 := [(3, _), (4, _), (6, _), (7, _), (8, _), (9, _)]) (.cons rfl rfl (.cons rfl rfl (.cons rfl rfl (.cons rfl rfl (.cons rfl rfl (.cons rfl rfl .nil)))))) (fun x hx => by cases hx) rfl ?_
        refine .v (i := 0) [] rfl rfl rfl .nil (.n (.fa0 fl38_0 rfl)) ?_
        refine .v (i := 1) [(35, _)] rfl rfl rfl (.cons (.head _) rfl rfl .nil) (.n (.ldb ty36 rfl (.there (.there (.there .here))) rfl)) ?_
        refine .v (i := 2) [] rfl rfl rfl .nil (.n (.mv rfl)) ?_
        refine .ix (i := 3) (j := (k : Int)) [(36, _), (37, _)] rfl rfl rfl (.cons (.tail _ (.head _)) rfl rfl (.cons (.head _) rfl rfl .nil)) hS x ⟨by omega, hf⟩ (fun b_ o_ hr_ ha_ hle_ => .n (.ixs sl36 rfl rfl ⟨by omega, hf⟩ ha_ hle_)) (fun p6 o7 r8 => ?_)
        refine .v (i := 4) [(38, _)] rfl rfl rfl (.cons (.head _) rfl rfl .nil) (.n (.fa0 fl76_0 rfl)) ?_
        refine .v (i := 5) [(39, _)] rfl rfl rfl (.cons (.head _) rfl rfl .nil) (.n (.ldr0 ty3 rfl r8 rfl)) ?_
        refine .v (i := 6) [] rfl rfl rfl .nil (.n (.fa0 fl76_0 rfl)) ?_
        refine .v (i := 7) [(41, _)] rfl rfl rfl (.cons (.head _) rfl rfl .nil) (.n (.ldb ty3 rfl (.there (.there .here)) rfl)) ?_
        refine .tail0 8 [[8, 5, 7, 4, 6, 3, 1, 2, 0]] rfl rfl rfl rfl (e' := [(42, _), (41, _), (40, _), (39, _), (38, _), (37, _), (36, _), (35, _), (3, _), (4, _), (6, _), (7, _), (8, _), (9, _)]) rfl ?_
        refine .vs (.ne rfl rfl) rfl (fun h43_9 => ?_) (fun h43_9 => ?_)
        · skip
          refine .nil ?_
          refine .then ?_
          refine .condT rfl ?_
          refine .region ?_
          refine .v (.mv rfl) rfl ?_
          refine .v (.fa0 fl38_0 rfl) rfl ?_
          refine .v (.ldb ty36 rfl (.there (.there (.there .here))) rfl) rfl ?_
          refine .v (.mv rfl) rfl ?_
          refine .ix sl36 rfl rfl hS rfl x ⟨by omega, hf⟩ (fun p10 o11 r12 => ?_)
          refine .v (.ldrw ty76 rfl r12 rfl) rfl ?_
          refine .nb (.lit1 sl36 ty76 rfl rfl rfl rfl rfl) rfl (fun b13 => ?_)
          refine .ap (.app1 (xs := out) (x) sl36 ty76 rfl encF_ok rfl rfl hr .here (by first | omega | (simp; omega)) (by first | omega | (simp; omega)) _ (fun _ => (.there .here))) rfl (fun a3 c3 it3 hr3 => ?_)
          refine .v (.asn rfl) rfl ?_
          refine .nil ?_
          refine .blk ?_
          refine .then ?_
          refine .region ?_
          refine .v (.mv rfl) rfl ?_
          refine .v (.add rfl rfl (by omega)) rfl ?_
          refine .v (.asn rfl) rfl ?_
          refine .nil ?_
          exact .again (k + 1, true, out ++ [x], a3, c3, it3) ⟨by omega, by simp; omega, by rw [hcr, drop_get hf]; simp [turnGo, h43_9, c8_5], hr3⟩ (by dsimp only; omega) (.cons rfl rfl (.cons rfl rfl (.cons rfl rfl (.cons rfl rfl (.cons rfl rfl (.cons rfl rfl .nil)))))) (fun w ho => by dsimp only [List.cons_append, List.nil_append]; skip; exact (subl (.cons _ (.cons_cons _ (.cons_cons _ (.cons_cons _ (.cons_cons _ (.cons_cons _ .slnil))))))) w ho)
        · skip
          refine .nil ?_
          refine .then ?_
          refine .condF rfl ?_
          refine .skip ?_
          refine .blk ?_
          refine .then ?_
          refine .region ?_
          refine .v (.mv rfl) rfl ?_
          refine .v (.add rfl rfl (by omega)) rfl ?_
          refine .v (.asn rfl) rfl ?_
          refine .nil ?_
          exact .again (k + 1, true, out, a1, c1, it) ⟨by omega, by simp; omega, by rw [hcr, drop_get hf]; simp [turnGo, h43_9, c8_5], hr⟩ (by dsimp only; omega) (.cons rfl rfl (.cons rfl rfl (.cons rfl rfl (.cons rfl rfl (.cons rfl rfl (.cons rfl rfl .nil)))))) (fun w ho => by dsimp only [List.cons_append, List.nil_append]; skip; exact (subl (.cons_cons _ (.cons_cons _ (.cons_cons _ (.cons_cons _ (.cons_cons _ .slnil)))))) w ho)
      · skip
        refine .draw [[], [0], [1], [2], [3, 2], [2], [5, 2], [2], [6, 7, 2], [8, 2], [9, 2], [4, 10, 2], [2, 11]] [] (by kernel_rfl) (by kernel_rfl) rfl (e1 := [(3, _), (4, _), (6, _), (7, _), (8, _), (9, _)]) (.cons rfl rfl (.cons rfl rfl (.cons rfl rfl (.cons rfl rfl (.cons rfl rfl (.cons rfl rfl .nil)))))) (fun x hx => by cases hx) rfl ?_
        refine .v (i := 0) [] rfl rfl rfl .nil (.n (.mv rfl)) ?_
        refine .v (i := 1) [(18, _)] rfl rfl rfl (.cons (.head _) rfl rfl .nil) (.n (.not rfl)) ?_
        refine .v (i := 2) [(19, _)] rfl rfl rfl (.cons (.head _) rfl rfl .nil) (.n (.mv rfl)) ?_
        refine .v (i := 3) [(20, _)] rfl rfl rfl (.cons (.head _) rfl rfl .nil) (.g rfl rfl rfl (.fa0 fl76_0 rfl)) ?_
        refine .v (i := 4) [(21, _), (20, _)] rfl rfl rfl (.cons (.head _) rfl rfl (.cons (.tail _ (.head _)) rfl rfl .nil)) (.g rfl rfl rfl (.ldb ty3 rfl (.there (.there .here)) rfl)) ?_
        refine .v (i := 5) [(20, _)] rfl rfl rfl (.cons (.tail _ (.tail _ (.head _))) rfl rfl .nil) (.g rfl rfl rfl (.fa0 fl38_0 rfl)) ?_
        refine .v (i := 6) [(23, _), (20, _)] rfl rfl rfl (.cons (.head _) rfl rfl (.cons (.tail _ (.tail _ (.tail _ (.head _)))) rfl rfl .nil)) (.g rfl rfl rfl (.ldb ty36 rfl (.there (.there (.there .here))) rfl)) ?_
        refine .v (i := 7) [(20, _)] rfl rfl rfl (.cons (.tail _ (.tail _ (.tail _ (.tail _ (.head _))))) rfl rfl .nil) (.g rfl rfl rfl (.mv rfl)) ?_
        refine .ix (i := 8) (j := (k : Int)) [(24, _), (25, _), (20, _)] rfl rfl rfl (.cons (.tail _ (.head _)) rfl rfl (.cons (.head _) rfl rfl (.cons (.tail _ (.tail _ (.tail _ (.tail _ (.tail _ (.head _)))))) rfl rfl .nil))) hS x ⟨by omega, hf⟩ (fun b_ o_ hr_ ha_ hle_ => .g rfl rfl rfl (.ixs sl36 rfl rfl ⟨by omega, hf⟩ ha_ hle_)) (fun p14 o15 r16 => ?_)
        refine .v (i := 9) [(26, _), (20, _)] rfl rfl rfl (.cons (.head _) rfl rfl (.cons (.tail _ (.tail _ (.tail _ (.tail _ (.tail _ (.tail _ (.head _))))))) rfl rfl .nil)) (.g rfl rfl rfl (.fa0 fl76_0 rfl)) ?_
        refine .v (i := 10) [(27, _), (20, _)] rfl rfl rfl (.cons (.head _) rfl rfl (.cons (.tail _ (.tail _ (.tail _ (.tail _ (.tail _ (.tail _ (.tail _ (.head _)))))))) rfl rfl .nil)) (.g rfl rfl rfl (.ldr0 ty3 rfl r16 rfl)) ?_
        refine .tail0 11 [[11, 4, 10, 2, 3, 9, 1, 8, 0, 6, 7, 5], [12, 2, 11, 1, 4, 10, 0, 3, 9, 8, 6, 7, 5]] rfl rfl rfl rfl (e' := [(28, _), (27, _), (26, _), (25, _), (24, _), (23, _), (22, _), (21, _), (20, _), (19, _), (18, _), (3, _), (4, _), (6, _), (7, _), (8, _), (9, _)]) rfl ?_
        refine .g rfl rfl rfl ?_
        refine .vs (.le rfl rfl) rfl (fun h29_17 => ?_) (fun h29_17 => ?_)
        · skip
          refine .v (.pkT rfl rfl) rfl ?_
          refine .nil ?_
          refine .then ?_
          refine .condT rfl ?_
          refine .seq ?_
          refine .region ?_
          refine .v (.mv rfl) rfl ?_
          refine .v (.ldw ty76 rfl (.there (.there .here)) rfl) rfl ?_
          refine .nb (.lit1 sl36 ty76 rfl rfl rfl rfl rfl) rfl (fun b18 => ?_)
          refine .ap (.app1 (xs := out) (f) sl36 ty76 rfl encF_ok rfl rfl hr .here (by first | omega | (simp; omega)) (by first | omega | (simp; omega)) _ (fun _ => (.there .here))) rfl (fun a2 c2 it2 hr2 => ?_)
          refine .v (.asn rfl) rfl ?_
          refine .nil ?_
          refine .then ?_
          refine .region ?_
          refine .v (.asn rfl) rfl ?_
          refine .nil ?_
          refine .then ?_
          refine .seq ?_
          refine .draw [[], [0], [], [1, 2], [3], [4], [], [6], [5, 7]] [] (by kernel_rfl) (by kernel_rfl) rfl (e1 := [(3, _), (4, _), (6, _), (7, _), (8, _), (9, _)]) (.cons rfl rfl (.cons rfl rfl (.cons rfl rfl (.cons rfl rfl (.cons rfl rfl (.cons rfl rfl .nil)))))) (fun x hx => by cases hx) rfl ?_
          refine .v (i := 0) [] rfl rfl rfl .nil (.n (.fa0 fl38_0 rfl)) ?_
          refine .v (i := 1) [(35, _)] rfl rfl rfl (.cons (.head _) rfl rfl .nil) (.n (.ldb ty36 rfl (.there (.there (.there (.there .here)))) rfl)) ?_
          refine .v (i := 2) [] rfl rfl rfl .nil (.n (.mv rfl)) ?_
          refine .ix (i := 3) (j := (k : Int)) [(36, _), (37, _)] rfl rfl rfl (.cons (.tail _ (.head _)) rfl rfl (.cons (.head _) rfl rfl .nil)) hS x ⟨by omega, hf⟩ (fun b_ o_ hr_ ha_ hle_ => .n (.ixs sl36 rfl rfl ⟨by omega, hf⟩ ha_ hle_)) (fun p19 o20 r21 => ?_)
          refine .v (i := 4) [(38, _)] rfl rfl rfl (.cons (.head _) rfl rfl .nil) (.n (.fa0 fl76_0 rfl)) ?_
          refine .v (i := 5) [(39, _)] rfl rfl rfl (.cons (.head _) rfl rfl .nil) (.n (.ldr0 ty3 rfl r21 rfl)) ?_
          refine .v (i := 6) [] rfl rfl rfl .nil (.n (.fa0 fl76_0 rfl)) ?_
          refine .v (i := 7) [(41, _)] rfl rfl rfl (.cons (.head _) rfl rfl .nil) (.n (.ldb ty3 rfl (.there (.there (.there .here))) rfl)) ?_
          refine .tail0 8 [[8, 5, 7, 4, 6, 3, 1, 2, 0]] rfl rfl rfl rfl (e' := [(42, _), (41, _), (40, _), (39, _), (38, _), (37, _), (36, _), (35, _), (3, _), (4, _), (6, _), (7, _), (8, _), (9, _)]) rfl ?_
          refine .vs (.ne rfl rfl) rfl (fun h43_22 => ?_) (fun h43_22 => ?_)
          · skip
            refine .nil ?_
            refine .then ?_
            refine .condT rfl ?_
            refine .region ?_
            refine .v (.mv rfl) rfl ?_
            refine .v (.fa0 fl38_0 rfl) rfl ?_
            refine .v (.ldb ty36 rfl (.there (.there (.there (.there .here)))) rfl) rfl ?_
            refine .v (.mv rfl) rfl ?_
            refine .ix sl36 rfl rfl hS rfl x ⟨by omega, hf⟩ (fun p23 o24 r25 => ?_)
            refine .v (.ldrw ty76 rfl r25 rfl) rfl ?_
            refine .nb (.lit1 sl36 ty76 rfl rfl rfl rfl rfl) rfl (fun b26 => ?_)
            refine .ap (.app1 (xs := out ++ [f]) (x) sl36 ty76 rfl encF_ok rfl rfl hr2 .here (by first | omega | (simp; omega)) (by first | omega | (simp; omega)) _ (fun _ => (.there (.there .here)))) rfl (fun a3 c3 it3 hr3 => ?_)
            refine .v (.asn rfl) rfl ?_
            refine .nil ?_
            refine .blk ?_
            refine .then ?_
            refine .region ?_
            refine .v (.mv rfl) rfl ?_
            refine .v (.add rfl rfl (by omega)) rfl ?_
            refine .v (.asn rfl) rfl ?_
            refine .nil ?_
            exact .again (k + 1, true, out ++ [f] ++ [x], a3, c3, it3) ⟨by omega, by simp; omega, by rw [hcr, drop_get hf]; simp [turnGo, h29_17, h43_22, c8_5], hr3⟩ (by dsimp only; omega) (.cons rfl rfl (.cons rfl rfl (.cons rfl rfl (.cons rfl rfl (.cons rfl rfl (.cons rfl rfl .nil)))))) (fun w ho => by dsimp only [List.cons_append, List.nil_append]; skip; exact (subl (.cons _ (.cons _ (.cons_cons _ (.cons_cons _ (.cons_cons _ (.cons_cons _ (.cons_cons _ .slnil)))))))) w ho)
          · skip
            refine .nil ?_
            refine .then ?_
            refine .condF rfl ?_
            refine .skip ?_
            refine .blk ?_
            refine .then ?_
            refine .region ?_
            refine .v (.mv rfl) rfl ?_
            refine .v (.add rfl rfl (by omega)) rfl ?_
            refine .v (.asn rfl) rfl ?_
            refine .nil ?_
            exact .again (k + 1, true, out ++ [f], a2, c2, it2) ⟨by omega, by simp; omega, by rw [hcr, drop_get hf]; simp [turnGo, h29_17, h43_22, c8_5], hr2⟩ (by dsimp only; omega) (.cons rfl rfl (.cons rfl rfl (.cons rfl rfl (.cons rfl rfl (.cons rfl rfl (.cons rfl rfl .nil)))))) (fun w ho => by dsimp only [List.cons_append, List.nil_append]; skip; exact (subl (.cons _ (.cons_cons _ (.cons_cons _ (.cons_cons _ (.cons_cons _ (.cons_cons _ .slnil))))))) w ho)
        · skip
          refine .v (.pkT rfl rfl) rfl ?_
          refine .nil ?_
          refine .then ?_
          refine .condF rfl ?_
          refine .skip ?_
          refine .then ?_
          refine .seq ?_
          refine .draw [[], [0], [], [1, 2], [3], [4], [], [6], [5, 7]] [] (by kernel_rfl) (by kernel_rfl) rfl (e1 := [(3, _), (4, _), (6, _), (7, _), (8, _), (9, _)]) (.cons rfl rfl (.cons rfl rfl (.cons rfl rfl (.cons rfl rfl (.cons rfl rfl (.cons rfl rfl .nil)))))) (fun x hx => by cases hx) rfl ?_
          refine .v (i := 0) [] rfl rfl rfl .nil (.n (.fa0 fl38_0 rfl)) ?_
          refine .v (i := 1) [(35, _)] rfl rfl rfl (.cons (.head _) rfl rfl .nil) (.n (.ldb ty36 rfl (.there (.there (.there .here))) rfl)) ?_
          refine .v (i := 2) [] rfl rfl rfl .nil (.n (.mv rfl)) ?_
          refine .ix (i := 3) (j := (k : Int)) [(36, _), (37, _)] rfl rfl rfl (.cons (.tail _ (.head _)) rfl rfl (.cons (.head _) rfl rfl .nil)) hS x ⟨by omega, hf⟩ (fun b_ o_ hr_ ha_ hle_ => .n (.ixs sl36 rfl rfl ⟨by omega, hf⟩ ha_ hle_)) (fun p27 o28 r29 => ?_)
          refine .v (i := 4) [(38, _)] rfl rfl rfl (.cons (.head _) rfl rfl .nil) (.n (.fa0 fl76_0 rfl)) ?_
          refine .v (i := 5) [(39, _)] rfl rfl rfl (.cons (.head _) rfl rfl .nil) (.n (.ldr0 ty3 rfl r29 rfl)) ?_
          refine .v (i := 6) [] rfl rfl rfl .nil (.n (.fa0 fl76_0 rfl)) ?_
          refine .v (i := 7) [(41, _)] rfl rfl rfl (.cons (.head _) rfl rfl .nil) (.n (.ldb ty3 rfl (.there (.there .here)) rfl)) ?_
          refine .tail0 8 [[8, 5, 7, 4, 6, 3, 1, 2, 0]] rfl rfl rfl rfl (e' := [(42, _), (41, _), (40, _), (39, _), (38, _), (37, _), (36, _), (35, _), (3, _), (4, _), (6, _), (7, _), (8, _), (9, _)]) rfl ?_
          refine .vs (.ne rfl rfl) rfl (fun h43_30 => ?_) (fun h43_30 => ?_)
          · skip
            refine .nil ?_
            refine .then ?_
            refine .condT rfl ?_
            refine .region ?_
            refine .v (.mv rfl) rfl ?_
            refine .v (.fa0 fl38_0 rfl) rfl ?_
            refine .v (.ldb ty36 rfl (.there (.there (.there .here))) rfl) rfl ?_
            refine .v (.mv rfl) rfl ?_
            refine .ix sl36 rfl rfl hS rfl x ⟨by omega, hf⟩ (fun p31 o32 r33 => ?_)
            refine .v (.ldrw ty76 rfl r33 rfl) rfl ?_
            refine .nb (.lit1 sl36 ty76 rfl rfl rfl rfl rfl) rfl (fun b34 => ?_)
            refine .ap (.app1 (xs := out) (x) sl36 ty76 rfl encF_ok rfl rfl hr .here (by first | omega | (simp; omega)) (by first | omega | (simp; omega)) _ (fun _ => (.there .here))) rfl (fun a3 c3 it3 hr3 => ?_)
            refine .v (.asn rfl) rfl ?_
            refine .nil ?_
            refine .blk ?_
            refine .then ?_
            refine .region ?_
            refine .v (.mv rfl) rfl ?_
            refine .v (.add rfl rfl (by omega)) rfl ?_
            refine .v (.asn rfl) rfl ?_
            refine .nil ?_
            exact .again (k + 1, false, out ++ [x], a3, c3, it3) ⟨by omega, by simp; omega, by rw [hcr, drop_get hf]; simp [turnGo, h29_17, h43_30, c8_5], hr3⟩ (by dsimp only; omega) (.cons rfl rfl (.cons rfl rfl (.cons rfl rfl (.cons rfl rfl (.cons rfl rfl (.cons rfl rfl .nil)))))) (fun w ho => by dsimp only [List.cons_append, List.nil_append]; skip; exact (subl (.cons _ (.cons_cons _ (.cons_cons _ (.cons_cons _ (.cons_cons _ (.cons_cons _ .slnil))))))) w ho)
          · skip
            refine .nil ?_
            refine .then ?_
            refine .condF rfl ?_
            refine .skip ?_
            refine .blk ?_
            refine .then ?_
            refine .region ?_
            refine .v (.mv rfl) rfl ?_
            refine .v (.add rfl rfl (by omega)) rfl ?_
            refine .v (.asn rfl) rfl ?_
            refine .nil ?_
            exact .again (k + 1, false, out, a1, c1, it) ⟨by omega, by simp; omega, by rw [hcr, drop_get hf]; simp [turnGo, h29_17, h43_30, c8_5], hr⟩ (by dsimp only; omega) (.cons rfl rfl (.cons rfl rfl (.cons rfl rfl (.cons rfl rfl (.cons rfl rfl (.cons rfl rfl .nil)))))) (fun w ho => by dsimp only [List.cons_append, List.nil_append]; skip; exact (subl (.cons_cons _ (.cons_cons _ (.cons_cons _ (.cons_cons _ (.cons_cons _ .slnil)))))) w ho)
    · skip
      refine .nil ?_
      refine .then ?_
      refine .condF rfl ?_
      refine .exit ?_
      refine .then_exit ?_
      refine .then_exit ?_
      refine .blk_exit ?_
      refine .then ?_
      refine .seq ?_
      refine .seq ?_
      refine .region ?_
      refine .v (.mv rfl) rfl ?_
      refine .v (.not rfl) rfl ?_
      refine .nil ?_
      refine .then ?_
      refine .cs (t := 53) rfl (fun c53_35 => ?_) (fun c53_35 => ?_)
      · skip
        refine .condT rfl ?_
        refine .region ?_
        refine .v (.mv rfl) rfl ?_
        refine .v (.ldw ty76 rfl (.there (.there .here)) rfl) rfl ?_
        refine .nb (.lit1 sl36 ty76 rfl rfl rfl rfl rfl) rfl (fun b36 => ?_)
        refine .ap (.app1 (xs := out) (f) sl36 ty76 rfl encF_ok rfl rfl hr .here (by first | omega | (simp; omega)) (by first | omega | (simp; omega)) _ (fun _ => (.there .here))) rfl (fun a4 c4 it4 hr4 => ?_)
        refine .v (.asn rfl) rfl ?_
        refine .nil ?_
        refine .then ?_
        refine .seq ?_
        refine .region ?_
        refine .v (.mv rfl) rfl ?_
        refine .v (.fa0 fl38_0 rfl) rfl ?_
        refine .st (.stb ty36 rfl rfl rfl st0 (.there (.there (.there (.there .here))))) ?_
        refine .nil ?_
        refine .then ?_
        refine .seq ?_
        refine .region ?_
        refine .v (.ldw ty38 rfl (.there (.there (.there (.there .here)))) rfl) rfl ?_
        refine .st (.stw ty38 rfl rfl rfl rfl rfl (.there (.there .here))) ?_
        refine .nil ?_
        refine .then ?_
        refine .ret ?_
        obtain rfl : k = d.files.length := by omega
        have hval : turnGo f gone d.files = out ++ [f] := by rw [hcr, List.drop_length]; have hh := c53_35; simp [turnGo] at hh ⊢; simp [hh]
        refine .freeze (it := it4) (.there .here) (fun G hle hG => ?_)
        exact .done _ [] (.c1 rfl ty38 rfl (.there (.there .here)) rfl) hle ⟨rfl, a4, c4, by rw [hval], by rw [hval]; exact hr4.sl encF_ok hG⟩ (Inn.keep (.there (.there (.there (.there (.there .here))))))
      · skip
        refine .condF rfl ?_
        refine .skip ?_
        refine .then ?_
        refine .seq ?_
        refine .region ?_
        refine .v (.mv rfl) rfl ?_
        refine .v (.fa0 fl38_0 rfl) rfl ?_
        refine .st (.stb ty36 rfl rfl rfl st0 (.there (.there (.there .here)))) ?_
        refine .nil ?_
        refine .then ?_
        refine .seq ?_
        refine .region ?_
        refine .v (.ldw ty38 rfl (.there (.there (.there .here))) rfl) rfl ?_
        refine .st (.stw ty38 rfl rfl rfl rfl rfl (.there .here)) ?_
        refine .nil ?_
        refine .then ?_
        refine .ret ?_
        obtain rfl : k = d.files.length := by omega
        have hval : turnGo f gone d.files = out := by rw [hcr, List.drop_length]; have hh := c53_35; simp [turnGo] at hh ⊢; simp [hh]
        refine .freeze (it := it) .here (fun G hle hG => ?_)
        exact .done _ [] (.c1 rfl ty38 rfl (.there .here) rfl) hle ⟨rfl, a1, c1, by rw [hval], by rw [hval]; exact hr.sl encF_ok hG⟩ (Inn.keep (.there (.there (.there (.there .here)))))
end Go.Proofs.Ytifkokikdlgaaaa.Ow
