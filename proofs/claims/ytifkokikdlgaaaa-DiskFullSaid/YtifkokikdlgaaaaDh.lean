/- Walks. -/
import Derived.Test.YtifkokikdlgaaaaDg
namespace Go.Proofs.Ytifkokikdlgaaaa.Ow
open Go
set_option linter.unusedVariables false
theorem diskCalls_fn (d : Dk) (a : Option Addr) (c : Nat) (F : Mem) (hS : Sl F encF 3 a c d.files) (hn : d.files.length * 40 ≤ 140737488355328) (id : Int) (s : ByteArray) : Fn Try.prog 6 #[dval a c d, .int .i64 id, .string s] [] F (fun v M G => M = [] ∧ v = .bool true) := by
  refine Fn.start0 Try.func6 rfl Try.ntmps6 rfl (env := [(0, _), (1, _), (2, _)]) rfl ?_
  intro R
  refine .seq ?_
  refine .region ?_
  refine .nb (.box rfl rfl) rfl (fun b1 => ?_)
  refine .v (.asn rfl) rfl ?_
  refine .nil ?_
  refine .then ?_
  refine .seq ?_
  refine .region ?_
  refine .v (.ldw ty28 rfl .here rfl) rfl ?_
  refine .cf rfl rfl (Try.call13 _) (ref_fn d a c _ hS hn) rfl ?_
  rintro _ G2 le3 ⟨a4, c4, rfl, hS4⟩
  replace hS := hS.mono le3
  have hF := le3
  refine .nb (.alloc ty38 rfl) rfl (fun b5 => ?_)
  refine .st (.stw ty38 rfl rfl rfl rfl rfl .here) ?_
  refine .nil ?_
  refine .then ?_
  refine .seq ?_
  refine .seq ?_
  refine .region ?_
  refine .v (.ldw ty38 rfl .here rfl) rfl ?_
  refine .vb (.call rfl rfl (Try.call12 _) (fun G hle hG => rsmall_fn d a4 c4 G (hS4.mono hle))) rfl (fun h27_6 => ?_) (fun h27_6 => ?_)
  · skip
    have hb60 := small_len h27_6
    have hb49 := small_tot h27_6
    have hb : tot d.files ≤ 4611686018427387904 := Nat.le_trans hb49 (by decide)
    refine .v (.not rfl) rfl ?_
    refine .v (.mv rfl) rfl ?_
    refine .g rfl rfl rfl ?_
    refine .v (.mv rfl) rfl ?_
    refine .g rfl rfl rfl ?_
    refine .v (.lens Try.underlying9 rfl) rfl ?_
    refine .g rfl rfl rfl ?_
    refine .vs (.gt rfl rfl) rfl (fun h32_7 => ?_) (fun h32_7 => ?_)
    · skip
      refine .v (.pkF rfl rfl) rfl ?_
      refine .nil ?_
      refine .then ?_
      refine .condT rfl ?_
      refine .seq ?_
      refine .region ?_
      refine .cf rfl rfl (Try.call10 _) (awake_fn _) rfl ?_
      rintro _ G8 le9 rfl
      replace hS := hS.mono le9
      replace hS4 := hS4.mono le9
      replace hF := hF.trans le9
      refine .v (.asn rfl) rfl ?_
      refine .nil ?_
      refine .then ?_
      refine .ret ?_
      refine .then_ret ?_
      exact .done _ [] (.t1 rfl rfl) hF ⟨rfl, rfl⟩ (Inn.keep (.there (.there .here)))
    · skip
      refine .v (.pkF rfl rfl) rfl ?_
      refine .nil ?_
      refine .then ?_
      refine .condF rfl ?_
      refine .skip ?_
      refine .then ?_
      refine .seq ?_
      refine .region ?_
      refine .v (.ldw ty28 rfl (.there .here) rfl) rfl ?_
      refine .v (.mv rfl) rfl ?_
      refine .v (.mv rfl) rfl ?_
      refine .cf rfl rfl (Try.call9 _) (append_fn d a c _ hS hb id s) rfl ?_
      rintro _ G11 le12 ⟨a13, c13, rfl, hS13⟩
      replace hS := hS.mono le12
      replace hS4 := hS4.mono le12
      replace hF := hF.trans le12
      refine .v (.mv rfl) rfl ?_
      refine .v (.ext rfl rfl) rfl ?_
      refine .v (.ext rfl rfl) rfl ?_
      refine .nb (.alloc ty28 rfl) rfl (fun b14 => ?_)
      refine .st (.stw ty28 rfl rfl rfl rfl rfl .here) ?_
      refine .v (.asn rfl) rfl ?_
      refine .nil ?_
      refine .then ?_
      refine .seq ?_
      refine .region ?_
      refine .v (.ldw ty28 rfl (.there (.there .here)) rfl) rfl ?_
      refine .v (.mv rfl) rfl ?_
      refine .cf rfl rfl (Try.call14 _) (sync_fn d a c _ hS hb id) rfl ?_
      rintro _ G15 le16 ⟨a17, c17, rfl, hS17⟩
      replace hS := hS.mono le16
      replace hS4 := hS4.mono le16
      replace hS13 := hS13.mono le16
      replace hF := hF.trans le16
      refine .v (.mv rfl) rfl ?_
      refine .v (.ext rfl rfl) rfl ?_
      refine .v (.ext rfl rfl) rfl ?_
      refine .nb (.alloc ty28 rfl) rfl (fun b18 => ?_)
      refine .st (.stw ty28 rfl rfl rfl rfl rfl .here) ?_
      refine .v (.asn rfl) rfl ?_
      refine .nil ?_
      refine .then ?_
      refine .seq ?_
      refine .region ?_
      refine .v (.ldw ty28 rfl (.there (.there (.there .here))) rfl) rfl ?_
      refine .v (.mv rfl) rfl ?_
      refine .cf rfl rfl (Try.call22 _) (remove_fn d a c _ hS hb id) rfl ?_
      rintro _ G19 le20 ⟨a21, c21, rfl, hS21⟩
      replace hS := hS.mono le20
      replace hS4 := hS4.mono le20
      replace hS13 := hS13.mono le20
      replace hS17 := hS17.mono le20
      replace hF := hF.trans le20
      refine .v (.mv rfl) rfl ?_
      refine .v (.ext rfl rfl) rfl ?_
      refine .v (.ext rfl rfl) rfl ?_
      refine .nb (.alloc ty28 rfl) rfl (fun b22 => ?_)
      refine .st (.stw ty28 rfl rfl rfl rfl rfl .here) ?_
      refine .v (.asn rfl) rfl ?_
      refine .nil ?_
      refine .then ?_
      refine .seq ?_
      refine .region ?_
      refine .v (.ldw ty28 rfl (.there (.there (.there (.there .here)))) rfl) rfl ?_
      refine .v (.mv rfl) rfl ?_
      refine .v (.call rfl rfl (Try.call23 _) (fun G hle hG => text_fn d a c G (hS.mono hle) hb id)) rfl ?_
      refine .v (.mv rfl) rfl ?_
      refine .v (.ext rfl rfl) rfl ?_
      refine .v (.ext rfl rfl) rfl ?_
      refine .v (.asn rfl) rfl ?_
      refine .v (.asn rfl) rfl ?_
      refine .nil ?_
      refine .then ?_
      refine .seq ?_
      refine .region ?_
      refine .v (.ldw ty38 rfl (.there (.there (.there .here))) rfl) rfl ?_
      refine .v (.mv rfl) rfl ?_
      refine .v (.mv rfl) rfl ?_
      refine .cf rfl rfl (Try.call24 _) (rdo0_fn d a4 c4 _ hS4 hb id s (by omega)) rfl ?_
      rintro _ G23 le24 ⟨a25, c25, rfl, hS25⟩
      replace hS := hS.mono le24
      replace hS4 := hS4.mono le24
      replace hS13 := hS13.mono le24
      replace hS17 := hS17.mono le24
      replace hS21 := hS21.mono le24
      replace hF := hF.trans le24
      refine .v (.mv rfl) rfl ?_
      refine .v (.ext rfl rfl) rfl ?_
      refine .v (.ext rfl rfl) rfl ?_
      refine .nb (.alloc ty38 rfl) rfl (fun b26 => ?_)
      refine .st (.stw ty38 rfl rfl rfl rfl rfl .here) ?_
      refine .v (.asn rfl) rfl ?_
      refine .nil ?_
      refine .then ?_
      refine .seq ?_
      refine .region ?_
      refine .v (.ldw ty38 rfl (.there (.there (.there (.there .here)))) rfl) rfl ?_
      refine .v (.mv rfl) rfl ?_
      refine .cf rfl rfl (Try.call24 _) (rdo1_fn d a4 c4 _ hS4 hb id ⟨#[]⟩ (by decide)) rfl ?_
      rintro _ G27 le28 ⟨a29, c29, rfl, hS29⟩
      replace hS := hS.mono le28
      replace hS4 := hS4.mono le28
      replace hS13 := hS13.mono le28
      replace hS17 := hS17.mono le28
      replace hS21 := hS21.mono le28
      replace hS25 := hS25.mono le28
      replace hF := hF.trans le28
      refine .v (.mv rfl) rfl ?_
      refine .v (.ext rfl rfl) rfl ?_
      refine .v (.ext rfl rfl) rfl ?_
      refine .nb (.alloc ty38 rfl) rfl (fun b30 => ?_)
      refine .st (.stw ty38 rfl rfl rfl rfl rfl .here) ?_
      refine .v (.asn rfl) rfl ?_
      refine .nil ?_
      refine .then ?_
      refine .seq ?_
      refine .region ?_
      refine .v (.ldw ty38 rfl (.there (.there (.there (.there (.there .here))))) rfl) rfl ?_
      refine .v (.mv rfl) rfl ?_
      refine .cf rfl rfl (Try.call24 _) (rdo2_fn d a4 c4 _ hS4 hb id ⟨#[]⟩ (by decide)) rfl ?_
      rintro _ G31 le32 ⟨a33, c33, rfl, hS33⟩
      replace hS := hS.mono le32
      replace hS4 := hS4.mono le32
      replace hS13 := hS13.mono le32
      replace hS17 := hS17.mono le32
      replace hS21 := hS21.mono le32
      replace hS25 := hS25.mono le32
      replace hS29 := hS29.mono le32
      replace hF := hF.trans le32
      refine .v (.mv rfl) rfl ?_
      refine .v (.ext rfl rfl) rfl ?_
      refine .v (.ext rfl rfl) rfl ?_
      refine .nb (.alloc ty38 rfl) rfl (fun b34 => ?_)
      refine .st (.stw ty38 rfl rfl rfl rfl rfl .here) ?_
      refine .v (.asn rfl) rfl ?_
      refine .nil ?_
      refine .then ?_
      refine .seq ?_
      refine .region ?_
      refine .v (.ldw ty38 rfl (.there (.there (.there (.there (.there (.there .here)))))) rfl) rfl ?_
      refine .v (.mv rfl) rfl ?_
      refine .v (.call rfl rfl (Try.call25 _) (fun G hle hG => rtext_fn d a4 c4 G (hS4.mono hle) hb id)) rfl ?_
      refine .v (.mv rfl) rfl ?_
      refine .v (.ext rfl rfl) rfl ?_
      refine .v (.ext rfl rfl) rfl ?_
      refine .v (.asn rfl) rfl ?_
      refine .v (.asn rfl) rfl ?_
      refine .nil ?_
      refine .then ?_
      refine .seq ?_
      refine .draw [[], [0], [], [1, 2, 1], [3, 3], [4], [4], [5, 6, 4], [4, 7], [8, 4], [9], [10, 9, 9], [9], [11, 12, 11, 9], [9, 13], [14, 13], [15], [15], [16, 17, 15], [15, 18], [19, 15], [20], [21, 20, 20], [20], [22, 23, 22, 20], [20, 24], [25, 24], [26], [26], [27, 28, 26], [26, 29], [30, 26], [31], [31], [32, 33, 31], [31, 34], [35, 31], [36], [36], [37, 38, 36], [36, 39], [40, 36], [41, 41], [41, 42], [43, 42, 0, 1, 2, 3, 4, 5, 6, 7, 8, 9, 10, 11, 12, 13, 14, 15, 16, 17, 18, 19, 20, 21, 22, 23, 24, 25, 26, 27, 28, 29, 30, 31, 32, 33, 34, 35, 36, 37, 38, 39, 40, 41, 42, 43]] [] (by kernel_rfl) (by kernel_rfl) rfl (e1 := [(6, _), (8, _), (9, _), (10, _), (11, _), (12, _), (13, _), (14, _), (15, _), (16, _), (17, _), (18, _), (19, _), (20, _), (21, _), (22, _), (23, _)]) (.cons rfl rfl (.cons rfl rfl (.cons rfl rfl (.cons rfl rfl (.cons rfl rfl (.cons rfl rfl (.cons rfl rfl (.cons rfl rfl (.cons rfl rfl (.cons rfl rfl (.cons rfl rfl (.cons rfl rfl (.cons rfl rfl (.cons rfl rfl (.cons rfl rfl (.cons rfl rfl (.cons rfl rfl .nil))))))))))))))))) (fun x hx => by cases hx) rfl ?_
      refine .v (i := 0) [] rfl rfl rfl .nil (.n (.ldw ty28 rfl (.there (.there (.there (.there (.there .here))))) rfl)) ?_
      refine .v (i := 2) [] rfl rfl rfl .nil (.n (.ldw ty38 rfl (.there (.there .here)) rfl)) ?_
      refine .e (i := 1) [(85, _)] [1, 0] rfl rfl rfl (.cons (.tail _ (.head _)) rfl rfl .nil) rfl rfl rfl .n (.call rfl rfl (Try.call13 _) (ref_fn (append d id s).1 a13 c13 _ hS13 (by have := append_len d id s; omega)) _ rfl) ?_
      rintro _ _ G35 le36 ⟨_, rfl, rfl, a37, c37, rfl, hS37⟩
      replace hS := hS.mono le36
      replace hS4 := hS4.mono le36
      replace hS13 := hS13.mono le36
      replace hS17 := hS17.mono le36
      replace hS21 := hS21.mono le36
      replace hS25 := hS25.mono le36
      replace hS29 := hS29.mono le36
      replace hS33 := hS33.mono le36
      replace hF := hF.trans le36
      refine ⟨.again [] rfl .nil (.n (.ldw ty38 rfl (.there (.there .here)) rfl)) (.skip rfl .nil), rfl, ?_⟩
      refine .bT (i := 3) [(86, _), (87, _)] rfl rfl rfl (.cons (.head _) rfl rfl (.cons (.tail _ (.head _)) rfl rfl .nil)) (.n (.call rfl rfl (Try.call15 _) (fun G hle hG => requal_fn (append d id s).1 (append d id s).1 a37 a25 c37 c25 G (hS37.mono hle) (hS25.mono hle)))) (sameD_refl _) ?_
      refine .v (i := 4) [(88, _)] rfl rfl rfl (.cons (.head _) rfl rfl .nil) (.n (.mv rfl)) ?_
      refine .v (i := 5) [(89, _)] rfl rfl rfl (.cons (.head _) rfl rfl .nil) (.g rfl rfl rfl (.mv rfl)) ?_
      refine .v (i := 6) [(89, _)] rfl rfl rfl (.cons (.tail _ (.head _)) rfl rfl .nil) (.g rfl rfl rfl (.mv rfl)) ?_
      refine .vT (i := 7) [(90, _), (91, _), (89, _)] rfl rfl rfl (.cons (.tail _ (.head _)) rfl rfl (.cons (.head _) rfl rfl (.cons (.tail _ (.tail _ (.head _))) rfl rfl .nil))) (.g rfl rfl rfl (.eq rfl rfl)) rfl ?_
      refine .v (i := 8) [(89, _), (92, _)] rfl rfl rfl (.cons (.tail _ (.tail _ (.tail _ (.head _)))) rfl rfl (.cons (.head _) rfl rfl .nil)) (.n (.pkT rfl rfl)) ?_
      refine .v (i := 9) [(93, _)] rfl rfl rfl (.cons (.head _) rfl rfl .nil) (.n (.mv rfl)) ?_
      refine .v (i := 10) [(94, _)] rfl rfl rfl (.cons (.head _) rfl rfl .nil) (.g rfl rfl rfl (.ldw ty28 rfl (.there (.there (.there (.there .here)))) rfl)) ?_
      refine .v (i := 12) [(94, _)] rfl rfl rfl (.cons (.tail _ (.head _)) rfl rfl .nil) (.g rfl rfl rfl (.ldw ty38 rfl (.there .here) rfl)) ?_
      refine .e (i := 11) [(95, _), (94, _)] [11, 10, 9, 8, 4, 7, 3, 5, 6, 1, 2, 0] rfl rfl rfl (.cons (.tail _ (.head _)) rfl rfl (.cons (.tail _ (.tail _ (.head _))) rfl rfl .nil)) rfl rfl rfl (.g rfl rfl rfl) (.call rfl rfl (Try.call13 _) (ref_fn (sync d id).1 a17 c17 _ hS17 (by have := sync_len d id; omega)) _ rfl) ?_
      rintro _ _ G38 le39 ⟨_, rfl, rfl, a40, c40, rfl, hS40⟩
      replace hS := hS.mono le39
      replace hS4 := hS4.mono le39
      replace hS13 := hS13.mono le39
      replace hS17 := hS17.mono le39
      replace hS21 := hS21.mono le39
      replace hS25 := hS25.mono le39
      replace hS29 := hS29.mono le39
      replace hS33 := hS33.mono le39
      replace hS37 := hS37.mono le39
      replace hF := hF.trans le39
      refine ⟨.again [(94, _)] rfl (.cons (.tail _ (.tail _ (.head _))) rfl rfl .nil) (.g rfl rfl rfl (.ldw ty38 rfl (.there .here) rfl)) (.skip rfl (.skip rfl (.skip rfl (.skip rfl (.skip rfl (.skip rfl (.skip rfl (.skip rfl (.skip rfl (.skip rfl (.skip rfl .nil))))))))))), rfl, ?_⟩
      refine .bT (i := 13) [(96, _), (97, _), (94, _)] rfl rfl rfl (.cons (.head _) rfl rfl (.cons (.tail _ (.head _)) rfl rfl (.cons (.tail _ (.tail _ (.tail _ (.head _)))) rfl rfl .nil))) (.g rfl rfl rfl (.call rfl rfl (Try.call15 _) (fun G hle hG => requal_fn (sync d id).1 (sync d id).1 a40 a29 c40 c29 G (hS40.mono hle) (hS29.mono hle)))) (sameD_refl _) ?_
      refine .v (i := 14) [(94, _), (98, _)] rfl rfl rfl (.cons (.tail _ (.tail _ (.tail _ (.tail _ (.head _))))) rfl rfl (.cons (.head _) rfl rfl .nil)) (.n (.pkT rfl rfl)) ?_
      refine .v (i := 15) [(99, _)] rfl rfl rfl (.cons (.head _) rfl rfl .nil) (.n (.mv rfl)) ?_
      refine .v (i := 16) [(100, _)] rfl rfl rfl (.cons (.head _) rfl rfl .nil) (.g rfl rfl rfl (.mv rfl)) ?_
      refine .v (i := 17) [(100, _)] rfl rfl rfl (.cons (.tail _ (.head _)) rfl rfl .nil) (.g rfl rfl rfl (.mv rfl)) ?_
      refine .vT (i := 18) [(101, _), (102, _), (100, _)] rfl rfl rfl (.cons (.tail _ (.head _)) rfl rfl (.cons (.head _) rfl rfl (.cons (.tail _ (.tail _ (.head _))) rfl rfl .nil))) (.g rfl rfl rfl (.eq rfl rfl)) rfl ?_
      refine .v (i := 19) [(100, _), (103, _)] rfl rfl rfl (.cons (.tail _ (.tail _ (.tail _ (.head _)))) rfl rfl (.cons (.head _) rfl rfl .nil)) (.n (.pkT rfl rfl)) ?_
      refine .v (i := 20) [(104, _)] rfl rfl rfl (.cons (.head _) rfl rfl .nil) (.n (.mv rfl)) ?_
      refine .v (i := 21) [(105, _)] rfl rfl rfl (.cons (.head _) rfl rfl .nil) (.g rfl rfl rfl (.ldw ty28 rfl (.there (.there (.there .here))) rfl)) ?_
      refine .v (i := 23) [(105, _)] rfl rfl rfl (.cons (.tail _ (.head _)) rfl rfl .nil) (.g rfl rfl rfl (.ldw ty38 rfl .here rfl)) ?_
      refine .e (i := 22) [(106, _), (105, _)] [22, 21, 20, 19, 15, 18, 14, 13, 16, 17, 9, 11, 12, 8, 4, 10, 7, 3, 5, 6, 1, 2, 0] rfl rfl rfl (.cons (.tail _ (.head _)) rfl rfl (.cons (.tail _ (.tail _ (.head _))) rfl rfl .nil)) rfl rfl rfl (.g rfl rfl rfl) (.call rfl rfl (Try.call13 _) (ref_fn (remove d id).1 a21 c21 _ hS21 (by have := remove_len d id; omega)) _ rfl) ?_
      rintro _ _ G41 le42 ⟨_, rfl, rfl, a43, c43, rfl, hS43⟩
      replace hS := hS.mono le42
      replace hS4 := hS4.mono le42
      replace hS13 := hS13.mono le42
      replace hS17 := hS17.mono le42
      replace hS21 := hS21.mono le42
      replace hS25 := hS25.mono le42
      replace hS29 := hS29.mono le42
      replace hS33 := hS33.mono le42
      replace hS37 := hS37.mono le42
      replace hS40 := hS40.mono le42
      replace hF := hF.trans le42
      refine ⟨.again [(105, _)] rfl (.cons (.tail _ (.tail _ (.head _))) rfl rfl .nil) (.g rfl rfl rfl (.ldw ty38 rfl .here rfl)) (.skip rfl (.skip rfl (.skip rfl (.skip rfl (.skip rfl (.skip rfl (.skip rfl (.skip rfl (.skip rfl (.skip rfl (.skip rfl (.skip rfl (.skip rfl (.skip rfl (.skip rfl (.skip rfl (.skip rfl (.skip rfl (.skip rfl (.skip rfl (.skip rfl (.skip rfl .nil)))))))))))))))))))))), rfl, ?_⟩
      refine .bT (i := 24) [(107, _), (108, _), (105, _)] rfl rfl rfl (.cons (.head _) rfl rfl (.cons (.tail _ (.head _)) rfl rfl (.cons (.tail _ (.tail _ (.tail _ (.head _)))) rfl rfl .nil))) (.g rfl rfl rfl (.call rfl rfl (Try.call15 _) (fun G hle hG => requal_fn (remove d id).1 (remove d id).1 a43 a33 c43 c33 G (hS43.mono hle) (hS33.mono hle)))) (sameD_refl _) ?_
      refine .v (i := 25) [(105, _), (109, _)] rfl rfl rfl (.cons (.tail _ (.tail _ (.tail _ (.tail _ (.head _))))) rfl rfl (.cons (.head _) rfl rfl .nil)) (.n (.pkT rfl rfl)) ?_
      refine .v (i := 26) [(110, _)] rfl rfl rfl (.cons (.head _) rfl rfl .nil) (.n (.mv rfl)) ?_
      refine .v (i := 27) [(111, _)] rfl rfl rfl (.cons (.head _) rfl rfl .nil) (.g rfl rfl rfl (.mv rfl)) ?_
      refine .v (i := 28) [(111, _)] rfl rfl rfl (.cons (.tail _ (.head _)) rfl rfl .nil) (.g rfl rfl rfl (.mv rfl)) ?_
      refine .vT (i := 29) [(112, _), (113, _), (111, _)] rfl rfl rfl (.cons (.tail _ (.head _)) rfl rfl (.cons (.head _) rfl rfl (.cons (.tail _ (.tail _ (.head _))) rfl rfl .nil))) (.g rfl rfl rfl (.eq rfl rfl)) rfl ?_
      refine .v (i := 30) [(111, _), (114, _)] rfl rfl rfl (.cons (.tail _ (.tail _ (.tail _ (.head _)))) rfl rfl (.cons (.head _) rfl rfl .nil)) (.n (.pkT rfl rfl)) ?_
      refine .v (i := 31) [(115, _)] rfl rfl rfl (.cons (.head _) rfl rfl .nil) (.n (.mv rfl)) ?_
      refine .v (i := 32) [(116, _)] rfl rfl rfl (.cons (.head _) rfl rfl .nil) (.g rfl rfl rfl (.mv rfl)) ?_
      refine .v (i := 33) [(116, _)] rfl rfl rfl (.cons (.tail _ (.head _)) rfl rfl .nil) (.g rfl rfl rfl (.mv rfl)) ?_
      refine .vT (i := 34) [(117, _), (118, _), (116, _)] rfl rfl rfl (.cons (.tail _ (.head _)) rfl rfl (.cons (.head _) rfl rfl (.cons (.tail _ (.tail _ (.head _))) rfl rfl .nil))) (.g rfl rfl rfl (.eqs rfl rfl)) rfl ?_
      refine .v (i := 35) [(116, _), (119, _)] rfl rfl rfl (.cons (.tail _ (.tail _ (.tail _ (.head _)))) rfl rfl (.cons (.head _) rfl rfl .nil)) (.n (.pkT rfl rfl)) ?_
      refine .v (i := 36) [(120, _)] rfl rfl rfl (.cons (.head _) rfl rfl .nil) (.n (.mv rfl)) ?_
      refine .v (i := 37) [(121, _)] rfl rfl rfl (.cons (.head _) rfl rfl .nil) (.g rfl rfl rfl (.mv rfl)) ?_
      refine .v (i := 38) [(121, _)] rfl rfl rfl (.cons (.tail _ (.head _)) rfl rfl .nil) (.g rfl rfl rfl (.mv rfl)) ?_
      refine .tail0 39 [[39, 37, 38, 36, 35, 31, 34, 30, 26, 32, 33, 29, 25, 24, 27, 28, 20, 22, 23, 19, 15, 21, 18, 14, 13, 16, 17, 9, 11, 12, 8, 4, 10, 7, 3, 5, 6, 1, 2, 0], [40, 36, 39, 35, 31, 37, 38, 34, 30, 26, 32, 33, 29, 25, 24, 27, 28, 20, 22, 23, 19, 15, 21, 18, 14, 13, 16, 17, 9, 11, 12, 8, 4, 10, 7, 3, 5, 6, 1, 2, 0], [41, 40, 36, 39, 35, 31, 37, 38, 34, 30, 26, 32, 33, 29, 25, 24, 27, 28, 20, 22, 23, 19, 15, 21, 18, 14, 13, 16, 17, 9, 11, 12, 8, 4, 10, 7, 3, 5, 6, 1, 2, 0], [42, 41, 40, 36, 39, 35, 31, 37, 38, 34, 30, 26, 32, 33, 29, 25, 24, 27, 28, 20, 22, 23, 19, 15, 21, 18, 14, 13, 16, 17, 9, 11, 12, 8, 4, 10, 7, 3, 5, 6, 1, 2, 0], [43, 41, 42, 40, 36, 39, 35, 31, 37, 38, 34, 30, 26, 32, 33, 29, 25, 24, 27, 28, 20, 22, 23, 19, 15, 21, 18, 14, 13, 16, 17, 9, 11, 12, 8, 4, 10, 7, 3, 5, 6, 1, 2, 0], [44, 43, 42, 0, 1, 2, 3, 4, 5, 6, 7, 8, 9, 10, 11, 12, 13, 14, 15, 16, 17, 18, 19, 20, 21, 22, 23, 24, 25, 26, 27, 28, 29, 30, 31, 32, 33, 34, 35, 36, 37, 38, 39, 40, 41]] rfl rfl rfl rfl (e' := [(123, _), (122, _), (121, _), (120, _), (119, _), (118, _), (117, _), (116, _), (115, _), (114, _), (113, _), (112, _), (111, _), (110, _), (109, _), (107, _), (108, _), (106, _), (105, _), (104, _), (103, _), (102, _), (101, _), (100, _), (99, _), (98, _), (96, _), (97, _), (95, _), (94, _), (93, _), (92, _), (91, _), (90, _), (89, _), (88, _), (86, _), (87, _), (85, _), (6, _), (8, _), (9, _), (10, _), (11, _), (12, _), (13, _), (14, _), (15, _), (16, _), (17, _), (18, _), (19, _), (20, _), (21, _), (22, _), (23, _)]) rfl ?_
      refine .g rfl rfl rfl ?_
      refine .vT (.eq rfl rfl) rfl rfl ?_
      refine .v (.pkT rfl rfl) rfl ?_
      refine .v (.mv rfl) rfl ?_
      refine .g rfl rfl rfl ?_
      refine .cf rfl rfl (Try.call10 _) (awake_fn _) rfl ?_
      rintro _ G44 le45 rfl
      replace hS := hS.mono le45
      replace hS4 := hS4.mono le45
      replace hS13 := hS13.mono le45
      replace hS17 := hS17.mono le45
      replace hS21 := hS21.mono le45
      replace hS25 := hS25.mono le45
      replace hS29 := hS29.mono le45
      replace hS33 := hS33.mono le45
      replace hS37 := hS37.mono le45
      replace hS40 := hS40.mono le45
      replace hS43 := hS43.mono le45
      replace hF := hF.trans le45
      refine .v (.pkT rfl rfl) rfl ?_
      refine .v (.asn rfl) rfl ?_
      refine .nil ?_
      refine .then ?_
      refine .ret ?_
      exact .done _ [] (.t1 rfl rfl) hF ⟨rfl, rfl⟩ (Inn.keep (.there (.there (.there (.there (.there (.there (.there (.there .here)))))))))
  · skip
    refine .v (.not rfl) rfl ?_
    refine .v (.mv rfl) rfl ?_
    refine .gs rfl rfl rfl rfl ?_
    refine .gs rfl rfl rfl rfl ?_
    refine .gs rfl rfl rfl rfl ?_
    refine .v (.pkT rfl rfl) rfl ?_
    refine .nil ?_
    refine .then ?_
    refine .condT rfl ?_
    refine .seq ?_
    refine .region ?_
    refine .cf rfl rfl (Try.call10 _) (awake_fn _) rfl ?_
    rintro _ G47 le48 rfl
    replace hS := hS.mono le48
    replace hS4 := hS4.mono le48
    replace hF := hF.trans le48
    refine .v (.asn rfl) rfl ?_
    refine .nil ?_
    refine .then ?_
    refine .ret ?_
    refine .then_ret ?_
    exact .done _ [] (.t1 rfl rfl) hF ⟨rfl, rfl⟩ (Inn.keep (.there (.there .here)))
theorem diskTwice_fn (d : Dk) (a : Option Addr) (c : Nat) (F : Mem) (hS : Sl F encF 3 a c d.files) (hn : d.files.length * 40 ≤ 140737488355328) (id : Int) : Fn Try.prog 4 #[dval a c d, .int .i64 id] [] F (fun v M G => M = [] ∧ v = .bool true) := by
  refine Fn.start0 Try.func4 rfl Try.ntmps4 rfl (env := [(0, _), (1, _)]) rfl ?_
  intro R
  refine .seq ?_
  refine .region ?_
  refine .nb (.box rfl rfl) rfl (fun b1 => ?_)
  refine .v (.asn rfl) rfl ?_
  refine .nil ?_
  refine .then ?_
  refine .seq ?_
  refine .seq ?_
  refine .region ?_
  refine .v (.ldw ty28 rfl .here rfl) rfl ?_
  refine .cf rfl rfl (Try.call13 _) (ref_fn d a c _ hS hn) rfl ?_
  rintro _ G2 le3 ⟨a4, c4, rfl, hS4⟩
  replace hS := hS.mono le3
  have hF := le3
  refine .vb (.call rfl rfl (Try.call12 _) (fun G hle hG => rsmall_fn d a4 c4 G (hS4.mono hle))) rfl (fun h11_5 => ?_) (fun h11_5 => ?_)
  · skip
    have hb60 := small_len h11_5
    have hb49 := small_tot h11_5
    have hb : tot d.files ≤ 4611686018427387904 := Nat.le_trans hb49 (by decide)
    refine .v (.not rfl) rfl ?_
    refine .v (.mv rfl) rfl ?_
    refine .g rfl rfl rfl ?_
    refine .v (.fab fl28_2 rfl) rfl ?_
    refine .g rfl rfl rfl ?_
    refine .v (.ldb ty4 rfl .here rfl) rfl ?_
    refine .v (.pkF rfl rfl) rfl ?_
    refine .nil ?_
    refine .then ?_
    refine .cs (t := 16) rfl (fun c16_6 => ?_) (fun c16_6 => ?_)
    · skip
      refine .condT rfl ?_
      refine .seq ?_
      refine .region ?_
      refine .cf rfl rfl (Try.call10 _) (awake_fn _) rfl ?_
      rintro _ G7 le8 rfl
      replace hS := hS.mono le8
      replace hS4 := hS4.mono le8
      replace hF := hF.trans le8
      refine .v (.asn rfl) rfl ?_
      refine .nil ?_
      refine .then ?_
      refine .ret ?_
      refine .then_ret ?_
      exact .done _ [] (.t1 rfl rfl) hF ⟨rfl, rfl⟩ (Inn.keep (.there .here))
    · skip
      refine .condF rfl ?_
      refine .skip ?_
      refine .then ?_
      refine .seq ?_
      refine .region ?_
      refine .v (.ldw ty28 rfl .here rfl) rfl ?_
      refine .v (.mv rfl) rfl ?_
      refine .cf rfl rfl (Try.call14 _) (sync_fn d a c _ hS hb id) rfl ?_
      rintro _ G10 le11 ⟨a12, c12, rfl, hS12⟩
      replace hS := hS.mono le11
      replace hS4 := hS4.mono le11
      replace hF := hF.trans le11
      refine .v (.mv rfl) rfl ?_
      refine .v (.ext rfl rfl) rfl ?_
      refine .v (.ext rfl rfl) rfl ?_
      refine .nb (.alloc ty28 rfl) rfl (fun b13 => ?_)
      refine .st (.stw ty28 rfl rfl rfl rfl rfl .here) ?_
      refine .v (.asn rfl) rfl ?_
      refine .nil ?_
      refine .then ?_
      refine .seq ?_
      refine .region ?_
      refine .v (.ldw ty28 rfl .here rfl) rfl ?_
      refine .v (.mv rfl) rfl ?_
      refine .cf rfl rfl (Try.call14 _) (sync_fn (sync d id).1 a12 c12 _ hS12 (by rw [sync_tot]; exact hb) id) rfl ?_
      rintro _ G14 le15 ⟨a16, c16, rfl, hS16⟩
      replace hS := hS.mono le15
      replace hS4 := hS4.mono le15
      replace hS12 := hS12.mono le15
      replace hF := hF.trans le15
      refine .v (.mv rfl) rfl ?_
      refine .v (.ext rfl rfl) rfl ?_
      refine .v (.ext rfl rfl) rfl ?_
      refine .nb (.alloc ty28 rfl) rfl (fun b17 => ?_)
      refine .st (.stw ty28 rfl rfl rfl rfl rfl .here) ?_
      refine .v (.asn rfl) rfl ?_
      refine .nil ?_
      refine .then ?_
      refine .seq ?_
      refine .draw [[], [], [0, 1], [2], [3], [4, 3, 3], [3], [6, 5, 3], [5, 7, 7, 3], [3, 8], [9, 8], [10, 10], [10, 11], [12, 11, 0, 1, 2, 3, 4, 5, 6, 7, 8, 9, 10, 11, 12]] [] (by kernel_rfl) (by kernel_rfl) rfl (e1 := [(4, _), (5, _), (6, _), (7, _), (8, _)]) (.cons rfl rfl (.cons rfl rfl (.cons rfl rfl (.cons rfl rfl (.cons rfl rfl .nil))))) (fun x hx => by cases hx) rfl ?_
      refine .v (i := 0) [] rfl rfl rfl .nil (.n (.mv rfl)) ?_
      refine .v (i := 1) [] rfl rfl rfl .nil (.n (.mv rfl)) ?_
      refine .vT (i := 2) [(30, _), (31, _)] rfl rfl rfl (.cons (.tail _ (.head _)) rfl rfl (.cons (.head _) rfl rfl .nil)) (.n (.eq rfl rfl)) (sync_twice c16_6).2.symm ?_
      refine .v (i := 3) [(32, _)] rfl rfl rfl (.cons (.head _) rfl rfl .nil) (.n (.mv rfl)) ?_
      refine .v (i := 4) [(33, _)] rfl rfl rfl (.cons (.head _) rfl rfl .nil) (.g rfl rfl rfl (.ldw ty28 rfl (.there .here) rfl)) ?_
      refine .v (i := 6) [(33, _)] rfl rfl rfl (.cons (.tail _ (.head _)) rfl rfl .nil) (.g rfl rfl rfl (.ldw ty28 rfl .here rfl)) ?_
      refine .e (i := 5) [(34, _), (33, _)] [5, 4, 3, 2, 0, 1] rfl rfl rfl (.cons (.tail _ (.head _)) rfl rfl (.cons (.tail _ (.tail _ (.head _))) rfl rfl .nil)) rfl rfl rfl (.g rfl rfl rfl) (.call rfl rfl (Try.call13 _) (ref_fn (sync d id).1 a12 c12 _ hS12 (by have h1 := sync_len d id; have h2 := sync_len (sync d id).1 id; omega)) _ rfl) ?_
      rintro _ _ G18 le19 ⟨_, rfl, rfl, a20, c20, rfl, hS20⟩
      replace hS := hS.mono le19
      replace hS4 := hS4.mono le19
      replace hS12 := hS12.mono le19
      replace hS16 := hS16.mono le19
      replace hF := hF.trans le19
      refine ⟨.again [(33, _)] rfl (.cons (.tail _ (.tail _ (.head _))) rfl rfl .nil) (.g rfl rfl rfl (.ldw ty28 rfl .here rfl)) (.skip rfl (.skip rfl (.skip rfl (.skip rfl (.skip rfl .nil))))), rfl, ?_⟩
      refine .tail0 7 [[7, 6, 5, 3, 4, 2, 0, 1], [8, 5, 7, 3, 4, 6, 2, 0, 1], [9, 3, 8, 2, 5, 7, 0, 1, 4, 6], [10, 9, 8, 3, 5, 7, 2, 4, 6, 0, 1], [11, 10, 9, 8, 3, 5, 7, 2, 4, 6, 0, 1], [12, 10, 11, 9, 8, 3, 5, 7, 2, 4, 6, 0, 1], [13, 12, 11, 0, 1, 2, 3, 4, 5, 6, 7, 8, 9, 10]] rfl rfl rfl rfl (e' := [(35, _), (36, _), (34, _), (33, _), (32, _), (31, _), (30, _), (4, _), (5, _), (6, _), (7, _), (8, _)]) rfl ?_
      refine .g rfl rfl rfl ?_
      refine .cf rfl rfl (Try.call13 _) (ref_fn (sync (sync d id).1 id).1 a16 c16 _ hS16 (by have h1 := sync_len d id; have h2 := sync_len (sync d id).1 id; omega)) rfl ?_
      rintro _ G21 le22 ⟨a23, c23, rfl, hS23⟩
      replace hS := hS.mono le22
      replace hS4 := hS4.mono le22
      replace hS12 := hS12.mono le22
      replace hS16 := hS16.mono le22
      replace hS20 := hS20.mono le22
      replace hF := hF.trans le22
      refine .g rfl rfl rfl ?_
      refine .bT (.call rfl rfl (Try.call15 _) (fun G hle hG => requal_fn (sync d id).1 (sync (sync d id).1 id).1 a20 a23 c20 c23 G (hS20.mono hle) (hS23.mono hle))) rfl (by rw [(sync_twice c16_6).1]; exact sameD_refl _) ?_
      refine .v (.pkT rfl rfl) rfl ?_
      refine .v (.mv rfl) rfl ?_
      refine .g rfl rfl rfl ?_
      refine .cf rfl rfl (Try.call10 _) (awake_fn _) rfl ?_
      rintro _ G24 le25 rfl
      replace hS := hS.mono le25
      replace hS4 := hS4.mono le25
      replace hS12 := hS12.mono le25
      replace hS16 := hS16.mono le25
      replace hS20 := hS20.mono le25
      replace hS23 := hS23.mono le25
      replace hF := hF.trans le25
      refine .v (.pkT rfl rfl) rfl ?_
      refine .v (.asn rfl) rfl ?_
      refine .nil ?_
      refine .then ?_
      refine .ret ?_
      exact .done _ [] (.t1 rfl rfl) hF ⟨rfl, rfl⟩ (Inn.keep (.there (.there (.there .here))))
  · skip
    refine .v (.not rfl) rfl ?_
    refine .v (.mv rfl) rfl ?_
    refine .gs rfl rfl rfl rfl ?_
    refine .gs rfl rfl rfl rfl ?_
    refine .v (.pkT rfl rfl) rfl ?_
    refine .nil ?_
    refine .then ?_
    refine .condT rfl ?_
    refine .seq ?_
    refine .region ?_
    refine .cf rfl rfl (Try.call10 _) (awake_fn _) rfl ?_
    rintro _ G27 le28 rfl
    replace hS := hS.mono le28
    replace hS4 := hS4.mono le28
    replace hF := hF.trans le28
    refine .v (.asn rfl) rfl ?_
    refine .nil ?_
    refine .then ?_
    refine .ret ?_
    refine .then_ret ?_
    exact .done _ [] (.t1 rfl rfl) hF ⟨rfl, rfl⟩ (Inn.keep (.there .here))
end Go.Proofs.Ytifkokikdlgaaaa.Ow
