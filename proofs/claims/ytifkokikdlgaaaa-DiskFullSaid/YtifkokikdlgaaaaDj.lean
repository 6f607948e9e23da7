/- Walks. -/
import Derived.Test.YtifkokikdlgaaaaDi
namespace Go.Proofs.Ytifkokikdlgaaaa.Ow
open Go
set_option linter.unusedVariables false
theorem diskArms_fn (d : Dk) (a : Option Addr) (c : Nat) (F : Mem) (hS : Sl F encF 3 a c d.files) (hn : d.files.length * 40 ≤ 140737488355328) (n : Int) (keep : List Int) (ak : Option Addr) (ck : Nat) (hK : Sl F encI 1 ak ck keep) : Fn Try.prog 5 #[dval a c d, .int .i64 n, .slice ak keep.length ck] [] F (fun v M G => M = [] ∧ v = .bool true) := by
  have hm := hS.len
  have hkm := hK.len
  have hidl := ids_le d
  refine Fn.start0 Try.func5 rfl Try.ntmps5 rfl (env := [(0, _), (1, _), (2, _)]) rfl ?_
  intro R
  refine .seq ?_
  refine .region ?_
  refine .nb (.box rfl rfl) rfl (fun b1 => ?_)
  refine .v (.asn rfl) rfl ?_
  refine .nil ?_
  refine .then ?_
  refine .seq ?_
  refine .region ?_
  refine .v (.ldw ty28 rfl .here rfl) rfl ?_
  refine .cf rfl rfl (Try.call13 _) (ref_fn d a c _ hS hn) rfl ?_
  rintro _ G2 le3 ⟨a4, c4, rfl, hS4⟩
  replace hS := hS.mono le3
  replace hK := hK.mono le3
  have hF := le3
  refine .nb (.alloc ty38 rfl) rfl (fun b5 => ?_)
  refine .st (.stw ty38 rfl rfl rfl rfl rfl .here) ?_
  refine .nil ?_
  refine .then ?_
  refine .seq ?_
  refine .seq ?_
  refine .region ?_
  refine .v (.ldw ty38 rfl .here rfl) rfl ?_
  refine .vb (.call rfl rfl (Try.call12 _) (fun G hle hG => rsmall_fn d a4 c4 G (hS4.mono hle))) rfl (fun h15_6 => ?_) (fun h15_6 => ?_)
  · skip
    have hb60 := small_len h15_6
    have hb49 := small_tot h15_6
    have hb : tot d.files ≤ 4611686018427387904 := Nat.le_trans hb49 (by decide)
    refine .v (.not rfl) rfl ?_
    refine .v (.mv rfl) rfl ?_
    refine .g rfl rfl rfl ?_
    refine .v (.mv rfl) rfl ?_
    refine .g rfl rfl rfl ?_
    refine .v (.lenl Try.underlying43 rfl) rfl ?_
    refine .g rfl rfl rfl ?_
    refine .vs (.gt rfl rfl) rfl (fun h20_7 => ?_) (fun h20_7 => ?_)
    · skip
      refine .v (.pkF rfl rfl) rfl ?_
      refine .nil ?_
      refine .then ?_
      refine .condT rfl ?_
      refine .seq ?_
      refine .region ?_
      refine .cf rfl rfl (Try.call10 _) (awake_fn _) rfl ?_
      rintro _ G8 le9 rfl
      replace hS := hS.mono le9
      replace hK := hK.mono le9
      replace hS4 := hS4.mono le9
      replace hF := hF.trans le9
      refine .v (.asn rfl) rfl ?_
      refine .nil ?_
      refine .then ?_
      refine .ret ?_
      refine .then_ret ?_
      exact .done _ [] (.t1 rfl rfl) hF ⟨rfl, rfl⟩ (Inn.keep (.there (.there .here)))
    · skip
      refine .v (.pkF rfl rfl) rfl ?_
      refine .nil ?_
      refine .then ?_
      refine .condF rfl ?_
      refine .skip ?_
      refine .then ?_
      refine .seq ?_
      refine .draw [[], [], [0, 1], [], [], [3, 4, 2], [], [6, 5], [], [], [8, 2, 7, 0, 1, 2, 8, 9], [9, 5, 10, 0, 1, 2, 3, 4, 5, 8, 9, 10], [7, 11, 0, 1, 2, 3, 4, 5, 6, 7, 8, 9, 10, 11]] [⟨8, 8, 28, _⟩, ⟨9, 9, 28, _⟩] (by kernel_rfl) (by kernel_rfl) rfl (e1 := [(1, _), (2, _), (3, _), (6, _), (7, _)]) (.cons rfl rfl (.cons rfl rfl (.cons rfl rfl (.cons rfl rfl (.cons rfl rfl .nil))))) (fun x hx => by rcases List.mem_cons.1 hx with rfl | hx; (exact ⟨_, _, _, _, _, _, _, rfl, ty28, rfl⟩); rcases List.mem_cons.1 hx with rfl | hx; (exact ⟨_, _, _, _, _, _, _, rfl, ty28, rfl⟩); cases hx) rfl ?_
      refine .v (i := 0) [] rfl rfl rfl .nil (.n (.ldw ty28 rfl (.there .here) rfl)) ?_
      refine .v (i := 1) [] rfl rfl rfl .nil (.n (.mv rfl)) ?_
      have hSa11 := hS
      rw [← arm_files d n] at hSa11
      refine .v (i := 2) [(23, _), (24, _)] rfl rfl rfl (.cons (.tail _ (.head _)) rfl rfl (.cons (.head _) rfl rfl .nil)) (.n (.call rfl rfl (Try.call16 _) (fun G hle hG => arm_fn d a c G (hS.mono hle) hb n))) ?_
      refine .v (i := 3) [] rfl rfl rfl .nil (.n (.ldw ty28 rfl (.there .here) rfl)) ?_
      refine .v (i := 4) [] rfl rfl rfl .nil (.n (.mv rfl)) ?_
      refine .v (i := 6) [] rfl rfl rfl .nil (.n (.ldw ty28 rfl (.there .here) rfl)) ?_
      refine .e (i := 5) [(26, _), (27, _)] [5, 3, 4, 2, 0, 1] rfl rfl rfl (.cons (.tail _ (.tail _ (.head _))) rfl rfl (.cons (.tail _ (.head _)) rfl rfl .nil)) rfl rfl rfl .n (.call rfl rfl (Try.call17 _) (crash_fn d a c _ hS hb keep ak ck hK) _ rfl) ?_
      rintro _ _ G12 le13 ⟨_, rfl, rfl, a14, c14, rfl, hS14⟩
      replace hS := hS.mono le13
      replace hK := hK.mono le13
      replace hS4 := hS4.mono le13
      replace hSa11 := hSa11.mono le13
      replace hF := hF.trans le13
      refine ⟨.again [] rfl .nil (.n (.ldw ty28 rfl (.there .here) rfl)) (.skip rfl (.skip rfl (.skip rfl (.skip rfl (.skip rfl .nil))))), rfl, ?_⟩
      refine .e (i := 7) [(29, _)] [7, 6, 5, 3, 4, 2, 0, 1] rfl rfl rfl (.cons (.tail _ (.head _)) rfl rfl .nil) rfl rfl rfl .n (.call rfl rfl (Try.call18 _) (ids_fn d a c _ hS hb hn) _ rfl) ?_
      rintro _ _ G15 le16 ⟨_, rfl, rfl, a17, c17, rfl, hS17⟩
      replace hS := hS.mono le16
      replace hK := hK.mono le16
      replace hS4 := hS4.mono le16
      replace hSa11 := hSa11.mono le16
      replace hS14 := hS14.mono le16
      replace hF := hF.trans le16
      refine ⟨.skip rfl (.skip rfl (.skip rfl (.skip rfl (.skip rfl (.skip rfl (.skip rfl .nil)))))), rfl, ?_⟩
      refine .tail1 10 [[10, 8, 2, 7, 0, 1, 9, 6, 5, 3, 4], [11, 9, 5, 10, 0, 1, 2, 3, 4, 8, 7, 6], [12, 7, 11, 0, 1, 2, 3, 4, 5, 6, 8, 9, 10]] rfl rfl rfl rfl (e' := fun f => [(8, _), (9, _), (30, _), (28, _), (29, _), (27, _), (26, _), (25, _), (24, _), (23, _), (1, _), (2, _), (3, _), (6, _), (7, _)]) (M := fun f => [_, _, _, _, _]) (fun _ => rfl) (fun _ => rfl) (fun f18 => ?_)
      refine .st (.stw ty28 rfl rfl rfl rfl rfl .here) ?_
      refine .st (.stw ty28 rfl rfl rfl rfl rfl (.there .here)) ?_
      refine .v (.asn rfl) rfl ?_
      refine .nil ?_
      refine .then ?_
      refine .seq ?_
      refine .seq ?_
      refine .region ?_
      refine .v (.ldw ty38 rfl (.there (.there .here)) rfl) rfl ?_
      refine .vb (.call rfl rfl (Try.call19 _) (fun G hle hG => rright_fn d a4 c4 G (hS4.mono hle) hb)) rfl (fun h32_19 => ?_) (fun h32_19 => ?_)
      · skip
        refine .v (.not rfl) rfl ?_
        refine .nil ?_
        refine .then ?_
        refine .condF rfl ?_
        refine .skip ?_
        refine .then ?_
        refine .seq ?_
        refine .seq ?_
        refine .region ?_
        refine .v (.fab fl28_3 rfl) rfl ?_
        refine .v (.ldb ty4 rfl (.there (.there (.there .here))) rfl) rfl ?_
        refine .v (.mv rfl) rfl ?_
        refine .cs (t := 59) rfl (fun c59_20 => ?_) (fun c59_20 => ?_)
        · skip
          refine .g rfl rfl rfl ?_
          refine .v (.mv rfl) rfl ?_
          refine .g rfl rfl rfl ?_
          refine .v (.lenl Try.underlying43 rfl) rfl ?_
          refine .g rfl rfl rfl ?_
          refine .vF (.gt rfl rfl) rfl (by simp [ids_none (.inr c59_20)]) ?_
          refine .v (.pkT rfl rfl) rfl ?_
          refine .v (.mv rfl) rfl ?_
          refine .g rfl rfl rfl ?_
          refine .v (.fab fl28_3 rfl) rfl ?_
          refine .g rfl rfl rfl ?_
          refine .v (.ldb ty4 rfl (.there (.there (.there .here))) rfl) rfl ?_
          refine .g rfl rfl rfl ?_
          refine .v (.not rfl) rfl ?_
          refine .g rfl rfl rfl ?_
          refine .v (.mv rfl) rfl ?_
          refine .kn (t := 68) rfl (congrArg Value.bool (show (!d.down) = false by simp [c59_20])) ?_
          refine .gs rfl rfl rfl rfl ?_
          refine .gs rfl rfl rfl rfl ?_
          refine .gs rfl rfl rfl rfl ?_
          refine .gs rfl rfl rfl rfl ?_
          refine .gs rfl rfl rfl rfl ?_
          refine .gs rfl rfl rfl rfl ?_
          refine .g rfl rfl rfl ?_
          refine .v (.pkF rfl rfl) rfl ?_
          refine .v (.pkF rfl rfl) rfl ?_
          refine .nil ?_
          refine .then ?_
          refine .condF rfl ?_
          refine .skip ?_
          refine .then ?_
          refine .seq ?_
          refine .seq ?_
          refine .region ?_
          refine .v (.mv rfl) rfl ?_
          refine .v (.lenl Try.underlying43 rfl) rfl ?_
          refine .v (.mv rfl) rfl ?_
          refine .nil ?_
          refine .then ?_
          refine .block ?_
          refine WC.loop0 (fx := [(1, _), (2, _), (3, _), (7, _), (8, _), (9, _), (10, _), (78, _)]) (.cons rfl rfl (.cons rfl rfl (.cons rfl rfl (.cons rfl rfl (.cons rfl rfl (.cons rfl rfl (.cons rfl rfl (.cons rfl rfl .nil)))))))) (ι := Nat) (fun k => k ≤ (ids d).length) (fun k => (ids d).length - k) (fun k => [(79, .int .i64 k)]) 0 (by omega) ?he ?round
          case he => exact .cons rfl rfl (.cons rfl rfl (.cons rfl rfl (.cons rfl rfl (.cons rfl rfl (.cons rfl rfl (.cons rfl rfl (.cons rfl rfl (.cons rfl rfl .nil))))))))
          case round =>
            intro k hk
            refine .seq ?_
            refine .region ?_
            refine .vs (.lt rfl rfl) rfl (fun h80_21 => ?_) (fun h80_21 => ?_)
            · skip
              obtain ⟨n0, hn0⟩ : ∃ y, (ids d)[k]? = some y := ⟨_, List.getElem?_eq_getElem (by omega)⟩
              obtain ⟨f, hf, hfn⟩ := ids_get hn0
              refine .nil ?_
              refine .then ?_
              refine .seq ?_
              refine .condT rfl ?_
              refine .skip ?_
              refine .then ?_
              refine .seq ?_
              refine .block ?_
              refine .seq ?_
              refine .region ?_
              refine .v (.mv rfl) rfl ?_
              refine .v (.asn rfl) rfl ?_
              refine .nil ?_
              refine .then ?_
              refine .seq ?_
              refine .draw [[], [], [0, 1], [2], [], [4], [], [5, 6], [7], [8], [3, 9]] [] (by kernel_rfl) (by kernel_rfl) rfl (e1 := [(1, _), (2, _), (3, _), (7, _), (8, _), (9, _), (10, _), (11, _), (78, _), (79, _)]) (.cons rfl rfl (.cons rfl rfl (.cons rfl rfl (.cons rfl rfl (.cons rfl rfl (.cons rfl rfl (.cons rfl rfl (.cons rfl rfl (.cons rfl rfl (.cons rfl rfl .nil)))))))))) (fun x hx => by cases hx) rfl ?_
              refine .v (i := 0) [] rfl rfl rfl .nil (.n (.mv rfl)) ?_
              refine .v (i := 1) [] rfl rfl rfl .nil (.n (.mv rfl)) ?_
              refine .ix (i := 2) (j := (k : Int)) [(82, _), (83, _)] rfl rfl rfl (.cons (.tail _ (.head _)) rfl rfl (.cons (.head _) rfl rfl .nil)) hS17 n0 ⟨by omega, hn0⟩ (fun b_ o_ hr_ ha_ hle_ => .n (.ixs sl43 rfl rfl ⟨by omega, hn0⟩ ha_ hle_)) (fun p22 o23 r24 => ?_)
              refine .v (i := 3) [(84, _)] rfl rfl rfl (.cons (.head _) rfl rfl .nil) (.n (.ldr0 ty3 rfl r24 rfl)) ?_
              refine .v (i := 4) [] rfl rfl rfl .nil (.n (.fa0 fl28_0 rfl)) ?_
              refine .v (i := 5) [(86, _)] rfl rfl rfl (.cons (.head _) rfl rfl .nil) (.n (.ldb ty26 rfl (.there (.there (.there .here))) rfl)) ?_
              refine .v (i := 6) [] rfl rfl rfl .nil (.n (.mv rfl)) ?_
              refine .ix (i := 7) (j := (k : Int)) [(87, _), (88, _)] rfl rfl rfl (.cons (.tail _ (.head _)) rfl rfl (.cons (.head _) rfl rfl .nil)) hS f ⟨by omega, hf⟩ (fun b_ o_ hr_ ha_ hle_ => .n (.ixs sl26 rfl rfl ⟨by omega, hf⟩ ha_ hle_)) (fun p25 o26 r27 => ?_)
              refine .v (i := 8) [(89, _)] rfl rfl rfl (.cons (.head _) rfl rfl .nil) (.n (.fa0 fl25_0 rfl)) ?_
              refine .v (i := 9) [(90, _)] rfl rfl rfl (.cons (.head _) rfl rfl .nil) (.n (.ldr0 ty3 rfl r27 rfl)) ?_
              refine .tail0 10 [[10, 3, 9, 2, 8, 0, 1, 7, 5, 6, 4]] rfl rfl rfl rfl (e' := [(91, _), (90, _), (89, _), (88, _), (87, _), (86, _), (85, _), (84, _), (83, _), (82, _), (1, _), (2, _), (3, _), (7, _), (8, _), (9, _), (10, _), (11, _), (78, _), (79, _)]) rfl ?_
              refine .vF (.ne rfl rfl) rfl (fun h => h hfn.symm) ?_
              refine .nil ?_
              refine .then ?_
              refine .condF rfl ?_
              refine .skip ?_
              refine .blk ?_
              refine .then ?_
              refine .region ?_
              refine .v (.add rfl rfl (by omega)) rfl ?_
              refine .v (.mv rfl) rfl ?_
              refine .nil ?_
              exact .again (k + 1) (by omega) (by omega) (.cons rfl rfl (.cons rfl rfl (.cons rfl rfl (.cons rfl rfl (.cons rfl rfl (.cons rfl rfl (.cons rfl rfl (.cons rfl rfl (.cons rfl rfl .nil))))))))) (subl (.refl _))
            · skip
              refine .nil ?_
              refine .then ?_
              refine .seq ?_
              refine .condF rfl ?_
              refine .exit ?_
              refine .then_exit ?_
              refine .then_exit ?_
              refine .blk_exit ?_
              refine .then ?_
              refine .seq ?_
              refine .draw [[], [0], [1, 1], [2], [3, 2, 2], [2], [2], [5, 6, 4, 2], [4, 7, 7, 2], [2, 8], [9, 8], [10], [11, 10, 10], [10], [10], [13, 14, 12, 10], [12, 15, 15, 10], [10, 16], [17, 16], [18, 18], [18, 19], [20, 19, 0, 1, 2, 3, 4, 5, 6, 7, 8, 9, 10, 11, 12, 13, 14, 15, 16, 17, 18, 19, 20]] [] (by kernel_rfl) (by kernel_rfl) rfl (e1 := [(1, _), (2, _), (3, _), (7, _), (8, _), (9, _)]) (.cons rfl rfl (.cons rfl rfl (.cons rfl rfl (.cons rfl rfl (.cons rfl rfl (.cons rfl rfl .nil)))))) (fun x hx => by cases hx) rfl ?_
              refine .v (i := 0) [] rfl rfl rfl .nil (.n (.ldw ty28 rfl (.there (.there (.there .here))) rfl)) ?_
              refine .bT (i := 1) [(94, _)] rfl rfl rfl (.cons (.head _) rfl rfl .nil) (.n (.call rfl rfl (Try.call11 _) (fun G hle hG => right_fn d a c G (hS.mono hle) hb))) h32_19 ?_
              refine .v (i := 2) [(95, _)] rfl rfl rfl (.cons (.head _) rfl rfl .nil) (.n (.mv rfl)) ?_
              refine .v (i := 3) [(96, _)] rfl rfl rfl (.cons (.head _) rfl rfl .nil) (.g rfl rfl rfl (.ldw ty28 rfl .here rfl)) ?_
              refine .v (i := 5) [(96, _)] rfl rfl rfl (.cons (.tail _ (.head _)) rfl rfl .nil) (.g rfl rfl rfl (.ldw ty38 rfl (.there (.there .here)) rfl)) ?_
              refine .v (i := 6) [(96, _)] rfl rfl rfl (.cons (.tail _ (.tail _ (.head _))) rfl rfl .nil) (.g rfl rfl rfl (.mv rfl)) ?_
              refine .e (i := 4) [(97, _), (96, _)] [4, 3, 2, 1, 0] rfl rfl rfl (.cons (.tail _ (.tail _ (.head _))) rfl rfl (.cons (.tail _ (.tail _ (.tail _ (.head _)))) rfl rfl .nil)) rfl rfl rfl (.g rfl rfl rfl) (.call rfl rfl (Try.call13 _) (ref_fn (arm d n) a c _ hSa11 (by rw [arm_files]; exact hn)) _ rfl) ?_
              rintro _ _ G28 le29 ⟨_, rfl, rfl, a30, c30, rfl, hS30⟩
              replace hS := hS.mono le29
              replace hK := hK.mono le29
              replace hS4 := hS4.mono le29
              replace hSa11 := hSa11.mono le29
              replace hS14 := hS14.mono le29
              replace hS17 := hS17.mono le29
              replace hF := hF.trans le29
              refine ⟨.again [(96, _)] rfl (.cons (.tail _ (.tail _ (.tail _ (.head _)))) rfl rfl .nil) (.g rfl rfl rfl (.mv rfl)) (.again [(96, _)] rfl (.cons (.tail _ (.tail _ (.tail _ (.head _)))) rfl rfl .nil) (.g rfl rfl rfl (.ldw ty38 rfl (.there (.there .here)) rfl)) (.skip rfl (.skip rfl (.skip rfl (.skip rfl .nil))))), rfl, ?_⟩
              have hSa31 := hS4
              rw [← arm_files d n] at hSa31
              refine .v (i := 7) [(99, _), (100, _), (96, _)] rfl rfl rfl (.cons (.tail _ (.tail _ (.head _))) rfl rfl (.cons (.tail _ (.head _)) rfl rfl (.cons (.tail _ (.tail _ (.tail _ (.tail _ (.head _))))) rfl rfl .nil))) (.g rfl rfl rfl (.call rfl rfl (Try.call20 _) (fun G hle hG => rarm_fn d a4 c4 G (hS4.mono hle) n h32_19))) ?_
              refine .bT (i := 8) [(98, _), (101, _), (96, _)] rfl rfl rfl (.cons (.tail _ (.head _)) rfl rfl (.cons (.head _) rfl rfl (.cons (.tail _ (.tail _ (.tail _ (.tail _ (.tail _ (.head _)))))) rfl rfl .nil))) (.g rfl rfl rfl (.call rfl rfl (Try.call15 _) (fun G hle hG => requal_fn (arm d n) (arm d n) a30 a4 c30 c4 G (hS30.mono hle) (hSa31.mono hle)))) (sameD_refl _) ?_
              refine .v (i := 9) [(96, _), (102, _)] rfl rfl rfl (.cons (.tail _ (.tail _ (.tail _ (.tail _ (.tail _ (.tail _ (.head _))))))) rfl rfl (.cons (.head _) rfl rfl .nil)) (.n (.pkT rfl rfl)) ?_
              refine .v (i := 10) [(103, _)] rfl rfl rfl (.cons (.head _) rfl rfl .nil) (.n (.mv rfl)) ?_
              refine .v (i := 11) [(104, _)] rfl rfl rfl (.cons (.head _) rfl rfl .nil) (.g rfl rfl rfl (.ldw ty28 rfl (.there .here) rfl)) ?_
              refine .v (i := 13) [(104, _)] rfl rfl rfl (.cons (.tail _ (.head _)) rfl rfl .nil) (.g rfl rfl rfl (.ldw ty38 rfl (.there (.there .here)) rfl)) ?_
              refine .v (i := 14) [(104, _)] rfl rfl rfl (.cons (.tail _ (.tail _ (.head _))) rfl rfl .nil) (.g rfl rfl rfl (.mv rfl)) ?_
              refine .e (i := 12) [(105, _), (104, _)] [12, 11, 10, 9, 8, 2, 4, 7, 1, 3, 5, 6, 0] rfl rfl rfl (.cons (.tail _ (.tail _ (.head _))) rfl rfl (.cons (.tail _ (.tail _ (.tail _ (.head _)))) rfl rfl .nil)) rfl rfl rfl (.g rfl rfl rfl) (.call rfl rfl (Try.call13 _) (ref_fn (crash d keep) a14 c14 _ hS14 (by have := crash_len d keep; omega)) _ rfl) ?_
              rintro _ _ G32 le33 ⟨_, rfl, rfl, a34, c34, rfl, hS34⟩
              replace hS := hS.mono le33
              replace hK := hK.mono le33
              replace hS4 := hS4.mono le33
              replace hSa11 := hSa11.mono le33
              replace hS14 := hS14.mono le33
              replace hS17 := hS17.mono le33
              replace hS30 := hS30.mono le33
              replace hSa31 := hSa31.mono le33
              replace hF := hF.trans le33
              refine ⟨.again [(104, _)] rfl (.cons (.tail _ (.tail _ (.tail _ (.head _)))) rfl rfl .nil) (.g rfl rfl rfl (.mv rfl)) (.again [(104, _)] rfl (.cons (.tail _ (.tail _ (.tail _ (.head _)))) rfl rfl .nil) (.g rfl rfl rfl (.ldw ty38 rfl (.there (.there .here)) rfl)) (.skip rfl (.skip rfl (.skip rfl (.skip rfl (.skip rfl (.skip rfl (.skip rfl (.skip rfl (.skip rfl (.skip rfl (.skip rfl (.skip rfl .nil))))))))))))), rfl, ?_⟩
              refine .tail0 15 [[15, 13, 14, 12, 10, 11, 9, 8, 2, 4, 7, 1, 3, 5, 6, 0], [16, 12, 15, 10, 11, 13, 14, 9, 8, 2, 4, 7, 1, 3, 5, 6, 0], [17, 10, 16, 9, 8, 12, 15, 2, 4, 7, 11, 13, 14, 1, 3, 5, 6, 0], [18, 17, 16, 10, 12, 15, 9, 8, 11, 13, 14, 2, 4, 7, 1, 3, 5, 6, 0], [19, 18, 17, 16, 10, 12, 15, 9, 8, 11, 13, 14, 2, 4, 7, 1, 3, 5, 6, 0], [20, 18, 19, 17, 16, 10, 12, 15, 9, 8, 11, 13, 14, 2, 4, 7, 1, 3, 5, 6, 0], [21, 20, 19, 0, 1, 2, 3, 4, 5, 6, 7, 8, 9, 10, 11, 12, 13, 14, 15, 16, 17, 18]] rfl rfl rfl rfl (e' := [(106, _), (108, _), (107, _), (105, _), (104, _), (103, _), (102, _), (101, _), (98, _), (100, _), (99, _), (97, _), (96, _), (95, _), (94, _), (1, _), (2, _), (3, _), (7, _), (8, _), (9, _)]) rfl ?_
              refine .g rfl rfl rfl ?_
              refine .cf rfl rfl (Try.call21 _) (rcrash_fn d a4 c4 _ hS4 h32_19 keep ak ck hK) rfl ?_
              rintro _ G35 le36 ⟨a37, c37, rfl, hS37⟩
              replace hS := hS.mono le36
              replace hK := hK.mono le36
              replace hS4 := hS4.mono le36
              replace hSa11 := hSa11.mono le36
              replace hS14 := hS14.mono le36
              replace hS17 := hS17.mono le36
              replace hS30 := hS30.mono le36
              replace hSa31 := hSa31.mono le36
              replace hS34 := hS34.mono le36
              replace hF := hF.trans le36
              refine .g rfl rfl rfl ?_
              refine .bT (.call rfl rfl (Try.call15 _) (fun G hle hG => requal_fn (crash d keep) (crash d keep) a34 a37 c34 c37 G (hS34.mono hle) (hS37.mono hle))) rfl (sameD_refl _) ?_
              refine .v (.pkT rfl rfl) rfl ?_
              refine .v (.mv rfl) rfl ?_
              refine .g rfl rfl rfl ?_
              refine .cf rfl rfl (Try.call10 _) (awake_fn _) rfl ?_
              rintro _ G38 le39 rfl
              replace hS := hS.mono le39
              replace hK := hK.mono le39
              replace hS4 := hS4.mono le39
              replace hSa11 := hSa11.mono le39
              replace hS14 := hS14.mono le39
              replace hS17 := hS17.mono le39
              replace hS30 := hS30.mono le39
              replace hSa31 := hSa31.mono le39
              replace hS34 := hS34.mono le39
              replace hS37 := hS37.mono le39
              replace hF := hF.trans le39
              refine .v (.pkT rfl rfl) rfl ?_
              refine .v (.asn rfl) rfl ?_
              refine .nil ?_
              refine .then ?_
              refine .ret ?_
              exact .done _ [] (.t1 rfl rfl) hF ⟨rfl, rfl⟩ (Inn.keep (.there (.there (.there (.there .here)))))
        · skip
          refine .gs rfl rfl rfl rfl ?_
          refine .gs rfl rfl rfl rfl ?_
          refine .gs rfl rfl rfl rfl ?_
          refine .v (.pkF rfl rfl) rfl ?_
          refine .v (.mv rfl) rfl ?_
          refine .g rfl rfl rfl ?_
          refine .v (.fab fl28_3 rfl) rfl ?_
          refine .g rfl rfl rfl ?_
          refine .v (.ldb ty4 rfl (.there (.there (.there .here))) rfl) rfl ?_
          refine .g rfl rfl rfl ?_
          refine .v (.not rfl) rfl ?_
          refine .g rfl rfl rfl ?_
          refine .v (.mv rfl) rfl ?_
          refine .kn (t := 68) rfl (congrArg Value.bool (show (!d.down) = true by simp [c59_20])) ?_
          refine .g rfl rfl rfl ?_
          refine .v (.mv rfl) rfl ?_
          refine .g rfl rfl rfl ?_
          refine .v (.lenl Try.underlying43 rfl) rfl ?_
          refine .g rfl rfl rfl ?_
          refine .v (.fa0 fl28_0 rfl) rfl ?_
          refine .g rfl rfl rfl ?_
          refine .v (.ldb ty26 rfl (.there (.there (.there .here))) rfl) rfl ?_
          refine .g rfl rfl rfl ?_
          refine .v (.lenl Try.underlying26 rfl) rfl ?_
          refine .g rfl rfl rfl ?_
          refine .vF (.ne rfl rfl) rfl (by rw [ids_len h32_19 c59_20]; exact fun h => h rfl) ?_
          refine .g rfl rfl rfl ?_
          refine .v (.pkT rfl rfl) rfl ?_
          refine .v (.pkF rfl rfl) rfl ?_
          refine .nil ?_
          refine .then ?_
          refine .condF rfl ?_
          refine .skip ?_
          refine .then ?_
          refine .seq ?_
          refine .seq ?_
          refine .region ?_
          refine .v (.mv rfl) rfl ?_
          refine .v (.lenl Try.underlying43 rfl) rfl ?_
          refine .v (.mv rfl) rfl ?_
          refine .nil ?_
          refine .then ?_
          refine .block ?_
          refine WC.loop0 (fx := [(1, _), (2, _), (3, _), (7, _), (8, _), (9, _), (10, _), (78, _)]) (.cons rfl rfl (.cons rfl rfl (.cons rfl rfl (.cons rfl rfl (.cons rfl rfl (.cons rfl rfl (.cons rfl rfl (.cons rfl rfl .nil)))))))) (ι := Nat) (fun k => k ≤ (ids d).length) (fun k => (ids d).length - k) (fun k => [(79, .int .i64 k)]) 0 (by omega) ?he ?round
          case he => exact .cons rfl rfl (.cons rfl rfl (.cons rfl rfl (.cons rfl rfl (.cons rfl rfl (.cons rfl rfl (.cons rfl rfl (.cons rfl rfl (.cons rfl rfl .nil))))))))
          case round =>
            intro k hk
            refine .seq ?_
            refine .region ?_
            refine .vs (.lt rfl rfl) rfl (fun h80_41 => ?_) (fun h80_41 => ?_)
            · skip
              obtain ⟨n0, hn0⟩ : ∃ y, (ids d)[k]? = some y := ⟨_, List.getElem?_eq_getElem (by omega)⟩
              obtain ⟨f, hf, hfn⟩ := ids_get hn0
              refine .nil ?_
              refine .then ?_
              refine .seq ?_
              refine .condT rfl ?_
              refine .skip ?_
              refine .then ?_
              refine .seq ?_
              refine .block ?_
              refine .seq ?_
              refine .region ?_
              refine .v (.mv rfl) rfl ?_
              refine .v (.asn rfl) rfl ?_
              refine .nil ?_
              refine .then ?_
              refine .seq ?_
              refine .draw [[], [], [0, 1], [2], [], [4], [], [5, 6], [7], [8], [3, 9]] [] (by kernel_rfl) (by kernel_rfl) rfl (e1 := [(1, _), (2, _), (3, _), (7, _), (8, _), (9, _), (10, _), (11, _), (78, _), (79, _)]) (.cons rfl rfl (.cons rfl rfl (.cons rfl rfl (.cons rfl rfl (.cons rfl rfl (.cons rfl rfl (.cons rfl rfl (.cons rfl rfl (.cons rfl rfl (.cons rfl rfl .nil)))))))))) (fun x hx => by cases hx) rfl ?_
              refine .v (i := 0) [] rfl rfl rfl .nil (.n (.mv rfl)) ?_
              refine .v (i := 1) [] rfl rfl rfl .nil (.n (.mv rfl)) ?_
              refine .ix (i := 2) (j := (k : Int)) [(82, _), (83, _)] rfl rfl rfl (.cons (.tail _ (.head _)) rfl rfl (.cons (.head _) rfl rfl .nil)) hS17 n0 ⟨by omega, hn0⟩ (fun b_ o_ hr_ ha_ hle_ => .n (.ixs sl43 rfl rfl ⟨by omega, hn0⟩ ha_ hle_)) (fun p42 o43 r44 => ?_)
              refine .v (i := 3) [(84, _)] rfl rfl rfl (.cons (.head _) rfl rfl .nil) (.n (.ldr0 ty3 rfl r44 rfl)) ?_
              refine .v (i := 4) [] rfl rfl rfl .nil (.n (.fa0 fl28_0 rfl)) ?_
              refine .v (i := 5) [(86, _)] rfl rfl rfl (.cons (.head _) rfl rfl .nil) (.n (.ldb ty26 rfl (.there (.there (.there .here))) rfl)) ?_
              refine .v (i := 6) [] rfl rfl rfl .nil (.n (.mv rfl)) ?_
              refine .ix (i := 7) (j := (k : Int)) [(87, _), (88, _)] rfl rfl rfl (.cons (.tail _ (.head _)) rfl rfl (.cons (.head _) rfl rfl .nil)) hS f ⟨by omega, hf⟩ (fun b_ o_ hr_ ha_ hle_ => .n (.ixs sl26 rfl rfl ⟨by omega, hf⟩ ha_ hle_)) (fun p45 o46 r47 => ?_)
              refine .v (i := 8) [(89, _)] rfl rfl rfl (.cons (.head _) rfl rfl .nil) (.n (.fa0 fl25_0 rfl)) ?_
              refine .v (i := 9) [(90, _)] rfl rfl rfl (.cons (.head _) rfl rfl .nil) (.n (.ldr0 ty3 rfl r47 rfl)) ?_
              refine .tail0 10 [[10, 3, 9, 2, 8, 0, 1, 7, 5, 6, 4]] rfl rfl rfl rfl (e' := [(91, _), (90, _), (89, _), (88, _), (87, _), (86, _), (85, _), (84, _), (83, _), (82, _), (1, _), (2, _), (3, _), (7, _), (8, _), (9, _), (10, _), (11, _), (78, _), (79, _)]) rfl ?_
              refine .vF (.ne rfl rfl) rfl (fun h => h hfn.symm) ?_
              refine .nil ?_
              refine .then ?_
              refine .condF rfl ?_
              refine .skip ?_
              refine .blk ?_
              refine .then ?_
              refine .region ?_
              refine .v (.add rfl rfl (by omega)) rfl ?_
              refine .v (.mv rfl) rfl ?_
              refine .nil ?_
              exact .again (k + 1) (by omega) (by omega) (.cons rfl rfl (.cons rfl rfl (.cons rfl rfl (.cons rfl rfl (.cons rfl rfl (.cons rfl rfl (.cons rfl rfl (.cons rfl rfl (.cons rfl rfl .nil))))))))) (subl (.refl _))
            · skip
              refine .nil ?_
              refine .then ?_
              refine .seq ?_
              refine .condF rfl ?_
              refine .exit ?_
              refine .then_exit ?_
              refine .then_exit ?_
              refine .blk_exit ?_
              refine .then ?_
              refine .seq ?_
              refine .draw [[], [0], [1, 1], [2], [3, 2, 2], [2], [2], [5, 6, 4, 2], [4, 7, 7, 2], [2, 8], [9, 8], [10], [11, 10, 10], [10], [10], [13, 14, 12, 10], [12, 15, 15, 10], [10, 16], [17, 16], [18, 18], [18, 19], [20, 19, 0, 1, 2, 3, 4, 5, 6, 7, 8, 9, 10, 11, 12, 13, 14, 15, 16, 17, 18, 19, 20]] [] (by kernel_rfl) (by kernel_rfl) rfl (e1 := [(1, _), (2, _), (3, _), (7, _), (8, _), (9, _)]) (.cons rfl rfl (.cons rfl rfl (.cons rfl rfl (.cons rfl rfl (.cons rfl rfl (.cons rfl rfl .nil)))))) (fun x hx => by cases hx) rfl ?_
              refine .v (i := 0) [] rfl rfl rfl .nil (.n (.ldw ty28 rfl (.there (.there (.there .here))) rfl)) ?_
              refine .bT (i := 1) [(94, _)] rfl rfl rfl (.cons (.head _) rfl rfl .nil) (.n (.call rfl rfl (Try.call11 _) (fun G hle hG => right_fn d a c G (hS.mono hle) hb))) h32_19 ?_
              refine .v (i := 2) [(95, _)] rfl rfl rfl (.cons (.head _) rfl rfl .nil) (.n (.mv rfl)) ?_
              refine .v (i := 3) [(96, _)] rfl rfl rfl (.cons (.head _) rfl rfl .nil) (.g rfl rfl rfl (.ldw ty28 rfl .here rfl)) ?_
              refine .v (i := 5) [(96, _)] rfl rfl rfl (.cons (.tail _ (.head _)) rfl rfl .nil) (.g rfl rfl rfl (.ldw ty38 rfl (.there (.there .here)) rfl)) ?_
              refine .v (i := 6) [(96, _)] rfl rfl rfl (.cons (.tail _ (.tail _ (.head _))) rfl rfl .nil) (.g rfl rfl rfl (.mv rfl)) ?_
              refine .e (i := 4) [(97, _), (96, _)] [4, 3, 2, 1, 0] rfl rfl rfl (.cons (.tail _ (.tail _ (.head _))) rfl rfl (.cons (.tail _ (.tail _ (.tail _ (.head _)))) rfl rfl .nil)) rfl rfl rfl (.g rfl rfl rfl) (.call rfl rfl (Try.call13 _) (ref_fn (arm d n) a c _ hSa11 (by rw [arm_files]; exact hn)) _ rfl) ?_
              rintro _ _ G48 le49 ⟨_, rfl, rfl, a50, c50, rfl, hS50⟩
              replace hS := hS.mono le49
              replace hK := hK.mono le49
              replace hS4 := hS4.mono le49
              replace hSa11 := hSa11.mono le49
              replace hS14 := hS14.mono le49
              replace hS17 := hS17.mono le49
              replace hF := hF.trans le49
              refine ⟨.again [(96, _)] rfl (.cons (.tail _ (.tail _ (.tail _ (.head _)))) rfl rfl .nil) (.g rfl rfl rfl (.mv rfl)) (.again [(96, _)] rfl (.cons (.tail _ (.tail _ (.tail _ (.head _)))) rfl rfl .nil) (.g rfl rfl rfl (.ldw ty38 rfl (.there (.there .here)) rfl)) (.skip rfl (.skip rfl (.skip rfl (.skip rfl .nil))))), rfl, ?_⟩
              have hSa51 := hS4
              rw [← arm_files d n] at hSa51
              refine .v (i := 7) [(99, _), (100, _), (96, _)] rfl rfl rfl (.cons (.tail _ (.tail _ (.head _))) rfl rfl (.cons (.tail _ (.head _)) rfl rfl (.cons (.tail _ (.tail _ (.tail _ (.tail _ (.head _))))) rfl rfl .nil))) (.g rfl rfl rfl (.call rfl rfl (Try.call20 _) (fun G hle hG => rarm_fn d a4 c4 G (hS4.mono hle) n h32_19))) ?_
              refine .bT (i := 8) [(98, _), (101, _), (96, _)] rfl rfl rfl (.cons (.tail _ (.head _)) rfl rfl (.cons (.head _) rfl rfl (.cons (.tail _ (.tail _ (.tail _ (.tail _ (.tail _ (.head _)))))) rfl rfl .nil))) (.g rfl rfl rfl (.call rfl rfl (Try.call15 _) (fun G hle hG => requal_fn (arm d n) (arm d n) a50 a4 c50 c4 G (hS50.mono hle) (hSa51.mono hle)))) (sameD_refl _) ?_
              refine .v (i := 9) [(96, _), (102, _)] rfl rfl rfl (.cons (.tail _ (.tail _ (.tail _ (.tail _ (.tail _ (.tail _ (.head _))))))) rfl rfl (.cons (.head _) rfl rfl .nil)) (.n (.pkT rfl rfl)) ?_
              refine .v (i := 10) [(103, _)] rfl rfl rfl (.cons (.head _) rfl rfl .nil) (.n (.mv rfl)) ?_
              refine .v (i := 11) [(104, _)] rfl rfl rfl (.cons (.head _) rfl rfl .nil) (.g rfl rfl rfl (.ldw ty28 rfl (.there .here) rfl)) ?_
              refine .v (i := 13) [(104, _)] rfl rfl rfl (.cons (.tail _ (.head _)) rfl rfl .nil) (.g rfl rfl rfl (.ldw ty38 rfl (.there (.there .here)) rfl)) ?_
              refine .v (i := 14) [(104, _)] rfl rfl rfl (.cons (.tail _ (.tail _ (.head _))) rfl rfl .nil) (.g rfl rfl rfl (.mv rfl)) ?_
              refine .e (i := 12) [(105, _), (104, _)] [12, 11, 10, 9, 8, 2, 4, 7, 1, 3, 5, 6, 0] rfl rfl rfl (.cons (.tail _ (.tail _ (.head _))) rfl rfl (.cons (.tail _ (.tail _ (.tail _ (.head _)))) rfl rfl .nil)) rfl rfl rfl (.g rfl rfl rfl) (.call rfl rfl (Try.call13 _) (ref_fn (crash d keep) a14 c14 _ hS14 (by have := crash_len d keep; omega)) _ rfl) ?_
              rintro _ _ G52 le53 ⟨_, rfl, rfl, a54, c54, rfl, hS54⟩
              replace hS := hS.mono le53
              replace hK := hK.mono le53
              replace hS4 := hS4.mono le53
              replace hSa11 := hSa11.mono le53
              replace hS14 := hS14.mono le53
              replace hS17 := hS17.mono le53
              replace hS50 := hS50.mono le53
              replace hSa51 := hSa51.mono le53
              replace hF := hF.trans le53
              refine ⟨.again [(104, _)] rfl (.cons (.tail _ (.tail _ (.tail _ (.head _)))) rfl rfl .nil) (.g rfl rfl rfl (.mv rfl)) (.again [(104, _)] rfl (.cons (.tail _ (.tail _ (.tail _ (.head _)))) rfl rfl .nil) (.g rfl rfl rfl (.ldw ty38 rfl (.there (.there .here)) rfl)) (.skip rfl (.skip rfl (.skip rfl (.skip rfl (.skip rfl (.skip rfl (.skip rfl (.skip rfl (.skip rfl (.skip rfl (.skip rfl (.skip rfl .nil))))))))))))), rfl, ?_⟩
              refine .tail0 15 [[15, 13, 14, 12, 10, 11, 9, 8, 2, 4, 7, 1, 3, 5, 6, 0], [16, 12, 15, 10, 11, 13, 14, 9, 8, 2, 4, 7, 1, 3, 5, 6, 0], [17, 10, 16, 9, 8, 12, 15, 2, 4, 7, 11, 13, 14, 1, 3, 5, 6, 0], [18, 17, 16, 10, 12, 15, 9, 8, 11, 13, 14, 2, 4, 7, 1, 3, 5, 6, 0], [19, 18, 17, 16, 10, 12, 15, 9, 8, 11, 13, 14, 2, 4, 7, 1, 3, 5, 6, 0], [20, 18, 19, 17, 16, 10, 12, 15, 9, 8, 11, 13, 14, 2, 4, 7, 1, 3, 5, 6, 0], [21, 20, 19, 0, 1, 2, 3, 4, 5, 6, 7, 8, 9, 10, 11, 12, 13, 14, 15, 16, 17, 18]] rfl rfl rfl rfl (e' := [(106, _), (108, _), (107, _), (105, _), (104, _), (103, _), (102, _), (101, _), (98, _), (100, _), (99, _), (97, _), (96, _), (95, _), (94, _), (1, _), (2, _), (3, _), (7, _), (8, _), (9, _)]) rfl ?_
              refine .g rfl rfl rfl ?_
              refine .cf rfl rfl (Try.call21 _) (rcrash_fn d a4 c4 _ hS4 h32_19 keep ak ck hK) rfl ?_
              rintro _ G55 le56 ⟨a57, c57, rfl, hS57⟩
              replace hS := hS.mono le56
              replace hK := hK.mono le56
              replace hS4 := hS4.mono le56
              replace hSa11 := hSa11.mono le56
              replace hS14 := hS14.mono le56
              replace hS17 := hS17.mono le56
              replace hS50 := hS50.mono le56
              replace hSa51 := hSa51.mono le56
              replace hS54 := hS54.mono le56
              replace hF := hF.trans le56
              refine .g rfl rfl rfl ?_
              refine .bT (.call rfl rfl (Try.call15 _) (fun G hle hG => requal_fn (crash d keep) (crash d keep) a54 a57 c54 c57 G (hS54.mono hle) (hS57.mono hle))) rfl (sameD_refl _) ?_
              refine .v (.pkT rfl rfl) rfl ?_
              refine .v (.mv rfl) rfl ?_
              refine .g rfl rfl rfl ?_
              refine .cf rfl rfl (Try.call10 _) (awake_fn _) rfl ?_
              rintro _ G58 le59 rfl
              replace hS := hS.mono le59
              replace hK := hK.mono le59
              replace hS4 := hS4.mono le59
              replace hSa11 := hSa11.mono le59
              replace hS14 := hS14.mono le59
              replace hS17 := hS17.mono le59
              replace hS50 := hS50.mono le59
              replace hSa51 := hSa51.mono le59
              replace hS54 := hS54.mono le59
              replace hS57 := hS57.mono le59
              replace hF := hF.trans le59
              refine .v (.pkT rfl rfl) rfl ?_
              refine .v (.asn rfl) rfl ?_
              refine .nil ?_
              refine .then ?_
              refine .ret ?_
              exact .done _ [] (.t1 rfl rfl) hF ⟨rfl, rfl⟩ (Inn.keep (.there (.there (.there (.there .here)))))
      · skip
        refine .v (.not rfl) rfl ?_
        refine .nil ?_
        refine .then ?_
        refine .condT rfl ?_
        refine .seq ?_
        refine .draw [[], [0], [1], [2, 1], [3], [4, 3, 3], [3], [5, 6, 5, 3], [3, 7], [8, 7], [9], [10, 9, 9], [9], [11, 12, 11, 9], [9, 13], [14, 13], [15], [16, 15], [17, 15], [15, 18], [19, 15], [20, 20], [20, 21], [22, 21, 0, 1, 2, 3, 4, 5, 6, 7, 8, 9, 10, 11, 12, 13, 14, 15, 16, 17, 18, 19, 20, 21, 22]] [] (by kernel_rfl) (by kernel_rfl) rfl (e1 := [(1, _), (2, _), (3, _), (6, _), (7, _), (8, _), (9, _), (10, _)]) (.cons rfl rfl (.cons rfl rfl (.cons rfl rfl (.cons rfl rfl (.cons rfl rfl (.cons rfl rfl (.cons rfl rfl (.cons rfl rfl .nil)))))))) (fun x hx => by cases hx) rfl ?_
        refine .v (i := 0) [] rfl rfl rfl .nil (.n (.ldw ty28 rfl (.there (.there (.there .here))) rfl)) ?_
        refine .bF (i := 1) [(34, _)] rfl rfl rfl (.cons (.head _) rfl rfl .nil) (.n (.call rfl rfl (Try.call11 _) (fun G hle hG => right_fn d a c G (hS.mono hle) hb))) h32_19 ?_
        refine .v (i := 2) [(35, _)] rfl rfl rfl (.cons (.head _) rfl rfl .nil) (.n (.not rfl)) ?_
        refine .v (i := 3) [(36, _)] rfl rfl rfl (.cons (.head _) rfl rfl .nil) (.n (.mv rfl)) ?_
        refine .v (i := 4) [(37, _)] rfl rfl rfl (.cons (.head _) rfl rfl .nil) (.g rfl rfl rfl (.ldw ty28 rfl .here rfl)) ?_
        refine .v (i := 6) [(37, _)] rfl rfl rfl (.cons (.tail _ (.head _)) rfl rfl .nil) (.g rfl rfl rfl (.ldw ty38 rfl (.there (.there .here)) rfl)) ?_
        refine .e (i := 5) [(38, _), (37, _)] [5, 4, 3, 2, 1, 0] rfl rfl rfl (.cons (.tail _ (.head _)) rfl rfl (.cons (.tail _ (.tail _ (.head _))) rfl rfl .nil)) rfl rfl rfl (.g rfl rfl rfl) (.call rfl rfl (Try.call13 _) (ref_fn (arm d n) a c _ hSa11 (by rw [arm_files]; exact hn)) _ rfl) ?_
        rintro _ _ G61 le62 ⟨_, rfl, rfl, a63, c63, rfl, hS63⟩
        replace hS := hS.mono le62
        replace hK := hK.mono le62
        replace hS4 := hS4.mono le62
        replace hSa11 := hSa11.mono le62
        replace hS14 := hS14.mono le62
        replace hS17 := hS17.mono le62
        replace hF := hF.trans le62
        refine ⟨.again [(37, _)] rfl (.cons (.tail _ (.tail _ (.head _))) rfl rfl .nil) (.g rfl rfl rfl (.ldw ty38 rfl (.there (.there .here)) rfl)) (.skip rfl (.skip rfl (.skip rfl (.skip rfl (.skip rfl .nil))))), rfl, ?_⟩
        refine .bT (i := 7) [(39, _), (40, _), (37, _)] rfl rfl rfl (.cons (.head _) rfl rfl (.cons (.tail _ (.head _)) rfl rfl (.cons (.tail _ (.tail _ (.tail _ (.head _)))) rfl rfl .nil))) (.g rfl rfl rfl (.call rfl rfl (Try.call15 _) (fun G hle hG => requal_fn (arm d n) d a63 a4 c63 c4 G (hS63.mono hle) (hS4.mono hle)))) (by rw [arm_wrong h32_19]; exact sameD_refl _) ?_
        refine .v (i := 8) [(37, _), (41, _)] rfl rfl rfl (.cons (.tail _ (.tail _ (.tail _ (.tail _ (.head _))))) rfl rfl (.cons (.head _) rfl rfl .nil)) (.n (.pkT rfl rfl)) ?_
        refine .v (i := 9) [(42, _)] rfl rfl rfl (.cons (.head _) rfl rfl .nil) (.n (.mv rfl)) ?_
        refine .v (i := 10) [(43, _)] rfl rfl rfl (.cons (.head _) rfl rfl .nil) (.g rfl rfl rfl (.ldw ty28 rfl (.there .here) rfl)) ?_
        refine .v (i := 12) [(43, _)] rfl rfl rfl (.cons (.tail _ (.head _)) rfl rfl .nil) (.g rfl rfl rfl (.ldw ty38 rfl (.there (.there .here)) rfl)) ?_
        refine .e (i := 11) [(44, _), (43, _)] [11, 10, 9, 8, 7, 3, 5, 6, 2, 1, 4, 0] rfl rfl rfl (.cons (.tail _ (.head _)) rfl rfl (.cons (.tail _ (.tail _ (.head _))) rfl rfl .nil)) rfl rfl rfl (.g rfl rfl rfl) (.call rfl rfl (Try.call13 _) (ref_fn (crash d keep) a14 c14 _ hS14 (by have := crash_len d keep; omega)) _ rfl) ?_
        rintro _ _ G64 le65 ⟨_, rfl, rfl, a66, c66, rfl, hS66⟩
        replace hS := hS.mono le65
        replace hK := hK.mono le65
        replace hS4 := hS4.mono le65
        replace hSa11 := hSa11.mono le65
        replace hS14 := hS14.mono le65
        replace hS17 := hS17.mono le65
        replace hS63 := hS63.mono le65
        replace hF := hF.trans le65
        refine ⟨.again [(43, _)] rfl (.cons (.tail _ (.tail _ (.head _))) rfl rfl .nil) (.g rfl rfl rfl (.ldw ty38 rfl (.there (.there .here)) rfl)) (.skip rfl (.skip rfl (.skip rfl (.skip rfl (.skip rfl (.skip rfl (.skip rfl (.skip rfl (.skip rfl (.skip rfl (.skip rfl .nil))))))))))), rfl, ?_⟩
        refine .tail0 13 [[13, 11, 12, 9, 10, 8, 7, 3, 5, 6, 2, 1, 4, 0], [14, 9, 13, 8, 7, 11, 12, 3, 5, 6, 10, 2, 1, 4, 0], [15, 14, 13, 9, 11, 12, 8, 7, 10, 3, 5, 6, 2, 1, 4, 0], [16, 15, 14, 13, 9, 11, 12, 8, 7, 10, 3, 5, 6, 2, 1, 4, 0], [17, 16, 15, 14, 13, 9, 11, 12, 8, 7, 10, 3, 5, 6, 2, 1, 4, 0], [18, 17, 15, 16, 14, 13, 9, 11, 12, 8, 7, 10, 3, 5, 6, 2, 1, 4, 0], [19, 15, 18, 14, 13, 17, 9, 11, 12, 16, 8, 7, 10, 3, 5, 6, 2, 1, 4, 0], [20, 19, 15, 18, 14, 13, 17, 9, 11, 12, 16, 8, 7, 10, 3, 5, 6, 2, 1, 4, 0], [21, 20, 19, 15, 18, 14, 13, 17, 9, 11, 12, 16, 8, 7, 10, 3, 5, 6, 2, 1, 4, 0], [22, 20, 21, 19, 15, 18, 14, 13, 17, 9, 11, 12, 16, 8, 7, 10, 3, 5, 6, 2, 1, 4, 0], [23, 22, 21, 0, 1, 2, 3, 4, 5, 6, 7, 8, 9, 10, 11, 12, 13, 14, 15, 16, 17, 18, 19, 20]] rfl rfl rfl rfl (e' := [(45, _), (46, _), (44, _), (43, _), (42, _), (41, _), (39, _), (40, _), (38, _), (37, _), (36, _), (35, _), (34, _), (1, _), (2, _), (3, _), (6, _), (7, _), (8, _), (9, _), (10, _)]) rfl ?_
        refine .g rfl rfl rfl ?_
        refine .bT (.call rfl rfl (Try.call15 _) (fun G hle hG => requal_fn (crash d keep) d a66 a4 c66 c4 G (hS66.mono hle) (hS4.mono hle))) rfl (by rw [crash_wrong h32_19]; exact sameD_refl _) ?_
        refine .v (.pkT rfl rfl) rfl ?_
        refine .v (.mv rfl) rfl ?_
        refine .g rfl rfl rfl ?_
        refine .v (.mv rfl) rfl ?_
        refine .g rfl rfl rfl ?_
        refine .v (.lenl Try.underlying43 rfl) rfl ?_
        refine .g rfl rfl rfl ?_
        refine .vT (.eq rfl rfl) rfl (by rw [ids_none (.inl h32_19)]; rfl) ?_
        refine .v (.pkT rfl rfl) rfl ?_
        refine .v (.mv rfl) rfl ?_
        refine .g rfl rfl rfl ?_
        refine .cf rfl rfl (Try.call10 _) (awake_fn _) rfl ?_
        rintro _ G67 le68 rfl
        replace hS := hS.mono le68
        replace hK := hK.mono le68
        replace hS4 := hS4.mono le68
        replace hSa11 := hSa11.mono le68
        replace hS14 := hS14.mono le68
        replace hS17 := hS17.mono le68
        replace hS63 := hS63.mono le68
        replace hS66 := hS66.mono le68
        replace hF := hF.trans le68
        refine .v (.pkT rfl rfl) rfl ?_
        refine .v (.asn rfl) rfl ?_
        refine .nil ?_
        refine .then ?_
        refine .ret ?_
        refine .then_ret ?_
        exact .done _ [] (.t1 rfl rfl) hF ⟨rfl, rfl⟩ (Inn.keep (.there (.there (.there (.there .here)))))
  · skip
    refine .v (.not rfl) rfl ?_
    refine .v (.mv rfl) rfl ?_
    refine .gs rfl rfl rfl rfl ?_
    refine .gs rfl rfl rfl rfl ?_
    refine .gs rfl rfl rfl rfl ?_
    refine .v (.pkT rfl rfl) rfl ?_
    refine .nil ?_
    refine .then ?_
    refine .condT rfl ?_
    refine .seq ?_
    refine .region ?_
    refine .cf rfl rfl (Try.call10 _) (awake_fn _) rfl ?_
    rintro _ G70 le71 rfl
    replace hS := hS.mono le71
    replace hK := hK.mono le71
    replace hS4 := hS4.mono le71
    replace hF := hF.trans le71
    refine .v (.asn rfl) rfl ?_
    refine .nil ?_
    refine .then ?_
    refine .ret ?_
    refine .then_ret ?_
    exact .done _ [] (.t1 rfl rfl) hF ⟨rfl, rfl⟩ (Inn.keep (.there (.there .here)))
end Go.Proofs.Ytifkokikdlgaaaa.Ow
