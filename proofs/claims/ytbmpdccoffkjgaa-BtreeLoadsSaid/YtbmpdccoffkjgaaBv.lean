/- Walks. -/
import Derived.Test.YtbmpdccoffkjgaaBu
import Derived.Test.YtbmpdccoffkjgaaBp
import Derived.Test.YtbmpdccoffkjgaaBye
import Derived.Test.YtbmpdccoffkjgaaTyu
namespace Go.Proofs.Ytbmpdccoffkjgaa.Ow
open Go
set_option linter.unusedVariables false
section
variable {b : Nat} {l : List Pr} {n : Nat} {it : Itm} (F : Mem) (hT : Tre b l n it)
include hT
theorem del_tre (k : ByteArray) (hl : l.length ≤ 900) (hn : n ≤ 100000000) : Fn Try.prog 22 #[.pointer (some ⟨b, 0, none⟩), .string k] [it] F (fun u M G => ∃ it', M = [it'] ∧ (Tre b (delS l k) n it' ∧ u = .bool (hasK l k))) := by
  obtain ⟨T, h, t, hL, hI, rfl, hb⟩ := hT
  have hc := hI.cnt
  cases hk : hasK (flat h t) k with
  | false =>
    refine (del_no b T it F hL h t hI k hk).mono fun u M G _ ⟨h1, h2, h3⟩ => ⟨it, h1, ⟨T, h, t, hL, hI, (delS_not hk).symm, hb⟩, h3⟩
  | true =>
    obtain ⟨T', h', t', p1, p2, p3, p4⟩ := del_inv hI hk (by omega) (by omega)
    exact (del_fn b T it F hL h t hI k hk T' p1).mono fun u M G _ ⟨it', h1, h2, h3, h4⟩ => ⟨it', h1, ⟨T', h', t', h3, p2, p3, by omega⟩, h4⟩
end
theorem few_fn (l : List Ac) (a : Option Addr) (c : Nat) (F : Mem) (hS : Sl F encA 5 a c l) (n : Nat) : Fn Try.prog 10 #[.slice a l.length c, .int .i64 (n : Int)] [] F (fun u _ _ => u = .bool (fewB l n)) := by
  have hm := hS.len
  refine Fn.start0 Try.func10 rfl Try.ntmps10 rfl (env := [(0, _), (1, _)]) rfl ?_
  intro R
  refine .seq ?_
  refine .region ?_
  refine .v (.asn rfl) rfl ?_
  refine .nil ?_
  refine .then ?_
  refine .seq ?_
  refine .seq ?_
  refine .region ?_
  refine .v (.asn rfl) rfl ?_
  refine .nil ?_
  refine .then ?_
  refine .block ?_
  refine WC.loop0 (fx := [(0, _), (1, _)]) (.cons rfl rfl (.cons rfl rfl .nil)) (ι := Nat) (fun k => k ≤ l.length ∧ k ≤ n ∧ fewB l k = true) (fun k => l.length - k) (fun k => [(5, .int .i64 (k : Int))]) 0 ⟨Nat.zero_le _, Nat.zero_le _, rfl⟩ ?he ?round
  case he => exact .cons rfl rfl (.cons rfl rfl (.cons rfl rfl .nil))
  case round =>
    intro k hk
    obtain ⟨hk1, hk2, hk3⟩ := hk
    refine .seq ?_
    refine .seq ?_
    refine .region ?_
    refine .v (.mv rfl) rfl ?_
    refine .v (.mv rfl) rfl ?_
    refine .v (.lenl Try.underlying23 rfl) rfl ?_
    refine .vs (.lt rfl rfl) rfl (fun h9_1 => ?_) (fun h9_1 => ?_)
    · skip
      refine .v (.mv rfl) rfl ?_
      refine .g rfl rfl rfl ?_
      refine .v (.mv rfl) rfl ?_
      refine .g rfl rfl rfl ?_
      refine .v (.mv rfl) rfl ?_
      refine .g rfl rfl rfl ?_
      refine .vs (.lt rfl rfl) rfl (fun h13_2 => ?_) (fun h13_2 => ?_)
      · skip
        refine .v (.pkT rfl rfl) rfl ?_
        refine .nil ?_
        refine .then ?_
        refine .condT rfl ?_
        refine .skip ?_
        refine .then ?_
        refine .seq ?_
        refine .block ?_
        refine .seq ?_
        refine .region ?_
        obtain ⟨x, hx⟩ : ∃ y, l[k]? = some y := ⟨_, List.getElem?_eq_getElem (by omega)⟩
        refine .v (.mv rfl) rfl ?_
        refine .v (.mv rfl) rfl ?_
        refine .ix sl23 rfl rfl hS rfl x ⟨by omega, hx⟩ (fun p3 o4 r5 => ?_)
        refine .v (.fae fl37_2 rfl) rfl ?_
        refine .v (.ldr (j := 2) ty9 rfl r5 rfl) rfl ?_
        refine .v (.lens Try.underlying9 rfl) rfl ?_
        refine .vs (.gt rfl rfl) rfl (fun h23_6 => ?_) (fun h23_6 => ?_)
        · skip
          refine .v (.mv rfl) rfl ?_
          refine .gs rfl rfl rfl rfl ?_
          refine .gs rfl rfl rfl rfl ?_
          refine .gs rfl rfl rfl rfl ?_
          refine .gs rfl rfl rfl rfl ?_
          refine .gs rfl rfl rfl rfl ?_
          refine .gs rfl rfl rfl rfl ?_
          refine .gs rfl rfl rfl rfl ?_
          refine .v (.pkT rfl rfl) rfl ?_
          refine .v (.mv rfl) rfl ?_
          refine .gs rfl rfl rfl rfl ?_
          refine .gs rfl rfl rfl rfl ?_
          refine .gs rfl rfl rfl rfl ?_
          refine .gs rfl rfl rfl rfl ?_
          refine .gs rfl rfl rfl rfl ?_
          refine .gs rfl rfl rfl rfl ?_
          refine .gs rfl rfl rfl rfl ?_
          refine .v (.pkT rfl rfl) rfl ?_
          refine .nil ?_
          refine .then ?_
          refine .condT rfl ?_
          refine .seq ?_
          refine .region ?_
          refine .v (.asn rfl) rfl ?_
          refine .nil ?_
          refine .then ?_
          refine .ret ?_
          refine .blk_ret ?_
          refine .then_ret ?_
          refine .then_ret ?_
          refine .blk_ret ?_
          refine .then_ret ?_
          exact .done _ [] (.t1 rfl rfl) .rfl (by rw [few_stop hx (show k < n by omega) (by unfold okA; rw [decide_eq_false (p := x.key.size ≤ 100) (by have h_ := h23_6; omega)]; simp)]) (Inn.keep .here)
        · skip
          refine .v (.mv rfl) rfl ?_
          refine .g rfl rfl rfl ?_
          refine .v (.mv rfl) rfl ?_
          refine .g rfl rfl rfl ?_
          refine .v (.mv rfl) rfl ?_
          refine .g rfl rfl rfl ?_
          refine .ix sl23 rfl rfl hS rfl x ⟨by omega, hx⟩ (fun p7 o8 r9 => ?_)
          refine .g rfl rfl rfl ?_
          refine .v (.fae fl37_4 rfl) rfl ?_
          refine .g rfl rfl rfl ?_
          refine .v (.ldr (j := 4) ty9 rfl r9 rfl) rfl ?_
          refine .g rfl rfl rfl ?_
          refine .v (.lens Try.underlying9 rfl) rfl ?_
          refine .g rfl rfl rfl ?_
          refine .vs (.gt rfl rfl) rfl (fun h31_10 => ?_) (fun h31_10 => ?_)
          · skip
            refine .v (.pkF rfl rfl) rfl ?_
            refine .v (.mv rfl) rfl ?_
            refine .gs rfl rfl rfl rfl ?_
            refine .gs rfl rfl rfl rfl ?_
            refine .gs rfl rfl rfl rfl ?_
            refine .gs rfl rfl rfl rfl ?_
            refine .gs rfl rfl rfl rfl ?_
            refine .gs rfl rfl rfl rfl ?_
            refine .gs rfl rfl rfl rfl ?_
            refine .v (.pkT rfl rfl) rfl ?_
            refine .nil ?_
            refine .then ?_
            refine .condT rfl ?_
            refine .seq ?_
            refine .region ?_
            refine .v (.asn rfl) rfl ?_
            refine .nil ?_
            refine .then ?_
            refine .ret ?_
            refine .blk_ret ?_
            refine .then_ret ?_
            refine .then_ret ?_
            refine .blk_ret ?_
            refine .then_ret ?_
            exact .done _ [] (.t1 rfl rfl) .rfl (by rw [few_stop hx (show k < n by omega) (by unfold okA; rw [decide_eq_false (p := x.hi.size ≤ 100) (by have h_ := h31_10; omega)]; simp)]) (Inn.keep .here)
          · skip
            refine .v (.pkF rfl rfl) rfl ?_
            refine .v (.mv rfl) rfl ?_
            refine .g rfl rfl rfl ?_
            refine .v (.mv rfl) rfl ?_
            refine .g rfl rfl rfl ?_
            refine .v (.mv rfl) rfl ?_
            refine .g rfl rfl rfl ?_
            refine .ix sl23 rfl rfl hS rfl x ⟨by omega, hx⟩ (fun p11 o12 r13 => ?_)
            refine .g rfl rfl rfl ?_
            refine .v (.fae fl37_3 rfl) rfl ?_
            refine .g rfl rfl rfl ?_
            refine .v (.ldr (j := 3) ty9 rfl r13 rfl) rfl ?_
            refine .g rfl rfl rfl ?_
            refine .v (.lens Try.underlying9 rfl) rfl ?_
            refine .g rfl rfl rfl ?_
            refine .vs (.gt rfl rfl) rfl (fun h40_14 => ?_) (fun h40_14 => ?_)
            · skip
              refine .v (.pkF rfl rfl) rfl ?_
              refine .nil ?_
              refine .then ?_
              refine .condT rfl ?_
              refine .seq ?_
              refine .region ?_
              refine .v (.asn rfl) rfl ?_
              refine .nil ?_
              refine .then ?_
              refine .ret ?_
              refine .blk_ret ?_
              refine .then_ret ?_
              refine .then_ret ?_
              refine .blk_ret ?_
              refine .then_ret ?_
              exact .done _ [] (.t1 rfl rfl) .rfl (by rw [few_stop hx (show k < n by omega) (by unfold okA; rw [decide_eq_false (p := x.val.size ≤ 100) (by have h_ := h40_14; omega)]; simp)]) (Inn.keep .here)
            · skip
              refine .v (.pkF rfl rfl) rfl ?_
              refine .nil ?_
              refine .then ?_
              refine .condF rfl ?_
              refine .skip ?_
              refine .blk ?_
              refine .then ?_
              refine .region ?_
              refine .v (.mv rfl) rfl ?_
              refine .v (.add rfl rfl (by omega)) rfl ?_
              refine .v (.asn rfl) rfl ?_
              refine .nil ?_
              exact .again (k + 1) ⟨by omega, by omega, few_next hx (by unfold okA; rw [decide_eq_true (p := x.key.size ≤ 100) (by have h_ := h23_6; omega), decide_eq_true (p := x.hi.size ≤ 100) (by have h_ := h31_10; omega), decide_eq_true (p := x.val.size ≤ 100) (by have h_ := h40_14; omega)]; rfl) hk3⟩ (by omega) (.cons rfl rfl (.cons rfl rfl (.cons rfl rfl .nil))) (subl (.refl _))
      · skip
        refine .v (.pkT rfl rfl) rfl ?_
        refine .nil ?_
        refine .then ?_
        refine .condF rfl ?_
        refine .exit ?_
        refine .then_exit ?_
        refine .then_exit ?_
        refine .blk_exit ?_
        refine .then ?_
        refine .seq ?_
        refine .region ?_
        refine .v (.asn rfl) rfl ?_
        refine .nil ?_
        refine .then ?_
        refine .ret ?_
        exact .done _ [] (.t1 rfl rfl) .rfl (by rw [few_end hk3 hk1 hk2 (.inr (by omega))]) (Inn.keep .here)
    · skip
      refine .v (.mv rfl) rfl ?_
      refine .gs rfl rfl rfl rfl ?_
      refine .gs rfl rfl rfl rfl ?_
      refine .gs rfl rfl rfl rfl ?_
      refine .v (.pkF rfl rfl) rfl ?_
      refine .nil ?_
      refine .then ?_
      refine .condF rfl ?_
      refine .exit ?_
      refine .then_exit ?_
      refine .then_exit ?_
      refine .blk_exit ?_
      refine .then ?_
      refine .seq ?_
      refine .region ?_
      refine .v (.asn rfl) rfl ?_
      refine .nil ?_
      refine .then ?_
      refine .ret ?_
      exact .done _ [] (.t1 rfl rfl) .rfl (by rw [few_end hk3 hk1 hk2 (.inl (by omega))]) (Inn.keep .here)
theorem back_fn (l : List Ac) (a : Option Addr) (c : Nat) (F : Mem) (hS : Sl F encA 5 a c l) (key : ByteArray) : Fn Try.prog 9 #[.slice a l.length c, .string key] [] F (fun u M _ => M = [] ∧ u = .bool true) := by
  have hm := hS.len
  refine Fn.start0 Try.func9 rfl Try.ntmps9 rfl (env := [(0, _), (1, _)]) rfl ?_
  intro R
  refine .seq ?_
  refine .region ?_
  refine .v (.asn rfl) rfl ?_
  refine .nil ?_
  refine .then ?_
  refine .seq ?_
  refine .seq ?_
  refine .region ?_
  refine .v (.mv rfl) rfl ?_
  refine .vb (.call rfl rfl (Try.call10 _) (fun G hle hG => few_fn l _ _ G (hS.mono hle) 150)) rfl (fun h13_1 => ?_) (fun h13_1 => ?_)
  · skip
    refine .v (.not rfl) rfl ?_
    refine .v (.mv rfl) rfl ?_
    refine .g rfl rfl rfl ?_
    refine .v (.mv rfl) rfl ?_
    refine .g rfl rfl rfl ?_
    refine .v (.lens Try.underlying9 rfl) rfl ?_
    refine .g rfl rfl rfl ?_
    refine .vs (.gt rfl rfl) rfl (fun h18_2 => ?_) (fun h18_2 => ?_)
    · skip
      refine .v (.pkF rfl rfl) rfl ?_
      refine .nil ?_
      refine .then ?_
      refine .condT rfl ?_
      refine .seq ?_
      refine .region ?_
      refine .v (.call rfl rfl (Try.call11 _) (fun G hle hG => awake_fn G)) rfl ?_
      refine .v (.asn rfl) rfl ?_
      refine .nil ?_
      refine .then ?_
      refine .ret ?_
      refine .then_ret ?_
      exact .done _ [] (.t1 rfl rfl) .rfl ⟨rfl, rfl⟩ (Inn.keep .here)
    · skip
      refine .v (.pkF rfl rfl) rfl ?_
      refine .nil ?_
      refine .then ?_
      refine .condF rfl ?_
      refine .skip ?_
      refine .then ?_
      refine .seq ?_
      refine .region ?_
      refine .lend (.make rfl rfl (Try.call20 _) (fun G hle hG => (new_tre G).mono (fun v M H _ h_ => h_))) rfl ?_
      rintro _ itA ⟨bA, rfl, hTA⟩
      refine .v (.asn rfl) rfl ?_
      refine .nil ?_
      refine .then ?_
      refine .seq ?_
      refine .seq ?_
      refine .region ?_
      refine .v (.asn rfl) rfl ?_
      refine .nil ?_
      refine .then ?_
      refine .block ?_
      refine WC.loopx (fx := [(0, _), (1, _), (4, _), (5, _)]) (pre := [_]) (fm := [_]) rfl (.cons rfl rfl (.cons rfl rfl (.cons rfl rfl (.cons rfl rfl .nil)))) (ι := BkZ) (fun z => z.k ≤ l.length ∧ z.k ≤ 150 ∧ z.m.length ≤ z.k ∧ Tre bA z.m (1 + 1000 * z.k) z.it) (fun z => l.length - z.k) (fun z => [(6, .int .i64 (z.k : Int))]) (fun z => [z.it]) (fun _ => F) ⟨0, itA, []⟩ ⟨Nat.zero_le _, Nat.zero_le _, Nat.le_refl _, hTA⟩ ?he ?hm ?round
      case he => exact .cons rfl rfl (.cons rfl rfl (.cons rfl rfl (.cons rfl rfl (.cons rfl rfl .nil))))
      case hm => exact (fun _ h => h)
      case round =>
        intro z hk
        obtain ⟨k, itA, m⟩ := z
        obtain ⟨hk, hk2, hml, hTA⟩ := hk
        dsimp only [List.cons_append, List.nil_append] at hk hk2 hml hTA ⊢
        refine .seq ?_
        refine .seq ?_
        refine .region ?_
        refine .v (.mv rfl) rfl ?_
        refine .v (.mv rfl) rfl ?_
        refine .v (.lenl Try.underlying23 rfl) rfl ?_
        refine .vs (.lt rfl rfl) rfl (fun h25_3 => ?_) (fun h25_3 => ?_)
        · skip
          refine .v (.mv rfl) rfl ?_
          refine .g rfl rfl rfl ?_
          refine .v (.mv rfl) rfl ?_
          refine .g rfl rfl rfl ?_
          refine .vs (.lt rfl rfl) rfl (fun h28_4 => ?_) (fun h28_4 => ?_)
          · skip
            refine .v (.pkT rfl rfl) rfl ?_
            refine .nil ?_
            refine .then ?_
            refine .condT rfl ?_
            refine .skip ?_
            refine .then ?_
            refine .seq ?_
            refine .block ?_
            refine .seq ?_
            refine .region ?_
            obtain ⟨x, hx⟩ : ∃ y, l[k]? = some y := ⟨_, List.getElem?_eq_getElem (by omega)⟩
            refine .v (.mv rfl) rfl ?_
            refine .v (.mv rfl) rfl ?_
            refine .ix sl23 rfl rfl hS rfl x ⟨by omega, hx⟩ (fun p5 o6 r7 => ?_)
            refine .v (.fa0 fl37_0 rfl) rfl ?_
            refine .v (.ldr0 ty3 rfl r7 rfl) rfl ?_
            refine .v (.cvt rfl Try.underlying3 Try.underlying40) rfl ?_
            refine .v (.remk rfl rfl ⟨wrapu_nn _, by decide⟩) rfl ?_
            refine .vs (.lt rfl rfl) rfl (fun h39_8 => ?_) (fun h39_8 => ?_)
            · skip
              refine .nil ?_
              refine .then ?_
              refine .condT rfl ?_
              refine .draw [[], [], [], [1, 2], [3], [4], [], [], [6, 7], [8], [9], [0, 5, 10]] [] (by kernel_rfl) (by kernel_rfl) rfl (e1 := [(0, _), (1, _), (4, _), (5, _), (6, _)]) (.cons rfl rfl (.cons rfl rfl (.cons rfl rfl (.cons rfl rfl (.cons rfl rfl .nil))))) (fun x hx => by cases hx) rfl ?_
              refine .v (i := 0) [] rfl rfl rfl .nil (.n (.mv rfl)) ?_
              refine .v (i := 1) [] rfl rfl rfl .nil (.n (.mv rfl)) ?_
              refine .v (i := 2) [] rfl rfl rfl .nil (.n (.mv rfl)) ?_
              refine .ix (i := 3) (j := (k : Int)) [(41, _), (42, _)] rfl rfl rfl (.cons (.tail _ (.head _)) rfl rfl (.cons (.head _) rfl rfl .nil)) hS x ⟨by omega, hx⟩ (fun b_ o_ hr_ ha_ hle_ => .n (.ixs sl23 rfl rfl ⟨by omega, hx⟩ ha_ hle_)) (fun p9 o10 r11 => ?_)
              refine .v (i := 4) [(43, _)] rfl rfl rfl (.cons (.head _) rfl rfl .nil) (.n (.fae fl37_2 rfl)) ?_
              refine .v (i := 5) [(44, _)] rfl rfl rfl (.cons (.head _) rfl rfl .nil) (.n (.ldr (j := 2) ty9 rfl r11 rfl)) ?_
              refine .v (i := 6) [] rfl rfl rfl .nil (.n (.mv rfl)) ?_
              refine .v (i := 7) [] rfl rfl rfl .nil (.n (.mv rfl)) ?_
              refine .ix (i := 8) (j := (k : Int)) [(46, _), (47, _)] rfl rfl rfl (.cons (.tail _ (.head _)) rfl rfl (.cons (.head _) rfl rfl .nil)) hS x ⟨by omega, hx⟩ (fun b_ o_ hr_ ha_ hle_ => .n (.ixs sl23 rfl rfl ⟨by omega, hx⟩ ha_ hle_)) (fun p12 o13 r14 => ?_)
              refine .v (i := 9) [(48, _)] rfl rfl rfl (.cons (.head _) rfl rfl .nil) (.n (.fae fl37_3 rfl)) ?_
              refine .v (i := 10) [(49, _)] rfl rfl rfl (.cons (.head _) rfl rfl .nil) (.n (.ldr (j := 3) ty9 rfl r14 rfl)) ?_
              refine .tail0 11 [[11, 0, 5, 10, 4, 9, 3, 8, 1, 2, 6, 7]] rfl rfl rfl rfl (e' := [(50, _), (49, _), (48, _), (47, _), (46, _), (45, _), (44, _), (43, _), (42, _), (41, _), (40, _), (0, _), (1, _), (4, _), (5, _), (6, _)]) rfl ?_
              refine .lend (.lend rfl rfl (Try.call21 _) _ (fun _ => .here) (fun G hle hG => (put_tre G hTA _ _ (by omega) (by omega)).mono (fun v M H _ h_ => h_))) rfl ?_
              rintro _ itA15 ⟨hTA15, rfl⟩
              refine .nil ?_
              refine .blk ?_
              refine .then ?_
              refine .region ?_
              refine .v (.mv rfl) rfl ?_
              refine .v (.add rfl rfl (by omega)) rfl ?_
              refine .v (.asn rfl) rfl ?_
              refine .nil ?_
              exact .again ⟨k + 1, _, putS m x.key x.val⟩ ⟨by (try dsimp only); omega, by (try dsimp only); omega, show (putS m x.key x.val).length ≤ k + 1 by have h_ := putS_len hTA.srt x.key x.val; split at h_ <;> omega, hTA15.le (by (try dsimp only); omega)⟩ (by (try dsimp only); omega) (.cons rfl rfl (.cons rfl rfl (.cons rfl rfl (.cons rfl rfl (.cons rfl rfl .nil))))) (subl (.cons_cons _ (.cons_cons _ .slnil)))
            · skip
              refine .nil ?_
              refine .then ?_
              refine .condF rfl ?_
              refine .region ?_
              refine .v (.mv rfl) rfl ?_
              refine .v (.mv rfl) rfl ?_
              refine .v (.mv rfl) rfl ?_
              refine .ix sl23 rfl rfl hS rfl x ⟨by omega, hx⟩ (fun p16 o17 r18 => ?_)
              refine .v (.fae fl37_2 rfl) rfl ?_
              refine .v (.ldr (j := 2) ty9 rfl r18 rfl) rfl ?_
              refine .lend (.lend rfl rfl (Try.call22 _) _ (fun _ => .here) (fun G hle hG => (del_tre G hTA _ (by omega) (by omega)).mono (fun v M H _ h_ => h_))) rfl ?_
              rintro _ itA19 ⟨hTA19, rfl⟩
              refine .nil ?_
              refine .blk ?_
              refine .then ?_
              refine .region ?_
              refine .v (.mv rfl) rfl ?_
              refine .v (.add rfl rfl (by omega)) rfl ?_
              refine .v (.asn rfl) rfl ?_
              refine .nil ?_
              exact .again ⟨k + 1, _, delS m x.key⟩ ⟨by (try dsimp only); omega, by (try dsimp only); omega, show (delS m x.key).length ≤ k + 1 by have h_ := delS_len hTA.srt x.key; omega, hTA19.le (by (try dsimp only); omega)⟩ (by (try dsimp only); omega) (.cons rfl rfl (.cons rfl rfl (.cons rfl rfl (.cons rfl rfl (.cons rfl rfl .nil))))) (subl (.cons_cons _ (.cons_cons _ .slnil)))
          · skip
            refine .v (.pkT rfl rfl) rfl ?_
            refine .nil ?_
            refine .then ?_
            refine .condF rfl ?_
            refine .exit ?_
            refine .then_exit ?_
            refine .then_exit ?_
            refine .blk_exit ?_
            refine .then ?_
            refine .seq ?_
            refine .seq ?_
            refine .region ?_
            refine .v (.mv rfl) rfl ?_
            refine .v (.mv rfl) rfl ?_
            refine .v (.ro rfl rfl (Try.call25 _) (sel1 .here) (get_tre _ hTA key)) rfl ?_
            refine .v (.mv rfl) rfl ?_
            refine .v (.ext rfl rfl) rfl ?_
            refine .v (.ext rfl rfl) rfl ?_
            refine .v (.asn rfl) rfl ?_
            refine .v (.asn rfl) rfl ?_
            refine .nil ?_
            refine .then ?_
            refine .seq ?_
            refine .region ?_
            refine .v (.mv rfl) rfl ?_
            refine .nil ?_
            refine .then ?_
            refine .cs (t := 65) rfl (fun c65_20 => ?_) (fun c65_20 => ?_)
            · skip
              refine .condT rfl ?_
              refine .seq ?_
              refine .region ?_
              refine .v (.call rfl rfl (Try.call11 _) (fun G hle hG => awake_fn G)) rfl ?_
              refine .v (.asn rfl) rfl ?_
              refine .nil ?_
              refine .then ?_
              refine .ret ?_
              refine .then_ret ?_
              exact .done _ [] (.t1 rfl rfl) .rfl ⟨rfl, rfl⟩ (Inn.keep (.there .here))
            · skip
              refine .condF rfl ?_
              refine .skip ?_
              refine .then ?_
              refine .seq ?_
              refine .region ?_
              have hnk := c65_20
              refine .v (.mv rfl) rfl ?_
              refine .lend (.rom rfl rfl (Try.call18 _) (sel1 .here) ((range_tre _ hTA _ _ _ (by omega)).mono (fun v M G _ h_ => h_))) rfl ?_
              rintro _ iw ⟨aw0, cw, rfl, hrw⟩
              refine .v (.asn rfl) rfl ?_
              rw [show rng ⟨#[]⟩ ⟨#[]⟩ ((1000 : Int).toNat) [] m = m from rng_all (by show m.length ≤ 1000; omega)] at hrw ⊢
              refine .nil ?_
              refine .then ?_
              refine .seq ?_
              refine .seq ?_
              refine .region ?_
              refine .v (.mv rfl) rfl ?_
              refine .v (.mv rfl) rfl ?_
              refine .lend (.lend rfl rfl (Try.call21 _) _ (fun _ => (.there .here)) (fun G hle hG => (put_tre G hTA _ _ (by omega) (by omega)).mono (fun v M H _ h_ => h_))) rfl ?_
              rintro _ itA21 ⟨hTA21, rfl⟩
              have hpl := putS_len hTA.srt key ⟨#[118]⟩
              rw [hnk] at hpl
              simp only [Bool.false_eq_true, if_false] at hpl
              refine .kn (t := 71) (v := .bool true) rfl (congrArg Value.bool (by rw [hnk]; rfl)) ?_
              refine .v (.not rfl) rfl ?_
              refine .v (.mv rfl) rfl ?_
              refine .g rfl rfl rfl ?_
              refine .v (.mv rfl) rfl ?_
              refine .g rfl rfl rfl ?_
              refine .v (.mv rfl) rfl ?_
              refine .g rfl rfl rfl ?_
              refine .lend (.lend rfl rfl (Try.call22 _) _ (fun _ => (.there .here)) (fun G hle hG => (del_tre G hTA21 _ (by omega) (by omega)).mono (fun v M H _ h_ => h_))) rfl ?_
              rintro _ itA22 ⟨hTA22, rfl⟩
              rw [delS_putS hTA.srt hnk] at hTA22
              refine .kn (t := 76) (v := .bool true) rfl (congrArg Value.bool (by rw [hasK_putS]; simp)) ?_
              refine .g rfl rfl rfl ?_
              refine .v (.not rfl) rfl ?_
              refine .v (.pkF rfl rfl) rfl ?_
              refine .nil ?_
              refine .then ?_
              refine .condF rfl ?_
              refine .skip ?_
              refine .then ?_
              refine .seq ?_
              refine .region ?_
              refine .v (.mv rfl) rfl ?_
              refine .lend (.rom rfl rfl (Try.call18 _) (sel1 (.there .here)) ((range_tre _ hTA22 _ _ _ (by omega)).mono (fun v M G _ h_ => h_))) rfl ?_
              rintro _ ian ⟨an0, cn, rfl, hrn⟩
              refine .v (.asn rfl) rfl ?_
              rw [show rng ⟨#[]⟩ ⟨#[]⟩ ((1000 : Int).toNat) [] m = m from rng_all (by show m.length ≤ 1000; omega)] at hrn ⊢
              refine .nil ?_
              refine .then ?_
              refine .seq ?_
              refine .seq ?_
              refine .region ?_
              refine .v (.mv rfl) rfl ?_
              refine .v (.lenl Try.underlying22 rfl) rfl ?_
              refine .v (.mv rfl) rfl ?_
              refine .v (.lenl Try.underlying22 rfl) rfl ?_
              refine .vF (.ne rfl rfl) rfl (by omega) ?_
              refine .v (.mv rfl) rfl ?_
              refine .g rfl rfl rfl ?_
              refine .v (.mv rfl) rfl ?_
              refine .g rfl rfl rfl ?_
              refine .v (.ro rfl rfl (Try.call15 _) (sel1 (.there (.there .here))) (check_tre _ hTA22 (by omega))) rfl ?_
              refine .g rfl rfl rfl ?_
              refine .v (.not rfl) rfl ?_
              refine .v (.pkF rfl rfl) rfl ?_
              refine .nil ?_
              refine .then ?_
              refine .condF rfl ?_
              refine .skip ?_
              refine .then ?_
              refine .seq ?_
              refine .seq ?_
              refine .region ?_
              refine .v (.mv rfl) rfl ?_
              refine .v (.lenl Try.underlying22 rfl) rfl ?_
              refine .v (.mv rfl) rfl ?_
              refine .nil ?_
              refine .then ?_
              refine .block ?_
              refine WC.loop0 (fx := [(9, _), (10, _), (92, _)]) (.cons rfl rfl (.cons rfl rfl (.cons rfl rfl .nil))) (ι := Nat) (fun j => j ≤ m.length) (fun j => m.length - j) (fun j => [(93, .int .i64 (j : Int))]) 0 (by omega) ?he ?round
              case he => exact .cons rfl rfl (.cons rfl rfl (.cons rfl rfl (.cons rfl rfl .nil)))
              case round =>
                intro j hk
                refine .seq ?_
                refine .region ?_
                refine .vs (.lt rfl rfl) rfl (fun h94_23 => ?_) (fun h94_23 => ?_)
                · skip
                  refine .nil ?_
                  refine .then ?_
                  refine .seq ?_
                  refine .condT rfl ?_
                  refine .skip ?_
                  refine .then ?_
                  refine .seq ?_
                  refine .block ?_
                  refine .seq ?_
                  refine .region ?_
                  obtain ⟨p, hp⟩ : ∃ y, m[j]? = some y := ⟨_, List.getElem?_eq_getElem (by omega)⟩
                  obtain ⟨baw, daw, rfl, rfl, hdaw⟩ := hrw.blk (by omega)
                  obtain ⟨ban, dan, rfl, rfl, hdan⟩ := hrn.blk (by omega)
                  refine .v (.mv rfl) rfl ?_
                  refine .v (.asn rfl) rfl ?_
                  refine .nil ?_
                  refine .then ?_
                  refine .seq ?_
                  refine .draw [[], [], [0, 1], [2], [], [], [4, 5], [6], [3, 7]] [] (by kernel_rfl) (by kernel_rfl) rfl (e1 := [(9, _), (10, _), (11, _), (92, _), (93, _)]) (.cons rfl rfl (.cons rfl rfl (.cons rfl rfl (.cons rfl rfl (.cons rfl rfl .nil))))) (fun x hx => by cases hx) rfl ?_
                  refine .v (i := 0) [] rfl rfl rfl .nil (.n (.mv rfl)) ?_
                  refine .v (i := 1) [] rfl rfl rfl .nil (.n (.mv rfl)) ?_
                  refine .v (i := 2) [(96, _), (97, _)] rfl rfl rfl (.cons (.tail _ (.head _)) rfl rfl (.cons (.head _) rfl rfl .nil)) (.n (.ixo sl22 rfl rfl (j) ⟨by first | omega | (dsimp only; omega), by have h_ := (List.getElem?_eq_some_iff.1 hp).1; omega⟩)) ?_
                  refine .v (i := 3) [(98, _)] rfl rfl rfl (.cons (.head _) rfl rfl .nil) (.n (.ldm _ ty47 rfl .here rfl (fun j_ v_ hj_ => encP_ok.get m (j) _ hp dan j_ v_ hj_))) ?_
                  refine .v (i := 4) [] rfl rfl rfl .nil (.n (.mv rfl)) ?_
                  refine .v (i := 5) [] rfl rfl rfl .nil (.n (.mv rfl)) ?_
                  refine .v (i := 6) [(100, _), (101, _)] rfl rfl rfl (.cons (.tail _ (.head _)) rfl rfl (.cons (.head _) rfl rfl .nil)) (.n (.ixo sl22 rfl rfl (j) ⟨by first | omega | (dsimp only; omega), by have h_ := (List.getElem?_eq_some_iff.1 hp).1; omega⟩)) ?_
                  refine .v (i := 7) [(102, _)] rfl rfl rfl (.cons (.head _) rfl rfl .nil) (.n (.ldm _ ty47 rfl (.there .here) rfl (fun j_ v_ hj_ => encP_ok.get m (j) _ hp daw j_ v_ hj_))) ?_
                  refine .tail0 8 [[8, 3, 7, 2, 6, 0, 1, 4, 5]] rfl rfl rfl rfl (e' := [(103, _), (102, _), (101, _), (100, _), (99, _), (98, _), (97, _), (96, _), (9, _), (10, _), (11, _), (92, _), (93, _)]) rfl ?_
                  refine .vF (.neP (f := p) (g := p) rfl rfl) rfl (by simp) ?_
                  refine .nil ?_
                  refine .then ?_
                  refine .condF rfl ?_
                  refine .skip ?_
                  refine .blk ?_
                  refine .then ?_
                  refine .region ?_
                  refine .v (.add rfl rfl (by omega)) rfl ?_
                  refine .v (.mv rfl) rfl ?_
                  refine .nil ?_
                  exact .again (j + 1) (by omega) (by omega) (.cons rfl rfl (.cons rfl rfl (.cons rfl rfl (.cons rfl rfl .nil)))) (subl (.refl _))
                · skip
                  refine .nil ?_
                  refine .then ?_
                  refine .seq ?_
                  refine .condF rfl ?_
                  refine .exit ?_
                  refine .then_exit ?_
                  refine .then_exit ?_
                  refine .blk_exit ?_
                  refine .then ?_
                  refine .seq ?_
                  refine .region ?_
                  refine .v (.call rfl rfl (Try.call11 _) (fun G hle hG => awake_fn G)) rfl ?_
                  refine .v (.asn rfl) rfl ?_
                  refine .nil ?_
                  refine .then ?_
                  refine .ret ?_
                  exact .done _ [] (.t1 rfl rfl) .rfl ⟨rfl, rfl⟩ (Inn.keep (.there (.there (.there .here))))
        · skip
          refine .v (.mv rfl) rfl ?_
          refine .gs rfl rfl rfl rfl ?_
          refine .gs rfl rfl rfl rfl ?_
          refine .v (.pkF rfl rfl) rfl ?_
          refine .nil ?_
          refine .then ?_
          refine .condF rfl ?_
          refine .exit ?_
          refine .then_exit ?_
          refine .then_exit ?_
          refine .blk_exit ?_
          refine .then ?_
          refine .seq ?_
          refine .seq ?_
          refine .region ?_
          refine .v (.mv rfl) rfl ?_
          refine .v (.mv rfl) rfl ?_
          refine .v (.ro rfl rfl (Try.call25 _) (sel1 .here) (get_tre _ hTA key)) rfl ?_
          refine .v (.mv rfl) rfl ?_
          refine .v (.ext rfl rfl) rfl ?_
          refine .v (.ext rfl rfl) rfl ?_
          refine .v (.asn rfl) rfl ?_
          refine .v (.asn rfl) rfl ?_
          refine .nil ?_
          refine .then ?_
          refine .seq ?_
          refine .region ?_
          refine .v (.mv rfl) rfl ?_
          refine .nil ?_
          refine .then ?_
          refine .cs (t := 65) rfl (fun c65_24 => ?_) (fun c65_24 => ?_)
          · skip
            refine .condT rfl ?_
            refine .seq ?_
            refine .region ?_
            refine .v (.call rfl rfl (Try.call11 _) (fun G hle hG => awake_fn G)) rfl ?_
            refine .v (.asn rfl) rfl ?_
            refine .nil ?_
            refine .then ?_
            refine .ret ?_
            refine .then_ret ?_
            exact .done _ [] (.t1 rfl rfl) .rfl ⟨rfl, rfl⟩ (Inn.keep (.there .here))
          · skip
            refine .condF rfl ?_
            refine .skip ?_
            refine .then ?_
            refine .seq ?_
            refine .region ?_
            have hnk := c65_24
            refine .v (.mv rfl) rfl ?_
            refine .lend (.rom rfl rfl (Try.call18 _) (sel1 .here) ((range_tre _ hTA _ _ _ (by omega)).mono (fun v M G _ h_ => h_))) rfl ?_
            rintro _ iw ⟨aw0, cw, rfl, hrw⟩
            refine .v (.asn rfl) rfl ?_
            rw [show rng ⟨#[]⟩ ⟨#[]⟩ ((1000 : Int).toNat) [] m = m from rng_all (by show m.length ≤ 1000; omega)] at hrw ⊢
            refine .nil ?_
            refine .then ?_
            refine .seq ?_
            refine .seq ?_
            refine .region ?_
            refine .v (.mv rfl) rfl ?_
            refine .v (.mv rfl) rfl ?_
            refine .lend (.lend rfl rfl (Try.call21 _) _ (fun _ => (.there .here)) (fun G hle hG => (put_tre G hTA _ _ (by omega) (by omega)).mono (fun v M H _ h_ => h_))) rfl ?_
            rintro _ itA25 ⟨hTA25, rfl⟩
            have hpl := putS_len hTA.srt key ⟨#[118]⟩
            rw [hnk] at hpl
            simp only [Bool.false_eq_true, if_false] at hpl
            refine .kn (t := 71) (v := .bool true) rfl (congrArg Value.bool (by rw [hnk]; rfl)) ?_
            refine .v (.not rfl) rfl ?_
            refine .v (.mv rfl) rfl ?_
            refine .g rfl rfl rfl ?_
            refine .v (.mv rfl) rfl ?_
            refine .g rfl rfl rfl ?_
            refine .v (.mv rfl) rfl ?_
            refine .g rfl rfl rfl ?_
            refine .lend (.lend rfl rfl (Try.call22 _) _ (fun _ => (.there .here)) (fun G hle hG => (del_tre G hTA25 _ (by omega) (by omega)).mono (fun v M H _ h_ => h_))) rfl ?_
            rintro _ itA26 ⟨hTA26, rfl⟩
            rw [delS_putS hTA.srt hnk] at hTA26
            refine .kn (t := 76) (v := .bool true) rfl (congrArg Value.bool (by rw [hasK_putS]; simp)) ?_
            refine .g rfl rfl rfl ?_
            refine .v (.not rfl) rfl ?_
            refine .v (.pkF rfl rfl) rfl ?_
            refine .nil ?_
            refine .then ?_
            refine .condF rfl ?_
            refine .skip ?_
            refine .then ?_
            refine .seq ?_
            refine .region ?_
            refine .v (.mv rfl) rfl ?_
            refine .lend (.rom rfl rfl (Try.call18 _) (sel1 (.there .here)) ((range_tre _ hTA26 _ _ _ (by omega)).mono (fun v M G _ h_ => h_))) rfl ?_
            rintro _ ian ⟨an0, cn, rfl, hrn⟩
            refine .v (.asn rfl) rfl ?_
            rw [show rng ⟨#[]⟩ ⟨#[]⟩ ((1000 : Int).toNat) [] m = m from rng_all (by show m.length ≤ 1000; omega)] at hrn ⊢
            refine .nil ?_
            refine .then ?_
            refine .seq ?_
            refine .seq ?_
            refine .region ?_
            refine .v (.mv rfl) rfl ?_
            refine .v (.lenl Try.underlying22 rfl) rfl ?_
            refine .v (.mv rfl) rfl ?_
            refine .v (.lenl Try.underlying22 rfl) rfl ?_
            refine .vF (.ne rfl rfl) rfl (by omega) ?_
            refine .v (.mv rfl) rfl ?_
            refine .g rfl rfl rfl ?_
            refine .v (.mv rfl) rfl ?_
            refine .g rfl rfl rfl ?_
            refine .v (.ro rfl rfl (Try.call15 _) (sel1 (.there (.there .here))) (check_tre _ hTA26 (by omega))) rfl ?_
            refine .g rfl rfl rfl ?_
            refine .v (.not rfl) rfl ?_
            refine .v (.pkF rfl rfl) rfl ?_
            refine .nil ?_
            refine .then ?_
            refine .condF rfl ?_
            refine .skip ?_
            refine .then ?_
            refine .seq ?_
            refine .seq ?_
            refine .region ?_
            refine .v (.mv rfl) rfl ?_
            refine .v (.lenl Try.underlying22 rfl) rfl ?_
            refine .v (.mv rfl) rfl ?_
            refine .nil ?_
            refine .then ?_
            refine .block ?_
            refine WC.loop0 (fx := [(9, _), (10, _), (92, _)]) (.cons rfl rfl (.cons rfl rfl (.cons rfl rfl .nil))) (ι := Nat) (fun j => j ≤ m.length) (fun j => m.length - j) (fun j => [(93, .int .i64 (j : Int))]) 0 (by omega) ?he ?round
            case he => exact .cons rfl rfl (.cons rfl rfl (.cons rfl rfl (.cons rfl rfl .nil)))
            case round =>
              intro j hk
              refine .seq ?_
              refine .region ?_
              refine .vs (.lt rfl rfl) rfl (fun h94_27 => ?_) (fun h94_27 => ?_)
              · skip
                refine .nil ?_
                refine .then ?_
                refine .seq ?_
                refine .condT rfl ?_
                refine .skip ?_
                refine .then ?_
                refine .seq ?_
                refine .block ?_
                refine .seq ?_
                refine .region ?_
                obtain ⟨p, hp⟩ : ∃ y, m[j]? = some y := ⟨_, List.getElem?_eq_getElem (by omega)⟩
                obtain ⟨baw, daw, rfl, rfl, hdaw⟩ := hrw.blk (by omega)
                obtain ⟨ban, dan, rfl, rfl, hdan⟩ := hrn.blk (by omega)
                refine .v (.mv rfl) rfl ?_
                refine .v (.asn rfl) rfl ?_
                refine .nil ?_
                refine .then ?_
                refine .seq ?_
                refine .draw [[], [], [0, 1], [2], [], [], [4, 5], [6], [3, 7]] [] (by kernel_rfl) (by kernel_rfl) rfl (e1 := [(9, _), (10, _), (11, _), (92, _), (93, _)]) (.cons rfl rfl (.cons rfl rfl (.cons rfl rfl (.cons rfl rfl (.cons rfl rfl .nil))))) (fun x hx => by cases hx) rfl ?_
                refine .v (i := 0) [] rfl rfl rfl .nil (.n (.mv rfl)) ?_
                refine .v (i := 1) [] rfl rfl rfl .nil (.n (.mv rfl)) ?_
                refine .v (i := 2) [(96, _), (97, _)] rfl rfl rfl (.cons (.tail _ (.head _)) rfl rfl (.cons (.head _) rfl rfl .nil)) (.n (.ixo sl22 rfl rfl (j) ⟨by first | omega | (dsimp only; omega), by have h_ := (List.getElem?_eq_some_iff.1 hp).1; omega⟩)) ?_
                refine .v (i := 3) [(98, _)] rfl rfl rfl (.cons (.head _) rfl rfl .nil) (.n (.ldm _ ty47 rfl .here rfl (fun j_ v_ hj_ => encP_ok.get m (j) _ hp dan j_ v_ hj_))) ?_
                refine .v (i := 4) [] rfl rfl rfl .nil (.n (.mv rfl)) ?_
                refine .v (i := 5) [] rfl rfl rfl .nil (.n (.mv rfl)) ?_
                refine .v (i := 6) [(100, _), (101, _)] rfl rfl rfl (.cons (.tail _ (.head _)) rfl rfl (.cons (.head _) rfl rfl .nil)) (.n (.ixo sl22 rfl rfl (j) ⟨by first | omega | (dsimp only; omega), by have h_ := (List.getElem?_eq_some_iff.1 hp).1; omega⟩)) ?_
                refine .v (i := 7) [(102, _)] rfl rfl rfl (.cons (.head _) rfl rfl .nil) (.n (.ldm _ ty47 rfl (.there .here) rfl (fun j_ v_ hj_ => encP_ok.get m (j) _ hp daw j_ v_ hj_))) ?_
                refine .tail0 8 [[8, 3, 7, 2, 6, 0, 1, 4, 5]] rfl rfl rfl rfl (e' := [(103, _), (102, _), (101, _), (100, _), (99, _), (98, _), (97, _), (96, _), (9, _), (10, _), (11, _), (92, _), (93, _)]) rfl ?_
                refine .vF (.neP (f := p) (g := p) rfl rfl) rfl (by simp) ?_
                refine .nil ?_
                refine .then ?_
                refine .condF rfl ?_
                refine .skip ?_
                refine .blk ?_
                refine .then ?_
                refine .region ?_
                refine .v (.add rfl rfl (by omega)) rfl ?_
                refine .v (.mv rfl) rfl ?_
                refine .nil ?_
                exact .again (j + 1) (by omega) (by omega) (.cons rfl rfl (.cons rfl rfl (.cons rfl rfl (.cons rfl rfl .nil)))) (subl (.refl _))
              · skip
                refine .nil ?_
                refine .then ?_
                refine .seq ?_
                refine .condF rfl ?_
                refine .exit ?_
                refine .then_exit ?_
                refine .then_exit ?_
                refine .blk_exit ?_
                refine .then ?_
                refine .seq ?_
                refine .region ?_
                refine .v (.call rfl rfl (Try.call11 _) (fun G hle hG => awake_fn G)) rfl ?_
                refine .v (.asn rfl) rfl ?_
                refine .nil ?_
                refine .then ?_
                refine .ret ?_
                exact .done _ [] (.t1 rfl rfl) .rfl ⟨rfl, rfl⟩ (Inn.keep (.there (.there (.there .here))))
  · skip
    refine .v (.not rfl) rfl ?_
    refine .v (.mv rfl) rfl ?_
    refine .gs rfl rfl rfl rfl ?_
    refine .gs rfl rfl rfl rfl ?_
    refine .gs rfl rfl rfl rfl ?_
    refine .v (.pkT rfl rfl) rfl ?_
    refine .nil ?_
    refine .then ?_
    refine .condT rfl ?_
    refine .seq ?_
    refine .region ?_
    refine .v (.call rfl rfl (Try.call11 _) (fun G hle hG => awake_fn G)) rfl ?_
    refine .v (.asn rfl) rfl ?_
    refine .nil ?_
    refine .then ?_
    refine .ret ?_
    refine .then_ret ?_
    exact .done _ [] (.t1 rfl rfl) .rfl ⟨rfl, rfl⟩ (Inn.keep .here)
end Go.Proofs.Ytbmpdccoffkjgaa.Ow
