/- Walks. -/
import Derived.Test.YtbmpdccoffkjgaaBy
import Derived.Test.YtbmpdccoffkjgaaByg
import Derived.Test.YtbmpdccoffkjgaaTyu
namespace Go.Proofs.Ytbmpdccoffkjgaa.Ow
open Go
set_option linter.unusedVariables false
theorem room_fn (h : Nat) (hh : h ≤ 20) (F : Mem) : Fn Try.prog 27 #[.int .i64 (h : Int)] [] F (fun u _ _ => u = .int .i64 ((6 ^ (h + 1) - 1 : Nat) : Int)) := by
  refine Fn.start0 Try.func27 rfl Try.ntmps27 rfl (env := [(0, _)]) rfl ?_
  intro R
  refine .seq ?_
  refine .region ?_
  refine .v (.asn rfl) rfl ?_
  refine .nil ?_
  refine .then ?_
  refine .seq ?_
  refine .region ?_
  refine .v (.asn rfl) rfl ?_
  refine .nil ?_
  refine .then ?_
  refine .seq ?_
  refine .seq ?_
  refine .region ?_
  refine .v (.mv rfl) rfl ?_
  refine .v (.mv rfl) rfl ?_
  refine .nil ?_
  refine .then ?_
  refine .block ?_
  refine WC.loop0 (fx := [(2, _), (4, _)]) (.cons rfl rfl (.cons rfl rfl .nil)) (ι := Nat) (fun k => k ≤ h) (fun k => h - k) (fun k => [(3, .int .i64 ((6 ^ (k + 1) : Nat) : Int)), (5, .int .i64 (k : Int))]) 0 (by omega) ?he ?round
  case he => exact .cons rfl (by rfl) (.cons rfl rfl (.cons rfl rfl (.cons rfl rfl .nil)))
  case round =>
    intro k hk
    have h6 : 6 ^ (k + 1) ≤ 21936950640377856 := Nat.le_trans (Nat.pow_le_pow_right (by decide) (show k + 1 ≤ 21 by omega)) (by decide)
    have h60 : 0 < 6 ^ (k + 1) := Nat.pow_pos (by decide)
    refine .seq ?_
    refine .region ?_
    refine .vs (.lt rfl rfl) rfl (fun h6_1 => ?_) (fun h6_1 => ?_)
    · skip
      refine .nil ?_
      refine .then ?_
      refine .seq ?_
      refine .condT rfl ?_
      refine .skip ?_
      refine .then ?_
      refine .seq ?_
      refine .block ?_
      refine .region ?_
      refine .v (.mv rfl) rfl ?_
      refine .v (.mul rfl rfl (by omega)) rfl ?_
      refine .v (.asn rfl) rfl ?_
      refine .nil ?_
      refine .blk ?_
      refine .then ?_
      refine .region ?_
      refine .v (.add rfl rfl (by omega)) rfl ?_
      refine .v (.mv rfl) rfl ?_
      refine .nil ?_
      exact .again (k + 1) (by omega) (by omega) (.cons rfl (congrArg (Value.int .i64) (by rw [Nat.pow_succ 6 (k + 1)]; simp)) (.cons rfl rfl (.cons rfl rfl (.cons rfl rfl .nil)))) (subl (.refl _))
    · skip
      refine .nil ?_
      refine .then ?_
      refine .seq ?_
      refine .condF rfl ?_
      refine .exit ?_
      refine .then_exit ?_
      refine .then_exit ?_
      refine .blk_exit ?_
      refine .then ?_
      refine .seq ?_
      refine .region ?_
      refine .v (.mv rfl) rfl ?_
      refine .v (.sub rfl rfl (by omega)) rfl ?_
      refine .v (.asn rfl) rfl ?_
      refine .nil ?_
      refine .then ?_
      refine .ret ?_
      exact .done _ [] (.t1 rfl rfl) .rfl (by obtain rfl : k = h := (by omega); exact congrArg (Value.int .i64) (by omega)) (Inn.keep .here)
theorem deep_fn (n d : Nat) (h0 : n = 0 → d = 0) (h1 : n ≠ 0 → 1 ≤ d ∧ d < 30 ∧ 2 * 3 ^ (d - 1) ≤ n + 1) (F : Mem) : Fn Try.prog 24 #[.int .i64 (n : Int), .int .i64 (d : Int)] [] F (fun u _ _ => u = .bool true) := by
  refine Fn.start0 Try.func24 rfl Try.ntmps24 rfl (env := [(0, _), (1, _)]) rfl ?_
  intro R
  refine .seq ?_
  refine .region ?_
  refine .v (.asn rfl) rfl ?_
  refine .nil ?_
  refine .then ?_
  refine .seq ?_
  refine .seq ?_
  refine .region ?_
  refine .v (.mv rfl) rfl ?_
  refine .vs (.eq rfl rfl) rfl (fun h7_1 => ?_) (fun h7_1 => ?_)
  · skip
    refine .nil ?_
    refine .then ?_
    refine .condT rfl ?_
    refine .seq ?_
    refine .region ?_
    refine .v (.mv rfl) rfl ?_
    refine .vT (.eq rfl rfl) rfl (by have h_ := h0 (by omega); omega) ?_
    refine .v (.asn rfl) rfl ?_
    refine .nil ?_
    refine .then ?_
    refine .ret ?_
    refine .then_ret ?_
    exact .done _ [] (.t1 rfl rfl) .rfl rfl (Inn.keep .here)
  · skip
    refine .nil ?_
    refine .then ?_
    refine .condF rfl ?_
    refine .skip ?_
    refine .then ?_
    refine .seq ?_
    refine .region ?_
    have hd := h1 (by omega)
    refine .v (.asn rfl) rfl ?_
    refine .nil ?_
    refine .then ?_
    refine .seq ?_
    refine .seq ?_
    refine .region ?_
    refine .v (.mv rfl) rfl ?_
    refine .v (.sub rfl rfl (by omega)) rfl ?_
    refine .v (.mv rfl) rfl ?_
    refine .nil ?_
    refine .then ?_
    refine .block ?_
    refine WC.loop0 (fx := [(0, _), (1, _), (4, _), (11, _)]) (.cons rfl rfl (.cons rfl rfl (.cons rfl rfl (.cons rfl rfl .nil)))) (ι := Nat) (fun k => k ≤ (d - 1)) (fun k => (d - 1) - k) (fun k => [(5, .int .i64 ((2 * 3 ^ k : Nat) : Int)), (12, .int .i64 (k : Int))]) 0 (by omega) ?he ?round
    case he => exact .cons rfl (by rfl) (.cons rfl rfl (.cons rfl rfl (.cons rfl rfl (.cons rfl rfl (.cons rfl rfl .nil)))))
    case round =>
      intro k hk
      have h6 : 3 ^ k ≤ 68630377364883 := Nat.le_trans (Nat.pow_le_pow_right (by decide) (show k ≤ 29 by omega)) (by decide)
      have h60 : 0 < 3 ^ k := Nat.pow_pos (by decide)
      refine .seq ?_
      refine .region ?_
      refine .vs (.lt rfl rfl) rfl (fun h13_2 => ?_) (fun h13_2 => ?_)
      · skip
        refine .nil ?_
        refine .then ?_
        refine .seq ?_
        refine .condT rfl ?_
        refine .skip ?_
        refine .then ?_
        refine .seq ?_
        refine .block ?_
        refine .region ?_
        refine .v (.mv rfl) rfl ?_
        refine .v (.mul rfl rfl (by omega)) rfl ?_
        refine .v (.asn rfl) rfl ?_
        refine .nil ?_
        refine .blk ?_
        refine .then ?_
        refine .region ?_
        refine .v (.add rfl rfl (by omega)) rfl ?_
        refine .v (.mv rfl) rfl ?_
        refine .nil ?_
        exact .again (k + 1) (by omega) (by omega) (.cons rfl (congrArg (Value.int .i64) (by rw [Nat.pow_succ 3 k]; omega)) (.cons rfl rfl (.cons rfl rfl (.cons rfl rfl (.cons rfl rfl (.cons rfl rfl .nil)))))) (subl (.refl _))
      · skip
        refine .nil ?_
        refine .then ?_
        refine .seq ?_
        refine .condF rfl ?_
        refine .exit ?_
        refine .then_exit ?_
        refine .then_exit ?_
        refine .blk_exit ?_
        refine .then ?_
        refine .seq ?_
        refine .region ?_
        obtain rfl : k = d - 1 := by omega
        have hd3 := hd.2.2
        refine .v (.mv rfl) rfl ?_
        refine .vT (.ge rfl rfl) rfl (by omega) ?_
        refine .v (.mv rfl) rfl ?_
        refine .g rfl rfl rfl ?_
        refine .v (.mv rfl) rfl ?_
        refine .g rfl rfl rfl ?_
        refine .vT (.lt rfl rfl) rfl (by omega) ?_
        refine .v (.pkT rfl rfl) rfl ?_
        refine .v (.mv rfl) rfl ?_
        refine .g rfl rfl rfl ?_
        refine .v (.mv rfl) rfl ?_
        refine .g rfl rfl rfl ?_
        refine .v (.sub rfl rfl (by omega)) rfl ?_
        refine .g rfl rfl rfl ?_
        refine .v (.mv rfl) rfl ?_
        refine .g rfl rfl rfl ?_
        refine .vT (.le rfl rfl) rfl (by omega) ?_
        refine .v (.pkT rfl rfl) rfl ?_
        refine .v (.asn rfl) rfl ?_
        refine .nil ?_
        refine .then ?_
        refine .ret ?_
        exact .done _ [] (.t1 rfl rfl) .rfl rfl (Inn.keep .here)
theorem list_fn (l : List Pr) (a : Option Addr) (c : Nat) (F : Mem) (hS : Sl F encP 2 a c l) (hn : l.length ≤ 900) : Fn Try.prog 12 #[.slice a l.length c] [] F (fun u M G => ∃ it', M = [it'] ∧ G = F ∧ ∃ a' c', u = .slice a' l.length c' ∧ Row 56 encP 2 a' c' l it') := by
  refine Fn.start0 Try.func12 rfl Try.ntmps12 rfl (env := [(0, _)]) rfl ?_
  intro R
  refine .seq ?_
  refine .region ?_
  refine .v (.asn rfl) rfl ?_
  refine .nil ?_
  refine .then ?_
  refine .seq ?_
  refine .region ?_
  refine .v (.asn rfl) rfl ?_
  refine .nil ?_
  refine .then ?_
  refine .seq ?_
  refine .seq ?_
  refine .region ?_
  refine .emp ?_
  refine .v (.mv rfl) rfl ?_
  refine .v (.lenl Try.underlying22 rfl) rfl ?_
  refine .v (.mv rfl) rfl ?_
  refine .nil ?_
  refine .then ?_
  refine .block ?_
  refine WC.loopx (fx := [(2, _), (6, _), (7, _)]) (pre := [_]) (fm := [_]) rfl (.cons rfl rfl (.cons rfl rfl (.cons rfl rfl .nil))) (ι := RowP Pr × Nat) (fun z => Row 56 encP 2 z.1.a z.1.c z.1.xs z.1.it ∧ z.1.xs = l.take z.2 ∧ z.1.xs.length ≤ z.2 ∧ z.2 ≤ l.length) (fun z => l.length - z.2) (fun z => [(3, .slice z.1.a z.1.xs.length z.1.c), (8, .int .i64 (z.2 : Int))]) (fun z => [z.1.it]) (fun z => F) (⟨[], none, 0, []⟩, 0) ⟨Row.nil, rfl, Nat.le_refl _, Nat.zero_le _⟩ ?he ?hm ?round
  case he => exact .cons rfl rfl (.cons rfl rfl (.cons rfl rfl (.cons rfl rfl (.cons rfl rfl .nil))))
  case hm => exact (fun _ h => h)
  case round =>
    intro z hk
    obtain ⟨x1, k⟩ := z
    obtain ⟨hr1, hq1, hxl, hkl⟩ := hk
    dsimp only at hr1 hq1 hxl hkl ⊢
    dsimp only [List.cons_append, List.nil_append]
    refine .seq ?_
    refine .region ?_
    refine .vs (.lt rfl rfl) rfl (fun h9_1 => ?_) (fun h9_1 => ?_)
    · skip
      refine .nil ?_
      refine .then ?_
      refine .seq ?_
      refine .condT rfl ?_
      refine .skip ?_
      refine .then ?_
      refine .seq ?_
      refine .block ?_
      refine .seq ?_
      refine .region ?_
      obtain ⟨x, hx⟩ : ∃ y, l[k]? = some y := ⟨_, List.getElem?_eq_getElem (by omega)⟩
      refine .ix sl22 rfl rfl hS rfl x ⟨by omega, hx⟩ (fun p2 o3 r4 => ?_)
      refine .v (.ldrw ty47 rfl r4 rfl) rfl ?_
      refine .nb (.alloc ty47 rfl) rfl (fun b5 => ?_)
      refine .st (.stw ty47 rfl rfl rfl rfl rfl .here) ?_
      refine .nil ?_
      refine .then ?_
      refine .region ?_
      refine .v (.mv rfl) rfl ?_
      refine .v (.ldw ty47 rfl .here rfl) rfl ?_
      refine .nb (.lit1 sl26 ty56 rfl rfl rfl rfl rfl) rfl (fun b6 => ?_)
      refine .ap (.app1 (xs := x1.xs) (x) sl26 ty56 rfl encP_ok rfl rfl hr1 .here (by first | omega | (simp; omega)) (by first | omega | (simp; omega)) _ (fun _ => (.there (.there .here)))) rfl (fun aq7 cq7 iq7 hrq7 => ?_)
      refine .v (.asn rfl) rfl ?_
      refine .nil ?_
      refine .blk ?_
      refine .then ?_
      refine .region ?_
      refine .v (.add rfl rfl (by omega)) rfl ?_
      refine .v (.mv rfl) rfl ?_
      refine .nil ?_
      exact .again (⟨(x1.xs ++ [x]), aq7, cq7, iq7⟩, k + 1) ⟨hrq7, by (try dsimp only); rw [hq1, List.take_add_one, hx]; rfl, by (try dsimp only); first | omega | (simp; omega), by (try dsimp only); omega⟩ (by (try dsimp only); omega) (.cons rfl rfl (.cons rfl rfl (.cons rfl rfl (.cons rfl rfl (.cons rfl rfl .nil))))) (subl (.cons _ (.cons _ (.cons_cons _ (.cons_cons _ .slnil)))))
    · skip
      refine .nil ?_
      refine .then ?_
      refine .seq ?_
      refine .condF rfl ?_
      refine .exit ?_
      refine .then_exit ?_
      refine .then_exit ?_
      refine .blk_exit ?_
      refine .then ?_
      refine .seq ?_
      refine .region ?_
      refine .v (.mv rfl) rfl ?_
      refine .v (.asn rfl) rfl ?_
      refine .nil ?_
      refine .then ?_
      refine .ret ?_
      obtain rfl : k = l.length := by omega
      rw [List.take_length] at hq1
      rw [← hq1]
      exact .done _ [_] (.t1 rfl rfl) .rfl ⟨_, rfl, rfl, _, _, rfl, hr1⟩ (keep (.cons_cons _ (.cons_cons _ .slnil)))
theorem rises_fn (l : List Pr) (a : Option Addr) (c : Nat) (F : Mem) (hS : Sl F encP 2 a c l) : Fn Try.prog 14 #[.slice a l.length c] [] F (fun u _ _ => u = .bool (srt l)) := by
  have hm := hS.len
  refine Fn.start0 Try.func14 rfl Try.ntmps14 rfl (env := [(0, _)]) rfl ?_
  intro R
  refine .seq ?_
  refine .region ?_
  refine .v (.asn rfl) rfl ?_
  refine .nil ?_
  refine .then ?_
  refine .seq ?_
  refine .seq ?_
  refine .region ?_
  refine .v (.asn rfl) rfl ?_
  refine .nil ?_
  refine .then ?_
  refine .block ?_
  refine WC.loop0 (fx := [(0, _)]) (.cons rfl rfl .nil) (ι := Nat) (fun k => k ≤ l.length ∧ ∀ i p q, i < k → i + 1 < l.length → l[i]? = some p → l[i + 1]? = some q → slt p.key q.key = true) (fun k => l.length - k) (fun k => [(3, .int .i64 ((k : Int) + 1))]) 0 ⟨Nat.zero_le _, fun i p q h => by omega⟩ ?he ?round
  case he => exact .cons rfl (by rfl) (.cons rfl rfl .nil)
  case round =>
    intro k hk
    obtain ⟨hk, hk2⟩ := hk
    refine .seq ?_
    refine .seq ?_
    refine .region ?_
    refine .v (.mv rfl) rfl ?_
    refine .v (.mv rfl) rfl ?_
    refine .v (.lenl Try.underlying26 rfl) rfl ?_
    refine .vs (.lt rfl rfl) rfl (fun h7_1 => ?_) (fun h7_1 => ?_)
    · skip
      refine .nil ?_
      refine .then ?_
      refine .condT rfl ?_
      refine .skip ?_
      refine .then ?_
      refine .seq ?_
      refine .block ?_
      refine .seq ?_
      refine .draw [[], [], [1], [0, 2], [3], [4], [], [], [6, 7], [8], [9], [5, 10]] [] (by kernel_rfl) (by kernel_rfl) rfl (e1 := [(0, _), (3, _)]) (.cons rfl rfl (.cons rfl rfl .nil)) (fun x hx => by cases hx) rfl ?_
      obtain ⟨x2, hx2⟩ : ∃ y, l[k + 1]? = some y := ⟨_, List.getElem?_eq_getElem (by omega)⟩
      obtain ⟨x1, hx1⟩ : ∃ y, l[k]? = some y := ⟨_, List.getElem?_eq_getElem (by omega)⟩
      refine .v (i := 0) [] rfl rfl rfl .nil (.n (.mv rfl)) ?_
      refine .v (i := 1) [] rfl rfl rfl .nil (.n (.mv rfl)) ?_
      refine .v (i := 2) [(11, _)] rfl rfl rfl (.cons (.head _) rfl rfl .nil) (.n (.sub rfl rfl (by omega))) ?_
      refine .ix (i := 3) (j := ((k : Int) + 1 - 1)) [(10, _), (12, _)] rfl rfl rfl (.cons (.tail _ (.tail _ (.head _))) rfl rfl (.cons (.head _) rfl rfl .nil)) hS x1 ⟨by omega, rix0 hx1⟩ (fun b_ o_ hr_ ha_ hle_ => .n (.ixs sl26 rfl rfl ⟨by omega, rix0 hx1⟩ ha_ hle_)) (fun p2 o3 r4 => ?_)
      refine .v (i := 4) [(13, _)] rfl rfl rfl (.cons (.head _) rfl rfl .nil) (.n (.fa0 fl56_0 rfl)) ?_
      refine .v (i := 5) [(14, _)] rfl rfl rfl (.cons (.head _) rfl rfl .nil) (.n (.ldr0 ty9 rfl r4 rfl)) ?_
      refine .v (i := 6) [] rfl rfl rfl .nil (.n (.mv rfl)) ?_
      refine .v (i := 7) [] rfl rfl rfl .nil (.n (.mv rfl)) ?_
      refine .ix (i := 8) (j := ((k : Int) + 1)) [(16, _), (17, _)] rfl rfl rfl (.cons (.tail _ (.head _)) rfl rfl (.cons (.head _) rfl rfl .nil)) hS x2 ⟨by omega, rix1 hx2⟩ (fun b_ o_ hr_ ha_ hle_ => .n (.ixs sl26 rfl rfl ⟨by omega, rix1 hx2⟩ ha_ hle_)) (fun p5 o6 r7 => ?_)
      refine .v (i := 9) [(18, _)] rfl rfl rfl (.cons (.head _) rfl rfl .nil) (.n (.fa0 fl56_0 rfl)) ?_
      refine .v (i := 10) [(19, _)] rfl rfl rfl (.cons (.head _) rfl rfl .nil) (.n (.ldr0 ty9 rfl r7 rfl)) ?_
      refine .tail0 11 [[11, 5, 10, 4, 9, 3, 8, 0, 2, 6, 7, 1]] rfl rfl rfl rfl (e' := [(20, _), (19, _), (18, _), (17, _), (16, _), (15, _), (14, _), (13, _), (12, _), (11, _), (10, _), (0, _), (3, _)]) rfl ?_
      refine .vb (.ges rfl rfl) rfl (fun h21_8 => ?_) (fun h21_8 => ?_)
      · skip
        refine .nil ?_
        refine .then ?_
        refine .condT rfl ?_
        refine .seq ?_
        refine .region ?_
        refine .v (.asn rfl) rfl ?_
        refine .nil ?_
        refine .then ?_
        refine .ret ?_
        refine .blk_ret ?_
        refine .then_ret ?_
        refine .then_ret ?_
        refine .blk_ret ?_
        refine .then_ret ?_
        exact .done _ [] (.t1 rfl rfl) .rfl (by rw [rises_no hx1 hx2 (by simpa using h21_8)]) (Inn.keep .here)
      · skip
        refine .nil ?_
        refine .then ?_
        refine .condF rfl ?_
        refine .skip ?_
        refine .blk ?_
        refine .then ?_
        refine .region ?_
        refine .v (.mv rfl) rfl ?_
        refine .v (.add rfl rfl (by omega)) rfl ?_
        refine .v (.asn rfl) rfl ?_
        refine .nil ?_
        exact .again (k + 1) ⟨by omega, fun i p q hi hl hp hq => (if e : i = k then by subst e; rw [hx1] at hp; rw [hx2] at hq; cases hp; cases hq; simpa using h21_8 else hk2 i p q (by omega) hl hp hq)⟩ (by omega) (.cons rfl (congrArg (Value.int .i64) (by omega)) (.cons rfl rfl .nil)) (subl (.refl _))
    · skip
      refine .nil ?_
      refine .then ?_
      refine .condF rfl ?_
      refine .exit ?_
      refine .then_exit ?_
      refine .then_exit ?_
      refine .blk_exit ?_
      refine .then ?_
      refine .seq ?_
      refine .region ?_
      refine .v (.asn rfl) rfl ?_
      refine .nil ?_
      refine .then ?_
      refine .ret ?_
      exact .done _ [] (.t1 rfl rfl) .rfl (by rw [rises_yes (fun i p q hi hp hq => hk2 i p q (by have h_ := (List.getElem?_eq_some_iff.1 hq).1; omega) hi hp hq)]) (Inn.keep .here)
end Go.Proofs.Ytbmpdccoffkjgaa.Ow
