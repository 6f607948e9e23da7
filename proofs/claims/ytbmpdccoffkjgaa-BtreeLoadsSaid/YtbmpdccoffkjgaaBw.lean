/- Walks. -/
import Derived.Test.YtbmpdccoffkjgaaBv
import Derived.Test.YtbmpdccoffkjgaaByf
import Derived.Test.YtbmpdccoffkjgaaTyu
namespace Go.Proofs.Ytbmpdccoffkjgaa.Ow
open Go
set_option linter.unusedVariables false
theorem rput_fn (l : List Pr) (a : Option Addr) (c : Nat) (F : Mem) (hS : Sl F encP 2 a c l) (hs : Srt l) (hn : l.length ≤ 900) (K v : ByteArray) : Fn Try.prog 33 #[.slice a l.length c, .string K, .string v] [] F (fun u M G => ∃ it', M = [it'] ∧ G = F ∧ ∃ a' c', u = .tuple #[.slice a' (putS l K v).length c', .bool (!hasK l K)] ∧ Row 56 encP 2 a' c' (putS l K v) it') := by
  refine Fn.start0 Try.func33 rfl Try.ntmps33 rfl (env := [(0, _), (1, _), (2, _)]) rfl ?_
  intro R
  refine .seq ?_
  refine .region ?_
  refine .v (.asn rfl) rfl ?_
  refine .v (.asn rfl) rfl ?_
  refine .nil ?_
  refine .then ?_
  refine .seq ?_
  refine .region ?_
  refine .v (.asn rfl) rfl ?_
  refine .nil ?_
  refine .then ?_
  refine .seq ?_
  refine .region ?_
  refine .v (.asn rfl) rfl ?_
  refine .v (.asn rfl) rfl ?_
  refine .nil ?_
  refine .then ?_
  refine .seq ?_
  refine .seq ?_
  refine .region ?_
  refine .emp ?_
  refine .v (.asn rfl) rfl ?_
  refine .nil ?_
  refine .then ?_
  refine .block ?_
  refine WC.loopx (fx := [(0, _), (1, _), (2, _), (6, _), (7, _)]) (pre := [_]) (fm := [_]) rfl (.cons rfl rfl (.cons rfl rfl (.cons rfl rfl (.cons rfl rfl (.cons rfl rfl .nil))))) (ι := RpZ) (fun z => Row 56 encP 2 z.x.a z.x.c z.x.xs z.x.it ∧ z.x.xs ++ pR K v z.d (l.drop z.k) = pR K v false l ∧ (z.f && !hasK (l.drop z.k) K) = !hasK l K ∧ z.x.xs.length ≤ 2 * z.k ∧ z.k ≤ l.length) (fun z => l.length - z.k) (fun z => [(8, .slice z.x.a z.x.xs.length z.x.c), (9, .bool z.d), (10, .bool z.f), (11, .int .i64 (z.k : Int))]) (fun z => [z.x.it]) (fun z => F) ⟨⟨[], none, 0, []⟩, false, true, 0⟩ ⟨Row.nil, rfl, by simp, Nat.le_refl _, Nat.zero_le _⟩ ?he ?hm ?round
  case he => exact .cons rfl rfl (.cons rfl rfl (.cons rfl rfl (.cons rfl rfl (.cons rfl rfl (.cons rfl rfl (.cons rfl rfl (.cons rfl rfl (.cons rfl rfl .nil))))))))
  case hm => exact (fun _ h => h)
  case round =>
    intro z hk
    obtain ⟨x1, d, fr, k⟩ := z
    obtain ⟨hr1, hq1, hf1, hxl, hkl⟩ := hk
    dsimp only at hr1 hq1 hf1 hxl hkl ⊢
    dsimp only [List.cons_append, List.nil_append]
    refine .seq ?_
    refine .seq ?_
    refine .region ?_
    refine .v (.mv rfl) rfl ?_
    refine .v (.mv rfl) rfl ?_
    refine .v (.lenl Try.underlying26 rfl) rfl ?_
    refine .vs (.lt rfl rfl) rfl (fun h15_1 => ?_) (fun h15_1 => ?_)
    · skip
      refine .nil ?_
      refine .then ?_
      refine .condT rfl ?_
      refine .skip ?_
      refine .then ?_
      refine .seq ?_
      refine .block ?_
      refine .seq ?_
      refine .seq ?_
      refine .region ?_
      obtain ⟨x, hx⟩ : ∃ y, l[k]? = some y := ⟨_, List.getElem?_eq_getElem (by omega)⟩
      have hdr := drop_cons hx
      rw [hdr] at hq1
      refine .v (.mv rfl) rfl ?_
      refine .v (.not rfl) rfl ?_
      refine .v (.mv rfl) rfl ?_
      refine .cs (t := 20) rfl (fun c20_2 => ?_) (fun c20_2 => ?_)
      · skip
        refine .g rfl rfl rfl ?_
        refine .v (.mv rfl) rfl ?_
        refine .g rfl rfl rfl ?_
        refine .v (.mv rfl) rfl ?_
        refine .g rfl rfl rfl ?_
        refine .v (.mv rfl) rfl ?_
        refine .g rfl rfl rfl ?_
        refine .ix sl26 rfl rfl hS rfl x ⟨by omega, hx⟩ (fun p3 o4 r5 => ?_)
        refine .g rfl rfl rfl ?_
        refine .v (.fa0 fl56_0 rfl) rfl ?_
        refine .g rfl rfl rfl ?_
        refine .v (.ldr0 ty9 rfl r5 rfl) rfl ?_
        refine .g rfl rfl rfl ?_
        refine .vb (.les rfl rfl) rfl (fun h27_6 => ?_) (fun h27_6 => ?_)
        · skip
          refine .v (.pkT rfl rfl) rfl ?_
          refine .nil ?_
          refine .then ?_
          refine .condT rfl ?_
          refine .seq ?_
          refine .region ?_
          have hd0 : d = false := by simpa using c20_2
          have hle := h27_6
          refine .v (.mv rfl) rfl ?_
          refine .v (.mv rfl) rfl ?_
          refine .v (.mv rfl) rfl ?_
          refine .v (.build rfl (fun w => bd56_0_1 w _ _)) rfl ?_
          refine .nb (.lit1 sl26 ty56 rfl rfl rfl rfl rfl) rfl (fun b7 => ?_)
          refine .ap (.app1 (xs := x1.xs) (⟨K, v⟩) sl26 ty56 rfl encP_ok rfl rfl hr1 .here (by first | omega | (simp; omega)) (by first | omega | (simp; omega)) _ (fun _ => (.there .here))) rfl (fun ap8 cp8 ip8 hrp8 => ?_)
          refine .v (.asn rfl) rfl ?_
          refine .nil ?_
          refine .then ?_
          refine .region ?_
          refine .v (.asn rfl) rfl ?_
          refine .nil ?_
          refine .then ?_
          refine .seq ?_
          refine .region ?_
          refine .v (.mv rfl) rfl ?_
          refine .v (.mv rfl) rfl ?_
          refine .ix sl26 rfl rfl hS rfl x ⟨by omega, hx⟩ (fun p9 o10 r11 => ?_)
          refine .v (.fa0 fl56_0 rfl) rfl ?_
          refine .v (.ldr0 ty9 rfl r11 rfl) rfl ?_
          refine .v (.mv rfl) rfl ?_
          refine .vs (.eqs rfl rfl) rfl (fun h41_12 => ?_) (fun h41_12 => ?_)
          · skip
            refine .nil ?_
            refine .then ?_
            refine .condT rfl ?_
            refine .region ?_
            refine .v (.asn rfl) rfl ?_
            refine .nil ?_
            refine .blk ?_
            refine .then ?_
            refine .region ?_
            refine .v (.mv rfl) rfl ?_
            refine .v (.add rfl rfl (by omega)) rfl ?_
            refine .v (.asn rfl) rfl ?_
            refine .nil ?_
            exact .again ⟨⟨(x1.xs ++ [⟨K, v⟩]), ap8, cp8, ip8⟩, true, false, k + 1⟩ ⟨hrp8, by (try dsimp only); rw [← hq1, pR_yes hd0 hle, if_pos (h41_12)]; simp, by (try dsimp only); rw [← hf1, hasK_drop hx, decide_eq_true (h41_12)]; simp, by (try dsimp only); first | omega | (simp; omega), by (try dsimp only); omega⟩ (by (try dsimp only); omega) (.cons rfl rfl (.cons rfl rfl (.cons rfl rfl (.cons rfl rfl (.cons rfl rfl (.cons rfl rfl (.cons rfl rfl (.cons rfl rfl (.cons rfl rfl .nil))))))))) (subl (.cons _ (.cons_cons _ (.cons_cons _ .slnil))))
          · skip
            refine .nil ?_
            refine .then ?_
            refine .condF rfl ?_
            refine .region ?_
            refine .v (.mv rfl) rfl ?_
            refine .v (.mv rfl) rfl ?_
            refine .v (.mv rfl) rfl ?_
            refine .ix sl26 rfl rfl hS rfl x ⟨by omega, hx⟩ (fun p13 o14 r15 => ?_)
            refine .v (.ldrw ty56 rfl r15 rfl) rfl ?_
            refine .nb (.lit1 sl26 ty56 rfl rfl rfl rfl rfl) rfl (fun b16 => ?_)
            refine .ap (.app1 (xs := (x1.xs ++ [⟨K, v⟩])) (x) sl26 ty56 rfl encP_ok rfl rfl hrp8 .here (by first | omega | (simp; omega)) (by first | omega | (simp; omega)) _ (fun _ => (.there (.there .here)))) rfl (fun aq17 cq17 iq17 hrq17 => ?_)
            refine .v (.asn rfl) rfl ?_
            refine .nil ?_
            refine .blk ?_
            refine .then ?_
            refine .region ?_
            refine .v (.mv rfl) rfl ?_
            refine .v (.add rfl rfl (by omega)) rfl ?_
            refine .v (.asn rfl) rfl ?_
            refine .nil ?_
            exact .again ⟨⟨((x1.xs ++ [⟨K, v⟩]) ++ [x]), aq17, cq17, iq17⟩, true, fr, k + 1⟩ ⟨hrq17, by (try dsimp only); rw [← hq1, pR_yes hd0 hle, if_neg (h41_12)]; simp, by (try dsimp only); rw [← hf1, hasK_drop hx, decide_eq_false (h41_12)]; simp, by (try dsimp only); first | omega | (simp; omega), by (try dsimp only); omega⟩ (by (try dsimp only); omega) (.cons rfl rfl (.cons rfl rfl (.cons rfl rfl (.cons rfl rfl (.cons rfl rfl (.cons rfl rfl (.cons rfl rfl (.cons rfl rfl (.cons rfl rfl .nil))))))))) (subl (.cons _ (.cons _ (.cons_cons _ (.cons_cons _ .slnil)))))
        · skip
          refine .v (.pkT rfl rfl) rfl ?_
          refine .nil ?_
          refine .then ?_
          refine .condF rfl ?_
          refine .skip ?_
          refine .then ?_
          refine .seq ?_
          refine .region ?_
          refine .v (.mv rfl) rfl ?_
          refine .v (.mv rfl) rfl ?_
          refine .ix sl26 rfl rfl hS rfl x ⟨by omega, hx⟩ (fun p18 o19 r20 => ?_)
          refine .v (.fa0 fl56_0 rfl) rfl ?_
          refine .v (.ldr0 ty9 rfl r20 rfl) rfl ?_
          refine .v (.mv rfl) rfl ?_
          refine .vs (.eqs rfl rfl) rfl (fun h41_21 => ?_) (fun h41_21 => ?_)
          · skip
            refine .nil ?_
            refine .then ?_
            refine .condT rfl ?_
            refine .region ?_
            refine .v (.asn rfl) rfl ?_
            refine .nil ?_
            refine .blk ?_
            refine .then ?_
            refine .region ?_
            refine .v (.mv rfl) rfl ?_
            refine .v (.add rfl rfl (by omega)) rfl ?_
            refine .v (.asn rfl) rfl ?_
            refine .nil ?_
            exact .again ⟨⟨x1.xs, x1.a, x1.c, x1.it⟩, d, false, k + 1⟩ ⟨hr1, by (try dsimp only); rw [← hq1, pR_no (.inr (h27_6)), if_pos (h41_21)]; simp, by (try dsimp only); rw [← hf1, hasK_drop hx, decide_eq_true (h41_21)]; simp, by (try dsimp only); first | omega | (simp; omega), by (try dsimp only); omega⟩ (by (try dsimp only); omega) (.cons rfl rfl (.cons rfl rfl (.cons rfl rfl (.cons rfl rfl (.cons rfl rfl (.cons rfl rfl (.cons rfl rfl (.cons rfl rfl (.cons rfl rfl .nil))))))))) (subl (.cons_cons _ (.cons_cons _ .slnil)))
          · skip
            refine .nil ?_
            refine .then ?_
            refine .condF rfl ?_
            refine .region ?_
            refine .v (.mv rfl) rfl ?_
            refine .v (.mv rfl) rfl ?_
            refine .v (.mv rfl) rfl ?_
            refine .ix sl26 rfl rfl hS rfl x ⟨by omega, hx⟩ (fun p22 o23 r24 => ?_)
            refine .v (.ldrw ty56 rfl r24 rfl) rfl ?_
            refine .nb (.lit1 sl26 ty56 rfl rfl rfl rfl rfl) rfl (fun b25 => ?_)
            refine .ap (.app1 (xs := x1.xs) (x) sl26 ty56 rfl encP_ok rfl rfl hr1 .here (by first | omega | (simp; omega)) (by first | omega | (simp; omega)) _ (fun _ => (.there .here))) rfl (fun aq26 cq26 iq26 hrq26 => ?_)
            refine .v (.asn rfl) rfl ?_
            refine .nil ?_
            refine .blk ?_
            refine .then ?_
            refine .region ?_
            refine .v (.mv rfl) rfl ?_
            refine .v (.add rfl rfl (by omega)) rfl ?_
            refine .v (.asn rfl) rfl ?_
            refine .nil ?_
            exact .again ⟨⟨(x1.xs ++ [x]), aq26, cq26, iq26⟩, d, fr, k + 1⟩ ⟨hrq26, by (try dsimp only); rw [← hq1, pR_no (.inr (h27_6)), if_neg (h41_21)]; simp, by (try dsimp only); rw [← hf1, hasK_drop hx, decide_eq_false (h41_21)]; simp, by (try dsimp only); first | omega | (simp; omega), by (try dsimp only); omega⟩ (by (try dsimp only); omega) (.cons rfl rfl (.cons rfl rfl (.cons rfl rfl (.cons rfl rfl (.cons rfl rfl (.cons rfl rfl (.cons rfl rfl (.cons rfl rfl (.cons rfl rfl .nil))))))))) (subl (.cons _ (.cons_cons _ (.cons_cons _ .slnil))))
      · skip
        refine .gs rfl rfl rfl rfl ?_
        refine .gs rfl rfl rfl rfl ?_
        refine .gs rfl rfl rfl rfl ?_
        refine .gs rfl rfl rfl rfl ?_
        refine .gs rfl rfl rfl rfl ?_
        refine .gs rfl rfl rfl rfl ?_
        refine .gs rfl rfl rfl rfl ?_
        refine .v (.pkF rfl rfl) rfl ?_
        refine .nil ?_
        refine .then ?_
        refine .condF rfl ?_
        refine .skip ?_
        refine .then ?_
        refine .seq ?_
        refine .region ?_
        refine .v (.mv rfl) rfl ?_
        refine .v (.mv rfl) rfl ?_
        refine .ix sl26 rfl rfl hS rfl x ⟨by omega, hx⟩ (fun p27 o28 r29 => ?_)
        refine .v (.fa0 fl56_0 rfl) rfl ?_
        refine .v (.ldr0 ty9 rfl r29 rfl) rfl ?_
        refine .v (.mv rfl) rfl ?_
        refine .vs (.eqs rfl rfl) rfl (fun h41_30 => ?_) (fun h41_30 => ?_)
        · skip
          refine .nil ?_
          refine .then ?_
          refine .condT rfl ?_
          refine .region ?_
          refine .v (.asn rfl) rfl ?_
          refine .nil ?_
          refine .blk ?_
          refine .then ?_
          refine .region ?_
          refine .v (.mv rfl) rfl ?_
          refine .v (.add rfl rfl (by omega)) rfl ?_
          refine .v (.asn rfl) rfl ?_
          refine .nil ?_
          exact .again ⟨⟨x1.xs, x1.a, x1.c, x1.it⟩, d, false, k + 1⟩ ⟨hr1, by (try dsimp only); rw [← hq1, pR_no (.inl (by simpa using c20_2)), if_pos (h41_30)]; simp, by (try dsimp only); rw [← hf1, hasK_drop hx, decide_eq_true (h41_30)]; simp, by (try dsimp only); first | omega | (simp; omega), by (try dsimp only); omega⟩ (by (try dsimp only); omega) (.cons rfl rfl (.cons rfl rfl (.cons rfl rfl (.cons rfl rfl (.cons rfl rfl (.cons rfl rfl (.cons rfl rfl (.cons rfl rfl (.cons rfl rfl .nil))))))))) (subl (.cons_cons _ (.cons_cons _ .slnil)))
        · skip
          refine .nil ?_
          refine .then ?_
          refine .condF rfl ?_
          refine .region ?_
          refine .v (.mv rfl) rfl ?_
          refine .v (.mv rfl) rfl ?_
          refine .v (.mv rfl) rfl ?_
          refine .ix sl26 rfl rfl hS rfl x ⟨by omega, hx⟩ (fun p31 o32 r33 => ?_)
          refine .v (.ldrw ty56 rfl r33 rfl) rfl ?_
          refine .nb (.lit1 sl26 ty56 rfl rfl rfl rfl rfl) rfl (fun b34 => ?_)
          refine .ap (.app1 (xs := x1.xs) (x) sl26 ty56 rfl encP_ok rfl rfl hr1 .here (by first | omega | (simp; omega)) (by first | omega | (simp; omega)) _ (fun _ => (.there .here))) rfl (fun aq35 cq35 iq35 hrq35 => ?_)
          refine .v (.asn rfl) rfl ?_
          refine .nil ?_
          refine .blk ?_
          refine .then ?_
          refine .region ?_
          refine .v (.mv rfl) rfl ?_
          refine .v (.add rfl rfl (by omega)) rfl ?_
          refine .v (.asn rfl) rfl ?_
          refine .nil ?_
          exact .again ⟨⟨(x1.xs ++ [x]), aq35, cq35, iq35⟩, d, fr, k + 1⟩ ⟨hrq35, by (try dsimp only); rw [← hq1, pR_no (.inl (by simpa using c20_2)), if_neg (h41_30)]; simp, by (try dsimp only); rw [← hf1, hasK_drop hx, decide_eq_false (h41_30)]; simp, by (try dsimp only); first | omega | (simp; omega), by (try dsimp only); omega⟩ (by (try dsimp only); omega) (.cons rfl rfl (.cons rfl rfl (.cons rfl rfl (.cons rfl rfl (.cons rfl rfl (.cons rfl rfl (.cons rfl rfl (.cons rfl rfl (.cons rfl rfl .nil))))))))) (subl (.cons _ (.cons_cons _ (.cons_cons _ .slnil))))
    · skip
      refine .nil ?_
      refine .then ?_
      refine .condF rfl ?_
      refine .exit ?_
      refine .then_exit ?_
      refine .then_exit ?_
      refine .blk_exit ?_
      refine .then ?_
      refine .seq ?_
      refine .seq ?_
      refine .region ?_
      refine .v (.mv rfl) rfl ?_
      refine .v (.not rfl) rfl ?_
      refine .nil ?_
      refine .then ?_
      refine .cs (t := 50) rfl (fun c50_36 => ?_) (fun c50_36 => ?_)
      · skip
        refine .condT rfl ?_
        refine .region ?_
        refine .v (.mv rfl) rfl ?_
        refine .v (.mv rfl) rfl ?_
        refine .v (.mv rfl) rfl ?_
        refine .v (.build rfl (fun w => bd56_0_1 w _ _)) rfl ?_
        refine .nb (.lit1 sl26 ty56 rfl rfl rfl rfl rfl) rfl (fun b37 => ?_)
        refine .ap (.app1 (xs := x1.xs) (⟨K, v⟩) sl26 ty56 rfl encP_ok rfl rfl hr1 .here (by first | omega | (simp; omega)) (by first | omega | (simp; omega)) _ (fun _ => (.there .here))) rfl (fun ar38 cr38 ir38 hrr38 => ?_)
        refine .v (.asn rfl) rfl ?_
        refine .nil ?_
        refine .then ?_
        refine .seq ?_
        refine .region ?_
        refine .v (.mv rfl) rfl ?_
        refine .v (.mv rfl) rfl ?_
        refine .v (.asn rfl) rfl ?_
        refine .v (.asn rfl) rfl ?_
        refine .nil ?_
        refine .then ?_
        refine .ret ?_
        have hke : k = l.length := by omega
        rw [hke, List.drop_of_length_le (Nat.le_refl _)] at hq1 hf1
        have hff : fr = !hasK l K := by rw [← hf1]; simp [hasK]
        have hd0 : d = false := by simpa using c50_36
        have hfin : (x1.xs ++ [⟨K, v⟩]) = putS l K v := by rw [← pR_putS hs, ← hq1, hd0]; rfl
        rw [← hfin, ← hff]
        exact .done _ [_] (.t2 rfl rfl rfl) .rfl ⟨_, rfl, rfl, _, _, rfl, hrr38⟩ (keep (.cons _ (.cons_cons _ (.cons_cons _ .slnil))))
      · skip
        refine .condF rfl ?_
        refine .skip ?_
        refine .then ?_
        refine .seq ?_
        refine .region ?_
        refine .v (.mv rfl) rfl ?_
        refine .v (.mv rfl) rfl ?_
        refine .v (.asn rfl) rfl ?_
        refine .v (.asn rfl) rfl ?_
        refine .nil ?_
        refine .then ?_
        refine .ret ?_
        have hke : k = l.length := by omega
        rw [hke, List.drop_of_length_le (Nat.le_refl _)] at hq1 hf1
        have hff : fr = !hasK l K := by rw [← hf1]; simp [hasK]
        have hd0 : d = true := by simpa using c50_36
        have hfin : x1.xs = putS l K v := by rw [← pR_putS hs, ← hq1, hd0]; simp [pR]
        rw [← hfin, ← hff]
        exact .done _ [_] (.t2 rfl rfl rfl) .rfl ⟨_, rfl, rfl, _, _, rfl, hr1⟩ (keep (.cons_cons _ (.cons_cons _ .slnil)))
theorem rdel_fn (l : List Pr) (a : Option Addr) (c : Nat) (F : Mem) (hS : Sl F encP 2 a c l) (hs : Srt l) (hn : l.length ≤ 900) (K : ByteArray) : Fn Try.prog 31 #[.slice a l.length c, .string K] [] F (fun u M G => ∃ it', M = [it'] ∧ G = F ∧ ∃ a' c', u = .tuple #[.slice a' (delS l K).length c', .bool (hasK l K)] ∧ Row 56 encP 2 a' c' (delS l K) it') := by
  refine Fn.start0 Try.func31 rfl Try.ntmps31 rfl (env := [(0, _), (1, _)]) rfl ?_
  intro R
  refine .seq ?_
  refine .region ?_
  refine .v (.asn rfl) rfl ?_
  refine .v (.asn rfl) rfl ?_
  refine .nil ?_
  refine .then ?_
  refine .seq ?_
  refine .region ?_
  refine .v (.asn rfl) rfl ?_
  refine .nil ?_
  refine .then ?_
  refine .seq ?_
  refine .seq ?_
  refine .region ?_
  refine .emp ?_
  refine .v (.asn rfl) rfl ?_
  refine .nil ?_
  refine .then ?_
  refine .block ?_
  refine WC.loopx (fx := [(0, _), (1, _), (4, _), (5, _)]) (pre := [_]) (fm := [_]) rfl (.cons rfl rfl (.cons rfl rfl (.cons rfl rfl (.cons rfl rfl .nil)))) (ι := RowP Pr × Nat) (fun z => Row 56 encP 2 z.1.a z.1.c z.1.xs z.1.it ∧ z.1.xs ++ delS (l.drop z.2) K = delS l K ∧ z.1.xs.length ≤ z.2 ∧ z.2 ≤ l.length) (fun z => l.length - z.2) (fun z => [(6, .slice z.1.a z.1.xs.length z.1.c), (7, .int .i64 (z.2 : Int))]) (fun z => [z.1.it]) (fun z => F) (⟨[], none, 0, []⟩, 0) ⟨Row.nil, rfl, Nat.le_refl _, Nat.zero_le _⟩ ?he ?hm ?round
  case he => exact .cons rfl rfl (.cons rfl rfl (.cons rfl rfl (.cons rfl rfl (.cons rfl rfl (.cons rfl rfl .nil)))))
  case hm => exact (fun _ h => h)
  case round =>
    intro z hk
    obtain ⟨x1, k⟩ := z
    obtain ⟨hr1, hq1, hxl, hkl⟩ := hk
    dsimp only at hr1 hq1 hxl hkl ⊢
    dsimp only [List.cons_append, List.nil_append]
    refine .seq ?_
    refine .seq ?_
    refine .region ?_
    refine .v (.mv rfl) rfl ?_
    refine .v (.mv rfl) rfl ?_
    refine .v (.lenl Try.underlying26 rfl) rfl ?_
    refine .vs (.lt rfl rfl) rfl (fun h11_1 => ?_) (fun h11_1 => ?_)
    · skip
      refine .nil ?_
      refine .then ?_
      refine .condT rfl ?_
      refine .skip ?_
      refine .then ?_
      refine .seq ?_
      refine .block ?_
      refine .seq ?_
      refine .region ?_
      obtain ⟨x, hx⟩ : ∃ y, l[k]? = some y := ⟨_, List.getElem?_eq_getElem (by omega)⟩
      have hdr := drop_cons hx
      rw [hdr] at hq1
      refine .v (.mv rfl) rfl ?_
      refine .v (.mv rfl) rfl ?_
      refine .ix sl26 rfl rfl hS rfl x ⟨by omega, hx⟩ (fun p2 o3 r4 => ?_)
      refine .v (.fa0 fl56_0 rfl) rfl ?_
      refine .v (.ldr0 ty9 rfl r4 rfl) rfl ?_
      refine .v (.mv rfl) rfl ?_
      refine .vs (.nes rfl rfl) rfl (fun h20_5 => ?_) (fun h20_5 => ?_)
      · skip
        refine .nil ?_
        refine .then ?_
        refine .condT rfl ?_
        refine .region ?_
        refine .v (.mv rfl) rfl ?_
        refine .v (.mv rfl) rfl ?_
        refine .v (.mv rfl) rfl ?_
        refine .ix sl26 rfl rfl hS rfl x ⟨by omega, hx⟩ (fun p6 o7 r8 => ?_)
        refine .v (.ldrw ty56 rfl r8 rfl) rfl ?_
        refine .nb (.lit1 sl26 ty56 rfl rfl rfl rfl rfl) rfl (fun b9 => ?_)
        refine .ap (.app1 (xs := x1.xs) (x) sl26 ty56 rfl encP_ok rfl rfl hr1 .here (by first | omega | (simp; omega)) (by first | omega | (simp; omega)) _ (fun _ => (.there .here))) rfl (fun aq10 cq10 iq10 hrq10 => ?_)
        refine .v (.asn rfl) rfl ?_
        refine .nil ?_
        refine .blk ?_
        refine .then ?_
        refine .region ?_
        refine .v (.mv rfl) rfl ?_
        refine .v (.add rfl rfl (by omega)) rfl ?_
        refine .v (.asn rfl) rfl ?_
        refine .nil ?_
        exact .again (⟨(x1.xs ++ [x]), aq10, cq10, iq10⟩, k + 1) ⟨hrq10, by (try dsimp only); rw [← hq1, delS_cons, if_neg (h20_5)]; simp, by (try dsimp only); first | omega | (simp; omega), by (try dsimp only); omega⟩ (by (try dsimp only); omega) (.cons rfl rfl (.cons rfl rfl (.cons rfl rfl (.cons rfl rfl (.cons rfl rfl (.cons rfl rfl .nil)))))) (subl (.cons _ (.cons_cons _ (.cons_cons _ .slnil))))
      · skip
        refine .nil ?_
        refine .then ?_
        refine .condF rfl ?_
        refine .skip ?_
        refine .blk ?_
        refine .then ?_
        refine .region ?_
        refine .v (.mv rfl) rfl ?_
        refine .v (.add rfl rfl (by omega)) rfl ?_
        refine .v (.asn rfl) rfl ?_
        refine .nil ?_
        exact .again (⟨x1.xs, x1.a, x1.c, x1.it⟩, k + 1) ⟨hr1, by (try dsimp only); rw [← hq1, delS_cons, if_pos (Classical.not_not.1 h20_5)]; simp, by (try dsimp only); first | omega | (simp; omega), by (try dsimp only); omega⟩ (by (try dsimp only); omega) (.cons rfl rfl (.cons rfl rfl (.cons rfl rfl (.cons rfl rfl (.cons rfl rfl (.cons rfl rfl .nil)))))) (subl (.cons_cons _ (.cons_cons _ .slnil)))
    · skip
      refine .nil ?_
      refine .then ?_
      refine .condF rfl ?_
      refine .exit ?_
      refine .then_exit ?_
      refine .then_exit ?_
      refine .blk_exit ?_
      refine .then ?_
      refine .seq ?_
      refine .region ?_
      refine .v (.mv rfl) rfl ?_
      refine .v (.mv rfl) rfl ?_
      refine .v (.lenl Try.underlying26 rfl) rfl ?_
      refine .v (.mv rfl) rfl ?_
      refine .v (.lenl Try.underlying26 rfl) rfl ?_
      refine .vs (.lt rfl rfl) rfl (fun h33_11 => ?_) (fun h33_11 => ?_)
      · skip
        refine .v (.asn rfl) rfl ?_
        refine .v (.asn rfl) rfl ?_
        refine .nil ?_
        refine .then ?_
        refine .ret ?_
        rw [show k = l.length by omega, List.drop_of_length_le (Nat.le_refl _)] at hq1
        have hfin : x1.xs = delS l K := by rw [← hq1]; simp [delS]
        have hdl := delS_len hs K
        have hbb : hasK l K = decide (((x1.xs).length : Int) < (l.length : Int)) := by rw [hfin]; cases h_ : hasK l K <;> simp [h_] at hdl ⊢ <;> omega
        rw [hbb, ← hfin]
        exact .done _ [_] (.t2 rfl rfl rfl) .rfl ⟨_, rfl, rfl, _, _, (by rw [decide_eq_true (by simpa using h33_11)]), hr1⟩ (keep (.cons_cons _ (.cons_cons _ .slnil)))
      · skip
        refine .v (.asn rfl) rfl ?_
        refine .v (.asn rfl) rfl ?_
        refine .nil ?_
        refine .then ?_
        refine .ret ?_
        rw [show k = l.length by omega, List.drop_of_length_le (Nat.le_refl _)] at hq1
        have hfin : x1.xs = delS l K := by rw [← hq1]; simp [delS]
        have hdl := delS_len hs K
        have hbb : hasK l K = decide (((x1.xs).length : Int) < (l.length : Int)) := by rw [hfin]; cases h_ : hasK l K <;> simp [h_] at hdl ⊢ <;> omega
        rw [hbb, ← hfin]
        exact .done _ [_] (.t2 rfl rfl rfl) .rfl ⟨_, rfl, rfl, _, _, (by rw [decide_eq_false (by simpa using h33_11)]), hr1⟩ (keep (.cons_cons _ (.cons_cons _ .slnil)))
theorem rget_fn (l : List Pr) (a : Option Addr) (c : Nat) (F : Mem) (hS : Sl F encP 2 a c l) (hs : Srt l) (hn : l.length ≤ 900) (K : ByteArray) : Fn Try.prog 26 #[.slice a l.length c, .string K] [] F (fun u _ _ => u = .tuple #[.string ((getS l K).getD ⟨#[]⟩), .bool (hasK l K)]) := by
  refine Fn.start0 Try.func26 rfl Try.ntmps26 rfl (env := [(0, _), (1, _)]) rfl ?_
  intro R
  refine .seq ?_
  refine .region ?_
  refine .v (.asn rfl) rfl ?_
  refine .v (.asn rfl) rfl ?_
  refine .nil ?_
  refine .then ?_
  refine .seq ?_
  refine .seq ?_
  refine .region ?_
  refine .v (.asn rfl) rfl ?_
  refine .nil ?_
  refine .then ?_
  refine .block ?_
  refine WC.loop0 (fx := [(0, _), (1, _)]) (.cons rfl rfl (.cons rfl rfl .nil)) (ι := Nat) (fun k => k ≤ l.length ∧ getS (l.drop k) K = getS l K ∧ hasK (l.drop k) K = hasK l K) (fun k => l.length - k) (fun k => [(6, .int .i64 (k : Int))]) 0 ⟨Nat.zero_le _, rfl, rfl⟩ ?he ?round
  case he => exact .cons rfl rfl (.cons rfl rfl (.cons rfl rfl .nil))
  case round =>
    intro k hk
    obtain ⟨hk, hq1, hh1⟩ := hk
    refine .seq ?_
    refine .seq ?_
    refine .region ?_
    refine .v (.mv rfl) rfl ?_
    refine .v (.mv rfl) rfl ?_
    refine .v (.lenl Try.underlying26 rfl) rfl ?_
    refine .vs (.lt rfl rfl) rfl (fun h10_1 => ?_) (fun h10_1 => ?_)
    · skip
      refine .nil ?_
      refine .then ?_
      refine .condT rfl ?_
      refine .skip ?_
      refine .then ?_
      refine .seq ?_
      refine .block ?_
      refine .seq ?_
      refine .region ?_
      obtain ⟨x, hx⟩ : ∃ y, l[k]? = some y := ⟨_, List.getElem?_eq_getElem (by omega)⟩
      have hdr := drop_cons hx
      rw [hdr] at hq1 hh1
      refine .v (.mv rfl) rfl ?_
      refine .v (.mv rfl) rfl ?_
      refine .ix sl26 rfl rfl hS rfl x ⟨by omega, hx⟩ (fun p2 o3 r4 => ?_)
      refine .v (.fa0 fl56_0 rfl) rfl ?_
      refine .v (.ldr0 ty9 rfl r4 rfl) rfl ?_
      refine .v (.mv rfl) rfl ?_
      refine .vs (.eqs rfl rfl) rfl (fun h19_5 => ?_) (fun h19_5 => ?_)
      · skip
        refine .nil ?_
        refine .then ?_
        refine .condT rfl ?_
        refine .seq ?_
        refine .region ?_
        refine .v (.mv rfl) rfl ?_
        refine .v (.mv rfl) rfl ?_
        refine .ix sl26 rfl rfl hS rfl x ⟨by omega, hx⟩ (fun p6 o7 r8 => ?_)
        refine .v (.fae fl56_1 rfl) rfl ?_
        refine .v (.ldr (j := 1) ty9 rfl r8 rfl) rfl ?_
        refine .v (.asn rfl) rfl ?_
        refine .v (.asn rfl) rfl ?_
        refine .nil ?_
        refine .then ?_
        refine .ret ?_
        refine .blk_ret ?_
        refine .then_ret ?_
        refine .then_ret ?_
        refine .blk_ret ?_
        refine .then_ret ?_
        exact .done _ [] (.t2 rfl rfl rfl) .rfl (by rw [← hq1, ← hh1, getS_cons, hasK_cons, if_pos (h19_5), decide_eq_true (h19_5)]; rfl) (Inn.keep .here)
      · skip
        refine .nil ?_
        refine .then ?_
        refine .condF rfl ?_
        refine .skip ?_
        refine .blk ?_
        refine .then ?_
        refine .region ?_
        refine .v (.mv rfl) rfl ?_
        refine .v (.add rfl rfl (by omega)) rfl ?_
        refine .v (.asn rfl) rfl ?_
        refine .nil ?_
        exact .again (k + 1) ⟨by omega, by rw [← hq1, getS_cons, if_neg (h19_5)], by rw [← hh1, hasK_cons, decide_eq_false (h19_5)]; rfl⟩ (by omega) (.cons rfl rfl (.cons rfl rfl (.cons rfl rfl .nil))) (subl (.refl _))
    · skip
      refine .nil ?_
      refine .then ?_
      refine .condF rfl ?_
      refine .exit ?_
      refine .then_exit ?_
      refine .then_exit ?_
      refine .blk_exit ?_
      refine .then ?_
      refine .seq ?_
      refine .region ?_
      refine .v (.asn rfl) rfl ?_
      refine .v (.asn rfl) rfl ?_
      refine .nil ?_
      refine .then ?_
      refine .ret ?_
      exact .done _ [] (.t2 rfl rfl rfl) .rfl (by rw [← hq1, ← hh1, show k = l.length by omega, List.drop_of_length_le (Nat.le_refl _)]; rfl) (Inn.keep .here)
theorem rng_skip {lo hi : ByteArray} {L : Nat} {out b : List Pr} {p : Pr} (h : inR lo hi p = false) : rng lo hi L out (p :: b) = rng lo hi L out b := by
  unfold rng
  rw [List.filter_cons_of_neg (by simp [h])]
theorem rrange_fn (l : List Pr) (a : Option Addr) (c : Nat) (F : Mem) (hS : Sl F encP 2 a c l) (hs : Srt l) (hn : l.length ≤ 900) (lo hi : ByteArray) (lim : Int) : Fn Try.prog 32 #[.slice a l.length c, .string lo, .string hi, .int .i64 lim] [] F (fun u M G => ∃ it', M = [it'] ∧ G = F ∧ ∃ a' c', u = .slice a' (rng lo hi lim.toNat [] l).length c' ∧ Row 56 encP 2 a' c' (rng lo hi lim.toNat [] l) it') := by
  refine Fn.start0 Try.func32 rfl Try.ntmps32 rfl (env := [(0, _), (1, _), (2, _), (3, _)]) rfl ?_
  intro R
  refine .seq ?_
  refine .region ?_
  refine .v (.asn rfl) rfl ?_
  refine .nil ?_
  refine .then ?_
  refine .seq ?_
  refine .region ?_
  refine .v (.asn rfl) rfl ?_
  refine .nil ?_
  refine .then ?_
  refine .seq ?_
  refine .seq ?_
  refine .region ?_
  refine .emp ?_
  refine .v (.asn rfl) rfl ?_
  refine .nil ?_
  refine .then ?_
  refine .block ?_
  refine WC.loopx (fx := [(0, _), (1, _), (2, _), (3, _), (8, _)]) (pre := [_]) (fm := [_]) rfl (.cons rfl rfl (.cons rfl rfl (.cons rfl rfl (.cons rfl rfl (.cons rfl rfl .nil))))) (ι := RowP Pr × Nat) (fun z => Row 56 encP 2 z.1.a z.1.c z.1.xs z.1.it ∧ rng lo hi lim.toNat z.1.xs (l.drop z.2) = rng lo hi lim.toNat [] l ∧ z.1.xs.length ≤ z.2 ∧ z.2 ≤ l.length) (fun z => l.length - z.2) (fun z => [(9, .slice z.1.a z.1.xs.length z.1.c), (10, .int .i64 (z.2 : Int))]) (fun z => [z.1.it]) (fun z => F) (⟨[], none, 0, []⟩, 0) ⟨Row.nil, rfl, Nat.le_refl _, Nat.zero_le _⟩ ?he ?hm ?round
  case he => exact .cons rfl rfl (.cons rfl rfl (.cons rfl rfl (.cons rfl rfl (.cons rfl rfl (.cons rfl rfl (.cons rfl rfl .nil))))))
  case hm => exact (fun _ h => h)
  case round =>
    intro z hk
    obtain ⟨x1, k⟩ := z
    obtain ⟨hr1, hq1, hxl, hkl⟩ := hk
    dsimp only at hr1 hq1 hxl hkl ⊢
    dsimp only [List.cons_append, List.nil_append]
    refine .seq ?_
    refine .seq ?_
    refine .region ?_
    refine .v (.mv rfl) rfl ?_
    refine .v (.mv rfl) rfl ?_
    refine .v (.lenl Try.underlying26 rfl) rfl ?_
    refine .vs (.lt rfl rfl) rfl (fun h14_1 => ?_) (fun h14_1 => ?_)
    · skip
      refine .v (.mv rfl) rfl ?_
      refine .g rfl rfl rfl ?_
      refine .v (.mv rfl) rfl ?_
      refine .g rfl rfl rfl ?_
      refine .v (.lenl Try.underlying26 rfl) rfl ?_
      refine .g rfl rfl rfl ?_
      refine .v (.mv rfl) rfl ?_
      refine .g rfl rfl rfl ?_
      refine .vs (.lt rfl rfl) rfl (fun h19_2 => ?_) (fun h19_2 => ?_)
      · skip
        refine .v (.pkT rfl rfl) rfl ?_
        refine .nil ?_
        refine .then ?_
        refine .condT rfl ?_
        refine .skip ?_
        refine .then ?_
        refine .seq ?_
        refine .block ?_
        refine .seq ?_
        refine .region ?_
        obtain ⟨x, hx⟩ : ∃ y, l[k]? = some y := ⟨_, List.getElem?_eq_getElem (by omega)⟩
        have hdr := drop_cons hx
        rw [hdr] at hq1
        have hlt : x1.xs.length < lim.toNat := by have h_ := h19_2; omega
        refine .v (.mv rfl) rfl ?_
        refine .v (.mv rfl) rfl ?_
        refine .ix sl26 rfl rfl hS rfl x ⟨by omega, hx⟩ (fun p3 o4 r5 => ?_)
        refine .v (.fa0 fl56_0 rfl) rfl ?_
        refine .v (.ldr0 ty9 rfl r5 rfl) rfl ?_
        refine .v (.mv rfl) rfl ?_
        refine .vb (.ges rfl rfl) rfl (fun h29_6 => ?_) (fun h29_6 => ?_)
        · skip
          refine .v (.mv rfl) rfl ?_
          refine .g rfl rfl rfl ?_
          refine .v (.mv rfl) rfl ?_
          refine .g rfl rfl rfl ?_
          refine .v (.lens Try.underlying9 rfl) rfl ?_
          refine .g rfl rfl rfl ?_
          refine .vs (.eq rfl rfl) rfl (fun h33_7 => ?_) (fun h33_7 => ?_)
          · skip
            refine .g rfl rfl rfl ?_
            refine .v (.mv rfl) rfl ?_
            refine .gs rfl rfl rfl rfl ?_
            refine .gs rfl rfl rfl rfl ?_
            refine .gs rfl rfl rfl rfl ?_
            refine .gs rfl rfl rfl rfl ?_
            refine .gs rfl rfl rfl rfl ?_
            refine .gs rfl rfl rfl rfl ?_
            refine .gs rfl rfl rfl rfl ?_
            refine .g rfl rfl rfl ?_
            refine .v (.pkT rfl rfl) rfl ?_
            refine .v (.pkT rfl rfl) rfl ?_
            refine .nil ?_
            refine .then ?_
            refine .condT rfl ?_
            refine .region ?_
            refine .v (.mv rfl) rfl ?_
            refine .v (.mv rfl) rfl ?_
            refine .v (.mv rfl) rfl ?_
            refine .ix sl26 rfl rfl hS rfl x ⟨by omega, hx⟩ (fun p8 o9 r10 => ?_)
            refine .v (.ldrw ty56 rfl r10 rfl) rfl ?_
            refine .nb (.lit1 sl26 ty56 rfl rfl rfl rfl rfl) rfl (fun b11 => ?_)
            refine .ap (.app1 (xs := x1.xs) (x) sl26 ty56 rfl encP_ok rfl rfl hr1 .here (by first | omega | (simp; omega)) (by first | omega | (simp; omega)) _ (fun _ => (.there .here))) rfl (fun aq12 cq12 iq12 hrq12 => ?_)
            refine .v (.asn rfl) rfl ?_
            refine .nil ?_
            refine .blk ?_
            refine .then ?_
            refine .region ?_
            refine .v (.mv rfl) rfl ?_
            refine .v (.add rfl rfl (by omega)) rfl ?_
            refine .v (.asn rfl) rfl ?_
            refine .nil ?_
            exact .again (⟨(x1.xs ++ [x]), aq12, cq12, iq12⟩, k + 1) ⟨hrq12, by (try dsimp only); rw [← hq1]; exact (rng_one (by unfold inR; have e_ := h29_6; simp at e_; rw [e_, decide_eq_true (by have h_ := h33_7; omega)]; rfl) hlt).symm, by (try dsimp only); first | omega | (simp; omega), by (try dsimp only); omega⟩ (by (try dsimp only); omega) (.cons rfl rfl (.cons rfl rfl (.cons rfl rfl (.cons rfl rfl (.cons rfl rfl (.cons rfl rfl (.cons rfl rfl .nil))))))) (subl (.cons _ (.cons_cons _ (.cons_cons _ .slnil))))
          · skip
            refine .g rfl rfl rfl ?_
            refine .v (.mv rfl) rfl ?_
            refine .g rfl rfl rfl ?_
            refine .v (.mv rfl) rfl ?_
            refine .g rfl rfl rfl ?_
            refine .v (.mv rfl) rfl ?_
            refine .g rfl rfl rfl ?_
            refine .ix sl26 rfl rfl hS rfl x ⟨by omega, hx⟩ (fun p13 o14 r15 => ?_)
            refine .g rfl rfl rfl ?_
            refine .v (.fa0 fl56_0 rfl) rfl ?_
            refine .g rfl rfl rfl ?_
            refine .v (.ldr0 ty9 rfl r15 rfl) rfl ?_
            refine .g rfl rfl rfl ?_
            refine .v (.mv rfl) rfl ?_
            refine .g rfl rfl rfl ?_
            refine .vb (.lts rfl rfl) rfl (fun h41_16 => ?_) (fun h41_16 => ?_)
            · skip
              refine .g rfl rfl rfl ?_
              refine .v (.pkF rfl rfl) rfl ?_
              refine .v (.pkT rfl rfl) rfl ?_
              refine .nil ?_
              refine .then ?_
              refine .condT rfl ?_
              refine .region ?_
              refine .v (.mv rfl) rfl ?_
              refine .v (.mv rfl) rfl ?_
              refine .v (.mv rfl) rfl ?_
              refine .ix sl26 rfl rfl hS rfl x ⟨by omega, hx⟩ (fun p17 o18 r19 => ?_)
              refine .v (.ldrw ty56 rfl r19 rfl) rfl ?_
              refine .nb (.lit1 sl26 ty56 rfl rfl rfl rfl rfl) rfl (fun b20 => ?_)
              refine .ap (.app1 (xs := x1.xs) (x) sl26 ty56 rfl encP_ok rfl rfl hr1 .here (by first | omega | (simp; omega)) (by first | omega | (simp; omega)) _ (fun _ => (.there .here))) rfl (fun aq21 cq21 iq21 hrq21 => ?_)
              refine .v (.asn rfl) rfl ?_
              refine .nil ?_
              refine .blk ?_
              refine .then ?_
              refine .region ?_
              refine .v (.mv rfl) rfl ?_
              refine .v (.add rfl rfl (by omega)) rfl ?_
              refine .v (.asn rfl) rfl ?_
              refine .nil ?_
              exact .again (⟨(x1.xs ++ [x]), aq21, cq21, iq21⟩, k + 1) ⟨hrq21, by (try dsimp only); rw [← hq1]; exact (rng_one (by unfold inR; have e_ := h29_6; simp at e_; rw [e_, h41_16]; simp) hlt).symm, by (try dsimp only); first | omega | (simp; omega), by (try dsimp only); omega⟩ (by (try dsimp only); omega) (.cons rfl rfl (.cons rfl rfl (.cons rfl rfl (.cons rfl rfl (.cons rfl rfl (.cons rfl rfl (.cons rfl rfl .nil))))))) (subl (.cons _ (.cons_cons _ (.cons_cons _ .slnil))))
            · skip
              refine .g rfl rfl rfl ?_
              refine .v (.pkF rfl rfl) rfl ?_
              refine .v (.pkT rfl rfl) rfl ?_
              refine .nil ?_
              refine .then ?_
              refine .condF rfl ?_
              refine .skip ?_
              refine .blk ?_
              refine .then ?_
              refine .region ?_
              refine .v (.mv rfl) rfl ?_
              refine .v (.add rfl rfl (by omega)) rfl ?_
              refine .v (.asn rfl) rfl ?_
              refine .nil ?_
              exact .again (⟨x1.xs, x1.a, x1.c, x1.it⟩, k + 1) ⟨hr1, by (try dsimp only); rw [← hq1]; exact (rng_skip (by unfold inR; rw [h41_16, decide_eq_false (by have h_ := h33_7; omega)]; simp)).symm, by (try dsimp only); first | omega | (simp; omega), by (try dsimp only); omega⟩ (by (try dsimp only); omega) (.cons rfl rfl (.cons rfl rfl (.cons rfl rfl (.cons rfl rfl (.cons rfl rfl (.cons rfl rfl (.cons rfl rfl .nil))))))) (subl (.cons_cons _ (.cons_cons _ .slnil)))
        · skip
          refine .v (.mv rfl) rfl ?_
          refine .gs rfl rfl rfl rfl ?_
          refine .gs rfl rfl rfl rfl ?_
          refine .gs rfl rfl rfl rfl ?_
          refine .gs rfl rfl rfl rfl ?_
          refine .gu rfl rfl rfl rfl ?_
          refine .gu rfl rfl rfl rfl ?_
          refine .gu rfl rfl rfl rfl ?_
          refine .gu rfl rfl rfl rfl ?_
          refine .gu rfl rfl rfl rfl ?_
          refine .gu rfl rfl rfl rfl ?_
          refine .gu rfl rfl rfl rfl ?_
          refine .gs rfl rfl rfl rfl ?_
          refine .v (.pkF rfl rfl) rfl ?_
          refine .nil ?_
          refine .then ?_
          refine .condF rfl ?_
          refine .skip ?_
          refine .blk ?_
          refine .then ?_
          refine .region ?_
          refine .v (.mv rfl) rfl ?_
          refine .v (.add rfl rfl (by omega)) rfl ?_
          refine .v (.asn rfl) rfl ?_
          refine .nil ?_
          exact .again (⟨x1.xs, x1.a, x1.c, x1.it⟩, k + 1) ⟨hr1, by (try dsimp only); rw [← hq1]; exact (rng_skip (by unfold inR; have e_ := h29_6; simp at e_; simp [e_])).symm, by (try dsimp only); first | omega | (simp; omega), by (try dsimp only); omega⟩ (by (try dsimp only); omega) (.cons rfl rfl (.cons rfl rfl (.cons rfl rfl (.cons rfl rfl (.cons rfl rfl (.cons rfl rfl (.cons rfl rfl .nil))))))) (subl (.cons_cons _ (.cons_cons _ .slnil)))
      · skip
        refine .v (.pkT rfl rfl) rfl ?_
        refine .nil ?_
        refine .then ?_
        refine .condF rfl ?_
        refine .exit ?_
        refine .then_exit ?_
        refine .then_exit ?_
        refine .blk_exit ?_
        refine .then ?_
        refine .seq ?_
        refine .region ?_
        refine .v (.mv rfl) rfl ?_
        refine .v (.asn rfl) rfl ?_
        refine .nil ?_
        refine .then ?_
        refine .ret ?_
        rw [rng_full (by have h_ := h19_2; omega)] at hq1
        rw [← hq1]
        exact .done _ [_] (.t1 rfl rfl) .rfl ⟨_, rfl, rfl, _, _, rfl, hr1⟩ (keep (.cons_cons _ (.cons_cons _ .slnil)))
    · skip
      refine .v (.mv rfl) rfl ?_
      refine .gs rfl rfl rfl rfl ?_
      refine .gs rfl rfl rfl rfl ?_
      refine .gs rfl rfl rfl rfl ?_
      refine .gs rfl rfl rfl rfl ?_
      refine .v (.pkF rfl rfl) rfl ?_
      refine .nil ?_
      refine .then ?_
      refine .condF rfl ?_
      refine .exit ?_
      refine .then_exit ?_
      refine .then_exit ?_
      refine .blk_exit ?_
      refine .then ?_
      refine .seq ?_
      refine .region ?_
      refine .v (.mv rfl) rfl ?_
      refine .v (.asn rfl) rfl ?_
      refine .nil ?_
      refine .then ?_
      refine .ret ?_
      rw [show k = l.length by omega, List.drop_of_length_le (Nat.le_refl _), rng_nil] at hq1
      rw [← hq1]
      exact .done _ [_] (.t1 rfl rfl) .rfl ⟨_, rfl, rfl, _, _, rfl, hr1⟩ (keep (.cons_cons _ (.cons_cons _ .slnil)))
theorem same_fn (l : List Pr) (a a2 : Option Addr) (c c2 : Nat) (F : Mem) (hS : Sl F encP 2 a c l) (hS2 : Sl F encP 2 a2 c2 l) : Fn Try.prog 17 #[.slice a l.length c, .slice a2 l.length c2] [] F (fun u _ _ => u = .bool true) := by
  have hm := hS.len
  refine Fn.start0 Try.func17 rfl Try.ntmps17 rfl (env := [(0, _), (1, _)]) rfl ?_
  intro R
  refine .seq ?_
  refine .region ?_
  refine .v (.asn rfl) rfl ?_
  refine .nil ?_
  refine .then ?_
  refine .seq ?_
  refine .seq ?_
  refine .region ?_
  refine .v (.mv rfl) rfl ?_
  refine .v (.lenl Try.underlying22 rfl) rfl ?_
  refine .v (.mv rfl) rfl ?_
  refine .v (.lenl Try.underlying26 rfl) rfl ?_
  refine .vF (.ne rfl rfl) rfl (by omega) ?_
  refine .nil ?_
  refine .then ?_
  refine .condF rfl ?_
  refine .skip ?_
  refine .then ?_
  refine .seq ?_
  refine .seq ?_
  refine .region ?_
  refine .v (.mv rfl) rfl ?_
  refine .v (.lenl Try.underlying22 rfl) rfl ?_
  refine .v (.mv rfl) rfl ?_
  refine .nil ?_
  refine .then ?_
  refine .block ?_
  refine WC.loop0 (fx := [(0, _), (1, _), (12, _)]) (.cons rfl rfl (.cons rfl rfl (.cons rfl rfl .nil))) (ι := Nat) (fun k => k ≤ l.length) (fun k => l.length - k) (fun k => [(13, .int .i64 (k : Int))]) 0 (by omega) ?he ?round
  case he => exact .cons rfl rfl (.cons rfl rfl (.cons rfl rfl (.cons rfl rfl .nil)))
  case round =>
    intro k hk
    refine .seq ?_
    refine .region ?_
    refine .vs (.lt rfl rfl) rfl (fun h14_1 => ?_) (fun h14_1 => ?_)
    · skip
      refine .nil ?_
      refine .then ?_
      refine .seq ?_
      refine .condT rfl ?_
      refine .skip ?_
      refine .then ?_
      refine .seq ?_
      refine .block ?_
      refine .seq ?_
      refine .region ?_
      refine .v (.mv rfl) rfl ?_
      refine .v (.asn rfl) rfl ?_
      refine .nil ?_
      refine .then ?_
      refine .seq ?_
      refine .draw [[], [], [0, 1], [2], [3], [], [], [5, 6], [7], [8], [4, 9], [10], [11], [11], [12, 13, 11], [14, 11], [15, 11], [11], [11], [17, 18, 11], [19, 11], [20, 11], [16, 21, 11], [11, 22]] [] (by kernel_rfl) (by kernel_rfl) rfl (e1 := [(0, _), (1, _), (5, _), (12, _), (13, _)]) (.cons rfl rfl (.cons rfl rfl (.cons rfl rfl (.cons rfl rfl (.cons rfl rfl .nil))))) (fun x hx => by cases hx) rfl ?_
      obtain ⟨x, hx⟩ : ∃ y, l[k]? = some y := ⟨_, List.getElem?_eq_getElem (by omega)⟩
      refine .v (i := 0) [] rfl rfl rfl .nil (.n (.mv rfl)) ?_
      refine .v (i := 1) [] rfl rfl rfl .nil (.n (.mv rfl)) ?_
      refine .ix (i := 2) (j := (k : Int)) [(16, _), (17, _)] rfl rfl rfl (.cons (.tail _ (.head _)) rfl rfl (.cons (.head _) rfl rfl .nil)) hS x ⟨by omega, hx⟩ (fun b_ o_ hr_ ha_ hle_ => .n (.ixs sl22 rfl rfl ⟨by omega, hx⟩ ha_ hle_)) (fun p2 o3 r4 => ?_)
      refine .v (i := 3) [(18, _)] rfl rfl rfl (.cons (.head _) rfl rfl .nil) (.n (.fa0 fl47_0 rfl)) ?_
      refine .v (i := 4) [(19, _)] rfl rfl rfl (.cons (.head _) rfl rfl .nil) (.n (.ldr0 ty9 rfl r4 rfl)) ?_
      refine .v (i := 5) [] rfl rfl rfl .nil (.n (.mv rfl)) ?_
      refine .v (i := 6) [] rfl rfl rfl .nil (.n (.mv rfl)) ?_
      refine .ix (i := 7) (j := (k : Int)) [(21, _), (22, _)] rfl rfl rfl (.cons (.tail _ (.head _)) rfl rfl (.cons (.head _) rfl rfl .nil)) hS2 x ⟨by omega, hx⟩ (fun b_ o_ hr_ ha_ hle_ => .n (.ixs sl26 rfl rfl ⟨by omega, hx⟩ ha_ hle_)) (fun p5 o6 r7 => ?_)
      refine .v (i := 8) [(23, _)] rfl rfl rfl (.cons (.head _) rfl rfl .nil) (.n (.fa0 fl56_0 rfl)) ?_
      refine .v (i := 9) [(24, _)] rfl rfl rfl (.cons (.head _) rfl rfl .nil) (.n (.ldr0 ty9 rfl r7 rfl)) ?_
      refine .vF (i := 10) [(20, _), (25, _)] rfl rfl rfl (.cons (.tail _ (.tail _ (.tail _ (.tail _ (.tail _ (.head _)))))) rfl rfl (.cons (.head _) rfl rfl .nil)) (.n (.nes rfl rfl)) (by simp) ?_
      refine .v (i := 11) [(26, _)] rfl rfl rfl (.cons (.head _) rfl rfl .nil) (.n (.mv rfl)) ?_
      refine .v (i := 12) [(27, _)] rfl rfl rfl (.cons (.head _) rfl rfl .nil) (.g rfl rfl rfl (.mv rfl)) ?_
      refine .v (i := 13) [(27, _)] rfl rfl rfl (.cons (.tail _ (.head _)) rfl rfl .nil) (.g rfl rfl rfl (.mv rfl)) ?_
      refine .ix (i := 14) (j := (k : Int)) [(28, _), (29, _), (27, _)] rfl rfl rfl (.cons (.tail _ (.head _)) rfl rfl (.cons (.head _) rfl rfl (.cons (.tail _ (.tail _ (.head _))) rfl rfl .nil))) hS x ⟨by omega, hx⟩ (fun b_ o_ hr_ ha_ hle_ => .g rfl rfl rfl (.ixs sl22 rfl rfl ⟨by omega, hx⟩ ha_ hle_)) (fun p8 o9 r10 => ?_)
      refine .v (i := 15) [(30, _), (27, _)] rfl rfl rfl (.cons (.head _) rfl rfl (.cons (.tail _ (.tail _ (.tail _ (.head _)))) rfl rfl .nil)) (.g rfl rfl rfl (.fae fl47_1 rfl)) ?_
      refine .v (i := 16) [(31, _), (27, _)] rfl rfl rfl (.cons (.head _) rfl rfl (.cons (.tail _ (.tail _ (.tail _ (.tail _ (.head _))))) rfl rfl .nil)) (.g rfl rfl rfl (.ldr (j := 1) ty9 rfl r10 rfl)) ?_
      refine .v (i := 17) [(27, _)] rfl rfl rfl (.cons (.tail _ (.tail _ (.tail _ (.tail _ (.tail _ (.head _)))))) rfl rfl .nil) (.g rfl rfl rfl (.mv rfl)) ?_
      refine .v (i := 18) [(27, _)] rfl rfl rfl (.cons (.tail _ (.tail _ (.tail _ (.tail _ (.tail _ (.tail _ (.head _))))))) rfl rfl .nil) (.g rfl rfl rfl (.mv rfl)) ?_
      refine .ix (i := 19) (j := (k : Int)) [(33, _), (34, _), (27, _)] rfl rfl rfl (.cons (.tail _ (.head _)) rfl rfl (.cons (.head _) rfl rfl (.cons (.tail _ (.tail _ (.tail _ (.tail _ (.tail _ (.tail _ (.tail _ (.head _)))))))) rfl rfl .nil))) hS2 x ⟨by omega, hx⟩ (fun b_ o_ hr_ ha_ hle_ => .g rfl rfl rfl (.ixs sl26 rfl rfl ⟨by omega, hx⟩ ha_ hle_)) (fun p11 o12 r13 => ?_)
      refine .v (i := 20) [(35, _), (27, _)] rfl rfl rfl (.cons (.head _) rfl rfl (.cons (.tail _ (.tail _ (.tail _ (.tail _ (.tail _ (.tail _ (.tail _ (.tail _ (.head _))))))))) rfl rfl .nil)) (.g rfl rfl rfl (.fae fl56_1 rfl)) ?_
      refine .v (i := 21) [(36, _), (27, _)] rfl rfl rfl (.cons (.head _) rfl rfl (.cons (.tail _ (.tail _ (.tail _ (.tail _ (.tail _ (.tail _ (.tail _ (.tail _ (.tail _ (.head _)))))))))) rfl rfl .nil)) (.g rfl rfl rfl (.ldr (j := 1) ty9 rfl r13 rfl)) ?_
      refine .tail0 22 [[22, 16, 21, 11, 15, 20, 10, 14, 19, 4, 9, 12, 13, 17, 18, 3, 8, 2, 7, 0, 1, 5, 6], [23, 11, 22, 10, 16, 21, 4, 9, 15, 20, 3, 8, 14, 19, 2, 7, 12, 13, 17, 18, 0, 1, 5, 6]] rfl rfl rfl rfl (e' := [(37, _), (36, _), (35, _), (34, _), (33, _), (32, _), (31, _), (30, _), (29, _), (28, _), (27, _), (26, _), (25, _), (24, _), (23, _), (22, _), (21, _), (20, _), (19, _), (18, _), (17, _), (16, _), (0, _), (1, _), (5, _), (12, _), (13, _)]) rfl ?_
      refine .g rfl rfl rfl ?_
      refine .vF (.nes rfl rfl) rfl (by simp) ?_
      refine .v (.pkF rfl rfl) rfl ?_
      refine .nil ?_
      refine .then ?_
      refine .condF rfl ?_
      refine .skip ?_
      refine .blk ?_
      refine .then ?_
      refine .region ?_
      refine .v (.add rfl rfl (by omega)) rfl ?_
      refine .v (.mv rfl) rfl ?_
      refine .nil ?_
      exact .again (k + 1) (by omega) (by omega) (.cons rfl rfl (.cons rfl rfl (.cons rfl rfl (.cons rfl rfl .nil)))) (subl (.refl _))
    · skip
      refine .nil ?_
      refine .then ?_
      refine .seq ?_
      refine .condF rfl ?_
      refine .exit ?_
      refine .then_exit ?_
      refine .then_exit ?_
      refine .blk_exit ?_
      refine .then ?_
      refine .seq ?_
      refine .region ?_
      refine .v (.asn rfl) rfl ?_
      refine .nil ?_
      refine .then ?_
      refine .ret ?_
      exact .done _ [] (.t1 rfl rfl) .rfl rfl (Inn.keep .here)
end Go.Proofs.Ytbmpdccoffkjgaa.Ow
