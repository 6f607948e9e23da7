/- Walks. -/
import Derived.Test.YtbmpdccoffkjgaaBzb
import Derived.Test.YtbmpdccoffkjgaaTyu
namespace Go.Proofs.Ytbmpdccoffkjgaa.Ow
open Go
set_option linter.unusedVariables false
theorem built_inv {h lo n : Nat} {l : List Pr} {T : TS} {t : Tr} (hB : Built ⟨[], [], 0, n⟩ h lo l T t) (h1 : h ≠ 0 → 1 ≤ lo) (hs : Srt l) (hn : n = l.length) : TInv ⟨T.nodes, T.free, t.i, T.count⟩ h t := by
  refine ⟨hB.lay, hB.siz.mono (Nat.zero_le _), fun h0 => Nat.le_trans (h1 h0) hB.siz.ge, by rw [hB.flat]; exact hs, rfl, by rw [hB.flat, hB.cnt]; exact hn, ?_, fun x hx => ?_⟩
  · show (ids h t ++ T.free).Nodup
    rw [hB.free, List.append_nil]; exact hB.nd
  · have hx' : x ∈ ids h t ++ T.free := hx
    rw [hB.free, List.append_nil] at hx'
    exact (hB.rg x hx').2
theorem ld_high {h n : Nat} (h1 : 6 ^ (h + 1) ≤ n) (h2 : n ≤ 4400000000000) : h + 1 ≤ 17 := by
  rcases Nat.lt_or_ge 17 (h + 1) with h3 | h3
  · have : 6 ^ 18 ≤ 6 ^ (h + 1) := Nat.pow_le_pow_right (by decide) h3
    have : (6 : Nat) ^ 18 = 101559956668416 := by decide
    omega
  · exact h3
theorem load_fn (l : List Pr) (a : Option Addr) (c : Nat) (F : Mem) (hS : Sl F encP 2 a c l) (hlen : l.length ≤ 4400000000000) : Fn Try.prog 13 #[.slice a l.length c] [] F (fun v M G => G = F ∧ ((srt l = true ∧ ∃ it b, M = [it] ∧ v = .pointer (some ⟨b, 0, none⟩) ∧ Tre b l (l.length + 2) it) ∨ (srt l = false ∧ M = [] ∧ v = .pointer none))) := by
  refine Fn.start0 Try.func13 rfl Try.ntmps13 rfl (env := [(0, _)]) rfl ?_
  intro R
  refine .seq ?_
  refine .region ?_
  refine .v (.asn rfl) rfl ?_
  refine .nil ?_
  refine .then ?_
  refine .seq ?_
  refine .seq ?_
  refine .region ?_
  refine .v (.mv rfl) rfl ?_
  refine .v (.lenl Try.underlying22 rfl) rfl ?_
  refine .v (.mv rfl) rfl ?_
  refine .nil ?_
  refine .then ?_
  refine .block ?_
  refine WC.loop0 (fx := [(0, _), (7, _)]) (.cons rfl rfl (.cons rfl rfl .nil)) (ι := Nat) (fun k => k ≤ l.length ∧ ∀ i p q, i + 1 < k → l[i]? = some p → l[i + 1]? = some q → slt p.key q.key = true) (fun k => l.length - k) (fun k => [(8, .int .i64 (k : Int))]) 0 ⟨Nat.zero_le _, fun i p q h => by omega⟩ ?he ?round
  case he => exact .cons rfl rfl (.cons rfl rfl (.cons rfl rfl .nil))
  case round =>
    intro k hk
    obtain ⟨hk, hk2⟩ := hk
    refine .seq ?_
    refine .region ?_
    refine .vs (.lt rfl rfl) rfl (fun h9_1 => ?_) (fun h9_1 => ?_)
    · skip
      refine .nil ?_
      refine .then ?_
      refine .seq ?_
      refine .condT rfl ?_
      refine .skip ?_
      refine .then ?_
      refine .seq ?_
      refine .block ?_
      refine .seq ?_
      refine .region ?_
      refine .v (.mv rfl) rfl ?_
      refine .v (.asn rfl) rfl ?_
      refine .nil ?_
      refine .then ?_
      refine .seq ?_
      refine .draw [[], [0], [1], [2], [2], [4, 2], [3, 5, 2], [6, 2], [7, 2], [2], [2], [9, 10, 2], [11, 2], [12, 2], [8, 13, 2], [2, 14]] [] (by kernel_rfl) (by kernel_rfl) rfl (e1 := [(0, _), (3, _), (7, _), (8, _)]) (.cons rfl rfl (.cons rfl rfl (.cons rfl rfl (.cons rfl rfl .nil)))) (fun x hx => by cases hx) rfl ?_
      refine .v (i := 0) [] rfl rfl rfl .nil (.n (.mv rfl)) ?_
      refine .vs (i := 1) [(11, _)] rfl rfl rfl (.cons (.head _) rfl rfl .nil) (.n (.gt rfl rfl)) (fun h12_2 => ?_) (fun h12_2 => ?_)
      · skip
        obtain ⟨x2, hx2⟩ : ∃ y, l[k]? = some y := ⟨_, List.getElem?_eq_getElem (by omega)⟩
        obtain ⟨x1, hx1⟩ : ∃ y, l[k - 1]? = some y := ⟨_, List.getElem?_eq_getElem (by omega)⟩
        have hx1i : l[((k : Int) - 1).toNat]? = some x1 := by rw [show ((k : Int) - 1).toNat = k - 1 by omega]; exact hx1
        have hk1 : k - 1 + 1 = k := by omega
        refine .v (i := 2) [(12, _)] rfl rfl rfl (.cons (.head _) rfl rfl .nil) (.n (.mv rfl)) ?_
        refine .v (i := 3) [(13, _)] rfl rfl rfl (.cons (.head _) rfl rfl .nil) (.g rfl rfl rfl (.mv rfl)) ?_
        refine .v (i := 4) [(13, _)] rfl rfl rfl (.cons (.tail _ (.head _)) rfl rfl .nil) (.g rfl rfl rfl (.mv rfl)) ?_
        refine .v (i := 5) [(15, _), (13, _)] rfl rfl rfl (.cons (.head _) rfl rfl (.cons (.tail _ (.tail _ (.head _))) rfl rfl .nil)) (.g rfl rfl rfl (.sub rfl rfl (by omega))) ?_
        refine .ix (i := 6) (j := ((k : Int) - 1)) [(14, _), (16, _), (13, _)] rfl rfl rfl (.cons (.tail _ (.tail _ (.head _))) rfl rfl (.cons (.head _) rfl rfl (.cons (.tail _ (.tail _ (.tail _ (.head _)))) rfl rfl .nil))) hS x1 ⟨by omega, hx1i⟩ (fun b_ o_ hr_ ha_ hle_ => .g rfl rfl rfl (.ixs sl22 rfl rfl ⟨by omega, hx1i⟩ ha_ hle_)) (fun p3 o4 r5 => ?_)
        refine .v (i := 7) [(17, _), (13, _)] rfl rfl rfl (.cons (.head _) rfl rfl (.cons (.tail _ (.tail _ (.tail _ (.tail _ (.head _))))) rfl rfl .nil)) (.g rfl rfl rfl (.fa0 fl47_0 rfl)) ?_
        refine .v (i := 8) [(18, _), (13, _)] rfl rfl rfl (.cons (.head _) rfl rfl (.cons (.tail _ (.tail _ (.tail _ (.tail _ (.tail _ (.head _)))))) rfl rfl .nil)) (.g rfl rfl rfl (.ldr0 ty9 rfl r5 rfl)) ?_
        refine .v (i := 9) [(13, _)] rfl rfl rfl (.cons (.tail _ (.tail _ (.tail _ (.tail _ (.tail _ (.tail _ (.head _))))))) rfl rfl .nil) (.g rfl rfl rfl (.mv rfl)) ?_
        refine .v (i := 10) [(13, _)] rfl rfl rfl (.cons (.tail _ (.tail _ (.tail _ (.tail _ (.tail _ (.tail _ (.tail _ (.head _)))))))) rfl rfl .nil) (.g rfl rfl rfl (.mv rfl)) ?_
        refine .ix (i := 11) (j := (k : Int)) [(20, _), (21, _), (13, _)] rfl rfl rfl (.cons (.tail _ (.head _)) rfl rfl (.cons (.head _) rfl rfl (.cons (.tail _ (.tail _ (.tail _ (.tail _ (.tail _ (.tail _ (.tail _ (.tail _ (.head _))))))))) rfl rfl .nil))) hS x2 ⟨by omega, hx2⟩ (fun b_ o_ hr_ ha_ hle_ => .g rfl rfl rfl (.ixs sl22 rfl rfl ⟨by omega, hx2⟩ ha_ hle_)) (fun p6 o7 r8 => ?_)
        refine .v (i := 12) [(22, _), (13, _)] rfl rfl rfl (.cons (.head _) rfl rfl (.cons (.tail _ (.tail _ (.tail _ (.tail _ (.tail _ (.tail _ (.tail _ (.tail _ (.tail _ (.head _)))))))))) rfl rfl .nil)) (.g rfl rfl rfl (.fa0 fl47_0 rfl)) ?_
        refine .v (i := 13) [(23, _), (13, _)] rfl rfl rfl (.cons (.head _) rfl rfl (.cons (.tail _ (.tail _ (.tail _ (.tail _ (.tail _ (.tail _ (.tail _ (.tail _ (.tail _ (.tail _ (.head _))))))))))) rfl rfl .nil)) (.g rfl rfl rfl (.ldr0 ty9 rfl r8 rfl)) ?_
        refine .tail0 14 [[14, 8, 13, 2, 7, 12, 1, 6, 11, 0, 3, 5, 9, 10, 4], [15, 2, 14, 1, 8, 13, 0, 7, 12, 6, 11, 3, 5, 9, 10, 4]] rfl rfl rfl rfl (e' := [(24, _), (23, _), (22, _), (21, _), (20, _), (19, _), (18, _), (17, _), (16, _), (15, _), (14, _), (13, _), (12, _), (11, _), (0, _), (3, _), (7, _), (8, _)]) rfl ?_
        refine .g rfl rfl rfl ?_
        refine .vb (.ges rfl rfl) rfl (fun h25_9 => ?_) (fun h25_9 => ?_)
        · skip
          refine .v (.pkT rfl rfl) rfl ?_
          refine .nil ?_
          refine .then ?_
          refine .condT rfl ?_
          refine .seq ?_
          refine .region ?_
          refine .v (.asn rfl) rfl ?_
          refine .nil ?_
          refine .then ?_
          refine .ret ?_
          refine .blk_ret ?_
          refine .then_ret ?_
          refine .then_ret ?_
          refine .blk_ret ?_
          refine .then_ret ?_
          exact .done _ [] (.t1 rfl rfl) .rfl ⟨rfl, .inr ⟨rises_no hx1 (hk1 ▸ hx2) (by simpa using h25_9), rfl, rfl⟩⟩ (Inn.keep .here)
        · skip
          refine .v (.pkT rfl rfl) rfl ?_
          refine .nil ?_
          refine .then ?_
          refine .condF rfl ?_
          refine .skip ?_
          refine .blk ?_
          refine .then ?_
          refine .region ?_
          refine .v (.add rfl rfl (by omega)) rfl ?_
          refine .v (.mv rfl) rfl ?_
          refine .nil ?_
          exact .again (k + 1) ⟨by omega, fun i p q hi hp hq => (if e : i + 1 = k then by obtain rfl : i = k - 1 := (by omega); rw [hx1] at hp; rw [hk1, hx2] at hq; cases hp; cases hq; simpa using h25_9 else hk2 i p q (by omega) hp hq)⟩ (by omega) (.cons rfl rfl (.cons rfl rfl (.cons rfl rfl .nil))) (subl (.refl _))
      · skip
        refine .v (i := 2) [(12, _)] rfl rfl rfl (.cons (.head _) rfl rfl .nil) (.n (.mv rfl)) ?_
        refine .v (i := 3) [(13, _)] rfl rfl rfl (.cons (.head _) rfl rfl .nil) (.s rfl rfl rfl) ?_
        refine .v (i := 4) [(13, _)] rfl rfl rfl (.cons (.tail _ (.head _)) rfl rfl .nil) (.s rfl rfl rfl) ?_
        refine .v (i := 5) [(15, _), (13, _)] rfl rfl rfl (.cons (.head _) rfl rfl (.cons (.tail _ (.tail _ (.head _))) rfl rfl .nil)) (.s rfl rfl rfl) ?_
        refine .v (i := 6) [(14, _), (16, _), (13, _)] rfl rfl rfl (.cons (.tail _ (.tail _ (.head _))) rfl rfl (.cons (.head _) rfl rfl (.cons (.tail _ (.tail _ (.tail _ (.head _)))) rfl rfl .nil))) (.s rfl rfl rfl) ?_
        refine .v (i := 7) [(17, _), (13, _)] rfl rfl rfl (.cons (.head _) rfl rfl (.cons (.tail _ (.tail _ (.tail _ (.tail _ (.head _))))) rfl rfl .nil)) (.s rfl rfl rfl) ?_
        refine .v (i := 8) [(18, _), (13, _)] rfl rfl rfl (.cons (.head _) rfl rfl (.cons (.tail _ (.tail _ (.tail _ (.tail _ (.tail _ (.head _)))))) rfl rfl .nil)) (.s rfl rfl rfl) ?_
        refine .v (i := 9) [(13, _)] rfl rfl rfl (.cons (.tail _ (.tail _ (.tail _ (.tail _ (.tail _ (.tail _ (.head _))))))) rfl rfl .nil) (.s rfl rfl rfl) ?_
        refine .v (i := 10) [(13, _)] rfl rfl rfl (.cons (.tail _ (.tail _ (.tail _ (.tail _ (.tail _ (.tail _ (.tail _ (.head _)))))))) rfl rfl .nil) (.s rfl rfl rfl) ?_
        refine .v (i := 11) [(20, _), (21, _), (13, _)] rfl rfl rfl (.cons (.tail _ (.head _)) rfl rfl (.cons (.head _) rfl rfl (.cons (.tail _ (.tail _ (.tail _ (.tail _ (.tail _ (.tail _ (.tail _ (.tail _ (.head _))))))))) rfl rfl .nil))) (.s rfl rfl rfl) ?_
        refine .v (i := 12) [(22, _), (13, _)] rfl rfl rfl (.cons (.head _) rfl rfl (.cons (.tail _ (.tail _ (.tail _ (.tail _ (.tail _ (.tail _ (.tail _ (.tail _ (.tail _ (.head _)))))))))) rfl rfl .nil)) (.s rfl rfl rfl) ?_
        refine .v (i := 13) [(23, _), (13, _)] rfl rfl rfl (.cons (.head _) rfl rfl (.cons (.tail _ (.tail _ (.tail _ (.tail _ (.tail _ (.tail _ (.tail _ (.tail _ (.tail _ (.tail _ (.head _))))))))))) rfl rfl .nil)) (.s rfl rfl rfl) ?_
        refine .tail0 14 [[14, 8, 13, 2, 7, 12, 1, 6, 11, 0, 3, 5, 9, 10, 4], [15, 2, 14, 1, 8, 13, 0, 7, 12, 6, 11, 3, 5, 9, 10, 4]] rfl rfl rfl rfl (e' := [(24, _), (23, _), (22, _), (21, _), (20, _), (19, _), (18, _), (17, _), (16, _), (15, _), (14, _), (13, _), (12, _), (11, _), (0, _), (3, _), (7, _), (8, _)]) rfl ?_
        refine .gs rfl rfl rfl rfl ?_
        refine .v (.pkF rfl rfl) rfl ?_
        refine .nil ?_
        refine .then ?_
        refine .condF rfl ?_
        refine .skip ?_
        refine .blk ?_
        refine .then ?_
        refine .region ?_
        refine .v (.add rfl rfl (by omega)) rfl ?_
        refine .v (.mv rfl) rfl ?_
        refine .nil ?_
        exact .again (k + 1) ⟨by omega, fun i p q hi => by omega⟩ (by omega) (.cons rfl rfl (.cons rfl rfl (.cons rfl rfl .nil))) (subl (.refl _))
    · skip
      refine .nil ?_
      refine .then ?_
      refine .seq ?_
      refine .condF rfl ?_
      refine .exit ?_
      refine .then_exit ?_
      refine .then_exit ?_
      refine .blk_exit ?_
      refine .then ?_
      refine .seq ?_
      refine .region ?_
      refine .v (.mv rfl) rfl ?_
      refine .v (.lenl Try.underlying22 rfl) rfl ?_
      refine .v (.build rfl (fun w => bd60_3 w _)) rfl ?_
      obtain rfl : k = l.length := by have h_ := h9_1; omega
      have hsr : srt l = true := rises_yes (fun i p q hi hp hq => hk2 i p q hi hp hq)
      refine .nb (.box rfl rfl) rfl (fun b => ?_)
      have hL0 : Lies b ⟨[], [], 0, l.length⟩ [⟨b, 60, [.slice none 0 0, .slice none 0 0, .int .i64 0, .int .i64 (l.length : Int)]⟩] := ⟨[], none, 0, [], none, 0, [], ⟨Row.nil, Row.nil, fun n hn => (by cases hn), rfl, rfl⟩⟩
      refine .v (.asn rfl) rfl ?_
      refine .nil ?_
      refine .then ?_
      refine .seq ?_
      refine .region ?_
      refine .v (.asn rfl) rfl ?_
      refine .nil ?_
      refine .then ?_
      refine .seq ?_
      refine .block ?_
      refine WC.loop0 (fx := [(0, _), (4, _)]) (.cons rfl rfl (.cons rfl rfl .nil)) (ι := Nat) (fun h => h ≤ 17 ∧ (h = 0 ∨ 6 ^ h ≤ l.length)) (fun h => 18 - h) (fun h => [(5, .int .i64 (h : Int))]) 0 ⟨by omega, .inl rfl⟩ ?he ?round
      case he => exact .cons rfl rfl (.cons rfl rfl (.cons rfl rfl .nil))
      case round =>
        intro h hk
        obtain ⟨hh0, hh1⟩ := hk
        have h6p : 0 < 6 ^ (h + 1) := Nat.pow_pos (by decide)
        refine .seq ?_
        refine .seq ?_
        refine .region ?_
        refine .v (.mv rfl) rfl ?_
        refine .v (.call rfl rfl (Try.call27 _) (fun G hle hG => room_fn h (by omega) G)) rfl ?_
        refine .v (.mv rfl) rfl ?_
        refine .v (.lenl Try.underlying22 rfl) rfl ?_
        refine .vs (.lt rfl rfl) rfl (fun h36_10 => ?_) (fun h36_10 => ?_)
        · skip
          refine .nil ?_
          refine .then ?_
          refine .condT rfl ?_
          refine .skip ?_
          refine .then ?_
          refine .block ?_
          refine .region ?_
          refine .v (.mv rfl) rfl ?_
          refine .v (.add rfl rfl (by omega)) rfl ?_
          refine .v (.asn rfl) rfl ?_
          refine .nil ?_
          refine .blk ?_
          exact .again (h + 1) ⟨ld_high (h := h) (by have h_ := h36_10; omega) hlen, .inr (by have h_ := h36_10; omega)⟩ (by omega) (.cons rfl rfl (.cons rfl rfl (.cons rfl rfl .nil))) (subl (.refl _))
        · skip
          refine .nil ?_
          refine .then ?_
          refine .condF rfl ?_
          refine .exit ?_
          refine .then_exit ?_
          refine .then_exit ?_
          refine .blk_exit ?_
          refine .then ?_
          refine .seq ?_
          refine .region ?_
          refine .v (.mv rfl) rfl ?_
          refine .v (.mv rfl) rfl ?_
          refine .v (.mv rfl) rfl ?_
          refine .v (.mv rfl) rfl ?_
          obtain ⟨lo, hlo⟩ : ∃ lo, lo = if h = 0 then 0 else 1 := ⟨_, rfl⟩
          have hlo2 : lo ≤ 2 := by rw [hlo]; split <;> omega
          have hlo1 : h ≠ 0 → 1 ≤ lo := fun h0 => by rw [hlo, if_neg h0]; exact Nat.le_refl _
          have hmin : lo * 6 ^ h ≤ l.length := by rw [hlo]; split; omega; (rw [Nat.one_mul]; exact hh1.resolve_left (by assumption))
          have hmax : l.length ≤ 6 ^ (h + 1) - 1 := by have h_ := h36_10; omega
          refine .lend (.lend rfl rfl (Try.call28 _) _ (fun _ => .here) (fun G hle hG => (build_fn h b ⟨[], [], 0, l.length⟩ _ G hL0 rfl lo hlo2 hlo1 l a c (hS.mono hle) hmin hmax (by (try dsimp only [List.length_nil]); simp; omega) (by omega) _ rfl).mono (fun v M H _ ⟨it, h1, _, h2⟩ => ⟨it, h1, h2⟩))) rfl ?_
          rintro _ itq ⟨T, t, hL1, hBt, rfl⟩
          obtain ⟨pn, na, nc, nit, fa, fc, fit, hP⟩ := hL1
          obtain ⟨hrn, hrf, hok, hnd, rfl⟩ := hP
          refine .parts ?_
          refine .v (.nilc rfl) rfl ?_
          refine .v (.fab fl60_2 rfl) rfl ?_
          refine .st (.stb ty3 rfl rfl rfl st2 .here) ?_
          refine .nil ?_
          refine .then ?_
          refine .seq ?_
          refine .region ?_
          refine .v (.mv rfl) rfl ?_
          refine .v (.asn rfl) rfl ?_
          refine .nil ?_
          refine .then ?_
          refine .ret ?_
          refine .front (.there (.there (.there .here))) ?_
          refine .front (.there (.there (.there .here))) ?_
          refine .front (.there (.there (.there .here))) ?_
          refine .front (.there (.there (.there .here))) ?_
          have hLe : Lies b ⟨T.nodes, T.free, t.i, T.count⟩ ([⟨b, 60, [.slice na pn.length nc, .slice fa T.free.length fc, .int .i64 (t.i : Int), .int .i64 (T.count : Int)]⟩] ++ (nit ++ (fit ++ own pn))) := ⟨pn, na, nc, nit, fa, fc, fit, ⟨hrn, hrf, hok, hnd, rfl⟩⟩
          have hTe : Tre b l (l.length + 2) ([⟨b, 60, [.slice na pn.length nc, .slice fa T.free.length fc, .int .i64 (t.i : Int), .int .i64 (T.count : Int)]⟩] ++ (nit ++ (fit ++ own pn))) := ⟨_, h, t, hLe, built_inv hBt hlo1 (srt_iff.1 hsr) rfl, hBt.flat, by have h_ := hBt.num; simp at h_ ⊢; omega⟩
          exact .done _ [_] (.t1 rfl rfl) .rfl ⟨rfl, .inl ⟨hsr, _, b, rfl, rfl, hTe⟩⟩ (fun w ho => by simpa [List.append_assoc] using (subl (.cons_cons _ (.cons_cons _ (.cons_cons _ (.cons_cons _ (.cons_cons _ .slnil))))) w ho))
theorem load_no (l : List Pr) (a : Option Addr) (c : Nat) (F : Mem) (hS : Sl F encP 2 a c l) (hlen : l.length ≤ 4400000000000) (hs : srt l = false) : Fn Try.prog 13 #[.slice a l.length c] [] F (fun v _ _ => v = .pointer none) :=
  (load_fn l a c F hS hlen).mono fun v M G _ h => by
    rcases h.2 with ⟨h1, _⟩ | ⟨_, _, h3⟩
    · rw [hs] at h1; cases h1
    · exact h3
theorem load_yes (l : List Pr) (a : Option Addr) (c : Nat) (F : Mem) (hS : Sl F encP 2 a c l) (hlen : l.length ≤ 4400000000000) (hs : srt l = true) : Fn Try.prog 13 #[.slice a l.length c] [] F (fun v M G => ∃ it', M = [it'] ∧ (∃ b, v = .pointer (some ⟨b, 0, none⟩) ∧ Tre b l (l.length + 2) it')) :=
  (load_fn l a c F hS hlen).mono fun v M G _ h => by
    rcases h.2 with ⟨_, it, b, h1, h2, h3⟩ | ⟨h1, _⟩
    · exact ⟨it, h1, b, h2, h3⟩
    · rw [hs] at h1; cases h1
end Go.Proofs.Ytbmpdccoffkjgaa.Ow
