/- Walks. -/
import Derived.Test.YtbmpdccoffkjgaaBw
import Derived.Test.YtbmpdccoffkjgaaTyu
namespace Go.Proofs.Ytbmpdccoffkjgaa.Ow
open Go
set_option linter.unusedVariables false
def actS (l : List Pr) (x : Ac) : List Pr := if IntKind.u64.wrap x.kind % 7 = 4 ∨ IntKind.u64.wrap x.kind % 7 = 5 then delS l x.key else if IntKind.u64.wrap x.kind % 7 = 6 then l else putS l x.key x.val
theorem actS_len {l : List Pr} (hs : Srt l) (x : Ac) : (actS l x).length ≤ l.length + 1 := by
  unfold actS
  split
  · have := delS_len hs x.key; omega
  · split
    · omega
    · have := putS_len hs x.key x.val; split at this <;> omega
structure PlZ where
  k : Nat
  x : RowP Pr
  it : Itm
theorem act_fn (b : Nat) (l : List Pr) (n : Nat) (itA im : Itm) (F : Mem) (hTA : Tre b l n itA) (ma : Option Addr) (mc : Nat) (hm : Row 56 encP 2 ma mc l im) (x : Ac) (hl : l.length ≤ 800) (hn : n ≤ 90000000) : Fn Try.prog 19 #[.pointer (some ⟨b, 0, none⟩), .slice ma l.length mc, .agg (encA x).toArray] [itA ++ im] F (fun u M G => ∃ it', M = [it'] ∧ G = F ∧ ∃ i1 i2 a' c', it' = i1 ++ i2 ∧ u = .tuple #[.slice a' (actS l x).length c', .bool true] ∧ Tre b (actS l x) (n + 1000) i1 ∧ Row 56 encP 2 a' c' (actS l x) i2) := by
  refine Fn.start1 Try.func19 rfl Try.ntmps19 rfl (env := [(0, _), (1, _), (2, _)]) rfl ?_
  intro R
  refine .items (L' := [itA, im, R]) (fun w ho => by simpa [List.append_assoc] using ho) ?_
  refine .seq ?_
  refine .region ?_
  refine .nb (.box rfl rfl) rfl (fun b1 => ?_)
  refine .v (.asn rfl) rfl ?_
  refine .v (.asn rfl) rfl ?_
  refine .nil ?_
  refine .then ?_
  refine .seq ?_
  refine .seq ?_
  refine .region ?_
  refine .v (.fa0 fl37_0 rfl) rfl ?_
  refine .v (.ldb ty3 rfl .here rfl) rfl ?_
  refine .v (.cvt rfl Try.underlying3 Try.underlying40) rfl ?_
  refine .v (.remk rfl rfl ⟨wrapu_nn _, by decide⟩) rfl ?_
  refine .nil ?_
  refine .then ?_
  refine .block ?_
  refine .seq ?_
  refine .seq ?_
  refine .region ?_
  refine .vs (.eq rfl rfl) rfl (fun h17_2 => ?_) (fun h17_2 => ?_)
  · skip
    refine .v (.asn rfl) rfl ?_
    refine .nil ?_
    refine .then ?_
    refine .condT rfl ?_
    refine .skip ?_
    refine .then ?_
    refine .condT rfl ?_
    refine .seq ?_
    refine .region ?_
    refine .v (.mv rfl) rfl ?_
    refine .v (.fab fl37_2 rfl) rfl ?_
    refine .v (.ldb ty9 rfl .here rfl) rfl ?_
    refine .lend (.make rfl rfl (Try.call31 _) (fun G hle hG => (rdel_fn l _ _ G (hm.sl encP_ok (fun b_ hb_ => hG b_ (Inn.mem (.there (.there .here)) b_ hb_))) hTA.srt (by omega) _).mono (fun v M H _ ⟨it, h1, _, h2⟩ => ⟨it, h1, h2⟩))) rfl ?_
    rintro _ ir ⟨ar, cr, rfl, hrr⟩
    refine .v (.mv rfl) rfl ?_
    refine .v (.ext rfl rfl) rfl ?_
    refine .v (.ext rfl rfl) rfl ?_
    refine .v (.asn rfl) rfl ?_
    refine .v (.asn rfl) rfl ?_
    refine .nil ?_
    refine .then ?_
    refine .seq ?_
    refine .region ?_
    refine .v (.mv rfl) rfl ?_
    refine .v (.mv rfl) rfl ?_
    refine .v (.fab fl37_2 rfl) rfl ?_
    refine .v (.ldb ty9 rfl (.there .here) rfl) rfl ?_
    refine .lend (.lend rfl rfl (Try.call22 _) _ (fun _ => (.there (.there .here))) (fun G hle hG => (del_tre G hTA _ (by omega) (by omega)).mono (fun v M H _ h_ => h_))) rfl ?_
    rintro _ itA3 ⟨hTA3, rfl⟩
    refine .v (.mv rfl) rfl ?_
    refine .vT (.eqb Try.underlying4 rfl rfl) rfl rfl ?_
    refine .v (.asn rfl) rfl ?_
    refine .v (.asn rfl) rfl ?_
    refine .nil ?_
    refine .then ?_
    refine .ret ?_
    refine .blk_ret ?_
    refine .then_ret ?_
    have hv : actS l x = delS l x.key := by unfold actS; rw [if_pos (.inl h17_2)]
    rw [hv]
    refine .front (.there (.there .here)) ?_
    exact .done _ [itA3 ++ ir] (.t2 rfl rfl rfl) .rfl ⟨_, rfl, rfl, itA3, ir, _, _, rfl, rfl, hTA3.le (by omega), hrr⟩ (fun w ho => by simpa [List.append_assoc] using (subl (.cons_cons _ (.cons_cons _ (.cons _ (.cons _ (.cons_cons _ .slnil))))) w ho))
  · skip
    refine .v (.asn rfl) rfl ?_
    refine .nil ?_
    refine .then ?_
    refine .condF rfl ?_
    refine .region ?_
    refine .vs (.eq rfl rfl) rfl (fun h18_4 => ?_) (fun h18_4 => ?_)
    · skip
      refine .v (.asn rfl) rfl ?_
      refine .nil ?_
      refine .then ?_
      refine .condT rfl ?_
      refine .seq ?_
      refine .region ?_
      refine .v (.mv rfl) rfl ?_
      refine .v (.fab fl37_2 rfl) rfl ?_
      refine .v (.ldb ty9 rfl .here rfl) rfl ?_
      refine .lend (.make rfl rfl (Try.call31 _) (fun G hle hG => (rdel_fn l _ _ G (hm.sl encP_ok (fun b_ hb_ => hG b_ (Inn.mem (.there (.there .here)) b_ hb_))) hTA.srt (by omega) _).mono (fun v M H _ ⟨it, h1, _, h2⟩ => ⟨it, h1, h2⟩))) rfl ?_
      rintro _ ir ⟨ar, cr, rfl, hrr⟩
      refine .v (.mv rfl) rfl ?_
      refine .v (.ext rfl rfl) rfl ?_
      refine .v (.ext rfl rfl) rfl ?_
      refine .v (.asn rfl) rfl ?_
      refine .v (.asn rfl) rfl ?_
      refine .nil ?_
      refine .then ?_
      refine .seq ?_
      refine .region ?_
      refine .v (.mv rfl) rfl ?_
      refine .v (.mv rfl) rfl ?_
      refine .v (.fab fl37_2 rfl) rfl ?_
      refine .v (.ldb ty9 rfl (.there .here) rfl) rfl ?_
      refine .lend (.lend rfl rfl (Try.call22 _) _ (fun _ => (.there (.there .here))) (fun G hle hG => (del_tre G hTA _ (by omega) (by omega)).mono (fun v M H _ h_ => h_))) rfl ?_
      rintro _ itA5 ⟨hTA5, rfl⟩
      refine .v (.mv rfl) rfl ?_
      refine .vT (.eqb Try.underlying4 rfl rfl) rfl rfl ?_
      refine .v (.asn rfl) rfl ?_
      refine .v (.asn rfl) rfl ?_
      refine .nil ?_
      refine .then ?_
      refine .ret ?_
      refine .blk_ret ?_
      refine .then_ret ?_
      have hv : actS l x = delS l x.key := by unfold actS; rw [if_pos (.inr h18_4)]
      rw [hv]
      refine .front (.there (.there .here)) ?_
      exact .done _ [itA5 ++ ir] (.t2 rfl rfl rfl) .rfl ⟨_, rfl, rfl, itA5, ir, _, _, rfl, rfl, hTA5.le (by omega), hrr⟩ (fun w ho => by simpa [List.append_assoc] using (subl (.cons_cons _ (.cons_cons _ (.cons _ (.cons _ (.cons_cons _ .slnil))))) w ho))
    · skip
      refine .v (.asn rfl) rfl ?_
      refine .nil ?_
      refine .then ?_
      refine .condF rfl ?_
      refine .seq ?_
      refine .region ?_
      refine .vs (.eq rfl rfl) rfl (fun h34_6 => ?_) (fun h34_6 => ?_)
      · skip
        refine .v (.asn rfl) rfl ?_
        refine .nil ?_
        refine .then ?_
        refine .condT rfl ?_
        refine .seq ?_
        refine .draw [[], [], [], [2], [], [4], [], [6], [1, 3, 5, 7], [], [], [10], [], [12], [], [14], [9, 11, 13, 15, 8], [8, 16, 16], [0, 17, 0], [17, 18, 0, 1, 2, 3, 4, 5, 6, 7, 8, 9, 10, 11, 12, 13, 14, 15, 16, 17, 18]] [] (by kernel_rfl) (by kernel_rfl) rfl (e1 := [(0, _), (1, _), (5, _), (6, _), (7, _)]) (.cons rfl rfl (.cons rfl rfl (.cons rfl rfl (.cons rfl rfl (.cons rfl rfl .nil))))) (fun x hx => by cases hx) rfl ?_
        refine .v (i := 0) [] rfl rfl rfl .nil (.n (.mv rfl)) ?_
        refine .v (i := 1) [] rfl rfl rfl .nil (.n (.mv rfl)) ?_
        refine .v (i := 2) [] rfl rfl rfl .nil (.n (.fab fl37_2 rfl)) ?_
        refine .v (i := 3) [(37, _)] rfl rfl rfl (.cons (.head _) rfl rfl .nil) (.n (.ldb ty9 rfl .here rfl)) ?_
        refine .v (i := 4) [] rfl rfl rfl .nil (.n (.fab fl37_4 rfl)) ?_
        refine .v (i := 5) [(39, _)] rfl rfl rfl (.cons (.head _) rfl rfl .nil) (.n (.ldb ty9 rfl .here rfl)) ?_
        refine .v (i := 6) [] rfl rfl rfl .nil (.n (.fab fl37_1 rfl)) ?_
        refine .v (i := 7) [(41, _)] rfl rfl rfl (.cons (.head _) rfl rfl .nil) (.n (.ldb ty3 rfl .here rfl)) ?_
        refine .v (i := 9) [] rfl rfl rfl .nil (.n (.mv rfl)) ?_
        refine .v (i := 10) [] rfl rfl rfl .nil (.n (.fab fl37_2 rfl)) ?_
        refine .v (i := 11) [(45, _)] rfl rfl rfl (.cons (.head _) rfl rfl .nil) (.n (.ldb ty9 rfl .here rfl)) ?_
        refine .v (i := 12) [] rfl rfl rfl .nil (.n (.fab fl37_4 rfl)) ?_
        refine .v (i := 13) [(47, _)] rfl rfl rfl (.cons (.head _) rfl rfl .nil) (.n (.ldb ty9 rfl .here rfl)) ?_
        refine .v (i := 14) [] rfl rfl rfl .nil (.n (.fab fl37_1 rfl)) ?_
        refine .v (i := 15) [(49, _)] rfl rfl rfl (.cons (.head _) rfl rfl .nil) (.n (.ldb ty3 rfl .here rfl)) ?_
        refine .e (i := 8) [(36, _), (38, _), (40, _), (42, _)] [8, 1, 3, 5, 7, 2, 4, 6] rfl rfl rfl (.cons (.tail _ (.tail _ (.tail _ (.tail _ (.tail _ (.tail _ (.tail _ (.tail _ (.tail _ (.tail _ (.tail _ (.tail _ (.tail _ (.head _)))))))))))))) rfl rfl (.cons (.tail _ (.tail _ (.tail _ (.tail _ (.tail _ (.tail _ (.tail _ (.tail _ (.tail _ (.tail _ (.tail _ (.head _)))))))))))) rfl rfl (.cons (.tail _ (.tail _ (.tail _ (.tail _ (.tail _ (.tail _ (.tail _ (.tail _ (.tail _ (.head _)))))))))) rfl rfl (.cons (.tail _ (.tail _ (.tail _ (.tail _ (.tail _ (.tail _ (.tail _ (.head _)))))))) rfl rfl .nil)))) rfl rfl rfl .n (.rom rfl rfl (Try.call18 _) (sel1 (.there .here)) ((range_tre _ hTA _ _ _ (by omega)).mono (fun v M G _ h_ => h_))) ?_
        rintro _ _ Gs7 _ ⟨ig, rfl, hGs_, ⟨ag, cg, rfl, hrg⟩⟩
        subst Gs7
        refine ⟨.again [(49, _)] rfl (.cons (.tail _ (.head _)) rfl rfl .nil) (.n (.ldb ty3 rfl (.there .here) rfl)) (.again [] rfl .nil (.n (.fab fl37_1 rfl)) (.again [(47, _)] rfl (.cons (.tail _ (.tail _ (.tail _ (.head _)))) rfl rfl .nil) (.n (.ldb ty9 rfl (.there .here) rfl)) (.again [] rfl .nil (.n (.fab fl37_4 rfl)) (.again [(45, _)] rfl (.cons (.tail _ (.tail _ (.tail _ (.tail _ (.tail _ (.head _)))))) rfl rfl .nil) (.n (.ldb ty9 rfl (.there .here) rfl)) (.again [] rfl .nil (.n (.fab fl37_2 rfl)) (.again [] rfl .nil (.n (.mv rfl)) (.skip rfl (.skip rfl (.skip rfl (.skip rfl (.skip rfl (.skip rfl (.skip rfl (.again [] rfl .nil (.n (.mv rfl)) .nil)))))))))))))), rfl, ?_⟩
        refine .e (i := 16) [(44, _), (46, _), (48, _), (50, _)] [16, 9, 11, 13, 15, 8, 10, 12, 14, 1, 3, 5, 7, 2, 4, 6] rfl rfl rfl (.cons (.tail _ (.tail _ (.tail _ (.tail _ (.tail _ (.tail _ (.tail _ (.head _)))))))) rfl rfl (.cons (.tail _ (.tail _ (.tail _ (.tail _ (.tail _ (.head _)))))) rfl rfl (.cons (.tail _ (.tail _ (.tail _ (.head _)))) rfl rfl (.cons (.tail _ (.head _)) rfl rfl .nil)))) rfl rfl rfl .n (.make rfl rfl (Try.call32 _) (fun G hle hG => (rrange_fn l _ _ G (hm.sl encP_ok (fun b_ hb_ => hG b_ (Inn.mem (.there (.there (.there .here))) b_ hb_))) hTA.srt (by omega) _ _ _).mono (fun v M H _ ⟨it, h1, _, h2⟩ => ⟨it, h1, h2⟩))) ?_
        rintro _ _ Gs8 _ ⟨ir, rfl, hGs_, ⟨ar, cr, rfl, hrr⟩⟩
        subst Gs8
        refine ⟨.skip rfl (.skip rfl (.skip rfl (.skip rfl (.skip rfl (.skip rfl (.skip rfl (.skip rfl (.skip rfl (.skip rfl (.skip rfl (.skip rfl (.skip rfl (.skip rfl (.skip rfl (.again [] rfl .nil (.n (.mv rfl)) .nil))))))))))))))), rfl, ?_⟩
        refine .v (i := 17) [(43, _), (51, _)] rfl rfl rfl (.cons (.tail _ (.head _)) rfl rfl (.cons (.head _) rfl rfl .nil)) (.n (.call rfl rfl (Try.call17 _) (fun G hle hG => same_fn _ _ _ _ _ G (hrg.sl encP_ok (fun b_ hb_ => hG b_ (Inn.mem (.there .here) b_ hb_))) (hrr.sl encP_ok (fun b_ hb_ => hG b_ (Inn.mem .here b_ hb_)))))) ?_
        refine .tail0 18 [[18, 0, 17, 8, 16, 1, 3, 5, 7, 9, 11, 13, 15, 2, 4, 6, 10, 12, 14], [19, 17, 18, 0, 1, 2, 3, 4, 5, 6, 7, 8, 9, 10, 11, 12, 13, 14, 15, 16]] rfl rfl rfl rfl (e' := [(52, _), (51, _), (43, _), (50, _), (49, _), (48, _), (47, _), (46, _), (45, _), (44, _), (42, _), (41, _), (40, _), (39, _), (38, _), (37, _), (36, _), (35, _), (0, _), (1, _), (5, _), (6, _), (7, _)]) rfl ?_
        refine .v (.asn rfl) rfl ?_
        refine .v (.asn rfl) rfl ?_
        refine .nil ?_
        refine .then ?_
        refine .ret ?_
        refine .blk_ret ?_
        refine .then_ret ?_
        have hv : actS l x = l := by unfold actS; rw [if_neg (fun e_ => e_.elim h17_2 h18_4), if_pos h34_6]
        rw [hv]
        refine .front (.there (.there (.there (.there .here)))) ?_
        refine .front (.there (.there (.there (.there .here)))) ?_
        exact .done _ [itA ++ im] (.t2 rfl rfl rfl) .rfl ⟨_, rfl, rfl, itA, im, _, _, rfl, rfl, hTA.le (by omega), hm⟩ (fun w ho => by simpa [List.append_assoc] using (subl (.cons_cons _ (.cons_cons _ (.cons _ (.cons _ (.cons _ (.cons_cons _ .slnil)))))) w ho))
      · skip
        refine .v (.asn rfl) rfl ?_
        refine .nil ?_
        refine .then ?_
        refine .condF rfl ?_
        refine .skip ?_
        refine .blk ?_
        refine .then ?_
        refine .seq ?_
        refine .region ?_
        refine .v (.mv rfl) rfl ?_
        refine .v (.fab fl37_2 rfl) rfl ?_
        refine .v (.ldb ty9 rfl .here rfl) rfl ?_
        refine .v (.fab fl37_3 rfl) rfl ?_
        refine .v (.ldb ty9 rfl .here rfl) rfl ?_
        refine .lend (.make rfl rfl (Try.call33 _) (fun G hle hG => (rput_fn l _ _ G (hm.sl encP_ok (fun b_ hb_ => hG b_ (Inn.mem (.there (.there .here)) b_ hb_))) hTA.srt (by omega) _ _).mono (fun v M H _ ⟨it, h1, _, h2⟩ => ⟨it, h1, h2⟩))) rfl ?_
        rintro _ ir ⟨ar, cr, rfl, hrr⟩
        refine .v (.mv rfl) rfl ?_
        refine .v (.ext rfl rfl) rfl ?_
        refine .v (.ext rfl rfl) rfl ?_
        refine .v (.asn rfl) rfl ?_
        refine .v (.asn rfl) rfl ?_
        refine .nil ?_
        refine .then ?_
        refine .seq ?_
        refine .region ?_
        refine .v (.mv rfl) rfl ?_
        refine .v (.mv rfl) rfl ?_
        refine .v (.fab fl37_2 rfl) rfl ?_
        refine .v (.ldb ty9 rfl (.there .here) rfl) rfl ?_
        refine .v (.fab fl37_3 rfl) rfl ?_
        refine .v (.ldb ty9 rfl (.there .here) rfl) rfl ?_
        refine .lend (.lend rfl rfl (Try.call21 _) _ (fun _ => (.there (.there .here))) (fun G hle hG => (put_tre G hTA _ _ (by omega) (by omega)).mono (fun v M H _ h_ => h_))) rfl ?_
        rintro _ itA9 ⟨hTA9, rfl⟩
        refine .v (.mv rfl) rfl ?_
        refine .vT (.eqb Try.underlying4 rfl rfl) rfl rfl ?_
        refine .v (.asn rfl) rfl ?_
        refine .v (.asn rfl) rfl ?_
        refine .nil ?_
        refine .then ?_
        refine .ret ?_
        have hv : actS l x = putS l x.key x.val := by unfold actS; rw [if_neg (fun e_ => e_.elim h17_2 h18_4), if_neg h34_6]
        rw [hv]
        refine .front (.there (.there .here)) ?_
        exact .done _ [itA9 ++ ir] (.t2 rfl rfl rfl) .rfl ⟨_, rfl, rfl, itA9, ir, _, _, rfl, rfl, hTA9, hrr⟩ (fun w ho => by simpa [List.append_assoc] using (subl (.cons_cons _ (.cons_cons _ (.cons _ (.cons _ (.cons_cons _ .slnil))))) w ho))
end Go.Proofs.Ytbmpdccoffkjgaa.Ow
