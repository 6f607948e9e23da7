/- Walks. -/
import Derived.Test.YtbmpdccoffkjgaaBtp
import Derived.Test.YtbmpdccoffkjgaaTys
namespace Go.Proofs.Ytbmpdccoffkjgaa.Ow
open Go
set_option linter.unusedVariables false
theorem clone_P (xs : List Pr) (a : Option Addr) (c : Nat) (F : Mem) (hS : Sl F encP 2 a c xs) (hsz : xs.length * 32 ≤ 140737488355328) : Fn Try.prog 41 #[.slice a xs.length c] [] F (fun v M G => ∃ it, M = [it] ∧ G = F ∧ ∃ a' c', v = .slice a' xs.length c' ∧ Row 47 encP 2 a' c' xs it) := by
  refine Fn.start0 Try.func41 rfl Try.ntmps41 rfl (env := [(0, _)]) rfl ?_
  intro R
  refine .seq ?_
  refine .region ?_
  refine .v (.asn rfl) rfl ?_
  refine .nil ?_
  refine .then ?_
  refine .seq ?_
  refine .seq ?_
  refine .region ?_
  refine .v (.mv rfl) rfl ?_
  refine .vs (.eqsl Try.underlying22 rfl rfl) rfl (fun h4_1 => ?_) (fun h4_1 => ?_)
  · skip
    refine .nil ?_
    refine .then ?_
    refine .condT rfl ?_
    refine .seq ?_
    refine .region ?_
    refine .v (.asn rfl) rfl ?_
    refine .nil ?_
    refine .then ?_
    refine .ret ?_
    refine .then_ret ?_
    subst h4_1
    obtain rfl := hS.none
    refine .items (L' := [[], R]) (fun w ho => by simpa using ho) ?_
    exact .done _ [[]] (.t1 rfl rfl) .rfl ⟨[], rfl, rfl, none, 0, rfl, Row.nil⟩ (fun w ho => by simpa using ho)
  · skip
    refine .nil ?_
    refine .then ?_
    refine .condF rfl ?_
    refine .skip ?_
    refine .then ?_
    refine .seq ?_
    refine .region ?_
    refine .nb (.lit0 sl22) rfl (fun b2 => ?_)
    refine .v (.mv rfl) rfl ?_
    refine .ap (.apps (xs := ([] : List Pr)) sl22 ty47 rfl encP_ok (by decide) rfl rfl .lit0 (fun w R ho => ⟨F, _, ho, hS⟩) (by simpa using hsz) (by simpa using hS.len) _ (fun _ => .here)) rfl (fun a1 c1 it1 hr1 => ?_)
    refine .v (.asn rfl) rfl ?_
    refine .nil ?_
    refine .then ?_
    refine .ret ?_
    exact .done _ [it1] (.t1 rfl rfl) .rfl ⟨it1, rfl, rfl, a1, c1, rfl, by simpa using hr1⟩ (keep (.cons_cons _ (.cons_cons _ .slnil)))
theorem insert_P (xs : List Pr) (x : Pr) (i : Nat) (a : Option Addr) (c : Nat) (it : Itm) (b : Nat) (F : Mem) (hr : Row 47 encP 2 a c xs it) (hx0 : F b = some (.cells (encP x).toArray 47 (0, 0))) (hi : i ≤ xs.length) (hsz : (xs.length + 1) * 32 ≤ 140737488355328) : Fn Try.prog 38 #[.slice a xs.length c, .int .i64 i, .slice (some ⟨b, 0, none⟩) 1 1] [it] F (fun v M G => ∃ it', M = [it'] ∧ G = F ∧ ∃ a' c', v = .slice a' (xs.take i ++ x :: xs.drop i).length c' ∧ Row 47 encP 2 a' c' (xs.take i ++ x :: xs.drop i) it') := by
  have hx := Rd.of0 hx0
  have hm := hr.len
  have hmx := hr.max
  refine Fn.start1 Try.func38 rfl Try.ntmps38 rfl (env := [(0, _), (1, _), (2, _)]) rfl ?_
  intro R
  refine .seq ?_
  refine .region ?_
  refine .v (.asn rfl) rfl ?_
  refine .nil ?_
  refine .then ?_
  refine .seq ?_
  refine .region ?_
  refine .v (.mv rfl) rfl ?_
  refine .v (.mv rfl) rfl ?_
  refine .v (.slFrom sl22 rfl rfl ⟨by omega, by omega⟩) rfl ?_
  refine .nil ?_
  refine .then ?_
  refine .seq ?_
  refine .region ?_
  refine .v (.mv rfl) rfl ?_
  refine .v (.lenl Try.underlying22 rfl) rfl ?_
  refine .v (.asn rfl) rfl ?_
  refine .nil ?_
  refine .then ?_
  refine .seq ?_
  refine .seq ?_
  refine .region ?_
  refine .v (.mv rfl) rfl ?_
  refine .vF (.eq rfl rfl) rfl (by decide) ?_
  refine .nil ?_
  refine .then ?_
  refine .condF rfl ?_
  refine .skip ?_
  refine .then ?_
  refine .seq ?_
  refine .region ?_
  refine .v (.mv rfl) rfl ?_
  refine .v (.lenl Try.underlying22 rfl) rfl ?_
  refine .v (.asn rfl) rfl ?_
  refine .nil ?_
  refine .then ?_
  refine .seq ?_
  refine .seq ?_
  refine .region ?_
  refine .v (.mv rfl) rfl ?_
  refine .v (.mv rfl) rfl ?_
  refine .vs (.eq rfl rfl) rfl (fun h22_1 => ?_) (fun h22_1 => ?_)
  · skip
    refine .nil ?_
    refine .then ?_
    refine .condT rfl ?_
    refine .seq ?_
    refine .region ?_
    refine .v (.mv rfl) rfl ?_
    refine .v (.mv rfl) rfl ?_
    refine .ap (.apps (ys := [x]) sl22 ty47 rfl encP_ok (by decide) rfl rfl hr (fun w R ho => ⟨F, _, ho, .one hx⟩) hsz (by simp; omega) _ (fun _ => .here)) rfl (fun a1 c1 it1 hr1 => ?_)
    refine .v (.asn rfl) rfl ?_
    refine .nil ?_
    refine .then ?_
    refine .ret ?_
    refine .then_ret ?_
    obtain rfl : i = xs.length := by omega
    exact .done _ [it1] (.t1 rfl rfl) .rfl ⟨it1, rfl, rfl, a1, c1, by simp, by simpa using hr1⟩ (keep (.cons_cons _ (.cons_cons _ .slnil)))
  · skip
    have hlt : i < xs.length := by omega
    obtain ⟨b0, pad, rfl, rfl, hp⟩ := hr.blk (by omega)
    have hcap := hr.cap
    have hA := encP_ok.take xs pad i hi
    have hD := encP_ok.drop xs pad i hi
    have lA : ((xs.take i).flatMap encP).length = i * 2 := by rw [encP_ok.fl, List.length_take, Nat.min_eq_left hi]
    have lD : ((xs.drop i).flatMap encP).length = (xs.length - i) * 2 := by rw [encP_ok.fl, List.length_drop]
    have lX : (encP x).length = 2 := encP_ok.len x
    have lP : (xs.flatMap encP).length = xs.length * 2 := encP_ok.fl xs
    refine .nil ?_
    refine .then ?_
    refine .condF rfl ?_
    refine .skip ?_
    refine .then ?_
    refine .seq ?_
    refine .seq ?_
    refine .region ?_
    refine .v (.mv rfl) rfl ?_
    refine .v (.mv rfl) rfl ?_
    refine .v (.add rfl rfl (by omega)) rfl ?_
    refine .v (.mv rfl) rfl ?_
    refine .v (.capl Try.underlying22 rfl) rfl ?_
    refine .vs (.gt rfl rfl) rfl (fun h31_2 => ?_) (fun h31_2 => ?_)
    · skip
      refine .nil ?_
      refine .then ?_
      refine .condT rfl ?_
      refine .seq ?_
      refine .region ?_
      refine .v (.mv rfl) rfl ?_
      refine .v (.mv rfl) rfl ?_
      refine .v (.sto i sl22 rfl rfl ⟨by omega, by omega⟩) rfl ?_
      refine .v (.mv rfl) rfl ?_
      refine .v (.mv rfl) rfl ?_
      refine .v (.add rfl rfl (by omega)) rfl ?_
      refine .v (.mv rfl) rfl ?_
      refine .v (.sub rfl rfl (by omega)) rfl ?_
      refine .az (.apz (m := i) (k := xs.length + 1 - i) sl22 ty47 rfl Try.underlying3 rfl rfl .here (by rw [List.length_append, lP]; have := Nat.mul_le_mul_right 2 hi; omega) ⟨by omega, by omega⟩ (by omega) (by rw [show i + (xs.length + 1 - i) = xs.length + 1 by omega]; exact hsz) (by omega) (by decide) (by decide)) rfl (fun nb C zs hC1 hC2 hz => ?_)
      rw [hA]
      refine .kn (t := 40) (v := .slice (some ⟨nb, 0, none⟩) (xs.length + 1) C) rfl (by rw [show i + (xs.length + 1 - i) = xs.length + 1 by omega]) ?_
      refine .v (.asn rfl) rfl ?_
      refine .nil ?_
      refine .then ?_
      refine .seq ?_
      refine .region ?_
      refine .v (.mv rfl) rfl ?_
      refine .v (.mv rfl) rfl ?_
      refine .v (.sfo (i) sl22 rfl rfl ⟨by omega, by omega, by omega⟩) rfl ?_
      refine .v (.mv rfl) rfl ?_
      refine .cp (.cpy (vs := encP x) (cs' := (((xs.take i).flatMap encP) ++ zs).take (i * 2) ++ encP x ++ (((xs.take i).flatMap encP) ++ zs).drop (i * 2 + 2)) 1 sl22 rfl rfl (by show Nat.min 1 (xs.length + 1 - i) = 1; simp only [Nat.min_def]; split <;> omega) (by rw [lX]) (encP_ok.one x) (fun w R ho j v hj => ⟨_, rfl, by rw [add_at]; exact hx.cell ho hj⟩) (fun h => by cases h) (by rw [List.length_append, lA, hz]; have := Nat.mul_le_mul_right 2 (show 1 ≤ C - i by omega); omega) (by simp [Nat.zero_add]) .here) rfl ?_
      refine .nil ?_
      refine .then ?_
      refine .seq ?_
      refine .draw [[], [], [], [1, 2], [0, 3], [], [], [5, 6], [4, 7]] [] (by kernel_rfl) (by kernel_rfl) rfl (e1 := [(0, _), (1, _), (2, _), (6, _), (7, _), (8, _), (9, _)]) (.cons rfl rfl (.cons rfl rfl (.cons rfl rfl (.cons rfl rfl (.cons rfl rfl (.cons rfl rfl (.cons rfl rfl .nil))))))) (fun x hx => by cases hx) rfl ?_
      refine .v (i := 0) [] rfl rfl rfl .nil (.n (.mv rfl)) ?_
      refine .v (i := 1) [] rfl rfl rfl .nil (.n (.mv rfl)) ?_
      refine .v (i := 2) [] rfl rfl rfl .nil (.n (.mv rfl)) ?_
      refine .v (i := 3) [(47, _), (48, _)] rfl rfl rfl (.cons (.tail _ (.head _)) rfl rfl (.cons (.head _) rfl rfl .nil)) (.n (.add rfl rfl (by omega))) ?_
      refine .v (i := 4) [(46, _), (49, _)] rfl rfl rfl (.cons (.tail _ (.tail _ (.tail _ (.head _)))) rfl rfl (.cons (.head _) rfl rfl .nil)) (.n (.sfo (i + 1) sl22 rfl rfl ⟨by omega, by omega, by omega⟩)) ?_
      refine .v (i := 5) [] rfl rfl rfl .nil (.n (.mv rfl)) ?_
      refine .v (i := 6) [] rfl rfl rfl .nil (.n (.mv rfl)) ?_
      refine .v (i := 7) [(51, _), (52, _)] rfl rfl rfl (.cons (.tail _ (.head _)) rfl rfl (.cons (.head _) rfl rfl .nil)) (.n (.sfo (i) sl22 rfl rfl ⟨by omega, by omega, by omega⟩)) ?_
      refine .tail0 8 [[8, 4, 7, 0, 3, 5, 6, 1, 2]] rfl rfl rfl rfl (e' := [(53, _), (52, _), (51, _), (50, _), (49, _), (48, _), (47, _), (46, _), (0, _), (1, _), (2, _), (6, _), (7, _), (8, _), (9, _)]) rfl ?_
      refine .cp (.cpy (vs := ((xs.drop i).flatMap encP)) (cs' := ((xs.take i).flatMap encP) ++ encP x ++ ((xs.drop i).flatMap encP) ++ zs.drop (2 + (xs.length - i) * 2)) (xs.length - i) sl22 rfl rfl (by simp only [Nat.min_def]; split <;> omega) lD (encP_ok.fone _) (fun w R ho j v hj => ⟨_, rfl, by rw [add_at, ho.cell (Inn.one (.there .here) R), Nat.zero_add, ← List.getElem?_drop, hD]; rw [List.getElem?_append_left (List.getElem?_eq_some_iff.1 hj).1]; exact hj⟩) (fun h => by cases h) ?_ ?_ .here) rfl ?_
      · simp only [List.length_append, List.length_take, List.length_drop, lA, lX, hz]; have := Nat.mul_le_mul_right 2 (show xs.length + 1 ≤ C by omega); have := Nat.mul_le_mul_right 2 hi; simp only [Nat.sub_mul] at *; omega
      · rw [show 0 + (i + 1) * 2 = i * 2 + 2 by omega]; exact (ins_grow lA lX lD).symm
      refine .nil ?_
      refine .then ?_
      refine .seq ?_
      refine .region ?_
      refine .v (.mv rfl) rfl ?_
      refine .v (.asn rfl) rfl ?_
      refine .nil ?_
      refine .then ?_
      refine .ret ?_
      refine .then_ret ?_
      exact .done _ [_] (.t1 rfl rfl) .rfl ⟨_, rfl, rfl, _, _, by simp; omega, Row.of (zs.drop (2 + (xs.length - i) * 2)) (by simp [List.flatMap_append, List.flatMap_cons, List.append_assoc]) (by simp only [List.length_drop, List.length_append, List.length_cons, List.length_take, hz]; simp only [Nat.sub_mul, Nat.add_mul, Nat.min_eq_left hi]; omega) (by simp; omega) hC2⟩ (keep (.cons_cons _ (.cons _ (.cons_cons _ .slnil))))
    · skip
      refine .nil ?_
      refine .then ?_
      refine .condF rfl ?_
      refine .skip ?_
      refine .then ?_
      refine .seq ?_
      refine .region ?_
      refine .v (.mv rfl) rfl ?_
      refine .v (.mv rfl) rfl ?_
      refine .v (.mv rfl) rfl ?_
      refine .v (.add rfl rfl (by omega)) rfl ?_
      refine .v (.sto (xs.length + 1) sl22 rfl rfl ⟨by omega, by omega⟩) rfl ?_
      refine .v (.asn rfl) rfl ?_
      refine .nil ?_
      refine .then ?_
      refine .seq ?_
      refine .seq ?_
      refine .region ?_
      refine .v (.mv rfl) rfl ?_
      refine .v (.mv rfl) rfl ?_
      refine .v (.mv rfl) rfl ?_
      refine .v (.mv rfl) rfl ?_
      refine .v (.add rfl rfl (by omega)) rfl ?_
      refine .v (.sfo (i + 1) sl22 rfl rfl ⟨by omega, by omega, by omega⟩) rfl ?_
      refine .v (.own rfl rfl (fun w R ho => run_overlaps (tR := 4) Try.func47 (by kernel_rfl) (by kernel_rfl) (by kernel_rfl) (by kernel_rfl) sl22 ho hx0 (Inn.one .here R) (by rw [List.length_append, lP]; have := Nat.mul_le_mul_right 2 hlt; omega))) rfl ?_
      refine .v (.not rfl) rfl ?_
      refine .nil ?_
      refine .then ?_
      refine .condT rfl ?_
      refine .seq ?_
      refine .draw [[], [], [], [1, 2], [0, 3], [], [], [5, 6], [4, 7]] [] (by kernel_rfl) (by kernel_rfl) rfl (e1 := [(0, _), (1, _), (2, _), (6, _), (7, _), (8, _)]) (.cons rfl rfl (.cons rfl rfl (.cons rfl rfl (.cons rfl rfl (.cons rfl rfl (.cons rfl rfl .nil)))))) (fun x hx => by cases hx) rfl ?_
      refine .v (i := 0) [] rfl rfl rfl .nil (.n (.mv rfl)) ?_
      refine .v (i := 1) [] rfl rfl rfl .nil (.n (.mv rfl)) ?_
      refine .v (i := 2) [] rfl rfl rfl .nil (.n (.mv rfl)) ?_
      refine .v (i := 3) [(70, _), (71, _)] rfl rfl rfl (.cons (.tail _ (.head _)) rfl rfl (.cons (.head _) rfl rfl .nil)) (.n (.add rfl rfl (by omega))) ?_
      refine .v (i := 4) [(69, _), (72, _)] rfl rfl rfl (.cons (.tail _ (.tail _ (.tail _ (.head _)))) rfl rfl (.cons (.head _) rfl rfl .nil)) (.n (.sfo (i + 1) sl22 rfl rfl ⟨by omega, by omega, by omega⟩)) ?_
      refine .v (i := 5) [] rfl rfl rfl .nil (.n (.mv rfl)) ?_
      refine .v (i := 6) [] rfl rfl rfl .nil (.n (.mv rfl)) ?_
      refine .v (i := 7) [(74, _), (75, _)] rfl rfl rfl (.cons (.tail _ (.head _)) rfl rfl (.cons (.head _) rfl rfl .nil)) (.n (.sfo (i) sl22 rfl rfl ⟨by omega, by omega, by omega⟩)) ?_
      refine .tail0 8 [[8, 4, 7, 0, 3, 5, 6, 1, 2]] rfl rfl rfl rfl (e' := [(76, _), (75, _), (74, _), (73, _), (72, _), (71, _), (70, _), (69, _), (0, _), (1, _), (2, _), (6, _), (7, _), (8, _)]) rfl ?_
      refine .cp (.cpy (vs := ((xs.drop i).flatMap encP)) (cs' := (xs.flatMap encP ++ pad).take (i * 2 + 2) ++ ((xs.drop i).flatMap encP) ++ (xs.flatMap encP ++ pad).drop (i * 2 + 2 + (xs.length - i) * 2)) (xs.length - i) sl22 rfl rfl (by simp only [Nat.min_def]; split <;> omega) lD (encP_ok.fone _) (fun w R ho j v hj => ⟨_, rfl, by rw [add_at, ho.cell (Inn.one .here R), Nat.zero_add, ← List.getElem?_drop, hD]; rw [List.getElem?_append_left (List.getElem?_eq_some_iff.1 hj).1]; exact hj⟩) (fun h => by cases h) (by rw [List.length_append, lP, hp]; have := Nat.mul_le_mul_right 2 (show xs.length + 1 ≤ c by omega); simp only [Nat.sub_mul] at *; omega) (by rw [show 0 + (i + 1) * 2 = i * 2 + 2 by omega]) .here) rfl ?_
      refine .nil ?_
      refine .then ?_
      refine .seq ?_
      refine .region ?_
      refine .v (.mv rfl) rfl ?_
      refine .v (.mv rfl) rfl ?_
      refine .v (.sfo (i) sl22 rfl rfl ⟨by omega, by omega, by omega⟩) rfl ?_
      refine .v (.mv rfl) rfl ?_
      refine .cp (.cpy (vs := encP x) (cs' := ((xs.take i).flatMap encP) ++ encP x ++ ((xs.drop i).flatMap encP) ++ pad.drop 2) 1 sl22 rfl rfl (by show Nat.min 1 (xs.length + 1 - i) = 1; simp only [Nat.min_def]; split <;> omega) (by rw [lX]) (encP_ok.one x) (fun w R ho j v hj => ⟨_, rfl, by rw [add_at]; exact hx.cell ho hj⟩) (fun h => by cases h) ?_ ?_ .here) rfl ?_
      · simp only [List.length_append, List.length_take, List.length_drop, lP, hp, lD]; have := Nat.mul_le_mul_right 2 (show xs.length + 1 ≤ c by omega); have := Nat.mul_le_mul_right 2 hi; simp only [Nat.sub_mul] at *; omega
      · rw [show 0 + i * 2 + 1 * 2 = i * 2 + 2 by omega, Nat.zero_add, show xs.flatMap encP ++ pad = ((xs.take i).flatMap encP) ++ ((xs.drop i).flatMap encP) ++ pad by rw [← List.flatMap_append, List.take_append_drop]]; exact (ins_room lA lX lD (by rw [hp]; have := Nat.mul_le_mul_right 2 (show 1 ≤ c - xs.length by omega); omega)).symm
      refine .nil ?_
      refine .then ?_
      refine .seq ?_
      refine .region ?_
      refine .v (.mv rfl) rfl ?_
      refine .v (.asn rfl) rfl ?_
      refine .nil ?_
      refine .then ?_
      refine .ret ?_
      refine .then_ret ?_
      exact .done _ [_] (.t1 rfl rfl) .rfl ⟨_, rfl, rfl, _, _, by simp; omega, Row.of (pad.drop 2) (by simp [List.flatMap_append, List.flatMap_cons, List.append_assoc]) (by simp only [List.length_drop, List.length_append, List.length_cons, List.length_take, hp]; simp only [Nat.sub_mul, Nat.add_mul, Nat.min_eq_left hi]; omega) (by simp; omega) hr.max⟩ (keep (.cons_cons _ (.cons_cons _ .slnil)))
theorem delete_P (xs : List Pr) (i : Nat) (a : Option Addr) (c : Nat) (it : Itm) (F : Mem) (hr : Row 47 encP 2 a c xs it) (hi : i < xs.length) : Fn Try.prog 49 #[.slice a xs.length c, .int .i64 i, .int .i64 ((i : Int) + 1)] [it] F (fun v M G => ∃ it', M = [it'] ∧ G = F ∧ ∃ a' c', v = .slice a' (xs.take i ++ xs.drop (i + 1)).length c' ∧ Row 47 encP 2 a' c' (xs.take i ++ xs.drop (i + 1)) it') := by
  have hm := hr.len
  have hmx := hr.max
  obtain ⟨b0, pad, rfl, rfl, hp⟩ := hr.blk (by omega)
  have hcap := hr.cap
  have hA := encP_ok.take xs pad i (by omega)
  have lA : ((xs.take i).flatMap encP).length = i * 2 := by rw [encP_ok.fl, List.length_take, Nat.min_eq_left (by omega)]
  have lV : ((xs.drop (i + 1)).flatMap encP).length = (xs.length - (i + 1)) * 2 := by rw [encP_ok.fl, List.length_drop]
  have lP : (xs.flatMap encP).length = xs.length * 2 := encP_ok.fl xs
  refine Fn.start1 Try.func49 rfl Try.ntmps49 rfl (env := [(0, _), (1, _), (2, _)]) rfl ?_
  intro R
  refine .seq ?_
  refine .region ?_
  refine .v (.asn rfl) rfl ?_
  refine .nil ?_
  refine .then ?_
  refine .seq ?_
  refine .region ?_
  refine .v (.mv rfl) rfl ?_
  refine .v (.mv rfl) rfl ?_
  refine .v (.mv rfl) rfl ?_
  refine .v (.mv rfl) rfl ?_
  refine .v (.lenl Try.underlying22 rfl) rfl ?_
  refine .v (.slIn3 sl22 rfl rfl rfl rfl ⟨by omega, by omega, by omega, by omega⟩) rfl ?_
  refine .nil ?_
  refine .then ?_
  refine .seq ?_
  refine .seq ?_
  refine .region ?_
  refine .v (.mv rfl) rfl ?_
  refine .v (.mv rfl) rfl ?_
  refine .vF (.eq rfl rfl) rfl (by omega) ?_
  refine .nil ?_
  refine .then ?_
  refine .condF rfl ?_
  refine .skip ?_
  refine .then ?_
  refine .seq ?_
  refine .region ?_
  refine .v (.mv rfl) rfl ?_
  refine .v (.lenl Try.underlying22 rfl) rfl ?_
  refine .v (.asn rfl) rfl ?_
  refine .nil ?_
  refine .then ?_
  refine .seq ?_
  refine .draw [[], [], [0, 1], [], [], [3, 4], [2, 5], [6, 6, 0, 1, 2, 3, 4, 5, 6]] [] (by kernel_rfl) (by kernel_rfl) rfl (e1 := [(0, _), (1, _), (2, _), (6, _), (7, _)]) (.cons rfl rfl (.cons rfl rfl (.cons rfl rfl (.cons rfl rfl (.cons rfl rfl .nil))))) (fun x hx => by cases hx) rfl ?_
  refine .v (i := 0) [] rfl rfl rfl .nil (.n (.mv rfl)) ?_
  refine .v (i := 1) [] rfl rfl rfl .nil (.n (.mv rfl)) ?_
  refine .v (i := 2) [(20, _), (21, _)] rfl rfl rfl (.cons (.tail _ (.head _)) rfl rfl (.cons (.head _) rfl rfl .nil)) (.n (.sto i sl22 rfl rfl ⟨by omega, by omega⟩)) ?_
  refine .v (i := 3) [] rfl rfl rfl .nil (.n (.mv rfl)) ?_
  refine .v (i := 4) [] rfl rfl rfl .nil (.n (.mv rfl)) ?_
  refine .v (i := 5) [(23, _), (24, _)] rfl rfl rfl (.cons (.tail _ (.head _)) rfl rfl (.cons (.head _) rfl rfl .nil)) (.n (.sfd (i + 1) sl22 rfl rfl ⟨by omega, by omega⟩)) ?_
  refine .tail0 6 [[6, 2, 5, 0, 1, 3, 4], [7, 6, 0, 1, 2, 3, 4, 5]] rfl rfl rfl rfl (e' := [(25, _), (24, _), (23, _), (22, _), (21, _), (20, _), (0, _), (1, _), (2, _), (6, _), (7, _)]) rfl ?_
  have hcA := Nat.mul_le_mul_right 2 hcap
  refine .cp (.apc (vs := ((xs.drop (i + 1)).flatMap encP)) (cs' := (((xs.take i).flatMap encP) ++ ((xs.drop (i + 1)).flatMap encP) ++ (xs.flatMap encP ++ pad).drop (i * 2 + (xs.length - (i + 1)) * 2))) (xs.length - (i + 1)) sl22 rfl rfl ⟨rfl, by omega⟩ lV (encP_ok.fone _) ?_ ?_ ?_ (by rw [hA]) .here) rfl ?_
  · intro w R ho j v hj
    have hjl := (List.getElem?_eq_some_iff.1 hj).1
    have hne : ¬ (c = i + 1) := fun e => by rw [lV, show xs.length - (i + 1) = 0 by omega] at hjl; omega
    refine ⟨⟨b0, (i + 1) * 2, none⟩, ?_, ?_⟩
    · simp [hne, add_at]
    · rw [add_at, ho.cell (Inn.one .here R), ← List.getElem?_drop, encP_ok.drop xs pad (i + 1) (by omega), List.getElem?_append_left hjl]; exact hj
  · intro h; by_cases e : c = i + 1 <;> simp [e] at h
  · rw [List.length_append, lP, hp]; have := Nat.mul_le_mul_right 2 (show i + 1 ≤ xs.length by omega); simp only [Nat.sub_mul] at *; omega
  refine .v (.asn rfl) rfl ?_
  refine .nil ?_
  refine .then ?_
  refine .seq ?_
  refine .region ?_
  refine .v (.mv rfl) rfl ?_
  refine .v (.mv rfl) rfl ?_
  refine .v (.lenl Try.underlying22 rfl) rfl ?_
  refine .v (.mv rfl) rfl ?_
  refine .v (.sio (i + (xs.length - (i + 1))) xs.length sl22 rfl rfl rfl ⟨by omega, by omega, by omega, by omega, by omega⟩) rfl ?_
  obtain ⟨zz, hzz⟩ : ∃ zz, zz = (Builtin.zeroCells ((.agg #[(.string ⟨#[]⟩), (.string ⟨#[]⟩)] : Value)).cells (xs.length - (i + (xs.length - (i + 1))))).toList := ⟨_, rfl⟩
  have lZ : zz.length = 2 := by rw [hzz, zeroCells_length, show xs.length - (i + (xs.length - (i + 1))) = 1 by omega]; rfl
  refine .cp0 (.clr (cs' := ((xs.take i).flatMap encP) ++ ((xs.drop (i + 1)).flatMap encP) ++ (zz ++ pad)) sl22 ty47 rfl rfl rfl rfl (by omega) ?_ zz hzz ?_ .here) ?_
  · simp only [List.length_append, List.length_drop, lA, lV, lP, hp]; have := Nat.mul_le_mul_right 2 hcap; have := Nat.mul_le_mul_right 2 (show i + 1 ≤ xs.length by omega); rw [show xs.length - (i + (xs.length - (i + 1))) = 1 by omega]; simp only [Nat.sub_mul, Nat.add_mul] at *; omega
  · exact (del_cells lA lV lP (by have := Nat.mul_le_mul_right 2 (show i + 1 ≤ xs.length by omega); simp only [Nat.sub_mul, Nat.add_mul] at *; omega) (by simp only [Nat.sub_mul, Nat.add_mul, Nat.zero_add]) (by rw [show xs.length - (i + (xs.length - (i + 1))) = 1 by omega]; have := Nat.mul_le_mul_right 2 (show i + 1 ≤ xs.length by omega); simp only [Nat.sub_mul, Nat.add_mul, Nat.zero_add] at *; omega)).symm
  refine .nil ?_
  refine .then ?_
  refine .seq ?_
  refine .region ?_
  refine .v (.mv rfl) rfl ?_
  refine .v (.asn rfl) rfl ?_
  refine .nil ?_
  refine .then ?_
  refine .ret ?_
  exact .done _ [_] (.t1 rfl rfl) .rfl ⟨_, rfl, rfl, _, _, by simp; omega, Row.of (zz ++ pad) (by simp [List.flatMap_append, List.append_assoc]) (by simp only [List.length_append, List.length_drop, List.length_take, lZ, hp]; rw [Nat.min_eq_left (by omega)]; have := Nat.mul_le_mul_right 2 hcap; have := Nat.mul_le_mul_right 2 (show i + 1 ≤ xs.length by omega); simp only [Nat.sub_mul, Nat.add_mul] at *; omega) (by simp; omega) hr.max⟩ (keep (.cons_cons _ (.cons_cons _ .slnil)))
theorem clone_K (xs : List Nat) (a : Option Addr) (c : Nat) (F : Mem) (hS : Sl F encK 1 a c xs) (hsz : xs.length * 8 ≤ 140737488355328) : Fn Try.prog 42 #[.slice a xs.length c] [] F (fun v M G => ∃ it, M = [it] ∧ G = F ∧ ∃ a' c', v = .slice a' xs.length c' ∧ Row 3 encK 1 a' c' xs it) := by
  refine Fn.start0 Try.func42 rfl Try.ntmps42 rfl (env := [(0, _)]) rfl ?_
  intro R
  refine .seq ?_
  refine .region ?_
  refine .v (.asn rfl) rfl ?_
  refine .nil ?_
  refine .then ?_
  refine .seq ?_
  refine .seq ?_
  refine .region ?_
  refine .v (.mv rfl) rfl ?_
  refine .vs (.eqsl Try.underlying58 rfl rfl) rfl (fun h4_1 => ?_) (fun h4_1 => ?_)
  · skip
    refine .nil ?_
    refine .then ?_
    refine .condT rfl ?_
    refine .seq ?_
    refine .region ?_
    refine .v (.asn rfl) rfl ?_
    refine .nil ?_
    refine .then ?_
    refine .ret ?_
    refine .then_ret ?_
    subst h4_1
    obtain rfl := hS.none
    refine .items (L' := [[], R]) (fun w ho => by simpa using ho) ?_
    exact .done _ [[]] (.t1 rfl rfl) .rfl ⟨[], rfl, rfl, none, 0, rfl, Row.nil⟩ (fun w ho => by simpa using ho)
  · skip
    refine .nil ?_
    refine .then ?_
    refine .condF rfl ?_
    refine .skip ?_
    refine .then ?_
    refine .seq ?_
    refine .region ?_
    refine .nb (.lit0 sl58) rfl (fun b2 => ?_)
    refine .v (.mv rfl) rfl ?_
    refine .ap (.apps (xs := ([] : List Nat)) sl58 ty3 rfl encK_ok (by decide) rfl rfl .lit0 (fun w R ho => ⟨F, _, ho, hS⟩) (by simpa using hsz) (by simpa using hS.len) _ (fun _ => .here)) rfl (fun a1 c1 it1 hr1 => ?_)
    refine .v (.asn rfl) rfl ?_
    refine .nil ?_
    refine .then ?_
    refine .ret ?_
    exact .done _ [it1] (.t1 rfl rfl) .rfl ⟨it1, rfl, rfl, a1, c1, rfl, by simpa using hr1⟩ (keep (.cons_cons _ (.cons_cons _ .slnil)))
theorem insert_K (xs : List Nat) (x : Nat) (i : Nat) (a : Option Addr) (c : Nat) (it : Itm) (b : Nat) (F : Mem) (hr : Row 3 encK 1 a c xs it) (hx0 : F b = some (.cells (encK x).toArray 3 (0, 0))) (hi : i ≤ xs.length) (hsz : (xs.length + 1) * 8 ≤ 140737488355328) : Fn Try.prog 43 #[.slice a xs.length c, .int .i64 i, .slice (some ⟨b, 0, none⟩) 1 1] [it] F (fun v M G => ∃ it', M = [it'] ∧ G = F ∧ ∃ a' c', v = .slice a' (xs.take i ++ x :: xs.drop i).length c' ∧ Row 3 encK 1 a' c' (xs.take i ++ x :: xs.drop i) it') := by
  have hx := Rd.of0 hx0
  have hm := hr.len
  have hmx := hr.max
  refine Fn.start1 Try.func43 rfl Try.ntmps43 rfl (env := [(0, _), (1, _), (2, _)]) rfl ?_
  intro R
  refine .seq ?_
  refine .region ?_
  refine .v (.asn rfl) rfl ?_
  refine .nil ?_
  refine .then ?_
  refine .seq ?_
  refine .region ?_
  refine .v (.mv rfl) rfl ?_
  refine .v (.mv rfl) rfl ?_
  refine .v (.slFrom sl58 rfl rfl ⟨by omega, by omega⟩) rfl ?_
  refine .nil ?_
  refine .then ?_
  refine .seq ?_
  refine .region ?_
  refine .v (.mv rfl) rfl ?_
  refine .v (.lenl Try.underlying58 rfl) rfl ?_
  refine .v (.asn rfl) rfl ?_
  refine .nil ?_
  refine .then ?_
  refine .seq ?_
  refine .seq ?_
  refine .region ?_
  refine .v (.mv rfl) rfl ?_
  refine .vF (.eq rfl rfl) rfl (by decide) ?_
  refine .nil ?_
  refine .then ?_
  refine .condF rfl ?_
  refine .skip ?_
  refine .then ?_
  refine .seq ?_
  refine .region ?_
  refine .v (.mv rfl) rfl ?_
  refine .v (.lenl Try.underlying58 rfl) rfl ?_
  refine .v (.asn rfl) rfl ?_
  refine .nil ?_
  refine .then ?_
  refine .seq ?_
  refine .seq ?_
  refine .region ?_
  refine .v (.mv rfl) rfl ?_
  refine .v (.mv rfl) rfl ?_
  refine .vs (.eq rfl rfl) rfl (fun h22_1 => ?_) (fun h22_1 => ?_)
  · skip
    refine .nil ?_
    refine .then ?_
    refine .condT rfl ?_
    refine .seq ?_
    refine .region ?_
    refine .v (.mv rfl) rfl ?_
    refine .v (.mv rfl) rfl ?_
    refine .ap (.apps (ys := [x]) sl58 ty3 rfl encK_ok (by decide) rfl rfl hr (fun w R ho => ⟨F, _, ho, .one hx⟩) hsz (by simp; omega) _ (fun _ => .here)) rfl (fun a1 c1 it1 hr1 => ?_)
    refine .v (.asn rfl) rfl ?_
    refine .nil ?_
    refine .then ?_
    refine .ret ?_
    refine .then_ret ?_
    obtain rfl : i = xs.length := by omega
    exact .done _ [it1] (.t1 rfl rfl) .rfl ⟨it1, rfl, rfl, a1, c1, by simp, by simpa using hr1⟩ (keep (.cons_cons _ (.cons_cons _ .slnil)))
  · skip
    have hlt : i < xs.length := by omega
    obtain ⟨b0, pad, rfl, rfl, hp⟩ := hr.blk (by omega)
    have hcap := hr.cap
    have hA := encK_ok.take xs pad i hi
    have hD := encK_ok.drop xs pad i hi
    have lA : ((xs.take i).flatMap encK).length = i * 1 := by rw [encK_ok.fl, List.length_take, Nat.min_eq_left hi]
    have lD : ((xs.drop i).flatMap encK).length = (xs.length - i) * 1 := by rw [encK_ok.fl, List.length_drop]
    have lX : (encK x).length = 1 := encK_ok.len x
    have lP : (xs.flatMap encK).length = xs.length * 1 := encK_ok.fl xs
    refine .nil ?_
    refine .then ?_
    refine .condF rfl ?_
    refine .skip ?_
    refine .then ?_
    refine .seq ?_
    refine .seq ?_
    refine .region ?_
    refine .v (.mv rfl) rfl ?_
    refine .v (.mv rfl) rfl ?_
    refine .v (.add rfl rfl (by omega)) rfl ?_
    refine .v (.mv rfl) rfl ?_
    refine .v (.capl Try.underlying58 rfl) rfl ?_
    refine .vs (.gt rfl rfl) rfl (fun h31_2 => ?_) (fun h31_2 => ?_)
    · skip
      refine .nil ?_
      refine .then ?_
      refine .condT rfl ?_
      refine .seq ?_
      refine .region ?_
      refine .v (.mv rfl) rfl ?_
      refine .v (.mv rfl) rfl ?_
      refine .v (.sto i sl58 rfl rfl ⟨by omega, by omega⟩) rfl ?_
      refine .v (.mv rfl) rfl ?_
      refine .v (.mv rfl) rfl ?_
      refine .v (.add rfl rfl (by omega)) rfl ?_
      refine .v (.mv rfl) rfl ?_
      refine .v (.sub rfl rfl (by omega)) rfl ?_
      refine .az (.apz (m := i) (k := xs.length + 1 - i) sl58 ty3 rfl Try.underlying3 rfl rfl .here (by rw [List.length_append, lP]; have := Nat.mul_le_mul_right 1 hi; omega) ⟨by omega, by omega⟩ (by omega) (by rw [show i + (xs.length + 1 - i) = xs.length + 1 by omega]; exact hsz) (by omega) (by decide) (by decide)) rfl (fun nb C zs hC1 hC2 hz => ?_)
      rw [hA]
      refine .kn (t := 40) (v := .slice (some ⟨nb, 0, none⟩) (xs.length + 1) C) rfl (by rw [show i + (xs.length + 1 - i) = xs.length + 1 by omega]) ?_
      refine .v (.asn rfl) rfl ?_
      refine .nil ?_
      refine .then ?_
      refine .seq ?_
      refine .region ?_
      refine .v (.mv rfl) rfl ?_
      refine .v (.mv rfl) rfl ?_
      refine .v (.sfo (i) sl58 rfl rfl ⟨by omega, by omega, by omega⟩) rfl ?_
      refine .v (.mv rfl) rfl ?_
      refine .cp (.cpy (vs := encK x) (cs' := (((xs.take i).flatMap encK) ++ zs).take (i * 1) ++ encK x ++ (((xs.take i).flatMap encK) ++ zs).drop (i * 1 + 1)) 1 sl58 rfl rfl (by show Nat.min 1 (xs.length + 1 - i) = 1; simp only [Nat.min_def]; split <;> omega) (by rw [lX]) (encK_ok.one x) (fun w R ho j v hj => ⟨_, rfl, by rw [add_at]; exact hx.cell ho hj⟩) (fun h => by cases h) (by rw [List.length_append, lA, hz]; have := Nat.mul_le_mul_right 1 (show 1 ≤ C - i by omega); omega) (by simp [Nat.zero_add]) .here) rfl ?_
      refine .nil ?_
      refine .then ?_
      refine .seq ?_
      refine .draw [[], [], [], [1, 2], [0, 3], [], [], [5, 6], [4, 7]] [] (by kernel_rfl) (by kernel_rfl) rfl (e1 := [(0, _), (1, _), (2, _), (6, _), (7, _), (8, _), (9, _)]) (.cons rfl rfl (.cons rfl rfl (.cons rfl rfl (.cons rfl rfl (.cons rfl rfl (.cons rfl rfl (.cons rfl rfl .nil))))))) (fun x hx => by cases hx) rfl ?_
      refine .v (i := 0) [] rfl rfl rfl .nil (.n (.mv rfl)) ?_
      refine .v (i := 1) [] rfl rfl rfl .nil (.n (.mv rfl)) ?_
      refine .v (i := 2) [] rfl rfl rfl .nil (.n (.mv rfl)) ?_
      refine .v (i := 3) [(47, _), (48, _)] rfl rfl rfl (.cons (.tail _ (.head _)) rfl rfl (.cons (.head _) rfl rfl .nil)) (.n (.add rfl rfl (by omega))) ?_
      refine .v (i := 4) [(46, _), (49, _)] rfl rfl rfl (.cons (.tail _ (.tail _ (.tail _ (.head _)))) rfl rfl (.cons (.head _) rfl rfl .nil)) (.n (.sfo (i + 1) sl58 rfl rfl ⟨by omega, by omega, by omega⟩)) ?_
      refine .v (i := 5) [] rfl rfl rfl .nil (.n (.mv rfl)) ?_
      refine .v (i := 6) [] rfl rfl rfl .nil (.n (.mv rfl)) ?_
      refine .v (i := 7) [(51, _), (52, _)] rfl rfl rfl (.cons (.tail _ (.head _)) rfl rfl (.cons (.head _) rfl rfl .nil)) (.n (.sfo (i) sl58 rfl rfl ⟨by omega, by omega, by omega⟩)) ?_
      refine .tail0 8 [[8, 4, 7, 0, 3, 5, 6, 1, 2]] rfl rfl rfl rfl (e' := [(53, _), (52, _), (51, _), (50, _), (49, _), (48, _), (47, _), (46, _), (0, _), (1, _), (2, _), (6, _), (7, _), (8, _), (9, _)]) rfl ?_
      refine .cp (.cpy (vs := ((xs.drop i).flatMap encK)) (cs' := ((xs.take i).flatMap encK) ++ encK x ++ ((xs.drop i).flatMap encK) ++ zs.drop (1 + (xs.length - i) * 1)) (xs.length - i) sl58 rfl rfl (by simp only [Nat.min_def]; split <;> omega) lD (encK_ok.fone _) (fun w R ho j v hj => ⟨_, rfl, by rw [add_at, ho.cell (Inn.one (.there .here) R), Nat.zero_add, ← List.getElem?_drop, hD]; rw [List.getElem?_append_left (List.getElem?_eq_some_iff.1 hj).1]; exact hj⟩) (fun h => by cases h) ?_ ?_ .here) rfl ?_
      · simp only [List.length_append, List.length_take, List.length_drop, lA, lX, hz]; have := Nat.mul_le_mul_right 1 (show xs.length + 1 ≤ C by omega); have := Nat.mul_le_mul_right 1 hi; simp only [Nat.sub_mul] at *; omega
      · rw [show 0 + (i + 1) * 1 = i * 1 + 1 by omega]; exact (ins_grow lA lX lD).symm
      refine .nil ?_
      refine .then ?_
      refine .seq ?_
      refine .region ?_
      refine .v (.mv rfl) rfl ?_
      refine .v (.asn rfl) rfl ?_
      refine .nil ?_
      refine .then ?_
      refine .ret ?_
      refine .then_ret ?_
      exact .done _ [_] (.t1 rfl rfl) .rfl ⟨_, rfl, rfl, _, _, by simp; omega, Row.of (zs.drop (1 + (xs.length - i) * 1)) (by simp [List.flatMap_append, List.flatMap_cons, List.append_assoc]) (by simp only [List.length_drop, List.length_append, List.length_cons, List.length_take, hz]; simp only [Nat.sub_mul, Nat.add_mul, Nat.min_eq_left hi]; omega) (by simp; omega) hC2⟩ (keep (.cons_cons _ (.cons _ (.cons_cons _ .slnil))))
    · skip
      refine .nil ?_
      refine .then ?_
      refine .condF rfl ?_
      refine .skip ?_
      refine .then ?_
      refine .seq ?_
      refine .region ?_
      refine .v (.mv rfl) rfl ?_
      refine .v (.mv rfl) rfl ?_
      refine .v (.mv rfl) rfl ?_
      refine .v (.add rfl rfl (by omega)) rfl ?_
      refine .v (.sto (xs.length + 1) sl58 rfl rfl ⟨by omega, by omega⟩) rfl ?_
      refine .v (.asn rfl) rfl ?_
      refine .nil ?_
      refine .then ?_
      refine .seq ?_
      refine .seq ?_
      refine .region ?_
      refine .v (.mv rfl) rfl ?_
      refine .v (.mv rfl) rfl ?_
      refine .v (.mv rfl) rfl ?_
      refine .v (.mv rfl) rfl ?_
      refine .v (.add rfl rfl (by omega)) rfl ?_
      refine .v (.sfo (i + 1) sl58 rfl rfl ⟨by omega, by omega, by omega⟩) rfl ?_
      refine .v (.own rfl rfl (fun w R ho => run_overlaps (tR := 4) Try.func53 (by kernel_rfl) (by kernel_rfl) (by kernel_rfl) (by kernel_rfl) sl58 ho hx0 (Inn.one .here R) (by rw [List.length_append, lP]; have := Nat.mul_le_mul_right 1 hlt; omega))) rfl ?_
      refine .v (.not rfl) rfl ?_
      refine .nil ?_
      refine .then ?_
      refine .condT rfl ?_
      refine .seq ?_
      refine .draw [[], [], [], [1, 2], [0, 3], [], [], [5, 6], [4, 7]] [] (by kernel_rfl) (by kernel_rfl) rfl (e1 := [(0, _), (1, _), (2, _), (6, _), (7, _), (8, _)]) (.cons rfl rfl (.cons rfl rfl (.cons rfl rfl (.cons rfl rfl (.cons rfl rfl (.cons rfl rfl .nil)))))) (fun x hx => by cases hx) rfl ?_
      refine .v (i := 0) [] rfl rfl rfl .nil (.n (.mv rfl)) ?_
      refine .v (i := 1) [] rfl rfl rfl .nil (.n (.mv rfl)) ?_
      refine .v (i := 2) [] rfl rfl rfl .nil (.n (.mv rfl)) ?_
      refine .v (i := 3) [(70, _), (71, _)] rfl rfl rfl (.cons (.tail _ (.head _)) rfl rfl (.cons (.head _) rfl rfl .nil)) (.n (.add rfl rfl (by omega))) ?_
      refine .v (i := 4) [(69, _), (72, _)] rfl rfl rfl (.cons (.tail _ (.tail _ (.tail _ (.head _)))) rfl rfl (.cons (.head _) rfl rfl .nil)) (.n (.sfo (i + 1) sl58 rfl rfl ⟨by omega, by omega, by omega⟩)) ?_
      refine .v (i := 5) [] rfl rfl rfl .nil (.n (.mv rfl)) ?_
      refine .v (i := 6) [] rfl rfl rfl .nil (.n (.mv rfl)) ?_
      refine .v (i := 7) [(74, _), (75, _)] rfl rfl rfl (.cons (.tail _ (.head _)) rfl rfl (.cons (.head _) rfl rfl .nil)) (.n (.sfo (i) sl58 rfl rfl ⟨by omega, by omega, by omega⟩)) ?_
      refine .tail0 8 [[8, 4, 7, 0, 3, 5, 6, 1, 2]] rfl rfl rfl rfl (e' := [(76, _), (75, _), (74, _), (73, _), (72, _), (71, _), (70, _), (69, _), (0, _), (1, _), (2, _), (6, _), (7, _), (8, _)]) rfl ?_
      refine .cp (.cpy (vs := ((xs.drop i).flatMap encK)) (cs' := (xs.flatMap encK ++ pad).take (i * 1 + 1) ++ ((xs.drop i).flatMap encK) ++ (xs.flatMap encK ++ pad).drop (i * 1 + 1 + (xs.length - i) * 1)) (xs.length - i) sl58 rfl rfl (by simp only [Nat.min_def]; split <;> omega) lD (encK_ok.fone _) (fun w R ho j v hj => ⟨_, rfl, by rw [add_at, ho.cell (Inn.one .here R), Nat.zero_add, ← List.getElem?_drop, hD]; rw [List.getElem?_append_left (List.getElem?_eq_some_iff.1 hj).1]; exact hj⟩) (fun h => by cases h) (by rw [List.length_append, lP, hp]; have := Nat.mul_le_mul_right 1 (show xs.length + 1 ≤ c by omega); simp only [Nat.sub_mul] at *; omega) (by rw [show 0 + (i + 1) * 1 = i * 1 + 1 by omega]) .here) rfl ?_
      refine .nil ?_
      refine .then ?_
      refine .seq ?_
      refine .region ?_
      refine .v (.mv rfl) rfl ?_
      refine .v (.mv rfl) rfl ?_
      refine .v (.sfo (i) sl58 rfl rfl ⟨by omega, by omega, by omega⟩) rfl ?_
      refine .v (.mv rfl) rfl ?_
      refine .cp (.cpy (vs := encK x) (cs' := ((xs.take i).flatMap encK) ++ encK x ++ ((xs.drop i).flatMap encK) ++ pad.drop 1) 1 sl58 rfl rfl (by show Nat.min 1 (xs.length + 1 - i) = 1; simp only [Nat.min_def]; split <;> omega) (by rw [lX]) (encK_ok.one x) (fun w R ho j v hj => ⟨_, rfl, by rw [add_at]; exact hx.cell ho hj⟩) (fun h => by cases h) ?_ ?_ .here) rfl ?_
      · simp only [List.length_append, List.length_take, List.length_drop, lP, hp, lD]; have := Nat.mul_le_mul_right 1 (show xs.length + 1 ≤ c by omega); have := Nat.mul_le_mul_right 1 hi; simp only [Nat.sub_mul] at *; omega
      · rw [show 0 + i * 1 + 1 * 1 = i * 1 + 1 by omega, Nat.zero_add, show xs.flatMap encK ++ pad = ((xs.take i).flatMap encK) ++ ((xs.drop i).flatMap encK) ++ pad by rw [← List.flatMap_append, List.take_append_drop]]; exact (ins_room lA lX lD (by rw [hp]; have := Nat.mul_le_mul_right 1 (show 1 ≤ c - xs.length by omega); omega)).symm
      refine .nil ?_
      refine .then ?_
      refine .seq ?_
      refine .region ?_
      refine .v (.mv rfl) rfl ?_
      refine .v (.asn rfl) rfl ?_
      refine .nil ?_
      refine .then ?_
      refine .ret ?_
      refine .then_ret ?_
      exact .done _ [_] (.t1 rfl rfl) .rfl ⟨_, rfl, rfl, _, _, by simp; omega, Row.of (pad.drop 1) (by simp [List.flatMap_append, List.flatMap_cons, List.append_assoc]) (by simp only [List.length_drop, List.length_append, List.length_cons, List.length_take, hp]; simp only [Nat.sub_mul, Nat.add_mul, Nat.min_eq_left hi]; omega) (by simp; omega) hr.max⟩ (keep (.cons_cons _ (.cons_cons _ .slnil)))
theorem delete_K (xs : List Nat) (i : Nat) (a : Option Addr) (c : Nat) (it : Itm) (F : Mem) (hr : Row 3 encK 1 a c xs it) (hi : i < xs.length) : Fn Try.prog 59 #[.slice a xs.length c, .int .i64 i, .int .i64 ((i : Int) + 1)] [it] F (fun v M G => ∃ it', M = [it'] ∧ G = F ∧ ∃ a' c', v = .slice a' (xs.take i ++ xs.drop (i + 1)).length c' ∧ Row 3 encK 1 a' c' (xs.take i ++ xs.drop (i + 1)) it') := by
  have hm := hr.len
  have hmx := hr.max
  obtain ⟨b0, pad, rfl, rfl, hp⟩ := hr.blk (by omega)
  have hcap := hr.cap
  have hA := encK_ok.take xs pad i (by omega)
  have lA : ((xs.take i).flatMap encK).length = i * 1 := by rw [encK_ok.fl, List.length_take, Nat.min_eq_left (by omega)]
  have lV : ((xs.drop (i + 1)).flatMap encK).length = (xs.length - (i + 1)) * 1 := by rw [encK_ok.fl, List.length_drop]
  have lP : (xs.flatMap encK).length = xs.length * 1 := encK_ok.fl xs
  refine Fn.start1 Try.func59 rfl Try.ntmps59 rfl (env := [(0, _), (1, _), (2, _)]) rfl ?_
  intro R
  refine .seq ?_
  refine .region ?_
  refine .v (.asn rfl) rfl ?_
  refine .nil ?_
  refine .then ?_
  refine .seq ?_
  refine .region ?_
  refine .v (.mv rfl) rfl ?_
  refine .v (.mv rfl) rfl ?_
  refine .v (.mv rfl) rfl ?_
  refine .v (.mv rfl) rfl ?_
  refine .v (.lenl Try.underlying58 rfl) rfl ?_
  refine .v (.slIn3 sl58 rfl rfl rfl rfl ⟨by omega, by omega, by omega, by omega⟩) rfl ?_
  refine .nil ?_
  refine .then ?_
  refine .seq ?_
  refine .seq ?_
  refine .region ?_
  refine .v (.mv rfl) rfl ?_
  refine .v (.mv rfl) rfl ?_
  refine .vF (.eq rfl rfl) rfl (by omega) ?_
  refine .nil ?_
  refine .then ?_
  refine .condF rfl ?_
  refine .skip ?_
  refine .then ?_
  refine .seq ?_
  refine .region ?_
  refine .v (.mv rfl) rfl ?_
  refine .v (.lenl Try.underlying58 rfl) rfl ?_
  refine .v (.asn rfl) rfl ?_
  refine .nil ?_
  refine .then ?_
  refine .seq ?_
  refine .draw [[], [], [0, 1], [], [], [3, 4], [2, 5], [6, 6, 0, 1, 2, 3, 4, 5, 6]] [] (by kernel_rfl) (by kernel_rfl) rfl (e1 := [(0, _), (1, _), (2, _), (6, _), (7, _)]) (.cons rfl rfl (.cons rfl rfl (.cons rfl rfl (.cons rfl rfl (.cons rfl rfl .nil))))) (fun x hx => by cases hx) rfl ?_
  refine .v (i := 0) [] rfl rfl rfl .nil (.n (.mv rfl)) ?_
  refine .v (i := 1) [] rfl rfl rfl .nil (.n (.mv rfl)) ?_
  refine .v (i := 2) [(20, _), (21, _)] rfl rfl rfl (.cons (.tail _ (.head _)) rfl rfl (.cons (.head _) rfl rfl .nil)) (.n (.sto i sl58 rfl rfl ⟨by omega, by omega⟩)) ?_
  refine .v (i := 3) [] rfl rfl rfl .nil (.n (.mv rfl)) ?_
  refine .v (i := 4) [] rfl rfl rfl .nil (.n (.mv rfl)) ?_
  refine .v (i := 5) [(23, _), (24, _)] rfl rfl rfl (.cons (.tail _ (.head _)) rfl rfl (.cons (.head _) rfl rfl .nil)) (.n (.sfd (i + 1) sl58 rfl rfl ⟨by omega, by omega⟩)) ?_
  refine .tail0 6 [[6, 2, 5, 0, 1, 3, 4], [7, 6, 0, 1, 2, 3, 4, 5]] rfl rfl rfl rfl (e' := [(25, _), (24, _), (23, _), (22, _), (21, _), (20, _), (0, _), (1, _), (2, _), (6, _), (7, _)]) rfl ?_
  have hcA := Nat.mul_le_mul_right 1 hcap
  refine .cp (.apc (vs := ((xs.drop (i + 1)).flatMap encK)) (cs' := (((xs.take i).flatMap encK) ++ ((xs.drop (i + 1)).flatMap encK) ++ (xs.flatMap encK ++ pad).drop (i * 1 + (xs.length - (i + 1)) * 1))) (xs.length - (i + 1)) sl58 rfl rfl ⟨rfl, by omega⟩ lV (encK_ok.fone _) ?_ ?_ ?_ (by rw [hA]) .here) rfl ?_
  · intro w R ho j v hj
    have hjl := (List.getElem?_eq_some_iff.1 hj).1
    have hne : ¬ (c = i + 1) := fun e => by rw [lV, show xs.length - (i + 1) = 0 by omega] at hjl; omega
    refine ⟨⟨b0, (i + 1) * 1, none⟩, ?_, ?_⟩
    · simp [hne, add_at]
    · rw [add_at, ho.cell (Inn.one .here R), ← List.getElem?_drop, encK_ok.drop xs pad (i + 1) (by omega), List.getElem?_append_left hjl]; exact hj
  · intro h; by_cases e : c = i + 1 <;> simp [e] at h
  · rw [List.length_append, lP, hp]; have := Nat.mul_le_mul_right 1 (show i + 1 ≤ xs.length by omega); simp only [Nat.sub_mul] at *; omega
  refine .v (.asn rfl) rfl ?_
  refine .nil ?_
  refine .then ?_
  refine .seq ?_
  refine .region ?_
  refine .v (.mv rfl) rfl ?_
  refine .v (.mv rfl) rfl ?_
  refine .v (.lenl Try.underlying58 rfl) rfl ?_
  refine .v (.mv rfl) rfl ?_
  refine .v (.sio (i + (xs.length - (i + 1))) xs.length sl58 rfl rfl rfl ⟨by omega, by omega, by omega, by omega, by omega⟩) rfl ?_
  obtain ⟨zz, hzz⟩ : ∃ zz, zz = (Builtin.zeroCells ((.int .i64 0 : Value)).cells (xs.length - (i + (xs.length - (i + 1))))).toList := ⟨_, rfl⟩
  have lZ : zz.length = 1 := by rw [hzz, zeroCells_length, show xs.length - (i + (xs.length - (i + 1))) = 1 by omega]; rfl
  refine .cp0 (.clr (cs' := ((xs.take i).flatMap encK) ++ ((xs.drop (i + 1)).flatMap encK) ++ (zz ++ pad)) sl58 ty3 rfl rfl rfl rfl (by omega) ?_ zz hzz ?_ .here) ?_
  · simp only [List.length_append, List.length_drop, lA, lV, lP, hp]; have := Nat.mul_le_mul_right 1 hcap; have := Nat.mul_le_mul_right 1 (show i + 1 ≤ xs.length by omega); rw [show xs.length - (i + (xs.length - (i + 1))) = 1 by omega]; simp only [Nat.sub_mul, Nat.add_mul] at *; omega
  · exact (del_cells lA lV lP (by have := Nat.mul_le_mul_right 1 (show i + 1 ≤ xs.length by omega); simp only [Nat.sub_mul, Nat.add_mul] at *; omega) (by simp only [Nat.sub_mul, Nat.add_mul, Nat.zero_add]) (by rw [show xs.length - (i + (xs.length - (i + 1))) = 1 by omega]; have := Nat.mul_le_mul_right 1 (show i + 1 ≤ xs.length by omega); simp only [Nat.sub_mul, Nat.add_mul, Nat.zero_add] at *; omega)).symm
  refine .nil ?_
  refine .then ?_
  refine .seq ?_
  refine .region ?_
  refine .v (.mv rfl) rfl ?_
  refine .v (.asn rfl) rfl ?_
  refine .nil ?_
  refine .then ?_
  refine .ret ?_
  exact .done _ [_] (.t1 rfl rfl) .rfl ⟨_, rfl, rfl, _, _, by simp; omega, Row.of (zz ++ pad) (by simp [List.flatMap_append, List.append_assoc]) (by simp only [List.length_append, List.length_drop, List.length_take, lZ, hp]; rw [Nat.min_eq_left (by omega)]; have := Nat.mul_le_mul_right 1 hcap; have := Nat.mul_le_mul_right 1 (show i + 1 ≤ xs.length by omega); simp only [Nat.sub_mul, Nat.add_mul] at *; omega) (by simp; omega) hr.max⟩ (keep (.cons_cons _ (.cons_cons _ .slnil)))
end Go.Proofs.Ytbmpdccoffkjgaa.Ow
