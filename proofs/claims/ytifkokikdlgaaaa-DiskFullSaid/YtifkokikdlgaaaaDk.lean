/- Walks. -/
import Derived.Test.YtifkokikdlgaaaaDj
import Derived.Test.YtifkokikdlgaaaaOwn10
namespace Go.Proofs.Ytifkokikdlgaaaa.Ow
open Go
set_option linter.unusedVariables false
theorem full_tot (n : Nat) : tot [⟨1, strOfNums (List.replicate n 0), ⟨#[]⟩⟩, ⟨2, ⟨#[]⟩, ⟨#[97, 98, 99, 100, 101]⟩⟩] = n + 5 := by
  have h5 : (⟨#[97, 98, 99, 100, 101]⟩ : ByteArray).size = 5 := rfl
  simp [tot, zeros_size, h5, ab_0]
theorem full_tot3 (n k : Nat) : tot [⟨1, strOfNums (List.replicate n 0), ⟨#[]⟩⟩, ⟨2, ⟨#[]⟩, ⟨#[97, 98, 99, 100, 101]⟩⟩, ⟨3, ⟨#[]⟩, strOfNums (List.replicate k 0)⟩] = n + 5 + k := by
  have h5 : (⟨#[97, 98, 99, 100, 101]⟩ : ByteArray).size = 5 := rfl
  simp [tot, zeros_size, h5, ab_0]
  omega
theorem full_ready {n : Nat} (h : n + 5 ≤ 1048576) : ready ⟨[⟨1, strOfNums (List.replicate n 0), ⟨#[]⟩⟩, ⟨2, ⟨#[]⟩, ⟨#[97, 98, 99, 100, 101]⟩⟩], 0, false, false⟩ 3 = 0 := by
  apply ready_ok _ rfl rfl
  simp only [right, full_tot, rightFrom, number]
  simp
  omega
theorem full_yes {n k : Nat} (h : n + 5 ≤ 1048576 ∧ n + 5 + k > 1048576) : append ⟨[⟨1, (strOfNums (List.replicate n 0)), ⟨#[]⟩⟩, ⟨2, ⟨#[]⟩, ⟨#[97, 98, 99, 100, 101]⟩⟩], 0, false, false⟩ 3 (strOfNums (List.replicate k 0)) = (⟨[⟨1, (strOfNums (List.replicate n 0)), ⟨#[]⟩⟩, ⟨2, ⟨#[]⟩, ⟨#[97, 98, 99, 100, 101]⟩⟩], 0, false, false⟩, 6) := by
  unfold append
  rw [full_ready h.1]
  simp only [full_tot, zeros_size]
  rw [if_neg (by simp), if_pos (by omega)]
theorem full_no {n k : Nat} (h : n + 5 + k ≤ 1048576) : append ⟨[⟨1, (strOfNums (List.replicate n 0)), ⟨#[]⟩⟩, ⟨2, ⟨#[]⟩, ⟨#[97, 98, 99, 100, 101]⟩⟩], 0, false, false⟩ 3 (strOfNums (List.replicate k 0)) = (⟨[⟨1, (strOfNums (List.replicate n 0)), ⟨#[]⟩⟩, ⟨2, ⟨#[]⟩, ⟨#[97, 98, 99, 100, 101]⟩⟩, ⟨3, ⟨#[]⟩, (strOfNums (List.replicate k 0))⟩], 0, false, false⟩, 0) := by
  unfold append
  rw [full_ready (by omega)]
  simp only [full_tot, zeros_size]
  rw [if_neg (by simp), if_neg (by omega)]
  simp [spend, putFile, there, pos, ab_e]
theorem full_right {n k : Nat} (h : n + 5 + k ≤ 1048576) : right ⟨[⟨1, (strOfNums (List.replicate n 0)), ⟨#[]⟩⟩, ⟨2, ⟨#[]⟩, ⟨#[97, 98, 99, 100, 101]⟩⟩, ⟨3, ⟨#[]⟩, (strOfNums (List.replicate k 0))⟩], 0, false, false⟩ = true := by
  simp only [right, full_tot3, rightFrom, number]
  simp
  omega
theorem diskFull_yes (firm more : Int) (F : Mem) (h1 : -128 ≤ firm ∧ firm < 128) (h2 : -128 ≤ more ∧ more < 128) (hc : 1048448 + firm + (more + 128) > 1048576) : Fn Try.prog 3 #[.int .i8 firm, .int .i8 more] [] F (fun v M G => M = [] ∧ v = .bool true) := by
  obtain ⟨n, hn⟩ : ∃ n : Nat, (n : Int) = 1048448 + firm - 5 := ⟨(1048448 + firm - 5).toNat, by omega⟩
  obtain ⟨k, hk⟩ : ∃ k : Nat, (k : Int) = more + 128 := ⟨(more + 128).toNat, by omega⟩
  have hb : tot [⟨1, (strOfNums (List.replicate n 0)), ⟨#[]⟩⟩, ⟨2, ⟨#[]⟩, ⟨#[97, 98, 99, 100, 101]⟩⟩] ≤ 4611686018427387904 := by rw [full_tot]; omega
  have hb3 : tot [⟨1, (strOfNums (List.replicate n 0)), ⟨#[]⟩⟩, ⟨2, ⟨#[]⟩, ⟨#[97, 98, 99, 100, 101]⟩⟩, ⟨3, ⟨#[]⟩, (strOfNums (List.replicate k 0))⟩] ≤ 4611686018427387904 := by rw [full_tot3]; omega
  refine Fn.start0 Try.func3 rfl Try.ntmps3 rfl (env := [(0, _), (1, _)]) rfl ?_
  intro R
  refine .seq ?_
  refine .region ?_
  refine .v (.asn rfl) rfl ?_
  refine .nil ?_
  refine .then ?_
  refine .seq ?_
  refine .region ?_
  refine .v (.mv rfl) rfl ?_
  refine .v (.cvti rfl Try.underlying22 Try.underlying3 (wrap_in (by omega) (by omega))) rfl ?_
  refine .v (.add rfl rfl (by omega)) rfl ?_
  refine .v (.asn rfl) rfl ?_
  refine .nil ?_
  refine .then ?_
  refine .seq ?_
  refine .region ?_
  refine .v (.mv rfl) rfl ?_
  refine .v (.sub rfl rfl (by omega)) rfl ?_
  refine .nb (.mks n sl23 ty5 rfl rfl (by omega) (by omega) (by omega) (made_one _ n)) rfl (fun b1 => ?_)
  refine .v (.cvb (List.replicate n 0) Try.underlying23 Try.underlying5 Try.underlying9 rfl (by simp) .here (zeros_map n)) rfl ?_
  refine .v (.build rfl (fun w => bd25_0_1 w _ _)) rfl ?_
  refine .v (.build rfl (fun w => bd25_0_2 w _ _)) rfl ?_
  refine .nb (.litn (qs := [(0, .agg #[.int .i64 1, .string (strOfNums (List.replicate n 0)), .string ⟨#[]⟩]), (1, .agg #[.int .i64 2, .string ⟨#[]⟩, .string ⟨#[97, 98, 99, 100, 101]⟩])]) (cs := [.int .i64 1, .string (strOfNums (List.replicate n 0)), .string ⟨#[]⟩, .int .i64 2, .string ⟨#[]⟩, .string ⟨#[97, 98, 99, 100, 101]⟩]) sl26 ty25 rfl rfl (by first | kernel_rfl | simp [Instr.fill, Value.cells]) rfl) rfl (fun b2 => ?_)
  refine .v (.build rfl (fun w => bd28_0 w _ _ _)) rfl ?_
  refine .nb (.alloc ty28 rfl) rfl (fun b3 => ?_)
  refine .st (.stw ty28 rfl rfl rfl rfl rfl .here) ?_
  refine .nil ?_
  refine .then ?_
  refine .seq ?_
  refine .region ?_
  refine .v (.mv rfl) rfl ?_
  refine .v (.cvti rfl Try.underlying22 Try.underlying3 (wrap_in (by omega) (by omega))) rfl ?_
  refine .v (.add rfl rfl (by omega)) rfl ?_
  refine .v (.asn rfl) rfl ?_
  refine .nil ?_
  refine .then ?_
  refine .seq ?_
  refine .freeze (it := [⟨b2, 25, _⟩]) (.there .here) (fun G0 hle0 hG0 => ?_)
  have hS : Sl G0 encF 3 (some ⟨b2, 0, none⟩) 2 [⟨1, (strOfNums (List.replicate n 0)), ⟨#[]⟩⟩, ⟨2, ⟨#[]⟩, ⟨#[97, 98, 99, 100, 101]⟩⟩] := (Row.of (e := 25) [] rfl rfl (Nat.le_refl 2) (by decide)).sl encF_ok hG0
  have hF := hle0
  refine .draw [[], [], [1, 1], [2], [0, 3], [4], [5], [5], [], [8, 6, 4, 0, 1, 2, 3, 4, 5, 6, 8], [7, 9, 0, 1, 2, 3, 4, 5, 6, 7, 8, 9]] [⟨8, 8, 28, _⟩] (by kernel_rfl) (by kernel_rfl) rfl (e1 := [(4, _), (5, _), (6, _), (7, _)]) (.cons rfl rfl (.cons rfl rfl (.cons rfl rfl (.cons rfl rfl .nil)))) (fun x hx => by rcases List.mem_cons.1 hx with rfl | hx; (exact ⟨_, _, _, _, _, _, _, rfl, ty28, rfl⟩); cases hx) rfl ?_
  refine .v (i := 0) [] rfl rfl rfl .nil (.n (.ldw ty28 rfl .here rfl)) ?_
  refine .v (i := 1) [] rfl rfl rfl .nil (.n (.mv rfl)) ?_
  refine .e (i := 2) [(26, _)] [2, 1] rfl rfl rfl (.cons (.head _) rfl rfl .nil) rfl rfl rfl .n (.mks k sl23 ty5 rfl rfl (by omega) (by omega) (by omega) (made_one _ k)) ?_
  rintro _ _ _ _ ⟨b4, rfl, rfl, rfl⟩
  refine ⟨.skip rfl (.again [] rfl .nil (.n (.ldw ty28 rfl (.there .here) rfl)) .nil), rfl, ?_⟩
  refine .v (i := 3) [(27, _)] rfl rfl rfl (.cons (.head _) rfl rfl .nil) (.n (.cvb (List.replicate k 0) Try.underlying23 Try.underlying5 Try.underlying9 rfl (by simp) .here (zeros_map k))) ?_
  refine .e (i := 4) [(25, _), (28, _)] [4, 0, 3, 2, 1] rfl rfl rfl (.cons (.tail _ (.tail _ (.tail _ (.head _)))) rfl rfl (.cons (.head _) rfl rfl .nil)) rfl rfl rfl .n (.call rfl rfl (Try.call9 _) (full_yes (n := n) (k := k) (by omega) ▸ append_fn ⟨[⟨1, (strOfNums (List.replicate n 0)), ⟨#[]⟩⟩, ⟨2, ⟨#[]⟩, ⟨#[97, 98, 99, 100, 101]⟩⟩], 0, false, false⟩ (some ⟨b2, 0, none⟩) 2 _ hS hb 3 (strOfNums (List.replicate k 0))) _ rfl) ?_
  rintro _ _ G5 le6 ⟨_, rfl, rfl, a7, c7, rfl, hS7⟩
  replace hS := hS.mono le6
  replace hF := hF.trans le6
  refine ⟨.skip rfl (.skip rfl (.skip rfl (.skip rfl .nil))), rfl, ?_⟩
  refine .v (i := 5) [(29, _)] rfl rfl rfl (.cons (.head _) rfl rfl .nil) (.n (.mv rfl)) ?_
  refine .v (i := 6) [(24, _)] rfl rfl rfl (.cons (.head _) rfl rfl .nil) (.n (.ext rfl rfl)) ?_
  refine .v (i := 7) [(24, _)] rfl rfl rfl (.cons (.tail _ (.head _)) rfl rfl .nil) (.n (.ext rfl rfl)) ?_
  refine .ef (i := 9) [(30, _)] [9, 8, 6, 4, 0, 1, 2, 3, 5] rfl rfl rfl (.cons (.tail _ (.head _)) rfl rfl .nil) rfl rfl rfl rfl .n (fun b8 => .stw ty28 rfl rfl rfl rfl rfl .here) ?_
  rintro b8 _ _ _ _ ⟨rfl, rfl, rfl⟩
  refine ⟨.again [(24, _)] rfl (.cons (.tail _ (.tail _ (.tail _ (.head _)))) rfl rfl .nil) (.n (.ext rfl rfl)) (.skip rfl (.skip rfl (.skip rfl (.skip rfl (.skip rfl (.skip rfl (.skip rfl .nil))))))), rfl, ?_⟩
  refine .tail0 10 [[10, 7, 9, 0, 1, 2, 3, 4, 5, 6, 8]] rfl rfl rfl rfl (e' := [(8, _), (31, _), (30, _), (24, _), (29, _), (28, _), (27, _), (26, _), (25, _), (4, _), (5, _), (6, _), (7, _)]) rfl ?_
  refine .v (.asn rfl) rfl ?_
  refine .nil ?_
  refine .then ?_
  refine .seq ?_
  refine .seq ?_
  refine .region ?_
  refine .v (.mv rfl) rfl ?_
  refine .v (.mv rfl) rfl ?_
  refine .v (.add rfl rfl (by omega)) rfl ?_
  refine .vT (.gt rfl rfl) rfl hc ?_
  refine .nil ?_
  refine .then ?_
  refine .condT rfl ?_
  refine .seq ?_
  refine .region ?_
  refine .v (.fa0 fl28_0 rfl) rfl ?_
  refine .v (.ldb ty26 rfl .here rfl) rfl ?_
  refine .v (.lenl Try.underlying26 rfl) rfl ?_
  refine .vT (.eq rfl rfl) rfl rfl ?_
  refine .v (.mv rfl) rfl ?_
  refine .g rfl rfl rfl ?_
  refine .v (.mv rfl) rfl ?_
  refine .g rfl rfl rfl ?_
  refine .vT (.eq rfl rfl) rfl rfl ?_
  refine .v (.pkT rfl rfl) rfl ?_
  refine .v (.mv rfl) rfl ?_
  refine .g rfl rfl rfl ?_
  refine .cf rfl rfl (Try.call10 _) (awake_fn _) rfl ?_
  rintro _ G9 le10 rfl
  replace hS := hS.mono le10
  replace hS7 := hS7.mono le10
  replace hF := hF.trans le10
  refine .v (.pkT rfl rfl) rfl ?_
  refine .v (.asn rfl) rfl ?_
  refine .nil ?_
  refine .then ?_
  refine .ret ?_
  refine .then_ret ?_
  exact .done _ [] (.t1 rfl rfl) hF ⟨rfl, rfl⟩ (Inn.keep (.there (.there (.there (.there (.there .here))))))
theorem diskFull_no (firm more : Int) (F : Mem) (h1 : -128 ≤ firm ∧ firm < 128) (h2 : -128 ≤ more ∧ more < 128) (hc : ¬ 1048448 + firm + (more + 128) > 1048576) : Fn Try.prog 3 #[.int .i8 firm, .int .i8 more] [] F (fun v M G => M = [] ∧ v = .bool true) := by
  obtain ⟨n, hn⟩ : ∃ n : Nat, (n : Int) = 1048448 + firm - 5 := ⟨(1048448 + firm - 5).toNat, by omega⟩
  obtain ⟨k, hk⟩ : ∃ k : Nat, (k : Int) = more + 128 := ⟨(more + 128).toNat, by omega⟩
  have hb : tot [⟨1, (strOfNums (List.replicate n 0)), ⟨#[]⟩⟩, ⟨2, ⟨#[]⟩, ⟨#[97, 98, 99, 100, 101]⟩⟩] ≤ 4611686018427387904 := by rw [full_tot]; omega
  have hb3 : tot [⟨1, (strOfNums (List.replicate n 0)), ⟨#[]⟩⟩, ⟨2, ⟨#[]⟩, ⟨#[97, 98, 99, 100, 101]⟩⟩, ⟨3, ⟨#[]⟩, (strOfNums (List.replicate k 0))⟩] ≤ 4611686018427387904 := by rw [full_tot3]; omega
  refine Fn.start0 Try.func3 rfl Try.ntmps3 rfl (env := [(0, _), (1, _)]) rfl ?_
  intro R
  refine .seq ?_
  refine .region ?_
  refine .v (.asn rfl) rfl ?_
  refine .nil ?_
  refine .then ?_
  refine .seq ?_
  refine .region ?_
  refine .v (.mv rfl) rfl ?_
  refine .v (.cvti rfl Try.underlying22 Try.underlying3 (wrap_in (by omega) (by omega))) rfl ?_
  refine .v (.add rfl rfl (by omega)) rfl ?_
  refine .v (.asn rfl) rfl ?_
  refine .nil ?_
  refine .then ?_
  refine .seq ?_
  refine .region ?_
  refine .v (.mv rfl) rfl ?_
  refine .v (.sub rfl rfl (by omega)) rfl ?_
  refine .nb (.mks n sl23 ty5 rfl rfl (by omega) (by omega) (by omega) (made_one _ n)) rfl (fun b1 => ?_)
  refine .v (.cvb (List.replicate n 0) Try.underlying23 Try.underlying5 Try.underlying9 rfl (by simp) .here (zeros_map n)) rfl ?_
  refine .v (.build rfl (fun w => bd25_0_1 w _ _)) rfl ?_
  refine .v (.build rfl (fun w => bd25_0_2 w _ _)) rfl ?_
  refine .nb (.litn (qs := [(0, .agg #[.int .i64 1, .string (strOfNums (List.replicate n 0)), .string ⟨#[]⟩]), (1, .agg #[.int .i64 2, .string ⟨#[]⟩, .string ⟨#[97, 98, 99, 100, 101]⟩])]) (cs := [.int .i64 1, .string (strOfNums (List.replicate n 0)), .string ⟨#[]⟩, .int .i64 2, .string ⟨#[]⟩, .string ⟨#[97, 98, 99, 100, 101]⟩]) sl26 ty25 rfl rfl (by first | kernel_rfl | simp [Instr.fill, Value.cells]) rfl) rfl (fun b2 => ?_)
  refine .v (.build rfl (fun w => bd28_0 w _ _ _)) rfl ?_
  refine .nb (.alloc ty28 rfl) rfl (fun b3 => ?_)
  refine .st (.stw ty28 rfl rfl rfl rfl rfl .here) ?_
  refine .nil ?_
  refine .then ?_
  refine .seq ?_
  refine .region ?_
  refine .v (.mv rfl) rfl ?_
  refine .v (.cvti rfl Try.underlying22 Try.underlying3 (wrap_in (by omega) (by omega))) rfl ?_
  refine .v (.add rfl rfl (by omega)) rfl ?_
  refine .v (.asn rfl) rfl ?_
  refine .nil ?_
  refine .then ?_
  refine .seq ?_
  refine .freeze (it := [⟨b2, 25, _⟩]) (.there .here) (fun G0 hle0 hG0 => ?_)
  have hS : Sl G0 encF 3 (some ⟨b2, 0, none⟩) 2 [⟨1, (strOfNums (List.replicate n 0)), ⟨#[]⟩⟩, ⟨2, ⟨#[]⟩, ⟨#[97, 98, 99, 100, 101]⟩⟩] := (Row.of (e := 25) [] rfl rfl (Nat.le_refl 2) (by decide)).sl encF_ok hG0
  have hF := hle0
  refine .draw [[], [], [1, 1], [2], [0, 3], [4], [5], [5], [], [8, 6, 4, 0, 1, 2, 3, 4, 5, 6, 8], [7, 9, 0, 1, 2, 3, 4, 5, 6, 7, 8, 9]] [⟨8, 8, 28, _⟩] (by kernel_rfl) (by kernel_rfl) rfl (e1 := [(4, _), (5, _), (6, _), (7, _)]) (.cons rfl rfl (.cons rfl rfl (.cons rfl rfl (.cons rfl rfl .nil)))) (fun x hx => by rcases List.mem_cons.1 hx with rfl | hx; (exact ⟨_, _, _, _, _, _, _, rfl, ty28, rfl⟩); cases hx) rfl ?_
  refine .v (i := 0) [] rfl rfl rfl .nil (.n (.ldw ty28 rfl .here rfl)) ?_
  refine .v (i := 1) [] rfl rfl rfl .nil (.n (.mv rfl)) ?_
  refine .e (i := 2) [(26, _)] [2, 1] rfl rfl rfl (.cons (.head _) rfl rfl .nil) rfl rfl rfl .n (.mks k sl23 ty5 rfl rfl (by omega) (by omega) (by omega) (made_one _ k)) ?_
  rintro _ _ _ _ ⟨b4, rfl, rfl, rfl⟩
  refine ⟨.skip rfl (.again [] rfl .nil (.n (.ldw ty28 rfl (.there .here) rfl)) .nil), rfl, ?_⟩
  refine .v (i := 3) [(27, _)] rfl rfl rfl (.cons (.head _) rfl rfl .nil) (.n (.cvb (List.replicate k 0) Try.underlying23 Try.underlying5 Try.underlying9 rfl (by simp) .here (zeros_map k))) ?_
  refine .e (i := 4) [(25, _), (28, _)] [4, 0, 3, 2, 1] rfl rfl rfl (.cons (.tail _ (.tail _ (.tail _ (.head _)))) rfl rfl (.cons (.head _) rfl rfl .nil)) rfl rfl rfl .n (.call rfl rfl (Try.call9 _) (full_no (n := n) (k := k) (by omega) ▸ append_fn ⟨[⟨1, (strOfNums (List.replicate n 0)), ⟨#[]⟩⟩, ⟨2, ⟨#[]⟩, ⟨#[97, 98, 99, 100, 101]⟩⟩], 0, false, false⟩ (some ⟨b2, 0, none⟩) 2 _ hS hb 3 (strOfNums (List.replicate k 0))) _ rfl) ?_
  rintro _ _ G5 le6 ⟨_, rfl, rfl, a7, c7, rfl, hS7⟩
  replace hS := hS.mono le6
  replace hF := hF.trans le6
  refine ⟨.skip rfl (.skip rfl (.skip rfl (.skip rfl .nil))), rfl, ?_⟩
  refine .v (i := 5) [(29, _)] rfl rfl rfl (.cons (.head _) rfl rfl .nil) (.n (.mv rfl)) ?_
  refine .v (i := 6) [(24, _)] rfl rfl rfl (.cons (.head _) rfl rfl .nil) (.n (.ext rfl rfl)) ?_
  refine .v (i := 7) [(24, _)] rfl rfl rfl (.cons (.tail _ (.head _)) rfl rfl .nil) (.n (.ext rfl rfl)) ?_
  refine .ef (i := 9) [(30, _)] [9, 8, 6, 4, 0, 1, 2, 3, 5] rfl rfl rfl (.cons (.tail _ (.head _)) rfl rfl .nil) rfl rfl rfl rfl .n (fun b8 => .stw ty28 rfl rfl rfl rfl rfl .here) ?_
  rintro b8 _ _ _ _ ⟨rfl, rfl, rfl⟩
  refine ⟨.again [(24, _)] rfl (.cons (.tail _ (.tail _ (.tail _ (.head _)))) rfl rfl .nil) (.n (.ext rfl rfl)) (.skip rfl (.skip rfl (.skip rfl (.skip rfl (.skip rfl (.skip rfl (.skip rfl .nil))))))), rfl, ?_⟩
  refine .tail0 10 [[10, 7, 9, 0, 1, 2, 3, 4, 5, 6, 8]] rfl rfl rfl rfl (e' := [(8, _), (31, _), (30, _), (24, _), (29, _), (28, _), (27, _), (26, _), (25, _), (4, _), (5, _), (6, _), (7, _)]) rfl ?_
  refine .v (.asn rfl) rfl ?_
  refine .nil ?_
  refine .then ?_
  refine .seq ?_
  refine .seq ?_
  refine .region ?_
  refine .v (.mv rfl) rfl ?_
  refine .v (.mv rfl) rfl ?_
  refine .v (.add rfl rfl (by omega)) rfl ?_
  refine .vF (.gt rfl rfl) rfl hc ?_
  refine .nil ?_
  refine .then ?_
  refine .condF rfl ?_
  refine .skip ?_
  refine .then ?_
  refine .seq ?_
  refine .region ?_
  refine .v (.fa0 fl28_0 rfl) rfl ?_
  refine .v (.ldb ty26 rfl .here rfl) rfl ?_
  refine .v (.lenl Try.underlying26 rfl) rfl ?_
  refine .vT (.eq rfl rfl) rfl rfl ?_
  refine .v (.mv rfl) rfl ?_
  refine .g rfl rfl rfl ?_
  refine .v (.fa0 fl28_0 rfl) rfl ?_
  refine .g rfl rfl rfl ?_
  refine .v (.ldb ty26 rfl .here rfl) rfl ?_
  refine .g rfl rfl rfl ?_
  refine .ix sl26 rfl rfl hS7 rfl ⟨3, ⟨#[]⟩, (strOfNums (List.replicate k 0))⟩ ⟨by decide, rfl⟩ (fun p9 o10 r11 => ?_)
  refine .g rfl rfl rfl ?_
  refine .v (.fae fl25_2 rfl) rfl ?_
  refine .g rfl rfl rfl ?_
  refine .v (.ldr (j := 2) ty9 rfl r11 rfl) rfl ?_
  refine .g rfl rfl rfl ?_
  refine .v (.lens Try.underlying9 rfl) rfl ?_
  refine .g rfl rfl rfl ?_
  refine .v (.mv rfl) rfl ?_
  refine .g rfl rfl rfl ?_
  refine .vT (.eq rfl rfl) rfl (by rw [zeros_size]; omega) ?_
  refine .v (.pkT rfl rfl) rfl ?_
  refine .v (.mv rfl) rfl ?_
  refine .g rfl rfl rfl ?_
  refine .v (.mv rfl) rfl ?_
  refine .g rfl rfl rfl ?_
  refine .vT (.eq rfl rfl) rfl rfl ?_
  refine .v (.pkT rfl rfl) rfl ?_
  refine .v (.mv rfl) rfl ?_
  refine .g rfl rfl rfl ?_
  refine .v (.ldw ty28 rfl .here rfl) rfl ?_
  refine .g rfl rfl rfl ?_
  refine .bT (.call rfl rfl (Try.call11 _) (fun G hle hG => right_fn ⟨[⟨1, (strOfNums (List.replicate n 0)), ⟨#[]⟩⟩, ⟨2, ⟨#[]⟩, ⟨#[97, 98, 99, 100, 101]⟩⟩, ⟨3, ⟨#[]⟩, (strOfNums (List.replicate k 0))⟩], 0, false, false⟩ a7 c7 G (hS7.mono hle) hb3)) rfl (full_right (n := n) (k := k) (by omega)) ?_
  refine .v (.pkT rfl rfl) rfl ?_
  refine .v (.mv rfl) rfl ?_
  refine .g rfl rfl rfl ?_
  refine .cf rfl rfl (Try.call10 _) (awake_fn _) rfl ?_
  rintro _ G12 le13 rfl
  replace hS := hS.mono le13
  replace hS7 := hS7.mono le13
  replace hF := hF.trans le13
  refine .v (.pkT rfl rfl) rfl ?_
  refine .v (.asn rfl) rfl ?_
  refine .nil ?_
  refine .then ?_
  refine .ret ?_
  exact .done _ [] (.t1 rfl rfl) hF ⟨rfl, rfl⟩ (Inn.keep (.there (.there (.there (.there (.there .here))))))
theorem diskFull_fn (firm more : Int) (F : Mem) (h1 : -128 ≤ firm ∧ firm < 128) (h2 : -128 ≤ more ∧ more < 128) : Fn Try.prog 3 #[.int .i8 firm, .int .i8 more] [] F (fun v M G => M = [] ∧ v = .bool true) :=
  if hc : 1048448 + firm + (more + 128) > 1048576 then diskFull_yes firm more F h1 h2 hc else diskFull_no firm more F h1 h2 hc
end Go.Proofs.Ytifkokikdlgaaaa.Ow
