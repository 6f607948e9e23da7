/- Proved: a cut leaves each record at below and behind it where it is; there are no further conditions. -/
import Derived.Test.YtggkhcdilbdifaaRows
import Derived.Test.YtggkhcdilbdifaaWj
import Derived.Test.YtggkhcdilbdifaaRead
import Derived.WalkKit
import Derived.ProofKit
import Derived.OpenShut
import Derived.ShutString
import Derived.ChangeOld
import Derived.Below
import Derived.Carry
import Derived.SizedLaws
import Derived.Lib.SmallJoins
namespace Go.Proofs.Ytggkhcdilbdifaa.walCuts
open Go.ChangeShapes Go.WideShapes Go.ChangeAt Go.RowKit Go.Joins Go.Proofs.Ytggkhcdilbdifaa.Ow
open Go.ChangeMaps (open_string shut_string)
set_option linter.unusedVariables false
theorem own : ownKnob Try.prog.godebug = none := by kernel_rfl
theorem laidOut : laidOutB Try.prog = true := by kernel_rfl
set_option maxRecDepth 100000 in
theorem lifted (os : Os) (started : os.Started) (H : Type) (enc : TypeId × Value → H) :
    ReturnsInHanded {} Try.checked os 5 .any (Rows.walCutsSpec.pre6 enc Try.prog Try.f5 Rows.walCutsRow.domain false) (Rows.walCutsSpec.post enc Try.prog Try.f5 false true false false) := by
  refine returnsInHanded_of_change_sized (C := Try.checked) own started (by kernel_rfl) Try.func5
    (ChangeSpec.witness6 (enc := enc) (C := Try.checked) false ⟨#[], #[.agg #[(.slice none 0 0), (.int .i64 0), (.bool false), (.bool false)], .int .i64 0], []⟩ 8 (by kernel_rfl) (by kernel_rfl) (by kernel_rfl) (by kernel_rfl)) ?_
  intro W base args ds gs before hval0 hW hcnd hsz0 _
  have hsz : (DataW.weightsEach Try.prog (Try.f5.params.toList ++ Rows.walCutsSpec.plain.varTypes Try.prog) (ds ++ gs)).all (· ≤ reachBytes) = true := hsz0
  have hval : ∀ (j : Nat) t v, Try.f5.params[j]? = some t → args[j]? = some v → Value.okWide Try.prog W .any base t v := hval0
  have hW' := hW
  obtain ⟨p, q, hA0, hV, rfl, hfz, hnd⟩ := hW
  have hA : DataW.TrodAll enc Try.prog W 0 (fun _ => true) true Try.f5.params.toList args.toList ds p := hA0
  rw [Try.params5] at hA hval hsz
  obtain ⟨v0, vs0, d0, ds0, p0, q0, hargs, rfl, rfl, h0, r0⟩ := trodAll_cons hA
  obtain ⟨v1, vs1, d1, ds1, p1, q1, rfl, rfl, rfl, h1, r1⟩ := trodAll_cons r0
  obtain ⟨rfl, rfl, rfl⟩ := trodAll_nil r1
  obtain rfl : args = #[v0, v1] := by cases args; simp_all
  obtain ⟨rfl, rfl⟩ := trodVars_none hV
  have k0 := h0
  have lt0 : ∀ x ∈ p0, x.block < W.heap.size := by obtain ⟨m, hm⟩ := k0; exact DataW.trod_lt m _ _ _ hm
  obtain ⟨u0_0, u0_1, u0_2, u0_3, y0_0, y0_1, y0_2, y0_3, m0, rfl, rfl, rfl, g0_0, g0_1, g0_2, g0_3⟩ := open_agg4 Try.underlying24 (by kernel_rfl) (by kernel_rfl) (hval 0 24 v0 rfl rfl) h0
  obtain ⟨A0_0, c0_0, l0_0, hcs0_0, hr0_0, hg0_0, hs0_0⟩ := read_slice (encv := encF) (sz := 3) (fun _ => True) Try.underlying22 (by kernel_rfl) (by decide) (fun _ => rfl) read_File g0_0
  obtain rfl : u0_0 = .slice A0_0 l0_0.length c0_0 := by simpa using hcs0_0
  have y0_0z : l0_0.length * 40 ≤ 140737488351232 := by
    rcases hs0_0 with h_ | ⟨el, sp, hd_, hle_⟩
    · rw [h_]; omega
    · exact Nat.le_trans (Nat.mul_le_mul_right _ hle_) (sized_field (e := 50) hsz (j := 0) (t := 24) (i := 0) (t' := 22) rfl rfl Try.underlying24 rfl (congrArg some hd_) Try.underlying22)
  obtain ⟨a0_1, hk0_1, hw0_1⟩ := read_int Try.underlying3 g0_1
  obtain rfl : u0_1 = .int .i64 a0_1 := by simpa using hk0_1
  obtain ⟨a0_2, hk0_2⟩ := read_bool Try.underlying4 g0_2
  obtain rfl : u0_2 = .bool a0_2 := by simpa using hk0_2
  obtain ⟨a0_3, hk0_3⟩ := read_bool Try.underlying4 g0_3
  obtain rfl : u0_3 = .bool a0_3 := by simpa using hk0_3
  obtain ⟨a1, rfl, rfl, rfl, w1⟩ := open_int Try.underlying3 (hval 1 3 v1 rfl rfl) h1
  clear hA0 hval0 hsz0 hsz
  refine (Fn.calls (walCuts_fn ⟨l0_0, a0_1, a0_2, a0_3⟩ A0_0 c0_0 (Mem.of W) hr0_0 (Nat.le_trans y0_0z (by decide)) a1)).mono fun e W' ⟨he, bel⟩ => ?_
  subst he
  exact ⟨_, rfl, _, _, _, [], _, [], hW', trodAll_mk1 (shut_bool Try.underlying4 _), (trodAll_cons_mk (Below.trod laidOut (by kernel_rfl) (of_decide_eq_true (by kernel_rfl)) k0 bel lt0) (trodAll_cons_mk (shut_int Try.underlying3 w1) trodAll_mk0)), rfl, bel.frame _, fun h => by cases h⟩
theorem over : Rows.walCutsRow.holds Try.pinned (OpenSpec.ofChange Rows.walCutsSpec) :=
  OpenClaim.holds_of_wide 5 Try.f5 rfl rfl rfl rfl rfl rfl rfl ⟨rfl, rfl, rfl, rfl, rfl⟩ rfl rfl rfl rfl rfl (by kernel_rfl) Try.func5 (by kernel_rfl)
    (of_decide_eq_true (by kernel_rfl)) (by unfold Func.isWrapper; first | (rw [if_pos (by decide +kernel)]; kernel_rfl) | (rw [if_neg (by decide +kernel)]; exact ⟨rfl, rfl⟩))
    (fun os started H enc _ => lifted os started H enc)
theorem proved : Rows.WalCutsSaid := over
#print axioms proved
end Go.Proofs.Ytggkhcdilbdifaa.walCuts
namespace Go.Proofs.Ytggkhcdilbdifaa
/-- The row, under a short name, for the claim. -/
theorem walCuts_holds : Rows.WalCutsSaid := walCuts.proved
end Go.Proofs.Ytggkhcdilbdifaa
