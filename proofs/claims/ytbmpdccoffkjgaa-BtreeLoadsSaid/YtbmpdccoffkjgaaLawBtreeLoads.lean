/- Proved: a tree of any pairs is loaded just if their keys rise, has them, lies as it must, and goes on as any other one; there are no further conditions. -/
import Derived.Test.YtbmpdccoffkjgaaRows
import Derived.Test.YtbmpdccoffkjgaaBzf
import Derived.Test.YtbmpdccoffkjgaaRead
import Derived.Test.YtbmpdccoffkjgaaRead2
import Derived.WalkKit
import Derived.ProofKit
import Derived.OpenShut
import Derived.ShutString
import Derived.ChangeOld
import Derived.Below
import Derived.Carry
import Derived.SizedLaws
import Derived.Lib.SmallJoins
namespace Go.Proofs.Ytbmpdccoffkjgaa.btreeLoads
open Go.ChangeShapes Go.WideShapes Go.ChangeAt Go.RowKit Go.Joins Go.Proofs.Ytbmpdccoffkjgaa.Ow
open Go.ChangeMaps (open_string shut_string)
set_option linter.unusedVariables false
theorem own : ownKnob Try.prog.godebug = none := by kernel_rfl
theorem laidOut : laidOutB Try.prog = true := by kernel_rfl
set_option maxRecDepth 100000 in
theorem lifted (os : Os) (started : os.Started) (H : Type) (enc : TypeId × Value → H) :
    ReturnsInHanded {} Try.checked os 3 .any (Rows.btreeLoadsSpec.pre6 enc Try.prog Try.f3 Rows.btreeLoadsRow.domain false) (Rows.btreeLoadsSpec.post enc Try.prog Try.f3 false true false false) := by
  refine returnsInHanded_of_change_sized (C := Try.checked) own started (by kernel_rfl) Try.func3
    (ChangeSpec.witness6 (enc := enc) (C := Try.checked) false ⟨#[], #[.slice none 0 0, .slice none 0 0], []⟩ 8 (by kernel_rfl) (by kernel_rfl) (by kernel_rfl) (by kernel_rfl)) ?_
  intro W base args ds gs before hval0 hW hcnd hsz0 _
  have hsz : (DataW.weightsEach Try.prog (Try.f3.params.toList ++ Rows.btreeLoadsSpec.plain.varTypes Try.prog) (ds ++ gs)).all (· ≤ reachBytes) = true := hsz0
  have hval : ∀ (j : Nat) t v, Try.f3.params[j]? = some t → args[j]? = some v → Value.okWide Try.prog W .any base t v := hval0
  have hW' := hW
  obtain ⟨p, q, hA0, hV, rfl, hfz, hnd⟩ := hW
  have hA : DataW.TrodAll enc Try.prog W 0 (fun _ => true) true Try.f3.params.toList args.toList ds p := hA0
  rw [Try.params3] at hA hval hsz
  obtain ⟨v0, vs0, d0, ds0, p0, q0, hargs, rfl, rfl, h0, r0⟩ := trodAll_cons hA
  obtain ⟨v1, vs1, d1, ds1, p1, q1, rfl, rfl, rfl, h1, r1⟩ := trodAll_cons r0
  obtain ⟨rfl, rfl, rfl⟩ := trodAll_nil r1
  obtain rfl : args = #[v0, v1] := by cases args; simp_all
  obtain ⟨rfl, rfl⟩ := trodVars_none hV
  have k0 := h0
  have lt0 : ∀ x ∈ p0, x.block < W.heap.size := by obtain ⟨m, hm⟩ := k0; exact DataW.trod_lt m _ _ _ hm
  obtain ⟨a0, len0, cap0, rfl⟩ := okWide_slice Try.underlying22 (hval 0 22 v0 rfl rfl)
  obtain ⟨fuel0, hf0⟩ := h0
  obtain ⟨A0, c0, l0, hcs0, hr0, hg0, hs0⟩ := read_slice (encv := encP) (sz := 2) (fun _ => True) Try.underlying22 (by kernel_rfl) (by decide) (fun _ => rfl) read_Pair hf0
  simp only [Value.cells, List.cons.injEq, and_true, Value.slice.injEq] at hcs0
  obtain ⟨rfl, rfl, rfl⟩ := hcs0
  have y0 : l0.length * 32 ≤ 140737488351232 := by
    rcases hs0 with h_ | ⟨el, sp, hd_, hle_⟩
    · rw [h_]; omega
    · exact Nat.le_trans (Nat.mul_le_mul_right _ hle_) (sized_slice (e := 47) hsz (j := 0) (t := 22) rfl (congrArg some hd_) Try.underlying22)
  have k1 := h1
  have lt1 : ∀ x ∈ p1, x.block < W.heap.size := by obtain ⟨m, hm⟩ := k1; exact DataW.trod_lt m _ _ _ hm
  obtain ⟨a1, len1, cap1, rfl⟩ := okWide_slice Try.underlying23 (hval 1 23 v1 rfl rfl)
  obtain ⟨fuel1, hf1⟩ := h1
  obtain ⟨A1, c1, l1, hcs1, hr1, hg1, hs1⟩ := read_slice (encv := encA) (sz := 5) (fun _ => True) Try.underlying23 (by kernel_rfl) (by decide) (fun _ => rfl) read_Act hf1
  simp only [Value.cells, List.cons.injEq, and_true, Value.slice.injEq] at hcs1
  obtain ⟨rfl, rfl, rfl⟩ := hcs1
  have y1 : l1.length * 64 ≤ 140737488351232 := by
    rcases hs1 with h_ | ⟨el, sp, hd_, hle_⟩
    · rw [h_]; omega
    · exact Nat.le_trans (Nat.mul_le_mul_right _ hle_) (sized_slice (e := 37) hsz (j := 1) (t := 23) rfl (congrArg some hd_) Try.underlying23)
  clear hA0 hval0 hsz0 hsz
  refine (Fn.calls (loads_fn l0 a0 cap0 (Mem.of W) hr0 l1 a1 cap1 hr1)).mono fun e W' ⟨he, bel⟩ => ?_
  subst he
  exact ⟨_, rfl, _, _, _, [], _, [], hW', trodAll_mk1 (shut_bool Try.underlying4 _), (trodAll_cons_mk (Below.trod laidOut (by kernel_rfl) (of_decide_eq_true (by kernel_rfl)) k0 bel lt0) (trodAll_cons_mk (Below.trod laidOut (by kernel_rfl) (of_decide_eq_true (by kernel_rfl)) k1 bel lt1) trodAll_mk0)), rfl, bel.frame _, fun h => by cases h⟩
theorem over : Rows.btreeLoadsRow.holds Try.pinned (OpenSpec.ofChange Rows.btreeLoadsSpec) :=
  OpenClaim.holds_of_wide 3 Try.f3 rfl rfl rfl rfl rfl rfl rfl ⟨rfl, rfl, rfl, rfl, rfl⟩ rfl rfl rfl rfl rfl (by kernel_rfl) Try.func3 (by kernel_rfl)
    (of_decide_eq_true (by kernel_rfl)) (by unfold Func.isWrapper; first | (rw [if_pos (by decide +kernel)]; kernel_rfl) | (rw [if_neg (by decide +kernel)]; exact ⟨rfl, rfl⟩))
    (fun os started H enc _ => lifted os started H enc)
theorem proved : Rows.BtreeLoadsSaid := over
#print axioms proved
end Go.Proofs.Ytbmpdccoffkjgaa.btreeLoads
namespace Go.Proofs.Ytbmpdccoffkjgaa
/-- The row, under a short name, for the claim. -/
theorem btreeLoads_holds : Rows.BtreeLoadsSaid := btreeLoads.proved
end Go.Proofs.Ytbmpdccoffkjgaa
