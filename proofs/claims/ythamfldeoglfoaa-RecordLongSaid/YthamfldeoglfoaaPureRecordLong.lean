/- Proved: a body is refused just if it has more than 65536 bytes, and the fixed answer holds; there are no further conditions. -/
import Derived.Test.YthamfldeoglfoaaPRecx3
import Derived.Test.YthamfldeoglfoaaLinkC
namespace Go.Proofs.Ythamfldeoglfoaa.Pure
open Go.RowKit Go.Proofs.Ythamfldeoglfoaa.PRec Go.Proofs.YthamfldeoglfoaaW.PrintWords Go.Proofs.YthamfldeoglfoaaW.PrintLast Go.Proofs.Ythamfldeoglfoaa.Plain

theorem size_strOfNums (xs : List Int) : (strOfNums xs).size = xs.length := by rw [bl_size, bl_strOfNums, List.length_map]
theorem RecordLong : corollarylaw04_RecordLong.Pure := by
  intro m hm
  have hb : -128 ≤ m ∧ m ≤ 127 := by
    simp only [Lit.wf, IntKind.min, IntKind.max, IntKind.signed, IntKind.bits, Bool.and_eq_true, decide_eq_true_eq, if_true] at hm
    omega
  clear hm
  obtain ⟨h0, h1⟩ := hb
  refine ⟨100000, ?_⟩
  unfold corollarylaw04_RecordLong.f
  rw [w64 (n := m) (by omega) (by omega), w64 (n := 65536 + m) (by omega) (by omega), w64 (n := 65536 + m + 9) (by omega) (by omega)]
  rw [if_pos (by omega), if_pos (by omega)]
  have hz : (strOfNums (List.replicate (65536 + m).toNat 0)).size = (65536 + m).toNat := by rw [size_strOfNums, List.length_replicate]
  by_cases h : m > 0
  · rw [put_long _ (by omega)]
    simp only [Option.bind_some]
    rw [if_pos h, if_pos (by rw [bl_toList]; rfl), if_pos trivial, awake_eq _ (by omega)]
    rfl
  · obtain ⟨t, ht, gt⟩ := put_eq (strOfNums (List.replicate (65536 + m).toNat 0)) (by omega) 100000 (by omega)
    have lt : t.size = (65536 + m).toNat + 9 := by rw [bl_size, gt, recL_length, ← bl_size, hz]
    rw [ht]
    simp only [Option.bind_some]
    rw [if_neg h, if_pos (by omega), if_pos trivial, awake_eq _ (by omega)]
    rfl

end Go.Proofs.Ythamfldeoglfoaa.Pure
