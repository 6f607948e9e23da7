/- Proved: of two bodies of at most 4096 bytes the record of one begins the other's just if the bodies are equal, and the fixed answer holds; there are no further conditions. -/
import Derived.Test.YthamfldeoglfoaaPRecx3
import Derived.Test.YthamfldeoglfoaaLinkC
namespace Go.Proofs.Ythamfldeoglfoaa.Pure
open Go.RowKit Go.Proofs.Ythamfldeoglfoaa.PRec Go.Proofs.YthamfldeoglfoaaW.PrintWords Go.Proofs.YthamfldeoglfoaaW.PrintLast Go.Proofs.Ythamfldeoglfoaa.Plain

theorem apart_j0 (a b : ByteArray) (q : Bool) (h : q = false → a.size ≤ 4096 ∧ b.size ≤ 4096) : corollarylaw04_RecordApart.j0 5001 a b q = some true := by
  rw [corollarylaw04_RecordApart.j0]
  cases q with
  | true => rw [if_pos rfl, awake_eq _ (by omega)]; rfl
  | false =>
    obtain ⟨ha, hb⟩ := h rfl
    rw [if_neg (by decide)]
    obtain ⟨t, ht, gt⟩ := put_eq a (by omega) 5000 (by omega)
    obtain ⟨u, hu, gu⟩ := put_eq b (by omega) 5000 (by omega)
    rw [ht]
    simp only [Option.bind_some]
    rw [hu]
    simp only [Option.bind_some]
    have lt : t.size = a.size + 9 := by rw [bl_size, gt, recL_length, ← bl_size]
    have lu : u.size = b.size + 9 := by rw [bl_size, gu, recL_length, ← bl_size]
    have ha' : (bl a).length ≤ 65536 := by rw [← bl_size]; omega
    have hb' : (bl b).length ≤ 65536 := by rw [← bl_size]; omega
    by_cases hz : (t.size : Int) ≤ u.size
    · rw [if_pos hz, if_pos (by omega), if_pos trivial, if_pos trivial, if_pos, awake_eq _ (by omega)]
      · rfl
      · rw [bl_toList, bl_toList, bl_toList, bl_toList, bl_extract, Int.toNat_natCast, List.drop_zero, gt, gu]
        by_cases e : bl a = bl b
        · have e2 : (recL (bl b)).take t.size = recL (bl a) := by
            rw [e, List.take_of_length_le]
            rw [recL_length, ← e, ← bl_size]
            omega
          rw [e2, e]
          simp
        · have e2 : ¬ (recL (bl b)).take t.size = recL (bl a) := by
            intro h
            exact e (recL_apart ha' hb' (by rw [← h, List.take_append_drop]))
          rw [beq_eq_false_iff_ne.2 e2, beq_eq_false_iff_ne.2 e]
          rfl
    · rw [if_neg hz, if_pos trivial, if_pos trivial, if_pos, awake_eq _ (by omega)]
      · rfl
      · rw [bl_toList, bl_toList]
        have e : ¬ bl a = bl b := by
          intro h
          have := congrArg List.length h
          rw [← bl_size, ← bl_size] at this
          omega
        rw [beq_eq_false_iff_ne.2 e]
        rfl
theorem RecordApart : corollarylaw04_RecordApart.Pure := by
  intro a b _ _
  refine ⟨5001, ?_⟩
  unfold corollarylaw04_RecordApart.f
  by_cases h : (a.size : Int) > 4096
  · rw [if_pos h]
    exact apart_j0 a b true (fun h => by cases h)
  · rw [if_neg h]
    refine apart_j0 a b _ (fun hq => ?_)
    have := of_decide_eq_false hq
    omega

end Go.Proofs.Ythamfldeoglfoaa.Pure
