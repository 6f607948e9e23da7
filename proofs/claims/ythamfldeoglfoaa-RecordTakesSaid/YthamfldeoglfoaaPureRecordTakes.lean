/- Proved: the record at the beginning of any bytes (at most 4096), and all records, are told or refused as the document says, and the fixed answer holds; there are no further conditions. -/
import Derived.Test.YthamfldeoglfoaaPRecx5
import Derived.Test.YthamfldeoglfoaaLinkC
namespace Go.Proofs.Ythamfldeoglfoaa.Pure
open Go.RowKit Go.Proofs.Ythamfldeoglfoaa.PRec Go.Proofs.YthamfldeoglfoaaW.PrintWords Go.Proofs.YthamfldeoglfoaaW.PrintLast Go.Proofs.Ythamfldeoglfoaa.Plain

theorem bls_length (l : List ByteArray) : (bls l).length = l.length := by simp [bls]
theorem RecordTakes : corollarylaw04_RecordTakes.Pure := by
  intro s hs
  refine ⟨11 * s.size + 10000, ?_⟩
  generalize hk : 11 * s.size + 10000 = k
  unfold corollarylaw04_RecordTakes.f
  by_cases h : (s.size : Int) > 4096
  · rw [if_pos h, awake_eq _ (by omega)]
    rfl
  · rw [if_neg h]
    obtain ⟨a, b, h1, a1, b1⟩ := take_eq s (by omega) k (by omega)
    obtain ⟨c, d, h2, c1, d1⟩ := rtake_eq s (by omega) k (by omega)
    obtain ⟨l, r, h3, l1, r1⟩ := all_eq s (by omega) k (by omega)
    obtain ⟨m, q, h4, m1, q1⟩ := rall_eq s (by omega) k (by omega)
    have hl := (allL_size s.size (bl s) (by rw [← bl_size]; omega)).1
    rw [← l1, bls_length] at hl
    rw [h1]
    simp only [Option.bind_some]
    rw [h2]
    simp only [Option.bind_some]
    rw [h3]
    simp only [Option.bind_some]
    rw [h4]
    simp only [Option.bind_some]
    rw [if_pos (by rw [bl_toList, bl_toList, a1, c1]), if_pos (by rw [bl_toList, bl_toList, b1, d1]), if_pos trivial, same_eq l m (by omega) (by rw [l1, m1]) _ (by omega)]
    simp only [Option.bind_some]
    rw [if_pos trivial, if_pos (by rw [bl_toList, bl_toList, r1, q1]), awake_eq _ (by omega)]
    rfl

end Go.Proofs.Ythamfldeoglfoaa.Pure
