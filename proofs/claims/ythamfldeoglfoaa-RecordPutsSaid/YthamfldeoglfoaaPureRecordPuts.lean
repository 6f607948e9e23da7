/- Proved: of a body of at most 4096 bytes the program's checksum and its record are the document's, and the fixed answer holds; there are no further conditions. -/
import Derived.Test.YthamfldeoglfoaaPRecx3
import Derived.Test.YthamfldeoglfoaaLinkC
namespace Go.Proofs.Ythamfldeoglfoaa.Pure
open Go.RowKit Go.Proofs.Ythamfldeoglfoaa.PRec Go.Proofs.YthamfldeoglfoaaW.PrintWords Go.Proofs.YthamfldeoglfoaaW.PrintLast Go.Proofs.Ythamfldeoglfoaa.Plain

theorem RecordPuts : corollarylaw04_RecordPuts.Pure := by
  intro s hs
  refine ⟨10 * s.size + 200, ?_⟩
  generalize hk : 10 * s.size + 200 = k
  unfold corollarylaw04_RecordPuts.f
  by_cases h : (s.size : Int) > 4096
  · rw [if_pos h, awake_eq _ (by omega)]
    rfl
  · rw [if_neg h]
    obtain ⟨t, ht, gt⟩ := put_eq s (by omega) k (by omega)
    obtain ⟨u, hu, gu⟩ := rput_eq s (by omega) k (by omega)
    have hlt := crcL_lt (bl s)
    rw [ht]
    rw [Option.bind_some]
    rw [sum_eq s (by omega) _ (by omega)]
    rw [Option.bind_some]
    rw [rsum_eq s (by omega) _ (by omega)]
    rw [Option.bind_some]
    rw [if_pos (w64 (by omega) (by omega)), hu]
    rw [Option.bind_some]
    rw [if_pos (by rw [bl_toList, bl_toList, gt, gu]), if_pos rfl, awake_eq _ (by omega)]
    rfl

end Go.Proofs.Ythamfldeoglfoaa.Pure
