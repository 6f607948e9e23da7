/- Delete, of a whole tree. -/
import Derived.Test.YtbmpdccoffkjgaaByc
namespace Go.Proofs.Ytbmpdccoffkjgaa.Ow
open Go
set_option linter.unusedVariables false
theorem del_inv {k : ByteArray} {T : TS} {h : Nat} {t : Tr} (hI : TInv T h t) (hk : hasK (flat h t) k = true) (hb : T.nodes.length ≤ 549755813888) (hc : T.count ≤ 549755813888) :
    ∃ T' h' t', DelT k T T' ∧ TInv T' h' t' ∧ flat h' t' = delS (flat h t) k ∧ T'.nodes.length = T.nodes.length := by
  have g := hI.gd.siz
  obtain ⟨m, T1, t1, q1, q2, q3, q4, q5, q6, q7⟩ := rem_law (lo := 0) ⟨hI.lay, hI.siz, hI.nd, hI.lt⟩ hI.srt hk (.inr rfl) hI.rt hb
  have hf := q2.free_le
  have hcnt := delS_len hI.srt k
  rw [hk, if_pos rfl] at hcnt
  have hT := hI.cnt
  have hroot : T1.root = t1.i := by rw [q3.root, hI.root, q4]
  have hs1 : Srt (flat h t1) := by rw [q5]; exact delS_srt hI.srt k
  have hc1 : T1.count - 1 = (flat h t1).length := by rw [q5]; omega
  have hq1 : RemR k m T T.root T1 := by rw [hI.root]; exact q1
  by_cases hx : t1.ps ≠ [] ∨ h = 0
  · refine ⟨⟨T1.nodes, T1.free, T1.root, T1.count - 1⟩, h, t1, ⟨m, T1, t1.ps, t1.ks.map Tr.i, hq1, ⟨by omega, by omega⟩, by rw [hroot]; exact q2.lay.at, q2.siz.le, ks_len q2.lay q2.siz, by omega, .inl ⟨?_, rfl⟩⟩, ⟨q2.lay, q2.siz, fun h0 => ?_, hs1, hroot, hc1, q2.nd, q2.lt⟩, q5, q7⟩
    · rcases hx with hx | hx
      · exact .inl hx
      · right; rw [ks0 q2.lay hx]; rfl
    · rcases hx with hx | hx
      · rcases hps : t1.ps with _ | ⟨p, B⟩
        · exact absurd hps hx
        · simp
      · exact absurd hx h0
  · have hp0 : t1.ps = [] := Classical.not_not.1 fun e => hx (.inl e)
    obtain ⟨h', rfl⟩ : ∃ h', h = h' + 1 := by
      cases h with
      | zero => exact absurd (.inr rfl) hx
      | succ h' => exact ⟨h', rfl⟩
    obtain ⟨i, ps, ks⟩ := t1
    have hps : ps = [] := hp0
    subst hps
    have hkl : ks.length = 0 + 1 := q2.lay.1
    obtain ⟨c, rfl⟩ : ∃ c, ks = [] ++ c :: [] := by
      cases ks with
      | nil => simp at hkl
      | cons c r => cases r with
        | nil => exact ⟨c, rfl⟩
        | cons d r => simp at hkl
    have hkg := q2.kid
    have hnd : (i :: (ids h' c ++ T1.free)).Nodup := by
      have := q2.nd
      rw [ids_succ] at this
      simpa [idl] using this
    have hni := List.nodup_cons.1 hnd
    have hil : i < T1.nodes.length := q2.lt i (List.mem_append_left _ (ids_self _ _))
    have hri : T1.root = i := hroot
    have hfl : flat (h' + 1) (.node i [] ([] ++ c :: [])) = flat h' c := by
      show flat h' c ++ suf [] [] = _
      simp [suf]
    refine ⟨⟨(dropL T1 T1.root).nodes, (dropL T1 T1.root).free, c.i, T1.count - 1⟩, h', c, ⟨m, T1, [], (([] ++ c :: [] : List Tr)).map Tr.i, hq1, ⟨by omega, by omega⟩, by rw [hroot]; exact q2.lay.at, by simp, by simp, by omega, .inr ⟨c.i, rfl, rfl, rfl⟩⟩,
      ⟨?_, hkg.siz.mono (Nat.zero_le _), fun _ => Nat.le_trans (by decide) hkg.siz.ge, by rw [hfl] at hs1; exact hs1, rfl, by rw [← hfl]; exact hc1, ?_, ?_⟩, by rw [← hfl]; exact q5, ?_⟩
    · refine hkg.lay.frame fun j hj => ?_
      show (T1.nodes.set T1.root _)[j]? = _
      rw [hri]
      exact List.getElem?_set_ne fun e => hni.1 (by rw [e]; exact List.mem_append_left _ hj)
    · show (ids h' c ++ (T1.free ++ [T1.root])).Nodup
      rw [hri, ← List.append_assoc]
      exact (List.perm_append_singleton i _).nodup_iff.2 hnd
    · intro x hx
      show x < (T1.nodes.set T1.root _).length
      rw [List.length_set]
      rw [show (dropL T1 T1.root).free = T1.free ++ [T1.root] from rfl, hri, ← List.append_assoc] at hx
      rcases List.mem_append.1 hx with h1 | h1
      · exact hkg.lt x h1
      · rw [List.mem_singleton.1 h1]; exact hil
    · show (T1.nodes.set T1.root _).length = _
      rw [List.length_set]; exact q7
end Go.Proofs.Ytbmpdccoffkjgaa.Ow
