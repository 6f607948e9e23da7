/- Proved: records laid one behind the other are told, in order, and cut off anywhere those that are there as a whole (at most 20 bodies of 4096 bytes in all), and the fixed answer holds; there are no further conditions. -/
import Derived.Test.YthamfldeoglfoaaPRecx6
import Derived.Test.YthamfldeoglfoaaLinkC
namespace Go.Proofs.Ythamfldeoglfoaa.Pure
open Go.RowKit Go.Proofs.Ythamfldeoglfoaa.PRec Go.Proofs.YthamfldeoglfoaaW.PrintWords Go.Proofs.YthamfldeoglfoaaW.PrintLast Go.Proofs.Ythamfldeoglfoaa.Plain

def tot (l : List ByteArray) : Nat := (l.map (·.size)).sum
theorem tot_append (a b : List ByteArray) : tot (a ++ b) = tot a + tot b := by simp [tot]
theorem tot_take_le (l : List ByteArray) (i : Nat) : tot (l.take i) ≤ tot l := by
  have h := congrArg tot (List.take_append_drop i l)
  rw [tot_append] at h
  omega
theorem tot_step (l : List ByteArray) (i : Nat) (h : i < l.length) : tot (l.take (i + 1)) = tot (l.take i) + (l[i]'h).size := by
  rw [List.take_succ_eq_append_getElem h, tot_append]
  simp [tot]
theorem mem_size_le (l : List ByteArray) (b : ByteArray) (h : b ∈ l) : b.size ≤ tot l := by
  obtain ⟨i, hi, rfl⟩ := List.getElem_of_mem h
  have := tot_step l i hi
  have := tot_take_le l (i + 1)
  omega
theorem rd_get (l : List ByteArray) (i : Nat) (h : i < l.length) : rdOf ByteArray.empty l (i : Int) = l[i]'h := by
  unfold rdOf
  rw [Int.toNat_natCast, List.getD_eq_getElem?_getD, List.getElem?_eq_getElem h]
  rfl
theorem small_loop (l : List ByteArray) (hl : l.length ≤ 1000) (d : Nat) : ∀ (k i : Nat), i + d = l.length → d + 1 ≤ k → tot (l.take i) ≤ 4096 →
    ∃ b, corollaryref04_Small.l0 k l 4096 (tot (l.take i) : Int) (i : Int) = some b ∧ (b = true → tot l ≤ 4096) := by
  induction d with
  | zero =>
    intro k i h hk hn
    obtain ⟨k, rfl⟩ : ∃ m, k = m + 1 := ⟨k - 1, by omega⟩
    refine ⟨true, ?_, fun _ => ?_⟩
    · simp only [corollaryref04_Small.l0]
      rw [if_neg (by omega)]
    · rw [List.take_of_length_le (by omega)] at hn
      exact hn
  | succ d ih =>
    intro k i h hk hn
    obtain ⟨k, rfl⟩ : ∃ m, k = m + 1 := ⟨k - 1, by omega⟩
    have hi : i < l.length := by omega
    have hs := tot_step l i hi
    simp only [corollaryref04_Small.l0]
    rw [if_pos (by omega), if_pos (by omega), rd_get l i hi, w64 (n := 4096 - (tot (l.take i) : Int)) (by omega) (by omega)]
    by_cases hz : ((l[i]'hi).size : Int) > 4096 - (tot (l.take i) : Int)
    · rw [if_pos hz]
      exact ⟨false, rfl, fun h => by cases h⟩
    · rw [if_neg hz, w64 (by omega) (by omega), w64 (by omega) (by omega)]
      have := ih k (i + 1) (by omega) (by omega) (by omega)
      rw [hs] at this
      exact this
theorem small_eq (l : List ByteArray) (k : Nat) (hk : 100 ≤ k) : ∃ b, corollaryref04_Small.f k l 20 4096 = some b ∧ (b = true → l.length ≤ 20 ∧ tot l ≤ 4096) := by
  unfold corollaryref04_Small.f
  by_cases h : (l.length : Int) > 20
  · rw [if_pos h]
    exact ⟨false, rfl, fun h => by cases h⟩
  · rw [if_neg h]
    obtain ⟨b, h1, h2⟩ := small_loop l (by omega) l.length k 0 (by omega) (by omega) (by simp [tot])
    exact ⟨b, h1, fun hb => ⟨by omega, h2 hb⟩⟩

theorem rowL_length_le (l : List ByteArray) : (rowL (bls l)).length = tot l + 9 * l.length := by
  induction l with
  | nil => rfl
  | cons b l ih =>
    have e : bls (b :: l) = bl b :: bls l := rfl
    rw [e, rowL_cons, List.length_append, ih, recL_length, ← bl_size]
    simp [tot]
    omega
theorem bls_take (l : List ByteArray) (i : Nat) : bls (l.take i) = (bls l).take i := by simp [bls]
theorem row_split (bs : List (List UInt8)) (i : Nat) : rowL bs = rowL (bs.take i) ++ rowL (bs.drop i) := by
  unfold rowL
  rw [← List.flatten_append, ← List.map_append, List.take_append_drop]
/-- What is told of a cut row. -/
theorem cut_row (l : List ByteArray) (ht : tot l ≤ 4096) (cut wh : Nat) (h0 : (rowL (bls (l.take wh))).length ≤ cut)
    (h1 : wh < l.length → cut < (rowL (bls (l.take (wh + 1)))).length) :
    allL ((rowL (bls l)).take cut) = (bls (l.take wh), ((rowL (bls l)).take cut).drop (rowL (bls (l.take wh))).length) := by
  have hbody : ∀ b ∈ bls l, b.length ≤ 65536 := by
    intro b hb
    obtain ⟨c, hc, rfl⟩ := List.mem_map.1 hb
    have := mem_size_le l c hc
    rw [← bl_size]
    omega
  have hs := row_split (bls l) wh
  rw [← bls_take] at hs
  have e : (rowL (bls l)).take cut = rowL (bls (l.take wh)) ++ (rowL ((bls l).drop wh)).take (cut - (rowL (bls (l.take wh))).length) := by
    rw [hs, List.take_append, List.take_of_length_le h0]
  rw [e, allL_row _ (fun b hb => hbody b (by rw [bls_take] at hb; exact List.mem_of_mem_take hb)), List.drop_left]
  have hbad : (takeL ((rowL ((bls l).drop wh)).take (cut - (rowL (bls (l.take wh))).length))).1 ≠ 0 := by
    by_cases hlt : wh < l.length
    · have h1 := h1 hlt
      have hb : wh < (bls l).length := by rw [show (bls l).length = l.length from by simp [bls]]; exact hlt
      have hd : (bls l).drop wh = (bls l)[wh]'hb :: (bls l).drop (wh + 1) := List.drop_eq_getElem_cons hb
      have hlen := hbody ((bls l)[wh]'hb) (List.getElem_mem hb)
      have hsz : (rowL (bls (l.take (wh + 1)))).length = (rowL (bls (l.take wh))).length + ((bls l)[wh]'hb).length + 9 := by
        rw [bls_take, bls_take, List.take_succ_eq_append_getElem hb, rowL_snoc, List.length_append, recL_length]
        omega
      rw [hd, rowL_cons, List.take_append_of_le_length (by rw [recL_length]; omega)]
      exact takeL_cut _ hlen _ (by omega)
    · have hd : (bls l).drop wh = [] := List.drop_of_length_le (by simp [bls]; omega)
      rw [hd]
      simp [rowL, takeL_nil]
  rw [allL_bad hbad]
  simp

theorem row_end (l : List ByteArray) (hl : l.length ≤ 20) (ht : tot l ≤ 4096) (a1 : Int) (s : ByteArray) (wh : Nat) (k : Nat) (hk : 60000 ≤ k) (hs : bl s = rowL (bls l)) (hw : wh ≤ l.length)
    (h0 : wh = 0 ∨ ((rowL (bls (l.take wh))).length : Int) ≤ a1) (h1 : wh < l.length → a1 < ((rowL (bls (l.take (wh + 1)))).length : Int)) (i : Nat) (hi : ¬ i < l.length) :
    corollarylaw04_RecordRow.l0 (k + 1) l a1 s (wh : Int) ((rowL (bls (l.take wh))).length : Int) l (l.length : Int) (i : Int) = some true := by
  have hz : s.size = tot l + 9 * l.length := by rw [bl_size, hs, rowL_length_le]
  have hbody : ∀ b ∈ bls l, b.length ≤ 65536 := by
    intro b hb
    obtain ⟨c, hc, rfl⟩ := List.mem_map.1 hb
    have := mem_size_le l c hc
    rw [← bl_size]
    omega
  rw [corollarylaw04_RecordRow.l0, if_neg (by omega)]
  obtain ⟨m, r, hm, m1, r1⟩ := all_eq s (by omega) k (by omega)
  have hall : allL (bl s) = (bls l, []) := by
    have := allL_row (bls l) hbody []
    rw [List.append_nil] at this
    rw [hs, this, allL_bad (by rw [takeL_nil]; decide)]
    simp
  rw [hall] at m1 r1
  rw [hm, Option.bind_some, same_eq m l (by have := congrArg List.length m1; simp [bls] at this; omega) m1 k (by have := congrArg List.length m1; simp [bls] at this; omega), Option.bind_some, if_pos rfl]
  obtain ⟨k, rfl⟩ : ∃ m, k = m + 1 + 1 := ⟨k - 2, by omega⟩
  have hr : (r.toList != ([] : List UInt8)) = false := by rw [bl_toList, r1]; rfl
  show corollarylaw04_RecordRow.j1 (k + 1 + 1) l a1 s (wh : Int) _ (r.toList != []) = some true
  rw [hr, corollarylaw04_RecordRow.j1, if_neg (by decide)]
  by_cases hneg : a1 < 0
  · rw [if_pos hneg, corollarylaw04_RecordRow.j2, if_pos rfl, awake_eq k (by omega)]
    rfl
  · rw [if_neg hneg]
    by_cases hbig : a1 > (s.size : Int)
    · rw [decide_eq_true hbig, corollarylaw04_RecordRow.j2, if_pos rfl, awake_eq k (by omega)]
      rfl
    · rw [decide_eq_false hbig, corollarylaw04_RecordRow.j2, if_neg (by decide), if_pos (by omega), if_pos (by omega)]
      obtain ⟨cut, rfl⟩ := Int.eq_ofNat_of_zero_le (by omega : 0 ≤ a1)
      have h0' : (rowL (bls (l.take wh))).length ≤ cut := by
        rcases h0 with h | h
        · subst h; simp [bls, rowL]
        · omega
      have hc := cut_row l ht cut wh h0' (fun h => by have := h1 h; omega)
      have hx : bl (s.extract 0 ((cut : Int)).toNat) = (rowL (bls l)).take cut := by rw [bl_extract, hs, Int.toNat_natCast, List.drop_zero]
      obtain ⟨m, r, hm, m1, r1⟩ := all_eq (s.extract 0 ((cut : Int)).toNat) (by rw [bl_size, hx, List.length_take]; omega) k (by rw [bl_size, hx, List.length_take]; omega)
      rw [hx, hc] at m1 r1
      have hml : m.length = wh := by have := congrArg List.length m1; simp [bls] at this; omega
      rw [hm, Option.bind_some, if_pos (by omega), if_pos (by omega), Int.toNat_natCast, same_eq m (l.take wh) (by omega) m1 k (by omega), Option.bind_some, if_pos rfl, if_pos (by omega), if_pos (by omega), if_pos, awake_eq k (by omega)]
      · rfl
      · rw [bl_toList, bl_toList, r1, bl_extract, hs, Int.toNat_natCast, Int.toNat_natCast]
theorem row_loop (l : List ByteArray) (hl : l.length ≤ 20) (ht : tot l ≤ 4096) (a1 : Int) (d : Nat) : ∀ (k i wh : Nat) (s : ByteArray), i + d = l.length → 70000 + d ≤ k → bl s = rowL (bls (l.take i)) → wh ≤ i →
    (wh = 0 ∨ ((rowL (bls (l.take wh))).length : Int) ≤ a1) → (wh < i → a1 < ((rowL (bls (l.take (wh + 1)))).length : Int)) →
    corollarylaw04_RecordRow.l0 k l a1 s (wh : Int) ((rowL (bls (l.take wh))).length : Int) l (l.length : Int) (i : Int) = some true := by
  induction d with
  | zero =>
    intro k i wh s h hk hs hw h0 h1
    obtain ⟨k, rfl⟩ : ∃ m, k = m + 1 := ⟨k - 1, by omega⟩
    obtain rfl : i = l.length := by omega
    rw [List.take_length] at hs
    exact row_end l hl ht a1 s wh k (by omega) hs hw h0 h1 l.length (by omega)
  | succ d ih =>
    intro k i wh s h hk hs hw h0 h1
    obtain ⟨k, rfl⟩ : ∃ m, k = m + 1 := ⟨k - 1, by omega⟩
    have hi : i < l.length := by omega
    have hb := mem_size_le l (l[i]'hi) (List.getElem_mem hi)
    have hz : s.size = tot (l.take i) + 9 * i := by rw [bl_size, hs, rowL_length_le, List.length_take]; omega
    have hti := tot_take_le l i
    have hst := tot_step l i hi
    obtain ⟨t, hp, gt⟩ := put_eq (l[i]'hi) (by omega) k (by omega)
    have lt : t.size = (l[i]'hi).size + 9 := by rw [bl_size, gt, recL_length, ← bl_size]
    rw [corollarylaw04_RecordRow.l0, if_pos (by omega), if_pos (by omega), if_pos (by omega), rd_get l i hi, hp, Option.bind_some, if_pos rfl]
    dsimp only
    rw [if_pos (by omega)]
    have hs2 : bl (s ++ t) = rowL (bls (l.take (i + 1))) := by
      rw [bl_append, hs, gt, List.take_succ_eq_append_getElem hi]
      have e : bls (l.take i ++ [l[i]'hi]) = bls (l.take i) ++ [bl (l[i]'hi)] := List.map_append
      rw [e]
      exact (rowL_snoc (bl (l[i]'hi)) (bls (l.take i))).symm
    have hz2 : ((s ++ t).size : Int) = ((rowL (bls (l.take (i + 1)))).length : Int) := by rw [bl_size, hs2]
    have mono : ∀ a b, a ≤ b → b ≤ l.length → (rowL (bls (l.take a))).length ≤ (rowL (bls (l.take b))).length := by
      intro a b hab hbl
      rw [rowL_length_le, rowL_length_le, List.length_take, List.length_take]
      have := tot_take_le (l.take b) a
      rw [List.take_take, Nat.min_eq_left hab] at this
      omega
    by_cases hc : a1 ≥ ((s ++ t).size : Int)
    · rw [if_pos hc]
      have hwi : wh = i := by
        by_cases hlt : wh < i
        · have := h1 hlt
          have := mono (wh + 1) (i + 1) (by omega) (by omega)
          omega
        · omega
      subst hwi
      rw [hz2, w64 (by omega) (by omega)]
      exact ih k (wh + 1) (wh + 1) (s ++ t) (by omega) (by omega) hs2 (by omega) (.inr (by omega)) (fun h => by omega)
    · rw [if_neg hc, w64 (by omega) (by omega)]
      refine ih k (i + 1) wh (s ++ t) (by omega) (by omega) hs2 (by omega) h0 (fun _ => ?_)
      by_cases hlt : wh < i
      · exact h1 hlt
      · obtain rfl : wh = i := by omega
        omega
theorem RecordRow : corollarylaw04_RecordRow.Pure := by
  intro l a1 _ _ _
  refine ⟨80000, ?_⟩
  unfold corollarylaw04_RecordRow.f
  obtain ⟨b, h1, h2⟩ := small_eq l 80000 (by omega)
  rw [h1, Option.bind_some]
  cases b with
  | false =>
    rw [if_neg (by decide), awake_eq _ (by omega)]
    rfl
  | true =>
    obtain ⟨hl, ht⟩ := h2 rfl
    rw [if_pos rfl]
    exact row_loop l hl ht a1 l.length 80000 0 0 ⟨#[]⟩ (by omega) (by omega) rfl (by omega) (.inl rfl) (fun h => by omega)
end Go.Proofs.Ythamfldeoglfoaa.Pure
