/- Proved: of a record of which one byte is turned nothing is told, but where the bytes that tell its length stand, for bodies of at most 100 bytes; there are no further conditions. -/
import Derived.Test.YthamfldeoglfoaaPRecx3
import Derived.Test.YthamfldeoglfoaaLinkB
namespace Go.Proofs.Ythamfldeoglfoaa.Turned
set_option linter.unusedSimpArgs false
set_option linter.unusedVariables false
open Go.RowKit Go.Proofs.YthamfldeoglfoaaW.PrintWords Go.Proofs.YthamfldeoglfoaaW.PrintLast Go.Proofs.YthamfldeoglfoaaW.PrintMore Go.Proofs.Ythamfldeoglfoaa.PRec


theorem bw_cell (W : World) (t : ByteArray) (i : Int) (h0 : 0 ≤ i) (h1 : i < (t.size : Int)) : (Lib.bytesWorld W 5 t).cell? ⟨W.heap.size, i.toNat, none⟩ = some (.int .u8 (bt t i)) := by
  have hj : i.toNat < t.size := by omega
  rw [Lib.bytesWorld_cell W 5 t _ hj, ← rd_bytesOf]
  have h' : i.toNat < t.data.toList.length := by rw [data_length]; exact hj
  simp [rd, bytesOf, List.getD_eq_getElem?_getD, List.getElem?_eq_getElem h']
theorem bw_frozen (W : World) (t : ByteArray) (j : Nat) (h1 : j < t.size) : (Lib.bytesWorld W 5 t).frozen? ⟨W.heap.size, j, none⟩ = false := by
  have hz : t.size ≤ (Lib.bytesCells W 5 t).size := by simp [Lib.bytesCells]
  simp [World.frozen?, Lib.bytesWorld_at_new]
  omega
theorem bw_below {w W : World} (h : Below w.heap.size w W) (t : ByteArray) (j : Nat) (v : Value) : Below w.heap.size w ((Lib.bytesWorld W 5 t).setCell ⟨W.heap.size, j, none⟩ v) :=
  (bytes_below h h.size 5 t).setCell h.size v
theorem bw_reads (W : World) (t : ByteArray) (ht : t.size ≤ 9223372036854775807) (i v : Int) (h0 : 0 ≤ i) (h1 : i < (t.size : Int)) :
    ReadsInt ((Lib.bytesWorld W 5 t).setCell ⟨W.heap.size, i.toNat, none⟩ (.int .u8 v)) .u8 (some ⟨W.heap.size, 0, none⟩) t.size ((bytesOf t).set i.toNat v) := by
  obtain ⟨hl, _, hc⟩ := bytes_reads W 5 t ht
  refine ⟨by rw [List.length_set]; exact hl, ht, fun hp => ⟨_, rfl, fun j hj => ?_⟩⟩
  obtain ⟨ad, e, hc⟩ := hc hp
  cases e
  have hcj := hc j hj
  rw [add_plain] at hcj ⊢
  by_cases e : i.toNat = j
  · subst e
    rw [World.cell?_setCell_same _ _ _ hcj, List.getD_eq_getElem?_getD, List.getElem?_set_self (by rw [hl]; exact hj)]
    rfl
  · rw [World.cell?_setCell_other _ _ _ _ (by intro h; injection h; omega), hcj, List.getD_eq_getElem?_getD, List.getD_eq_getElem?_getD, List.getElem?_set_ne e]
theorem bw_conv (W : World) (t : ByteArray) (ht : t.size ≤ 9223372036854775807) (i v : Int) (c : Nat) (h0 : 0 ≤ i) (h1 : i < (t.size : Int)) :
    (convert 32 9 (.slice (some ⟨W.heap.size, 0, none⟩) t.size c)).run Try.prog ((Lib.bytesWorld W 5 t).setCell ⟨W.heap.size, i.toNat, none⟩ (.int .u8 v)) = .ok (.string (strOfNums ((bytesOf t).set i.toNat v))) ((Lib.bytesWorld W 5 t).setCell ⟨W.heap.size, i.toNat, none⟩ (.int .u8 v)) :=
  string_of_reads Try.underlying32 Try.underlying5 Try.underlying9 (bw_reads W t ht i v h0 h1)

set_option maxHeartbeats 8000000 in
set_option maxRecDepth 100000 in
theorem long_awake (k : Nat) (a0 : ByteArray) (a1 a2 : Int) (a3 : ByteArray) (w : World) (h : corollarylaw04_awake.f k = some true) (c : 100 < a0.size) :
    Calls Try.prog 5 #[.string a0, .int .i64 a1, .int .u8 a2, .string a3] w fun e w' => e = .returned (.bool true) ∧ Below w.heap.size w w' := by
  have HB := Aside0.mk (Below.refl w.heap.size w)
  have A2 := Aside0.mk h
  clear h
  have c0 : decide (100 < (a0.size : Int)) = true := decide_eq_true (by omega)
  have c1 : decide (100 < a0.size) = true := decide_eq_true c
  clear c
  go_enter Try.func5, Try.ntmps5
  go_wp2_with (first | ((with_reducible refine gate_callee (f := 9) rfl ?_); refine goesL_ (some 22) rfl rfl Try.func9 (by kernel_rfl) rfl #[] rfl (by (try simp only [List.map_toArray, List.map_nil]); first | done | rfl) ?_; (with_reducible refine (corollarylaw04_awake.calls k true _ A2.out).mono ?_); rintro e w7 ⟨rfl, hb⟩; refine ⟨_, rfl, ?_⟩; have n0_ := Aside0.mk (below_step (by repeat (first | (with_reducible first | exact HB.out | apply below_alloc | apply pw_below_drewN | apply below_drew1) | exact HB.out)) hb); clear HB; have HB := n0_; clear n0_; (try clear hb)))
  go_ret
  exact ⟨by first | rfl | (simp; done), by repeat (first | (with_reducible first | exact HB.out | apply below_alloc | apply pw_below_drewN | apply below_drew1) | exact HB.out)⟩

set_option maxHeartbeats 8000000 in
set_option maxRecDepth 100000 in
theorem zero_awake (k : Nat) (a0 : ByteArray) (a1 a2 : Int) (a3 : ByteArray) (w : World) (h : corollarylaw04_awake.f k = some true) (hs : a0.size ≤ 100) (hz : a2 = 0) :
    Calls Try.prog 5 #[.string a0, .int .i64 a1, .int .u8 a2, .string a3] w fun e w' => e = .returned (.bool true) ∧ Below w.heap.size w w' := by
  have HB := Aside0.mk (Below.refl w.heap.size w)
  have A2 := Aside0.mk h
  clear h
  have c0 : decide (100 < (a0.size : Int)) = false := decide_eq_false (by omega)
  have c1 : decide (100 < a0.size) = false := decide_eq_false (by omega)
  clear hs
  have c2 : (a2 == 0) = true := by rw [hz]; rfl
  clear hz
  go_enter Try.func5, Try.ntmps5
  go_wp2_with (first | ((with_reducible refine gate_callee (f := 9) rfl ?_); refine goesL_ (some 22) rfl rfl Try.func9 (by kernel_rfl) rfl #[] rfl (by (try simp only [List.map_toArray, List.map_nil]); first | done | rfl) ?_; (with_reducible refine (corollarylaw04_awake.calls k true _ A2.out).mono ?_); rintro e w7 ⟨rfl, hb⟩; refine ⟨_, rfl, ?_⟩; have n0_ := Aside0.mk (below_step (by repeat (first | (with_reducible first | exact HB.out | apply below_alloc | apply pw_below_drewN | apply below_drew1) | exact HB.out)) hb); clear HB; have HB := n0_; clear n0_; (try clear hb)))
  go_ret
  exact ⟨by first | rfl | (simp; done), by repeat (first | (with_reducible first | exact HB.out | apply below_alloc | apply pw_below_drewN | apply below_drew1) | exact HB.out)⟩

set_option maxHeartbeats 8000000 in
set_option maxRecDepth 100000 in
theorem out_neg (k : Nat) (a0 : ByteArray) (a1 a2 : Int) (a3 : ByteArray) (w : World) (h : corollarylaw04_awake.f k = some true) (hs : a0.size ≤ 100) (hz : a2 ≠ 0) (t : ByteArray) (ht : record_Put.f k a0 = some (t, 0)) (hn : a1 < 0) :
    Calls Try.prog 5 #[.string a0, .int .i64 a1, .int .u8 a2, .string a3] w fun e w' => e = .returned (.bool true) ∧ Below w.heap.size w w' := by
  have HB := Aside0.mk (Below.refl w.heap.size w)
  have A2 := Aside0.mk h
  clear h
  have c0 : decide (100 < (a0.size : Int)) = false := decide_eq_false (by omega)
  have c1 : decide (100 < a0.size) = false := decide_eq_false (by omega)
  clear hs
  have c2 : (a2 == 0) = false := beq_eq_false_iff_ne.mpr hz
  clear hz
  have A3 := Aside0.mk ht
  clear ht
  have c3 : decide (a1 < 0) = true := decide_eq_true hn
  clear hn
  go_enter Try.func5, Try.ntmps5
  go_wp2_with (first | ((with_reducible refine gate_callee (f := 10) rfl ?_); refine goesL_ (some 25) rfl rfl Try.func10 (by kernel_rfl) rfl #[.string a0] rfl (by (try simp only [List.map_toArray, List.map_nil]); first | done | rfl) ?_; (with_reducible refine (record_Put.calls k a0 t 0 _ A3.out).mono ?_); rintro e w7 ⟨rfl, hb⟩; refine ⟨_, rfl, ?_⟩; have n0_ := Aside0.mk (below_step (by repeat (first | (with_reducible first | exact HB.out | apply below_alloc | apply pw_below_drewN | apply below_drew1) | exact HB.out)) hb); clear HB; have HB := n0_; clear n0_; (try clear hb)) | ((with_reducible refine gate_callee (f := 9) rfl ?_); refine goesL_ (some 46) rfl rfl Try.func9 (by kernel_rfl) rfl #[] rfl (by (try simp only [List.map_toArray, List.map_nil]); first | done | rfl) ?_; (with_reducible refine (corollarylaw04_awake.calls k true _ A2.out).mono ?_); rintro e w7 ⟨rfl, hb⟩; refine ⟨_, rfl, ?_⟩; have n0_ := Aside0.mk (below_step (by repeat (first | (with_reducible first | exact HB.out | apply below_alloc | apply pw_below_drewN | apply below_drew1) | exact HB.out)) hb); clear HB; have HB := n0_; clear n0_; (try clear hb)))
  go_ret
  exact ⟨by first | rfl | (simp; done), by repeat (first | (with_reducible first | exact HB.out | apply below_alloc | apply pw_below_drewN | apply below_drew1) | exact HB.out)⟩

set_option maxHeartbeats 8000000 in
set_option maxRecDepth 100000 in
theorem out_far (k : Nat) (a0 : ByteArray) (a1 a2 : Int) (a3 : ByteArray) (w : World) (h : corollarylaw04_awake.f k = some true) (hs : a0.size ≤ 100) (hz : a2 ≠ 0) (t : ByteArray) (ht : record_Put.f k a0 = some (t, 0)) (hn : 0 ≤ a1) (hf : (t.size : Int) ≤ a1) :
    Calls Try.prog 5 #[.string a0, .int .i64 a1, .int .u8 a2, .string a3] w fun e w' => e = .returned (.bool true) ∧ Below w.heap.size w w' := by
  have HB := Aside0.mk (Below.refl w.heap.size w)
  have A2 := Aside0.mk h
  clear h
  have c0 : decide (100 < (a0.size : Int)) = false := decide_eq_false (by omega)
  have c1 : decide (100 < a0.size) = false := decide_eq_false (by omega)
  clear hs
  have c2 : (a2 == 0) = false := beq_eq_false_iff_ne.mpr hz
  clear hz
  have A3 := Aside0.mk ht
  clear ht
  have c3 : decide (a1 < 0) = false := decide_eq_false (by omega)
  have c4 : decide ((t.size : Int) ≤ a1) = true := decide_eq_true hf
  clear hn hf
  go_enter Try.func5, Try.ntmps5
  go_wp2_with (first | ((with_reducible refine gate_callee (f := 10) rfl ?_); refine goesL_ (some 25) rfl rfl Try.func10 (by kernel_rfl) rfl #[.string a0] rfl (by (try simp only [List.map_toArray, List.map_nil]); first | done | rfl) ?_; (with_reducible refine (record_Put.calls k a0 t 0 _ A3.out).mono ?_); rintro e w7 ⟨rfl, hb⟩; refine ⟨_, rfl, ?_⟩; have n0_ := Aside0.mk (below_step (by repeat (first | (with_reducible first | exact HB.out | apply below_alloc | apply pw_below_drewN | apply below_drew1) | exact HB.out)) hb); clear HB; have HB := n0_; clear n0_; (try clear hb)) | ((with_reducible refine gate_callee (f := 9) rfl ?_); refine goesL_ (some 46) rfl rfl Try.func9 (by kernel_rfl) rfl #[] rfl (by (try simp only [List.map_toArray, List.map_nil]); first | done | rfl) ?_; (with_reducible refine (corollarylaw04_awake.calls k true _ A2.out).mono ?_); rintro e w7 ⟨rfl, hb⟩; refine ⟨_, rfl, ?_⟩; have n0_ := Aside0.mk (below_step (by repeat (first | (with_reducible first | exact HB.out | apply below_alloc | apply pw_below_drewN | apply below_drew1) | exact HB.out)) hb); clear HB; have HB := n0_; clear n0_; (try clear hb)))
  go_ret
  exact ⟨by first | rfl | (simp; done), by repeat (first | (with_reducible first | exact HB.out | apply below_alloc | apply pw_below_drewN | apply below_drew1) | exact HB.out)⟩

set_option maxHeartbeats 8000000 in
set_option maxRecDepth 100000 in
theorem out_near (k : Nat) (a0 : ByteArray) (a1 a2 : Int) (a3 : ByteArray) (w : World) (h : corollarylaw04_awake.f k = some true) (hs : a0.size ≤ 100) (hz : a2 ≠ 0) (t : ByteArray) (ht : record_Put.f k a0 = some (t, 0)) (hn : 0 < a1) (hf : a1 < (t.size : Int)) (h5 : a1 < 5) :
    Calls Try.prog 5 #[.string a0, .int .i64 a1, .int .u8 a2, .string a3] w fun e w' => e = .returned (.bool true) ∧ Below w.heap.size w w' := by
  have HB := Aside0.mk (Below.refl w.heap.size w)
  have A2 := Aside0.mk h
  clear h
  have c0 : decide (100 < (a0.size : Int)) = false := decide_eq_false (by omega)
  have c1 : decide (100 < a0.size) = false := decide_eq_false (by omega)
  clear hs
  have c2 : (a2 == 0) = false := beq_eq_false_iff_ne.mpr hz
  clear hz
  have A3 := Aside0.mk ht
  clear ht
  have c3 : decide (a1 < 0) = false := decide_eq_false (by omega)
  have c4 : decide ((t.size : Int) ≤ a1) = false := decide_eq_false (by omega)
  have c5 : decide (0 < a1) = true := decide_eq_true hn
  have c6 : decide (a1 < 5) = true := decide_eq_true h5
  clear hn hf h5
  go_enter Try.func5, Try.ntmps5
  go_wp2_with (first | ((with_reducible refine gate_callee (f := 10) rfl ?_); refine goesL_ (some 25) rfl rfl Try.func10 (by kernel_rfl) rfl #[.string a0] rfl (by (try simp only [List.map_toArray, List.map_nil]); first | done | rfl) ?_; (with_reducible refine (record_Put.calls k a0 t 0 _ A3.out).mono ?_); rintro e w7 ⟨rfl, hb⟩; refine ⟨_, rfl, ?_⟩; have n0_ := Aside0.mk (below_step (by repeat (first | (with_reducible first | exact HB.out | apply below_alloc | apply pw_below_drewN | apply below_drew1) | exact HB.out)) hb); clear HB; have HB := n0_; clear n0_; (try clear hb)) | ((with_reducible refine gate_callee (f := 9) rfl ?_); refine goesL_ (some 46) rfl rfl Try.func9 (by kernel_rfl) rfl #[] rfl (by (try simp only [List.map_toArray, List.map_nil]); first | done | rfl) ?_; (with_reducible refine (corollarylaw04_awake.calls k true _ A2.out).mono ?_); rintro e w7 ⟨rfl, hb⟩; refine ⟨_, rfl, ?_⟩; have n0_ := Aside0.mk (below_step (by repeat (first | (with_reducible first | exact HB.out | apply below_alloc | apply pw_below_drewN | apply below_drew1) | exact HB.out)) hb); clear HB; have HB := n0_; clear n0_; (try clear hb)))
  go_ret
  exact ⟨by first | rfl | (simp; done), by repeat (first | (with_reducible first | exact HB.out | apply below_alloc | apply pw_below_drewN | apply below_drew1) | exact HB.out)⟩
set_option maxHeartbeats 8000000 in
set_option maxRecDepth 100000 in
theorem main_far (k : Nat) (a0 : ByteArray) (a1 a2 : Int) (a3 : ByteArray) (w : World) (h : corollarylaw04_awake.f k = some true) (hs : a0.size ≤ 100) (hz : a2 ≠ 0) (t : ByteArray) (ht : record_Put.f k a0 = some (t, 0)) (hf : a1 < (t.size : Int)) (h5 : 5 ≤ a1) (hts : t.size ≤ 1000) (err : Int) (he : err ≠ 0) (ht4 : record_Take.f k (strOfNums ((bytesOf t).set a1.toNat (Go.bits .xor .u8 (bt t a1) a2)) ++ a3) = some (⟨#[]⟩, ⟨#[]⟩, err)) (hsz : (strOfNums ((bytesOf t).set a1.toNat (Go.bits .xor .u8 (bt t a1) a2))).size + a3.size ≤ 9223372036854775807) :
    Calls Try.prog 5 #[.string a0, .int .i64 a1, .int .u8 a2, .string a3] w fun e w' => e = .returned (.bool true) ∧ Below w.heap.size w w' := by
  have HB := Aside0.mk (Below.refl w.heap.size w)
  have A2 := Aside0.mk h
  clear h
  have c0 : decide (100 < (a0.size : Int)) = false := decide_eq_false (by omega)
  have c1 : decide (100 < a0.size) = false := decide_eq_false (by omega)
  clear hs
  have c2 : (a2 == 0) = false := beq_eq_false_iff_ne.mpr hz
  clear hz
  have A3 := Aside0.mk ht
  clear ht
  have c3 : decide (a1 < 0) = false := decide_eq_false (by omega)
  have c4 : decide ((t.size : Int) ≤ a1) = false := decide_eq_false (by omega)
  have c5 : decide (0 < a1) = true := decide_eq_true (by omega)
  have c6 : decide (a1 < 5) = false := decide_eq_false (by omega)
  have kb := fun W => print_bytes (P := Try.prog) 9 32 5 Try.underlying9 Try.underlying32 Try.underlying5 t W
  have kc := fun W => bw_cell W t a1 (by omega) hf
  have kf := fun W => bw_frozen W t a1.toNat (by omega)
  have kv := fun W v c => bw_conv W t (by omega) a1 v c (by omega) hf
  have p4 := eq_true (show 0 ≤ a1 by omega)
  have q4 := eq_true hf
  clear hf h5
  have A4 := Aside0.mk ht4
  have c7 : (err != 0) = true := bne_iff_ne.mpr he
  have c7b : (err == 0) = false := beq_eq_false_iff_ne.mpr he
  clear ht4 he
  have c8 : (9223372036854775807 < (strOfNums ((bytesOf t).set a1.toNat (Go.bits .xor .u8 (bt t a1) a2))).size + a3.size) = False := eq_false (Nat.not_lt.2 hsz)
  clear hsz
  go_enter Try.func5, Try.ntmps5
  go_wp2_with (first | ((with_reducible refine gate_callee (f := 10) rfl ?_); refine goesL_ (some 25) rfl rfl Try.func10 (by kernel_rfl) rfl #[.string a0] rfl (by (try simp only [List.map_toArray, List.map_nil]); first | done | rfl) ?_; (with_reducible refine (record_Put.calls k a0 t 0 _ A3.out).mono ?_); rintro e w7 ⟨rfl, hb⟩; refine ⟨_, rfl, ?_⟩; have n0_ := Aside0.mk (below_step (by repeat (first | (with_reducible first | exact HB.out | apply below_alloc | apply pw_below_drewN | apply below_drew1) | exact HB.out)) hb); clear HB; have HB := n0_; clear n0_; (try clear hb)) | ((with_reducible refine gate_callee (f := 14) rfl ?_); refine goesL_ (some 63) rfl rfl Try.func14 (by kernel_rfl) rfl #[.string (strOfNums ((bytesOf t).set a1.toNat (Go.bits .xor .u8 (bt t a1) a2)) ++ a3)] rfl (by (try simp only [List.map_toArray, List.map_nil]); first | done | rfl) ?_; (with_reducible refine (record_Take.calls k (strOfNums ((bytesOf t).set a1.toNat (Go.bits .xor .u8 (bt t a1) a2)) ++ a3) ⟨#[]⟩ ⟨#[]⟩ err _ A4.out).mono ?_); rintro e w8 ⟨rfl, hb⟩; refine ⟨_, rfl, ?_⟩; have n0_ := Aside0.mk (below_step (by repeat (first | exact bw_below HB.out _ _ _ | (with_reducible first | exact HB.out | apply below_alloc | apply pw_below_drewN | apply below_drew1) | exact HB.out)) hb); clear HB; have HB := n0_; clear n0_; (try clear hb)) | (go_at_call 9; (refine (corollarylaw04_awake.calls k true _ A2.out).mono ?_); rintro e w9 ⟨rfl, hb⟩; have n0_ := Aside0.mk (below_step (by repeat (first | (with_reducible first | exact HB.out | apply below_alloc | apply pw_below_drewN | apply below_drew1) | exact HB.out)) hb); clear HB; have HB := n0_; clear n0_; (try clear hb)))
  go_ret
  exact ⟨by first | rfl | (simp; done), by repeat (first | (with_reducible first | exact HB.out | apply below_alloc | apply pw_below_drewN | apply below_drew1) | exact HB.out)⟩
set_option maxHeartbeats 8000000 in
set_option maxRecDepth 100000 in
theorem main_zero (k : Nat) (a0 : ByteArray) (a1 a2 : Int) (a3 : ByteArray) (w : World) (h : corollarylaw04_awake.f k = some true) (hs : a0.size ≤ 100) (hz : a2 ≠ 0) (t : ByteArray) (ht : record_Put.f k a0 = some (t, 0)) (hf : a1 < (t.size : Int)) (h5 : a1 = 0) (hts : t.size ≤ 1000) (err : Int) (he : err ≠ 0) (ht4 : record_Take.f k (strOfNums ((bytesOf t).set a1.toNat (Go.bits .xor .u8 (bt t a1) a2)) ++ a3) = some (⟨#[]⟩, ⟨#[]⟩, err)) (hsz : (strOfNums ((bytesOf t).set a1.toNat (Go.bits .xor .u8 (bt t a1) a2))).size + a3.size ≤ 9223372036854775807) :
    Calls Try.prog 5 #[.string a0, .int .i64 a1, .int .u8 a2, .string a3] w fun e w' => e = .returned (.bool true) ∧ Below w.heap.size w w' := by
  have HB := Aside0.mk (Below.refl w.heap.size w)
  have A2 := Aside0.mk h
  clear h
  have c0 : decide (100 < (a0.size : Int)) = false := decide_eq_false (by omega)
  have c1 : decide (100 < a0.size) = false := decide_eq_false (by omega)
  clear hs
  have c2 : (a2 == 0) = false := beq_eq_false_iff_ne.mpr hz
  clear hz
  have A3 := Aside0.mk ht
  clear ht
  have c3 : decide (a1 < 0) = false := decide_eq_false (by omega)
  have c4 : decide ((t.size : Int) ≤ a1) = false := decide_eq_false (by omega)
  have c5 : decide (0 < a1) = false := decide_eq_false (by omega)
  have kb := fun W => print_bytes (P := Try.prog) 9 32 5 Try.underlying9 Try.underlying32 Try.underlying5 t W
  have kc := fun W => bw_cell W t a1 (by omega) hf
  have kf := fun W => bw_frozen W t a1.toNat (by omega)
  have kv := fun W v c => bw_conv W t (by omega) a1 v c (by omega) hf
  have p4 := eq_true (show 0 ≤ a1 by omega)
  have q4 := eq_true hf
  clear hf h5
  have A4 := Aside0.mk ht4
  have c7 : (err != 0) = true := bne_iff_ne.mpr he
  have c7b : (err == 0) = false := beq_eq_false_iff_ne.mpr he
  clear ht4 he
  have c8 : (9223372036854775807 < (strOfNums ((bytesOf t).set a1.toNat (Go.bits .xor .u8 (bt t a1) a2))).size + a3.size) = False := eq_false (Nat.not_lt.2 hsz)
  clear hsz
  go_enter Try.func5, Try.ntmps5
  go_wp2_with (first | ((with_reducible refine gate_callee (f := 10) rfl ?_); refine goesL_ (some 25) rfl rfl Try.func10 (by kernel_rfl) rfl #[.string a0] rfl (by (try simp only [List.map_toArray, List.map_nil]); first | done | rfl) ?_; (with_reducible refine (record_Put.calls k a0 t 0 _ A3.out).mono ?_); rintro e w7 ⟨rfl, hb⟩; refine ⟨_, rfl, ?_⟩; have n0_ := Aside0.mk (below_step (by repeat (first | (with_reducible first | exact HB.out | apply below_alloc | apply pw_below_drewN | apply below_drew1) | exact HB.out)) hb); clear HB; have HB := n0_; clear n0_; (try clear hb)) | ((with_reducible refine gate_callee (f := 14) rfl ?_); refine goesL_ (some 63) rfl rfl Try.func14 (by kernel_rfl) rfl #[.string (strOfNums ((bytesOf t).set a1.toNat (Go.bits .xor .u8 (bt t a1) a2)) ++ a3)] rfl (by (try simp only [List.map_toArray, List.map_nil]); first | done | rfl) ?_; (with_reducible refine (record_Take.calls k (strOfNums ((bytesOf t).set a1.toNat (Go.bits .xor .u8 (bt t a1) a2)) ++ a3) ⟨#[]⟩ ⟨#[]⟩ err _ A4.out).mono ?_); rintro e w8 ⟨rfl, hb⟩; refine ⟨_, rfl, ?_⟩; have n0_ := Aside0.mk (below_step (by repeat (first | exact bw_below HB.out _ _ _ | (with_reducible first | exact HB.out | apply below_alloc | apply pw_below_drewN | apply below_drew1) | exact HB.out)) hb); clear HB; have HB := n0_; clear n0_; (try clear hb)) | (go_at_call 9; (refine (corollarylaw04_awake.calls k true _ A2.out).mono ?_); rintro e w9 ⟨rfl, hb⟩; have n0_ := Aside0.mk (below_step (by repeat (first | (with_reducible first | exact HB.out | apply below_alloc | apply pw_below_drewN | apply below_drew1) | exact HB.out)) hb); clear HB; have HB := n0_; clear n0_; (try clear hb)))
  go_ret
  exact ⟨by first | rfl | (simp; done), by repeat (first | (with_reducible first | exact HB.out | apply below_alloc | apply pw_below_drewN | apply below_drew1) | exact HB.out)⟩

open Go.Proofs.Ythamfldeoglfoaa.Pure Go.Proofs.Ythamfldeoglfoaa.Plain in
theorem turned_list (t : ByteArray) (i : Nat) (hi : i < t.size) (v : Nat) (hv : 0 < v) (hv2 : v < 256) :
    bl (strOfNums ((bytesOf t).set i (Go.bits .xor .u8 (bt t (i : Int)) (v : Int)))) = (bl t).set i (UInt8.ofNat ((bl t)[i]'(by rw [← bl_size]; exact hi)).toNat ^^^ UInt8.ofNat v) ∧
      (bl t)[i]? ≠ some (UInt8.ofNat ((bl t)[i]'(by rw [← bl_size]; exact hi)).toNat ^^^ UInt8.ofNat v) := by
  have hi' : i < (bl t).length := by rw [← bl_size]; exact hi
  have hb := ((bl t)[i]'hi').toNat_lt
  constructor
  · rw [bl_strOfNums, List.map_set, bt_eq t i hi']
    have h1 : (bytesOf t).map (fun n => UInt8.ofNat n.toNat) = bl t := by
      unfold bytesOf
      rw [List.map_map]
      apply List.ext_getElem
      · simp [bl]
      · intro j h1 h2
        simp [bl]
    have h2 : Go.bits .xor .u8 (((bl t)[i]'hi').toNat : Int) (v : Int) = ((((bl t)[i]'hi').toNat ^^^ v : Nat) : Int) :=
      bits_xor .u8 8 (by decide) (fun n h0 h1 => by rw [IntKind.wrap_u8]; omega) _ _ (by omega) (by omega)
    rw [h1, h2, Int.toNat_natCast]
    congr 1
    apply UInt8.toNat_inj.1
    have hx : ((bl t)[i]'hi').toNat ^^^ v < 256 := Nat.xor_lt_two_pow (n := 8) hb hv2
    rw [UInt8.toNat_xor, UInt8.toNat_ofNat', UInt8.toNat_ofNat', UInt8.toNat_ofNat', Nat.mod_eq_of_lt hx, Nat.mod_eq_of_lt hb, Nat.mod_eq_of_lt hv2]
  · rw [List.getElem?_eq_getElem hi']
    intro h
    have h := congrArg UInt8.toNat (Option.some.inj h)
    rw [UInt8.toNat_xor, UInt8.toNat_ofNat', UInt8.toNat_ofNat', Nat.mod_eq_of_lt hb, Nat.mod_eq_of_lt hv2] at h
    have h2 := congrArg (fun x => ((bl t)[i]'hi').toNat ^^^ x) h
    simp only [← Nat.xor_assoc, Nat.xor_self, Nat.zero_xor] at h2
    omega

open Go.Proofs.Ythamfldeoglfoaa.Pure Go.Proofs.Ythamfldeoglfoaa.Plain in
theorem turned (a0 : ByteArray) (a1 a2 : Int) (a3 : ByteArray) (w : World) (hw : (Lit.int .u8 a2).wf = true) (h3 : a3.size ≤ 140737488351232) :
    Calls Try.prog 5 #[.string a0, .int .i64 a1, .int .u8 a2, .string a3] w fun e w' => e = .returned (.bool true) ∧ Below w.heap.size w w' := by
  obtain ⟨k, hk⟩ : ∃ k, k = a3.size + 1000 := ⟨_, rfl⟩
  have haw := awake_eq k (by omega)
  by_cases hs : 100 < a0.size
  · exact long_awake k a0 a1 a2 a3 w haw hs
  have hs' : a0.size ≤ 100 := by omega
  by_cases hz : a2 = 0
  · exact zero_awake k a0 a1 a2 a3 w haw hs' hz
  have hv : 0 ≤ a2 ∧ a2 ≤ 255 := by
    simp only [Lit.wf, IntKind.min, IntKind.max, IntKind.signed, IntKind.bits, Bool.and_eq_true, decide_eq_true_eq] at hw
    simpa using hw
  clear hw
  obtain ⟨t, ht, gt⟩ := put_eq a0 (by omega) k (by omega)
  have lt : t.size = a0.size + 9 := by rw [bl_size, gt, recL_length, ← bl_size]
  by_cases h0 : a1 < 0
  · exact out_neg k a0 a1 a2 a3 w haw hs' hz t ht h0
  by_cases h1 : (t.size : Int) ≤ a1
  · exact out_far k a0 a1 a2 a3 w haw hs' hz t ht (by omega) h1
  by_cases h5 : 0 < a1 ∧ a1 < 5
  · exact out_near k a0 a1 a2 a3 w haw hs' hz t ht h5.1 (by omega) h5.2
  obtain ⟨i, rfl⟩ := Int.eq_ofNat_of_zero_le (by omega : 0 ≤ a1)
  obtain ⟨v, rfl⟩ := Int.eq_ofNat_of_zero_le hv.1
  have hi : i < t.size := by omega
  obtain ⟨q, e1, e2⟩ : ∃ q, bl (strOfNums ((bytesOf t).set i (Go.bits .xor .u8 (bt t (i : Int)) (v : Int)))) = (bl t).set i q ∧ (bl t)[i]? ≠ some q := ⟨_, turned_list t i hi v (by omega) (by omega)⟩
  have hbl : (bl a0).length ≤ 65536 := by rw [← bl_size]; omega
  have hil : i < (bl a0).length + 9 := by rw [← bl_size]; omega
  have hbad := takeL_turned (bl a0) (bl a3) hbl i _ hil (by omega) (by rw [← gt]; exact e2)
  have hbad2 := takeL_bad hbad
  have hlist : bl (strOfNums ((bytesOf t).set i (Go.bits .xor .u8 (bt t (i : Int)) (v : Int))) ++ a3) = (recL (bl a0)).set i q ++ bl a3 := by rw [bl_append, e1, gt]
  have hsz : (strOfNums ((bytesOf t).set i (Go.bits .xor .u8 (bt t (i : Int)) (v : Int)))).size = t.size := by rw [bl_size, e1, List.length_set, ← bl_size]
  have hsz2 : (strOfNums ((bytesOf t).set i (Go.bits .xor .u8 (bt t (i : Int)) (v : Int))) ++ a3).size = t.size + a3.size := by rw [ByteArray.size_append, hsz]
  obtain ⟨x, y, hT, hx, hy⟩ := take_eq (strOfNums ((bytesOf t).set i (Go.bits .xor .u8 (bt t (i : Int)) (v : Int))) ++ a3) (by omega) k (by omega)
  rw [hlist] at hT hx hy
  rw [hbad2] at hx hy
  obtain rfl : x = ⟨#[]⟩ := bl_inj hx
  obtain rfl : y = ⟨#[]⟩ := bl_inj hy
  have hne : ((takeL ((recL (bl a0)).set i q ++ bl a3)).1 : Int) ≠ 0 := by omega
  by_cases hi0 : i = 0
  · exact main_zero k a0 i v a3 w haw hs' hz t ht (by omega) (by omega) (by omega) _ hne (by simpa using hT) (by rw [Int.toNat_natCast, hsz]; omega)
  · exact main_far k a0 i v a3 w haw hs' hz t ht (by omega) (by omega) (by omega) _ hne (by simpa using hT) (by rw [Int.toNat_natCast, hsz]; omega)
end Go.Proofs.Ythamfldeoglfoaa.Turned
