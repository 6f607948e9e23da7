/- Walks. -/
import Derived.Test.YtggkhcdilbdifaaDe
import Derived.Test.YtggkhcdilbdifaaRcb
namespace Go.Proofs.Ytggkhcdilbdifaa.Ow
open Go Go.Proofs.Ytggkhcdilbdifaa.Rec
set_option linter.unusedVariables false
theorem half_fn (c : Nat) (F : Mem) (hc : c < 4294967296) : Fn Try.prog 45 #[.int .u32 c] [] F (fun u _ _ => u = .int .u32 (chalf c : Nat)) := by
  refine Fn.start0 Try.func45 rfl Try.ntmps45 rfl (env := [(0, _)]) rfl ?_
  intro R
  refine .seq ?_
  refine .region ?_
  refine .v (.asn rfl) rfl ?_
  refine .nil ?_
  refine .then ?_
  refine .seq ?_
  refine .seq ?_
  refine .region ?_
  refine .v (.mv rfl) rfl ?_
  refine .nil ?_
  refine .then ?_
  refine .block ?_
  refine WC.loop0 (fx := [(2, _)]) (.cons rfl rfl .nil) (ι := Nat) (fun k => k ≤ 4) (fun k => 4 - k) (fun k => [(0, .int .u32 (cit k c : Nat)), (4, .int .i64 k)]) 0 (Nat.zero_le _) ?he ?round
  case he => exact .cons rfl rfl (.cons rfl rfl (.cons rfl rfl .nil))
  case round =>
    intro k hk
    have hq := cit_lt hc k
    refine .seq ?_
    refine .region ?_
    refine .vs (.lt rfl rfl) rfl (fun h5_1 => ?_) (fun h5_1 => ?_)
    · skip
      refine .nil ?_
      refine .then ?_
      refine .seq ?_
      refine .condT rfl ?_
      refine .skip ?_
      refine .then ?_
      refine .seq ?_
      refine .block ?_
      refine .seq ?_
      refine .region ?_
      refine .v (.mv rfl) rfl ?_
      refine .v (.band (r := ((cit k c % 2 : Nat) : Int)) rfl rfl (and1_u32 _ hq)) rfl ?_
      refine .v (.asn rfl) rfl ?_
      refine .nil ?_
      refine .then ?_
      refine .seq ?_
      refine .region ?_
      refine .v (.mv rfl) rfl ?_
      refine .v (.shrk (r := ((cit k c / 2 : Nat) : Int)) 1 rfl rfl (by decide) (by omega)) rfl ?_
      refine .v (.asn rfl) rfl ?_
      refine .nil ?_
      refine .then ?_
      refine .seq ?_
      refine .region ?_
      refine .v (.mv rfl) rfl ?_
      refine .vs (.eq rfl rfl) rfl (fun h11_2 => ?_) (fun h11_2 => ?_)
      · skip
        refine .nil ?_
        refine .then ?_
        refine .condT rfl ?_
        refine .region ?_
        refine .v (.mv rfl) rfl ?_
        refine .v (.bxor (r := (((cit k c / 2) ^^^ 3988292384 : Nat) : Int)) rfl rfl (xor_u32 _ 3988292384 (by omega) (by omega))) rfl ?_
        refine .v (.asn rfl) rfl ?_
        refine .nil ?_
        refine .blk ?_
        refine .then ?_
        refine .region ?_
        refine .v (.add rfl rfl (by omega)) rfl ?_
        refine .v (.mv rfl) rfl ?_
        refine .nil ?_
        exact .again (k + 1) (by omega) (by omega) (.cons rfl (congrArg (Value.int .u32) (congrArg Int.ofNat (by first | exact (cstep_odd (by omega)).symm | exact (cstep_even (by omega)).symm))) (.cons rfl rfl (.cons rfl rfl .nil))) (subl (.refl _))
      · skip
        refine .nil ?_
        refine .then ?_
        refine .condF rfl ?_
        refine .skip ?_
        refine .blk ?_
        refine .then ?_
        refine .region ?_
        refine .v (.add rfl rfl (by omega)) rfl ?_
        refine .v (.mv rfl) rfl ?_
        refine .nil ?_
        exact .again (k + 1) (by omega) (by omega) (.cons rfl (congrArg (Value.int .u32) (congrArg Int.ofNat (by first | exact (cstep_odd (by omega)).symm | exact (cstep_even (by omega)).symm))) (.cons rfl rfl (.cons rfl rfl .nil))) (subl (.refl _))
    · skip
      refine .nil ?_
      refine .then ?_
      refine .seq ?_
      refine .condF rfl ?_
      refine .exit ?_
      refine .then_exit ?_
      refine .then_exit ?_
      refine .blk_exit ?_
      refine .then ?_
      refine .seq ?_
      refine .region ?_
      refine .v (.mv rfl) rfl ?_
      refine .v (.asn rfl) rfl ?_
      refine .nil ?_
      refine .then ?_
      refine .ret ?_
      exact .done _ [] (.t1 rfl rfl) .rfl (by obtain rfl : k = 4 := (by omega); rfl) (Inn.keep .here)
theorem sum_fn (s : ByteArray) (F : Mem) (hs : s.size ≤ 4611686018427387904) : Fn Try.prog 34 #[.string s] [] F (fun u _ _ => u = .int .u32 (sumB s : Nat)) := by
  refine Fn.start0 Try.func34 rfl Try.ntmps34 rfl (env := [(0, _)]) rfl ?_
  intro R
  refine .seq ?_
  refine .region ?_
  refine .v (.asn rfl) rfl ?_
  refine .nil ?_
  refine .then ?_
  refine .seq ?_
  refine .region ?_
  refine .v (.asn rfl) rfl ?_
  refine .nil ?_
  refine .then ?_
  refine .seq ?_
  refine .seq ?_
  refine .region ?_
  refine .v (.mv rfl) rfl ?_
  refine .v (.lens Try.underlying9 rfl) rfl ?_
  refine .v (.mv rfl) rfl ?_
  refine .nil ?_
  refine .then ?_
  refine .block ?_
  refine WC.loop0 (fx := [(0, _), (2, _), (6, _)]) (.cons rfl rfl (.cons rfl rfl (.cons rfl rfl .nil))) (ι := Nat) (fun k => k ≤ s.size) (fun k => s.size - k) (fun k => [(3, .int .u32 (creg 4294967295 ((bl s).take k) : Nat)), (7, .int .i64 k)]) 0 (by omega) ?he ?round
  case he => exact .cons rfl rfl (.cons rfl rfl (.cons rfl rfl (.cons rfl rfl (.cons rfl rfl .nil))))
  case round =>
    intro k hk
    refine .seq ?_
    refine .region ?_
    refine .vs (.lt rfl rfl) rfl (fun h8_1 => ?_) (fun h8_1 => ?_)
    · skip
      refine .nil ?_
      refine .then ?_
      refine .seq ?_
      refine .condT rfl ?_
      refine .skip ?_
      refine .then ?_
      refine .seq ?_
      refine .block ?_
      refine .seq ?_
      refine .region ?_
      refine .v (.mv rfl) rfl ?_
      refine .v (.asn rfl) rfl ?_
      refine .nil ?_
      refine .then ?_
      refine .region ?_
      refine .v (.mv rfl) rfl ?_
      refine .v (.mv rfl) rfl ?_
      refine .v (.mv rfl) rfl ?_
      have hsz := bl_size s
      obtain ⟨x, hx⟩ : ∃ y, (bl s)[k]? = some y := ⟨_, List.getElem?_eq_getElem (by omega)⟩
      have hc := creg_lt ((bl s).take k) (c := 4294967295) (by decide)
      have hx256 := x.toNat_lt
      have h1 := xor_byte_lt hc x
      refine .v (.bytev k (x.toNat : Int) Try.underlying9 rfl rfl ⟨by omega, byte_lt hx⟩ (byte_at hx)) rfl ?_
      refine .v (.cvtv (x.toNat : Int) rfl Try.underlying5 Try.underlying72 (by rw [IntKind.wrap_u32]; omega)) rfl ?_
      refine .v (.bxor (r := ((creg 4294967295 ((bl s).take k) ^^^ x.toNat : Nat) : Int)) rfl rfl (xor_u32 _ _ hc (by omega))) rfl ?_
      refine .v (.call rfl rfl (Try.call45 _) (fun G hle hG => half_fn _ G h1)) rfl ?_
      refine .v (.call rfl rfl (Try.call45 _) (fun G hle hG => half_fn _ G (chalf_lt h1))) rfl ?_
      refine .v (.asn rfl) rfl ?_
      refine .nil ?_
      refine .blk ?_
      refine .then ?_
      refine .region ?_
      refine .v (.add rfl rfl (by omega)) rfl ?_
      refine .v (.mv rfl) rfl ?_
      refine .nil ?_
      exact .again (k + 1) (by omega) (by omega) (.cons rfl (congrArg (Value.int .u32) (congrArg Int.ofNat (creg_take hx _).symm)) (.cons rfl rfl (.cons rfl rfl (.cons rfl rfl (.cons rfl rfl .nil))))) (subl (.refl _))
    · skip
      refine .nil ?_
      refine .then ?_
      refine .seq ?_
      refine .condF rfl ?_
      refine .exit ?_
      refine .then_exit ?_
      refine .then_exit ?_
      refine .blk_exit ?_
      refine .then ?_
      refine .seq ?_
      refine .region ?_
      have hsz := bl_size s
      obtain rfl : k = s.size := by omega
      have hall : (bl s).take s.size = bl s := List.take_of_length_le (by omega)
      have hc := creg_lt (bl s) (c := 4294967295) (by decide)
      rw [hall]
      refine .v (.mv rfl) rfl ?_
      refine .v (.bnot32 (r := ((sumB s : Nat) : Int)) rfl (not_u32 _ hc)) rfl ?_
      refine .v (.asn rfl) rfl ?_
      refine .nil ?_
      refine .then ?_
      refine .ret ?_
      exact .done _ [] (.t1 rfl rfl) .rfl rfl (Inn.keep .here)
theorem four_fn (n : Nat) (F : Mem) : Fn Try.prog 33 #[.int .u32 n] [] F (fun u _ _ => u = .string (fourB n)) := by
  refine Fn.start0 Try.func33 rfl Try.ntmps33 rfl (env := [(0, _)]) rfl ?_
  intro R
  refine .seq ?_
  refine .region ?_
  refine .v (.asn rfl) rfl ?_
  refine .nil ?_
  refine .then ?_
  refine .seq ?_
  refine .region ?_
  refine .v (.mv rfl) rfl ?_
  refine .v (.cvtv ((n % 256 : Nat) : Int) rfl Try.underlying72 Try.underlying5 (by rw [IntKind.wrap_u8]; omega)) rfl ?_
  refine .v (.mv rfl) rfl ?_
  refine .v (.shrk (r := ((n / 256 : Nat) : Int)) 8 rfl rfl (by decide) (by omega)) rfl ?_
  refine .v (.cvtv ((n / 256 % 256 : Nat) : Int) rfl Try.underlying72 Try.underlying5 (by rw [IntKind.wrap_u8]; omega)) rfl ?_
  refine .v (.mv rfl) rfl ?_
  refine .v (.shrk (r := ((n / 65536 : Nat) : Int)) 16 rfl rfl (by decide) (by omega)) rfl ?_
  refine .v (.cvtv ((n / 65536 % 256 : Nat) : Int) rfl Try.underlying72 Try.underlying5 (by rw [IntKind.wrap_u8]; omega)) rfl ?_
  refine .v (.mv rfl) rfl ?_
  refine .v (.shrk (r := ((n / 16777216 : Nat) : Int)) 24 rfl rfl (by decide) (by omega)) rfl ?_
  refine .v (.cvtv ((n / 16777216 % 256 : Nat) : Int) rfl Try.underlying72 Try.underlying5 (by rw [IntKind.wrap_u8]; omega)) rfl ?_
  refine .nb (.litn (qs := [(0, .int .u8 ((n % 256 : Nat) : Int)), (1, .int .u8 ((n / 256 % 256 : Nat) : Int)), (2, .int .u8 ((n / 65536 % 256 : Nat) : Int)), (3, .int .u8 ((n / 16777216 % 256 : Nat) : Int))]) (cs := [.int .u8 ((n % 256 : Nat) : Int), .int .u8 ((n / 256 % 256 : Nat) : Int), .int .u8 ((n / 65536 % 256 : Nat) : Int), .int .u8 ((n / 16777216 % 256 : Nat) : Int)]) sl88 ty5 rfl rfl (by first | kernel_rfl | simp [Instr.fill, Value.cells]) rfl) rfl (fun b1 => ?_)
  refine .v (.cvb [((n % 256 : Nat) : Int), ((n / 256 % 256 : Nat) : Int), ((n / 65536 % 256 : Nat) : Int), ((n / 16777216 % 256 : Nat) : Int)] Try.underlying88 Try.underlying5 Try.underlying9 rfl rfl .here rfl) rfl ?_
  refine .v (.asn rfl) rfl ?_
  refine .nil ?_
  refine .then ?_
  refine .ret ?_
  exact .done _ [] (.t1 rfl rfl) .rfl (congrArg Value.string (fourB_nums n)) (Inn.keep (.there .here))
theorem put_fn (b : ByteArray) (F : Mem) (hs : b.size ≤ 4611686018427387904) : Fn Try.prog 24 #[.string b] [] F (fun u _ _ => u = .tuple #[.string (putB b).1, .int .i64 (putB b).2]) := by
  refine Fn.start0 Try.func24 rfl Try.ntmps24 rfl (env := [(0, _)]) rfl ?_
  intro R
  refine .seq ?_
  refine .region ?_
  refine .v (.asn rfl) rfl ?_
  refine .v (.asn rfl) rfl ?_
  refine .nil ?_
  refine .then ?_
  refine .seq ?_
  refine .seq ?_
  refine .region ?_
  refine .v (.mv rfl) rfl ?_
  refine .v (.lens Try.underlying9 rfl) rfl ?_
  refine .vs (.gt rfl rfl) rfl (fun h7_1 => ?_) (fun h7_1 => ?_)
  · skip
    refine .nil ?_
    refine .then ?_
    refine .condT rfl ?_
    refine .seq ?_
    refine .region ?_
    refine .v (.asn rfl) rfl ?_
    refine .v (.asn rfl) rfl ?_
    refine .nil ?_
    refine .then ?_
    refine .ret ?_
    refine .then_ret ?_
    exact .done _ [] (.t2 rfl rfl rfl) .rfl (by rw [show putB b = (⟨#[]⟩, 5) from if_pos (by omega)]) (Inn.keep .here)
  · skip
    refine .nil ?_
    refine .then ?_
    refine .condF rfl ?_
    refine .skip ?_
    refine .then ?_
    refine .seq ?_
    refine .region ?_
    refine .v (.mv rfl) rfl ?_
    refine .v (.lens Try.underlying9 rfl) rfl ?_
    refine .v (.cvtv (b.size : Int) rfl Try.underlying3 Try.underlying72 (by rw [IntKind.wrap_u32]; omega)) rfl ?_
    refine .v (.call rfl rfl (Try.call33 _) (fun G hle hG => four_fn _ G)) rfl ?_
    refine .v (.cat rfl rfl (by have h82 : (⟨#[82]⟩ : ByteArray).size = 1 := rfl; have h4 := fourB_size; simp only [ByteArray.size_append, fourB_size, h82]; omega)) rfl ?_
    refine .v (.mv rfl) rfl ?_
    refine .v (.cat rfl rfl (by have h82 : (⟨#[82]⟩ : ByteArray).size = 1 := rfl; have h4 := fourB_size; simp only [ByteArray.size_append, fourB_size, h82]; omega)) rfl ?_
    refine .v (.asn rfl) rfl ?_
    refine .nil ?_
    refine .then ?_
    refine .seq ?_
    refine .region ?_
    refine .v (.mv rfl) rfl ?_
    refine .v (.mv rfl) rfl ?_
    refine .v (.call rfl rfl (Try.call34 _) (fun G hle hG => sum_fn _ G (by have h82 : (⟨#[82]⟩ : ByteArray).size = 1 := rfl; have h4 := fourB_size; simp only [ByteArray.size_append, fourB_size, h82]; omega))) rfl ?_
    refine .v (.call rfl rfl (Try.call33 _) (fun G hle hG => four_fn _ G)) rfl ?_
    refine .v (.cat rfl rfl (by have h82 : (⟨#[82]⟩ : ByteArray).size = 1 := rfl; have h4 := fourB_size; simp only [ByteArray.size_append, fourB_size, h82]; omega)) rfl ?_
    refine .v (.asn rfl) rfl ?_
    refine .v (.asn rfl) rfl ?_
    refine .nil ?_
    refine .then ?_
    refine .ret ?_
    exact .done _ [] (.t2 rfl rfl rfl) .rfl (by rw [show putB b = (recB b, 0) from if_neg (by omega), ← recB_eq]; rfl) (Inn.keep .here)
theorem take_fn (s : ByteArray) (F : Mem) (hs : s.size ≤ 4611686018427387904) : Fn Try.prog 43 #[.string s] [] F (fun u _ _ => u = .tuple #[.string (takeB s).1, .string (takeB s).2.1, .int .i64 (takeB s).2.2]) := by
  refine Fn.start0 Try.func43 rfl Try.ntmps43 rfl (env := [(0, _)]) rfl ?_
  intro R
  refine .seq ?_
  refine .region ?_
  refine .v (.asn rfl) rfl ?_
  refine .v (.asn rfl) rfl ?_
  refine .v (.asn rfl) rfl ?_
  refine .nil ?_
  refine .then ?_
  refine .seq ?_
  refine .block ?_
  refine .seq ?_
  refine .region ?_
  refine .v (.mv rfl) rfl ?_
  refine .vs (.eqs rfl rfl) rfl (fun h9_1 => ?_) (fun h9_1 => ?_)
  · skip
    refine .v (.asn rfl) rfl ?_
    refine .nil ?_
    refine .then ?_
    refine .condT rfl ?_
    refine .seq ?_
    refine .region ?_
    refine .v (.asn rfl) rfl ?_
    refine .v (.asn rfl) rfl ?_
    refine .v (.asn rfl) rfl ?_
    refine .nil ?_
    refine .then ?_
    refine .ret ?_
    refine .blk_ret ?_
    refine .then_ret ?_
    exact .done _ [] (.t3 rfl rfl rfl rfl) .rfl (by rw [h9_1]; rfl) (Inn.keep .here)
  · skip
    have hne : ¬ s = ⟨#[]⟩ := h9_1
    obtain ⟨x, hx0⟩ : ∃ y, (bl s)[0]? = some y := ⟨_, List.getElem?_eq_getElem (by rw [← bl_size]; have hp : (s.size : Int) > 0 := Classical.byContradiction fun h => hne (size_eq h); omega)⟩
    have hx256 := x.toNat_lt
    refine .v (.asn rfl) rfl ?_
    refine .nil ?_
    refine .then ?_
    refine .condF rfl ?_
    refine .seq ?_
    refine .region ?_
    refine .v (.mv rfl) rfl ?_
    refine .v (.bytev 0 (x.toNat : Int) Try.underlying9 rfl rfl ⟨rfl, byte_lt hx0⟩ (byte_at hx0)) rfl ?_
    refine .vs (.ne rfl rfl) rfl (fun h13_2 => ?_) (fun h13_2 => ?_)
    · skip
      refine .v (.asn rfl) rfl ?_
      refine .nil ?_
      refine .then ?_
      refine .condT rfl ?_
      refine .seq ?_
      refine .region ?_
      refine .v (.asn rfl) rfl ?_
      refine .v (.asn rfl) rfl ?_
      refine .v (.asn rfl) rfl ?_
      refine .nil ?_
      refine .then ?_
      refine .ret ?_
      refine .blk_ret ?_
      refine .then_ret ?_
      exact .done _ [] (.t3 rfl rfl rfl rfl) .rfl (by rw [takeB_form hx0 (by omega)]) (Inn.keep .here)
    · skip
      refine .v (.asn rfl) rfl ?_
      refine .nil ?_
      refine .then ?_
      refine .condF rfl ?_
      refine .seq ?_
      refine .region ?_
      refine .v (.mv rfl) rfl ?_
      refine .v (.lens Try.underlying9 rfl) rfl ?_
      refine .vs (.lt rfl rfl) rfl (fun h17_3 => ?_) (fun h17_3 => ?_)
      · skip
        refine .v (.asn rfl) rfl ?_
        refine .nil ?_
        refine .then ?_
        refine .condT rfl ?_
        refine .seq ?_
        refine .region ?_
        refine .v (.asn rfl) rfl ?_
        refine .v (.asn rfl) rfl ?_
        refine .v (.asn rfl) rfl ?_
        refine .nil ?_
        refine .then ?_
        refine .ret ?_
        refine .blk_ret ?_
        refine .then_ret ?_
        exact .done _ [] (.t3 rfl rfl rfl rfl) .rfl (by rw [takeB_short hx0 (by omega) (by omega)]) (Inn.keep .here)
      · skip
        obtain ⟨a, b, c, d, r, hl⟩ := parts hx0 (by omega) (by omega)
        have g1 : (bl s)[1]? = some a := by rw [hl]; rfl
        have g2 : (bl s)[2]? = some b := by rw [hl]; rfl
        have g3 : (bl s)[3]? = some c := by rw [hl]; rfl
        have g4 : (bl s)[4]? = some d := by rw [hl]; rfl
        have ha := a.toNat_lt
        have hb := b.toNat_lt
        have hc := c.toNat_lt
        have hd := d.toNat_lt
        obtain ⟨n, hn⟩ : ∃ n, n = num4 a b c d := ⟨_, rfl⟩
        have hnl : n < 4294967296 := by rw [hn]; exact num4_lt a b c d
        have hlong := takeB_long hl hn
        refine .v (.asn rfl) rfl ?_
        refine .nil ?_
        refine .then ?_
        refine .condF rfl ?_
        refine .skip ?_
        refine .blk ?_
        refine .then ?_
        refine .seq ?_
        refine .draw [[], [0], [1], [], [3], [4], [5], [2, 6], [], [8], [9], [10], [7, 11], [], [13], [14], [15], [12, 16], [17, 0, 1, 2, 3, 4, 5, 6, 7, 8, 9, 10, 11, 12, 13, 14, 15, 16, 17]] [] (by kernel_rfl) (by kernel_rfl) rfl (e1 := [(0, _), (2, _), (3, _), (4, _)]) (.cons rfl rfl (.cons rfl rfl (.cons rfl rfl (.cons rfl rfl .nil)))) (fun x hx => by cases hx) rfl ?_
        refine .v (i := 0) [] rfl rfl rfl .nil (.n (.mv rfl)) ?_
        refine .v (i := 1) [(18, _)] rfl rfl rfl (.cons (.head _) rfl rfl .nil) (.n (.bytev 1 (a.toNat : Int) Try.underlying9 rfl rfl ⟨rfl, byte_lt g1⟩ (byte_at g1))) ?_
        refine .v (i := 2) [(19, _)] rfl rfl rfl (.cons (.head _) rfl rfl .nil) (.n (.cvtv (a.toNat : Int) rfl Try.underlying5 Try.underlying3 (wrap_in (by omega) (by omega)))) ?_
        refine .v (i := 3) [] rfl rfl rfl .nil (.n (.mv rfl)) ?_
        refine .v (i := 4) [(21, _)] rfl rfl rfl (.cons (.head _) rfl rfl .nil) (.n (.bytev 2 (b.toNat : Int) Try.underlying9 rfl rfl ⟨rfl, byte_lt g2⟩ (byte_at g2))) ?_
        refine .v (i := 5) [(22, _)] rfl rfl rfl (.cons (.head _) rfl rfl .nil) (.n (.cvtv (b.toNat : Int) rfl Try.underlying5 Try.underlying3 (wrap_in (by omega) (by omega)))) ?_
        refine .v (i := 6) [(23, _)] rfl rfl rfl (.cons (.head _) rfl rfl .nil) (.n (.shlk (r := ((b.toNat * 256 : Nat) : Int)) 8 rfl rfl (by decide) (by rw [wrap_in (by omega) (by omega)]; omega))) ?_
        refine .v (i := 7) [(20, _), (24, _)] rfl rfl rfl (.cons (.tail _ (.tail _ (.tail _ (.tail _ (.head _))))) rfl rfl (.cons (.head _) rfl rfl .nil)) (.n (.bor (r := ((a.toNat + b.toNat * 256 : Nat) : Int)) rfl rfl (or_i64 _ _ 8 (by omega) (by omega) (by omega) (by omega)))) ?_
        refine .v (i := 8) [] rfl rfl rfl .nil (.n (.mv rfl)) ?_
        refine .v (i := 9) [(26, _)] rfl rfl rfl (.cons (.head _) rfl rfl .nil) (.n (.bytev 3 (c.toNat : Int) Try.underlying9 rfl rfl ⟨rfl, byte_lt g3⟩ (byte_at g3))) ?_
        refine .v (i := 10) [(27, _)] rfl rfl rfl (.cons (.head _) rfl rfl .nil) (.n (.cvtv (c.toNat : Int) rfl Try.underlying5 Try.underlying3 (wrap_in (by omega) (by omega)))) ?_
        refine .v (i := 11) [(28, _)] rfl rfl rfl (.cons (.head _) rfl rfl .nil) (.n (.shlk (r := ((c.toNat * 65536 : Nat) : Int)) 16 rfl rfl (by decide) (by rw [wrap_in (by omega) (by omega)]; omega))) ?_
        refine .v (i := 12) [(25, _), (29, _)] rfl rfl rfl (.cons (.tail _ (.tail _ (.tail _ (.tail _ (.head _))))) rfl rfl (.cons (.head _) rfl rfl .nil)) (.n (.bor (r := ((a.toNat + b.toNat * 256 + c.toNat * 65536 : Nat) : Int)) rfl rfl (or_i64 _ _ 16 (by omega) (by omega) (by omega) (by omega)))) ?_
        refine .v (i := 13) [] rfl rfl rfl .nil (.n (.mv rfl)) ?_
        refine .v (i := 14) [(31, _)] rfl rfl rfl (.cons (.head _) rfl rfl .nil) (.n (.bytev 4 (d.toNat : Int) Try.underlying9 rfl rfl ⟨rfl, byte_lt g4⟩ (byte_at g4))) ?_
        refine .v (i := 15) [(32, _)] rfl rfl rfl (.cons (.head _) rfl rfl .nil) (.n (.cvtv (d.toNat : Int) rfl Try.underlying5 Try.underlying3 (wrap_in (by omega) (by omega)))) ?_
        refine .v (i := 16) [(33, _)] rfl rfl rfl (.cons (.head _) rfl rfl .nil) (.n (.shlk (r := ((d.toNat * 16777216 : Nat) : Int)) 24 rfl rfl (by decide) (by rw [wrap_in (by omega) (by omega)]; omega))) ?_
        refine .tail0 17 [[17, 12, 16, 7, 11, 15, 2, 6, 10, 14, 1, 5, 9, 13, 0, 4, 8, 3], [18, 17, 0, 1, 2, 3, 4, 5, 6, 7, 8, 9, 10, 11, 12, 13, 14, 15, 16]] rfl rfl rfl rfl (e' := [(34, _), (33, _), (32, _), (31, _), (30, _), (29, _), (28, _), (27, _), (26, _), (25, _), (24, _), (23, _), (22, _), (21, _), (20, _), (19, _), (18, _), (0, _), (2, _), (3, _), (4, _)]) rfl ?_
        refine .v (.bor (r := (n : Int)) rfl rfl ((or_i64 _ _ 24 (by omega) (by omega) (by omega) (by omega)).trans (by rw [hn]; unfold num4; omega))) rfl ?_
        refine .v (.asn rfl) rfl ?_
        refine .nil ?_
        refine .then ?_
        refine .seq ?_
        refine .region ?_
        refine .v (.mv rfl) rfl ?_
        refine .v (.add rfl rfl (by omega)) rfl ?_
        refine .v (.asn rfl) rfl ?_
        refine .nil ?_
        refine .then ?_
        refine .seq ?_
        refine .block ?_
        refine .seq ?_
        refine .region ?_
        refine .v (.mv rfl) rfl ?_
        refine .vs (.gt rfl rfl) rfl (fun h40_4 => ?_) (fun h40_4 => ?_)
        · skip
          refine .v (.asn rfl) rfl ?_
          refine .nil ?_
          refine .then ?_
          refine .condT rfl ?_
          refine .seq ?_
          refine .region ?_
          refine .v (.asn rfl) rfl ?_
          refine .v (.asn rfl) rfl ?_
          refine .v (.asn rfl) rfl ?_
          refine .nil ?_
          refine .then ?_
          refine .ret ?_
          refine .blk_ret ?_
          refine .then_ret ?_
          exact .done _ [] (.t3 rfl rfl rfl rfl) .rfl (by rw [hlong, if_pos (by omega)]) (Inn.keep .here)
        · skip
          refine .v (.asn rfl) rfl ?_
          refine .nil ?_
          refine .then ?_
          refine .condF rfl ?_
          refine .seq ?_
          refine .region ?_
          refine .v (.mv rfl) rfl ?_
          refine .v (.lens Try.underlying9 rfl) rfl ?_
          refine .v (.mv rfl) rfl ?_
          refine .v (.add rfl rfl (by omega)) rfl ?_
          refine .vs (.lt rfl rfl) rfl (fun h46_5 => ?_) (fun h46_5 => ?_)
          · skip
            refine .v (.asn rfl) rfl ?_
            refine .nil ?_
            refine .then ?_
            refine .condT rfl ?_
            refine .seq ?_
            refine .region ?_
            refine .v (.asn rfl) rfl ?_
            refine .v (.asn rfl) rfl ?_
            refine .v (.asn rfl) rfl ?_
            refine .nil ?_
            refine .then ?_
            refine .ret ?_
            refine .blk_ret ?_
            refine .then_ret ?_
            exact .done _ [] (.t3 rfl rfl rfl rfl) .rfl (by rw [hlong, if_neg (by omega), if_pos (by omega)]) (Inn.keep .here)
          · skip
            have e5 : ((5 : Int) + (n : Int)).toNat = 5 + n := by omega
            have e9 : ((5 : Int) + (n : Int) + 4).toNat = 5 + n + 4 := by omega
            refine .v (.asn rfl) rfl ?_
            refine .nil ?_
            refine .then ?_
            refine .condF rfl ?_
            refine .seq ?_
            refine .draw [[], [], [0, 1], [2], [3, 3], [], [], [], [7], [5, 6, 8], [4, 9], [10, 4]] [] (by kernel_rfl) (by kernel_rfl) rfl (e1 := [(0, _), (2, _), (3, _), (4, _), (6, _)]) (.cons rfl rfl (.cons rfl rfl (.cons rfl rfl (.cons rfl rfl (.cons rfl rfl .nil))))) (fun x hx => by cases hx) rfl ?_
            refine .v (i := 0) [] rfl rfl rfl .nil (.n (.mv rfl)) ?_
            refine .v (i := 1) [] rfl rfl rfl .nil (.n (.mv rfl)) ?_
            refine .v (i := 2) [(48, _), (49, _)] rfl rfl rfl (.cons (.tail _ (.head _)) rfl rfl (.cons (.head _) rfl rfl .nil)) (.n (.txTo (i := 5 + (n : Int)) Try.underlying9 rfl rfl ⟨by omega, by omega⟩)) ?_
            refine .v (i := 3) [(50, _)] rfl rfl rfl (.cons (.head _) rfl rfl .nil) (.n (.call rfl rfl (Try.call34 _) (fun G hle hG => sum_fn _ G (by rw [ByteArray.size_extract]; omega)))) ?_
            refine .v (i := 4) [(51, _)] rfl rfl rfl (.cons (.head _) rfl rfl .nil) (.n (.call rfl rfl (Try.call33 _) (fun G hle hG => four_fn _ G))) ?_
            refine .v (i := 5) [] rfl rfl rfl .nil (.n (.mv rfl)) ?_
            refine .v (i := 6) [] rfl rfl rfl .nil (.n (.mv rfl)) ?_
            refine .v (i := 7) [] rfl rfl rfl .nil (.n (.mv rfl)) ?_
            refine .v (i := 8) [(55, _)] rfl rfl rfl (.cons (.head _) rfl rfl .nil) (.n (.add rfl rfl (by omega))) ?_
            refine .v (i := 9) [(53, _), (54, _), (56, _)] rfl rfl rfl (.cons (.tail _ (.tail _ (.tail _ (.head _)))) rfl rfl (.cons (.tail _ (.tail _ (.head _))) rfl rfl (.cons (.head _) rfl rfl .nil))) (.n (.txIn (i := 5 + (n : Int)) (j := 5 + (n : Int) + 4) Try.underlying9 rfl rfl rfl ⟨by omega, by omega, by omega⟩)) ?_
            refine .tail0 10 [[10, 4, 9, 3, 5, 6, 8, 2, 7, 0, 1], [11, 10, 4, 9, 3, 5, 6, 8, 2, 7, 0, 1]] rfl rfl rfl rfl (e' := [(57, _), (56, _), (55, _), (54, _), (53, _), (52, _), (51, _), (50, _), (49, _), (48, _), (0, _), (2, _), (3, _), (4, _), (6, _)]) rfl ?_
            refine .vs (.nes rfl rfl) rfl (fun h58_6 => ?_) (fun h58_6 => ?_)
            · skip
              refine .v (.asn rfl) rfl ?_
              refine .nil ?_
              refine .then ?_
              refine .condT rfl ?_
              refine .seq ?_
              refine .region ?_
              refine .v (.asn rfl) rfl ?_
              refine .v (.asn rfl) rfl ?_
              refine .v (.asn rfl) rfl ?_
              refine .nil ?_
              refine .then ?_
              refine .ret ?_
              refine .blk_ret ?_
              refine .then_ret ?_
              exact .done _ [] (.t3 rfl rfl rfl rfl) .rfl (by rw [hlong, if_neg (by omega), if_neg (by omega), if_neg (by have h := h58_6; rw [e5, e9] at h; exact h)]) (Inn.keep .here)
            · skip
              refine .v (.asn rfl) rfl ?_
              refine .nil ?_
              refine .then ?_
              refine .condF rfl ?_
              refine .skip ?_
              refine .blk ?_
              refine .then ?_
              refine .seq ?_
              refine .draw [[], [], [0, 1], [], [], [4], [3, 5], [2, 0, 1, 2], [6, 7, 0, 1, 2, 3, 4, 5, 6, 7], [8, 0, 1, 2, 3, 4, 5, 6, 7, 8]] [] (by kernel_rfl) (by kernel_rfl) rfl (e1 := [(0, _), (3, _), (4, _), (6, _)]) (.cons rfl rfl (.cons rfl rfl (.cons rfl rfl (.cons rfl rfl .nil)))) (fun x hx => by cases hx) rfl ?_
              refine .v (i := 0) [] rfl rfl rfl .nil (.n (.mv rfl)) ?_
              refine .v (i := 1) [] rfl rfl rfl .nil (.n (.mv rfl)) ?_
              refine .v (i := 2) [(59, _), (60, _)] rfl rfl rfl (.cons (.tail _ (.head _)) rfl rfl (.cons (.head _) rfl rfl .nil)) (.n (.txIn (i := 5) (j := 5 + (n : Int)) Try.underlying9 rfl rfl rfl ⟨by omega, by omega, by omega⟩)) ?_
              refine .v (i := 3) [] rfl rfl rfl .nil (.n (.mv rfl)) ?_
              refine .v (i := 4) [] rfl rfl rfl .nil (.n (.mv rfl)) ?_
              refine .v (i := 5) [(63, _)] rfl rfl rfl (.cons (.head _) rfl rfl .nil) (.n (.add rfl rfl (by omega))) ?_
              refine .v (i := 6) [(62, _), (64, _)] rfl rfl rfl (.cons (.tail _ (.tail _ (.head _))) rfl rfl (.cons (.head _) rfl rfl .nil)) (.n (.txFrom (i := 5 + (n : Int) + 4) Try.underlying9 rfl rfl ⟨by omega, by omega⟩)) ?_
              refine .v (i := 7) [(61, _)] rfl rfl rfl (.cons (.tail _ (.tail _ (.tail _ (.tail _ (.head _))))) rfl rfl .nil) (.n (.asn rfl)) ?_
              refine .tail0 8 [[8, 6, 7, 0, 1, 2, 3, 4, 5], [9, 8, 0, 1, 2, 3, 4, 5, 6, 7]] rfl rfl rfl rfl (e' := [(2, _), (65, _), (64, _), (63, _), (62, _), (61, _), (60, _), (59, _), (0, _), (3, _), (4, _), (6, _)]) rfl ?_
              refine .v (.asn rfl) rfl ?_
              refine .v (.asn rfl) rfl ?_
              refine .nil ?_
              refine .then ?_
              refine .ret ?_
              exact .done _ [] (.t3 rfl rfl rfl rfl) .rfl (by rw [hlong, if_neg (by omega), if_neg (by omega), if_pos (by have h := Decidable.not_not.1 h58_6; rw [e5, e9] at h; exact h)]; rw [e5, e9]; rfl) (Inn.keep .here)
theorem all_fn (s : ByteArray) (F : Mem) (hs : s.size ≤ 1048576) : Fn Try.prog 31 #[.string s] [] F (fun v M G => M = [] ∧ ∃ a c, v = .tuple #[.slice a (allB s).1.length c, .string (allB s).2] ∧ Sl G encS 1 a c (allB s).1) := by
  refine Fn.start0 Try.func31 rfl Try.ntmps31 rfl (env := [(0, _)]) rfl ?_
  intro R
  refine .seq ?_
  refine .region ?_
  refine .v (.asn rfl) rfl ?_
  refine .v (.asn rfl) rfl ?_
  refine .nil ?_
  refine .then ?_
  refine .seq ?_
  refine .region ?_
  refine .v (.asn rfl) rfl ?_
  refine .nil ?_
  refine .then ?_
  refine .block ?_
  refine .emp ?_
  refine WC.loopx (fx := []) (pre := [_]) (fm := [_]) rfl Sub.nil (ι := ByteArray × List ByteArray × Option Addr × Nat × Itm) (fun z => z.2.1.length + z.1.size ≤ s.size ∧ allB s = (z.2.1 ++ (allB z.1).1, (allB z.1).2) ∧ Row 9 encS 1 z.2.2.1 z.2.2.2.1 z.2.1 z.2.2.2.2) (fun z => z.1.size) (fun z => [(0, .string z.1), (4, .slice z.2.2.1 z.2.1.length z.2.2.2.1)]) (fun z => [z.2.2.2.2]) (fun z => F) (s, [], none, 0, []) ⟨by simp, rfl, Row.nil⟩ ?he ?hm ?round
  case he => exact .cons rfl rfl (.cons rfl rfl .nil)
  case hm => exact (fun _ h => h)
  case round =>
    intro z hk
    obtain ⟨t, out, a1, c1, it⟩ := z
    obtain ⟨hk, hall, hr⟩ := hk
    dsimp only at hk hall hr ⊢
    dsimp only [List.cons_append, List.nil_append]
    refine .block ?_
    refine .seq ?_
    refine .region ?_
    refine .v (.mv rfl) rfl ?_
    refine .v (.call rfl rfl (Try.call43 _) (fun G hle hG => take_fn t G (by omega))) rfl ?_
    refine .v (.mv rfl) rfl ?_
    refine .v (.ext rfl rfl) rfl ?_
    refine .v (.ext rfl rfl) rfl ?_
    refine .v (.ext rfl rfl) rfl ?_
    refine .v (.asn rfl) rfl ?_
    refine .v (.asn rfl) rfl ?_
    refine .v (.asn rfl) rfl ?_
    refine .nil ?_
    refine .then ?_
    refine .seq ?_
    refine .seq ?_
    refine .region ?_
    refine .v (.mv rfl) rfl ?_
    refine .vs (.ne rfl rfl) rfl (fun h15_1 => ?_) (fun h15_1 => ?_)
    · skip
      refine .nil ?_
      refine .then ?_
      refine .condT rfl ?_
      refine .seq ?_
      refine .region ?_
      refine .v (.mv rfl) rfl ?_
      refine .v (.mv rfl) rfl ?_
      refine .v (.asn rfl) rfl ?_
      refine .v (.asn rfl) rfl ?_
      refine .nil ?_
      refine .then ?_
      refine .ret ?_
      refine .then_ret ?_
      refine .blk_ret ?_
      refine .then_ret ?_
      refine .blk_ret ?_
      have hb := allB_bad (s := t) h15_1
      rw [hb] at hall
      have e1 : (allB s).1 = out := by rw [hall]; simp
      have e2 : (allB s).2 = t := by rw [hall]
      refine .freeze (it := it) .here (fun G hle hG => ?_)
      exact .done _ [] (.t2 rfl rfl rfl) hle ⟨rfl, a1, c1, by rw [e1, e2], by rw [e1]; exact hr.sl encS_ok hG⟩ (Inn.keep (.there .here))
    · skip
      have hok := allB_ok (s := t) (Decidable.not_not.1 h15_1)
      refine .nil ?_
      refine .then ?_
      refine .condF rfl ?_
      refine .skip ?_
      refine .then ?_
      refine .region ?_
      refine .v (.mv rfl) rfl ?_
      refine .v (.mv rfl) rfl ?_
      refine .nb (.lit1 sl34 ty9 rfl rfl rfl rfl rfl) rfl (fun b2 => ?_)
      refine .ap (.app1 (xs := out) ((takeB t).1) sl34 ty9 rfl encS_ok rfl rfl hr .here (by omega) (by omega) _ (fun _ => (.there .here))) rfl (fun a2 c2 it2 hr2 => ?_)
      refine .v (.mv rfl) rfl ?_
      refine .v (.asn rfl) rfl ?_
      refine .v (.asn rfl) rfl ?_
      refine .nil ?_
      refine .blk ?_
      exact .again ((takeB t).2.1, out ++ [(takeB t).1], a2, c2, it2) ⟨by have h1 := hok.2.1; simp only [List.length_append, List.length_cons, List.length_nil]; omega, by rw [hall, hok.1]; simp, hr2⟩ (by have h1 := hok.2.1; dsimp only; omega) (.cons rfl rfl (.cons rfl rfl .nil)) (fun w ho => by dsimp only [List.cons_append, List.nil_append]; skip; exact (subl (.cons _ (.cons_cons _ (.cons_cons _ .slnil)))) w ho)
end Go.Proofs.Ytggkhcdilbdifaa.Ow
