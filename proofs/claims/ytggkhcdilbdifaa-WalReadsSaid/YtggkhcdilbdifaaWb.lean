/- Walks. -/
import Derived.Test.YtggkhcdilbdifaaWa
namespace Go.Proofs.Ytggkhcdilbdifaa.Ow
open Go Go.Proofs.Ytggkhcdilbdifaa.Rec
set_option linter.unusedVariables false
theorem rsum_fn (s : ByteArray) (F : Mem) (hs : s.size ≤ 4611686018427387904) : Fn Try.prog 53 #[.string s] [] F (fun u _ _ => u = .int .i64 (sumB s : Nat)) := by
  refine Fn.start0 Try.func53 rfl Try.ntmps53 rfl (env := [(0, _)]) rfl ?_
  intro R
  refine .seq ?_
  refine .region ?_
  refine .v (.asn rfl) rfl ?_
  refine .nil ?_
  refine .then ?_
  refine .seq ?_
  refine .region ?_
  refine .v (.asn rfl) rfl ?_
  refine .nil ?_
  refine .then ?_
  refine .seq ?_
  refine .seq ?_
  refine .region ?_
  refine .v (.asn rfl) rfl ?_
  refine .nil ?_
  refine .then ?_
  refine .block ?_
  refine WC.loop0 (fx := [(0, _), (2, _)]) (.cons rfl rfl (.cons rfl rfl .nil)) (ι := Nat) (fun k => k ≤ s.size) (fun k => s.size - k) (fun k => [(3, .int .i64 (creg 4294967295 ((bl s).take k) : Nat)), (4, .int .i64 k)]) 0 (by omega) ?he ?round
  case he => exact .cons rfl rfl (.cons rfl rfl (.cons rfl rfl (.cons rfl rfl .nil)))
  case round =>
    intro k hk
    refine .seq ?_
    refine .seq ?_
    refine .region ?_
    refine .v (.mv rfl) rfl ?_
    refine .v (.mv rfl) rfl ?_
    refine .v (.lens Try.underlying9 rfl) rfl ?_
    refine .vs (.lt rfl rfl) rfl (fun h9_1 => ?_) (fun h9_1 => ?_)
    · skip
      refine .nil ?_
      refine .then ?_
      refine .condT rfl ?_
      refine .skip ?_
      refine .then ?_
      refine .seq ?_
      refine .block ?_
      refine .seq ?_
      refine .region ?_
      refine .v (.mv rfl) rfl ?_
      refine .v (.mv rfl) rfl ?_
      refine .v (.mv rfl) rfl ?_
      have hsz := bl_size s
      obtain ⟨x, hx⟩ : ∃ y, (bl s)[k]? = some y := ⟨_, List.getElem?_eq_getElem (by omega)⟩
      have hc := creg_lt ((bl s).take k) (c := 4294967295) (by decide)
      have hx256 := x.toNat_lt
      have h1 := xor_byte_lt hc x
      refine .v (.bytev k (x.toNat : Int) Try.underlying9 rfl rfl ⟨by omega, byte_lt hx⟩ (byte_at hx)) rfl ?_
      refine .v (.cvtv (x.toNat : Int) rfl Try.underlying5 Try.underlying3 (wrap_in (by omega) (by omega))) rfl ?_
      refine .v (.bxor (r := ((creg 4294967295 ((bl s).take k) ^^^ x.toNat : Nat) : Int)) rfl rfl (xor_i64 _ _ (by omega) (by omega))) rfl ?_
      refine .v (.asn rfl) rfl ?_
      refine .nil ?_
      refine .then ?_
      refine .seq ?_
      refine .region ?_
      refine .v (.asn rfl) rfl ?_
      refine .nil ?_
      refine .then ?_
      refine .block ?_
      refine WC.loop0 (fx := [(0, _), (2, _), (4, _)]) (.cons rfl rfl (.cons rfl rfl (.cons rfl rfl .nil))) (ι := Nat) (fun j => j ≤ 8) (fun j => 8 - j) (fun j => [(3, .int .i64 (cit j (creg 4294967295 ((bl s).take k) ^^^ x.toNat) : Nat)), (5, .int .i64 j)]) 0 (Nat.zero_le _) ?he ?round
      case he => exact .cons rfl rfl (.cons rfl rfl (.cons rfl rfl (.cons rfl rfl (.cons rfl rfl .nil))))
      case round =>
        intro j hk
        have hq := cit_lt h1 j
        refine .seq ?_
        refine .seq ?_
        refine .region ?_
        refine .v (.mv rfl) rfl ?_
        refine .vs (.lt rfl rfl) rfl (fun h19_2 => ?_) (fun h19_2 => ?_)
        · skip
          refine .nil ?_
          refine .then ?_
          refine .condT rfl ?_
          refine .skip ?_
          refine .then ?_
          refine .seq ?_
          refine .block ?_
          refine .seq ?_
          refine .region ?_
          refine .v (.mv rfl) rfl ?_
          refine .v (.remv ((cit j (creg 4294967295 ((bl s).take k) ^^^ x.toNat) % 2 : Nat) : Int) rfl rfl ⟨by omega, by omega⟩ (by omega)) rfl ?_
          refine .vs (.eq rfl rfl) rfl (fun h24_3 => ?_) (fun h24_3 => ?_)
          · skip
            refine .nil ?_
            refine .then ?_
            refine .condT rfl ?_
            refine .region ?_
            refine .v (.mv rfl) rfl ?_
            refine .v (.quov ((cit j (creg 4294967295 ((bl s).take k) ^^^ x.toNat) / 2 : Nat) : Int) rfl rfl ⟨by omega, by omega, by omega⟩ (by omega)) rfl ?_
            refine .v (.bxor (r := (((cit j (creg 4294967295 ((bl s).take k) ^^^ x.toNat) / 2) ^^^ 3988292384 : Nat) : Int)) rfl rfl (xor_i64 _ 3988292384 (by omega) (by omega))) rfl ?_
            refine .v (.asn rfl) rfl ?_
            refine .nil ?_
            refine .blk ?_
            refine .then ?_
            refine .region ?_
            refine .v (.mv rfl) rfl ?_
            refine .v (.add rfl rfl (by omega)) rfl ?_
            refine .v (.asn rfl) rfl ?_
            refine .nil ?_
            exact .again (j + 1) (by omega) (by omega) (.cons rfl (congrArg (Value.int .i64) (congrArg Int.ofNat (by first | exact (cstep_odd (by omega)).symm | exact (cstep_even (by omega)).symm))) (.cons rfl rfl (.cons rfl rfl (.cons rfl rfl (.cons rfl rfl .nil))))) (subl (.refl _))
          · skip
            refine .nil ?_
            refine .then ?_
            refine .condF rfl ?_
            refine .region ?_
            refine .v (.mv rfl) rfl ?_
            refine .v (.quov ((cit j (creg 4294967295 ((bl s).take k) ^^^ x.toNat) / 2 : Nat) : Int) rfl rfl ⟨by omega, by omega, by omega⟩ (by omega)) rfl ?_
            refine .v (.asn rfl) rfl ?_
            refine .nil ?_
            refine .blk ?_
            refine .then ?_
            refine .region ?_
            refine .v (.mv rfl) rfl ?_
            refine .v (.add rfl rfl (by omega)) rfl ?_
            refine .v (.asn rfl) rfl ?_
            refine .nil ?_
            exact .again (j + 1) (by omega) (by omega) (.cons rfl (congrArg (Value.int .i64) (congrArg Int.ofNat (by first | exact (cstep_odd (by omega)).symm | exact (cstep_even (by omega)).symm))) (.cons rfl rfl (.cons rfl rfl (.cons rfl rfl (.cons rfl rfl .nil))))) (subl (.refl _))
        · skip
          refine .nil ?_
          refine .then ?_
          refine .condF rfl ?_
          refine .exit ?_
          refine .then_exit ?_
          refine .then_exit ?_
          refine .blk_exit ?_
          refine .blk ?_
          refine .then ?_
          refine .region ?_
          refine .v (.mv rfl) rfl ?_
          refine .v (.add rfl rfl (by omega)) rfl ?_
          refine .v (.asn rfl) rfl ?_
          refine .nil ?_
          exact .again (k + 1) (by omega) (by omega) (.cons rfl (congrArg (Value.int .i64) (congrArg Int.ofNat (by obtain rfl : j = 8 := (by omega); exact (cit8 _).trans (creg_take hx _).symm))) (.cons rfl rfl (.cons rfl rfl (.cons rfl rfl .nil)))) (subl (.refl _))
    · skip
      refine .nil ?_
      refine .then ?_
      refine .condF rfl ?_
      refine .exit ?_
      refine .then_exit ?_
      refine .then_exit ?_
      refine .blk_exit ?_
      refine .then ?_
      refine .seq ?_
      refine .region ?_
      have hsz := bl_size s
      obtain rfl : k = s.size := by omega
      have hall : (bl s).take s.size = bl s := List.take_of_length_le (by omega)
      have hc := creg_lt (bl s) (c := 4294967295) (by decide)
      rw [hall]
      refine .v (.mv rfl) rfl ?_
      refine .v (.sub rfl rfl (by omega)) rfl ?_
      refine .v (.asn rfl) rfl ?_
      refine .nil ?_
      refine .then ?_
      refine .ret ?_
      exact .done _ [] (.t1 rfl rfl) .rfl (congrArg (Value.int .i64) (by unfold sumB crcL; omega)) (Inn.keep .here)
theorem rfour_fn (n : Nat) (F : Mem) (hn : n ≤ 4611686018427387904) : Fn Try.prog 52 #[.int .i64 n] [] F (fun u _ _ => u = .string (fourB n)) := by
  refine Fn.start0 Try.func52 rfl Try.ntmps52 rfl (env := [(0, _)]) rfl ?_
  intro R
  refine .seq ?_
  refine .region ?_
  refine .v (.asn rfl) rfl ?_
  refine .nil ?_
  refine .then ?_
  refine .seq ?_
  refine .region ?_
  refine .v (.mv rfl) rfl ?_
  refine .v (.remv ((n % 256 : Nat) : Int) rfl rfl ⟨by omega, by omega⟩ (by omega)) rfl ?_
  refine .v (.cvtv ((n % 256 : Nat) : Int) rfl Try.underlying3 Try.underlying5 (by rw [IntKind.wrap_u8]; omega)) rfl ?_
  refine .v (.mv rfl) rfl ?_
  refine .v (.quov ((n / 256 : Nat) : Int) rfl rfl ⟨by omega, by omega, by omega⟩ (by omega)) rfl ?_
  refine .v (.remv ((n / 256 % 256 : Nat) : Int) rfl rfl ⟨by omega, by omega⟩ (by omega)) rfl ?_
  refine .v (.cvtv ((n / 256 % 256 : Nat) : Int) rfl Try.underlying3 Try.underlying5 (by rw [IntKind.wrap_u8]; omega)) rfl ?_
  refine .v (.mv rfl) rfl ?_
  refine .v (.quov ((n / 65536 : Nat) : Int) rfl rfl ⟨by omega, by omega, by omega⟩ (by omega)) rfl ?_
  refine .v (.remv ((n / 65536 % 256 : Nat) : Int) rfl rfl ⟨by omega, by omega⟩ (by omega)) rfl ?_
  refine .v (.cvtv ((n / 65536 % 256 : Nat) : Int) rfl Try.underlying3 Try.underlying5 (by rw [IntKind.wrap_u8]; omega)) rfl ?_
  refine .v (.mv rfl) rfl ?_
  refine .v (.quov ((n / 16777216 : Nat) : Int) rfl rfl ⟨by omega, by omega, by omega⟩ (by omega)) rfl ?_
  refine .v (.remv ((n / 16777216 % 256 : Nat) : Int) rfl rfl ⟨by omega, by omega⟩ (by omega)) rfl ?_
  refine .v (.cvtv ((n / 16777216 % 256 : Nat) : Int) rfl Try.underlying3 Try.underlying5 (by rw [IntKind.wrap_u8]; omega)) rfl ?_
  refine .nb (.litn (qs := [(0, .int .u8 ((n % 256 : Nat) : Int)), (1, .int .u8 ((n / 256 % 256 : Nat) : Int)), (2, .int .u8 ((n / 65536 % 256 : Nat) : Int)), (3, .int .u8 ((n / 16777216 % 256 : Nat) : Int))]) (cs := [.int .u8 ((n % 256 : Nat) : Int), .int .u8 ((n / 256 % 256 : Nat) : Int), .int .u8 ((n / 65536 % 256 : Nat) : Int), .int .u8 ((n / 16777216 % 256 : Nat) : Int)]) sl88 ty5 rfl rfl (by first | kernel_rfl | simp [Instr.fill, Value.cells]) rfl) rfl (fun b1 => ?_)
  refine .v (.cvb [((n % 256 : Nat) : Int), ((n / 256 % 256 : Nat) : Int), ((n / 65536 % 256 : Nat) : Int), ((n / 16777216 % 256 : Nat) : Int)] Try.underlying88 Try.underlying5 Try.underlying9 rfl rfl .here rfl) rfl ?_
  refine .v (.asn rfl) rfl ?_
  refine .nil ?_
  refine .then ?_
  refine .ret ?_
  exact .done _ [] (.t1 rfl rfl) .rfl (congrArg Value.string (fourB_nums n)) (Inn.keep (.there .here))
theorem rput_fn (b : ByteArray) (F : Mem) (hs : b.size ≤ 1099511627776) : Fn Try.prog 50 #[.string b] [] F (fun u _ _ => u = .string (recB b)) := by
  refine Fn.start0 Try.func50 rfl Try.ntmps50 rfl (env := [(0, _)]) rfl ?_
  intro R
  refine .seq ?_
  refine .region ?_
  refine .v (.asn rfl) rfl ?_
  refine .nil ?_
  refine .then ?_
  refine .seq ?_
  refine .region ?_
  refine .v (.mv rfl) rfl ?_
  refine .v (.lens Try.underlying9 rfl) rfl ?_
  refine .v (.call rfl rfl (Try.call52 _) (fun G hle hG => rfour_fn _ G (by omega))) rfl ?_
  refine .v (.cat rfl rfl (by have h82 : (⟨#[82]⟩ : ByteArray).size = 1 := rfl; have h4 := fourB_size; simp only [ByteArray.size_append, fourB_size, h82]; omega)) rfl ?_
  refine .v (.mv rfl) rfl ?_
  refine .v (.cat rfl rfl (by have h82 : (⟨#[82]⟩ : ByteArray).size = 1 := rfl; have h4 := fourB_size; simp only [ByteArray.size_append, fourB_size, h82]; omega)) rfl ?_
  refine .v (.asn rfl) rfl ?_
  refine .nil ?_
  refine .then ?_
  refine .seq ?_
  refine .region ?_
  refine .v (.mv rfl) rfl ?_
  refine .v (.mv rfl) rfl ?_
  refine .v (.call rfl rfl (Try.call53 _) (fun G hle hG => rsum_fn _ G (by have h82 : (⟨#[82]⟩ : ByteArray).size = 1 := rfl; have h4 := fourB_size; simp only [ByteArray.size_append, fourB_size, h82]; omega))) rfl ?_
  refine .v (.call rfl rfl (Try.call52 _) (fun G hle hG => rfour_fn _ G (by have := crcL_lt (bl (headB b)); exact Nat.le_trans (Nat.le_of_lt this) (by decide)))) rfl ?_
  refine .v (.cat rfl rfl (by have h82 : (⟨#[82]⟩ : ByteArray).size = 1 := rfl; have h4 := fourB_size; simp only [ByteArray.size_append, fourB_size, h82]; omega)) rfl ?_
  refine .v (.asn rfl) rfl ?_
  refine .nil ?_
  refine .then ?_
  refine .ret ?_
  exact .done _ [] (.t1 rfl rfl) .rfl (by rw [← recB_eq]; rfl) (Inn.keep .here)
theorem rtake_fn (s : ByteArray) (F : Mem) (hs : s.size ≤ 1099511627776) : Fn Try.prog 44 #[.string s] [] F (fun u _ _ => u = .tuple #[.string (takeB s).1, .string (takeB s).2.1, .int .i64 (takeB s).2.2]) := by
  refine Fn.start0 Try.func44 rfl Try.ntmps44 rfl (env := [(0, _)]) rfl ?_
  intro R
  refine .seq ?_
  refine .region ?_
  refine .v (.asn rfl) rfl ?_
  refine .v (.asn rfl) rfl ?_
  refine .v (.asn rfl) rfl ?_
  refine .nil ?_
  refine .then ?_
  refine .seq ?_
  refine .seq ?_
  refine .region ?_
  refine .v (.mv rfl) rfl ?_
  refine .v (.lens Try.underlying9 rfl) rfl ?_
  refine .vs (.gt rfl rfl) rfl (fun h9_1 => ?_) (fun h9_1 => ?_)
  · skip
    have hsz := bl_size s
    obtain ⟨x, hx0⟩ : ∃ y, (bl s)[0]? = some y := ⟨_, List.getElem?_eq_getElem (by omega)⟩
    have hx256 := x.toNat_lt
    refine .v (.mv rfl) rfl ?_
    refine .g rfl rfl rfl ?_
    refine .v (.mv rfl) rfl ?_
    refine .g rfl rfl rfl ?_
    refine .v (.bytev 0 (x.toNat : Int) Try.underlying9 rfl rfl ⟨rfl, byte_lt hx0⟩ (byte_at hx0)) rfl ?_
    refine .g rfl rfl rfl ?_
    refine .vs (.ne rfl rfl) rfl (fun h13_2 => ?_) (fun h13_2 => ?_)
    · skip
      refine .v (.pkT rfl rfl) rfl ?_
      refine .nil ?_
      refine .then ?_
      refine .condT rfl ?_
      refine .seq ?_
      refine .region ?_
      refine .v (.asn rfl) rfl ?_
      refine .v (.asn rfl) rfl ?_
      refine .v (.asn rfl) rfl ?_
      refine .nil ?_
      refine .then ?_
      refine .ret ?_
      refine .then_ret ?_
      exact .done _ [] (.t3 rfl rfl rfl rfl) .rfl (by rw [takeB_form hx0 (by omega)]) (Inn.keep .here)
    · skip
      refine .v (.pkT rfl rfl) rfl ?_
      refine .nil ?_
      refine .then ?_
      refine .condF rfl ?_
      refine .skip ?_
      refine .then ?_
      refine .seq ?_
      refine .seq ?_
      refine .region ?_
      refine .v (.mv rfl) rfl ?_
      refine .v (.lens Try.underlying9 rfl) rfl ?_
      refine .vs (.lt rfl rfl) rfl (fun h17_3 => ?_) (fun h17_3 => ?_)
      · skip
        refine .nil ?_
        refine .then ?_
        refine .condT rfl ?_
        refine .seq ?_
        refine .region ?_
        refine .v (.asn rfl) rfl ?_
        refine .v (.asn rfl) rfl ?_
        refine .v (.asn rfl) rfl ?_
        refine .nil ?_
        refine .then ?_
        refine .ret ?_
        refine .then_ret ?_
        exact .done _ [] (.t3 rfl rfl rfl rfl) .rfl (by rw [takeB_short hx0 (by omega) (by omega)]) (Inn.keep .here)
      · skip
        obtain ⟨a, b, c, d, r, hl⟩ := parts hx0 (by omega) (by omega)
        have g1 : (bl s)[1]? = some a := by rw [hl]; rfl
        have g2 : (bl s)[2]? = some b := by rw [hl]; rfl
        have g3 : (bl s)[3]? = some c := by rw [hl]; rfl
        have g4 : (bl s)[4]? = some d := by rw [hl]; rfl
        have ha := a.toNat_lt
        have hb := b.toNat_lt
        have hc := c.toNat_lt
        have hd := d.toNat_lt
        obtain ⟨n, hn⟩ : ∃ n, n = num4 a b c d := ⟨_, rfl⟩
        have hnl : n < 4294967296 := by rw [hn]; exact num4_lt a b c d
        have hlong := takeB_long hl hn
        refine .nil ?_
        refine .then ?_
        refine .condF rfl ?_
        refine .skip ?_
        refine .then ?_
        refine .seq ?_
        refine .region ?_
        refine .v (.asn rfl) rfl ?_
        refine .nil ?_
        refine .then ?_
        refine .seq ?_
        refine .seq ?_
        refine .region ?_
        refine .v (.asn rfl) rfl ?_
        refine .nil ?_
        refine .then ?_
        refine .block ?_
        refine WC.loop0 (fx := [(0, _), (2, _), (3, _), (4, _)]) (.cons rfl rfl (.cons rfl rfl (.cons rfl rfl (.cons rfl rfl .nil)))) (ι := Nat) (fun i => i ≤ 4) (fun i => i) (fun i => [(5, .int .i64 (numR a b c d i : Nat)), (6, .int .i64 i)]) 4 (Nat.le_refl 4) ?he ?round
        case he => exact .cons rfl rfl (.cons rfl rfl (.cons rfl rfl (.cons rfl rfl (.cons rfl rfl (.cons rfl rfl .nil)))))
        case round =>
          intro i hk
          obtain ⟨y, hyy⟩ := numR_byte hl i
          obtain ⟨hy, hyn⟩ := hyy.resolve_right (by omega)
          have hy256 := y.toNat_lt
          have hnr := numR_lt a b c d i
          refine .seq ?_
          refine .seq ?_
          refine .region ?_
          refine .v (.mv rfl) rfl ?_
          refine .vs (.gt rfl rfl) rfl (fun h19_4 => ?_) (fun h19_4 => ?_)
          · skip
            refine .nil ?_
            refine .then ?_
            refine .condT rfl ?_
            refine .skip ?_
            refine .then ?_
            refine .seq ?_
            refine .block ?_
            refine .region ?_
            refine .v (.mv rfl) rfl ?_
            refine .v (.mul rfl rfl (by omega)) rfl ?_
            refine .v (.mv rfl) rfl ?_
            refine .v (.mv rfl) rfl ?_
            refine .v (.bytev i (y.toNat : Int) Try.underlying9 rfl rfl ⟨rfl, byte_lt hy⟩ (byte_at hy)) rfl ?_
            refine .v (.cvtv (y.toNat : Int) rfl Try.underlying5 Try.underlying3 (wrap_in (by omega) (by omega))) rfl ?_
            refine .v (.add rfl rfl (by omega)) rfl ?_
            refine .v (.asn rfl) rfl ?_
            refine .nil ?_
            refine .blk ?_
            refine .then ?_
            refine .region ?_
            refine .v (.mv rfl) rfl ?_
            refine .v (.sub rfl rfl (by omega)) rfl ?_
            refine .v (.asn rfl) rfl ?_
            refine .nil ?_
            exact .again (i - 1) (by omega) (by omega) (.cons rfl (congrArg (Value.int .i64) (by have := hyn (by omega); omega)) (.cons rfl (congrArg (Value.int .i64) (by omega)) (.cons rfl rfl (.cons rfl rfl (.cons rfl rfl (.cons rfl rfl .nil)))))) (subl (.refl _))
          · skip
            refine .nil ?_
            refine .then ?_
            refine .condF rfl ?_
            refine .exit ?_
            refine .then_exit ?_
            refine .then_exit ?_
            refine .blk_exit ?_
            refine .then ?_
            refine .seq ?_
            refine .seq ?_
            refine .region ?_
            obtain rfl : i = 0 := by omega
            have hn5 : numR a b c d 0 = n := by rw [hn]; exact numR_zero a b c d
            refine .kn (t := 5) (v := .int .i64 (n : Nat)) rfl (congrArg (Value.int .i64) (congrArg Int.ofNat hn5)) ?_
            refine .v (.mv rfl) rfl ?_
            refine .vs (.gt rfl rfl) rfl (fun h30_5 => ?_) (fun h30_5 => ?_)
            · skip
              refine .nil ?_
              refine .then ?_
              refine .condT rfl ?_
              refine .seq ?_
              refine .region ?_
              refine .v (.asn rfl) rfl ?_
              refine .v (.asn rfl) rfl ?_
              refine .v (.asn rfl) rfl ?_
              refine .nil ?_
              refine .then ?_
              refine .ret ?_
              refine .then_ret ?_
              exact .done _ [] (.t3 rfl rfl rfl rfl) .rfl (by rw [hlong, if_pos (by omega)]) (Inn.keep .here)
            · skip
              refine .nil ?_
              refine .then ?_
              refine .condF rfl ?_
              refine .skip ?_
              refine .then ?_
              refine .seq ?_
              refine .seq ?_
              refine .region ?_
              refine .v (.mv rfl) rfl ?_
              refine .v (.lens Try.underlying9 rfl) rfl ?_
              refine .v (.mv rfl) rfl ?_
              refine .v (.add rfl rfl (by omega)) rfl ?_
              refine .vs (.lt rfl rfl) rfl (fun h35_6 => ?_) (fun h35_6 => ?_)
              · skip
                refine .nil ?_
                refine .then ?_
                refine .condT rfl ?_
                refine .seq ?_
                refine .region ?_
                refine .v (.asn rfl) rfl ?_
                refine .v (.asn rfl) rfl ?_
                refine .v (.asn rfl) rfl ?_
                refine .nil ?_
                refine .then ?_
                refine .ret ?_
                refine .then_ret ?_
                exact .done _ [] (.t3 rfl rfl rfl rfl) .rfl (by rw [hlong, if_neg (by omega), if_pos (by omega)]) (Inn.keep .here)
              · skip
                have e5 : ((5 : Int) + (n : Int)).toNat = 5 + n := by omega
                have e9 : ((n : Int) + 9).toNat = n + 9 := by omega
                have hput := put_test hl hn (by omega)
                refine .nil ?_
                refine .then ?_
                refine .condF rfl ?_
                refine .skip ?_
                refine .then ?_
                refine .seq ?_
                refine .seq ?_
                refine .draw [[], [], [1], [0, 2], [3], [], [], [6], [5, 7], [4, 8]] [] (by kernel_rfl) (by kernel_rfl) rfl (e1 := [(0, _), (2, _), (3, _), (4, _), (5, _)]) (.cons rfl rfl (.cons rfl rfl (.cons rfl rfl (.cons rfl rfl (.cons rfl rfl .nil))))) (fun x hx => by cases hx) rfl ?_
                refine .v (i := 0) [] rfl rfl rfl .nil (.n (.mv rfl)) ?_
                refine .v (i := 1) [] rfl rfl rfl .nil (.n (.mv rfl)) ?_
                refine .v (i := 2) [(37, _)] rfl rfl rfl (.cons (.head _) rfl rfl .nil) (.n (.add rfl rfl (by omega))) ?_
                refine .v (i := 3) [(36, _), (38, _)] rfl rfl rfl (.cons (.tail _ (.tail _ (.head _))) rfl rfl (.cons (.head _) rfl rfl .nil)) (.n (.txIn (i := 5) (j := 5 + (n : Int)) Try.underlying9 rfl rfl rfl ⟨by omega, by omega, by omega⟩)) ?_
                refine .v (i := 4) [(39, _)] rfl rfl rfl (.cons (.head _) rfl rfl .nil) (.n (.call rfl rfl (Try.call50 _) (fun G hle hG => rput_fn _ G (by rw [ByteArray.size_extract]; omega)))) ?_
                refine .v (i := 5) [] rfl rfl rfl .nil (.n (.mv rfl)) ?_
                refine .v (i := 6) [] rfl rfl rfl .nil (.n (.mv rfl)) ?_
                refine .v (i := 7) [(42, _)] rfl rfl rfl (.cons (.head _) rfl rfl .nil) (.n (.add rfl rfl (by omega))) ?_
                refine .v (i := 8) [(41, _), (43, _)] rfl rfl rfl (.cons (.tail _ (.tail _ (.head _))) rfl rfl (.cons (.head _) rfl rfl .nil)) (.n (.txTo (i := (n : Int) + 9) Try.underlying9 rfl rfl ⟨by omega, by omega⟩)) ?_
                refine .tail0 9 [[9, 4, 8, 3, 5, 7, 0, 2, 6, 1]] rfl rfl rfl rfl (e' := [(44, _), (43, _), (42, _), (41, _), (40, _), (39, _), (38, _), (37, _), (36, _), (0, _), (2, _), (3, _), (4, _), (5, _)]) rfl ?_
                refine .vs (.nes rfl rfl) rfl (fun h45_7 => ?_) (fun h45_7 => ?_)
                · skip
                  refine .nil ?_
                  refine .then ?_
                  refine .condT rfl ?_
                  refine .seq ?_
                  refine .region ?_
                  refine .v (.asn rfl) rfl ?_
                  refine .v (.asn rfl) rfl ?_
                  refine .v (.asn rfl) rfl ?_
                  refine .nil ?_
                  refine .then ?_
                  refine .ret ?_
                  refine .then_ret ?_
                  exact .done _ [] (.t3 rfl rfl rfl rfl) .rfl (by rw [hlong, if_neg (by omega), if_neg (by omega), if_neg (fun h => h45_7 (by rw [e5, e9]; exact hput.mpr h))]) (Inn.keep .here)
                · skip
                  refine .nil ?_
                  refine .then ?_
                  refine .condF rfl ?_
                  refine .skip ?_
                  refine .then ?_
                  refine .seq ?_
                  refine .draw [[], [], [1], [0, 2], [], [], [5], [4, 6], [3, 0, 1, 2, 3], [7, 8, 0, 1, 2, 3, 4, 5, 6, 7, 8], [9, 0, 1, 2, 3, 4, 5, 6, 7, 8, 9]] [] (by kernel_rfl) (by kernel_rfl) rfl (e1 := [(0, _), (3, _), (4, _), (5, _)]) (.cons rfl rfl (.cons rfl rfl (.cons rfl rfl (.cons rfl rfl .nil)))) (fun x hx => by cases hx) rfl ?_
                  refine .v (i := 0) [] rfl rfl rfl .nil (.n (.mv rfl)) ?_
                  refine .v (i := 1) [] rfl rfl rfl .nil (.n (.mv rfl)) ?_
                  refine .v (i := 2) [(47, _)] rfl rfl rfl (.cons (.head _) rfl rfl .nil) (.n (.add rfl rfl (by omega))) ?_
                  refine .v (i := 3) [(46, _), (48, _)] rfl rfl rfl (.cons (.tail _ (.tail _ (.head _))) rfl rfl (.cons (.head _) rfl rfl .nil)) (.n (.txIn (i := 5) (j := 5 + (n : Int)) Try.underlying9 rfl rfl rfl ⟨by omega, by omega, by omega⟩)) ?_
                  refine .v (i := 4) [] rfl rfl rfl .nil (.n (.mv rfl)) ?_
                  refine .v (i := 5) [] rfl rfl rfl .nil (.n (.mv rfl)) ?_
                  refine .v (i := 6) [(51, _)] rfl rfl rfl (.cons (.head _) rfl rfl .nil) (.n (.add rfl rfl (by omega))) ?_
                  refine .v (i := 7) [(50, _), (52, _)] rfl rfl rfl (.cons (.tail _ (.tail _ (.head _))) rfl rfl (.cons (.head _) rfl rfl .nil)) (.n (.txFrom (i := (n : Int) + 9) Try.underlying9 rfl rfl ⟨by omega, by omega⟩)) ?_
                  refine .v (i := 8) [(49, _)] rfl rfl rfl (.cons (.tail _ (.tail _ (.tail _ (.tail _ (.head _))))) rfl rfl .nil) (.n (.asn rfl)) ?_
                  refine .tail0 9 [[9, 7, 8, 0, 1, 2, 3, 4, 5, 6], [10, 9, 0, 1, 2, 3, 4, 5, 6, 7, 8]] rfl rfl rfl rfl (e' := [(2, _), (53, _), (52, _), (51, _), (50, _), (49, _), (48, _), (47, _), (46, _), (0, _), (3, _), (4, _), (5, _)]) rfl ?_
                  refine .v (.asn rfl) rfl ?_
                  refine .v (.asn rfl) rfl ?_
                  refine .nil ?_
                  refine .then ?_
                  refine .ret ?_
                  exact .done _ [] (.t3 rfl rfl rfl rfl) .rfl (by rw [hlong, if_neg (by omega), if_neg (by omega), if_pos (by have h := Decidable.not_not.1 h45_7; rw [e5, e9] at h; exact hput.mp h)]; rw [e5, e9, show 5 + n + 4 = n + 9 by omega]; rfl) (Inn.keep .here)
  · skip
    have hemp : s = ⟨#[]⟩ := size_eq h9_1
    refine .v (.mv rfl) rfl ?_
    refine .gs rfl rfl rfl rfl ?_
    refine .gs rfl rfl rfl rfl ?_
    refine .gs rfl rfl rfl rfl ?_
    refine .v (.pkF rfl rfl) rfl ?_
    refine .nil ?_
    refine .then ?_
    refine .condF rfl ?_
    refine .skip ?_
    refine .then ?_
    refine .seq ?_
    refine .seq ?_
    refine .region ?_
    refine .v (.mv rfl) rfl ?_
    refine .v (.lens Try.underlying9 rfl) rfl ?_
    refine .vT (.lt rfl rfl) rfl (by rw [hemp]; decide) ?_
    refine .nil ?_
    refine .then ?_
    refine .condT rfl ?_
    refine .seq ?_
    refine .region ?_
    refine .v (.asn rfl) rfl ?_
    refine .v (.asn rfl) rfl ?_
    refine .v (.asn rfl) rfl ?_
    refine .nil ?_
    refine .then ?_
    refine .ret ?_
    refine .then_ret ?_
    exact .done _ [] (.t3 rfl rfl rfl rfl) .rfl (by rw [hemp]; rfl) (Inn.keep .here)
theorem rall_fn (s : ByteArray) (F : Mem) (hs : s.size ≤ 1048576) : Fn Try.prog 32 #[.string s] [] F (fun v M G => M = [] ∧ ∃ a c, v = .tuple #[.slice a (allB s).1.length c, .string (allB s).2] ∧ Sl G encS 1 a c (allB s).1) := by
  refine Fn.start0 Try.func32 rfl Try.ntmps32 rfl (env := [(0, _)]) rfl ?_
  intro R
  refine .seq ?_
  refine .region ?_
  refine .v (.asn rfl) rfl ?_
  refine .v (.asn rfl) rfl ?_
  refine .nil ?_
  refine .then ?_
  refine .seq ?_
  refine .region ?_
  refine .v (.asn rfl) rfl ?_
  refine .nil ?_
  refine .then ?_
  refine .block ?_
  refine .emp ?_
  refine WC.loopx (fx := []) (pre := [_]) (fm := [_]) rfl Sub.nil (ι := ByteArray × List ByteArray × Option Addr × Nat × Itm) (fun z => z.2.1.length + z.1.size ≤ s.size ∧ allB s = (z.2.1 ++ (allB z.1).1, (allB z.1).2) ∧ Row 9 encS 1 z.2.2.1 z.2.2.2.1 z.2.1 z.2.2.2.2) (fun z => z.1.size) (fun z => [(0, .string z.1), (4, .slice z.2.2.1 z.2.1.length z.2.2.2.1)]) (fun z => [z.2.2.2.2]) (fun z => F) (s, [], none, 0, []) ⟨by simp, rfl, Row.nil⟩ ?he ?hm ?round
  case he => exact .cons rfl rfl (.cons rfl rfl .nil)
  case hm => exact (fun _ h => h)
  case round =>
    intro z hk
    obtain ⟨t, out, a1, c1, it⟩ := z
    obtain ⟨hk, hall, hr⟩ := hk
    dsimp only at hk hall hr ⊢
    dsimp only [List.cons_append, List.nil_append]
    refine .block ?_
    refine .seq ?_
    refine .region ?_
    refine .v (.mv rfl) rfl ?_
    refine .v (.call rfl rfl (Try.call44 _) (fun G hle hG => rtake_fn t G (by omega))) rfl ?_
    refine .v (.mv rfl) rfl ?_
    refine .v (.ext rfl rfl) rfl ?_
    refine .v (.ext rfl rfl) rfl ?_
    refine .v (.ext rfl rfl) rfl ?_
    refine .v (.asn rfl) rfl ?_
    refine .v (.asn rfl) rfl ?_
    refine .v (.asn rfl) rfl ?_
    refine .nil ?_
    refine .then ?_
    refine .seq ?_
    refine .seq ?_
    refine .region ?_
    refine .v (.mv rfl) rfl ?_
    refine .vs (.ne rfl rfl) rfl (fun h15_1 => ?_) (fun h15_1 => ?_)
    · skip
      refine .nil ?_
      refine .then ?_
      refine .condT rfl ?_
      refine .seq ?_
      refine .region ?_
      refine .v (.mv rfl) rfl ?_
      refine .v (.mv rfl) rfl ?_
      refine .v (.asn rfl) rfl ?_
      refine .v (.asn rfl) rfl ?_
      refine .nil ?_
      refine .then ?_
      refine .ret ?_
      refine .then_ret ?_
      refine .blk_ret ?_
      refine .then_ret ?_
      refine .blk_ret ?_
      have hb := allB_bad (s := t) h15_1
      rw [hb] at hall
      have e1 : (allB s).1 = out := by rw [hall]; simp
      have e2 : (allB s).2 = t := by rw [hall]
      refine .freeze (it := it) .here (fun G hle hG => ?_)
      exact .done _ [] (.t2 rfl rfl rfl) hle ⟨rfl, a1, c1, by rw [e1, e2], by rw [e1]; exact hr.sl encS_ok hG⟩ (Inn.keep (.there .here))
    · skip
      have hok := allB_ok (s := t) (Decidable.not_not.1 h15_1)
      refine .nil ?_
      refine .then ?_
      refine .condF rfl ?_
      refine .skip ?_
      refine .then ?_
      refine .seq ?_
      refine .region ?_
      refine .v (.mv rfl) rfl ?_
      refine .v (.mv rfl) rfl ?_
      refine .nb (.lit1 sl34 ty9 rfl rfl rfl rfl rfl) rfl (fun b2 => ?_)
      refine .ap (.app1 (xs := out) ((takeB t).1) sl34 ty9 rfl encS_ok rfl rfl hr .here (by omega) (by omega) _ (fun _ => (.there .here))) rfl (fun a2 c2 it2 hr2 => ?_)
      refine .v (.asn rfl) rfl ?_
      refine .nil ?_
      refine .then ?_
      refine .region ?_
      refine .v (.mv rfl) rfl ?_
      refine .v (.asn rfl) rfl ?_
      refine .nil ?_
      refine .blk ?_
      exact .again ((takeB t).2.1, out ++ [(takeB t).1], a2, c2, it2) ⟨by have h1 := hok.2.1; simp only [List.length_append, List.length_cons, List.length_nil]; omega, by rw [hall, hok.1]; simp, hr2⟩ (by have h1 := hok.2.1; dsimp only; omega) (.cons rfl rfl (.cons rfl rfl .nil)) (fun w ho => by dsimp only [List.cons_append, List.nil_append]; skip; exact (subl (.cons _ (.cons_cons _ (.cons_cons _ .slnil)))) w ho)
theorem same_fn (l m : List ByteArray) (a b : Option Addr) (c e : Nat) (F : Mem) (hS : Sl F encS 1 a c l) (hT : Sl F encS 1 b e m) : Fn Try.prog 12 #[.slice a l.length c, .slice b m.length e] [] F (fun u _ _ => u = .bool (decide (l = m))) := by
  have hm := hS.len
  have hm2 := hT.len
  refine Fn.start0 Try.func12 rfl Try.ntmps12 rfl (env := [(0, _), (1, _)]) rfl ?_
  intro R
  refine .seq ?_
  refine .region ?_
  refine .v (.asn rfl) rfl ?_
  refine .nil ?_
  refine .then ?_
  refine .seq ?_
  refine .seq ?_
  refine .region ?_
  refine .v (.mv rfl) rfl ?_
  refine .v (.lenl Try.underlying34 rfl) rfl ?_
  refine .v (.mv rfl) rfl ?_
  refine .v (.lenl Try.underlying34 rfl) rfl ?_
  refine .vs (.ne rfl rfl) rfl (fun h10_1 => ?_) (fun h10_1 => ?_)
  · skip
    refine .nil ?_
    refine .then ?_
    refine .condT rfl ?_
    refine .seq ?_
    refine .region ?_
    refine .v (.asn rfl) rfl ?_
    refine .nil ?_
    refine .then ?_
    refine .ret ?_
    refine .then_ret ?_
    exact .done _ [] (.t1 rfl rfl) .rfl (by rw [decide_eq_false fun h => h10_1 (by rw [h])]) (Inn.keep .here)
  · skip
    refine .nil ?_
    refine .then ?_
    refine .condF rfl ?_
    refine .skip ?_
    refine .then ?_
    refine .seq ?_
    refine .seq ?_
    refine .region ?_
    refine .v (.asn rfl) rfl ?_
    refine .nil ?_
    refine .then ?_
    refine .block ?_
    refine WC.loop0 (fx := [(0, _), (1, _)]) (.cons rfl rfl (.cons rfl rfl .nil)) (ι := Nat) (fun k => k ≤ l.length ∧ ∀ p x y, p < k → l[p]? = some x → m[p]? = some y → x = y) (fun k => l.length - k) (fun k => [(5, .int .i64 k)]) 0 ⟨by omega, fun p x y h => absurd h (Nat.not_lt_zero _)⟩ ?he ?round
    case he => exact .cons rfl rfl (.cons rfl rfl (.cons rfl rfl .nil))
    case round =>
      intro k hk
      obtain ⟨hk, hk2⟩ := hk
      refine .seq ?_
      refine .seq ?_
      refine .region ?_
      refine .v (.mv rfl) rfl ?_
      refine .v (.mv rfl) rfl ?_
      refine .v (.lenl Try.underlying34 rfl) rfl ?_
      refine .vs (.lt rfl rfl) rfl (fun h14_2 => ?_) (fun h14_2 => ?_)
      · skip
        obtain ⟨x, hx⟩ : ∃ y, l[k]? = some y := ⟨_, List.getElem?_eq_getElem (by omega)⟩
        obtain ⟨y, hy⟩ : ∃ y, m[k]? = some y := ⟨_, List.getElem?_eq_getElem (by omega)⟩
        refine .nil ?_
        refine .then ?_
        refine .condT rfl ?_
        refine .skip ?_
        refine .then ?_
        refine .seq ?_
        refine .block ?_
        refine .seq ?_
        refine .draw [[], [], [0, 1], [2], [], [], [4, 5], [6], [3, 7]] [] (by kernel_rfl) (by kernel_rfl) rfl (e1 := [(0, _), (1, _), (5, _)]) (.cons rfl rfl (.cons rfl rfl (.cons rfl rfl .nil))) (fun x hx => by cases hx) rfl ?_
        refine .v (i := 0) [] rfl rfl rfl .nil (.n (.mv rfl)) ?_
        refine .v (i := 1) [] rfl rfl rfl .nil (.n (.mv rfl)) ?_
        refine .ix (i := 2) (j := (k : Int)) [(17, _), (18, _)] rfl rfl rfl (.cons (.tail _ (.head _)) rfl rfl (.cons (.head _) rfl rfl .nil)) hS x ⟨by omega, hx⟩ (fun b_ o_ hr_ ha_ hle_ => .n (.ixs sl34 rfl rfl ⟨by omega, hx⟩ ha_ hle_)) (fun p3 o4 r5 => ?_)
        refine .v (i := 3) [(19, _)] rfl rfl rfl (.cons (.head _) rfl rfl .nil) (.n (.ldr0 ty9 rfl r5 rfl)) ?_
        refine .v (i := 4) [] rfl rfl rfl .nil (.n (.mv rfl)) ?_
        refine .v (i := 5) [] rfl rfl rfl .nil (.n (.mv rfl)) ?_
        refine .ix (i := 6) (j := (k : Int)) [(21, _), (22, _)] rfl rfl rfl (.cons (.tail _ (.head _)) rfl rfl (.cons (.head _) rfl rfl .nil)) hT y ⟨by omega, hy⟩ (fun b_ o_ hr_ ha_ hle_ => .n (.ixs sl34 rfl rfl ⟨by omega, hy⟩ ha_ hle_)) (fun p6 o7 r8 => ?_)
        refine .v (i := 7) [(23, _)] rfl rfl rfl (.cons (.head _) rfl rfl .nil) (.n (.ldr0 ty9 rfl r8 rfl)) ?_
        refine .tail0 8 [[8, 3, 7, 2, 6, 0, 1, 4, 5]] rfl rfl rfl rfl (e' := [(24, _), (23, _), (22, _), (21, _), (20, _), (19, _), (18, _), (17, _), (0, _), (1, _), (5, _)]) rfl ?_
        refine .vs (.nes rfl rfl) rfl (fun h25_9 => ?_) (fun h25_9 => ?_)
        · skip
          refine .nil ?_
          refine .then ?_
          refine .condT rfl ?_
          refine .seq ?_
          refine .region ?_
          refine .v (.asn rfl) rfl ?_
          refine .nil ?_
          refine .then ?_
          refine .ret ?_
          refine .blk_ret ?_
          refine .then_ret ?_
          refine .then_ret ?_
          refine .blk_ret ?_
          refine .then_ret ?_
          exact .done _ [] (.t1 rfl rfl) .rfl (by rw [decide_eq_false fun h => h25_9 (by rw [h] at hx; rw [hx] at hy; injection hy)]) (Inn.keep .here)
        · skip
          refine .nil ?_
          refine .then ?_
          refine .condF rfl ?_
          refine .skip ?_
          refine .blk ?_
          refine .then ?_
          refine .region ?_
          refine .v (.mv rfl) rfl ?_
          refine .v (.add rfl rfl (by omega)) rfl ?_
          refine .v (.asn rfl) rfl ?_
          refine .nil ?_
          exact .again (k + 1) ⟨by omega, fun p u v hp h1 h2 => if e : p = k then (by subst e; rw [hx] at h1; rw [hy] at h2; injection h1 with h1; injection h2 with h2; subst h1 h2; exact Decidable.not_not.1 h25_9) else hk2 p u v (by omega) h1 h2⟩ (by omega) (.cons rfl rfl (.cons rfl rfl (.cons rfl rfl .nil))) (subl (.refl _))
      · skip
        refine .nil ?_
        refine .then ?_
        refine .condF rfl ?_
        refine .exit ?_
        refine .then_exit ?_
        refine .then_exit ?_
        refine .blk_exit ?_
        refine .then ?_
        refine .seq ?_
        refine .region ?_
        refine .v (.asn rfl) rfl ?_
        refine .nil ?_
        refine .then ?_
        refine .ret ?_
        exact .done _ [] (.t1 rfl rfl) .rfl (by rw [decide_eq_true (list_eq (by omega) fun p x y hp => hk2 p x y (by omega))]) (Inn.keep .here)
theorem small4_fn (l : List ByteArray) (a : Option Addr) (c : Nat) (F : Mem) (hS : Sl F encS 1 a c l) (many bytes : Int) (hb : 0 ≤ bytes ∧ bytes ≤ 1099511627776) : Fn Try.prog 15 #[.slice a l.length c, .int .i64 many, .int .i64 bytes] [] F (fun u _ _ => u = .bool (small4 many bytes l)) := by
  have hm := hS.len
  refine Fn.start0 Try.func15 rfl Try.ntmps15 rfl (env := [(0, _), (1, _), (2, _)]) rfl ?_
  intro R
  refine .seq ?_
  refine .region ?_
  refine .v (.asn rfl) rfl ?_
  refine .nil ?_
  refine .then ?_
  refine .seq ?_
  refine .seq ?_
  refine .region ?_
  refine .v (.mv rfl) rfl ?_
  refine .v (.lenl Try.underlying34 rfl) rfl ?_
  refine .v (.mv rfl) rfl ?_
  refine .vs (.gt rfl rfl) rfl (fun h12_1 => ?_) (fun h12_1 => ?_)
  · skip
    refine .nil ?_
    refine .then ?_
    refine .condT rfl ?_
    refine .seq ?_
    refine .region ?_
    refine .v (.asn rfl) rfl ?_
    refine .nil ?_
    refine .then ?_
    refine .ret ?_
    refine .then_ret ?_
    exact .done _ [] (.t1 rfl rfl) .rfl (by rw [small4, decide_eq_false (by omega)]; rfl) (Inn.keep .here)
  · skip
    refine .nil ?_
    refine .then ?_
    refine .condF rfl ?_
    refine .skip ?_
    refine .then ?_
    refine .seq ?_
    refine .region ?_
    refine .v (.asn rfl) rfl ?_
    refine .nil ?_
    refine .then ?_
    refine .seq ?_
    refine .seq ?_
    refine .region ?_
    refine .v (.asn rfl) rfl ?_
    refine .nil ?_
    refine .then ?_
    refine .block ?_
    refine WC.loop0 (fx := [(0, _), (2, _)]) (.cons rfl rfl (.cons rfl rfl .nil)) (ι := Nat) (fun k => k ≤ l.length ∧ (totS (l.take k) : Int) ≤ bytes) (fun k => l.length - k) (fun k => [(7, .int .i64 (totS (l.take k) : Nat)), (8, .int .i64 k)]) 0 ⟨by omega, by simp [totS]; omega⟩ ?he ?round
    case he => exact .cons rfl rfl (.cons rfl rfl (.cons rfl rfl (.cons rfl rfl .nil)))
    case round =>
      intro k hk
      obtain ⟨hk, hk2⟩ := hk
      refine .seq ?_
      refine .seq ?_
      refine .region ?_
      refine .v (.mv rfl) rfl ?_
      refine .v (.mv rfl) rfl ?_
      refine .v (.lenl Try.underlying34 rfl) rfl ?_
      refine .vs (.lt rfl rfl) rfl (fun h16_2 => ?_) (fun h16_2 => ?_)
      · skip
        refine .nil ?_
        refine .then ?_
        refine .condT rfl ?_
        refine .skip ?_
        refine .then ?_
        refine .seq ?_
        refine .block ?_
        refine .seq ?_
        refine .seq ?_
        refine .region ?_
        obtain ⟨x, hx⟩ : ∃ y, l[k]? = some y := ⟨_, List.getElem?_eq_getElem (by omega)⟩
        have htx := totS_take hx
        refine .v (.mv rfl) rfl ?_
        refine .v (.mv rfl) rfl ?_
        refine .ix sl34 rfl rfl hS rfl x ⟨by omega, hx⟩ (fun p3 o4 r5 => ?_)
        refine .v (.ldr0 ty9 rfl r5 rfl) rfl ?_
        refine .v (.lens Try.underlying9 rfl) rfl ?_
        refine .v (.mv rfl) rfl ?_
        refine .v (.mv rfl) rfl ?_
        refine .v (.sub rfl rfl (by omega)) rfl ?_
        refine .vs (.gt rfl rfl) rfl (fun h27_6 => ?_) (fun h27_6 => ?_)
        · skip
          refine .nil ?_
          refine .then ?_
          refine .condT rfl ?_
          refine .seq ?_
          refine .region ?_
          refine .v (.asn rfl) rfl ?_
          refine .nil ?_
          refine .then ?_
          refine .ret ?_
          refine .then_ret ?_
          refine .blk_ret ?_
          refine .then_ret ?_
          refine .then_ret ?_
          refine .blk_ret ?_
          refine .then_ret ?_
          exact .done _ [] (.t1 rfl rfl) .rfl (by have := totS_le hx; rw [small4, decide_eq_false (p := (totS l : Int) ≤ bytes) (by omega), Bool.and_false]) (Inn.keep .here)
        · skip
          refine .nil ?_
          refine .then ?_
          refine .condF rfl ?_
          refine .skip ?_
          refine .then ?_
          refine .region ?_
          refine .v (.mv rfl) rfl ?_
          refine .v (.mv rfl) rfl ?_
          refine .v (.mv rfl) rfl ?_
          refine .ix sl34 rfl rfl hS rfl x ⟨by omega, hx⟩ (fun p7 o8 r9 => ?_)
          refine .v (.ldr0 ty9 rfl r9 rfl) rfl ?_
          refine .v (.lens Try.underlying9 rfl) rfl ?_
          refine .v (.add rfl rfl (by omega)) rfl ?_
          refine .v (.asn rfl) rfl ?_
          refine .nil ?_
          refine .blk ?_
          refine .then ?_
          refine .region ?_
          refine .v (.mv rfl) rfl ?_
          refine .v (.add rfl rfl (by omega)) rfl ?_
          refine .v (.asn rfl) rfl ?_
          refine .nil ?_
          exact .again (k + 1) ⟨by omega, by rw [htx]; omega⟩ (by omega) (.cons rfl (congrArg (Value.int .i64) (by rw [htx]; omega)) (.cons rfl rfl (.cons rfl rfl (.cons rfl rfl .nil)))) (subl (.refl _))
      · skip
        refine .nil ?_
        refine .then ?_
        refine .condF rfl ?_
        refine .exit ?_
        refine .then_exit ?_
        refine .then_exit ?_
        refine .blk_exit ?_
        refine .then ?_
        refine .seq ?_
        refine .region ?_
        refine .v (.asn rfl) rfl ?_
        refine .nil ?_
        refine .then ?_
        refine .ret ?_
        exact .done _ [] (.t1 rfl rfl) .rfl (by obtain rfl : k = l.length := (by omega); rw [List.take_length] at hk2; rw [small4, decide_eq_true (by omega), decide_eq_true (by omega)]; rfl) (Inn.keep .here)
end Go.Proofs.Ytggkhcdilbdifaa.Ow
