/- Walks. -/
import Derived.Test.YtbmpdccoffkjgaaBzc
import Derived.Test.YtbmpdccoffkjgaaByj
import Derived.Test.YtbmpdccoffkjgaaTyu
namespace Go.Proofs.Ytbmpdccoffkjgaa.Ow
open Go
set_option linter.unusedVariables false
theorem parts_no (l : List Pr) (a : Option Addr) (c : Nat) (F : Mem) (hS : Sl F encP 2 a c l) (hlen : l.length ≤ 4400000000000) (lo md hi : ByteArray) (hs : srt l = false) : Fn Try.prog 6 #[.slice a l.length c, .string lo, .string md, .string hi] [] F (fun u M _ => M = [] ∧ u = .bool true) := by
  have hm := hS.len
  refine Fn.start0 Try.func6 rfl Try.ntmps6 rfl (env := [(0, _), (1, _), (2, _), (3, _)]) rfl ?_
  intro R
  refine .seq ?_
  refine .region ?_
  refine .v (.asn rfl) rfl ?_
  refine .nil ?_
  refine .then ?_
  refine .seq ?_
  refine .region ?_
  refine .v (.mv rfl) rfl ?_
  refine .v (.call rfl rfl (Try.call13 _) (fun G hle hG => load_no l _ _ G (hS.mono hle) hlen hs)) rfl ?_
  refine .v (.asn rfl) rfl ?_
  refine .nil ?_
  refine .then ?_
  refine .seq ?_
  refine .seq ?_
  refine .region ?_
  refine .v (.mv rfl) rfl ?_
  refine .v (.lenl Try.underlying22 rfl) rfl ?_
  refine .vs (.gt rfl rfl) rfl (fun h18_1 => ?_) (fun h18_1 => ?_)
  · skip
    refine .v (.mv rfl) rfl ?_
    refine .gs rfl rfl rfl rfl ?_
    refine .gs rfl rfl rfl rfl ?_
    refine .v (.pkT rfl rfl) rfl ?_
    refine .v (.mv rfl) rfl ?_
    refine .gs rfl rfl rfl rfl ?_
    refine .gs rfl rfl rfl rfl ?_
    refine .gs rfl rfl rfl rfl ?_
    refine .v (.pkT rfl rfl) rfl ?_
    refine .v (.mv rfl) rfl ?_
    refine .gs rfl rfl rfl rfl ?_
    refine .gs rfl rfl rfl rfl ?_
    refine .gs rfl rfl rfl rfl ?_
    refine .gu rfl rfl rfl rfl ?_
    refine .gu rfl rfl rfl rfl ?_
    refine .gu rfl rfl rfl rfl ?_
    refine .gs rfl rfl rfl rfl ?_
    refine .v (.pkT rfl rfl) rfl ?_
    refine .v (.mv rfl) rfl ?_
    refine .gs rfl rfl rfl rfl ?_
    refine .gs rfl rfl rfl rfl ?_
    refine .v (.pkT rfl rfl) rfl ?_
    refine .nil ?_
    refine .then ?_
    refine .condT rfl ?_
    refine .seq ?_
    refine .region ?_
    refine .v (.call rfl rfl (Try.call11 _) (fun G hle hG => awake_fn G)) rfl ?_
    refine .v (.asn rfl) rfl ?_
    refine .nil ?_
    refine .then ?_
    refine .ret ?_
    refine .then_ret ?_
    exact .done _ [] (.t1 rfl rfl) .rfl ⟨rfl, rfl⟩ (Inn.keep .here)
  · skip
    refine .v (.mv rfl) rfl ?_
    refine .g rfl rfl rfl ?_
    refine .v (.mv rfl) rfl ?_
    refine .g rfl rfl rfl ?_
    refine .vT (.eqpn Try.underlying28 rfl rfl) rfl rfl ?_
    refine .v (.pkF rfl rfl) rfl ?_
    refine .v (.mv rfl) rfl ?_
    refine .gs rfl rfl rfl rfl ?_
    refine .gs rfl rfl rfl rfl ?_
    refine .gs rfl rfl rfl rfl ?_
    refine .v (.pkT rfl rfl) rfl ?_
    refine .v (.mv rfl) rfl ?_
    refine .gs rfl rfl rfl rfl ?_
    refine .gs rfl rfl rfl rfl ?_
    refine .gs rfl rfl rfl rfl ?_
    refine .gu rfl rfl rfl rfl ?_
    refine .gu rfl rfl rfl rfl ?_
    refine .gu rfl rfl rfl rfl ?_
    refine .gs rfl rfl rfl rfl ?_
    refine .v (.pkT rfl rfl) rfl ?_
    refine .v (.mv rfl) rfl ?_
    refine .gs rfl rfl rfl rfl ?_
    refine .gs rfl rfl rfl rfl ?_
    refine .v (.pkT rfl rfl) rfl ?_
    refine .nil ?_
    refine .then ?_
    refine .condT rfl ?_
    refine .seq ?_
    refine .region ?_
    refine .v (.call rfl rfl (Try.call11 _) (fun G hle hG => awake_fn G)) rfl ?_
    refine .v (.asn rfl) rfl ?_
    refine .nil ?_
    refine .then ?_
    refine .ret ?_
    refine .then_ret ?_
    exact .done _ [] (.t1 rfl rfl) .rfl ⟨rfl, rfl⟩ (Inn.keep .here)
theorem parts_yes (l : List Pr) (a : Option Addr) (c : Nat) (F : Mem) (hS : Sl F encP 2 a c l) (hlen : l.length ≤ 4400000000000) (lo md hi : ByteArray) (hs : srt l = true) : Fn Try.prog 6 #[.slice a l.length c, .string lo, .string md, .string hi] [] F (fun u M _ => M = [] ∧ u = .bool true) := by
  have hm := hS.len
  refine Fn.start0 Try.func6 rfl Try.ntmps6 rfl (env := [(0, _), (1, _), (2, _), (3, _)]) rfl ?_
  intro R
  refine .seq ?_
  refine .region ?_
  refine .v (.asn rfl) rfl ?_
  refine .nil ?_
  refine .then ?_
  refine .seq ?_
  refine .region ?_
  refine .v (.mv rfl) rfl ?_
  refine .lend (.make rfl rfl (Try.call13 _) (fun G hle hG => (load_yes l _ _ G (hS.mono hle) hlen hs).mono (fun v M H _ h_ => h_))) rfl ?_
  rintro _ itA ⟨bA, rfl, hTA⟩
  refine .v (.asn rfl) rfl ?_
  refine .nil ?_
  refine .then ?_
  refine .seq ?_
  refine .seq ?_
  refine .region ?_
  refine .v (.mv rfl) rfl ?_
  refine .v (.lenl Try.underlying22 rfl) rfl ?_
  refine .vs (.gt rfl rfl) rfl (fun h18_1 => ?_) (fun h18_1 => ?_)
  · skip
    refine .v (.mv rfl) rfl ?_
    refine .gs rfl rfl rfl rfl ?_
    refine .gs rfl rfl rfl rfl ?_
    refine .v (.pkT rfl rfl) rfl ?_
    refine .v (.mv rfl) rfl ?_
    refine .gs rfl rfl rfl rfl ?_
    refine .gs rfl rfl rfl rfl ?_
    refine .gs rfl rfl rfl rfl ?_
    refine .v (.pkT rfl rfl) rfl ?_
    refine .v (.mv rfl) rfl ?_
    refine .gs rfl rfl rfl rfl ?_
    refine .gs rfl rfl rfl rfl ?_
    refine .gs rfl rfl rfl rfl ?_
    refine .gu rfl rfl rfl rfl ?_
    refine .gu rfl rfl rfl rfl ?_
    refine .gu rfl rfl rfl rfl ?_
    refine .gs rfl rfl rfl rfl ?_
    refine .v (.pkT rfl rfl) rfl ?_
    refine .v (.mv rfl) rfl ?_
    refine .gs rfl rfl rfl rfl ?_
    refine .gs rfl rfl rfl rfl ?_
    refine .v (.pkT rfl rfl) rfl ?_
    refine .nil ?_
    refine .then ?_
    refine .condT rfl ?_
    refine .seq ?_
    refine .region ?_
    refine .v (.call rfl rfl (Try.call11 _) (fun G hle hG => awake_fn G)) rfl ?_
    refine .v (.asn rfl) rfl ?_
    refine .nil ?_
    refine .then ?_
    refine .ret ?_
    refine .then_ret ?_
    exact .done _ [] (.t1 rfl rfl) .rfl ⟨rfl, rfl⟩ (Inn.keep (.there .here))
  · skip
    refine .v (.mv rfl) rfl ?_
    refine .g rfl rfl rfl ?_
    refine .v (.mv rfl) rfl ?_
    refine .g rfl rfl rfl ?_
    refine .vF (.eqpn Try.underlying28 rfl rfl) rfl (by simp) ?_
    refine .v (.pkF rfl rfl) rfl ?_
    refine .v (.mv rfl) rfl ?_
    refine .g rfl rfl rfl ?_
    refine .v (.mv rfl) rfl ?_
    refine .g rfl rfl rfl ?_
    refine .v (.mv rfl) rfl ?_
    refine .g rfl rfl rfl ?_
    refine .vb (.lts rfl rfl) rfl (fun h26_2 => ?_) (fun h26_2 => ?_)
    · skip
      refine .v (.pkF rfl rfl) rfl ?_
      refine .v (.mv rfl) rfl ?_
      refine .gs rfl rfl rfl rfl ?_
      refine .gs rfl rfl rfl rfl ?_
      refine .gs rfl rfl rfl rfl ?_
      refine .gu rfl rfl rfl rfl ?_
      refine .gu rfl rfl rfl rfl ?_
      refine .gu rfl rfl rfl rfl ?_
      refine .gs rfl rfl rfl rfl ?_
      refine .v (.pkT rfl rfl) rfl ?_
      refine .v (.mv rfl) rfl ?_
      refine .gs rfl rfl rfl rfl ?_
      refine .gs rfl rfl rfl rfl ?_
      refine .v (.pkT rfl rfl) rfl ?_
      refine .nil ?_
      refine .then ?_
      refine .condT rfl ?_
      refine .seq ?_
      refine .region ?_
      refine .v (.call rfl rfl (Try.call11 _) (fun G hle hG => awake_fn G)) rfl ?_
      refine .v (.asn rfl) rfl ?_
      refine .nil ?_
      refine .then ?_
      refine .ret ?_
      refine .then_ret ?_
      exact .done _ [] (.t1 rfl rfl) .rfl ⟨rfl, rfl⟩ (Inn.keep (.there .here))
    · skip
      refine .v (.pkF rfl rfl) rfl ?_
      refine .v (.mv rfl) rfl ?_
      refine .g rfl rfl rfl ?_
      refine .v (.mv rfl) rfl ?_
      refine .g rfl rfl rfl ?_
      refine .vs (.nes rfl rfl) rfl (fun h30_3 => ?_) (fun h30_3 => ?_)
      · skip
        refine .g rfl rfl rfl ?_
        refine .v (.mv rfl) rfl ?_
        refine .g rfl rfl rfl ?_
        refine .v (.mv rfl) rfl ?_
        refine .g rfl rfl rfl ?_
        refine .v (.mv rfl) rfl ?_
        refine .g rfl rfl rfl ?_
        refine .vb (.lts rfl rfl) rfl (fun h34_4 => ?_) (fun h34_4 => ?_)
        · skip
          refine .g rfl rfl rfl ?_
          refine .v (.pkT rfl rfl) rfl ?_
          refine .v (.pkF rfl rfl) rfl ?_
          refine .v (.mv rfl) rfl ?_
          refine .gs rfl rfl rfl rfl ?_
          refine .gs rfl rfl rfl rfl ?_
          refine .v (.pkT rfl rfl) rfl ?_
          refine .nil ?_
          refine .then ?_
          refine .condT rfl ?_
          refine .seq ?_
          refine .region ?_
          refine .v (.call rfl rfl (Try.call11 _) (fun G hle hG => awake_fn G)) rfl ?_
          refine .v (.asn rfl) rfl ?_
          refine .nil ?_
          refine .then ?_
          refine .ret ?_
          refine .then_ret ?_
          exact .done _ [] (.t1 rfl rfl) .rfl ⟨rfl, rfl⟩ (Inn.keep (.there .here))
        · skip
          refine .g rfl rfl rfl ?_
          refine .v (.pkT rfl rfl) rfl ?_
          refine .v (.pkF rfl rfl) rfl ?_
          refine .v (.mv rfl) rfl ?_
          refine .g rfl rfl rfl ?_
          refine .v (.mv rfl) rfl ?_
          refine .g rfl rfl rfl ?_
          refine .vs (.eqs rfl rfl) rfl (fun h39_5 => ?_) (fun h39_5 => ?_)
          · skip
            refine .v (.pkF rfl rfl) rfl ?_
            refine .nil ?_
            refine .then ?_
            refine .condT rfl ?_
            refine .seq ?_
            refine .region ?_
            refine .v (.call rfl rfl (Try.call11 _) (fun G hle hG => awake_fn G)) rfl ?_
            refine .v (.asn rfl) rfl ?_
            refine .nil ?_
            refine .then ?_
            refine .ret ?_
            refine .then_ret ?_
            exact .done _ [] (.t1 rfl rfl) .rfl ⟨rfl, rfl⟩ (Inn.keep (.there .here))
          · skip
            refine .v (.pkF rfl rfl) rfl ?_
            refine .nil ?_
            refine .then ?_
            refine .condF rfl ?_
            refine .skip ?_
            refine .then ?_
            refine .seq ?_
            refine .region ?_
            refine .v (.mv rfl) rfl ?_
            refine .v (.mv rfl) rfl ?_
            refine .v (.mv rfl) rfl ?_
            refine .lend (.rom rfl rfl (Try.call18 _) (sel1 .here) ((range_tre _ hTA _ _ _ (by omega)).mono (fun v M G _ h_ => h_))) rfl ?_
            rintro _ ia ⟨aa, ca, rfl, hra⟩
            refine .v (.mv rfl) rfl ?_
            refine .v (.mv rfl) rfl ?_
            refine .v (.mv rfl) rfl ?_
            refine .lend (.rom rfl rfl (Try.call18 _) (sel1 (.there .here)) ((range_tre _ hTA _ _ _ (by omega)).mono (fun v M G _ h_ => h_))) rfl ?_
            rintro _ ib ⟨ab, cb, rfl, hrb⟩
            refine .v (.mv rfl) rfl ?_
            refine .v (.mv rfl) rfl ?_
            refine .v (.mv rfl) rfl ?_
            refine .lend (.rom rfl rfl (Try.call18 _) (sel1 (.there (.there .here))) ((range_tre _ hTA _ _ _ (by omega)).mono (fun v M G _ h_ => h_))) rfl ?_
            rintro _ ic ⟨ac, cc, rfl, hrc⟩
            refine .v (.asn rfl) rfl ?_
            refine .v (.asn rfl) rfl ?_
            refine .v (.asn rfl) rfl ?_
            have hhi : hi = ⟨#[]⟩ ∨ slt hi md = false := .inr h34_4
            have hpt := rng_parts (L := (1000 : Int).toNat) (srt_iff.1 hs) (by show l.length ≤ 1000; omega) h39_5 h26_2 hhi
            rw [hpt] at hrc ⊢
            obtain ⟨XA, hXA⟩ : ∃ y, y = rng lo md ((1000 : Int).toNat) [] l := ⟨_, rfl⟩
            obtain ⟨XB, hXB⟩ : ∃ y, y = rng md hi ((1000 : Int).toNat) [] l := ⟨_, rfl⟩
            have hla : XA.length ≤ l.length := by have h_ := (rng_len (lo := lo) (hi := md) (L := (1000 : Int).toNat) (out := []) (a := l)).2; rw [← hXA, List.length_nil] at h_; omega
            have hlb : XB.length ≤ l.length := by have h_ := (rng_len (lo := md) (hi := hi) (L := (1000 : Int).toNat) (out := []) (a := l)).2; rw [← hXB, List.length_nil] at h_; omega
            rw [← hXA] at hra hrc ⊢
            rw [← hXB] at hrb hrc ⊢
            obtain ⟨XC, hXC⟩ : ∃ y, y = XA ++ XB := ⟨_, rfl⟩
            have hlc : XC.length = XA.length + XB.length := by rw [hXC, List.length_append]
            rw [← hXC] at hrc ⊢
            refine .nil ?_
            refine .then ?_
            refine .seq ?_
            refine .seq ?_
            refine .region ?_
            refine .v (.mv rfl) rfl ?_
            refine .v (.lenl Try.underlying22 rfl) rfl ?_
            refine .v (.mv rfl) rfl ?_
            refine .v (.lenl Try.underlying22 rfl) rfl ?_
            refine .v (.add rfl rfl (by omega)) rfl ?_
            refine .v (.mv rfl) rfl ?_
            refine .v (.lenl Try.underlying22 rfl) rfl ?_
            refine .vF (.ne rfl rfl) rfl (by omega) ?_
            refine .nil ?_
            refine .then ?_
            refine .condF rfl ?_
            refine .skip ?_
            refine .then ?_
            refine .seq ?_
            refine .seq ?_
            refine .region ?_
            refine .v (.mv rfl) rfl ?_
            refine .v (.lenl Try.underlying22 rfl) rfl ?_
            refine .v (.mv rfl) rfl ?_
            refine .nil ?_
            refine .then ?_
            refine .block ?_
            refine WC.loop0 (fx := [(10, _), (11, _), (12, _), (63, _)]) (.cons rfl rfl (.cons rfl rfl (.cons rfl rfl (.cons rfl rfl .nil)))) (ι := Nat) (fun j => j ≤ XC.length) (fun j => XC.length - j) (fun j => [(64, .int .i64 (j : Int))]) 0 (by omega) ?he ?round
            case he => exact .cons rfl rfl (.cons rfl rfl (.cons rfl rfl (.cons rfl rfl (.cons rfl rfl .nil))))
            case round =>
              intro j hk
              refine .seq ?_
              refine .region ?_
              refine .vs (.lt rfl rfl) rfl (fun h65_6 => ?_) (fun h65_6 => ?_)
              · skip
                refine .nil ?_
                refine .then ?_
                refine .seq ?_
                refine .condT rfl ?_
                refine .skip ?_
                refine .then ?_
                refine .seq ?_
                refine .block ?_
                refine .seq ?_
                refine .region ?_
                refine .v (.mv rfl) rfl ?_
                refine .v (.asn rfl) rfl ?_
                refine .nil ?_
                refine .then ?_
                refine .seq ?_
                refine .draw [[], [], [1], [0, 2], [3], [4], [4], [5, 6, 4], [7, 4], [4], [4], [9, 10, 4], [11, 4], [8, 12, 4], [4, 13], [14, 4], [15], [15], [17, 15], [16, 18, 15], [19, 15, 15], [20], [20], [21, 22, 20], [23, 20], [20], [20], [20], [27, 20], [26, 28, 20], [25, 29, 20], [30, 20], [24, 31, 20], [20, 32, 15], [15, 33]] [] (by kernel_rfl) (by kernel_rfl) rfl (e1 := [(10, _), (11, _), (12, _), (13, _), (63, _), (64, _)]) (.cons rfl rfl (.cons rfl rfl (.cons rfl rfl (.cons rfl rfl (.cons rfl rfl (.cons rfl rfl .nil)))))) (fun x hx => by cases hx) rfl ?_
                refine .v (i := 0) [] rfl rfl rfl .nil (.n (.mv rfl)) ?_
                refine .v (i := 1) [] rfl rfl rfl .nil (.n (.mv rfl)) ?_
                refine .v (i := 2) [(68, _)] rfl rfl rfl (.cons (.head _) rfl rfl .nil) (.n (.lenl Try.underlying22 rfl)) ?_
                refine .vs (i := 3) [(67, _), (69, _)] rfl rfl rfl (.cons (.tail _ (.tail _ (.head _))) rfl rfl (.cons (.head _) rfl rfl .nil)) (.n (.lt rfl rfl)) (fun h70_7 => ?_) (fun h70_7 => ?_)
                · skip
                  obtain ⟨p, hp⟩ : ∃ y, XC[j]? = some y := ⟨_, List.getElem?_eq_getElem (by omega)⟩
                  obtain ⟨bxc, dxc, rfl, rfl, hdxc⟩ := hrc.blk (by omega)
                  have hpa : XA[j]? = some p := by rw [← hp, hXC, List.getElem?_append_left (by have h_ := h70_7; omega)]
                  obtain ⟨bxa, dxa, rfl, rfl, hdxa⟩ := hra.blk (by have h_ := h70_7; omega)
                  refine .v (i := 4) [(70, _)] rfl rfl rfl (.cons (.head _) rfl rfl .nil) (.n (.mv rfl)) ?_
                  refine .v (i := 5) [(71, _)] rfl rfl rfl (.cons (.head _) rfl rfl .nil) (.g rfl rfl rfl (.mv rfl)) ?_
                  refine .v (i := 6) [(71, _)] rfl rfl rfl (.cons (.tail _ (.head _)) rfl rfl .nil) (.g rfl rfl rfl (.mv rfl)) ?_
                  refine .v (i := 7) [(72, _), (73, _), (71, _)] rfl rfl rfl (.cons (.tail _ (.head _)) rfl rfl (.cons (.head _) rfl rfl (.cons (.tail _ (.tail _ (.head _))) rfl rfl .nil))) (.g rfl rfl rfl (.ixo sl22 rfl rfl (j) ⟨by first | omega | (dsimp only; omega), by have h_ := (List.getElem?_eq_some_iff.1 hp).1; omega⟩)) ?_
                  refine .v (i := 8) [(74, _), (71, _)] rfl rfl rfl (.cons (.head _) rfl rfl (.cons (.tail _ (.tail _ (.tail _ (.head _)))) rfl rfl .nil)) (.g rfl rfl rfl (.ldm _ ty47 rfl .here rfl (fun j_ v_ hj_ => encP_ok.get XC (j) _ hp dxc j_ v_ hj_))) ?_
                  refine .v (i := 9) [(71, _)] rfl rfl rfl (.cons (.tail _ (.tail _ (.tail _ (.tail _ (.head _))))) rfl rfl .nil) (.g rfl rfl rfl (.mv rfl)) ?_
                  refine .v (i := 10) [(71, _)] rfl rfl rfl (.cons (.tail _ (.tail _ (.tail _ (.tail _ (.tail _ (.head _)))))) rfl rfl .nil) (.g rfl rfl rfl (.mv rfl)) ?_
                  refine .v (i := 11) [(76, _), (77, _), (71, _)] rfl rfl rfl (.cons (.tail _ (.head _)) rfl rfl (.cons (.head _) rfl rfl (.cons (.tail _ (.tail _ (.tail _ (.tail _ (.tail _ (.tail _ (.head _))))))) rfl rfl .nil))) (.g rfl rfl rfl (.ixo sl22 rfl rfl (j) ⟨by first | omega | (dsimp only; omega), by have h_ := (List.getElem?_eq_some_iff.1 hpa).1; omega⟩)) ?_
                  refine .v (i := 12) [(78, _), (71, _)] rfl rfl rfl (.cons (.head _) rfl rfl (.cons (.tail _ (.tail _ (.tail _ (.tail _ (.tail _ (.tail _ (.tail _ (.head _)))))))) rfl rfl .nil)) (.g rfl rfl rfl (.ldm _ ty47 rfl (.there (.there .here)) rfl (fun j_ v_ hj_ => encP_ok.get XA (j) _ hpa dxa j_ v_ hj_))) ?_
                  refine .vF (i := 13) [(75, _), (79, _), (71, _)] rfl rfl rfl (.cons (.tail _ (.tail _ (.tail _ (.tail _ (.head _))))) rfl rfl (.cons (.head _) rfl rfl (.cons (.tail _ (.tail _ (.tail _ (.tail _ (.tail _ (.tail _ (.tail _ (.tail _ (.head _))))))))) rfl rfl .nil))) (.g rfl rfl rfl (.neP (f := p) (g := p) rfl rfl)) (by simp) ?_
                  refine .v (i := 14) [(71, _), (80, _)] rfl rfl rfl (.cons (.tail _ (.tail _ (.tail _ (.tail _ (.tail _ (.tail _ (.tail _ (.tail _ (.tail _ (.head _)))))))))) rfl rfl (.cons (.head _) rfl rfl .nil)) (.n (.pkT rfl rfl)) ?_
                  refine .v (i := 15) [(81, _)] rfl rfl rfl (.cons (.head _) rfl rfl .nil) (.n (.mv rfl)) ?_
                  refine .v (i := 16) [(82, _)] rfl rfl rfl (.cons (.head _) rfl rfl .nil) (.g rfl rfl rfl (.mv rfl)) ?_
                  refine .v (i := 17) [(82, _)] rfl rfl rfl (.cons (.tail _ (.head _)) rfl rfl .nil) (.g rfl rfl rfl (.mv rfl)) ?_
                  refine .v (i := 18) [(84, _), (82, _)] rfl rfl rfl (.cons (.head _) rfl rfl (.cons (.tail _ (.tail _ (.head _))) rfl rfl .nil)) (.g rfl rfl rfl (.lenl Try.underlying22 rfl)) ?_
                  refine .vF (i := 19) [(83, _), (85, _), (82, _)] rfl rfl rfl (.cons (.tail _ (.tail _ (.head _))) rfl rfl (.cons (.head _) rfl rfl (.cons (.tail _ (.tail _ (.tail _ (.head _)))) rfl rfl .nil))) (.g rfl rfl rfl (.ge rfl rfl)) (by omega) ?_
                  refine .v (i := 20) [(86, _), (82, _)] rfl rfl rfl (.cons (.head _) rfl rfl (.cons (.tail _ (.tail _ (.tail _ (.tail _ (.head _))))) rfl rfl .nil)) (.g rfl rfl rfl (.mv rfl)) ?_
                  refine .v (i := 21) [(87, _)] rfl rfl rfl (.cons (.head _) rfl rfl .nil) (.s rfl rfl rfl) ?_
                  refine .v (i := 22) [(87, _)] rfl rfl rfl (.cons (.tail _ (.head _)) rfl rfl .nil) (.s rfl rfl rfl) ?_
                  refine .v (i := 23) [(88, _), (89, _), (87, _)] rfl rfl rfl (.cons (.tail _ (.head _)) rfl rfl (.cons (.head _) rfl rfl (.cons (.tail _ (.tail _ (.head _))) rfl rfl .nil))) (.s rfl rfl rfl) ?_
                  refine .v (i := 24) [(90, _), (87, _)] rfl rfl rfl (.cons (.head _) rfl rfl (.cons (.tail _ (.tail _ (.tail _ (.head _)))) rfl rfl .nil)) (.s rfl rfl rfl) ?_
                  refine .v (i := 25) [(87, _)] rfl rfl rfl (.cons (.tail _ (.tail _ (.tail _ (.tail _ (.head _))))) rfl rfl .nil) (.s rfl rfl rfl) ?_
                  refine .v (i := 26) [(87, _)] rfl rfl rfl (.cons (.tail _ (.tail _ (.tail _ (.tail _ (.tail _ (.head _)))))) rfl rfl .nil) (.s rfl rfl rfl) ?_
                  refine .v (i := 27) [(87, _)] rfl rfl rfl (.cons (.tail _ (.tail _ (.tail _ (.tail _ (.tail _ (.tail _ (.head _))))))) rfl rfl .nil) (.s rfl rfl rfl) ?_
                  refine .v (i := 28) [(94, _), (87, _)] rfl rfl rfl (.cons (.head _) rfl rfl (.cons (.tail _ (.tail _ (.tail _ (.tail _ (.tail _ (.tail _ (.tail _ (.head _)))))))) rfl rfl .nil)) (.s rfl rfl rfl) ?_
                  refine .v (i := 29) [(93, _), (95, _), (87, _)] rfl rfl rfl (.cons (.tail _ (.tail _ (.head _))) rfl rfl (.cons (.head _) rfl rfl (.cons (.tail _ (.tail _ (.tail _ (.tail _ (.tail _ (.tail _ (.tail _ (.tail _ (.head _))))))))) rfl rfl .nil))) (.s rfl rfl rfl) ?_
                  refine .v (i := 30) [(92, _), (96, _), (87, _)] rfl rfl rfl (.cons (.tail _ (.tail _ (.tail _ (.tail _ (.head _))))) rfl rfl (.cons (.head _) rfl rfl (.cons (.tail _ (.tail _ (.tail _ (.tail _ (.tail _ (.tail _ (.tail _ (.tail _ (.tail _ (.head _)))))))))) rfl rfl .nil))) (.s rfl rfl rfl) ?_
                  refine .v (i := 31) [(97, _), (87, _)] rfl rfl rfl (.cons (.head _) rfl rfl (.cons (.tail _ (.tail _ (.tail _ (.tail _ (.tail _ (.tail _ (.tail _ (.tail _ (.tail _ (.tail _ (.head _))))))))))) rfl rfl .nil)) (.s rfl rfl rfl) ?_
                  refine .tail0 32 [[32, 24, 31, 20, 23, 30, 19, 15, 21, 22, 25, 29, 16, 18, 14, 4, 26, 28, 17, 13, 3, 27, 8, 12, 0, 2, 7, 11, 1, 5, 6, 9, 10], [33, 20, 32, 15, 19, 24, 31, 14, 4, 16, 18, 23, 30, 13, 3, 17, 21, 22, 25, 29, 8, 12, 0, 2, 26, 28, 7, 11, 1, 27, 5, 6, 9, 10], [34, 15, 33, 14, 4, 20, 32, 13, 3, 19, 24, 31, 8, 12, 0, 2, 16, 18, 23, 30, 7, 11, 1, 17, 21, 22, 25, 29, 5, 6, 9, 10, 26, 28, 27]] rfl rfl rfl rfl (e' := [(98, _), (97, _), (96, _), (95, _), (94, _), (93, _), (92, _), (91, _), (90, _), (89, _), (88, _), (87, _), (86, _), (85, _), (84, _), (83, _), (82, _), (81, _), (80, _), (79, _), (78, _), (77, _), (76, _), (75, _), (74, _), (73, _), (72, _), (71, _), (70, _), (69, _), (68, _), (67, _), (10, _), (11, _), (12, _), (13, _), (63, _), (64, _)]) rfl ?_
                  refine .gs rfl rfl rfl rfl ?_
                  refine .g rfl rfl rfl ?_
                  refine .v (.pkF rfl rfl) rfl ?_
                  refine .v (.pkF rfl rfl) rfl ?_
                  refine .nil ?_
                  refine .then ?_
                  refine .condF rfl ?_
                  refine .skip ?_
                  refine .blk ?_
                  refine .then ?_
                  refine .region ?_
                  refine .v (.add rfl rfl (by omega)) rfl ?_
                  refine .v (.mv rfl) rfl ?_
                  refine .nil ?_
                  exact .again (j + 1) (by omega) (by omega) (.cons rfl rfl (.cons rfl rfl (.cons rfl rfl (.cons rfl rfl (.cons rfl rfl .nil))))) (subl (.refl _))
                · skip
                  obtain ⟨p, hp⟩ : ∃ y, XC[j]? = some y := ⟨_, List.getElem?_eq_getElem (by omega)⟩
                  obtain ⟨bxc, dxc, rfl, rfl, hdxc⟩ := hrc.blk (by omega)
                  have hpb : XB[j - XA.length]? = some p := by rw [← hp, hXC, List.getElem?_append_right (by have h_ := h70_7; omega)]
                  obtain ⟨bxb, dxb, rfl, rfl, hdxb⟩ := hrb.blk (by have h_ := h70_7; omega)
                  refine .v (i := 4) [(70, _)] rfl rfl rfl (.cons (.head _) rfl rfl .nil) (.n (.mv rfl)) ?_
                  refine .v (i := 5) [(71, _)] rfl rfl rfl (.cons (.head _) rfl rfl .nil) (.s rfl rfl rfl) ?_
                  refine .v (i := 6) [(71, _)] rfl rfl rfl (.cons (.tail _ (.head _)) rfl rfl .nil) (.s rfl rfl rfl) ?_
                  refine .v (i := 7) [(72, _), (73, _), (71, _)] rfl rfl rfl (.cons (.tail _ (.head _)) rfl rfl (.cons (.head _) rfl rfl (.cons (.tail _ (.tail _ (.head _))) rfl rfl .nil))) (.s rfl rfl rfl) ?_
                  refine .v (i := 8) [(74, _), (71, _)] rfl rfl rfl (.cons (.head _) rfl rfl (.cons (.tail _ (.tail _ (.tail _ (.head _)))) rfl rfl .nil)) (.s rfl rfl rfl) ?_
                  refine .v (i := 9) [(71, _)] rfl rfl rfl (.cons (.tail _ (.tail _ (.tail _ (.tail _ (.head _))))) rfl rfl .nil) (.s rfl rfl rfl) ?_
                  refine .v (i := 10) [(71, _)] rfl rfl rfl (.cons (.tail _ (.tail _ (.tail _ (.tail _ (.tail _ (.head _)))))) rfl rfl .nil) (.s rfl rfl rfl) ?_
                  refine .v (i := 11) [(76, _), (77, _), (71, _)] rfl rfl rfl (.cons (.tail _ (.head _)) rfl rfl (.cons (.head _) rfl rfl (.cons (.tail _ (.tail _ (.tail _ (.tail _ (.tail _ (.tail _ (.head _))))))) rfl rfl .nil))) (.s rfl rfl rfl) ?_
                  refine .v (i := 12) [(78, _), (71, _)] rfl rfl rfl (.cons (.head _) rfl rfl (.cons (.tail _ (.tail _ (.tail _ (.tail _ (.tail _ (.tail _ (.tail _ (.head _)))))))) rfl rfl .nil)) (.s rfl rfl rfl) ?_
                  refine .v (i := 13) [(75, _), (79, _), (71, _)] rfl rfl rfl (.cons (.tail _ (.tail _ (.tail _ (.tail _ (.head _))))) rfl rfl (.cons (.head _) rfl rfl (.cons (.tail _ (.tail _ (.tail _ (.tail _ (.tail _ (.tail _ (.tail _ (.tail _ (.head _))))))))) rfl rfl .nil))) (.s rfl rfl rfl) ?_
                  refine .v (i := 14) [(71, _), (80, _)] rfl rfl rfl (.cons (.tail _ (.tail _ (.tail _ (.tail _ (.tail _ (.tail _ (.tail _ (.tail _ (.tail _ (.head _)))))))))) rfl rfl (.cons (.head _) rfl rfl .nil)) (.n (.pkF rfl rfl)) ?_
                  refine .v (i := 15) [(81, _)] rfl rfl rfl (.cons (.head _) rfl rfl .nil) (.n (.mv rfl)) ?_
                  refine .v (i := 16) [(82, _)] rfl rfl rfl (.cons (.head _) rfl rfl .nil) (.g rfl rfl rfl (.mv rfl)) ?_
                  refine .v (i := 17) [(82, _)] rfl rfl rfl (.cons (.tail _ (.head _)) rfl rfl .nil) (.g rfl rfl rfl (.mv rfl)) ?_
                  refine .v (i := 18) [(84, _), (82, _)] rfl rfl rfl (.cons (.head _) rfl rfl (.cons (.tail _ (.tail _ (.head _))) rfl rfl .nil)) (.g rfl rfl rfl (.lenl Try.underlying22 rfl)) ?_
                  refine .vT (i := 19) [(83, _), (85, _), (82, _)] rfl rfl rfl (.cons (.tail _ (.tail _ (.head _))) rfl rfl (.cons (.head _) rfl rfl (.cons (.tail _ (.tail _ (.tail _ (.head _)))) rfl rfl .nil))) (.g rfl rfl rfl (.ge rfl rfl)) (by omega) ?_
                  refine .v (i := 20) [(86, _), (82, _)] rfl rfl rfl (.cons (.head _) rfl rfl (.cons (.tail _ (.tail _ (.tail _ (.tail _ (.head _))))) rfl rfl .nil)) (.g rfl rfl rfl (.mv rfl)) ?_
                  refine .v (i := 21) [(87, _)] rfl rfl rfl (.cons (.head _) rfl rfl .nil) (.g rfl rfl rfl (.mv rfl)) ?_
                  refine .v (i := 22) [(87, _)] rfl rfl rfl (.cons (.tail _ (.head _)) rfl rfl .nil) (.g rfl rfl rfl (.mv rfl)) ?_
                  refine .v (i := 23) [(88, _), (89, _), (87, _)] rfl rfl rfl (.cons (.tail _ (.head _)) rfl rfl (.cons (.head _) rfl rfl (.cons (.tail _ (.tail _ (.head _))) rfl rfl .nil))) (.g rfl rfl rfl (.ixo sl22 rfl rfl (j) ⟨by first | omega | (dsimp only; omega), by have h_ := (List.getElem?_eq_some_iff.1 hp).1; omega⟩)) ?_
                  refine .v (i := 24) [(90, _), (87, _)] rfl rfl rfl (.cons (.head _) rfl rfl (.cons (.tail _ (.tail _ (.tail _ (.head _)))) rfl rfl .nil)) (.g rfl rfl rfl (.ldm _ ty47 rfl .here rfl (fun j_ v_ hj_ => encP_ok.get XC (j) _ hp dxc j_ v_ hj_))) ?_
                  refine .v (i := 25) [(87, _)] rfl rfl rfl (.cons (.tail _ (.tail _ (.tail _ (.tail _ (.head _))))) rfl rfl .nil) (.g rfl rfl rfl (.mv rfl)) ?_
                  refine .v (i := 26) [(87, _)] rfl rfl rfl (.cons (.tail _ (.tail _ (.tail _ (.tail _ (.tail _ (.head _)))))) rfl rfl .nil) (.g rfl rfl rfl (.mv rfl)) ?_
                  refine .v (i := 27) [(87, _)] rfl rfl rfl (.cons (.tail _ (.tail _ (.tail _ (.tail _ (.tail _ (.tail _ (.head _))))))) rfl rfl .nil) (.g rfl rfl rfl (.mv rfl)) ?_
                  refine .v (i := 28) [(94, _), (87, _)] rfl rfl rfl (.cons (.head _) rfl rfl (.cons (.tail _ (.tail _ (.tail _ (.tail _ (.tail _ (.tail _ (.tail _ (.head _)))))))) rfl rfl .nil)) (.g rfl rfl rfl (.lenl Try.underlying22 rfl)) ?_
                  refine .v (i := 29) [(93, _), (95, _), (87, _)] rfl rfl rfl (.cons (.tail _ (.tail _ (.head _))) rfl rfl (.cons (.head _) rfl rfl (.cons (.tail _ (.tail _ (.tail _ (.tail _ (.tail _ (.tail _ (.tail _ (.tail _ (.head _))))))))) rfl rfl .nil))) (.g rfl rfl rfl (.sub rfl rfl (by omega))) ?_
                  refine .v (i := 30) [(92, _), (96, _), (87, _)] rfl rfl rfl (.cons (.tail _ (.tail _ (.tail _ (.tail _ (.head _))))) rfl rfl (.cons (.head _) rfl rfl (.cons (.tail _ (.tail _ (.tail _ (.tail _ (.tail _ (.tail _ (.tail _ (.tail _ (.tail _ (.head _)))))))))) rfl rfl .nil))) (.g rfl rfl rfl (.ixo sl22 rfl rfl (j - XA.length) ⟨by first | omega | (dsimp only; omega), by have h_ := (List.getElem?_eq_some_iff.1 hpb).1; omega⟩)) ?_
                  refine .v (i := 31) [(97, _), (87, _)] rfl rfl rfl (.cons (.head _) rfl rfl (.cons (.tail _ (.tail _ (.tail _ (.tail _ (.tail _ (.tail _ (.tail _ (.tail _ (.tail _ (.tail _ (.head _))))))))))) rfl rfl .nil)) (.g rfl rfl rfl (.ldm _ ty47 rfl (.there .here) rfl (fun j_ v_ hj_ => encP_ok.get XB (j - XA.length) _ hpb dxb j_ v_ hj_))) ?_
                  refine .tail0 32 [[32, 24, 31, 20, 23, 30, 19, 15, 21, 22, 25, 29, 16, 18, 14, 4, 26, 28, 17, 13, 3, 27, 8, 12, 0, 2, 7, 11, 1, 5, 6, 9, 10], [33, 20, 32, 15, 19, 24, 31, 14, 4, 16, 18, 23, 30, 13, 3, 17, 21, 22, 25, 29, 8, 12, 0, 2, 26, 28, 7, 11, 1, 27, 5, 6, 9, 10], [34, 15, 33, 14, 4, 20, 32, 13, 3, 19, 24, 31, 8, 12, 0, 2, 16, 18, 23, 30, 7, 11, 1, 17, 21, 22, 25, 29, 5, 6, 9, 10, 26, 28, 27]] rfl rfl rfl rfl (e' := [(98, _), (97, _), (96, _), (95, _), (94, _), (93, _), (92, _), (91, _), (90, _), (89, _), (88, _), (87, _), (86, _), (85, _), (84, _), (83, _), (82, _), (81, _), (80, _), (79, _), (78, _), (77, _), (76, _), (75, _), (74, _), (73, _), (72, _), (71, _), (70, _), (69, _), (68, _), (67, _), (10, _), (11, _), (12, _), (13, _), (63, _), (64, _)]) rfl ?_
                  refine .g rfl rfl rfl ?_
                  refine .vF (.neP (f := p) (g := p) rfl rfl) rfl (by simp) ?_
                  refine .g rfl rfl rfl ?_
                  refine .v (.pkT rfl rfl) rfl ?_
                  refine .v (.pkF rfl rfl) rfl ?_
                  refine .nil ?_
                  refine .then ?_
                  refine .condF rfl ?_
                  refine .skip ?_
                  refine .blk ?_
                  refine .then ?_
                  refine .region ?_
                  refine .v (.add rfl rfl (by omega)) rfl ?_
                  refine .v (.mv rfl) rfl ?_
                  refine .nil ?_
                  exact .again (j + 1) (by omega) (by omega) (.cons rfl rfl (.cons rfl rfl (.cons rfl rfl (.cons rfl rfl (.cons rfl rfl .nil))))) (subl (.refl _))
              · skip
                refine .nil ?_
                refine .then ?_
                refine .seq ?_
                refine .condF rfl ?_
                refine .exit ?_
                refine .then_exit ?_
                refine .then_exit ?_
                refine .blk_exit ?_
                refine .then ?_
                refine .seq ?_
                refine .region ?_
                refine .v (.call rfl rfl (Try.call11 _) (fun G hle hG => awake_fn G)) rfl ?_
                refine .v (.asn rfl) rfl ?_
                refine .nil ?_
                refine .then ?_
                refine .ret ?_
                exact .done _ [] (.t1 rfl rfl) .rfl ⟨rfl, rfl⟩ (Inn.keep (.there (.there (.there (.there .here)))))
      · skip
        refine .g rfl rfl rfl ?_
        refine .v (.mv rfl) rfl ?_
        refine .gs rfl rfl rfl rfl ?_
        refine .gs rfl rfl rfl rfl ?_
        refine .gs rfl rfl rfl rfl ?_
        refine .g rfl rfl rfl ?_
        refine .v (.pkF rfl rfl) rfl ?_
        refine .v (.pkF rfl rfl) rfl ?_
        refine .v (.mv rfl) rfl ?_
        refine .g rfl rfl rfl ?_
        refine .v (.mv rfl) rfl ?_
        refine .g rfl rfl rfl ?_
        refine .vs (.eqs rfl rfl) rfl (fun h39_8 => ?_) (fun h39_8 => ?_)
        · skip
          refine .v (.pkF rfl rfl) rfl ?_
          refine .nil ?_
          refine .then ?_
          refine .condT rfl ?_
          refine .seq ?_
          refine .region ?_
          refine .v (.call rfl rfl (Try.call11 _) (fun G hle hG => awake_fn G)) rfl ?_
          refine .v (.asn rfl) rfl ?_
          refine .nil ?_
          refine .then ?_
          refine .ret ?_
          refine .then_ret ?_
          exact .done _ [] (.t1 rfl rfl) .rfl ⟨rfl, rfl⟩ (Inn.keep (.there .here))
        · skip
          refine .v (.pkF rfl rfl) rfl ?_
          refine .nil ?_
          refine .then ?_
          refine .condF rfl ?_
          refine .skip ?_
          refine .then ?_
          refine .seq ?_
          refine .region ?_
          refine .v (.mv rfl) rfl ?_
          refine .v (.mv rfl) rfl ?_
          refine .v (.mv rfl) rfl ?_
          refine .lend (.rom rfl rfl (Try.call18 _) (sel1 .here) ((range_tre _ hTA _ _ _ (by omega)).mono (fun v M G _ h_ => h_))) rfl ?_
          rintro _ ia ⟨aa, ca, rfl, hra⟩
          refine .v (.mv rfl) rfl ?_
          refine .v (.mv rfl) rfl ?_
          refine .v (.mv rfl) rfl ?_
          refine .lend (.rom rfl rfl (Try.call18 _) (sel1 (.there .here)) ((range_tre _ hTA _ _ _ (by omega)).mono (fun v M G _ h_ => h_))) rfl ?_
          rintro _ ib ⟨ab, cb, rfl, hrb⟩
          refine .v (.mv rfl) rfl ?_
          refine .v (.mv rfl) rfl ?_
          refine .v (.mv rfl) rfl ?_
          refine .lend (.rom rfl rfl (Try.call18 _) (sel1 (.there (.there .here))) ((range_tre _ hTA _ _ _ (by omega)).mono (fun v M G _ h_ => h_))) rfl ?_
          rintro _ ic ⟨ac, cc, rfl, hrc⟩
          refine .v (.asn rfl) rfl ?_
          refine .v (.asn rfl) rfl ?_
          refine .v (.asn rfl) rfl ?_
          have hhi : hi = ⟨#[]⟩ ∨ slt hi md = false := .inl (Classical.not_not.1 h30_3)
          have hpt := rng_parts (L := (1000 : Int).toNat) (srt_iff.1 hs) (by show l.length ≤ 1000; omega) h39_8 h26_2 hhi
          rw [hpt] at hrc ⊢
          obtain ⟨XA, hXA⟩ : ∃ y, y = rng lo md ((1000 : Int).toNat) [] l := ⟨_, rfl⟩
          obtain ⟨XB, hXB⟩ : ∃ y, y = rng md hi ((1000 : Int).toNat) [] l := ⟨_, rfl⟩
          have hla : XA.length ≤ l.length := by have h_ := (rng_len (lo := lo) (hi := md) (L := (1000 : Int).toNat) (out := []) (a := l)).2; rw [← hXA, List.length_nil] at h_; omega
          have hlb : XB.length ≤ l.length := by have h_ := (rng_len (lo := md) (hi := hi) (L := (1000 : Int).toNat) (out := []) (a := l)).2; rw [← hXB, List.length_nil] at h_; omega
          rw [← hXA] at hra hrc ⊢
          rw [← hXB] at hrb hrc ⊢
          obtain ⟨XC, hXC⟩ : ∃ y, y = XA ++ XB := ⟨_, rfl⟩
          have hlc : XC.length = XA.length + XB.length := by rw [hXC, List.length_append]
          rw [← hXC] at hrc ⊢
          refine .nil ?_
          refine .then ?_
          refine .seq ?_
          refine .seq ?_
          refine .region ?_
          refine .v (.mv rfl) rfl ?_
          refine .v (.lenl Try.underlying22 rfl) rfl ?_
          refine .v (.mv rfl) rfl ?_
          refine .v (.lenl Try.underlying22 rfl) rfl ?_
          refine .v (.add rfl rfl (by omega)) rfl ?_
          refine .v (.mv rfl) rfl ?_
          refine .v (.lenl Try.underlying22 rfl) rfl ?_
          refine .vF (.ne rfl rfl) rfl (by omega) ?_
          refine .nil ?_
          refine .then ?_
          refine .condF rfl ?_
          refine .skip ?_
          refine .then ?_
          refine .seq ?_
          refine .seq ?_
          refine .region ?_
          refine .v (.mv rfl) rfl ?_
          refine .v (.lenl Try.underlying22 rfl) rfl ?_
          refine .v (.mv rfl) rfl ?_
          refine .nil ?_
          refine .then ?_
          refine .block ?_
          refine WC.loop0 (fx := [(10, _), (11, _), (12, _), (63, _)]) (.cons rfl rfl (.cons rfl rfl (.cons rfl rfl (.cons rfl rfl .nil)))) (ι := Nat) (fun j => j ≤ XC.length) (fun j => XC.length - j) (fun j => [(64, .int .i64 (j : Int))]) 0 (by omega) ?he ?round
          case he => exact .cons rfl rfl (.cons rfl rfl (.cons rfl rfl (.cons rfl rfl (.cons rfl rfl .nil))))
          case round =>
            intro j hk
            refine .seq ?_
            refine .region ?_
            refine .vs (.lt rfl rfl) rfl (fun h65_9 => ?_) (fun h65_9 => ?_)
            · skip
              refine .nil ?_
              refine .then ?_
              refine .seq ?_
              refine .condT rfl ?_
              refine .skip ?_
              refine .then ?_
              refine .seq ?_
              refine .block ?_
              refine .seq ?_
              refine .region ?_
              refine .v (.mv rfl) rfl ?_
              refine .v (.asn rfl) rfl ?_
              refine .nil ?_
              refine .then ?_
              refine .seq ?_
              refine .draw [[], [], [1], [0, 2], [3], [4], [4], [5, 6, 4], [7, 4], [4], [4], [9, 10, 4], [11, 4], [8, 12, 4], [4, 13], [14, 4], [15], [15], [17, 15], [16, 18, 15], [19, 15, 15], [20], [20], [21, 22, 20], [23, 20], [20], [20], [20], [27, 20], [26, 28, 20], [25, 29, 20], [30, 20], [24, 31, 20], [20, 32, 15], [15, 33]] [] (by kernel_rfl) (by kernel_rfl) rfl (e1 := [(10, _), (11, _), (12, _), (13, _), (63, _), (64, _)]) (.cons rfl rfl (.cons rfl rfl (.cons rfl rfl (.cons rfl rfl (.cons rfl rfl (.cons rfl rfl .nil)))))) (fun x hx => by cases hx) rfl ?_
              refine .v (i := 0) [] rfl rfl rfl .nil (.n (.mv rfl)) ?_
              refine .v (i := 1) [] rfl rfl rfl .nil (.n (.mv rfl)) ?_
              refine .v (i := 2) [(68, _)] rfl rfl rfl (.cons (.head _) rfl rfl .nil) (.n (.lenl Try.underlying22 rfl)) ?_
              refine .vs (i := 3) [(67, _), (69, _)] rfl rfl rfl (.cons (.tail _ (.tail _ (.head _))) rfl rfl (.cons (.head _) rfl rfl .nil)) (.n (.lt rfl rfl)) (fun h70_10 => ?_) (fun h70_10 => ?_)
              · skip
                obtain ⟨p, hp⟩ : ∃ y, XC[j]? = some y := ⟨_, List.getElem?_eq_getElem (by omega)⟩
                obtain ⟨bxc, dxc, rfl, rfl, hdxc⟩ := hrc.blk (by omega)
                have hpa : XA[j]? = some p := by rw [← hp, hXC, List.getElem?_append_left (by have h_ := h70_10; omega)]
                obtain ⟨bxa, dxa, rfl, rfl, hdxa⟩ := hra.blk (by have h_ := h70_10; omega)
                refine .v (i := 4) [(70, _)] rfl rfl rfl (.cons (.head _) rfl rfl .nil) (.n (.mv rfl)) ?_
                refine .v (i := 5) [(71, _)] rfl rfl rfl (.cons (.head _) rfl rfl .nil) (.g rfl rfl rfl (.mv rfl)) ?_
                refine .v (i := 6) [(71, _)] rfl rfl rfl (.cons (.tail _ (.head _)) rfl rfl .nil) (.g rfl rfl rfl (.mv rfl)) ?_
                refine .v (i := 7) [(72, _), (73, _), (71, _)] rfl rfl rfl (.cons (.tail _ (.head _)) rfl rfl (.cons (.head _) rfl rfl (.cons (.tail _ (.tail _ (.head _))) rfl rfl .nil))) (.g rfl rfl rfl (.ixo sl22 rfl rfl (j) ⟨by first | omega | (dsimp only; omega), by have h_ := (List.getElem?_eq_some_iff.1 hp).1; omega⟩)) ?_
                refine .v (i := 8) [(74, _), (71, _)] rfl rfl rfl (.cons (.head _) rfl rfl (.cons (.tail _ (.tail _ (.tail _ (.head _)))) rfl rfl .nil)) (.g rfl rfl rfl (.ldm _ ty47 rfl .here rfl (fun j_ v_ hj_ => encP_ok.get XC (j) _ hp dxc j_ v_ hj_))) ?_
                refine .v (i := 9) [(71, _)] rfl rfl rfl (.cons (.tail _ (.tail _ (.tail _ (.tail _ (.head _))))) rfl rfl .nil) (.g rfl rfl rfl (.mv rfl)) ?_
                refine .v (i := 10) [(71, _)] rfl rfl rfl (.cons (.tail _ (.tail _ (.tail _ (.tail _ (.tail _ (.head _)))))) rfl rfl .nil) (.g rfl rfl rfl (.mv rfl)) ?_
                refine .v (i := 11) [(76, _), (77, _), (71, _)] rfl rfl rfl (.cons (.tail _ (.head _)) rfl rfl (.cons (.head _) rfl rfl (.cons (.tail _ (.tail _ (.tail _ (.tail _ (.tail _ (.tail _ (.head _))))))) rfl rfl .nil))) (.g rfl rfl rfl (.ixo sl22 rfl rfl (j) ⟨by first | omega | (dsimp only; omega), by have h_ := (List.getElem?_eq_some_iff.1 hpa).1; omega⟩)) ?_
                refine .v (i := 12) [(78, _), (71, _)] rfl rfl rfl (.cons (.head _) rfl rfl (.cons (.tail _ (.tail _ (.tail _ (.tail _ (.tail _ (.tail _ (.tail _ (.head _)))))))) rfl rfl .nil)) (.g rfl rfl rfl (.ldm _ ty47 rfl (.there (.there .here)) rfl (fun j_ v_ hj_ => encP_ok.get XA (j) _ hpa dxa j_ v_ hj_))) ?_
                refine .vF (i := 13) [(75, _), (79, _), (71, _)] rfl rfl rfl (.cons (.tail _ (.tail _ (.tail _ (.tail _ (.head _))))) rfl rfl (.cons (.head _) rfl rfl (.cons (.tail _ (.tail _ (.tail _ (.tail _ (.tail _ (.tail _ (.tail _ (.tail _ (.head _))))))))) rfl rfl .nil))) (.g rfl rfl rfl (.neP (f := p) (g := p) rfl rfl)) (by simp) ?_
                refine .v (i := 14) [(71, _), (80, _)] rfl rfl rfl (.cons (.tail _ (.tail _ (.tail _ (.tail _ (.tail _ (.tail _ (.tail _ (.tail _ (.tail _ (.head _)))))))))) rfl rfl (.cons (.head _) rfl rfl .nil)) (.n (.pkT rfl rfl)) ?_
                refine .v (i := 15) [(81, _)] rfl rfl rfl (.cons (.head _) rfl rfl .nil) (.n (.mv rfl)) ?_
                refine .v (i := 16) [(82, _)] rfl rfl rfl (.cons (.head _) rfl rfl .nil) (.g rfl rfl rfl (.mv rfl)) ?_
                refine .v (i := 17) [(82, _)] rfl rfl rfl (.cons (.tail _ (.head _)) rfl rfl .nil) (.g rfl rfl rfl (.mv rfl)) ?_
                refine .v (i := 18) [(84, _), (82, _)] rfl rfl rfl (.cons (.head _) rfl rfl (.cons (.tail _ (.tail _ (.head _))) rfl rfl .nil)) (.g rfl rfl rfl (.lenl Try.underlying22 rfl)) ?_
                refine .vF (i := 19) [(83, _), (85, _), (82, _)] rfl rfl rfl (.cons (.tail _ (.tail _ (.head _))) rfl rfl (.cons (.head _) rfl rfl (.cons (.tail _ (.tail _ (.tail _ (.head _)))) rfl rfl .nil))) (.g rfl rfl rfl (.ge rfl rfl)) (by omega) ?_
                refine .v (i := 20) [(86, _), (82, _)] rfl rfl rfl (.cons (.head _) rfl rfl (.cons (.tail _ (.tail _ (.tail _ (.tail _ (.head _))))) rfl rfl .nil)) (.g rfl rfl rfl (.mv rfl)) ?_
                refine .v (i := 21) [(87, _)] rfl rfl rfl (.cons (.head _) rfl rfl .nil) (.s rfl rfl rfl) ?_
                refine .v (i := 22) [(87, _)] rfl rfl rfl (.cons (.tail _ (.head _)) rfl rfl .nil) (.s rfl rfl rfl) ?_
                refine .v (i := 23) [(88, _), (89, _), (87, _)] rfl rfl rfl (.cons (.tail _ (.head _)) rfl rfl (.cons (.head _) rfl rfl (.cons (.tail _ (.tail _ (.head _))) rfl rfl .nil))) (.s rfl rfl rfl) ?_
                refine .v (i := 24) [(90, _), (87, _)] rfl rfl rfl (.cons (.head _) rfl rfl (.cons (.tail _ (.tail _ (.tail _ (.head _)))) rfl rfl .nil)) (.s rfl rfl rfl) ?_
                refine .v (i := 25) [(87, _)] rfl rfl rfl (.cons (.tail _ (.tail _ (.tail _ (.tail _ (.head _))))) rfl rfl .nil) (.s rfl rfl rfl) ?_
                refine .v (i := 26) [(87, _)] rfl rfl rfl (.cons (.tail _ (.tail _ (.tail _ (.tail _ (.tail _ (.head _)))))) rfl rfl .nil) (.s rfl rfl rfl) ?_
                refine .v (i := 27) [(87, _)] rfl rfl rfl (.cons (.tail _ (.tail _ (.tail _ (.tail _ (.tail _ (.tail _ (.head _))))))) rfl rfl .nil) (.s rfl rfl rfl) ?_
                refine .v (i := 28) [(94, _), (87, _)] rfl rfl rfl (.cons (.head _) rfl rfl (.cons (.tail _ (.tail _ (.tail _ (.tail _ (.tail _ (.tail _ (.tail _ (.head _)))))))) rfl rfl .nil)) (.s rfl rfl rfl) ?_
                refine .v (i := 29) [(93, _), (95, _), (87, _)] rfl rfl rfl (.cons (.tail _ (.tail _ (.head _))) rfl rfl (.cons (.head _) rfl rfl (.cons (.tail _ (.tail _ (.tail _ (.tail _ (.tail _ (.tail _ (.tail _ (.tail _ (.head _))))))))) rfl rfl .nil))) (.s rfl rfl rfl) ?_
                refine .v (i := 30) [(92, _), (96, _), (87, _)] rfl rfl rfl (.cons (.tail _ (.tail _ (.tail _ (.tail _ (.head _))))) rfl rfl (.cons (.head _) rfl rfl (.cons (.tail _ (.tail _ (.tail _ (.tail _ (.tail _ (.tail _ (.tail _ (.tail _ (.tail _ (.head _)))))))))) rfl rfl .nil))) (.s rfl rfl rfl) ?_
                refine .v (i := 31) [(97, _), (87, _)] rfl rfl rfl (.cons (.head _) rfl rfl (.cons (.tail _ (.tail _ (.tail _ (.tail _ (.tail _ (.tail _ (.tail _ (.tail _ (.tail _ (.tail _ (.head _))))))))))) rfl rfl .nil)) (.s rfl rfl rfl) ?_
                refine .tail0 32 [[32, 24, 31, 20, 23, 30, 19, 15, 21, 22, 25, 29, 16, 18, 14, 4, 26, 28, 17, 13, 3, 27, 8, 12, 0, 2, 7, 11, 1, 5, 6, 9, 10], [33, 20, 32, 15, 19, 24, 31, 14, 4, 16, 18, 23, 30, 13, 3, 17, 21, 22, 25, 29, 8, 12, 0, 2, 26, 28, 7, 11, 1, 27, 5, 6, 9, 10], [34, 15, 33, 14, 4, 20, 32, 13, 3, 19, 24, 31, 8, 12, 0, 2, 16, 18, 23, 30, 7, 11, 1, 17, 21, 22, 25, 29, 5, 6, 9, 10, 26, 28, 27]] rfl rfl rfl rfl (e' := [(98, _), (97, _), (96, _), (95, _), (94, _), (93, _), (92, _), (91, _), (90, _), (89, _), (88, _), (87, _), (86, _), (85, _), (84, _), (83, _), (82, _), (81, _), (80, _), (79, _), (78, _), (77, _), (76, _), (75, _), (74, _), (73, _), (72, _), (71, _), (70, _), (69, _), (68, _), (67, _), (10, _), (11, _), (12, _), (13, _), (63, _), (64, _)]) rfl ?_
                refine .gs rfl rfl rfl rfl ?_
                refine .g rfl rfl rfl ?_
                refine .v (.pkF rfl rfl) rfl ?_
                refine .v (.pkF rfl rfl) rfl ?_
                refine .nil ?_
                refine .then ?_
                refine .condF rfl ?_
                refine .skip ?_
                refine .blk ?_
                refine .then ?_
                refine .region ?_
                refine .v (.add rfl rfl (by omega)) rfl ?_
                refine .v (.mv rfl) rfl ?_
                refine .nil ?_
                exact .again (j + 1) (by omega) (by omega) (.cons rfl rfl (.cons rfl rfl (.cons rfl rfl (.cons rfl rfl (.cons rfl rfl .nil))))) (subl (.refl _))
              · skip
                obtain ⟨p, hp⟩ : ∃ y, XC[j]? = some y := ⟨_, List.getElem?_eq_getElem (by omega)⟩
                obtain ⟨bxc, dxc, rfl, rfl, hdxc⟩ := hrc.blk (by omega)
                have hpb : XB[j - XA.length]? = some p := by rw [← hp, hXC, List.getElem?_append_right (by have h_ := h70_10; omega)]
                obtain ⟨bxb, dxb, rfl, rfl, hdxb⟩ := hrb.blk (by have h_ := h70_10; omega)
                refine .v (i := 4) [(70, _)] rfl rfl rfl (.cons (.head _) rfl rfl .nil) (.n (.mv rfl)) ?_
                refine .v (i := 5) [(71, _)] rfl rfl rfl (.cons (.head _) rfl rfl .nil) (.s rfl rfl rfl) ?_
                refine .v (i := 6) [(71, _)] rfl rfl rfl (.cons (.tail _ (.head _)) rfl rfl .nil) (.s rfl rfl rfl) ?_
                refine .v (i := 7) [(72, _), (73, _), (71, _)] rfl rfl rfl (.cons (.tail _ (.head _)) rfl rfl (.cons (.head _) rfl rfl (.cons (.tail _ (.tail _ (.head _))) rfl rfl .nil))) (.s rfl rfl rfl) ?_
                refine .v (i := 8) [(74, _), (71, _)] rfl rfl rfl (.cons (.head _) rfl rfl (.cons (.tail _ (.tail _ (.tail _ (.head _)))) rfl rfl .nil)) (.s rfl rfl rfl) ?_
                refine .v (i := 9) [(71, _)] rfl rfl rfl (.cons (.tail _ (.tail _ (.tail _ (.tail _ (.head _))))) rfl rfl .nil) (.s rfl rfl rfl) ?_
                refine .v (i := 10) [(71, _)] rfl rfl rfl (.cons (.tail _ (.tail _ (.tail _ (.tail _ (.tail _ (.head _)))))) rfl rfl .nil) (.s rfl rfl rfl) ?_
                refine .v (i := 11) [(76, _), (77, _), (71, _)] rfl rfl rfl (.cons (.tail _ (.head _)) rfl rfl (.cons (.head _) rfl rfl (.cons (.tail _ (.tail _ (.tail _ (.tail _ (.tail _ (.tail _ (.head _))))))) rfl rfl .nil))) (.s rfl rfl rfl) ?_
                refine .v (i := 12) [(78, _), (71, _)] rfl rfl rfl (.cons (.head _) rfl rfl (.cons (.tail _ (.tail _ (.tail _ (.tail _ (.tail _ (.tail _ (.tail _ (.head _)))))))) rfl rfl .nil)) (.s rfl rfl rfl) ?_
                refine .v (i := 13) [(75, _), (79, _), (71, _)] rfl rfl rfl (.cons (.tail _ (.tail _ (.tail _ (.tail _ (.head _))))) rfl rfl (.cons (.head _) rfl rfl (.cons (.tail _ (.tail _ (.tail _ (.tail _ (.tail _ (.tail _ (.tail _ (.tail _ (.head _))))))))) rfl rfl .nil))) (.s rfl rfl rfl) ?_
                refine .v (i := 14) [(71, _), (80, _)] rfl rfl rfl (.cons (.tail _ (.tail _ (.tail _ (.tail _ (.tail _ (.tail _ (.tail _ (.tail _ (.tail _ (.head _)))))))))) rfl rfl (.cons (.head _) rfl rfl .nil)) (.n (.pkF rfl rfl)) ?_
                refine .v (i := 15) [(81, _)] rfl rfl rfl (.cons (.head _) rfl rfl .nil) (.n (.mv rfl)) ?_
                refine .v (i := 16) [(82, _)] rfl rfl rfl (.cons (.head _) rfl rfl .nil) (.g rfl rfl rfl (.mv rfl)) ?_
                refine .v (i := 17) [(82, _)] rfl rfl rfl (.cons (.tail _ (.head _)) rfl rfl .nil) (.g rfl rfl rfl (.mv rfl)) ?_
                refine .v (i := 18) [(84, _), (82, _)] rfl rfl rfl (.cons (.head _) rfl rfl (.cons (.tail _ (.tail _ (.head _))) rfl rfl .nil)) (.g rfl rfl rfl (.lenl Try.underlying22 rfl)) ?_
                refine .vT (i := 19) [(83, _), (85, _), (82, _)] rfl rfl rfl (.cons (.tail _ (.tail _ (.head _))) rfl rfl (.cons (.head _) rfl rfl (.cons (.tail _ (.tail _ (.tail _ (.head _)))) rfl rfl .nil))) (.g rfl rfl rfl (.ge rfl rfl)) (by omega) ?_
                refine .v (i := 20) [(86, _), (82, _)] rfl rfl rfl (.cons (.head _) rfl rfl (.cons (.tail _ (.tail _ (.tail _ (.tail _ (.head _))))) rfl rfl .nil)) (.g rfl rfl rfl (.mv rfl)) ?_
                refine .v (i := 21) [(87, _)] rfl rfl rfl (.cons (.head _) rfl rfl .nil) (.g rfl rfl rfl (.mv rfl)) ?_
                refine .v (i := 22) [(87, _)] rfl rfl rfl (.cons (.tail _ (.head _)) rfl rfl .nil) (.g rfl rfl rfl (.mv rfl)) ?_
                refine .v (i := 23) [(88, _), (89, _), (87, _)] rfl rfl rfl (.cons (.tail _ (.head _)) rfl rfl (.cons (.head _) rfl rfl (.cons (.tail _ (.tail _ (.head _))) rfl rfl .nil))) (.g rfl rfl rfl (.ixo sl22 rfl rfl (j) ⟨by first | omega | (dsimp only; omega), by have h_ := (List.getElem?_eq_some_iff.1 hp).1; omega⟩)) ?_
                refine .v (i := 24) [(90, _), (87, _)] rfl rfl rfl (.cons (.head _) rfl rfl (.cons (.tail _ (.tail _ (.tail _ (.head _)))) rfl rfl .nil)) (.g rfl rfl rfl (.ldm _ ty47 rfl .here rfl (fun j_ v_ hj_ => encP_ok.get XC (j) _ hp dxc j_ v_ hj_))) ?_
                refine .v (i := 25) [(87, _)] rfl rfl rfl (.cons (.tail _ (.tail _ (.tail _ (.tail _ (.head _))))) rfl rfl .nil) (.g rfl rfl rfl (.mv rfl)) ?_
                refine .v (i := 26) [(87, _)] rfl rfl rfl (.cons (.tail _ (.tail _ (.tail _ (.tail _ (.tail _ (.head _)))))) rfl rfl .nil) (.g rfl rfl rfl (.mv rfl)) ?_
                refine .v (i := 27) [(87, _)] rfl rfl rfl (.cons (.tail _ (.tail _ (.tail _ (.tail _ (.tail _ (.tail _ (.head _))))))) rfl rfl .nil) (.g rfl rfl rfl (.mv rfl)) ?_
                refine .v (i := 28) [(94, _), (87, _)] rfl rfl rfl (.cons (.head _) rfl rfl (.cons (.tail _ (.tail _ (.tail _ (.tail _ (.tail _ (.tail _ (.tail _ (.head _)))))))) rfl rfl .nil)) (.g rfl rfl rfl (.lenl Try.underlying22 rfl)) ?_
                refine .v (i := 29) [(93, _), (95, _), (87, _)] rfl rfl rfl (.cons (.tail _ (.tail _ (.head _))) rfl rfl (.cons (.head _) rfl rfl (.cons (.tail _ (.tail _ (.tail _ (.tail _ (.tail _ (.tail _ (.tail _ (.tail _ (.head _))))))))) rfl rfl .nil))) (.g rfl rfl rfl (.sub rfl rfl (by omega))) ?_
                refine .v (i := 30) [(92, _), (96, _), (87, _)] rfl rfl rfl (.cons (.tail _ (.tail _ (.tail _ (.tail _ (.head _))))) rfl rfl (.cons (.head _) rfl rfl (.cons (.tail _ (.tail _ (.tail _ (.tail _ (.tail _ (.tail _ (.tail _ (.tail _ (.tail _ (.head _)))))))))) rfl rfl .nil))) (.g rfl rfl rfl (.ixo sl22 rfl rfl (j - XA.length) ⟨by first | omega | (dsimp only; omega), by have h_ := (List.getElem?_eq_some_iff.1 hpb).1; omega⟩)) ?_
                refine .v (i := 31) [(97, _), (87, _)] rfl rfl rfl (.cons (.head _) rfl rfl (.cons (.tail _ (.tail _ (.tail _ (.tail _ (.tail _ (.tail _ (.tail _ (.tail _ (.tail _ (.tail _ (.head _))))))))))) rfl rfl .nil)) (.g rfl rfl rfl (.ldm _ ty47 rfl (.there .here) rfl (fun j_ v_ hj_ => encP_ok.get XB (j - XA.length) _ hpb dxb j_ v_ hj_))) ?_
                refine .tail0 32 [[32, 24, 31, 20, 23, 30, 19, 15, 21, 22, 25, 29, 16, 18, 14, 4, 26, 28, 17, 13, 3, 27, 8, 12, 0, 2, 7, 11, 1, 5, 6, 9, 10], [33, 20, 32, 15, 19, 24, 31, 14, 4, 16, 18, 23, 30, 13, 3, 17, 21, 22, 25, 29, 8, 12, 0, 2, 26, 28, 7, 11, 1, 27, 5, 6, 9, 10], [34, 15, 33, 14, 4, 20, 32, 13, 3, 19, 24, 31, 8, 12, 0, 2, 16, 18, 23, 30, 7, 11, 1, 17, 21, 22, 25, 29, 5, 6, 9, 10, 26, 28, 27]] rfl rfl rfl rfl (e' := [(98, _), (97, _), (96, _), (95, _), (94, _), (93, _), (92, _), (91, _), (90, _), (89, _), (88, _), (87, _), (86, _), (85, _), (84, _), (83, _), (82, _), (81, _), (80, _), (79, _), (78, _), (77, _), (76, _), (75, _), (74, _), (73, _), (72, _), (71, _), (70, _), (69, _), (68, _), (67, _), (10, _), (11, _), (12, _), (13, _), (63, _), (64, _)]) rfl ?_
                refine .g rfl rfl rfl ?_
                refine .vF (.neP (f := p) (g := p) rfl rfl) rfl (by simp) ?_
                refine .g rfl rfl rfl ?_
                refine .v (.pkT rfl rfl) rfl ?_
                refine .v (.pkF rfl rfl) rfl ?_
                refine .nil ?_
                refine .then ?_
                refine .condF rfl ?_
                refine .skip ?_
                refine .blk ?_
                refine .then ?_
                refine .region ?_
                refine .v (.add rfl rfl (by omega)) rfl ?_
                refine .v (.mv rfl) rfl ?_
                refine .nil ?_
                exact .again (j + 1) (by omega) (by omega) (.cons rfl rfl (.cons rfl rfl (.cons rfl rfl (.cons rfl rfl (.cons rfl rfl .nil))))) (subl (.refl _))
            · skip
              refine .nil ?_
              refine .then ?_
              refine .seq ?_
              refine .condF rfl ?_
              refine .exit ?_
              refine .then_exit ?_
              refine .then_exit ?_
              refine .blk_exit ?_
              refine .then ?_
              refine .seq ?_
              refine .region ?_
              refine .v (.call rfl rfl (Try.call11 _) (fun G hle hG => awake_fn G)) rfl ?_
              refine .v (.asn rfl) rfl ?_
              refine .nil ?_
              refine .then ?_
              refine .ret ?_
              exact .done _ [] (.t1 rfl rfl) .rfl ⟨rfl, rfl⟩ (Inn.keep (.there (.there (.there (.there .here)))))
theorem parts_fn (l : List Pr) (a : Option Addr) (c : Nat) (F : Mem) (hS : Sl F encP 2 a c l) (hlen : l.length ≤ 4400000000000) (lo md hi : ByteArray) : Fn Try.prog 6 #[.slice a l.length c, .string lo, .string md, .string hi] [] F (fun u M _ => M = [] ∧ u = .bool true) := by
  cases hs : srt l with
  | false => exact parts_no l a c F hS hlen lo md hi hs
  | true => exact parts_yes l a c F hS hlen lo md hi hs
end Go.Proofs.Ytbmpdccoffkjgaa.Ow
