/- Walks. -/
import Derived.Test.YtbmpdccoffkjgaaBzc
import Derived.Test.YtbmpdccoffkjgaaTyu
namespace Go.Proofs.Ytbmpdccoffkjgaa.Ow
open Go
set_option linter.unusedVariables false
theorem loads_no (ps : List Pr) (a2 : Option Addr) (c2 : Nat) (F : Mem) (hS2 : Sl F encP 2 a2 c2 ps) (l : List Ac) (a : Option Addr) (c : Nat) (hS : Sl F encA 5 a c l) (hs : srt ps = false) : Fn Try.prog 3 #[.slice a2 ps.length c2, .slice a l.length c] [] F (fun u M _ => M = [] ∧ u = .bool true) := by
  have hm := hS.len
  have hm2_ := hS2.len
  refine Fn.start0 Try.func3 rfl Try.ntmps3 rfl (env := [(0, _), (1, _)]) rfl ?_
  intro R
  refine .seq ?_
  refine .region ?_
  refine .v (.asn rfl) rfl ?_
  refine .nil ?_
  refine .then ?_
  refine .seq ?_
  refine .seq ?_
  refine .region ?_
  refine .v (.mv rfl) rfl ?_
  refine .v (.lenl Try.underlying22 rfl) rfl ?_
  refine .vs (.gt rfl rfl) rfl (fun h11_1 => ?_) (fun h11_1 => ?_)
  · skip
    refine .v (.mv rfl) rfl ?_
    refine .gs rfl rfl rfl rfl ?_
    refine .gs rfl rfl rfl rfl ?_
    refine .gs rfl rfl rfl rfl ?_
    refine .v (.pkT rfl rfl) rfl ?_
    refine .nil ?_
    refine .then ?_
    refine .condT rfl ?_
    refine .seq ?_
    refine .region ?_
    refine .v (.call rfl rfl (Try.call11 _) (fun G hle hG => awake_fn G)) rfl ?_
    refine .v (.asn rfl) rfl ?_
    refine .nil ?_
    refine .then ?_
    refine .ret ?_
    refine .then_ret ?_
    exact .done _ [] (.t1 rfl rfl) .rfl ⟨rfl, rfl⟩ (Inn.keep .here)
  · skip
    refine .v (.mv rfl) rfl ?_
    refine .g rfl rfl rfl ?_
    refine .v (.mv rfl) rfl ?_
    refine .g rfl rfl rfl ?_
    refine .vb (.call rfl rfl (Try.call10 _) (fun G hle hG => few_fn l _ _ G (hS.mono hle) 60)) rfl (fun h14_2 => ?_) (fun h14_2 => ?_)
    · skip
      refine .g rfl rfl rfl ?_
      refine .v (.not rfl) rfl ?_
      refine .v (.pkF rfl rfl) rfl ?_
      refine .nil ?_
      refine .then ?_
      refine .condF rfl ?_
      refine .skip ?_
      refine .then ?_
      refine .seq ?_
      refine .region ?_
      refine .v (.mv rfl) rfl ?_
      refine .lend (.make rfl rfl (Try.call12 _) (fun G hle hG => (list_fn ps _ _ G (hS2.mono hle) (by omega)).mono (fun v M H _ ⟨it, h1, _, h2⟩ => ⟨it, h1, h2⟩))) rfl ?_
      rintro _ im ⟨am, cm, rfl, hm1⟩
      refine .v (.asn rfl) rfl ?_
      refine .nil ?_
      refine .then ?_
      refine .seq ?_
      refine .region ?_
      have hlen : ps.length ≤ 4400000000000 := by omega
      refine .v (.mv rfl) rfl ?_
      refine .v (.call rfl rfl (Try.call13 _) (fun G hle hG => load_no ps _ _ G (hS2.mono hle) hlen hs)) rfl ?_
      refine .v (.asn rfl) rfl ?_
      refine .nil ?_
      refine .then ?_
      refine .seq ?_
      refine .seq ?_
      refine .region ?_
      refine .v (.mv rfl) rfl ?_
      refine .v (.call rfl rfl (Try.call14 _) (fun G hle hG => rises_fn ps _ _ G (hm1.sl encP_ok (fun b_ hb_ => hG b_ (Inn.mem .here b_ hb_))))) rfl ?_
      refine .kn (t := 23) (v := .bool false) rfl (congrArg Value.bool hs) ?_
      refine .v (.not rfl) rfl ?_
      refine .nil ?_
      refine .then ?_
      refine .condT rfl ?_
      refine .seq ?_
      refine .region ?_
      refine .v (.mv rfl) rfl ?_
      refine .vT (.eqpn Try.underlying28 rfl rfl) rfl rfl ?_
      refine .v (.mv rfl) rfl ?_
      refine .g rfl rfl rfl ?_
      refine .v (.call rfl rfl (Try.call11 _) (fun G hle hG => awake_fn G)) rfl ?_
      refine .v (.pkT rfl rfl) rfl ?_
      refine .v (.asn rfl) rfl ?_
      refine .nil ?_
      refine .then ?_
      refine .ret ?_
      refine .then_ret ?_
      exact .done _ [] (.t1 rfl rfl) .rfl ⟨rfl, rfl⟩ (Inn.keep (.there .here))
    · skip
      refine .g rfl rfl rfl ?_
      refine .v (.not rfl) rfl ?_
      refine .v (.pkF rfl rfl) rfl ?_
      refine .nil ?_
      refine .then ?_
      refine .condT rfl ?_
      refine .seq ?_
      refine .region ?_
      refine .v (.call rfl rfl (Try.call11 _) (fun G hle hG => awake_fn G)) rfl ?_
      refine .v (.asn rfl) rfl ?_
      refine .nil ?_
      refine .then ?_
      refine .ret ?_
      refine .then_ret ?_
      exact .done _ [] (.t1 rfl rfl) .rfl ⟨rfl, rfl⟩ (Inn.keep .here)
theorem loads_yes (ps : List Pr) (a2 : Option Addr) (c2 : Nat) (F : Mem) (hS2 : Sl F encP 2 a2 c2 ps) (l : List Ac) (a : Option Addr) (c : Nat) (hS : Sl F encA 5 a c l) (hs : srt ps = true) : Fn Try.prog 3 #[.slice a2 ps.length c2, .slice a l.length c] [] F (fun u M _ => M = [] ∧ u = .bool true) := by
  have hm := hS.len
  have hm2_ := hS2.len
  refine Fn.start0 Try.func3 rfl Try.ntmps3 rfl (env := [(0, _), (1, _)]) rfl ?_
  intro R
  refine .seq ?_
  refine .region ?_
  refine .v (.asn rfl) rfl ?_
  refine .nil ?_
  refine .then ?_
  refine .seq ?_
  refine .seq ?_
  refine .region ?_
  refine .v (.mv rfl) rfl ?_
  refine .v (.lenl Try.underlying22 rfl) rfl ?_
  refine .vs (.gt rfl rfl) rfl (fun h11_1 => ?_) (fun h11_1 => ?_)
  · skip
    refine .v (.mv rfl) rfl ?_
    refine .gs rfl rfl rfl rfl ?_
    refine .gs rfl rfl rfl rfl ?_
    refine .gs rfl rfl rfl rfl ?_
    refine .v (.pkT rfl rfl) rfl ?_
    refine .nil ?_
    refine .then ?_
    refine .condT rfl ?_
    refine .seq ?_
    refine .region ?_
    refine .v (.call rfl rfl (Try.call11 _) (fun G hle hG => awake_fn G)) rfl ?_
    refine .v (.asn rfl) rfl ?_
    refine .nil ?_
    refine .then ?_
    refine .ret ?_
    refine .then_ret ?_
    exact .done _ [] (.t1 rfl rfl) .rfl ⟨rfl, rfl⟩ (Inn.keep .here)
  · skip
    refine .v (.mv rfl) rfl ?_
    refine .g rfl rfl rfl ?_
    refine .v (.mv rfl) rfl ?_
    refine .g rfl rfl rfl ?_
    refine .vb (.call rfl rfl (Try.call10 _) (fun G hle hG => few_fn l _ _ G (hS.mono hle) 60)) rfl (fun h14_2 => ?_) (fun h14_2 => ?_)
    · skip
      refine .g rfl rfl rfl ?_
      refine .v (.not rfl) rfl ?_
      refine .v (.pkF rfl rfl) rfl ?_
      refine .nil ?_
      refine .then ?_
      refine .condF rfl ?_
      refine .skip ?_
      refine .then ?_
      refine .seq ?_
      refine .region ?_
      refine .v (.mv rfl) rfl ?_
      refine .lend (.make rfl rfl (Try.call12 _) (fun G hle hG => (list_fn ps _ _ G (hS2.mono hle) (by omega)).mono (fun v M H _ ⟨it, h1, _, h2⟩ => ⟨it, h1, h2⟩))) rfl ?_
      rintro _ im ⟨am, cm, rfl, hm1⟩
      refine .v (.asn rfl) rfl ?_
      refine .nil ?_
      refine .then ?_
      refine .seq ?_
      refine .region ?_
      have hlen : ps.length ≤ 4400000000000 := by omega
      refine .v (.mv rfl) rfl ?_
      refine .lend (.make rfl rfl (Try.call13 _) (fun G hle hG => (load_yes ps _ _ G (hS2.mono hle) hlen hs).mono (fun v M H _ h_ => h_))) rfl ?_
      rintro _ itA ⟨bA, rfl, hTA⟩
      refine .v (.asn rfl) rfl ?_
      refine .nil ?_
      refine .then ?_
      refine .seq ?_
      refine .seq ?_
      refine .region ?_
      refine .v (.mv rfl) rfl ?_
      refine .v (.call rfl rfl (Try.call14 _) (fun G hle hG => rises_fn ps _ _ G (hm1.sl encP_ok (fun b_ hb_ => hG b_ (Inn.mem (.there .here) b_ hb_))))) rfl ?_
      refine .kn (t := 23) (v := .bool true) rfl (congrArg Value.bool hs) ?_
      refine .v (.not rfl) rfl ?_
      refine .nil ?_
      refine .then ?_
      refine .condF rfl ?_
      refine .skip ?_
      refine .then ?_
      refine .seq ?_
      refine .seq ?_
      refine .region ?_
      refine .v (.mv rfl) rfl ?_
      refine .vF (.eqpn Try.underlying28 rfl rfl) rfl (by simp) ?_
      refine .v (.mv rfl) rfl ?_
      refine .g rfl rfl rfl ?_
      refine .v (.mv rfl) rfl ?_
      refine .g rfl rfl rfl ?_
      refine .v (.ro rfl rfl (Try.call15 _) (sel1 .here) (check_tre _ hTA (by omega))) rfl ?_
      refine .g rfl rfl rfl ?_
      refine .v (.not rfl) rfl ?_
      refine .v (.pkF rfl rfl) rfl ?_
      refine .v (.mv rfl) rfl ?_
      refine .g rfl rfl rfl ?_
      refine .v (.mv rfl) rfl ?_
      refine .g rfl rfl rfl ?_
      refine .v (.ro rfl rfl (Try.call16 _) (sel1 .here) (len_tre _ hTA)) rfl ?_
      refine .g rfl rfl rfl ?_
      refine .v (.mv rfl) rfl ?_
      refine .g rfl rfl rfl ?_
      refine .v (.lenl Try.underlying22 rfl) rfl ?_
      refine .g rfl rfl rfl ?_
      refine .vF (.ne rfl rfl) rfl (by omega) ?_
      refine .v (.pkF rfl rfl) rfl ?_
      refine .v (.mv rfl) rfl ?_
      refine .g rfl rfl rfl ?_
      refine .v (.mv rfl) rfl ?_
      refine .g rfl rfl rfl ?_
      refine .lend (.rom rfl rfl (Try.call18 _) (sel1 .here) ((range_tre _ hTA _ _ _ (by omega)).mono (fun v M G _ h_ => h_))) rfl ?_
      rintro _ ig0 ⟨ag0, cg0, rfl, hr0⟩
      rw [show rng ⟨#[]⟩ ⟨#[]⟩ ((1000 : Int).toNat) [] ps = ps from rng_all (by show ps.length ≤ 1000; omega)] at hr0 ⊢
      refine .g rfl rfl rfl ?_
      refine .v (.mv rfl) rfl ?_
      refine .g rfl rfl rfl ?_
      refine .v (.call rfl rfl (Try.call17 _) (fun G hle hG => same_fn _ _ _ _ _ G (hr0.sl encP_ok (fun b_ hb_ => hG b_ (Inn.mem .here b_ hb_))) (hm1.sl encP_ok (fun b_ hb_ => hG b_ (Inn.mem (.there (.there .here)) b_ hb_))))) rfl ?_
      refine .g rfl rfl rfl ?_
      refine .v (.not rfl) rfl ?_
      refine .v (.pkF rfl rfl) rfl ?_
      refine .nil ?_
      refine .then ?_
      refine .condF rfl ?_
      refine .skip ?_
      refine .then ?_
      refine .seq ?_
      refine .seq ?_
      refine .region ?_
      refine .v (.asn rfl) rfl ?_
      refine .nil ?_
      refine .then ?_
      refine .block ?_
      refine .front (.there (.there .here)) ?_
      refine .front (.there (.there .here)) ?_
      refine WC.loopx (fx := [(1, _), (6, _)]) (pre := [_, _]) (fm := [_, _]) rfl (.cons rfl rfl (.cons rfl rfl .nil)) (ι := PlZ) (fun z => z.k ≤ l.length ∧ z.k ≤ 60 ∧ z.x.xs.length ≤ 400 + z.k ∧ Tre bA z.x.xs (ps.length + 2 + 1000 * z.k) z.it ∧ Row 56 encP 2 z.x.a z.x.c z.x.xs z.x.it) (fun z => l.length - z.k) (fun z => [(5, .slice z.x.a z.x.xs.length z.x.c), (7, .int .i64 (z.k : Int))]) (fun z => [z.it, z.x.it]) (fun _ => F) ⟨0, ⟨ps, am, cm, im⟩, itA⟩ ⟨Nat.zero_le _, Nat.zero_le _, by show ps.length ≤ 400 + 0; omega, hTA, hm1⟩ ?he ?hm ?round
      case he => exact .cons rfl rfl (.cons rfl rfl (.cons rfl rfl (.cons rfl rfl .nil)))
      case hm => exact (fun _ h => h)
      case round =>
        intro z hk
        obtain ⟨k, x1, itA⟩ := z
        obtain ⟨hk, hk2, hml, hTA, hm1⟩ := hk
        dsimp only [List.cons_append, List.nil_append] at hk hk2 hml hTA hm1 ⊢
        refine .seq ?_
        refine .seq ?_
        refine .region ?_
        refine .v (.mv rfl) rfl ?_
        refine .v (.mv rfl) rfl ?_
        refine .v (.lenl Try.underlying23 rfl) rfl ?_
        refine .vs (.lt rfl rfl) rfl (fun h54_3 => ?_) (fun h54_3 => ?_)
        · skip
          refine .v (.mv rfl) rfl ?_
          refine .g rfl rfl rfl ?_
          refine .v (.mv rfl) rfl ?_
          refine .g rfl rfl rfl ?_
          refine .vs (.lt rfl rfl) rfl (fun h57_4 => ?_) (fun h57_4 => ?_)
          · skip
            refine .v (.pkT rfl rfl) rfl ?_
            refine .nil ?_
            refine .then ?_
            refine .condT rfl ?_
            refine .skip ?_
            refine .then ?_
            refine .seq ?_
            refine .block ?_
            refine .seq ?_
            refine .region ?_
            refine .v (.asn rfl) rfl ?_
            refine .nil ?_
            refine .then ?_
            refine .seq ?_
            refine .region ?_
            obtain ⟨x, hx⟩ : ∃ y, l[k]? = some y := ⟨_, List.getElem?_eq_getElem (by omega)⟩
            refine .v (.mv rfl) rfl ?_
            refine .v (.mv rfl) rfl ?_
            refine .v (.mv rfl) rfl ?_
            refine .v (.mv rfl) rfl ?_
            refine .ix sl23 rfl rfl hS rfl x ⟨by omega, hx⟩ (fun p5 o6 r7 => ?_)
            refine .v (.ldrw ty37 rfl r7 rfl) rfl ?_
            refine .front (.there .here) ?_
            refine .front (.there .here) ?_
            refine .join ?_
            refine .lend (.lend rfl rfl (Try.call19 _) _ (fun _ => .here) (fun G hle hG => (act_fn bA x1.xs _ itA x1.it G hTA x1.a x1.c hm1 x (by omega) (by omega)).mono (fun v M H _ ⟨it, h1, _, h2⟩ => ⟨it, h1, h2⟩))) rfl ?_
            rintro _ _ ⟨i1, i2, a2, c2, rfl, rfl, hTA2, hm2⟩
            have hal := actS_len hTA.srt x
            obtain ⟨m2, hme⟩ : ∃ y, y = actS x1.xs x := ⟨_, rfl⟩
            rw [← hme] at hTA2 hm2 hal ⊢
            refine .part ?_
            refine .v (.mv rfl) rfl ?_
            refine .v (.ext rfl rfl) rfl ?_
            refine .v (.ext rfl rfl) rfl ?_
            refine .v (.asn rfl) rfl ?_
            refine .v (.asn rfl) rfl ?_
            refine .nil ?_
            refine .then ?_
            refine .seq ?_
            refine .region ?_
            refine .v (.mv rfl) rfl ?_
            refine .v (.not rfl) rfl ?_
            refine .v (.mv rfl) rfl ?_
            refine .g rfl rfl rfl ?_
            refine .v (.mv rfl) rfl ?_
            refine .g rfl rfl rfl ?_
            refine .v (.ro rfl rfl (Try.call15 _) (sel1 .here) (check_tre _ hTA2 (by omega))) rfl ?_
            refine .g rfl rfl rfl ?_
            refine .v (.not rfl) rfl ?_
            refine .v (.pkF rfl rfl) rfl ?_
            refine .nil ?_
            refine .then ?_
            refine .condF rfl ?_
            refine .skip ?_
            refine .blk ?_
            refine .then ?_
            refine .region ?_
            refine .v (.mv rfl) rfl ?_
            refine .v (.add rfl rfl (by omega)) rfl ?_
            refine .v (.asn rfl) rfl ?_
            refine .nil ?_
            exact .again ⟨k + 1, ⟨m2, a2, c2, i2⟩, i1⟩ ⟨by (try dsimp only); omega, by (try dsimp only); omega, by (try dsimp only); omega, hTA2.le (by (try dsimp only); omega), hm2⟩ (by (try dsimp only); omega) (.cons rfl rfl (.cons rfl rfl (.cons rfl rfl (.cons rfl rfl .nil)))) (subl (.cons_cons _ (.cons_cons _ (.cons_cons _ (.cons_cons _ .slnil)))))
          · skip
            refine .v (.pkT rfl rfl) rfl ?_
            refine .nil ?_
            refine .then ?_
            refine .condF rfl ?_
            refine .exit ?_
            refine .then_exit ?_
            refine .then_exit ?_
            refine .blk_exit ?_
            refine .then ?_
            refine .seq ?_
            refine .region ?_
            refine .v (.mv rfl) rfl ?_
            refine .lend (.rom rfl rfl (Try.call18 _) (sel1 .here) ((range_tre _ hTA _ _ _ (by omega)).mono (fun v M G _ h_ => h_))) rfl ?_
            rintro _ ig ⟨ag, cg, rfl, hrg⟩
            rw [show rng ⟨#[]⟩ ⟨#[]⟩ ((1000 : Int).toNat) [] x1.xs = x1.xs from rng_all (by show x1.xs.length ≤ 1000; omega)] at hrg ⊢
            refine .v (.mv rfl) rfl ?_
            refine .v (.call rfl rfl (Try.call17 _) (fun G hle hG => same_fn _ _ _ _ _ G (hrg.sl encP_ok (fun b_ hb_ => hG b_ (Inn.mem .here b_ hb_))) (hm1.sl encP_ok (fun b_ hb_ => hG b_ (Inn.mem (.there (.there .here)) b_ hb_))))) rfl ?_
            refine .v (.mv rfl) rfl ?_
            refine .g rfl rfl rfl ?_
            refine .v (.call rfl rfl (Try.call11 _) (fun G hle hG => awake_fn G)) rfl ?_
            refine .v (.pkT rfl rfl) rfl ?_
            refine .v (.asn rfl) rfl ?_
            refine .nil ?_
            refine .then ?_
            refine .ret ?_
            exact .done _ [] (.t1 rfl rfl) .rfl ⟨rfl, rfl⟩ (Inn.keep (.there (.there (.there (.there .here)))))
        · skip
          refine .v (.mv rfl) rfl ?_
          refine .gs rfl rfl rfl rfl ?_
          refine .gs rfl rfl rfl rfl ?_
          refine .v (.pkF rfl rfl) rfl ?_
          refine .nil ?_
          refine .then ?_
          refine .condF rfl ?_
          refine .exit ?_
          refine .then_exit ?_
          refine .then_exit ?_
          refine .blk_exit ?_
          refine .then ?_
          refine .seq ?_
          refine .region ?_
          refine .v (.mv rfl) rfl ?_
          refine .lend (.rom rfl rfl (Try.call18 _) (sel1 .here) ((range_tre _ hTA _ _ _ (by omega)).mono (fun v M G _ h_ => h_))) rfl ?_
          rintro _ ig ⟨ag, cg, rfl, hrg⟩
          rw [show rng ⟨#[]⟩ ⟨#[]⟩ ((1000 : Int).toNat) [] x1.xs = x1.xs from rng_all (by show x1.xs.length ≤ 1000; omega)] at hrg ⊢
          refine .v (.mv rfl) rfl ?_
          refine .v (.call rfl rfl (Try.call17 _) (fun G hle hG => same_fn _ _ _ _ _ G (hrg.sl encP_ok (fun b_ hb_ => hG b_ (Inn.mem .here b_ hb_))) (hm1.sl encP_ok (fun b_ hb_ => hG b_ (Inn.mem (.there (.there .here)) b_ hb_))))) rfl ?_
          refine .v (.mv rfl) rfl ?_
          refine .g rfl rfl rfl ?_
          refine .v (.call rfl rfl (Try.call11 _) (fun G hle hG => awake_fn G)) rfl ?_
          refine .v (.pkT rfl rfl) rfl ?_
          refine .v (.asn rfl) rfl ?_
          refine .nil ?_
          refine .then ?_
          refine .ret ?_
          exact .done _ [] (.t1 rfl rfl) .rfl ⟨rfl, rfl⟩ (Inn.keep (.there (.there (.there (.there .here)))))
    · skip
      refine .g rfl rfl rfl ?_
      refine .v (.not rfl) rfl ?_
      refine .v (.pkF rfl rfl) rfl ?_
      refine .nil ?_
      refine .then ?_
      refine .condT rfl ?_
      refine .seq ?_
      refine .region ?_
      refine .v (.call rfl rfl (Try.call11 _) (fun G hle hG => awake_fn G)) rfl ?_
      refine .v (.asn rfl) rfl ?_
      refine .nil ?_
      refine .then ?_
      refine .ret ?_
      refine .then_ret ?_
      exact .done _ [] (.t1 rfl rfl) .rfl ⟨rfl, rfl⟩ (Inn.keep .here)
theorem loads_fn (ps : List Pr) (a2 : Option Addr) (c2 : Nat) (F : Mem) (hS2 : Sl F encP 2 a2 c2 ps) (l : List Ac) (a : Option Addr) (c : Nat) (hS : Sl F encA 5 a c l) : Fn Try.prog 3 #[.slice a2 ps.length c2, .slice a l.length c] [] F (fun u M _ => M = [] ∧ u = .bool true) := by
  cases hs : srt ps with
  | false => exact loads_no ps a2 c2 F hS2 l a c hS hs
  | true => exact loads_yes ps a2 c2 F hS2 l a c hS hs
end Go.Proofs.Ytbmpdccoffkjgaa.Ow
