/- Walks. -/
import Derived.Test.YtbmpdccoffkjgaaBx
import Derived.Test.YtbmpdccoffkjgaaTyu
namespace Go.Proofs.Ytbmpdccoffkjgaa.Ow
open Go
set_option linter.unusedVariables false
theorem plays_fn (l : List Ac) (a : Option Addr) (c : Nat) (F : Mem) (hS : Sl F encA 5 a c l) : Fn Try.prog 7 #[.slice a l.length c] [] F (fun u M _ => M = [] ∧ u = .bool true) := by
  have hm := hS.len
  refine Fn.start0 Try.func7 rfl Try.ntmps7 rfl (env := [(0, _)]) rfl ?_
  intro R
  refine .seq ?_
  refine .region ?_
  refine .v (.asn rfl) rfl ?_
  refine .nil ?_
  refine .then ?_
  refine .seq ?_
  refine .seq ?_
  refine .region ?_
  refine .v (.mv rfl) rfl ?_
  refine .vb (.call rfl rfl (Try.call10 _) (fun G hle hG => few_fn l _ _ G (hS.mono hle) 200)) rfl (fun h12_1 => ?_) (fun h12_1 => ?_)
  · skip
    refine .v (.not rfl) rfl ?_
    refine .nil ?_
    refine .then ?_
    refine .condF rfl ?_
    refine .skip ?_
    refine .then ?_
    refine .seq ?_
    refine .region ?_
    refine .lend (.make rfl rfl (Try.call20 _) (fun G hle hG => (new_tre G).mono (fun v M H _ h_ => h_))) rfl ?_
    rintro _ itA ⟨bA, rfl, hTA⟩
    refine .v (.asn rfl) rfl ?_
    refine .nil ?_
    refine .then ?_
    refine .seq ?_
    refine .region ?_
    refine .v (.asn rfl) rfl ?_
    refine .nil ?_
    refine .then ?_
    refine .seq ?_
    refine .seq ?_
    refine .region ?_
    refine .emp ?_
    refine .v (.asn rfl) rfl ?_
    refine .nil ?_
    refine .then ?_
    refine .block ?_
    refine .front (.there .here) ?_
    refine WC.loopx (fx := [(0, _), (3, _)]) (pre := [_, _]) (fm := [_]) rfl (.cons rfl rfl (.cons rfl rfl .nil)) (ι := PlZ) (fun z => z.k ≤ l.length ∧ z.k ≤ 200 ∧ z.x.xs.length ≤ 0 + z.k ∧ Tre bA z.x.xs (1 + 1000 * z.k) z.it ∧ Row 56 encP 2 z.x.a z.x.c z.x.xs z.x.it) (fun z => l.length - z.k) (fun z => [(4, .slice z.x.a z.x.xs.length z.x.c), (5, .int .i64 (z.k : Int))]) (fun z => [z.it, z.x.it]) (fun _ => F) ⟨0, ⟨[], none, 0, []⟩, itA⟩ ⟨Nat.zero_le _, Nat.zero_le _, Nat.le_refl _, hTA, Row.nil⟩ ?he ?hm ?round
    case he => exact .cons rfl rfl (.cons rfl rfl (.cons rfl rfl (.cons rfl rfl .nil)))
    case hm => exact (fun _ h => h)
    case round =>
      intro z hk
      obtain ⟨k, x1, itA⟩ := z
      obtain ⟨hk, hk2, hml, hTA, hm1⟩ := hk
      dsimp only [List.cons_append, List.nil_append] at hk hk2 hml hTA hm1 ⊢
      refine .seq ?_
      refine .seq ?_
      refine .region ?_
      refine .v (.mv rfl) rfl ?_
      refine .v (.mv rfl) rfl ?_
      refine .v (.lenl Try.underlying23 rfl) rfl ?_
      refine .vs (.lt rfl rfl) rfl (fun h19_2 => ?_) (fun h19_2 => ?_)
      · skip
        refine .v (.mv rfl) rfl ?_
        refine .g rfl rfl rfl ?_
        refine .v (.mv rfl) rfl ?_
        refine .g rfl rfl rfl ?_
        refine .vs (.lt rfl rfl) rfl (fun h22_3 => ?_) (fun h22_3 => ?_)
        · skip
          refine .v (.pkT rfl rfl) rfl ?_
          refine .nil ?_
          refine .then ?_
          refine .condT rfl ?_
          refine .skip ?_
          refine .then ?_
          refine .seq ?_
          refine .block ?_
          refine .seq ?_
          refine .region ?_
          refine .v (.asn rfl) rfl ?_
          refine .nil ?_
          refine .then ?_
          refine .seq ?_
          refine .seq ?_
          refine .region ?_
          obtain ⟨x, hx⟩ : ∃ y, l[k]? = some y := ⟨_, List.getElem?_eq_getElem (by omega)⟩
          refine .v (.mv rfl) rfl ?_
          refine .v (.mv rfl) rfl ?_
          refine .v (.mv rfl) rfl ?_
          refine .v (.mv rfl) rfl ?_
          refine .ix sl23 rfl rfl hS rfl x ⟨by omega, hx⟩ (fun p4 o5 r6 => ?_)
          refine .v (.ldrw ty37 rfl r6 rfl) rfl ?_
          refine .front (.there .here) ?_
          refine .front (.there .here) ?_
          refine .join ?_
          refine .lend (.lend rfl rfl (Try.call19 _) _ (fun _ => .here) (fun G hle hG => (act_fn bA x1.xs _ itA x1.it G hTA x1.a x1.c hm1 x (by omega) (by omega)).mono (fun v M H _ ⟨it, h1, _, h2⟩ => ⟨it, h1, h2⟩))) rfl ?_
          rintro _ _ ⟨i1, i2, a2, c2, rfl, rfl, hTA2, hm2⟩
          have hal := actS_len hTA.srt x
          obtain ⟨m2, hme⟩ : ∃ y, y = actS x1.xs x := ⟨_, rfl⟩
          rw [← hme] at hTA2 hm2 hal ⊢
          refine .part ?_
          refine .v (.mv rfl) rfl ?_
          refine .v (.ext rfl rfl) rfl ?_
          refine .v (.ext rfl rfl) rfl ?_
          refine .v (.asn rfl) rfl ?_
          refine .v (.asn rfl) rfl ?_
          refine .nil ?_
          refine .then ?_
          refine .seq ?_
          refine .region ?_
          refine .v (.mv rfl) rfl ?_
          refine .v (.not rfl) rfl ?_
          refine .v (.mv rfl) rfl ?_
          refine .g rfl rfl rfl ?_
          refine .v (.mv rfl) rfl ?_
          refine .g rfl rfl rfl ?_
          refine .v (.ro rfl rfl (Try.call16 _) (sel1 .here) (len_tre _ hTA2)) rfl ?_
          refine .g rfl rfl rfl ?_
          refine .v (.mv rfl) rfl ?_
          refine .g rfl rfl rfl ?_
          refine .v (.lenl Try.underlying26 rfl) rfl ?_
          refine .g rfl rfl rfl ?_
          refine .vF (.ne rfl rfl) rfl (by omega) ?_
          refine .v (.pkF rfl rfl) rfl ?_
          refine .v (.mv rfl) rfl ?_
          refine .g rfl rfl rfl ?_
          refine .v (.mv rfl) rfl ?_
          refine .g rfl rfl rfl ?_
          refine .v (.ro rfl rfl (Try.call15 _) (sel1 .here) (check_tre _ hTA2 (by omega))) rfl ?_
          refine .g rfl rfl rfl ?_
          refine .v (.not rfl) rfl ?_
          refine .v (.pkF rfl rfl) rfl ?_
          refine .nil ?_
          refine .then ?_
          refine .condF rfl ?_
          refine .skip ?_
          refine .then ?_
          refine .seq ?_
          refine .region ?_
          refine .v (.mv rfl) rfl ?_
          refine .v (.mv rfl) rfl ?_
          refine .v (.mv rfl) rfl ?_
          refine .ix sl23 rfl rfl hS rfl x ⟨by omega, hx⟩ (fun p7 o8 r9 => ?_)
          refine .v (.fae fl37_2 rfl) rfl ?_
          refine .v (.ldr (j := 2) ty9 rfl r9 rfl) rfl ?_
          refine .v (.ro rfl rfl (Try.call25 _) (sel1 .here) (get_tre _ hTA2 x.key)) rfl ?_
          refine .v (.mv rfl) rfl ?_
          refine .v (.ext rfl rfl) rfl ?_
          refine .v (.ext rfl rfl) rfl ?_
          refine .v (.asn rfl) rfl ?_
          refine .v (.asn rfl) rfl ?_
          refine .nil ?_
          refine .then ?_
          refine .seq ?_
          refine .region ?_
          refine .v (.mv rfl) rfl ?_
          refine .v (.mv rfl) rfl ?_
          refine .v (.mv rfl) rfl ?_
          refine .ix sl23 rfl rfl hS rfl x ⟨by omega, hx⟩ (fun p10 o11 r12 => ?_)
          refine .v (.fae fl37_2 rfl) rfl ?_
          refine .v (.ldr (j := 2) ty9 rfl r12 rfl) rfl ?_
          refine .v (.call rfl rfl (Try.call26 _) (fun G hle hG => rget_fn m2 _ _ G (hm2.sl encP_ok (fun b_ hb_ => hG b_ (Inn.mem (.there .here) b_ hb_))) hTA2.srt (by omega) x.key)) rfl ?_
          refine .v (.mv rfl) rfl ?_
          refine .v (.ext rfl rfl) rfl ?_
          refine .v (.ext rfl rfl) rfl ?_
          refine .v (.asn rfl) rfl ?_
          refine .v (.asn rfl) rfl ?_
          refine .nil ?_
          refine .then ?_
          refine .seq ?_
          refine .region ?_
          refine .v (.mv rfl) rfl ?_
          refine .v (.mv rfl) rfl ?_
          refine .vF (.nes rfl rfl) rfl (by simp) ?_
          refine .v (.mv rfl) rfl ?_
          refine .g rfl rfl rfl ?_
          refine .v (.mv rfl) rfl ?_
          refine .g rfl rfl rfl ?_
          refine .v (.mv rfl) rfl ?_
          refine .g rfl rfl rfl ?_
          refine .vF (.neb Try.underlying4 rfl rfl) rfl (by simp) ?_
          refine .v (.pkF rfl rfl) rfl ?_
          refine .nil ?_
          refine .then ?_
          refine .condF rfl ?_
          refine .skip ?_
          refine .blk ?_
          refine .then ?_
          refine .region ?_
          refine .v (.mv rfl) rfl ?_
          refine .v (.add rfl rfl (by omega)) rfl ?_
          refine .v (.asn rfl) rfl ?_
          refine .nil ?_
          exact .again ⟨k + 1, ⟨m2, a2, c2, i2⟩, i1⟩ ⟨by (try dsimp only); omega, by (try dsimp only); omega, by (try dsimp only); omega, hTA2.le (by (try dsimp only); omega), hm2⟩ (by (try dsimp only); omega) (.cons rfl rfl (.cons rfl rfl (.cons rfl rfl (.cons rfl rfl .nil)))) (subl (.cons_cons _ (.cons_cons _ (.cons_cons _ .slnil))))
        · skip
          refine .v (.pkT rfl rfl) rfl ?_
          refine .nil ?_
          refine .then ?_
          refine .condF rfl ?_
          refine .exit ?_
          refine .then_exit ?_
          refine .then_exit ?_
          refine .blk_exit ?_
          refine .then ?_
          refine .seq ?_
          refine .region ?_
          refine .v (.mv rfl) rfl ?_
          refine .lend (.rom rfl rfl (Try.call18 _) (sel1 .here) ((range_tre _ hTA _ _ _ (by omega)).mono (fun v M G _ h_ => h_))) rfl ?_
          rintro _ ig ⟨ag, cg, rfl, hrg⟩
          rw [show rng ⟨#[]⟩ ⟨#[]⟩ ((1000 : Int).toNat) [] x1.xs = x1.xs from rng_all (by show x1.xs.length ≤ 1000; omega)] at hrg ⊢
          refine .v (.mv rfl) rfl ?_
          refine .v (.call rfl rfl (Try.call17 _) (fun G hle hG => same_fn _ _ _ _ _ G (hrg.sl encP_ok (fun b_ hb_ => hG b_ (Inn.mem .here b_ hb_))) (hm1.sl encP_ok (fun b_ hb_ => hG b_ (Inn.mem (.there (.there .here)) b_ hb_))))) rfl ?_
          refine .v (.mv rfl) rfl ?_
          refine .g rfl rfl rfl ?_
          refine .v (.call rfl rfl (Try.call11 _) (fun G hle hG => awake_fn G)) rfl ?_
          refine .v (.pkT rfl rfl) rfl ?_
          refine .v (.asn rfl) rfl ?_
          refine .nil ?_
          refine .then ?_
          refine .ret ?_
          exact .done _ [] (.t1 rfl rfl) .rfl ⟨rfl, rfl⟩ (Inn.keep (.there (.there (.there .here))))
      · skip
        refine .v (.mv rfl) rfl ?_
        refine .gs rfl rfl rfl rfl ?_
        refine .gs rfl rfl rfl rfl ?_
        refine .v (.pkF rfl rfl) rfl ?_
        refine .nil ?_
        refine .then ?_
        refine .condF rfl ?_
        refine .exit ?_
        refine .then_exit ?_
        refine .then_exit ?_
        refine .blk_exit ?_
        refine .then ?_
        refine .seq ?_
        refine .region ?_
        refine .v (.mv rfl) rfl ?_
        refine .lend (.rom rfl rfl (Try.call18 _) (sel1 .here) ((range_tre _ hTA _ _ _ (by omega)).mono (fun v M G _ h_ => h_))) rfl ?_
        rintro _ ig ⟨ag, cg, rfl, hrg⟩
        rw [show rng ⟨#[]⟩ ⟨#[]⟩ ((1000 : Int).toNat) [] x1.xs = x1.xs from rng_all (by show x1.xs.length ≤ 1000; omega)] at hrg ⊢
        refine .v (.mv rfl) rfl ?_
        refine .v (.call rfl rfl (Try.call17 _) (fun G hle hG => same_fn _ _ _ _ _ G (hrg.sl encP_ok (fun b_ hb_ => hG b_ (Inn.mem .here b_ hb_))) (hm1.sl encP_ok (fun b_ hb_ => hG b_ (Inn.mem (.there (.there .here)) b_ hb_))))) rfl ?_
        refine .v (.mv rfl) rfl ?_
        refine .g rfl rfl rfl ?_
        refine .v (.call rfl rfl (Try.call11 _) (fun G hle hG => awake_fn G)) rfl ?_
        refine .v (.pkT rfl rfl) rfl ?_
        refine .v (.asn rfl) rfl ?_
        refine .nil ?_
        refine .then ?_
        refine .ret ?_
        exact .done _ [] (.t1 rfl rfl) .rfl ⟨rfl, rfl⟩ (Inn.keep (.there (.there (.there .here))))
  · skip
    refine .v (.not rfl) rfl ?_
    refine .nil ?_
    refine .then ?_
    refine .condT rfl ?_
    refine .seq ?_
    refine .region ?_
    refine .v (.call rfl rfl (Try.call11 _) (fun G hle hG => awake_fn G)) rfl ?_
    refine .v (.asn rfl) rfl ?_
    refine .nil ?_
    refine .then ?_
    refine .ret ?_
    refine .then_ret ?_
    exact .done _ [] (.t1 rfl rfl) .rfl ⟨rfl, rfl⟩ (Inn.keep .here)
end Go.Proofs.Ytbmpdccoffkjgaa.Ow
