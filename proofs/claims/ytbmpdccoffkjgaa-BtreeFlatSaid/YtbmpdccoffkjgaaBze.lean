/- Walks. -/
import Derived.Test.YtbmpdccoffkjgaaBzc
import Derived.Test.YtbmpdccoffkjgaaTyu
namespace Go.Proofs.Ytbmpdccoffkjgaa.Ow
open Go
set_option linter.unusedVariables false
theorem deep_ok {n d : Nat} (hn : n ≤ 900) (h : n ≠ 0 → d = 1 ∨ 1 ≤ d ∧ 2 * 3 ^ (d - 1) ≤ n + 1) (h0 : n ≠ 0) : 1 ≤ d ∧ d < 30 ∧ 2 * 3 ^ (d - 1) ≤ n + 1 := by
  rcases h h0 with rfl | ⟨h1, h2⟩
  · exact ⟨by omega, by omega, by show 2 * 1 ≤ n + 1; omega⟩
  · refine ⟨h1, ?_, h2⟩
    rcases Nat.lt_or_ge d 30 with h3 | h3
    · exact h3
    · have h4 : 3 ^ 29 ≤ 3 ^ (d - 1) := Nat.pow_le_pow_right (by decide) (by omega)
      have h5 : (3 : Nat) ^ 29 = 68630377364883 := by decide
      omega
theorem deep_one {d : Nat} (h : (1 : Nat) ≠ 0 → 1 ≤ d ∧ d < 30 ∧ 2 * 3 ^ (d - 1) ≤ 1 + 1) : d = 1 := by
  obtain ⟨h1, h2, h3⟩ := h (by decide)
  have h4 := le_pow3 (d - 1)
  omega
theorem flat_no (l : List Ac) (a : Option Addr) (c : Nat) (F : Mem) (hS : Sl F encA 5 a c l) (ps : List Pr) (a2 : Option Addr) (c2 : Nat) (hS2 : Sl F encP 2 a2 c2 ps) (hs : srt ps = false) : Fn Try.prog 4 #[.slice a l.length c, .slice a2 ps.length c2] [] F (fun u M _ => M = [] ∧ u = .bool true) := by
  have hm := hS.len
  have hm2_ := hS2.len
  refine Fn.start0 Try.func4 rfl Try.ntmps4 rfl (env := [(0, _), (1, _)]) rfl ?_
  intro R
  refine .seq ?_
  refine .region ?_
  refine .v (.asn rfl) rfl ?_
  refine .nil ?_
  refine .then ?_
  refine .seq ?_
  refine .seq ?_
  refine .region ?_
  refine .v (.mv rfl) rfl ?_
  refine .vb (.call rfl rfl (Try.call10 _) (fun G hle hG => few_fn l _ _ G (hS.mono hle) 200)) rfl (fun h10_1 => ?_) (fun h10_1 => ?_)
  · skip
    refine .v (.not rfl) rfl ?_
    refine .v (.mv rfl) rfl ?_
    refine .g rfl rfl rfl ?_
    refine .v (.mv rfl) rfl ?_
    refine .g rfl rfl rfl ?_
    refine .v (.lenl Try.underlying22 rfl) rfl ?_
    refine .g rfl rfl rfl ?_
    refine .vs (.gt rfl rfl) rfl (fun h15_2 => ?_) (fun h15_2 => ?_)
    · skip
      refine .v (.pkF rfl rfl) rfl ?_
      refine .nil ?_
      refine .then ?_
      refine .condT rfl ?_
      refine .seq ?_
      refine .region ?_
      refine .v (.call rfl rfl (Try.call11 _) (fun G hle hG => awake_fn G)) rfl ?_
      refine .v (.asn rfl) rfl ?_
      refine .nil ?_
      refine .then ?_
      refine .ret ?_
      refine .then_ret ?_
      exact .done _ [] (.t1 rfl rfl) .rfl ⟨rfl, rfl⟩ (Inn.keep .here)
    · skip
      refine .v (.pkF rfl rfl) rfl ?_
      refine .nil ?_
      refine .then ?_
      refine .condF rfl ?_
      refine .skip ?_
      refine .then ?_
      refine .seq ?_
      refine .region ?_
      refine .lend (.make rfl rfl (Try.call20 _) (fun G hle hG => (new_tre G).mono (fun v M H _ h_ => h_))) rfl ?_
      rintro _ itA ⟨bA, rfl, hTA⟩
      refine .v (.asn rfl) rfl ?_
      refine .nil ?_
      refine .then ?_
      refine .seq ?_
      refine .seq ?_
      refine .region ?_
      refine .v (.asn rfl) rfl ?_
      refine .nil ?_
      refine .then ?_
      refine .block ?_
      refine WC.loopx (fx := [(0, _), (1, _), (5, _)]) (pre := [_]) (fm := [_]) rfl (.cons rfl rfl (.cons rfl rfl (.cons rfl rfl .nil))) (ι := BkZ) (fun z => z.k ≤ l.length ∧ z.k ≤ 200 ∧ z.m.length ≤ z.k ∧ Tre bA z.m (1 + 1000 * z.k) z.it) (fun z => l.length - z.k) (fun z => [(6, .int .i64 (z.k : Int))]) (fun z => [z.it]) (fun _ => F) ⟨0, itA, []⟩ ⟨Nat.zero_le _, Nat.zero_le _, Nat.le_refl _, hTA⟩ ?he ?hm ?round
      case he => exact .cons rfl rfl (.cons rfl rfl (.cons rfl rfl (.cons rfl rfl .nil)))
      case hm => exact (fun _ h => h)
      case round =>
        intro z hk
        obtain ⟨k, itA, m⟩ := z
        obtain ⟨hk, hk2, hml, hTA⟩ := hk
        dsimp only [List.cons_append, List.nil_append] at hk hk2 hml hTA ⊢
        refine .seq ?_
        refine .seq ?_
        refine .region ?_
        refine .v (.mv rfl) rfl ?_
        refine .v (.mv rfl) rfl ?_
        refine .v (.lenl Try.underlying23 rfl) rfl ?_
        refine .vs (.lt rfl rfl) rfl (fun h22_3 => ?_) (fun h22_3 => ?_)
        · skip
          refine .v (.mv rfl) rfl ?_
          refine .g rfl rfl rfl ?_
          refine .v (.mv rfl) rfl ?_
          refine .g rfl rfl rfl ?_
          refine .vs (.lt rfl rfl) rfl (fun h25_4 => ?_) (fun h25_4 => ?_)
          · skip
            refine .v (.pkT rfl rfl) rfl ?_
            refine .nil ?_
            refine .then ?_
            refine .condT rfl ?_
            refine .skip ?_
            refine .then ?_
            refine .seq ?_
            refine .block ?_
            refine .seq ?_
            refine .seq ?_
            refine .region ?_
            obtain ⟨x, hx⟩ : ∃ y, l[k]? = some y := ⟨_, List.getElem?_eq_getElem (by omega)⟩
            refine .v (.mv rfl) rfl ?_
            refine .v (.mv rfl) rfl ?_
            refine .ix sl23 rfl rfl hS rfl x ⟨by omega, hx⟩ (fun p5 o6 r7 => ?_)
            refine .v (.fa0 fl37_0 rfl) rfl ?_
            refine .v (.ldr0 ty3 rfl r7 rfl) rfl ?_
            refine .v (.cvt rfl Try.underlying3 Try.underlying40) rfl ?_
            refine .v (.remk rfl rfl ⟨wrapu_nn _, by decide⟩) rfl ?_
            refine .vs (.lt rfl rfl) rfl (fun h36_8 => ?_) (fun h36_8 => ?_)
            · skip
              refine .nil ?_
              refine .then ?_
              refine .condT rfl ?_
              refine .region ?_
              refine .v (.mv rfl) rfl ?_
              refine .v (.mv rfl) rfl ?_
              refine .v (.mv rfl) rfl ?_
              refine .ix sl23 rfl rfl hS rfl x ⟨by omega, hx⟩ (fun p9 o10 r11 => ?_)
              refine .v (.fae fl37_2 rfl) rfl ?_
              refine .v (.ldr (j := 2) ty9 rfl r11 rfl) rfl ?_
              refine .lend (.lend rfl rfl (Try.call21 _) _ (fun _ => .here) (fun G hle hG => (put_tre G hTA _ _ (by omega) (by omega)).mono (fun v M H _ h_ => h_))) rfl ?_
              rintro _ itA12 ⟨hTA12, rfl⟩
              refine .nil ?_
              refine .then ?_
              refine .seq ?_
              refine .region ?_
              obtain ⟨m2, hm2⟩ : ∃ y, y = putS m x.key ⟨#[]⟩ := ⟨_, rfl⟩
              rw [← hm2] at hTA12
              have hl2 : m2.length ≤ k + 1 := by rw [hm2]; (have h_ := putS_len hTA.srt x.key ⟨#[]⟩; split at h_ <;> omega)
              obtain ⟨d, hd0, hd1, hdF⟩ := depth_tre hTA12 (by omega)
              have hdd := deep_ok (by omega) hd1
              have hd11 : m2.length = 1 → d = 1 := fun e_ => deep_one (by rw [e_] at hdd; exact hdd)
              refine .v (.mv rfl) rfl ?_
              refine .v (.ro rfl rfl (Try.call23 _) (sel1 .here) (hdF _)) rfl ?_
              refine .v (.asn rfl) rfl ?_
              refine .nil ?_
              refine .then ?_
              refine .seq ?_
              refine .region ?_
              refine .v (.mv rfl) rfl ?_
              refine .v (.ro rfl rfl (Try.call16 _) (sel1 .here) (len_tre _ hTA12)) rfl ?_
              refine .vs (.gt rfl rfl) rfl (fun h55_13 => ?_) (fun h55_13 => ?_)
              · skip
                refine .v (.mv rfl) rfl ?_
                refine .g rfl rfl rfl ?_
                refine .v (.mv rfl) rfl ?_
                refine .g rfl rfl rfl ?_
                refine .v (.ro rfl rfl (Try.call16 _) (sel1 .here) (len_tre _ hTA12)) rfl ?_
                refine .g rfl rfl rfl ?_
                refine .v (.mv rfl) rfl ?_
                refine .g rfl rfl rfl ?_
                refine .v (.call rfl rfl (Try.call24 _) (fun G hle hG => deep_fn m2.length d hd0 hdd G)) rfl ?_
                refine .g rfl rfl rfl ?_
                refine .v (.not rfl) rfl ?_
                refine .v (.pkT rfl rfl) rfl ?_
                refine .v (.mv rfl) rfl ?_
                refine .g rfl rfl rfl ?_
                refine .v (.mv rfl) rfl ?_
                refine .g rfl rfl rfl ?_
                refine .v (.ro rfl rfl (Try.call16 _) (sel1 .here) (len_tre _ hTA12)) rfl ?_
                refine .g rfl rfl rfl ?_
                refine .vF (.eq rfl rfl) rfl (by omega) ?_
                refine .g rfl rfl rfl ?_
                refine .v (.mv rfl) rfl ?_
                refine .gs rfl rfl rfl rfl ?_
                refine .gs rfl rfl rfl rfl ?_
                refine .g rfl rfl rfl ?_
                refine .v (.pkF rfl rfl) rfl ?_
                refine .v (.pkF rfl rfl) rfl ?_
                refine .v (.mv rfl) rfl ?_
                refine .g rfl rfl rfl ?_
                refine .v (.mv rfl) rfl ?_
                refine .g rfl rfl rfl ?_
                refine .v (.ro rfl rfl (Try.call16 _) (sel1 .here) (len_tre _ hTA12)) rfl ?_
                refine .g rfl rfl rfl ?_
                refine .vF (.eq rfl rfl) rfl (by omega) ?_
                refine .g rfl rfl rfl ?_
                refine .v (.mv rfl) rfl ?_
                refine .gs rfl rfl rfl rfl ?_
                refine .gs rfl rfl rfl rfl ?_
                refine .g rfl rfl rfl ?_
                refine .v (.pkF rfl rfl) rfl ?_
                refine .v (.pkF rfl rfl) rfl ?_
                refine .nil ?_
                refine .then ?_
                refine .condF rfl ?_
                refine .skip ?_
                refine .blk ?_
                refine .then ?_
                refine .region ?_
                refine .v (.mv rfl) rfl ?_
                refine .v (.add rfl rfl (by omega)) rfl ?_
                refine .v (.asn rfl) rfl ?_
                refine .nil ?_
                exact .again ⟨k + 1, _, m2⟩ ⟨by (try dsimp only); omega, by (try dsimp only); omega, hl2, hTA12.le (by (try dsimp only); omega)⟩ (by (try dsimp only); omega) (.cons rfl rfl (.cons rfl rfl (.cons rfl rfl (.cons rfl rfl .nil)))) (subl (.cons_cons _ (.cons_cons _ .slnil)))
              · skip
                refine .v (.mv rfl) rfl ?_
                refine .gs rfl rfl rfl rfl ?_
                refine .gs rfl rfl rfl rfl ?_
                refine .gs rfl rfl rfl rfl ?_
                refine .gs rfl rfl rfl rfl ?_
                refine .gs rfl rfl rfl rfl ?_
                refine .v (.pkF rfl rfl) rfl ?_
                refine .v (.mv rfl) rfl ?_
                refine .g rfl rfl rfl ?_
                refine .v (.mv rfl) rfl ?_
                refine .g rfl rfl rfl ?_
                refine .v (.ro rfl rfl (Try.call16 _) (sel1 .here) (len_tre _ hTA12)) rfl ?_
                refine .g rfl rfl rfl ?_
                refine .vs (.eq rfl rfl) rfl (fun h66_14 => ?_) (fun h66_14 => ?_)
                · skip
                  refine .g rfl rfl rfl ?_
                  refine .v (.mv rfl) rfl ?_
                  refine .g rfl rfl rfl ?_
                  refine .v (.mv rfl) rfl ?_
                  refine .g rfl rfl rfl ?_
                  refine .vF (.ne rfl rfl) rfl (by have h_ := hd11 (by omega); omega) ?_
                  refine .g rfl rfl rfl ?_
                  refine .v (.pkT rfl rfl) rfl ?_
                  refine .v (.pkF rfl rfl) rfl ?_
                  refine .v (.mv rfl) rfl ?_
                  refine .g rfl rfl rfl ?_
                  refine .v (.mv rfl) rfl ?_
                  refine .g rfl rfl rfl ?_
                  refine .v (.ro rfl rfl (Try.call16 _) (sel1 .here) (len_tre _ hTA12)) rfl ?_
                  refine .g rfl rfl rfl ?_
                  refine .vF (.eq rfl rfl) rfl (by omega) ?_
                  refine .g rfl rfl rfl ?_
                  refine .v (.mv rfl) rfl ?_
                  refine .gs rfl rfl rfl rfl ?_
                  refine .gs rfl rfl rfl rfl ?_
                  refine .g rfl rfl rfl ?_
                  refine .v (.pkF rfl rfl) rfl ?_
                  refine .v (.pkF rfl rfl) rfl ?_
                  refine .nil ?_
                  refine .then ?_
                  refine .condF rfl ?_
                  refine .skip ?_
                  refine .blk ?_
                  refine .then ?_
                  refine .region ?_
                  refine .v (.mv rfl) rfl ?_
                  refine .v (.add rfl rfl (by omega)) rfl ?_
                  refine .v (.asn rfl) rfl ?_
                  refine .nil ?_
                  exact .again ⟨k + 1, _, m2⟩ ⟨by (try dsimp only); omega, by (try dsimp only); omega, hl2, hTA12.le (by (try dsimp only); omega)⟩ (by (try dsimp only); omega) (.cons rfl rfl (.cons rfl rfl (.cons rfl rfl (.cons rfl rfl .nil)))) (subl (.cons_cons _ (.cons_cons _ .slnil)))
                · skip
                  refine .g rfl rfl rfl ?_
                  refine .v (.mv rfl) rfl ?_
                  refine .gs rfl rfl rfl rfl ?_
                  refine .gs rfl rfl rfl rfl ?_
                  refine .g rfl rfl rfl ?_
                  refine .v (.pkF rfl rfl) rfl ?_
                  refine .v (.pkF rfl rfl) rfl ?_
                  refine .v (.mv rfl) rfl ?_
                  refine .g rfl rfl rfl ?_
                  refine .v (.mv rfl) rfl ?_
                  refine .g rfl rfl rfl ?_
                  refine .v (.ro rfl rfl (Try.call16 _) (sel1 .here) (len_tre _ hTA12)) rfl ?_
                  refine .g rfl rfl rfl ?_
                  refine .vT (.eq rfl rfl) rfl (by omega) ?_
                  refine .g rfl rfl rfl ?_
                  refine .v (.mv rfl) rfl ?_
                  refine .g rfl rfl rfl ?_
                  refine .v (.mv rfl) rfl ?_
                  refine .g rfl rfl rfl ?_
                  refine .vF (.ne rfl rfl) rfl (by have h_ := hd0 (by omega); omega) ?_
                  refine .g rfl rfl rfl ?_
                  refine .v (.pkT rfl rfl) rfl ?_
                  refine .v (.pkF rfl rfl) rfl ?_
                  refine .nil ?_
                  refine .then ?_
                  refine .condF rfl ?_
                  refine .skip ?_
                  refine .blk ?_
                  refine .then ?_
                  refine .region ?_
                  refine .v (.mv rfl) rfl ?_
                  refine .v (.add rfl rfl (by omega)) rfl ?_
                  refine .v (.asn rfl) rfl ?_
                  refine .nil ?_
                  exact .again ⟨k + 1, _, m2⟩ ⟨by (try dsimp only); omega, by (try dsimp only); omega, hl2, hTA12.le (by (try dsimp only); omega)⟩ (by (try dsimp only); omega) (.cons rfl rfl (.cons rfl rfl (.cons rfl rfl (.cons rfl rfl .nil)))) (subl (.cons_cons _ (.cons_cons _ .slnil)))
            · skip
              refine .nil ?_
              refine .then ?_
              refine .condF rfl ?_
              refine .region ?_
              refine .v (.mv rfl) rfl ?_
              refine .v (.mv rfl) rfl ?_
              refine .v (.mv rfl) rfl ?_
              refine .ix sl23 rfl rfl hS rfl x ⟨by omega, hx⟩ (fun p15 o16 r17 => ?_)
              refine .v (.fae fl37_2 rfl) rfl ?_
              refine .v (.ldr (j := 2) ty9 rfl r17 rfl) rfl ?_
              refine .lend (.lend rfl rfl (Try.call22 _) _ (fun _ => .here) (fun G hle hG => (del_tre G hTA _ (by omega) (by omega)).mono (fun v M H _ h_ => h_))) rfl ?_
              rintro _ itA18 ⟨hTA18, rfl⟩
              refine .nil ?_
              refine .then ?_
              refine .seq ?_
              refine .region ?_
              obtain ⟨m2, hm2⟩ : ∃ y, y = delS m x.key := ⟨_, rfl⟩
              rw [← hm2] at hTA18
              have hl2 : m2.length ≤ k + 1 := by rw [hm2]; (have h_ := delS_len hTA.srt x.key; omega)
              obtain ⟨d, hd0, hd1, hdF⟩ := depth_tre hTA18 (by omega)
              have hdd := deep_ok (by omega) hd1
              have hd11 : m2.length = 1 → d = 1 := fun e_ => deep_one (by rw [e_] at hdd; exact hdd)
              refine .v (.mv rfl) rfl ?_
              refine .v (.ro rfl rfl (Try.call23 _) (sel1 .here) (hdF _)) rfl ?_
              refine .v (.asn rfl) rfl ?_
              refine .nil ?_
              refine .then ?_
              refine .seq ?_
              refine .region ?_
              refine .v (.mv rfl) rfl ?_
              refine .v (.ro rfl rfl (Try.call16 _) (sel1 .here) (len_tre _ hTA18)) rfl ?_
              refine .vs (.gt rfl rfl) rfl (fun h55_19 => ?_) (fun h55_19 => ?_)
              · skip
                refine .v (.mv rfl) rfl ?_
                refine .g rfl rfl rfl ?_
                refine .v (.mv rfl) rfl ?_
                refine .g rfl rfl rfl ?_
                refine .v (.ro rfl rfl (Try.call16 _) (sel1 .here) (len_tre _ hTA18)) rfl ?_
                refine .g rfl rfl rfl ?_
                refine .v (.mv rfl) rfl ?_
                refine .g rfl rfl rfl ?_
                refine .v (.call rfl rfl (Try.call24 _) (fun G hle hG => deep_fn m2.length d hd0 hdd G)) rfl ?_
                refine .g rfl rfl rfl ?_
                refine .v (.not rfl) rfl ?_
                refine .v (.pkT rfl rfl) rfl ?_
                refine .v (.mv rfl) rfl ?_
                refine .g rfl rfl rfl ?_
                refine .v (.mv rfl) rfl ?_
                refine .g rfl rfl rfl ?_
                refine .v (.ro rfl rfl (Try.call16 _) (sel1 .here) (len_tre _ hTA18)) rfl ?_
                refine .g rfl rfl rfl ?_
                refine .vF (.eq rfl rfl) rfl (by omega) ?_
                refine .g rfl rfl rfl ?_
                refine .v (.mv rfl) rfl ?_
                refine .gs rfl rfl rfl rfl ?_
                refine .gs rfl rfl rfl rfl ?_
                refine .g rfl rfl rfl ?_
                refine .v (.pkF rfl rfl) rfl ?_
                refine .v (.pkF rfl rfl) rfl ?_
                refine .v (.mv rfl) rfl ?_
                refine .g rfl rfl rfl ?_
                refine .v (.mv rfl) rfl ?_
                refine .g rfl rfl rfl ?_
                refine .v (.ro rfl rfl (Try.call16 _) (sel1 .here) (len_tre _ hTA18)) rfl ?_
                refine .g rfl rfl rfl ?_
                refine .vF (.eq rfl rfl) rfl (by omega) ?_
                refine .g rfl rfl rfl ?_
                refine .v (.mv rfl) rfl ?_
                refine .gs rfl rfl rfl rfl ?_
                refine .gs rfl rfl rfl rfl ?_
                refine .g rfl rfl rfl ?_
                refine .v (.pkF rfl rfl) rfl ?_
                refine .v (.pkF rfl rfl) rfl ?_
                refine .nil ?_
                refine .then ?_
                refine .condF rfl ?_
                refine .skip ?_
                refine .blk ?_
                refine .then ?_
                refine .region ?_
                refine .v (.mv rfl) rfl ?_
                refine .v (.add rfl rfl (by omega)) rfl ?_
                refine .v (.asn rfl) rfl ?_
                refine .nil ?_
                exact .again ⟨k + 1, _, m2⟩ ⟨by (try dsimp only); omega, by (try dsimp only); omega, hl2, hTA18.le (by (try dsimp only); omega)⟩ (by (try dsimp only); omega) (.cons rfl rfl (.cons rfl rfl (.cons rfl rfl (.cons rfl rfl .nil)))) (subl (.cons_cons _ (.cons_cons _ .slnil)))
              · skip
                refine .v (.mv rfl) rfl ?_
                refine .gs rfl rfl rfl rfl ?_
                refine .gs rfl rfl rfl rfl ?_
                refine .gs rfl rfl rfl rfl ?_
                refine .gs rfl rfl rfl rfl ?_
                refine .gs rfl rfl rfl rfl ?_
                refine .v (.pkF rfl rfl) rfl ?_
                refine .v (.mv rfl) rfl ?_
                refine .g rfl rfl rfl ?_
                refine .v (.mv rfl) rfl ?_
                refine .g rfl rfl rfl ?_
                refine .v (.ro rfl rfl (Try.call16 _) (sel1 .here) (len_tre _ hTA18)) rfl ?_
                refine .g rfl rfl rfl ?_
                refine .vs (.eq rfl rfl) rfl (fun h66_20 => ?_) (fun h66_20 => ?_)
                · skip
                  refine .g rfl rfl rfl ?_
                  refine .v (.mv rfl) rfl ?_
                  refine .g rfl rfl rfl ?_
                  refine .v (.mv rfl) rfl ?_
                  refine .g rfl rfl rfl ?_
                  refine .vF (.ne rfl rfl) rfl (by have h_ := hd11 (by omega); omega) ?_
                  refine .g rfl rfl rfl ?_
                  refine .v (.pkT rfl rfl) rfl ?_
                  refine .v (.pkF rfl rfl) rfl ?_
                  refine .v (.mv rfl) rfl ?_
                  refine .g rfl rfl rfl ?_
                  refine .v (.mv rfl) rfl ?_
                  refine .g rfl rfl rfl ?_
                  refine .v (.ro rfl rfl (Try.call16 _) (sel1 .here) (len_tre _ hTA18)) rfl ?_
                  refine .g rfl rfl rfl ?_
                  refine .vF (.eq rfl rfl) rfl (by omega) ?_
                  refine .g rfl rfl rfl ?_
                  refine .v (.mv rfl) rfl ?_
                  refine .gs rfl rfl rfl rfl ?_
                  refine .gs rfl rfl rfl rfl ?_
                  refine .g rfl rfl rfl ?_
                  refine .v (.pkF rfl rfl) rfl ?_
                  refine .v (.pkF rfl rfl) rfl ?_
                  refine .nil ?_
                  refine .then ?_
                  refine .condF rfl ?_
                  refine .skip ?_
                  refine .blk ?_
                  refine .then ?_
                  refine .region ?_
                  refine .v (.mv rfl) rfl ?_
                  refine .v (.add rfl rfl (by omega)) rfl ?_
                  refine .v (.asn rfl) rfl ?_
                  refine .nil ?_
                  exact .again ⟨k + 1, _, m2⟩ ⟨by (try dsimp only); omega, by (try dsimp only); omega, hl2, hTA18.le (by (try dsimp only); omega)⟩ (by (try dsimp only); omega) (.cons rfl rfl (.cons rfl rfl (.cons rfl rfl (.cons rfl rfl .nil)))) (subl (.cons_cons _ (.cons_cons _ .slnil)))
                · skip
                  refine .g rfl rfl rfl ?_
                  refine .v (.mv rfl) rfl ?_
                  refine .gs rfl rfl rfl rfl ?_
                  refine .gs rfl rfl rfl rfl ?_
                  refine .g rfl rfl rfl ?_
                  refine .v (.pkF rfl rfl) rfl ?_
                  refine .v (.pkF rfl rfl) rfl ?_
                  refine .v (.mv rfl) rfl ?_
                  refine .g rfl rfl rfl ?_
                  refine .v (.mv rfl) rfl ?_
                  refine .g rfl rfl rfl ?_
                  refine .v (.ro rfl rfl (Try.call16 _) (sel1 .here) (len_tre _ hTA18)) rfl ?_
                  refine .g rfl rfl rfl ?_
                  refine .vT (.eq rfl rfl) rfl (by omega) ?_
                  refine .g rfl rfl rfl ?_
                  refine .v (.mv rfl) rfl ?_
                  refine .g rfl rfl rfl ?_
                  refine .v (.mv rfl) rfl ?_
                  refine .g rfl rfl rfl ?_
                  refine .vF (.ne rfl rfl) rfl (by have h_ := hd0 (by omega); omega) ?_
                  refine .g rfl rfl rfl ?_
                  refine .v (.pkT rfl rfl) rfl ?_
                  refine .v (.pkF rfl rfl) rfl ?_
                  refine .nil ?_
                  refine .then ?_
                  refine .condF rfl ?_
                  refine .skip ?_
                  refine .blk ?_
                  refine .then ?_
                  refine .region ?_
                  refine .v (.mv rfl) rfl ?_
                  refine .v (.add rfl rfl (by omega)) rfl ?_
                  refine .v (.asn rfl) rfl ?_
                  refine .nil ?_
                  exact .again ⟨k + 1, _, m2⟩ ⟨by (try dsimp only); omega, by (try dsimp only); omega, hl2, hTA18.le (by (try dsimp only); omega)⟩ (by (try dsimp only); omega) (.cons rfl rfl (.cons rfl rfl (.cons rfl rfl (.cons rfl rfl .nil)))) (subl (.cons_cons _ (.cons_cons _ .slnil)))
          · skip
            refine .v (.pkT rfl rfl) rfl ?_
            refine .nil ?_
            refine .then ?_
            refine .condF rfl ?_
            refine .exit ?_
            refine .then_exit ?_
            refine .then_exit ?_
            refine .blk_exit ?_
            refine .then ?_
            refine .seq ?_
            refine .region ?_
            have hlen : ps.length ≤ 4400000000000 := by omega
            refine .v (.mv rfl) rfl ?_
            refine .v (.call rfl rfl (Try.call13 _) (fun G hle hG => load_no ps _ _ G (hS2.mono hle) hlen hs)) rfl ?_
            refine .v (.asn rfl) rfl ?_
            refine .nil ?_
            refine .then ?_
            refine .seq ?_
            refine .seq ?_
            refine .region ?_
            refine .v (.mv rfl) rfl ?_
            refine .vT (.eqpn Try.underlying28 rfl rfl) rfl rfl ?_
            refine .nil ?_
            refine .then ?_
            refine .condT rfl ?_
            refine .seq ?_
            refine .region ?_
            refine .v (.call rfl rfl (Try.call11 _) (fun G hle hG => awake_fn G)) rfl ?_
            refine .v (.asn rfl) rfl ?_
            refine .nil ?_
            refine .then ?_
            refine .ret ?_
            refine .then_ret ?_
            exact .done _ [] (.t1 rfl rfl) .rfl ⟨rfl, rfl⟩ (Inn.keep (.there .here))
        · skip
          refine .v (.mv rfl) rfl ?_
          refine .gs rfl rfl rfl rfl ?_
          refine .gs rfl rfl rfl rfl ?_
          refine .v (.pkF rfl rfl) rfl ?_
          refine .nil ?_
          refine .then ?_
          refine .condF rfl ?_
          refine .exit ?_
          refine .then_exit ?_
          refine .then_exit ?_
          refine .blk_exit ?_
          refine .then ?_
          refine .seq ?_
          refine .region ?_
          have hlen : ps.length ≤ 4400000000000 := by omega
          refine .v (.mv rfl) rfl ?_
          refine .v (.call rfl rfl (Try.call13 _) (fun G hle hG => load_no ps _ _ G (hS2.mono hle) hlen hs)) rfl ?_
          refine .v (.asn rfl) rfl ?_
          refine .nil ?_
          refine .then ?_
          refine .seq ?_
          refine .seq ?_
          refine .region ?_
          refine .v (.mv rfl) rfl ?_
          refine .vT (.eqpn Try.underlying28 rfl rfl) rfl rfl ?_
          refine .nil ?_
          refine .then ?_
          refine .condT rfl ?_
          refine .seq ?_
          refine .region ?_
          refine .v (.call rfl rfl (Try.call11 _) (fun G hle hG => awake_fn G)) rfl ?_
          refine .v (.asn rfl) rfl ?_
          refine .nil ?_
          refine .then ?_
          refine .ret ?_
          refine .then_ret ?_
          exact .done _ [] (.t1 rfl rfl) .rfl ⟨rfl, rfl⟩ (Inn.keep (.there .here))
  · skip
    refine .v (.not rfl) rfl ?_
    refine .v (.mv rfl) rfl ?_
    refine .gs rfl rfl rfl rfl ?_
    refine .gs rfl rfl rfl rfl ?_
    refine .gs rfl rfl rfl rfl ?_
    refine .v (.pkT rfl rfl) rfl ?_
    refine .nil ?_
    refine .then ?_
    refine .condT rfl ?_
    refine .seq ?_
    refine .region ?_
    refine .v (.call rfl rfl (Try.call11 _) (fun G hle hG => awake_fn G)) rfl ?_
    refine .v (.asn rfl) rfl ?_
    refine .nil ?_
    refine .then ?_
    refine .ret ?_
    refine .then_ret ?_
    exact .done _ [] (.t1 rfl rfl) .rfl ⟨rfl, rfl⟩ (Inn.keep .here)
theorem flat_yes (l : List Ac) (a : Option Addr) (c : Nat) (F : Mem) (hS : Sl F encA 5 a c l) (ps : List Pr) (a2 : Option Addr) (c2 : Nat) (hS2 : Sl F encP 2 a2 c2 ps) (hs : srt ps = true) : Fn Try.prog 4 #[.slice a l.length c, .slice a2 ps.length c2] [] F (fun u M _ => M = [] ∧ u = .bool true) := by
  have hm := hS.len
  have hm2_ := hS2.len
  refine Fn.start0 Try.func4 rfl Try.ntmps4 rfl (env := [(0, _), (1, _)]) rfl ?_
  intro R
  refine .seq ?_
  refine .region ?_
  refine .v (.asn rfl) rfl ?_
  refine .nil ?_
  refine .then ?_
  refine .seq ?_
  refine .seq ?_
  refine .region ?_
  refine .v (.mv rfl) rfl ?_
  refine .vb (.call rfl rfl (Try.call10 _) (fun G hle hG => few_fn l _ _ G (hS.mono hle) 200)) rfl (fun h10_1 => ?_) (fun h10_1 => ?_)
  · skip
    refine .v (.not rfl) rfl ?_
    refine .v (.mv rfl) rfl ?_
    refine .g rfl rfl rfl ?_
    refine .v (.mv rfl) rfl ?_
    refine .g rfl rfl rfl ?_
    refine .v (.lenl Try.underlying22 rfl) rfl ?_
    refine .g rfl rfl rfl ?_
    refine .vs (.gt rfl rfl) rfl (fun h15_2 => ?_) (fun h15_2 => ?_)
    · skip
      refine .v (.pkF rfl rfl) rfl ?_
      refine .nil ?_
      refine .then ?_
      refine .condT rfl ?_
      refine .seq ?_
      refine .region ?_
      refine .v (.call rfl rfl (Try.call11 _) (fun G hle hG => awake_fn G)) rfl ?_
      refine .v (.asn rfl) rfl ?_
      refine .nil ?_
      refine .then ?_
      refine .ret ?_
      refine .then_ret ?_
      exact .done _ [] (.t1 rfl rfl) .rfl ⟨rfl, rfl⟩ (Inn.keep .here)
    · skip
      refine .v (.pkF rfl rfl) rfl ?_
      refine .nil ?_
      refine .then ?_
      refine .condF rfl ?_
      refine .skip ?_
      refine .then ?_
      refine .seq ?_
      refine .region ?_
      refine .lend (.make rfl rfl (Try.call20 _) (fun G hle hG => (new_tre G).mono (fun v M H _ h_ => h_))) rfl ?_
      rintro _ itA ⟨bA, rfl, hTA⟩
      refine .v (.asn rfl) rfl ?_
      refine .nil ?_
      refine .then ?_
      refine .seq ?_
      refine .seq ?_
      refine .region ?_
      refine .v (.asn rfl) rfl ?_
      refine .nil ?_
      refine .then ?_
      refine .block ?_
      refine WC.loopx (fx := [(0, _), (1, _), (5, _)]) (pre := [_]) (fm := [_]) rfl (.cons rfl rfl (.cons rfl rfl (.cons rfl rfl .nil))) (ι := BkZ) (fun z => z.k ≤ l.length ∧ z.k ≤ 200 ∧ z.m.length ≤ z.k ∧ Tre bA z.m (1 + 1000 * z.k) z.it) (fun z => l.length - z.k) (fun z => [(6, .int .i64 (z.k : Int))]) (fun z => [z.it]) (fun _ => F) ⟨0, itA, []⟩ ⟨Nat.zero_le _, Nat.zero_le _, Nat.le_refl _, hTA⟩ ?he ?hm ?round
      case he => exact .cons rfl rfl (.cons rfl rfl (.cons rfl rfl (.cons rfl rfl .nil)))
      case hm => exact (fun _ h => h)
      case round =>
        intro z hk
        obtain ⟨k, itA, m⟩ := z
        obtain ⟨hk, hk2, hml, hTA⟩ := hk
        dsimp only [List.cons_append, List.nil_append] at hk hk2 hml hTA ⊢
        refine .seq ?_
        refine .seq ?_
        refine .region ?_
        refine .v (.mv rfl) rfl ?_
        refine .v (.mv rfl) rfl ?_
        refine .v (.lenl Try.underlying23 rfl) rfl ?_
        refine .vs (.lt rfl rfl) rfl (fun h22_3 => ?_) (fun h22_3 => ?_)
        · skip
          refine .v (.mv rfl) rfl ?_
          refine .g rfl rfl rfl ?_
          refine .v (.mv rfl) rfl ?_
          refine .g rfl rfl rfl ?_
          refine .vs (.lt rfl rfl) rfl (fun h25_4 => ?_) (fun h25_4 => ?_)
          · skip
            refine .v (.pkT rfl rfl) rfl ?_
            refine .nil ?_
            refine .then ?_
            refine .condT rfl ?_
            refine .skip ?_
            refine .then ?_
            refine .seq ?_
            refine .block ?_
            refine .seq ?_
            refine .seq ?_
            refine .region ?_
            obtain ⟨x, hx⟩ : ∃ y, l[k]? = some y := ⟨_, List.getElem?_eq_getElem (by omega)⟩
            refine .v (.mv rfl) rfl ?_
            refine .v (.mv rfl) rfl ?_
            refine .ix sl23 rfl rfl hS rfl x ⟨by omega, hx⟩ (fun p5 o6 r7 => ?_)
            refine .v (.fa0 fl37_0 rfl) rfl ?_
            refine .v (.ldr0 ty3 rfl r7 rfl) rfl ?_
            refine .v (.cvt rfl Try.underlying3 Try.underlying40) rfl ?_
            refine .v (.remk rfl rfl ⟨wrapu_nn _, by decide⟩) rfl ?_
            refine .vs (.lt rfl rfl) rfl (fun h36_8 => ?_) (fun h36_8 => ?_)
            · skip
              refine .nil ?_
              refine .then ?_
              refine .condT rfl ?_
              refine .region ?_
              refine .v (.mv rfl) rfl ?_
              refine .v (.mv rfl) rfl ?_
              refine .v (.mv rfl) rfl ?_
              refine .ix sl23 rfl rfl hS rfl x ⟨by omega, hx⟩ (fun p9 o10 r11 => ?_)
              refine .v (.fae fl37_2 rfl) rfl ?_
              refine .v (.ldr (j := 2) ty9 rfl r11 rfl) rfl ?_
              refine .lend (.lend rfl rfl (Try.call21 _) _ (fun _ => .here) (fun G hle hG => (put_tre G hTA _ _ (by omega) (by omega)).mono (fun v M H _ h_ => h_))) rfl ?_
              rintro _ itA12 ⟨hTA12, rfl⟩
              refine .nil ?_
              refine .then ?_
              refine .seq ?_
              refine .region ?_
              obtain ⟨m2, hm2⟩ : ∃ y, y = putS m x.key ⟨#[]⟩ := ⟨_, rfl⟩
              rw [← hm2] at hTA12
              have hl2 : m2.length ≤ k + 1 := by rw [hm2]; (have h_ := putS_len hTA.srt x.key ⟨#[]⟩; split at h_ <;> omega)
              obtain ⟨d, hd0, hd1, hdF⟩ := depth_tre hTA12 (by omega)
              have hdd := deep_ok (by omega) hd1
              have hd11 : m2.length = 1 → d = 1 := fun e_ => deep_one (by rw [e_] at hdd; exact hdd)
              refine .v (.mv rfl) rfl ?_
              refine .v (.ro rfl rfl (Try.call23 _) (sel1 .here) (hdF _)) rfl ?_
              refine .v (.asn rfl) rfl ?_
              refine .nil ?_
              refine .then ?_
              refine .seq ?_
              refine .region ?_
              refine .v (.mv rfl) rfl ?_
              refine .v (.ro rfl rfl (Try.call16 _) (sel1 .here) (len_tre _ hTA12)) rfl ?_
              refine .vs (.gt rfl rfl) rfl (fun h55_13 => ?_) (fun h55_13 => ?_)
              · skip
                refine .v (.mv rfl) rfl ?_
                refine .g rfl rfl rfl ?_
                refine .v (.mv rfl) rfl ?_
                refine .g rfl rfl rfl ?_
                refine .v (.ro rfl rfl (Try.call16 _) (sel1 .here) (len_tre _ hTA12)) rfl ?_
                refine .g rfl rfl rfl ?_
                refine .v (.mv rfl) rfl ?_
                refine .g rfl rfl rfl ?_
                refine .v (.call rfl rfl (Try.call24 _) (fun G hle hG => deep_fn m2.length d hd0 hdd G)) rfl ?_
                refine .g rfl rfl rfl ?_
                refine .v (.not rfl) rfl ?_
                refine .v (.pkT rfl rfl) rfl ?_
                refine .v (.mv rfl) rfl ?_
                refine .g rfl rfl rfl ?_
                refine .v (.mv rfl) rfl ?_
                refine .g rfl rfl rfl ?_
                refine .v (.ro rfl rfl (Try.call16 _) (sel1 .here) (len_tre _ hTA12)) rfl ?_
                refine .g rfl rfl rfl ?_
                refine .vF (.eq rfl rfl) rfl (by omega) ?_
                refine .g rfl rfl rfl ?_
                refine .v (.mv rfl) rfl ?_
                refine .gs rfl rfl rfl rfl ?_
                refine .gs rfl rfl rfl rfl ?_
                refine .g rfl rfl rfl ?_
                refine .v (.pkF rfl rfl) rfl ?_
                refine .v (.pkF rfl rfl) rfl ?_
                refine .v (.mv rfl) rfl ?_
                refine .g rfl rfl rfl ?_
                refine .v (.mv rfl) rfl ?_
                refine .g rfl rfl rfl ?_
                refine .v (.ro rfl rfl (Try.call16 _) (sel1 .here) (len_tre _ hTA12)) rfl ?_
                refine .g rfl rfl rfl ?_
                refine .vF (.eq rfl rfl) rfl (by omega) ?_
                refine .g rfl rfl rfl ?_
                refine .v (.mv rfl) rfl ?_
                refine .gs rfl rfl rfl rfl ?_
                refine .gs rfl rfl rfl rfl ?_
                refine .g rfl rfl rfl ?_
                refine .v (.pkF rfl rfl) rfl ?_
                refine .v (.pkF rfl rfl) rfl ?_
                refine .nil ?_
                refine .then ?_
                refine .condF rfl ?_
                refine .skip ?_
                refine .blk ?_
                refine .then ?_
                refine .region ?_
                refine .v (.mv rfl) rfl ?_
                refine .v (.add rfl rfl (by omega)) rfl ?_
                refine .v (.asn rfl) rfl ?_
                refine .nil ?_
                exact .again ⟨k + 1, _, m2⟩ ⟨by (try dsimp only); omega, by (try dsimp only); omega, hl2, hTA12.le (by (try dsimp only); omega)⟩ (by (try dsimp only); omega) (.cons rfl rfl (.cons rfl rfl (.cons rfl rfl (.cons rfl rfl .nil)))) (subl (.cons_cons _ (.cons_cons _ .slnil)))
              · skip
                refine .v (.mv rfl) rfl ?_
                refine .gs rfl rfl rfl rfl ?_
                refine .gs rfl rfl rfl rfl ?_
                refine .gs rfl rfl rfl rfl ?_
                refine .gs rfl rfl rfl rfl ?_
                refine .gs rfl rfl rfl rfl ?_
                refine .v (.pkF rfl rfl) rfl ?_
                refine .v (.mv rfl) rfl ?_
                refine .g rfl rfl rfl ?_
                refine .v (.mv rfl) rfl ?_
                refine .g rfl rfl rfl ?_
                refine .v (.ro rfl rfl (Try.call16 _) (sel1 .here) (len_tre _ hTA12)) rfl ?_
                refine .g rfl rfl rfl ?_
                refine .vs (.eq rfl rfl) rfl (fun h66_14 => ?_) (fun h66_14 => ?_)
                · skip
                  refine .g rfl rfl rfl ?_
                  refine .v (.mv rfl) rfl ?_
                  refine .g rfl rfl rfl ?_
                  refine .v (.mv rfl) rfl ?_
                  refine .g rfl rfl rfl ?_
                  refine .vF (.ne rfl rfl) rfl (by have h_ := hd11 (by omega); omega) ?_
                  refine .g rfl rfl rfl ?_
                  refine .v (.pkT rfl rfl) rfl ?_
                  refine .v (.pkF rfl rfl) rfl ?_
                  refine .v (.mv rfl) rfl ?_
                  refine .g rfl rfl rfl ?_
                  refine .v (.mv rfl) rfl ?_
                  refine .g rfl rfl rfl ?_
                  refine .v (.ro rfl rfl (Try.call16 _) (sel1 .here) (len_tre _ hTA12)) rfl ?_
                  refine .g rfl rfl rfl ?_
                  refine .vF (.eq rfl rfl) rfl (by omega) ?_
                  refine .g rfl rfl rfl ?_
                  refine .v (.mv rfl) rfl ?_
                  refine .gs rfl rfl rfl rfl ?_
                  refine .gs rfl rfl rfl rfl ?_
                  refine .g rfl rfl rfl ?_
                  refine .v (.pkF rfl rfl) rfl ?_
                  refine .v (.pkF rfl rfl) rfl ?_
                  refine .nil ?_
                  refine .then ?_
                  refine .condF rfl ?_
                  refine .skip ?_
                  refine .blk ?_
                  refine .then ?_
                  refine .region ?_
                  refine .v (.mv rfl) rfl ?_
                  refine .v (.add rfl rfl (by omega)) rfl ?_
                  refine .v (.asn rfl) rfl ?_
                  refine .nil ?_
                  exact .again ⟨k + 1, _, m2⟩ ⟨by (try dsimp only); omega, by (try dsimp only); omega, hl2, hTA12.le (by (try dsimp only); omega)⟩ (by (try dsimp only); omega) (.cons rfl rfl (.cons rfl rfl (.cons rfl rfl (.cons rfl rfl .nil)))) (subl (.cons_cons _ (.cons_cons _ .slnil)))
                · skip
                  refine .g rfl rfl rfl ?_
                  refine .v (.mv rfl) rfl ?_
                  refine .gs rfl rfl rfl rfl ?_
                  refine .gs rfl rfl rfl rfl ?_
                  refine .g rfl rfl rfl ?_
                  refine .v (.pkF rfl rfl) rfl ?_
                  refine .v (.pkF rfl rfl) rfl ?_
                  refine .v (.mv rfl) rfl ?_
                  refine .g rfl rfl rfl ?_
                  refine .v (.mv rfl) rfl ?_
                  refine .g rfl rfl rfl ?_
                  refine .v (.ro rfl rfl (Try.call16 _) (sel1 .here) (len_tre _ hTA12)) rfl ?_
                  refine .g rfl rfl rfl ?_
                  refine .vT (.eq rfl rfl) rfl (by omega) ?_
                  refine .g rfl rfl rfl ?_
                  refine .v (.mv rfl) rfl ?_
                  refine .g rfl rfl rfl ?_
                  refine .v (.mv rfl) rfl ?_
                  refine .g rfl rfl rfl ?_
                  refine .vF (.ne rfl rfl) rfl (by have h_ := hd0 (by omega); omega) ?_
                  refine .g rfl rfl rfl ?_
                  refine .v (.pkT rfl rfl) rfl ?_
                  refine .v (.pkF rfl rfl) rfl ?_
                  refine .nil ?_
                  refine .then ?_
                  refine .condF rfl ?_
                  refine .skip ?_
                  refine .blk ?_
                  refine .then ?_
                  refine .region ?_
                  refine .v (.mv rfl) rfl ?_
                  refine .v (.add rfl rfl (by omega)) rfl ?_
                  refine .v (.asn rfl) rfl ?_
                  refine .nil ?_
                  exact .again ⟨k + 1, _, m2⟩ ⟨by (try dsimp only); omega, by (try dsimp only); omega, hl2, hTA12.le (by (try dsimp only); omega)⟩ (by (try dsimp only); omega) (.cons rfl rfl (.cons rfl rfl (.cons rfl rfl (.cons rfl rfl .nil)))) (subl (.cons_cons _ (.cons_cons _ .slnil)))
            · skip
              refine .nil ?_
              refine .then ?_
              refine .condF rfl ?_
              refine .region ?_
              refine .v (.mv rfl) rfl ?_
              refine .v (.mv rfl) rfl ?_
              refine .v (.mv rfl) rfl ?_
              refine .ix sl23 rfl rfl hS rfl x ⟨by omega, hx⟩ (fun p15 o16 r17 => ?_)
              refine .v (.fae fl37_2 rfl) rfl ?_
              refine .v (.ldr (j := 2) ty9 rfl r17 rfl) rfl ?_
              refine .lend (.lend rfl rfl (Try.call22 _) _ (fun _ => .here) (fun G hle hG => (del_tre G hTA _ (by omega) (by omega)).mono (fun v M H _ h_ => h_))) rfl ?_
              rintro _ itA18 ⟨hTA18, rfl⟩
              refine .nil ?_
              refine .then ?_
              refine .seq ?_
              refine .region ?_
              obtain ⟨m2, hm2⟩ : ∃ y, y = delS m x.key := ⟨_, rfl⟩
              rw [← hm2] at hTA18
              have hl2 : m2.length ≤ k + 1 := by rw [hm2]; (have h_ := delS_len hTA.srt x.key; omega)
              obtain ⟨d, hd0, hd1, hdF⟩ := depth_tre hTA18 (by omega)
              have hdd := deep_ok (by omega) hd1
              have hd11 : m2.length = 1 → d = 1 := fun e_ => deep_one (by rw [e_] at hdd; exact hdd)
              refine .v (.mv rfl) rfl ?_
              refine .v (.ro rfl rfl (Try.call23 _) (sel1 .here) (hdF _)) rfl ?_
              refine .v (.asn rfl) rfl ?_
              refine .nil ?_
              refine .then ?_
              refine .seq ?_
              refine .region ?_
              refine .v (.mv rfl) rfl ?_
              refine .v (.ro rfl rfl (Try.call16 _) (sel1 .here) (len_tre _ hTA18)) rfl ?_
              refine .vs (.gt rfl rfl) rfl (fun h55_19 => ?_) (fun h55_19 => ?_)
              · skip
                refine .v (.mv rfl) rfl ?_
                refine .g rfl rfl rfl ?_
                refine .v (.mv rfl) rfl ?_
                refine .g rfl rfl rfl ?_
                refine .v (.ro rfl rfl (Try.call16 _) (sel1 .here) (len_tre _ hTA18)) rfl ?_
                refine .g rfl rfl rfl ?_
                refine .v (.mv rfl) rfl ?_
                refine .g rfl rfl rfl ?_
                refine .v (.call rfl rfl (Try.call24 _) (fun G hle hG => deep_fn m2.length d hd0 hdd G)) rfl ?_
                refine .g rfl rfl rfl ?_
                refine .v (.not rfl) rfl ?_
                refine .v (.pkT rfl rfl) rfl ?_
                refine .v (.mv rfl) rfl ?_
                refine .g rfl rfl rfl ?_
                refine .v (.mv rfl) rfl ?_
                refine .g rfl rfl rfl ?_
                refine .v (.ro rfl rfl (Try.call16 _) (sel1 .here) (len_tre _ hTA18)) rfl ?_
                refine .g rfl rfl rfl ?_
                refine .vF (.eq rfl rfl) rfl (by omega) ?_
                refine .g rfl rfl rfl ?_
                refine .v (.mv rfl) rfl ?_
                refine .gs rfl rfl rfl rfl ?_
                refine .gs rfl rfl rfl rfl ?_
                refine .g rfl rfl rfl ?_
                refine .v (.pkF rfl rfl) rfl ?_
                refine .v (.pkF rfl rfl) rfl ?_
                refine .v (.mv rfl) rfl ?_
                refine .g rfl rfl rfl ?_
                refine .v (.mv rfl) rfl ?_
                refine .g rfl rfl rfl ?_
                refine .v (.ro rfl rfl (Try.call16 _) (sel1 .here) (len_tre _ hTA18)) rfl ?_
                refine .g rfl rfl rfl ?_
                refine .vF (.eq rfl rfl) rfl (by omega) ?_
                refine .g rfl rfl rfl ?_
                refine .v (.mv rfl) rfl ?_
                refine .gs rfl rfl rfl rfl ?_
                refine .gs rfl rfl rfl rfl ?_
                refine .g rfl rfl rfl ?_
                refine .v (.pkF rfl rfl) rfl ?_
                refine .v (.pkF rfl rfl) rfl ?_
                refine .nil ?_
                refine .then ?_
                refine .condF rfl ?_
                refine .skip ?_
                refine .blk ?_
                refine .then ?_
                refine .region ?_
                refine .v (.mv rfl) rfl ?_
                refine .v (.add rfl rfl (by omega)) rfl ?_
                refine .v (.asn rfl) rfl ?_
                refine .nil ?_
                exact .again ⟨k + 1, _, m2⟩ ⟨by (try dsimp only); omega, by (try dsimp only); omega, hl2, hTA18.le (by (try dsimp only); omega)⟩ (by (try dsimp only); omega) (.cons rfl rfl (.cons rfl rfl (.cons rfl rfl (.cons rfl rfl .nil)))) (subl (.cons_cons _ (.cons_cons _ .slnil)))
              · skip
                refine .v (.mv rfl) rfl ?_
                refine .gs rfl rfl rfl rfl ?_
                refine .gs rfl rfl rfl rfl ?_
                refine .gs rfl rfl rfl rfl ?_
                refine .gs rfl rfl rfl rfl ?_
                refine .gs rfl rfl rfl rfl ?_
                refine .v (.pkF rfl rfl) rfl ?_
                refine .v (.mv rfl) rfl ?_
                refine .g rfl rfl rfl ?_
                refine .v (.mv rfl) rfl ?_
                refine .g rfl rfl rfl ?_
                refine .v (.ro rfl rfl (Try.call16 _) (sel1 .here) (len_tre _ hTA18)) rfl ?_
                refine .g rfl rfl rfl ?_
                refine .vs (.eq rfl rfl) rfl (fun h66_20 => ?_) (fun h66_20 => ?_)
                · skip
                  refine .g rfl rfl rfl ?_
                  refine .v (.mv rfl) rfl ?_
                  refine .g rfl rfl rfl ?_
                  refine .v (.mv rfl) rfl ?_
                  refine .g rfl rfl rfl ?_
                  refine .vF (.ne rfl rfl) rfl (by have h_ := hd11 (by omega); omega) ?_
                  refine .g rfl rfl rfl ?_
                  refine .v (.pkT rfl rfl) rfl ?_
                  refine .v (.pkF rfl rfl) rfl ?_
                  refine .v (.mv rfl) rfl ?_
                  refine .g rfl rfl rfl ?_
                  refine .v (.mv rfl) rfl ?_
                  refine .g rfl rfl rfl ?_
                  refine .v (.ro rfl rfl (Try.call16 _) (sel1 .here) (len_tre _ hTA18)) rfl ?_
                  refine .g rfl rfl rfl ?_
                  refine .vF (.eq rfl rfl) rfl (by omega) ?_
                  refine .g rfl rfl rfl ?_
                  refine .v (.mv rfl) rfl ?_
                  refine .gs rfl rfl rfl rfl ?_
                  refine .gs rfl rfl rfl rfl ?_
                  refine .g rfl rfl rfl ?_
                  refine .v (.pkF rfl rfl) rfl ?_
                  refine .v (.pkF rfl rfl) rfl ?_
                  refine .nil ?_
                  refine .then ?_
                  refine .condF rfl ?_
                  refine .skip ?_
                  refine .blk ?_
                  refine .then ?_
                  refine .region ?_
                  refine .v (.mv rfl) rfl ?_
                  refine .v (.add rfl rfl (by omega)) rfl ?_
                  refine .v (.asn rfl) rfl ?_
                  refine .nil ?_
                  exact .again ⟨k + 1, _, m2⟩ ⟨by (try dsimp only); omega, by (try dsimp only); omega, hl2, hTA18.le (by (try dsimp only); omega)⟩ (by (try dsimp only); omega) (.cons rfl rfl (.cons rfl rfl (.cons rfl rfl (.cons rfl rfl .nil)))) (subl (.cons_cons _ (.cons_cons _ .slnil)))
                · skip
                  refine .g rfl rfl rfl ?_
                  refine .v (.mv rfl) rfl ?_
                  refine .gs rfl rfl rfl rfl ?_
                  refine .gs rfl rfl rfl rfl ?_
                  refine .g rfl rfl rfl ?_
                  refine .v (.pkF rfl rfl) rfl ?_
                  refine .v (.pkF rfl rfl) rfl ?_
                  refine .v (.mv rfl) rfl ?_
                  refine .g rfl rfl rfl ?_
                  refine .v (.mv rfl) rfl ?_
                  refine .g rfl rfl rfl ?_
                  refine .v (.ro rfl rfl (Try.call16 _) (sel1 .here) (len_tre _ hTA18)) rfl ?_
                  refine .g rfl rfl rfl ?_
                  refine .vT (.eq rfl rfl) rfl (by omega) ?_
                  refine .g rfl rfl rfl ?_
                  refine .v (.mv rfl) rfl ?_
                  refine .g rfl rfl rfl ?_
                  refine .v (.mv rfl) rfl ?_
                  refine .g rfl rfl rfl ?_
                  refine .vF (.ne rfl rfl) rfl (by have h_ := hd0 (by omega); omega) ?_
                  refine .g rfl rfl rfl ?_
                  refine .v (.pkT rfl rfl) rfl ?_
                  refine .v (.pkF rfl rfl) rfl ?_
                  refine .nil ?_
                  refine .then ?_
                  refine .condF rfl ?_
                  refine .skip ?_
                  refine .blk ?_
                  refine .then ?_
                  refine .region ?_
                  refine .v (.mv rfl) rfl ?_
                  refine .v (.add rfl rfl (by omega)) rfl ?_
                  refine .v (.asn rfl) rfl ?_
                  refine .nil ?_
                  exact .again ⟨k + 1, _, m2⟩ ⟨by (try dsimp only); omega, by (try dsimp only); omega, hl2, hTA18.le (by (try dsimp only); omega)⟩ (by (try dsimp only); omega) (.cons rfl rfl (.cons rfl rfl (.cons rfl rfl (.cons rfl rfl .nil)))) (subl (.cons_cons _ (.cons_cons _ .slnil)))
          · skip
            refine .v (.pkT rfl rfl) rfl ?_
            refine .nil ?_
            refine .then ?_
            refine .condF rfl ?_
            refine .exit ?_
            refine .then_exit ?_
            refine .then_exit ?_
            refine .blk_exit ?_
            refine .then ?_
            refine .seq ?_
            refine .region ?_
            have hlen : ps.length ≤ 4400000000000 := by omega
            refine .v (.mv rfl) rfl ?_
            refine .lend (.make rfl rfl (Try.call13 _) (fun G hle hG => (load_yes ps _ _ G (hS2.mono hle) hlen hs).mono (fun v M H _ h_ => h_))) rfl ?_
            rintro _ itB ⟨bB, rfl, hTB⟩
            refine .v (.asn rfl) rfl ?_
            refine .nil ?_
            refine .then ?_
            refine .seq ?_
            refine .seq ?_
            refine .region ?_
            refine .v (.mv rfl) rfl ?_
            refine .vF (.eqpn Try.underlying28 rfl rfl) rfl (by simp) ?_
            refine .nil ?_
            refine .then ?_
            refine .condF rfl ?_
            refine .skip ?_
            refine .then ?_
            refine .seq ?_
            refine .region ?_
            obtain ⟨d, hd0, hd1, hdF⟩ := depth_tre hTB (by omega)
            have hdd := deep_ok (by omega) hd1
            refine .v (.mv rfl) rfl ?_
            refine .v (.ro rfl rfl (Try.call16 _) (sel1 .here) (len_tre _ hTB)) rfl ?_
            refine .vs (.lt rfl rfl) rfl (fun h88_21 => ?_) (fun h88_21 => ?_)
            · skip
              refine .v (.mv rfl) rfl ?_
              refine .gs rfl rfl rfl rfl ?_
              refine .gs rfl rfl rfl rfl ?_
              refine .gs rfl rfl rfl rfl ?_
              refine .gs rfl rfl rfl rfl ?_
              refine .gs rfl rfl rfl rfl ?_
              refine .v (.pkT rfl rfl) rfl ?_
              refine .v (.mv rfl) rfl ?_
              refine .g rfl rfl rfl ?_
              refine .v (.mv rfl) rfl ?_
              refine .g rfl rfl rfl ?_
              refine .v (.ro rfl rfl (Try.call16 _) (sel1 .here) (len_tre _ hTB)) rfl ?_
              refine .g rfl rfl rfl ?_
              refine .v (.mv rfl) rfl ?_
              refine .g rfl rfl rfl ?_
              refine .v (.lenl Try.underlying22 rfl) rfl ?_
              refine .g rfl rfl rfl ?_
              refine .vT (.eq rfl rfl) rfl (by omega) ?_
              refine .v (.pkT rfl rfl) rfl ?_
              refine .v (.mv rfl) rfl ?_
              refine .g rfl rfl rfl ?_
              refine .v (.call rfl rfl (Try.call11 _) (fun G hle hG => awake_fn G)) rfl ?_
              refine .v (.pkT rfl rfl) rfl ?_
              refine .v (.asn rfl) rfl ?_
              refine .nil ?_
              refine .then ?_
              refine .ret ?_
              exact .done _ [] (.t1 rfl rfl) .rfl ⟨rfl, rfl⟩ (Inn.keep (.there (.there .here)))
            · skip
              refine .v (.mv rfl) rfl ?_
              refine .g rfl rfl rfl ?_
              refine .v (.mv rfl) rfl ?_
              refine .g rfl rfl rfl ?_
              refine .v (.ro rfl rfl (Try.call16 _) (sel1 .here) (len_tre _ hTB)) rfl ?_
              refine .g rfl rfl rfl ?_
              refine .v (.mv rfl) rfl ?_
              refine .g rfl rfl rfl ?_
              refine .v (.ro rfl rfl (Try.call23 _) (sel1 .here) (hdF _)) rfl ?_
              refine .g rfl rfl rfl ?_
              refine .v (.call rfl rfl (Try.call24 _) (fun G hle hG => deep_fn ps.length d hd0 hdd G)) rfl ?_
              refine .v (.pkF rfl rfl) rfl ?_
              refine .v (.mv rfl) rfl ?_
              refine .g rfl rfl rfl ?_
              refine .v (.mv rfl) rfl ?_
              refine .g rfl rfl rfl ?_
              refine .v (.ro rfl rfl (Try.call16 _) (sel1 .here) (len_tre _ hTB)) rfl ?_
              refine .g rfl rfl rfl ?_
              refine .v (.mv rfl) rfl ?_
              refine .g rfl rfl rfl ?_
              refine .v (.lenl Try.underlying22 rfl) rfl ?_
              refine .g rfl rfl rfl ?_
              refine .vT (.eq rfl rfl) rfl (by omega) ?_
              refine .v (.pkT rfl rfl) rfl ?_
              refine .v (.mv rfl) rfl ?_
              refine .g rfl rfl rfl ?_
              refine .v (.call rfl rfl (Try.call11 _) (fun G hle hG => awake_fn G)) rfl ?_
              refine .v (.pkT rfl rfl) rfl ?_
              refine .v (.asn rfl) rfl ?_
              refine .nil ?_
              refine .then ?_
              refine .ret ?_
              exact .done _ [] (.t1 rfl rfl) .rfl ⟨rfl, rfl⟩ (Inn.keep (.there (.there .here)))
        · skip
          refine .v (.mv rfl) rfl ?_
          refine .gs rfl rfl rfl rfl ?_
          refine .gs rfl rfl rfl rfl ?_
          refine .v (.pkF rfl rfl) rfl ?_
          refine .nil ?_
          refine .then ?_
          refine .condF rfl ?_
          refine .exit ?_
          refine .then_exit ?_
          refine .then_exit ?_
          refine .blk_exit ?_
          refine .then ?_
          refine .seq ?_
          refine .region ?_
          have hlen : ps.length ≤ 4400000000000 := by omega
          refine .v (.mv rfl) rfl ?_
          refine .lend (.make rfl rfl (Try.call13 _) (fun G hle hG => (load_yes ps _ _ G (hS2.mono hle) hlen hs).mono (fun v M H _ h_ => h_))) rfl ?_
          rintro _ itB ⟨bB, rfl, hTB⟩
          refine .v (.asn rfl) rfl ?_
          refine .nil ?_
          refine .then ?_
          refine .seq ?_
          refine .seq ?_
          refine .region ?_
          refine .v (.mv rfl) rfl ?_
          refine .vF (.eqpn Try.underlying28 rfl rfl) rfl (by simp) ?_
          refine .nil ?_
          refine .then ?_
          refine .condF rfl ?_
          refine .skip ?_
          refine .then ?_
          refine .seq ?_
          refine .region ?_
          obtain ⟨d, hd0, hd1, hdF⟩ := depth_tre hTB (by omega)
          have hdd := deep_ok (by omega) hd1
          refine .v (.mv rfl) rfl ?_
          refine .v (.ro rfl rfl (Try.call16 _) (sel1 .here) (len_tre _ hTB)) rfl ?_
          refine .vs (.lt rfl rfl) rfl (fun h88_22 => ?_) (fun h88_22 => ?_)
          · skip
            refine .v (.mv rfl) rfl ?_
            refine .gs rfl rfl rfl rfl ?_
            refine .gs rfl rfl rfl rfl ?_
            refine .gs rfl rfl rfl rfl ?_
            refine .gs rfl rfl rfl rfl ?_
            refine .gs rfl rfl rfl rfl ?_
            refine .v (.pkT rfl rfl) rfl ?_
            refine .v (.mv rfl) rfl ?_
            refine .g rfl rfl rfl ?_
            refine .v (.mv rfl) rfl ?_
            refine .g rfl rfl rfl ?_
            refine .v (.ro rfl rfl (Try.call16 _) (sel1 .here) (len_tre _ hTB)) rfl ?_
            refine .g rfl rfl rfl ?_
            refine .v (.mv rfl) rfl ?_
            refine .g rfl rfl rfl ?_
            refine .v (.lenl Try.underlying22 rfl) rfl ?_
            refine .g rfl rfl rfl ?_
            refine .vT (.eq rfl rfl) rfl (by omega) ?_
            refine .v (.pkT rfl rfl) rfl ?_
            refine .v (.mv rfl) rfl ?_
            refine .g rfl rfl rfl ?_
            refine .v (.call rfl rfl (Try.call11 _) (fun G hle hG => awake_fn G)) rfl ?_
            refine .v (.pkT rfl rfl) rfl ?_
            refine .v (.asn rfl) rfl ?_
            refine .nil ?_
            refine .then ?_
            refine .ret ?_
            exact .done _ [] (.t1 rfl rfl) .rfl ⟨rfl, rfl⟩ (Inn.keep (.there (.there .here)))
          · skip
            refine .v (.mv rfl) rfl ?_
            refine .g rfl rfl rfl ?_
            refine .v (.mv rfl) rfl ?_
            refine .g rfl rfl rfl ?_
            refine .v (.ro rfl rfl (Try.call16 _) (sel1 .here) (len_tre _ hTB)) rfl ?_
            refine .g rfl rfl rfl ?_
            refine .v (.mv rfl) rfl ?_
            refine .g rfl rfl rfl ?_
            refine .v (.ro rfl rfl (Try.call23 _) (sel1 .here) (hdF _)) rfl ?_
            refine .g rfl rfl rfl ?_
            refine .v (.call rfl rfl (Try.call24 _) (fun G hle hG => deep_fn ps.length d hd0 hdd G)) rfl ?_
            refine .v (.pkF rfl rfl) rfl ?_
            refine .v (.mv rfl) rfl ?_
            refine .g rfl rfl rfl ?_
            refine .v (.mv rfl) rfl ?_
            refine .g rfl rfl rfl ?_
            refine .v (.ro rfl rfl (Try.call16 _) (sel1 .here) (len_tre _ hTB)) rfl ?_
            refine .g rfl rfl rfl ?_
            refine .v (.mv rfl) rfl ?_
            refine .g rfl rfl rfl ?_
            refine .v (.lenl Try.underlying22 rfl) rfl ?_
            refine .g rfl rfl rfl ?_
            refine .vT (.eq rfl rfl) rfl (by omega) ?_
            refine .v (.pkT rfl rfl) rfl ?_
            refine .v (.mv rfl) rfl ?_
            refine .g rfl rfl rfl ?_
            refine .v (.call rfl rfl (Try.call11 _) (fun G hle hG => awake_fn G)) rfl ?_
            refine .v (.pkT rfl rfl) rfl ?_
            refine .v (.asn rfl) rfl ?_
            refine .nil ?_
            refine .then ?_
            refine .ret ?_
            exact .done _ [] (.t1 rfl rfl) .rfl ⟨rfl, rfl⟩ (Inn.keep (.there (.there .here)))
  · skip
    refine .v (.not rfl) rfl ?_
    refine .v (.mv rfl) rfl ?_
    refine .gs rfl rfl rfl rfl ?_
    refine .gs rfl rfl rfl rfl ?_
    refine .gs rfl rfl rfl rfl ?_
    refine .v (.pkT rfl rfl) rfl ?_
    refine .nil ?_
    refine .then ?_
    refine .condT rfl ?_
    refine .seq ?_
    refine .region ?_
    refine .v (.call rfl rfl (Try.call11 _) (fun G hle hG => awake_fn G)) rfl ?_
    refine .v (.asn rfl) rfl ?_
    refine .nil ?_
    refine .then ?_
    refine .ret ?_
    refine .then_ret ?_
    exact .done _ [] (.t1 rfl rfl) .rfl ⟨rfl, rfl⟩ (Inn.keep .here)
theorem flat_fn (l : List Ac) (a : Option Addr) (c : Nat) (F : Mem) (hS : Sl F encA 5 a c l) (ps : List Pr) (a2 : Option Addr) (c2 : Nat) (hS2 : Sl F encP 2 a2 c2 ps) : Fn Try.prog 4 #[.slice a l.length c, .slice a2 ps.length c2] [] F (fun u M _ => M = [] ∧ u = .bool true) := by
  cases hs : srt ps with
  | false => exact flat_no l a c F hS ps a2 c2 hS2 hs
  | true => exact flat_yes l a c F hS ps a2 c2 hS2 hs
end Go.Proofs.Ytbmpdccoffkjgaa.Ow
