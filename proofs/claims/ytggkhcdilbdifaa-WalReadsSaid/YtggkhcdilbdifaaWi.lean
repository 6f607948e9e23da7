/- Walks. -/
import Derived.Test.YtggkhcdilbdifaaWh
import Derived.Test.YtggkhcdilbdifaaWpl
namespace Go.Proofs.Ytggkhcdilbdifaa.Ow
open Go Go.Proofs.Ytggkhcdilbdifaa.Rec
set_option linter.unusedVariables false
theorem awake_put1 : putD (cdisk []) ⟨#[97]⟩ = (cdisk [[⟨#[97]⟩]], 1, 0) ∧ right (cdisk [[⟨#[97]⟩]]) = true ∧ ∃ l, putD (cdisk [[⟨#[97]⟩]]) ⟨#[98]⟩ = (cdisk l, 2, 0) ∧ GoodS l ∧ l.flatten = [⟨#[97]⟩, ⟨#[98]⟩] ∧ tot (mkF 1 l) = 20 := by
  have h0 : GoodS [] := fun x hx => by cases hx
  have s1 : (⟨#[97]⟩ : ByteArray).size = 1 := rfl
  have s2 : (⟨#[98]⟩ : ByteArray).size = 1 := rfl
  have t0 : tot (mkF 1 []) = 0 := rfl
  obtain ⟨l1, h1, h2, h3, h4⟩ := put_chain (b := ⟨#[97]⟩) h0 (by decide) (by omega) (by omega)
  have e1 : l1 = [[⟨#[97]⟩]] := by
    match l1, h2, h3 with
    | [], _, h => cases h
    | [] :: r, h2, _ => exact absurd rfl (h2 [] (List.mem_cons_self ..)).1
    | [x] :: r, h2, h => 
      simp at h
      obtain ⟨rfl, hr⟩ := h
      cases r with
      | nil => rfl
      | cons y r => exact absurd (hr y (List.mem_cons_self ..)) (h2 y (by simp)).1
    | (x :: y :: z) :: r, _, h => simp at h
  subst e1
  obtain ⟨l2, g1, g2, g3, g4⟩ := put_chain (b := ⟨#[98]⟩) h2 (by decide) (by omega) (by omega)
  exact ⟨h1, cdisk_right h2 (by decide) (by omega), l2, g1, g2, g3, by omega⟩
theorem awake_from {l : List (List ByteArray)} (h : GoodS l) (hf : l.flatten = [⟨#[97]⟩, ⟨#[98]⟩]) (ht : tot (mkF 1 l) = 20) : fromD (cdisk l) 2 = ([⟨#[98]⟩], 0) := by
  have hr := cdisk_right h (by rw [hf]; decide) (by omega)
  obtain ⟨h1, h2⟩ := cdisk_log h (by rw [hf]; decide)
  have hc := sgs_flat (a := 1) h
  rcases log_ref (cdisk l) with ⟨e, _, _⟩ | ⟨_, h3, h4, h5⟩
  · rw [h1] at e; rw [e, hf] at hc; cases hc
  · rw [h1, hc, hf] at h4
    have hfi : firstL (sgs 1 l) = 1 := by rw [h2, hf] at h4; simp at h4; omega
    rw [fromD, if_pos (logE_ok hr rfl), h1, hfi, h2, hf, if_neg (by decide)]
    have := h5 2 (by rw [h1, hfi]; decide)
    rw [h1, hc, hf, hfi] at this
    rw [this]; rfl
theorem cdisk_nil : (⟨[], 0, false, false⟩ : Dk) = cdisk [] := rfl
theorem awake_fn (F : Mem) : Fn Try.prog 8 #[] [] F (fun v M G => M = [] ∧ v = .bool true) := by
  refine Fn.start0 Try.func8 rfl Try.ntmps8 rfl (env := []) rfl ?_
  intro R
  refine .seq ?_
  refine .region ?_
  refine .v (.asn rfl) rfl ?_
  refine .nil ?_
  refine .then ?_
  refine .seq ?_
  refine .region ?_
  refine .v (.build rfl (fun w => bd24_ w)) rfl ?_
  obtain ⟨hp1, hr1, l2, hp2, hg2, hf2, ht2⟩ := awake_put1
  refine .cf rfl rfl (Try.call16 _) (wput_fn (cdisk []) none 0 F .nil (by decide) (by decide) ⟨#[97]⟩ (by decide)) rfl ?_
  rw [hp1]
  rintro _ G1 le2 ⟨a1, c1, rfl, hS1⟩
  have hF := le2
  refine .v (.mv rfl) rfl ?_
  refine .v (.ext rfl rfl) rfl ?_
  refine .v (.ext rfl rfl) rfl ?_
  refine .v (.ext rfl rfl) rfl ?_
  refine .nb (.alloc ty24 rfl) rfl (fun b3 => ?_)
  refine .st (.stw ty24 rfl rfl rfl rfl rfl .here) ?_
  refine .v (.asn rfl) rfl ?_
  refine .v (.asn rfl) rfl ?_
  refine .nil ?_
  refine .then ?_
  refine .seq ?_
  refine .region ?_
  refine .v (.ldw ty24 rfl .here rfl) rfl ?_
  refine .cf rfl rfl (Try.call16 _) (wput_fn (cdisk [[⟨#[97]⟩]]) a1 c1 _ hS1 (right_tot hr1) (right_hn hr1) ⟨#[98]⟩ (by decide)) rfl ?_
  rw [hp2]
  rintro _ G4 le5 ⟨a2, c2, rfl, hS2⟩
  replace hF := hF.trans le5
  refine .v (.mv rfl) rfl ?_
  refine .v (.ext rfl rfl) rfl ?_
  refine .v (.ext rfl rfl) rfl ?_
  refine .v (.ext rfl rfl) rfl ?_
  refine .st (.stw ty24 rfl rfl rfl rfl rfl .here) ?_
  refine .v (.asn rfl) rfl ?_
  refine .v (.asn rfl) rfl ?_
  refine .nil ?_
  refine .then ?_
  refine .seq ?_
  refine .region ?_
  have hr2 : right (cdisk l2) = true := cdisk_right hg2 (by rw [hf2]; decide) (by omega)
  refine .v (.ldw ty24 rfl .here rfl) rfl ?_
  refine .cf rfl rfl (Try.call10 _) (from_fn (cdisk l2) a2 c2 _ hS2 (right_tot hr2) (right_hn hr2) 2) rfl ?_
  rw [awake_from hg2 hf2 ht2]
  rintro _ G6 le7 ⟨a3, c3, rfl, hS3⟩
  replace hF := hF.trans le7
  refine .v (.mv rfl) rfl ?_
  refine .v (.ext rfl rfl) rfl ?_
  refine .v (.ext rfl rfl) rfl ?_
  refine .v (.asn rfl) rfl ?_
  refine .v (.asn rfl) rfl ?_
  refine .nil ?_
  refine .then ?_
  refine .seq ?_
  refine .region ?_
  refine .v (.mv rfl) rfl ?_
  refine .vT (.eq rfl rfl) rfl rfl ?_
  refine .v (.mv rfl) rfl ?_
  refine .g rfl rfl rfl ?_
  refine .v (.mv rfl) rfl ?_
  refine .g rfl rfl rfl ?_
  refine .vT (.eq rfl rfl) rfl rfl ?_
  refine .v (.pkT rfl rfl) rfl ?_
  refine .v (.mv rfl) rfl ?_
  refine .g rfl rfl rfl ?_
  refine .v (.mv rfl) rfl ?_
  refine .g rfl rfl rfl ?_
  refine .vT (.eq rfl rfl) rfl rfl ?_
  refine .v (.pkT rfl rfl) rfl ?_
  refine .v (.mv rfl) rfl ?_
  refine .g rfl rfl rfl ?_
  refine .v (.mv rfl) rfl ?_
  refine .g rfl rfl rfl ?_
  refine .vT (.eq rfl rfl) rfl rfl ?_
  refine .v (.pkT rfl rfl) rfl ?_
  refine .v (.mv rfl) rfl ?_
  refine .g rfl rfl rfl ?_
  refine .v (.mv rfl) rfl ?_
  refine .g rfl rfl rfl ?_
  refine .v (.lenl Try.underlying34 rfl) rfl ?_
  refine .g rfl rfl rfl ?_
  refine .vT (.eq rfl rfl) rfl rfl ?_
  refine .v (.pkT rfl rfl) rfl ?_
  refine .v (.mv rfl) rfl ?_
  refine .g rfl rfl rfl ?_
  refine .v (.mv rfl) rfl ?_
  refine .g rfl rfl rfl ?_
  refine .ix sl34 rfl rfl hS3 rfl (⟨#[98]⟩ : ByteArray) ⟨by decide, rfl⟩ (fun p8 o9 r10 => ?_)
  refine .g rfl rfl rfl ?_
  refine .v (.ldr0 ty9 rfl r10 rfl) rfl ?_
  refine .g rfl rfl rfl ?_
  refine .vT (.eqs rfl rfl) rfl rfl ?_
  refine .v (.pkT rfl rfl) rfl ?_
  refine .v (.mv rfl) rfl ?_
  refine .g rfl rfl rfl ?_
  refine .v (.mv rfl) rfl ?_
  refine .g rfl rfl rfl ?_
  refine .vT (.eq rfl rfl) rfl rfl ?_
  refine .v (.pkT rfl rfl) rfl ?_
  refine .v (.asn rfl) rfl ?_
  refine .nil ?_
  refine .then ?_
  refine .ret ?_
  exact .done _ [] (.t1 rfl rfl) hF ⟨rfl, rfl⟩ (Inn.keep (.there .here))
end Go.Proofs.Ytggkhcdilbdifaa.Ow
