/- Walks. -/
import Derived.Test.YtbmpdccoffkjgaaBf
import Derived.Test.YtbmpdccoffkjgaaBtq
namespace Go.Proofs.Ytbmpdccoffkjgaa.Ow
open Go
set_option linter.unusedVariables false
theorem len_fn (b : Nat) (T : TS) (it : Itm) (F : Mem) (hT : Lies b T it) : Fn Try.prog 16 #[.pointer (some ⟨b, 0, none⟩)] [it] F (fun v M G => M = [it] ∧ G = F ∧ v = .int .i64 (T.count : Int)) := by
  obtain ⟨pn, na, nc, nit, fa, fc, fit, hP⟩ := hT
  obtain ⟨hrn, hrf, hok, hnd, rfl⟩ := hP
  have hln : pn.length = T.nodes.length := by rw [← hnd, List.length_map]
  have hmx := hrn.max
  have hcp := hrn.cap
  have hfm := hrf.max
  have hfcp := hrf.cap
  refine Fn.start1 Try.func16 rfl Try.ntmps16 rfl (env := [(0, _)]) rfl ?_
  intro R
  refine .items (L' := [[⟨b, 60, _⟩], nit, fit, own pn, R]) (fun w ho => by simpa [List.append_assoc] using ho) ?_
  refine .seq ?_
  refine .region ?_
  refine .v (.asn rfl) rfl ?_
  refine .nil ?_
  refine .then ?_
  refine .seq ?_
  refine .seq ?_
  refine .region ?_
  refine .v (.mv rfl) rfl ?_
  refine .vF (.eqpn Try.underlying28 rfl rfl) rfl (by simp) ?_
  refine .nil ?_
  refine .then ?_
  refine .condF rfl ?_
  refine .skip ?_
  refine .then ?_
  refine .seq ?_
  refine .region ?_
  refine .v (.mv rfl) rfl ?_
  refine .v (.nilc rfl) rfl ?_
  refine .v (.fab fl60_3 rfl) rfl ?_
  refine .v (.ldb ty3 rfl .here rfl) rfl ?_
  refine .v (.asn rfl) rfl ?_
  refine .nil ?_
  refine .then ?_
  refine .ret ?_
  refine .front (.there (.there (.there .here))) ?_
  refine .front (.there (.there (.there .here))) ?_
  refine .front (.there (.there (.there .here))) ?_
  refine .front (.there (.there (.there .here))) ?_
  exact .done _ [_] (.t1 rfl rfl) .rfl ⟨rfl, rfl, rfl⟩ (fun w ho => by simpa [List.append_assoc] using (subl (.cons_cons _ (.cons_cons _ (.cons_cons _ (.cons_cons _ (.cons_cons _ .slnil))))) w ho))
theorem get_fn (b : Nat) (T : TS) (it : Itm) (F : Mem) (hT : Lies b T it) (h : Nat) (t : Tr) (hlay : Lay T.nodes h t) (hsz : Siz h 0 t) (hs : Srt (flat h t)) (hrt : T.root = t.i) (k : ByteArray) : Fn Try.prog 25 #[.pointer (some ⟨b, 0, none⟩), .string k] [it] F (fun v M G => M = [it] ∧ G = F ∧ v = .tuple #[.string ((getS (flat h t) k).getD ⟨#[]⟩), .bool (hasK (flat h t) k)]) := by
  obtain ⟨pn, na, nc, nit, fa, fc, fit, hP⟩ := hT
  obtain ⟨hrn, hrf, hok, hnd, rfl⟩ := hP
  have hln : pn.length = T.nodes.length := by rw [← hnd, List.length_map]
  have hmx := hrn.max
  have hcp := hrn.cap
  have hfm := hrf.max
  have hfcp := hrf.cap
  have hne : 0 < T.nodes.length := Nat.lt_of_le_of_lt (Nat.zero_le _) (List.getElem?_eq_some_iff.1 hlay.at).1
  obtain ⟨nb, npad, rfl, rfl, hnp⟩ := hrn.blk (by omega)
  refine Fn.start1 Try.func25 rfl Try.ntmps25 rfl (env := [(0, _), (1, _)]) rfl ?_
  intro R
  refine .items (L' := [[⟨b, 60, _⟩], [⟨nb, 68, _⟩], fit, own pn, R]) (fun w ho => by simpa [List.append_assoc] using ho) ?_
  refine .seq ?_
  refine .region ?_
  refine .v (.asn rfl) rfl ?_
  refine .v (.asn rfl) rfl ?_
  refine .nil ?_
  refine .then ?_
  refine .seq ?_
  refine .seq ?_
  refine .region ?_
  refine .v (.mv rfl) rfl ?_
  refine .vF (.eqpn Try.underlying28 rfl rfl) rfl (by simp) ?_
  refine .nil ?_
  refine .then ?_
  refine .condF rfl ?_
  refine .skip ?_
  refine .then ?_
  refine .seq ?_
  refine .region ?_
  refine .v (.mv rfl) rfl ?_
  refine .v (.nilc rfl) rfl ?_
  refine .v (.fab fl60_2 rfl) rfl ?_
  refine .v (.ldb ty3 rfl .here rfl) rfl ?_
  refine .v (.asn rfl) rfl ?_
  refine .nil ?_
  refine .then ?_
  refine .block ?_
  refine WC.loop0 (fx := [(0, _), (1, _)]) (.cons rfl rfl (.cons rfl rfl .nil)) (ι := Nat × Tr) (fun z => Lay T.nodes z.1 z.2 ∧ Siz z.1 0 z.2 ∧ Srt (flat z.1 z.2) ∧ getS (flat z.1 z.2) k = getS (flat h t) k ∧ hasK (flat z.1 z.2) k = hasK (flat h t) k) (fun z => z.1) (fun z => [(6, .int .i64 (z.2.i : Int))]) (h, t) ⟨hlay, hsz, hs, rfl, rfl⟩ ?he ?round
  case he => exact .cons rfl (by rw [hrt]) (.cons rfl rfl (.cons rfl rfl .nil))
  case round =>
    intro z hk
    obtain ⟨h1, t1⟩ := z
    obtain ⟨hl1, hz1, hs1, hg1, hh1⟩ := hk
    dsimp only at hl1 hz1 hs1 hg1 hh1 ⊢
    have hle1 := hz1.le
    obtain ⟨xn, kn, hatn, hxn0, hkn0⟩ : ∃ x k, T.nodes[t1.i]? = some ⟨x, k⟩ ∧ x = t1.ps ∧ k = t1.ks.map Tr.i := ⟨_, _, hl1.at, rfl, rfl⟩
    have hibn := (List.getElem?_eq_some_iff.1 hatn).1
    obtain ⟨nn, hn, en⟩ := nd_get hnd hatn
    have hon := get_ok hok hn
    obtain ⟨⟨xn', apn, cpn, ipn⟩, ⟨kn', akn, ckn, ikn⟩⟩ := nn
    obtain ⟨rfl, rfl⟩ : xn' = xn ∧ kn' = kn := by simpa [PN.nd] using en
    have hpn : Row 47 encP 2 apn cpn xn' ipn := hon.p
    have hkn : Row 3 encK 1 akn ckn kn' ikn := hon.k
    have hsn : Srt xn' := by rw [hxn0]; exact hs1.sub (flat_ps hl1)
    have hlx : xn'.length ≤ 5 := by rw [hxn0]; exact hle1
    refine .block ?_
    refine .seq ?_
    refine .region ?_
    refine .v (.mv rfl) rfl ?_
    refine .v (.nilc rfl) rfl ?_
    refine .v (.fa0 fl60_0 rfl) rfl ?_
    refine .v (.ldb ty57 rfl .here rfl) rfl ?_
    refine .v (.mv rfl) rfl ?_
    refine .v (.ixo sl57 rfl rfl (t1.i) ⟨rfl, by have h_ := (List.getElem?_eq_some_iff.1 hn).1; omega⟩) rfl ?_
    refine .v (.ldm [.slice (apn) (xn').length (cpn), .slice (akn) (kn').length (ckn)] ty68 rfl (.there .here) rfl (fun j_ v_ hj_ => encN_ok.get pn t1.i _ hn npad j_ v_ hj_)) rfl ?_
    refine .nb (.alloc ty68 rfl) rfl (fun b1 => ?_)
    refine .st (.stw ty68 rfl rfl rfl rfl rfl .here) ?_
    refine .nil ?_
    refine .then ?_
    refine .seq ?_
    refine .region ?_
    refine .v (.ldw ty68 rfl .here rfl) rfl ?_
    refine .v (.mv rfl) rfl ?_
    refine .v (.call rfl rfl (Try.call36 _) (fun G hle hG => find_fn xn' _ _ G (hpn.sl encP_ok (fun b_ hb_ => hG b_ (Inn.mem (.there (.there (.there (.there (.part (sub_p hn)))))) b_ hb_))) hsn k (by omega) _ _ _)) rfl ?_
    refine .v (.mv rfl) rfl ?_
    refine .v (.ext rfl rfl) rfl ?_
    refine .v (.ext rfl rfl) rfl ?_
    refine .v (.asn rfl) rfl ?_
    refine .v (.asn rfl) rfl ?_
    refine .nil ?_
    refine .then ?_
    refine .seq ?_
    refine .seq ?_
    refine .region ?_
    refine .v (.mv rfl) rfl ?_
    refine .nil ?_
    refine .then ?_
    refine .cs (t := 29) rfl (fun c29_2 => ?_) (fun c29_2 => ?_)
    · skip
      refine .condT rfl ?_
      refine .seq ?_
      refine .region ?_
      have c29 := c29_2
      obtain ⟨p, hpx, hpk⟩ := hasK_get hsn c29
      have hpl := (List.getElem?_eq_some_iff.1 hpx).1
      obtain ⟨bpn, dpn, rfl, rfl, hdpn⟩ := hpn.blk (by omega)
      refine .v (.fa0 fl68_0 rfl) rfl ?_
      refine .v (.ldb ty22 rfl .here rfl) rfl ?_
      refine .v (.mv rfl) rfl ?_
      refine .v (.ixo sl22 rfl rfl (posK xn' k) ⟨rfl, by have h_ := (List.getElem?_eq_some_iff.1 hpx).1; omega⟩) rfl ?_
      refine .v (.fae fl47_1 rfl) rfl ?_
      refine .v (.ldb ty9 rfl (.there (.there (.there (.there (.part (sub_p hn)))))) (encP_ok.get xn' (posK xn' k) _ hpx dpn 1 _ rfl)) rfl ?_
      refine .v (.asn rfl) rfl ?_
      refine .v (.asn rfl) rfl ?_
      refine .nil ?_
      refine .then ?_
      refine .ret ?_
      refine .then_ret ?_
      refine .blk_ret ?_
      refine .then_ret ?_
      refine .blk_ret ?_
      refine .front (.there (.there (.there (.there .here)))) ?_
      refine .front (.there (.there (.there (.there .here)))) ?_
      refine .front (.there (.there (.there (.there .here)))) ?_
      refine .front (.there (.there (.there (.there .here)))) ?_
      exact .done _ [_] (.t2 rfl rfl rfl) .rfl ⟨rfl, rfl, (by rw [← hg1, ← hh1, (getS_hit hs1 ((flat_ps hl1).subset (hxn0 ▸ List.mem_of_getElem? hpx)) hpk).1, (getS_hit hs1 ((flat_ps hl1).subset (hxn0 ▸ List.mem_of_getElem? hpx)) hpk).2]; rfl)⟩ (fun w ho => by simpa [List.append_assoc] using (subl (.cons_cons _ (.cons_cons _ (.cons_cons _ (.cons_cons _ (.cons _ (.cons_cons _ .slnil)))))) w ho))
    · skip
      refine .condF rfl ?_
      refine .skip ?_
      refine .then ?_
      refine .seq ?_
      refine .seq ?_
      refine .region ?_
      refine .v (.ldw ty68 rfl .here rfl) rfl ?_
      refine .vs (.call rfl rfl (Try.call37 _) (fun G hle hG => leaf_fn _ _ _ _ _ _ G)) rfl (fun h37_3 => ?_) (fun h37_3 => ?_)
      · skip
        refine .nil ?_
        refine .then ?_
        refine .condT rfl ?_
        refine .seq ?_
        refine .region ?_
        refine .v (.asn rfl) rfl ?_
        refine .v (.asn rfl) rfl ?_
        refine .nil ?_
        refine .then ?_
        refine .ret ?_
        refine .then_ret ?_
        refine .blk_ret ?_
        refine .then_ret ?_
        refine .blk_ret ?_
        refine .front (.there (.there (.there (.there .here)))) ?_
        refine .front (.there (.there (.there (.there .here)))) ?_
        refine .front (.there (.there (.there (.there .here)))) ?_
        refine .front (.there (.there (.there (.there .here)))) ?_
        exact .done _ [_] (.t2 rfl rfl rfl) .rfl ⟨rfl, rfl, (by cases h1 with | zero => (have hn0 : hasK (flat 0 t1) k = false := (by show hasK t1.ps k = false; rw [← hxn0]; exact c29_2); rw [← hg1, ← hh1, getS_none hn0, hn0]; rfl) | succ h2 => (have := hl1.1; rw [hkn0, List.length_map] at h37_3; omega))⟩ (fun w ho => by simpa [List.append_assoc] using (subl (.cons_cons _ (.cons_cons _ (.cons_cons _ (.cons_cons _ (.cons _ (.cons_cons _ .slnil)))))) w ho))
      · skip
        refine .nil ?_
        refine .then ?_
        refine .condF rfl ?_
        refine .skip ?_
        refine .then ?_
        refine .region ?_
        have c29 := c29_2
        obtain ⟨h2, rfl⟩ : ∃ h2, h1 = h2 + 1 := by cases h1 with | zero => (exact absurd (by rw [hkn0, hl1.1]; rfl) h37_3) | succ h2 => exact ⟨h2, rfl⟩
        have hq0 : hasK t1.ps k = false := by rw [← hxn0]; exact c29
        obtain ⟨c, hc, hcg, hch⟩ := get_down hl1 hs1 hq0
        have hcm := List.mem_of_getElem? hc
        have hkc : kn'[posK xn' k]? = some c.i := by rw [hkn0, hxn0, List.getElem?_map, hc]; rfl
        have hkl := (List.getElem?_eq_some_iff.1 hkc).1
        obtain ⟨bkn, dkn, rfl, rfl, hdkn⟩ := hkn.blk (by omega)
        refine .v (.fab fl68_1 rfl) rfl ?_
        refine .v (.ldb ty58 rfl .here rfl) rfl ?_
        refine .v (.mv rfl) rfl ?_
        refine .v (.ixo sl58 rfl rfl (posK xn' k) ⟨rfl, by have h_ := (List.getElem?_eq_some_iff.1 hkc).1; omega⟩) rfl ?_
        refine .v (.ldb ty3 rfl (.there (.there (.there (.there (.part (sub_k hn)))))) (encK_ok.get kn' (posK xn' k) _ hkc dkn 0 _ rfl)) rfl ?_
        refine .v (.asn rfl) rfl ?_
        refine .nil ?_
        refine .blk ?_
        exact .again (h2, c) ⟨hl1.2.2 c hcm, (hz1.2.2 c hcm).mono (Nat.zero_le _), hs1.sub (flat_kid hl1 hcm), hcg.symm.trans hg1, hch.symm.trans hh1⟩ (by (try dsimp only); omega) (.cons rfl rfl (.cons rfl rfl (.cons rfl rfl .nil))) (subl (.cons _ (.refl _)))
end Go.Proofs.Ytbmpdccoffkjgaa.Ow
