/- Walks. -/
import Derived.Test.YtbmpdccoffkjgaaBg
import Derived.Test.YtbmpdccoffkjgaaBtu
namespace Go.Proofs.Ytbmpdccoffkjgaa.Ow
open Go
set_option linter.unusedVariables false
theorem depth_fn (b : Nat) (T : TS) (it : Itm) (F : Mem) (hT : Lies b T it) (h : Nat) (t : Tr) (hlay : Lay T.nodes h t) (hrt : T.root = t.i) (hh : h ≤ 1000) : Fn Try.prog 23 #[.pointer (some ⟨b, 0, none⟩)] [it] F (fun v M G => M = [it] ∧ G = F ∧ v = .int .i64 (if T.count = 0 then 0 else ((h + 1 : Nat) : Int))) := by
  obtain ⟨pn, na, nc, nit, fa, fc, fit, hP⟩ := hT
  obtain ⟨hrn, hrf, hok, hnd, rfl⟩ := hP
  have hln : pn.length = T.nodes.length := by rw [← hnd, List.length_map]
  have hmx := hrn.max
  have hcp := hrn.cap
  have hfm := hrf.max
  have hfcp := hrf.cap
  have hL0 : Lies b T (⟨b, 60, [.slice na pn.length nc, .slice fa T.free.length fc, .int .i64 (T.root : Int), .int .i64 (T.count : Int)]⟩ :: (nit ++ (fit ++ own pn))) := ⟨pn, na, nc, nit, fa, fc, fit, ⟨hrn, hrf, hok, hnd, rfl⟩⟩
  have hne : 0 < T.nodes.length := Nat.lt_of_le_of_lt (Nat.zero_le _) (List.getElem?_eq_some_iff.1 hlay.at).1
  obtain ⟨nb, npad, rfl, rfl, hnp⟩ := hrn.blk (by omega)
  refine Fn.start1 Try.func23 rfl Try.ntmps23 rfl (env := [(0, _)]) rfl ?_
  intro R
  refine .items (L' := [[⟨b, 60, _⟩], [⟨nb, 68, _⟩], fit, own pn, R]) (fun w ho => by simpa [List.append_assoc] using ho) ?_
  refine .seq ?_
  refine .region ?_
  refine .v (.asn rfl) rfl ?_
  refine .nil ?_
  refine .then ?_
  refine .seq ?_
  refine .seq ?_
  refine .region ?_
  refine .v (.mv rfl) rfl ?_
  refine .v (.ro rfl rfl (Try.call16 _) (sel4 .here .here .here .here) (len_fn b T _ _ hL0)) rfl ?_
  refine .vs (.eq rfl rfl) rfl (fun h7_1 => ?_) (fun h7_1 => ?_)
  · skip
    refine .nil ?_
    refine .then ?_
    refine .condT rfl ?_
    refine .seq ?_
    refine .region ?_
    refine .v (.asn rfl) rfl ?_
    refine .nil ?_
    refine .then ?_
    refine .ret ?_
    refine .then_ret ?_
    refine .front (.there (.there (.there .here))) ?_
    refine .front (.there (.there (.there .here))) ?_
    refine .front (.there (.there (.there .here))) ?_
    refine .front (.there (.there (.there .here))) ?_
    exact .done _ [_] (.t1 rfl rfl) .rfl ⟨rfl, rfl, (by rw [if_pos (by omega)])⟩ (fun w ho => by simpa [List.append_assoc] using (subl (.cons_cons _ (.cons_cons _ (.cons_cons _ (.cons_cons _ (.cons_cons _ .slnil))))) w ho))
  · skip
    refine .nil ?_
    refine .then ?_
    refine .condF rfl ?_
    refine .skip ?_
    refine .then ?_
    refine .seq ?_
    refine .region ?_
    refine .v (.asn rfl) rfl ?_
    refine .nil ?_
    refine .then ?_
    refine .seq ?_
    refine .seq ?_
    refine .region ?_
    refine .v (.mv rfl) rfl ?_
    refine .v (.nilc rfl) rfl ?_
    refine .v (.fab fl60_2 rfl) rfl ?_
    refine .v (.ldb ty3 rfl .here rfl) rfl ?_
    refine .v (.asn rfl) rfl ?_
    refine .nil ?_
    refine .then ?_
    refine .block ?_
    refine WC.loop0 (fx := [(0, _), (2, _)]) (.cons rfl rfl (.cons rfl rfl .nil)) (ι := Nat × Tr) (fun z => Lay T.nodes z.1 z.2 ∧ z.1 ≤ h) (fun z => z.1) (fun z => [(3, .int .i64 (((h - z.1) + 1 : Nat) : Int)), (4, .int .i64 (z.2.i : Int))]) (h, t) ⟨hlay, Nat.le_refl _⟩ ?he ?round
    case he => exact .cons rfl (congrArg (Value.int .i64) (by (try dsimp only); omega)) (.cons rfl (by rw [hrt]) (.cons rfl rfl (.cons rfl rfl .nil)))
    case round =>
      intro z hk
      obtain ⟨h1, t1⟩ := z
      obtain ⟨hl1, hh1⟩ := hk
      dsimp only at hl1 hh1 ⊢
      obtain ⟨xn, kn, hatn, hxn0, hkn0⟩ : ∃ x k, T.nodes[t1.i]? = some ⟨x, k⟩ ∧ x = t1.ps ∧ k = t1.ks.map Tr.i := ⟨_, _, hl1.at, rfl, rfl⟩
      have hibn := (List.getElem?_eq_some_iff.1 hatn).1
      obtain ⟨nn, hn, en⟩ := nd_get hnd hatn
      have hon := get_ok hok hn
      obtain ⟨⟨xn', apn, cpn, ipn⟩, ⟨kn', akn, ckn, ikn⟩⟩ := nn
      obtain ⟨rfl, rfl⟩ : xn' = xn ∧ kn' = kn := by simpa [PN.nd] using en
      have hpn : Row 47 encP 2 apn cpn xn' ipn := hon.p
      have hkn : Row 3 encK 1 akn ckn kn' ikn := hon.k
      refine .seq ?_
      refine .seq ?_
      refine .region ?_
      refine .v (.mv rfl) rfl ?_
      refine .v (.nilc rfl) rfl ?_
      refine .v (.fa0 fl60_0 rfl) rfl ?_
      refine .v (.ldb ty57 rfl .here rfl) rfl ?_
      refine .v (.mv rfl) rfl ?_
      refine .v (.ixo sl57 rfl rfl (t1.i) ⟨rfl, by have h_ := (List.getElem?_eq_some_iff.1 hn).1; omega⟩) rfl ?_
      refine .v (.ldm [.slice (apn) (xn').length (cpn), .slice (akn) (kn').length (ckn)] ty68 rfl (.there .here) rfl (fun j_ v_ hj_ => encN_ok.get pn t1.i _ hn npad j_ v_ hj_)) rfl ?_
      refine .vs (.call rfl rfl (Try.call37 _) (fun G hle hG => leaf_fn _ _ _ _ _ _ G)) rfl (fun h19_2 => ?_) (fun h19_2 => ?_)
      · skip
        refine .v (.not rfl) rfl ?_
        refine .nil ?_
        refine .then ?_
        refine .condF rfl ?_
        refine .exit ?_
        refine .then_exit ?_
        refine .then_exit ?_
        refine .blk_exit ?_
        refine .then ?_
        refine .seq ?_
        refine .region ?_
        refine .v (.mv rfl) rfl ?_
        refine .v (.asn rfl) rfl ?_
        refine .nil ?_
        refine .then ?_
        refine .ret ?_
        refine .front (.there (.there (.there .here))) ?_
        refine .front (.there (.there (.there .here))) ?_
        refine .front (.there (.there (.there .here))) ?_
        refine .front (.there (.there (.there .here))) ?_
        exact .done _ [_] (.t1 rfl rfl) .rfl ⟨rfl, rfl, (by rw [if_neg (by omega)]; cases h1 with | zero => (refine congrArg (Value.int .i64) ?_; omega) | succ h2 => (have h_ := hl1.1; have h5 := h19_2; rw [hkn0, List.length_map] at h5; omega))⟩ (fun w ho => by simpa [List.append_assoc] using (subl (.cons_cons _ (.cons_cons _ (.cons_cons _ (.cons_cons _ (.cons_cons _ .slnil))))) w ho))
      · skip
        refine .v (.not rfl) rfl ?_
        refine .nil ?_
        refine .then ?_
        refine .condT rfl ?_
        refine .skip ?_
        refine .then ?_
        refine .seq ?_
        refine .block ?_
        refine .region ?_
        obtain ⟨h2, rfl⟩ : ∃ h2, h1 = h2 + 1 := by cases h1 with | zero => (exact absurd (by rw [hkn0, hl1.1]; rfl) h19_2) | succ h2 => exact ⟨h2, rfl⟩
        have hkl1 := hl1.1
        obtain ⟨c, hc⟩ : ∃ y, t1.ks[0]? = some y := ⟨_, List.getElem?_eq_getElem (by omega)⟩
        have hcm := List.mem_of_getElem? hc
        have hkc : kn'[0]? = some c.i := by rw [hkn0, List.getElem?_map, hc]; rfl
        have hkl := (List.getElem?_eq_some_iff.1 hkc).1
        obtain ⟨bkn, dkn, rfl, rfl, hdkn⟩ := hkn.blk (by omega)
        refine .v (.mv rfl) rfl ?_
        refine .v (.add rfl rfl (by omega)) rfl ?_
        refine .v (.asn rfl) rfl ?_
        refine .nil ?_
        refine .blk ?_
        refine .then ?_
        refine .region ?_
        refine .v (.mv rfl) rfl ?_
        refine .v (.nilc rfl) rfl ?_
        refine .v (.fa0 fl60_0 rfl) rfl ?_
        refine .v (.ldb ty57 rfl .here rfl) rfl ?_
        refine .v (.mv rfl) rfl ?_
        refine .v (.ixo sl57 rfl rfl (t1.i) ⟨rfl, by have h_ := (List.getElem?_eq_some_iff.1 hn).1; omega⟩) rfl ?_
        refine .v (.fae fl68_1 rfl) rfl ?_
        refine .v (.ldb (v := .slice (some ⟨bkn, 0, none⟩) (kn').length (ckn)) ty58 rfl (.there .here) (encN_ok.get pn t1.i _ hn npad 1 _ rfl)) rfl ?_
        refine .v (.ixo sl58 rfl rfl (0) ⟨by omega, by have h_ := (List.getElem?_eq_some_iff.1 hkc).1; omega⟩) rfl ?_
        refine .v (.ldb ty3 rfl (.there (.there (.there (.part (sub_k hn))))) (encK_ok.get kn' (0) _ hkc dkn 0 _ rfl)) rfl ?_
        refine .v (.asn rfl) rfl ?_
        refine .nil ?_
        exact .again (h2, c) ⟨hl1.2.2 c hcm, by (try dsimp only); omega⟩ (by (try dsimp only); omega) (.cons rfl (congrArg (Value.int .i64) (by (try dsimp only); omega)) (.cons rfl rfl (.cons rfl rfl (.cons rfl rfl .nil)))) (subl (.refl _))
def WalkSpec (h : Nat) : Prop := ∀ (b : Nat) (T : TS) (it : Itm) (F : Mem) (hT : Lies b T it) (t : Tr) (hlay : Lay T.nodes h t) (hsz : Siz h 0 t) (hs : Srt (flat h t)) (lo hi : ByteArray) (lim : Int) (o : List Pr) (oa : Option Addr) (oc : Nat) (io : Itm) (hro : Row 47 encP 2 oa oc o io) (hlen : o.length + (flat h t).length ≤ 1000000000), Fn Try.prog 30 #[.pointer (some ⟨b, 0, none⟩), .int .i64 (t.i : Int), .string lo, .string hi, .int .i64 lim, .slice oa o.length oc] [it ++ io] F (fun v M G => ∃ io', M = [it ++ io'] ∧ G = F ∧ ∃ a' c', v = .slice a' (rng lo hi lim.toNat o (flat h t)).length c' ∧ Row 47 encP 2 a' c' (rng lo hi lim.toNat o (flat h t)) io')
theorem walk_0 : WalkSpec (0) := by
  intro b T it F hT t hlay hsz hs lo hi lim o oa oc io hro hlen
  obtain ⟨pn, na, nc, nit, fa, fc, fit, hP⟩ := hT
  obtain ⟨hrn, hrf, hok, hnd, rfl⟩ := hP
  have hln : pn.length = T.nodes.length := by rw [← hnd, List.length_map]
  have hmx := hrn.max
  have hcp := hrn.cap
  have hfm := hrf.max
  have hfcp := hrf.cap
  have hL0 : Lies b T (⟨b, 60, [.slice na pn.length nc, .slice fa T.free.length fc, .int .i64 (T.root : Int), .int .i64 (T.count : Int)]⟩ :: (nit ++ (fit ++ own pn))) := ⟨pn, na, nc, nit, fa, fc, fit, ⟨hrn, hrf, hok, hnd, rfl⟩⟩
  have hne : 0 < T.nodes.length := Nat.lt_of_le_of_lt (Nat.zero_le _) (List.getElem?_eq_some_iff.1 hlay.at).1
  obtain ⟨nb, npad, rfl, rfl, hnp⟩ := hrn.blk (by omega)
  have hle1 := hsz.le
  obtain ⟨xn, kn, hatn, hxn0, hkn0⟩ : ∃ x k, T.nodes[t.i]? = some ⟨x, k⟩ ∧ x = t.ps ∧ k = t.ks.map Tr.i := ⟨_, _, hlay.at, rfl, rfl⟩
  have hibn := (List.getElem?_eq_some_iff.1 hatn).1
  obtain ⟨nn, hn, en⟩ := nd_get hnd hatn
  have hon := get_ok hok hn
  obtain ⟨⟨xn', apn, cpn, ipn⟩, ⟨kn', akn, ckn, ikn⟩⟩ := nn
  obtain ⟨rfl, rfl⟩ : xn' = xn ∧ kn' = kn := by simpa [PN.nd] using en
  have hpn : Row 47 encP 2 apn cpn xn' ipn := hon.p
  have hkn : Row 3 encK 1 akn ckn kn' ikn := hon.k
  have hsx : Srt xn' := by rw [hxn0]; exact hs.sub (flat_ps hlay)
  have hlx : xn'.length ≤ 5 := by rw [hxn0]; exact hle1
  refine Fn.start1 Try.func30 rfl Try.ntmps30 rfl (env := [(0, _), (1, _), (2, _), (3, _), (4, _), (5, _)]) rfl ?_
  intro R
  refine .items (L' := [[⟨b, 60, _⟩], [⟨nb, 68, _⟩], fit, own pn, io, R]) (fun w ho => by simpa [List.append_assoc] using ho) ?_
  refine .seq ?_
  refine .region ?_
  refine .v (.asn rfl) rfl ?_
  refine .nil ?_
  refine .then ?_
  refine .seq ?_
  refine .region ?_
  refine .v (.mv rfl) rfl ?_
  refine .v (.nilc rfl) rfl ?_
  refine .v (.fa0 fl60_0 rfl) rfl ?_
  refine .v (.ldb ty57 rfl .here rfl) rfl ?_
  refine .v (.mv rfl) rfl ?_
  refine .v (.ixo sl57 rfl rfl (t.i) ⟨rfl, by have h_ := (List.getElem?_eq_some_iff.1 hn).1; omega⟩) rfl ?_
  refine .v (.ldm [.slice (apn) (xn').length (cpn), .slice (akn) (kn').length (ckn)] ty68 rfl (.there .here) rfl (fun j_ v_ hj_ => encN_ok.get pn t.i _ hn npad j_ v_ hj_)) rfl ?_
  refine .nb (.alloc ty68 rfl) rfl (fun b1 => ?_)
  refine .st (.stw ty68 rfl rfl rfl rfl rfl .here) ?_
  refine .nil ?_
  refine .then ?_
  refine .seq ?_
  refine .region ?_
  refine .v (.ldw ty68 rfl .here rfl) rfl ?_
  refine .v (.mv rfl) rfl ?_
  refine .v (.call rfl rfl (Try.call36 _) (fun G hle hG => find_fn xn' _ _ G (hpn.sl encP_ok (fun b_ hb_ => hG b_ (Inn.mem (.there (.there (.there (.there (.part (sub_p hn)))))) b_ hb_))) hsx lo (by omega) _ _ _)) rfl ?_
  refine .v (.mv rfl) rfl ?_
  refine .v (.ext rfl rfl) rfl ?_
  refine .v (.ext rfl rfl) rfl ?_
  refine .v (.asn rfl) rfl ?_
  refine .v (.asn rfl) rfl ?_
  refine .front (.there (.there (.there (.there (.there .here))))) ?_
  refine .nil ?_
  refine .then ?_
  refine .seq ?_
  refine .block ?_
  refine WC.loopx (fx := [(0, _), (2, _), (3, _), (4, _), (12, _), (13, _)]) (pre := [_]) (fm := [_, _, _, _, _, _]) rfl (.cons rfl rfl (.cons rfl rfl (.cons rfl rfl (.cons rfl rfl (.cons rfl rfl (.cons rfl rfl .nil)))))) (ι := RowP Pr × Nat) (fun z => Row 47 encP 2 z.1.a z.1.c z.1.xs z.1.it ∧ rng lo hi lim.toNat z.1.xs (restN (0) t z.2) = rng lo hi lim.toNat o (flat (0) t) ∧ z.1.xs.length + (restN (0) t z.2).length ≤ 1000000000 ∧ posK t.ps lo ≤ z.2 ∧ z.2 ≤ t.ps.length) (fun z => t.ps.length - z.2) (fun z => [(5, .slice z.1.a z.1.xs.length z.1.c), (14, .int .i64 (z.2 : Int))]) (fun z => [z.1.it]) (fun z => F) (⟨o, oa, oc, io⟩, posK xn' lo) ⟨hro, by rw [hxn0]; exact (rest_start hlay hs).symm, by have h_ := (rest_sub hlay (posK_le t.ps lo)).length_le; rw [hxn0]; (try dsimp only); omega, by (try dsimp only); rw [hxn0]; exact Nat.le_refl _, by (try dsimp only); rw [hxn0]; exact posK_le _ _⟩ ?he ?hm ?round
  case he => exact .cons rfl rfl (.cons rfl rfl (.cons rfl rfl (.cons rfl rfl (.cons rfl rfl (.cons rfl rfl (.cons rfl rfl (.cons rfl rfl .nil)))))))
  case hm => exact (fun _ h => h)
  case round =>
    intro z hk
    obtain ⟨x1, q⟩ := z
    obtain ⟨hr1, hq1, hl1, hpq, hqp⟩ := hk
    dsimp only at hr1 hq1 hl1 hpq hqp ⊢
    have hqx : q ≤ xn'.length := by rw [hxn0]; exact hqp
    dsimp only [List.cons_append, List.nil_append]
    refine .seq ?_
    refine .seq ?_
    refine .region ?_
    refine .v (.mv rfl) rfl ?_
    refine .v (.fa0 fl68_0 rfl) rfl ?_
    refine .v (.ldb ty22 rfl (.there .here) rfl) rfl ?_
    refine .v (.lenl Try.underlying22 rfl) rfl ?_
    refine .vT (.le rfl rfl) rfl (by omega) ?_
    refine .v (.mv rfl) rfl ?_
    refine .g rfl rfl rfl ?_
    refine .v (.mv rfl) rfl ?_
    refine .g rfl rfl rfl ?_
    refine .v (.lenl Try.underlying22 rfl) rfl ?_
    refine .g rfl rfl rfl ?_
    refine .v (.mv rfl) rfl ?_
    refine .g rfl rfl rfl ?_
    refine .vs (.lt rfl rfl) rfl (fun h38_2 => ?_) (fun h38_2 => ?_)
    · skip
      refine .v (.pkT rfl rfl) rfl ?_
      refine .nil ?_
      refine .then ?_
      refine .condT rfl ?_
      refine .skip ?_
      refine .then ?_
      refine .seq ?_
      refine .block ?_
      refine .seq ?_
      refine .seq ?_
      refine .region ?_
      refine .v (.ldw ty68 rfl (.there .here) rfl) rfl ?_
      refine .vT (.call rfl rfl (Try.call37 _) (fun G hle hG => leaf_fn _ _ _ _ kn'.length _ G)) rfl (by rw [hkn0, hlay.1]; rfl) ?_
      refine .v (.not rfl) rfl ?_
      refine .nil ?_
      refine .then ?_
      refine .condF rfl ?_
      refine .skip ?_
      refine .then ?_
      refine .seq ?_
      refine .seq ?_
      refine .region ?_
      have hq2 : rng lo hi lim.toNat x1.xs (t.ps.drop q) = rng lo hi lim.toNat o (flat 0 t) := hq1
      have hl2 : x1.xs.length + (t.ps.drop q).length ≤ 1000000000 := hl1
      refine .v (.mv rfl) rfl ?_
      refine .v (.fa0 fl68_0 rfl) rfl ?_
      refine .v (.ldb ty22 rfl (.there .here) rfl) rfl ?_
      refine .v (.lenl Try.underlying22 rfl) rfl ?_
      refine .vs (.eq rfl rfl) rfl (fun h60_3 => ?_) (fun h60_3 => ?_)
      · skip
        refine .v (.mv rfl) rfl ?_
        refine .gs rfl rfl rfl rfl ?_
        refine .gs rfl rfl rfl rfl ?_
        refine .gs rfl rfl rfl rfl ?_
        refine .gs rfl rfl rfl rfl ?_
        refine .v (.pkT rfl rfl) rfl ?_
        refine .v (.mv rfl) rfl ?_
        refine .gs rfl rfl rfl rfl ?_
        refine .gs rfl rfl rfl rfl ?_
        refine .gs rfl rfl rfl rfl ?_
        refine .gu rfl rfl rfl rfl ?_
        refine .gu rfl rfl rfl rfl ?_
        refine .gu rfl rfl rfl rfl ?_
        refine .gu rfl rfl rfl rfl ?_
        refine .gu rfl rfl rfl rfl ?_
        refine .gu rfl rfl rfl rfl ?_
        refine .gu rfl rfl rfl rfl ?_
        refine .gu rfl rfl rfl rfl ?_
        refine .gs rfl rfl rfl rfl ?_
        refine .v (.pkT rfl rfl) rfl ?_
        refine .nil ?_
        refine .then ?_
        refine .condT rfl ?_
        refine .exit ?_
        refine .then_exit ?_
        refine .blk_other rfl ?_
        refine .then_exit ?_
        refine .then_exit ?_
        refine .blk_exit ?_
        refine .then ?_
        refine .seq ?_
        refine .region ?_
        refine .v (.mv rfl) rfl ?_
        refine .v (.asn rfl) rfl ?_
        refine .nil ?_
        refine .then ?_
        refine .ret ?_
        refine .front (.there (.there (.there (.there (.there .here))))) ?_
        refine .front (.there (.there (.there (.there (.there .here))))) ?_
        refine .front (.there (.there (.there (.there (.there .here))))) ?_
        refine .front (.there (.there (.there (.there (.there .here))))) ?_
        have hfin : x1.xs = rng lo hi lim.toNat o (flat (0) t) := by rw [← hq2, List.drop_of_length_le (by rw [← hxn0]; have h_ := h60_3; omega), rng_nil]
        rw [← hfin]
        exact .done _ [(⟨b, 60, _⟩ :: ([⟨nb, 68, _⟩] ++ (fit ++ own pn))) ++ x1.it] (.t1 rfl rfl) .rfl ⟨_, rfl, rfl, _, _, rfl, hr1⟩ (fun w ho => by simpa [List.append_assoc] using (subl (.cons_cons _ (.cons_cons _ (.cons_cons _ (.cons_cons _ (.cons_cons _ (.cons _ (.cons_cons _ .slnil))))))) w ho))
      · skip
        refine .v (.mv rfl) rfl ?_
        refine .g rfl rfl rfl ?_
        refine .v (.mv rfl) rfl ?_
        refine .g rfl rfl rfl ?_
        refine .v (.lenl Try.underlying22 rfl) rfl ?_
        refine .g rfl rfl rfl ?_
        refine .v (.mv rfl) rfl ?_
        refine .g rfl rfl rfl ?_
        refine .vs (.ge rfl rfl) rfl (fun h65_4 => ?_) (fun h65_4 => ?_)
        · skip
          refine .v (.pkF rfl rfl) rfl ?_
          refine .v (.mv rfl) rfl ?_
          refine .gs rfl rfl rfl rfl ?_
          refine .gs rfl rfl rfl rfl ?_
          refine .gs rfl rfl rfl rfl ?_
          refine .gu rfl rfl rfl rfl ?_
          refine .gu rfl rfl rfl rfl ?_
          refine .gu rfl rfl rfl rfl ?_
          refine .gu rfl rfl rfl rfl ?_
          refine .gu rfl rfl rfl rfl ?_
          refine .gu rfl rfl rfl rfl ?_
          refine .gu rfl rfl rfl rfl ?_
          refine .gu rfl rfl rfl rfl ?_
          refine .gs rfl rfl rfl rfl ?_
          refine .v (.pkT rfl rfl) rfl ?_
          refine .nil ?_
          refine .then ?_
          refine .condT rfl ?_
          refine .exit ?_
          refine .then_exit ?_
          refine .blk_other rfl ?_
          refine .then_exit ?_
          refine .then_exit ?_
          refine .blk_exit ?_
          refine .then ?_
          refine .seq ?_
          refine .region ?_
          refine .v (.mv rfl) rfl ?_
          refine .v (.asn rfl) rfl ?_
          refine .nil ?_
          refine .then ?_
          refine .ret ?_
          refine .front (.there (.there (.there (.there (.there .here))))) ?_
          refine .front (.there (.there (.there (.there (.there .here))))) ?_
          refine .front (.there (.there (.there (.there (.there .here))))) ?_
          refine .front (.there (.there (.there (.there (.there .here))))) ?_
          have hfin : x1.xs = rng lo hi lim.toNat o (flat (0) t) := by rw [← hq2, rng_full (by have h_ := h65_4; omega)]
          rw [← hfin]
          exact .done _ [(⟨b, 60, _⟩ :: ([⟨nb, 68, _⟩] ++ (fit ++ own pn))) ++ x1.it] (.t1 rfl rfl) .rfl ⟨_, rfl, rfl, _, _, rfl, hr1⟩ (fun w ho => by simpa [List.append_assoc] using (subl (.cons_cons _ (.cons_cons _ (.cons_cons _ (.cons_cons _ (.cons_cons _ (.cons _ (.cons_cons _ .slnil))))))) w ho))
        · skip
          refine .v (.pkF rfl rfl) rfl ?_
          refine .v (.mv rfl) rfl ?_
          refine .g rfl rfl rfl ?_
          refine .v (.mv rfl) rfl ?_
          refine .g rfl rfl rfl ?_
          refine .vs (.nes rfl rfl) rfl (fun h69_5 => ?_) (fun h69_5 => ?_)
          · skip
            refine .g rfl rfl rfl ?_
            refine .v (.mv rfl) rfl ?_
            refine .g rfl rfl rfl ?_
            obtain ⟨p, hpx⟩ : ∃ y, xn'[q]? = some y := ⟨_, List.getElem?_eq_getElem (by have h_ := h60_3; omega)⟩
            have hpl := (List.getElem?_eq_some_iff.1 hpx).1
            have hpt : t.ps[q]? = some p := by rw [← hxn0]; exact hpx
            have hsn : t.ps.drop q = p :: restN 0 t (q + 1) := rest0_next hpt
            rw [hsn] at hq2 hl2
            have hsr : Srt (p :: restN 0 t (q + 1)) := by rw [← hsn]; exact (show Srt t.ps from hs).sub (List.drop_sublist _ _)
            have hplo : slt p.key lo = false := (posK_split hsx lo).2 p (by rw [show posK xn' lo = posK t.ps lo from by rw [hxn0]]; exact List.mem_of_getElem? (i := q - posK t.ps lo) (by rw [List.getElem?_drop, show posK t.ps lo + (q - posK t.ps lo) = q by omega]; exact hpx))
            have hl3 : x1.xs.length + (1 + (restN (0) t (q + 1)).length) ≤ 1000000000 := by rw [List.length_cons] at hl2; omega
            obtain ⟨bpn, dpn, rfl, rfl, hdpn⟩ := hpn.blk (by omega)
            refine .v (.fa0 fl68_0 rfl) rfl ?_
            refine .g rfl rfl rfl ?_
            refine .v (.ldb ty22 rfl (.there .here) rfl) rfl ?_
            refine .g rfl rfl rfl ?_
            refine .v (.mv rfl) rfl ?_
            refine .g rfl rfl rfl ?_
            refine .v (.ixo sl22 rfl rfl (q) ⟨rfl, by have h_ := (List.getElem?_eq_some_iff.1 hpx).1; omega⟩) rfl ?_
            refine .g rfl rfl rfl ?_
            refine .v (.fa0 fl47_0 rfl) rfl ?_
            refine .g rfl rfl rfl ?_
            refine .v (.ldb ty9 rfl (.there (.there (.there (.there (.there (.part (sub_p hn))))))) (encP_ok.get xn' (q) _ hpx dpn 0 _ rfl)) rfl ?_
            refine .g rfl rfl rfl ?_
            refine .v (.mv rfl) rfl ?_
            refine .g rfl rfl rfl ?_
            refine .vb (.ges rfl rfl) rfl (fun h78_6 => ?_) (fun h78_6 => ?_)
            · skip
              refine .g rfl rfl rfl ?_
              refine .v (.pkT rfl rfl) rfl ?_
              refine .v (.pkF rfl rfl) rfl ?_
              refine .nil ?_
              refine .then ?_
              refine .condT rfl ?_
              refine .exit ?_
              refine .then_exit ?_
              refine .blk_other rfl ?_
              refine .then_exit ?_
              refine .then_exit ?_
              refine .blk_exit ?_
              refine .then ?_
              refine .seq ?_
              refine .region ?_
              refine .v (.mv rfl) rfl ?_
              refine .v (.asn rfl) rfl ?_
              refine .nil ?_
              refine .then ?_
              refine .ret ?_
              refine .front (.there (.there (.there (.there (.there .here))))) ?_
              refine .front (.there (.there (.there (.there (.there .here))))) ?_
              refine .front (.there (.there (.there (.there (.there .here))))) ?_
              refine .front (.there (.there (.there (.there (.there .here))))) ?_
              have hph : slt p.key hi = false := by have e_ := h78_6; simpa using e_
              have hnz : ¬ hi.size = 0 := fun e_ => h69_5 (ByteArray.size_eq_zero_iff.1 e_)
              have hfin : x1.xs = rng lo hi lim.toNat o (flat (0) t) := by rw [← hq2, rng_above hnz (fun x hx => by rcases List.mem_cons.1 hx with rfl | hx; exact hph; (cases e_ : slt x.key hi with | false => rfl | true => (rw [slt_trans ((List.pairwise_cons.1 hsr).1 x hx) e_] at hph; cases hph)))]
              rw [← hfin]
              exact .done _ [(⟨b, 60, _⟩ :: ([⟨nb, 68, _⟩] ++ (fit ++ own pn))) ++ x1.it] (.t1 rfl rfl) .rfl ⟨_, rfl, rfl, _, _, rfl, hr1⟩ (fun w ho => by simpa [List.append_assoc] using (subl (.cons_cons _ (.cons_cons _ (.cons_cons _ (.cons_cons _ (.cons_cons _ (.cons _ (.cons_cons _ .slnil))))))) w ho))
            · skip
              refine .g rfl rfl rfl ?_
              refine .v (.pkT rfl rfl) rfl ?_
              refine .v (.pkF rfl rfl) rfl ?_
              refine .nil ?_
              refine .then ?_
              refine .condF rfl ?_
              refine .skip ?_
              refine .then ?_
              refine .region ?_
              have hin : inR lo hi p = true := by
                have e_ := h78_6; simp only [Bool.not_eq_false'] at e_; simp [inR, hplo, e_]
              have hltO : x1.xs.length < lim.toNat := by have h_ := h65_4; omega
              have hq3 : rng lo hi lim.toNat (x1.xs ++ [p]) (restN (0) t (q + 1)) = rng lo hi lim.toNat o (flat (0) t) := by rw [← hq2, rng_one hin hltO]
              have hl4 : (x1.xs ++ [p]).length + (restN (0) t (q + 1)).length ≤ 1000000000 := by rw [List.length_append, List.length_singleton]; omega
              refine .v (.mv rfl) rfl ?_
              refine .v (.fa0 fl68_0 rfl) rfl ?_
              refine .v (.ldb ty22 rfl (.there .here) rfl) rfl ?_
              refine .v (.mv rfl) rfl ?_
              refine .v (.ixo sl22 rfl rfl (q) ⟨rfl, by have h_ := (List.getElem?_eq_some_iff.1 hpx).1; omega⟩) rfl ?_
              refine .v (.ldm _ ty47 rfl (.there (.there (.there (.there (.there (.part (sub_p hn))))))) rfl (fun j_ v_ hj_ => encP_ok.get xn' (q) _ hpx dpn j_ v_ hj_)) rfl ?_
              refine .nb (.lit1 sl22 ty47 rfl rfl rfl rfl rfl) rfl (fun b7 => ?_)
              refine .ap (.app1 (xs := x1.xs) p sl22 ty47 rfl encP_ok rfl rfl hr1 .here (by omega) (by omega) _ (fun _ => (.there .here))) rfl (fun a3 c3 i3 hr3 => ?_)
              refine .v (.asn rfl) rfl ?_
              refine .nil ?_
              refine .blk ?_
              refine .then ?_
              refine .region ?_
              refine .v (.mv rfl) rfl ?_
              refine .v (.add rfl rfl (by omega)) rfl ?_
              refine .v (.asn rfl) rfl ?_
              refine .nil ?_
              exact .again (⟨x1.xs ++ [p], a3, c3, i3⟩, q + 1) ⟨hr3, hq3, hl4, by (try dsimp only); omega, by (try dsimp only); rw [← hxn0]; omega⟩ (by (try dsimp only); rw [← hxn0]; omega) (.cons rfl rfl (.cons rfl rfl (.cons rfl rfl (.cons rfl rfl (.cons rfl rfl (.cons rfl rfl (.cons rfl rfl (.cons rfl rfl .nil)))))))) (subl (.cons _ (.cons_cons _ (.cons_cons _ (.cons_cons _ (.cons_cons _ (.cons_cons _ (.cons_cons _ (.cons_cons _ .slnil)))))))))
          · skip
            refine .g rfl rfl rfl ?_
            refine .v (.mv rfl) rfl ?_
            refine .gs rfl rfl rfl rfl ?_
            refine .gs rfl rfl rfl rfl ?_
            refine .gs rfl rfl rfl rfl ?_
            refine .gs rfl rfl rfl rfl ?_
            refine .gs rfl rfl rfl rfl ?_
            refine .gs rfl rfl rfl rfl ?_
            refine .gs rfl rfl rfl rfl ?_
            refine .gs rfl rfl rfl rfl ?_
            refine .g rfl rfl rfl ?_
            refine .v (.pkF rfl rfl) rfl ?_
            refine .v (.pkF rfl rfl) rfl ?_
            refine .nil ?_
            refine .then ?_
            refine .condF rfl ?_
            refine .skip ?_
            refine .then ?_
            refine .region ?_
            obtain ⟨p, hpx⟩ : ∃ y, xn'[q]? = some y := ⟨_, List.getElem?_eq_getElem (by have h_ := h60_3; omega)⟩
            have hpl := (List.getElem?_eq_some_iff.1 hpx).1
            have hpt : t.ps[q]? = some p := by rw [← hxn0]; exact hpx
            have hsn : t.ps.drop q = p :: restN 0 t (q + 1) := rest0_next hpt
            rw [hsn] at hq2 hl2
            have hsr : Srt (p :: restN 0 t (q + 1)) := by rw [← hsn]; exact (show Srt t.ps from hs).sub (List.drop_sublist _ _)
            have hplo : slt p.key lo = false := (posK_split hsx lo).2 p (by rw [show posK xn' lo = posK t.ps lo from by rw [hxn0]]; exact List.mem_of_getElem? (i := q - posK t.ps lo) (by rw [List.getElem?_drop, show posK t.ps lo + (q - posK t.ps lo) = q by omega]; exact hpx))
            have hl3 : x1.xs.length + (1 + (restN (0) t (q + 1)).length) ≤ 1000000000 := by rw [List.length_cons] at hl2; omega
            obtain ⟨bpn, dpn, rfl, rfl, hdpn⟩ := hpn.blk (by omega)
            have hin : inR lo hi p = true := by
              have e_ : hi = ⟨#[]⟩ := Classical.not_not.1 h69_5; have e0 : hi.size = 0 := (by rw [e_]; rfl); simp [inR, hplo, e0]
            have hltO : x1.xs.length < lim.toNat := by have h_ := h65_4; omega
            have hq3 : rng lo hi lim.toNat (x1.xs ++ [p]) (restN (0) t (q + 1)) = rng lo hi lim.toNat o (flat (0) t) := by rw [← hq2, rng_one hin hltO]
            have hl4 : (x1.xs ++ [p]).length + (restN (0) t (q + 1)).length ≤ 1000000000 := by rw [List.length_append, List.length_singleton]; omega
            refine .v (.mv rfl) rfl ?_
            refine .v (.fa0 fl68_0 rfl) rfl ?_
            refine .v (.ldb ty22 rfl (.there .here) rfl) rfl ?_
            refine .v (.mv rfl) rfl ?_
            refine .v (.ixo sl22 rfl rfl (q) ⟨rfl, by have h_ := (List.getElem?_eq_some_iff.1 hpx).1; omega⟩) rfl ?_
            refine .v (.ldm _ ty47 rfl (.there (.there (.there (.there (.there (.part (sub_p hn))))))) rfl (fun j_ v_ hj_ => encP_ok.get xn' (q) _ hpx dpn j_ v_ hj_)) rfl ?_
            refine .nb (.lit1 sl22 ty47 rfl rfl rfl rfl rfl) rfl (fun b8 => ?_)
            refine .ap (.app1 (xs := x1.xs) p sl22 ty47 rfl encP_ok rfl rfl hr1 .here (by omega) (by omega) _ (fun _ => (.there .here))) rfl (fun a3 c3 i3 hr3 => ?_)
            refine .v (.asn rfl) rfl ?_
            refine .nil ?_
            refine .blk ?_
            refine .then ?_
            refine .region ?_
            refine .v (.mv rfl) rfl ?_
            refine .v (.add rfl rfl (by omega)) rfl ?_
            refine .v (.asn rfl) rfl ?_
            refine .nil ?_
            exact .again (⟨x1.xs ++ [p], a3, c3, i3⟩, q + 1) ⟨hr3, hq3, hl4, by (try dsimp only); omega, by (try dsimp only); rw [← hxn0]; omega⟩ (by (try dsimp only); rw [← hxn0]; omega) (.cons rfl rfl (.cons rfl rfl (.cons rfl rfl (.cons rfl rfl (.cons rfl rfl (.cons rfl rfl (.cons rfl rfl (.cons rfl rfl .nil)))))))) (subl (.cons _ (.cons_cons _ (.cons_cons _ (.cons_cons _ (.cons_cons _ (.cons_cons _ (.cons_cons _ (.cons_cons _ .slnil)))))))))
    · skip
      refine .v (.pkT rfl rfl) rfl ?_
      refine .nil ?_
      refine .then ?_
      refine .condF rfl ?_
      refine .exit ?_
      refine .then_exit ?_
      refine .then_exit ?_
      refine .blk_exit ?_
      refine .then ?_
      refine .seq ?_
      refine .region ?_
      refine .v (.mv rfl) rfl ?_
      refine .v (.asn rfl) rfl ?_
      refine .nil ?_
      refine .then ?_
      refine .ret ?_
      refine .front (.there (.there (.there (.there (.there .here))))) ?_
      refine .front (.there (.there (.there (.there (.there .here))))) ?_
      refine .front (.there (.there (.there (.there (.there .here))))) ?_
      refine .front (.there (.there (.there (.there (.there .here))))) ?_
      have hfin : x1.xs = rng lo hi lim.toNat o (flat (0) t) := by rw [← hq1, rng_full (by have h_ := h38_2; omega)]
      rw [← hfin]
      exact .done _ [(⟨b, 60, _⟩ :: ([⟨nb, 68, _⟩] ++ (fit ++ own pn))) ++ x1.it] (.t1 rfl rfl) .rfl ⟨_, rfl, rfl, _, _, rfl, hr1⟩ (fun w ho => by simpa [List.append_assoc] using (subl (.cons_cons _ (.cons_cons _ (.cons_cons _ (.cons_cons _ (.cons_cons _ (.cons _ (.cons_cons _ .slnil))))))) w ho))
theorem walk_s (h : Nat) (ih : WalkSpec h) : WalkSpec (h + 1) := by
  intro b T it F hT t hlay hsz hs lo hi lim o oa oc io hro hlen
  obtain ⟨pn, na, nc, nit, fa, fc, fit, hP⟩ := hT
  obtain ⟨hrn, hrf, hok, hnd, rfl⟩ := hP
  have hln : pn.length = T.nodes.length := by rw [← hnd, List.length_map]
  have hmx := hrn.max
  have hcp := hrn.cap
  have hfm := hrf.max
  have hfcp := hrf.cap
  have hL0 : Lies b T (⟨b, 60, [.slice na pn.length nc, .slice fa T.free.length fc, .int .i64 (T.root : Int), .int .i64 (T.count : Int)]⟩ :: (nit ++ (fit ++ own pn))) := ⟨pn, na, nc, nit, fa, fc, fit, ⟨hrn, hrf, hok, hnd, rfl⟩⟩
  have hne : 0 < T.nodes.length := Nat.lt_of_le_of_lt (Nat.zero_le _) (List.getElem?_eq_some_iff.1 hlay.at).1
  obtain ⟨nb, npad, rfl, rfl, hnp⟩ := hrn.blk (by omega)
  have hle1 := hsz.le
  obtain ⟨xn, kn, hatn, hxn0, hkn0⟩ : ∃ x k, T.nodes[t.i]? = some ⟨x, k⟩ ∧ x = t.ps ∧ k = t.ks.map Tr.i := ⟨_, _, hlay.at, rfl, rfl⟩
  have hibn := (List.getElem?_eq_some_iff.1 hatn).1
  obtain ⟨nn, hn, en⟩ := nd_get hnd hatn
  have hon := get_ok hok hn
  obtain ⟨⟨xn', apn, cpn, ipn⟩, ⟨kn', akn, ckn, ikn⟩⟩ := nn
  obtain ⟨rfl, rfl⟩ : xn' = xn ∧ kn' = kn := by simpa [PN.nd] using en
  have hpn : Row 47 encP 2 apn cpn xn' ipn := hon.p
  have hkn : Row 3 encK 1 akn ckn kn' ikn := hon.k
  have hsx : Srt xn' := by rw [hxn0]; exact hs.sub (flat_ps hlay)
  have hlx : xn'.length ≤ 5 := by rw [hxn0]; exact hle1
  refine Fn.start1 Try.func30 rfl Try.ntmps30 rfl (env := [(0, _), (1, _), (2, _), (3, _), (4, _), (5, _)]) rfl ?_
  intro R
  refine .items (L' := [[⟨b, 60, _⟩], [⟨nb, 68, _⟩], fit, own pn, io, R]) (fun w ho => by simpa [List.append_assoc] using ho) ?_
  refine .seq ?_
  refine .region ?_
  refine .v (.asn rfl) rfl ?_
  refine .nil ?_
  refine .then ?_
  refine .seq ?_
  refine .region ?_
  refine .v (.mv rfl) rfl ?_
  refine .v (.nilc rfl) rfl ?_
  refine .v (.fa0 fl60_0 rfl) rfl ?_
  refine .v (.ldb ty57 rfl .here rfl) rfl ?_
  refine .v (.mv rfl) rfl ?_
  refine .v (.ixo sl57 rfl rfl (t.i) ⟨rfl, by have h_ := (List.getElem?_eq_some_iff.1 hn).1; omega⟩) rfl ?_
  refine .v (.ldm [.slice (apn) (xn').length (cpn), .slice (akn) (kn').length (ckn)] ty68 rfl (.there .here) rfl (fun j_ v_ hj_ => encN_ok.get pn t.i _ hn npad j_ v_ hj_)) rfl ?_
  refine .nb (.alloc ty68 rfl) rfl (fun b1 => ?_)
  refine .st (.stw ty68 rfl rfl rfl rfl rfl .here) ?_
  refine .nil ?_
  refine .then ?_
  refine .seq ?_
  refine .region ?_
  refine .v (.ldw ty68 rfl .here rfl) rfl ?_
  refine .v (.mv rfl) rfl ?_
  refine .v (.call rfl rfl (Try.call36 _) (fun G hle hG => find_fn xn' _ _ G (hpn.sl encP_ok (fun b_ hb_ => hG b_ (Inn.mem (.there (.there (.there (.there (.part (sub_p hn)))))) b_ hb_))) hsx lo (by omega) _ _ _)) rfl ?_
  refine .v (.mv rfl) rfl ?_
  refine .v (.ext rfl rfl) rfl ?_
  refine .v (.ext rfl rfl) rfl ?_
  refine .v (.asn rfl) rfl ?_
  refine .v (.asn rfl) rfl ?_
  refine .front (.there (.there (.there (.there (.there .here))))) ?_
  refine .nil ?_
  refine .then ?_
  refine .seq ?_
  refine .block ?_
  refine WC.loopx (fx := [(0, _), (2, _), (3, _), (4, _), (12, _), (13, _)]) (pre := [_]) (fm := [_, _, _, _, _, _]) rfl (.cons rfl rfl (.cons rfl rfl (.cons rfl rfl (.cons rfl rfl (.cons rfl rfl (.cons rfl rfl .nil)))))) (ι := RowP Pr × Nat) (fun z => Row 47 encP 2 z.1.a z.1.c z.1.xs z.1.it ∧ rng lo hi lim.toNat z.1.xs (restN (h + 1) t z.2) = rng lo hi lim.toNat o (flat (h + 1) t) ∧ z.1.xs.length + (restN (h + 1) t z.2).length ≤ 1000000000 ∧ posK t.ps lo ≤ z.2 ∧ z.2 ≤ t.ps.length) (fun z => t.ps.length - z.2) (fun z => [(5, .slice z.1.a z.1.xs.length z.1.c), (14, .int .i64 (z.2 : Int))]) (fun z => [z.1.it]) (fun z => F) (⟨o, oa, oc, io⟩, posK xn' lo) ⟨hro, by rw [hxn0]; exact (rest_start hlay hs).symm, by have h_ := (rest_sub hlay (posK_le t.ps lo)).length_le; rw [hxn0]; (try dsimp only); omega, by (try dsimp only); rw [hxn0]; exact Nat.le_refl _, by (try dsimp only); rw [hxn0]; exact posK_le _ _⟩ ?he ?hm ?round
  case he => exact .cons rfl rfl (.cons rfl rfl (.cons rfl rfl (.cons rfl rfl (.cons rfl rfl (.cons rfl rfl (.cons rfl rfl (.cons rfl rfl .nil)))))))
  case hm => exact (fun _ h => h)
  case round =>
    intro z hk
    obtain ⟨x1, q⟩ := z
    obtain ⟨hr1, hq1, hl1, hpq, hqp⟩ := hk
    dsimp only at hr1 hq1 hl1 hpq hqp ⊢
    have hqx : q ≤ xn'.length := by rw [hxn0]; exact hqp
    dsimp only [List.cons_append, List.nil_append]
    refine .seq ?_
    refine .seq ?_
    refine .region ?_
    refine .v (.mv rfl) rfl ?_
    refine .v (.fa0 fl68_0 rfl) rfl ?_
    refine .v (.ldb ty22 rfl (.there .here) rfl) rfl ?_
    refine .v (.lenl Try.underlying22 rfl) rfl ?_
    refine .vT (.le rfl rfl) rfl (by omega) ?_
    refine .v (.mv rfl) rfl ?_
    refine .g rfl rfl rfl ?_
    refine .v (.mv rfl) rfl ?_
    refine .g rfl rfl rfl ?_
    refine .v (.lenl Try.underlying22 rfl) rfl ?_
    refine .g rfl rfl rfl ?_
    refine .v (.mv rfl) rfl ?_
    refine .g rfl rfl rfl ?_
    refine .vs (.lt rfl rfl) rfl (fun h38_2 => ?_) (fun h38_2 => ?_)
    · skip
      refine .v (.pkT rfl rfl) rfl ?_
      refine .nil ?_
      refine .then ?_
      refine .condT rfl ?_
      refine .skip ?_
      refine .then ?_
      refine .seq ?_
      refine .block ?_
      refine .seq ?_
      refine .seq ?_
      refine .region ?_
      refine .v (.ldw ty68 rfl (.there .here) rfl) rfl ?_
      refine .vF (.call rfl rfl (Try.call37 _) (fun G hle hG => leaf_fn _ _ _ _ kn'.length _ G)) rfl (by rw [hkn0, List.length_map, hlay.1]; omega) ?_
      refine .v (.not rfl) rfl ?_
      refine .nil ?_
      refine .then ?_
      refine .condT rfl ?_
      refine .region ?_
      obtain ⟨c, hc⟩ : ∃ y, t.ks[q]? = some y := ⟨_, List.getElem?_eq_getElem (by have h_ := hlay.1; omega)⟩
      have hcm := List.mem_of_getElem? hc
      have hkc : kn'[q]? = some c.i := by rw [hkn0, List.getElem?_map, hc]; rfl
      have hkl := (List.getElem?_eq_some_iff.1 hkc).1
      have hrk := rest_kid (h := h) hc
      obtain ⟨bkn, dkn, rfl, rfl, hdkn⟩ := hkn.blk (by omega)
      refine .v (.mv rfl) rfl ?_
      refine .v (.fab fl68_1 rfl) rfl ?_
      refine .v (.ldb ty58 rfl (.there .here) rfl) rfl ?_
      refine .v (.mv rfl) rfl ?_
      refine .v (.ixo sl58 rfl rfl (q) ⟨rfl, by have h_ := (List.getElem?_eq_some_iff.1 hkc).1; omega⟩) rfl ?_
      refine .v (.ldb ty3 rfl (.there (.there (.there (.there (.there (.part (sub_k hn))))))) (encK_ok.get kn' (q) _ hkc dkn 0 _ rfl)) rfl ?_
      refine .v (.mv rfl) rfl ?_
      refine .v (.mv rfl) rfl ?_
      refine .v (.mv rfl) rfl ?_
      refine .v (.mv rfl) rfl ?_
      refine .lend (.rox rfl rfl (Try.call30 _) (fun o_ => [o_, _, _, _, _, _, _]) rfl (fun _ => .here) (sel4 (.there .here) (.there .here) (.there .here) (.there .here)) ((ih b T _ _ hL0 c (hlay.2.2 c hcm) ((hsz.2.2 c hcm).mono (Nat.zero_le _)) (hs.sub (flat_kid hlay hcm)) lo hi lim x1.xs x1.a x1.c x1.it hr1 (by have h_ := congrArg List.length hrk; rw [List.length_append] at h_; omega)).mono (fun v M G _ h_ => h_))) rfl ?_
      rintro _ i2 ⟨a2, c2, rfl, hr2⟩
      obtain ⟨o2, ho2⟩ : ∃ o2, o2 = rng lo hi lim.toNat x1.xs (flat h c) := ⟨_, rfl⟩
      rw [← ho2] at hr2 ⊢
      have hq2 : rng lo hi lim.toNat o2 (suf (t.ps.drop q) ((t.ks.map (flat h)).drop (q + 1))) = rng lo hi lim.toNat o (flat (h + 1) t) := by rw [ho2, ← rng_app, ← hrk]; exact hq1
      have hl2 : o2.length + (suf (t.ps.drop q) ((t.ks.map (flat h)).drop (q + 1))).length ≤ 1000000000 := by have h_ := congrArg List.length hrk; rw [List.length_append] at h_; have h6 := (rng_len (lo := lo) (hi := hi) (L := lim.toNat) (out := x1.xs) (a := flat h c)).2; rw [← ho2] at h6; omega
      refine .v (.asn rfl) rfl ?_
      refine .nil ?_
      refine .then ?_
      refine .seq ?_
      refine .seq ?_
      refine .region ?_
      refine .v (.mv rfl) rfl ?_
      refine .v (.fa0 fl68_0 rfl) rfl ?_
      refine .v (.ldb ty22 rfl (.there .here) rfl) rfl ?_
      refine .v (.lenl Try.underlying22 rfl) rfl ?_
      refine .vs (.eq rfl rfl) rfl (fun h60_3 => ?_) (fun h60_3 => ?_)
      · skip
        refine .v (.mv rfl) rfl ?_
        refine .gs rfl rfl rfl rfl ?_
        refine .gs rfl rfl rfl rfl ?_
        refine .gs rfl rfl rfl rfl ?_
        refine .gs rfl rfl rfl rfl ?_
        refine .v (.pkT rfl rfl) rfl ?_
        refine .v (.mv rfl) rfl ?_
        refine .gs rfl rfl rfl rfl ?_
        refine .gs rfl rfl rfl rfl ?_
        refine .gs rfl rfl rfl rfl ?_
        refine .gu rfl rfl rfl rfl ?_
        refine .gu rfl rfl rfl rfl ?_
        refine .gu rfl rfl rfl rfl ?_
        refine .gu rfl rfl rfl rfl ?_
        refine .gu rfl rfl rfl rfl ?_
        refine .gu rfl rfl rfl rfl ?_
        refine .gu rfl rfl rfl rfl ?_
        refine .gu rfl rfl rfl rfl ?_
        refine .gs rfl rfl rfl rfl ?_
        refine .v (.pkT rfl rfl) rfl ?_
        refine .nil ?_
        refine .then ?_
        refine .condT rfl ?_
        refine .exit ?_
        refine .then_exit ?_
        refine .blk_other rfl ?_
        refine .then_exit ?_
        refine .then_exit ?_
        refine .blk_exit ?_
        refine .then ?_
        refine .seq ?_
        refine .region ?_
        refine .v (.mv rfl) rfl ?_
        refine .v (.asn rfl) rfl ?_
        refine .nil ?_
        refine .then ?_
        refine .ret ?_
        refine .front (.there (.there (.there (.there (.there .here))))) ?_
        refine .front (.there (.there (.there (.there (.there .here))))) ?_
        refine .front (.there (.there (.there (.there (.there .here))))) ?_
        refine .front (.there (.there (.there (.there (.there .here))))) ?_
        have hfin : o2 = rng lo hi lim.toNat o (flat (h + 1) t) := by rw [← hq2, suf_end (by rw [← hxn0]; have h_ := h60_3; omega), rng_nil]
        rw [← hfin]
        exact .done _ [(⟨b, 60, _⟩ :: ([⟨nb, 68, _⟩] ++ (fit ++ own pn))) ++ i2] (.t1 rfl rfl) .rfl ⟨_, rfl, rfl, _, _, rfl, hr2⟩ (fun w ho => by simpa [List.append_assoc] using (subl (.cons_cons _ (.cons_cons _ (.cons_cons _ (.cons_cons _ (.cons_cons _ (.cons _ (.cons_cons _ .slnil))))))) w ho))
      · skip
        refine .v (.mv rfl) rfl ?_
        refine .g rfl rfl rfl ?_
        refine .v (.mv rfl) rfl ?_
        refine .g rfl rfl rfl ?_
        refine .v (.lenl Try.underlying22 rfl) rfl ?_
        refine .g rfl rfl rfl ?_
        refine .v (.mv rfl) rfl ?_
        refine .g rfl rfl rfl ?_
        refine .vs (.ge rfl rfl) rfl (fun h65_4 => ?_) (fun h65_4 => ?_)
        · skip
          refine .v (.pkF rfl rfl) rfl ?_
          refine .v (.mv rfl) rfl ?_
          refine .gs rfl rfl rfl rfl ?_
          refine .gs rfl rfl rfl rfl ?_
          refine .gs rfl rfl rfl rfl ?_
          refine .gu rfl rfl rfl rfl ?_
          refine .gu rfl rfl rfl rfl ?_
          refine .gu rfl rfl rfl rfl ?_
          refine .gu rfl rfl rfl rfl ?_
          refine .gu rfl rfl rfl rfl ?_
          refine .gu rfl rfl rfl rfl ?_
          refine .gu rfl rfl rfl rfl ?_
          refine .gu rfl rfl rfl rfl ?_
          refine .gs rfl rfl rfl rfl ?_
          refine .v (.pkT rfl rfl) rfl ?_
          refine .nil ?_
          refine .then ?_
          refine .condT rfl ?_
          refine .exit ?_
          refine .then_exit ?_
          refine .blk_other rfl ?_
          refine .then_exit ?_
          refine .then_exit ?_
          refine .blk_exit ?_
          refine .then ?_
          refine .seq ?_
          refine .region ?_
          refine .v (.mv rfl) rfl ?_
          refine .v (.asn rfl) rfl ?_
          refine .nil ?_
          refine .then ?_
          refine .ret ?_
          refine .front (.there (.there (.there (.there (.there .here))))) ?_
          refine .front (.there (.there (.there (.there (.there .here))))) ?_
          refine .front (.there (.there (.there (.there (.there .here))))) ?_
          refine .front (.there (.there (.there (.there (.there .here))))) ?_
          have hfin : o2 = rng lo hi lim.toNat o (flat (h + 1) t) := by rw [← hq2, rng_full (by have h_ := h65_4; omega)]
          rw [← hfin]
          exact .done _ [(⟨b, 60, _⟩ :: ([⟨nb, 68, _⟩] ++ (fit ++ own pn))) ++ i2] (.t1 rfl rfl) .rfl ⟨_, rfl, rfl, _, _, rfl, hr2⟩ (fun w ho => by simpa [List.append_assoc] using (subl (.cons_cons _ (.cons_cons _ (.cons_cons _ (.cons_cons _ (.cons_cons _ (.cons _ (.cons_cons _ .slnil))))))) w ho))
        · skip
          refine .v (.pkF rfl rfl) rfl ?_
          refine .v (.mv rfl) rfl ?_
          refine .g rfl rfl rfl ?_
          refine .v (.mv rfl) rfl ?_
          refine .g rfl rfl rfl ?_
          refine .vs (.nes rfl rfl) rfl (fun h69_5 => ?_) (fun h69_5 => ?_)
          · skip
            refine .g rfl rfl rfl ?_
            refine .v (.mv rfl) rfl ?_
            refine .g rfl rfl rfl ?_
            obtain ⟨p, hpx⟩ : ∃ y, xn'[q]? = some y := ⟨_, List.getElem?_eq_getElem (by have h_ := h60_3; omega)⟩
            have hpl := (List.getElem?_eq_some_iff.1 hpx).1
            have hpt : t.ps[q]? = some p := by rw [← hxn0]; exact hpx
            have hsn := suf_next (h := h) hlay.1 hpt
            rw [hsn] at hq2 hl2
            have hsr : Srt (p :: restN (h + 1) t (q + 1)) := by rw [← hsn]; exact (hs.sub (rest_sub hlay (by omega))).sub (by rw [hrk]; exact List.sublist_append_right _ _)
            have hplo : slt p.key lo = false := (posK_split hsx lo).2 p (by rw [show posK xn' lo = posK t.ps lo from by rw [hxn0]]; exact List.mem_of_getElem? (i := q - posK t.ps lo) (by rw [List.getElem?_drop, show posK t.ps lo + (q - posK t.ps lo) = q by omega]; exact hpx))
            have hl3 : o2.length + (1 + (restN (h + 1) t (q + 1)).length) ≤ 1000000000 := by rw [List.length_cons] at hl2; omega
            obtain ⟨bpn, dpn, rfl, rfl, hdpn⟩ := hpn.blk (by omega)
            refine .v (.fa0 fl68_0 rfl) rfl ?_
            refine .g rfl rfl rfl ?_
            refine .v (.ldb ty22 rfl (.there .here) rfl) rfl ?_
            refine .g rfl rfl rfl ?_
            refine .v (.mv rfl) rfl ?_
            refine .g rfl rfl rfl ?_
            refine .v (.ixo sl22 rfl rfl (q) ⟨rfl, by have h_ := (List.getElem?_eq_some_iff.1 hpx).1; omega⟩) rfl ?_
            refine .g rfl rfl rfl ?_
            refine .v (.fa0 fl47_0 rfl) rfl ?_
            refine .g rfl rfl rfl ?_
            refine .v (.ldb ty9 rfl (.there (.there (.there (.there (.there (.part (sub_p hn))))))) (encP_ok.get xn' (q) _ hpx dpn 0 _ rfl)) rfl ?_
            refine .g rfl rfl rfl ?_
            refine .v (.mv rfl) rfl ?_
            refine .g rfl rfl rfl ?_
            refine .vb (.ges rfl rfl) rfl (fun h78_6 => ?_) (fun h78_6 => ?_)
            · skip
              refine .g rfl rfl rfl ?_
              refine .v (.pkT rfl rfl) rfl ?_
              refine .v (.pkF rfl rfl) rfl ?_
              refine .nil ?_
              refine .then ?_
              refine .condT rfl ?_
              refine .exit ?_
              refine .then_exit ?_
              refine .blk_other rfl ?_
              refine .then_exit ?_
              refine .then_exit ?_
              refine .blk_exit ?_
              refine .then ?_
              refine .seq ?_
              refine .region ?_
              refine .v (.mv rfl) rfl ?_
              refine .v (.asn rfl) rfl ?_
              refine .nil ?_
              refine .then ?_
              refine .ret ?_
              refine .front (.there (.there (.there (.there (.there .here))))) ?_
              refine .front (.there (.there (.there (.there (.there .here))))) ?_
              refine .front (.there (.there (.there (.there (.there .here))))) ?_
              refine .front (.there (.there (.there (.there (.there .here))))) ?_
              have hph : slt p.key hi = false := by have e_ := h78_6; simpa using e_
              have hnz : ¬ hi.size = 0 := fun e_ => h69_5 (ByteArray.size_eq_zero_iff.1 e_)
              have hfin : o2 = rng lo hi lim.toNat o (flat (h + 1) t) := by rw [← hq2, rng_above hnz (fun x hx => by rcases List.mem_cons.1 hx with rfl | hx; exact hph; (cases e_ : slt x.key hi with | false => rfl | true => (rw [slt_trans ((List.pairwise_cons.1 hsr).1 x hx) e_] at hph; cases hph)))]
              rw [← hfin]
              exact .done _ [(⟨b, 60, _⟩ :: ([⟨nb, 68, _⟩] ++ (fit ++ own pn))) ++ i2] (.t1 rfl rfl) .rfl ⟨_, rfl, rfl, _, _, rfl, hr2⟩ (fun w ho => by simpa [List.append_assoc] using (subl (.cons_cons _ (.cons_cons _ (.cons_cons _ (.cons_cons _ (.cons_cons _ (.cons _ (.cons_cons _ .slnil))))))) w ho))
            · skip
              refine .g rfl rfl rfl ?_
              refine .v (.pkT rfl rfl) rfl ?_
              refine .v (.pkF rfl rfl) rfl ?_
              refine .nil ?_
              refine .then ?_
              refine .condF rfl ?_
              refine .skip ?_
              refine .then ?_
              refine .region ?_
              have hin : inR lo hi p = true := by
                have e_ := h78_6; simp only [Bool.not_eq_false'] at e_; simp [inR, hplo, e_]
              have hltO : o2.length < lim.toNat := by have h_ := h65_4; omega
              have hq3 : rng lo hi lim.toNat (o2 ++ [p]) (restN (h + 1) t (q + 1)) = rng lo hi lim.toNat o (flat (h + 1) t) := by rw [← hq2, rng_one hin hltO]
              have hl4 : (o2 ++ [p]).length + (restN (h + 1) t (q + 1)).length ≤ 1000000000 := by rw [List.length_append, List.length_singleton]; omega
              refine .v (.mv rfl) rfl ?_
              refine .v (.fa0 fl68_0 rfl) rfl ?_
              refine .v (.ldb ty22 rfl (.there .here) rfl) rfl ?_
              refine .v (.mv rfl) rfl ?_
              refine .v (.ixo sl22 rfl rfl (q) ⟨rfl, by have h_ := (List.getElem?_eq_some_iff.1 hpx).1; omega⟩) rfl ?_
              refine .v (.ldm _ ty47 rfl (.there (.there (.there (.there (.there (.part (sub_p hn))))))) rfl (fun j_ v_ hj_ => encP_ok.get xn' (q) _ hpx dpn j_ v_ hj_)) rfl ?_
              refine .nb (.lit1 sl22 ty47 rfl rfl rfl rfl rfl) rfl (fun b7 => ?_)
              refine .ap (.app1 (xs := o2) p sl22 ty47 rfl encP_ok rfl rfl hr2 .here (by omega) (by omega) _ (fun _ => (.there .here))) rfl (fun a3 c3 i3 hr3 => ?_)
              refine .v (.asn rfl) rfl ?_
              refine .nil ?_
              refine .blk ?_
              refine .then ?_
              refine .region ?_
              refine .v (.mv rfl) rfl ?_
              refine .v (.add rfl rfl (by omega)) rfl ?_
              refine .v (.asn rfl) rfl ?_
              refine .nil ?_
              exact .again (⟨o2 ++ [p], a3, c3, i3⟩, q + 1) ⟨hr3, hq3, hl4, by (try dsimp only); omega, by (try dsimp only); rw [← hxn0]; omega⟩ (by (try dsimp only); rw [← hxn0]; omega) (.cons rfl rfl (.cons rfl rfl (.cons rfl rfl (.cons rfl rfl (.cons rfl rfl (.cons rfl rfl (.cons rfl rfl (.cons rfl rfl .nil)))))))) (subl (.cons _ (.cons_cons _ (.cons_cons _ (.cons_cons _ (.cons_cons _ (.cons_cons _ (.cons_cons _ (.cons_cons _ .slnil)))))))))
          · skip
            refine .g rfl rfl rfl ?_
            refine .v (.mv rfl) rfl ?_
            refine .gs rfl rfl rfl rfl ?_
            refine .gs rfl rfl rfl rfl ?_
            refine .gs rfl rfl rfl rfl ?_
            refine .gs rfl rfl rfl rfl ?_
            refine .gs rfl rfl rfl rfl ?_
            refine .gs rfl rfl rfl rfl ?_
            refine .gs rfl rfl rfl rfl ?_
            refine .gs rfl rfl rfl rfl ?_
            refine .g rfl rfl rfl ?_
            refine .v (.pkF rfl rfl) rfl ?_
            refine .v (.pkF rfl rfl) rfl ?_
            refine .nil ?_
            refine .then ?_
            refine .condF rfl ?_
            refine .skip ?_
            refine .then ?_
            refine .region ?_
            obtain ⟨p, hpx⟩ : ∃ y, xn'[q]? = some y := ⟨_, List.getElem?_eq_getElem (by have h_ := h60_3; omega)⟩
            have hpl := (List.getElem?_eq_some_iff.1 hpx).1
            have hpt : t.ps[q]? = some p := by rw [← hxn0]; exact hpx
            have hsn := suf_next (h := h) hlay.1 hpt
            rw [hsn] at hq2 hl2
            have hsr : Srt (p :: restN (h + 1) t (q + 1)) := by rw [← hsn]; exact (hs.sub (rest_sub hlay (by omega))).sub (by rw [hrk]; exact List.sublist_append_right _ _)
            have hplo : slt p.key lo = false := (posK_split hsx lo).2 p (by rw [show posK xn' lo = posK t.ps lo from by rw [hxn0]]; exact List.mem_of_getElem? (i := q - posK t.ps lo) (by rw [List.getElem?_drop, show posK t.ps lo + (q - posK t.ps lo) = q by omega]; exact hpx))
            have hl3 : o2.length + (1 + (restN (h + 1) t (q + 1)).length) ≤ 1000000000 := by rw [List.length_cons] at hl2; omega
            obtain ⟨bpn, dpn, rfl, rfl, hdpn⟩ := hpn.blk (by omega)
            have hin : inR lo hi p = true := by
              have e_ : hi = ⟨#[]⟩ := Classical.not_not.1 h69_5; have e0 : hi.size = 0 := (by rw [e_]; rfl); simp [inR, hplo, e0]
            have hltO : o2.length < lim.toNat := by have h_ := h65_4; omega
            have hq3 : rng lo hi lim.toNat (o2 ++ [p]) (restN (h + 1) t (q + 1)) = rng lo hi lim.toNat o (flat (h + 1) t) := by rw [← hq2, rng_one hin hltO]
            have hl4 : (o2 ++ [p]).length + (restN (h + 1) t (q + 1)).length ≤ 1000000000 := by rw [List.length_append, List.length_singleton]; omega
            refine .v (.mv rfl) rfl ?_
            refine .v (.fa0 fl68_0 rfl) rfl ?_
            refine .v (.ldb ty22 rfl (.there .here) rfl) rfl ?_
            refine .v (.mv rfl) rfl ?_
            refine .v (.ixo sl22 rfl rfl (q) ⟨rfl, by have h_ := (List.getElem?_eq_some_iff.1 hpx).1; omega⟩) rfl ?_
            refine .v (.ldm _ ty47 rfl (.there (.there (.there (.there (.there (.part (sub_p hn))))))) rfl (fun j_ v_ hj_ => encP_ok.get xn' (q) _ hpx dpn j_ v_ hj_)) rfl ?_
            refine .nb (.lit1 sl22 ty47 rfl rfl rfl rfl rfl) rfl (fun b8 => ?_)
            refine .ap (.app1 (xs := o2) p sl22 ty47 rfl encP_ok rfl rfl hr2 .here (by omega) (by omega) _ (fun _ => (.there .here))) rfl (fun a3 c3 i3 hr3 => ?_)
            refine .v (.asn rfl) rfl ?_
            refine .nil ?_
            refine .blk ?_
            refine .then ?_
            refine .region ?_
            refine .v (.mv rfl) rfl ?_
            refine .v (.add rfl rfl (by omega)) rfl ?_
            refine .v (.asn rfl) rfl ?_
            refine .nil ?_
            exact .again (⟨o2 ++ [p], a3, c3, i3⟩, q + 1) ⟨hr3, hq3, hl4, by (try dsimp only); omega, by (try dsimp only); rw [← hxn0]; omega⟩ (by (try dsimp only); rw [← hxn0]; omega) (.cons rfl rfl (.cons rfl rfl (.cons rfl rfl (.cons rfl rfl (.cons rfl rfl (.cons rfl rfl (.cons rfl rfl (.cons rfl rfl .nil)))))))) (subl (.cons _ (.cons_cons _ (.cons_cons _ (.cons_cons _ (.cons_cons _ (.cons_cons _ (.cons_cons _ (.cons_cons _ .slnil)))))))))
    · skip
      refine .v (.pkT rfl rfl) rfl ?_
      refine .nil ?_
      refine .then ?_
      refine .condF rfl ?_
      refine .exit ?_
      refine .then_exit ?_
      refine .then_exit ?_
      refine .blk_exit ?_
      refine .then ?_
      refine .seq ?_
      refine .region ?_
      refine .v (.mv rfl) rfl ?_
      refine .v (.asn rfl) rfl ?_
      refine .nil ?_
      refine .then ?_
      refine .ret ?_
      refine .front (.there (.there (.there (.there (.there .here))))) ?_
      refine .front (.there (.there (.there (.there (.there .here))))) ?_
      refine .front (.there (.there (.there (.there (.there .here))))) ?_
      refine .front (.there (.there (.there (.there (.there .here))))) ?_
      have hfin : x1.xs = rng lo hi lim.toNat o (flat (h + 1) t) := by rw [← hq1, rng_full (by have h_ := h38_2; omega)]
      rw [← hfin]
      exact .done _ [(⟨b, 60, _⟩ :: ([⟨nb, 68, _⟩] ++ (fit ++ own pn))) ++ x1.it] (.t1 rfl rfl) .rfl ⟨_, rfl, rfl, _, _, rfl, hr1⟩ (fun w ho => by simpa [List.append_assoc] using (subl (.cons_cons _ (.cons_cons _ (.cons_cons _ (.cons_cons _ (.cons_cons _ (.cons _ (.cons_cons _ .slnil))))))) w ho))
theorem walk_fn : ∀ h, WalkSpec h
  | 0 => walk_0
  | h + 1 => walk_s h (walk_fn h)
end Go.Proofs.Ytbmpdccoffkjgaa.Ow
