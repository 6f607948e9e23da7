/- Walks. -/
import Derived.Test.YtbmpdccoffkjgaaBh
import Derived.Test.YtbmpdccoffkjgaaTyu
namespace Go.Proofs.Ytbmpdccoffkjgaa.Ow
open Go
set_option linter.unusedVariables false
theorem range_fn (b : Nat) (T : TS) (it : Itm) (F : Mem) (hT : Lies b T it) (h : Nat) (t : Tr) (hlay : Lay T.nodes h t) (hsz : Siz h 0 t) (hs : Srt (flat h t)) (hrt : T.root = t.i) (lo hi : ByteArray) (lim : Int) (hlen : (flat h t).length ≤ 1000000000) : Fn Try.prog 18 #[.pointer (some ⟨b, 0, none⟩), .string lo, .string hi, .int .i64 lim] [it] F (fun v M G => ∃ io', M = [it, io'] ∧ G = F ∧ ∃ a' c', v = .slice a' (rng lo hi lim.toNat [] (flat h t)).length c' ∧ Row 47 encP 2 a' c' (rng lo hi lim.toNat [] (flat h t)) io') := by
  obtain ⟨pn, na, nc, nit, fa, fc, fit, hP⟩ := hT
  obtain ⟨hrn, hrf, hok, hnd, rfl⟩ := hP
  have hln : pn.length = T.nodes.length := by rw [← hnd, List.length_map]
  have hmx := hrn.max
  have hcp := hrn.cap
  have hfm := hrf.max
  have hfcp := hrf.cap
  have hL0 : Lies b T (⟨b, 60, [.slice na pn.length nc, .slice fa T.free.length fc, .int .i64 (T.root : Int), .int .i64 (T.count : Int)]⟩ :: (nit ++ (fit ++ own pn))) := ⟨pn, na, nc, nit, fa, fc, fit, ⟨hrn, hrf, hok, hnd, rfl⟩⟩
  rw [hrt] at hL0 ⊢
  refine Fn.start1 Try.func18 rfl Try.ntmps18 rfl (env := [(0, _), (1, _), (2, _), (3, _)]) rfl ?_
  intro R
  refine .items (L' := [[⟨b, 60, _⟩], nit, fit, own pn, R]) (fun w ho => by simpa [List.append_assoc] using ho) ?_
  refine .seq ?_
  refine .region ?_
  refine .v (.asn rfl) rfl ?_
  refine .nil ?_
  refine .then ?_
  refine .seq ?_
  refine .seq ?_
  refine .region ?_
  refine .v (.mv rfl) rfl ?_
  refine .vF (.eqpn Try.underlying28 rfl rfl) rfl (by simp) ?_
  refine .nil ?_
  refine .then ?_
  refine .condF rfl ?_
  refine .skip ?_
  refine .then ?_
  refine .seq ?_
  refine .region ?_
  refine .v (.mv rfl) rfl ?_
  refine .v (.mv rfl) rfl ?_
  refine .v (.nilc rfl) rfl ?_
  refine .v (.fab fl60_2 rfl) rfl ?_
  refine .v (.ldb ty3 rfl .here rfl) rfl ?_
  refine .v (.mv rfl) rfl ?_
  refine .v (.mv rfl) rfl ?_
  refine .v (.mv rfl) rfl ?_
  obtain ⟨io, hio⟩ : ∃ io : Itm, io = [] := ⟨_, rfl⟩
  refine .items (L' := [io, [⟨b, 60, _⟩], nit, fit, own pn, R]) (fun w ho => by rw [hio]; simpa using ho) ?_
  refine .lend (.rox rfl rfl (Try.call30 _) (fun o_ => [o_, _, _, _, _, _]) rfl (fun _ => .here) (sel4 .here .here .here .here) ((walk_fn h b T _ _ hL0 t hlay hsz hs lo hi lim [] none 0 io (by rw [hio]; exact Row.nil) (by simpa using hlen)).mono (fun v M G _ h_ => h_))) rfl ?_
  rintro _ i2 ⟨a2, c2, rfl, hr2⟩
  refine .v (.asn rfl) rfl ?_
  refine .nil ?_
  refine .then ?_
  refine .ret ?_
  refine .front (.there (.there (.there (.there .here)))) ?_
  refine .front (.there (.there (.there (.there .here)))) ?_
  refine .front (.there (.there (.there (.there .here)))) ?_
  refine .front (.there (.there (.there (.there .here)))) ?_
  exact .done _ [(⟨b, 60, _⟩ :: (nit ++ (fit ++ own pn))), i2] (.t1 rfl rfl) .rfl ⟨_, rfl, rfl, _, _, rfl, hr2⟩ (fun w ho => by simpa [List.append_assoc] using (subl (.cons_cons _ (.cons_cons _ (.cons_cons _ (.cons_cons _ (.cons_cons _ (.cons_cons _ .slnil)))))) w ho))
def CheckSpec (h : Nat) : Prop := ∀ (b : Nat) (T : TS) (it : Itm) (F : Mem) (hT : Lies b T it) (t : Tr) (hlay : Lay T.nodes h t) (hsz : Siz h 0 t) (h2 : t.i ≠ T.root → 2 ≤ t.ps.length) (h1 : h ≠ 0 → 1 ≤ t.ps.length) (hh : h ≤ 1000) (d : Int) (hd : d = ((h + 1 : Nat) : Int)), Fn Try.prog 29 #[.pointer (some ⟨b, 0, none⟩), .int .i64 (t.i : Int), .int .i64 d] [it] F (fun v M G => M = [it] ∧ G = F ∧ v = .bool true)
theorem check_0 : CheckSpec (0) := by
  intro b T it F hT t hlay hsz h2 h1 hh d hd
  obtain ⟨pn, na, nc, nit, fa, fc, fit, hP⟩ := hT
  obtain ⟨hrn, hrf, hok, hnd, rfl⟩ := hP
  have hln : pn.length = T.nodes.length := by rw [← hnd, List.length_map]
  have hmx := hrn.max
  have hcp := hrn.cap
  have hfm := hrf.max
  have hfcp := hrf.cap
  have hL0 : Lies b T (⟨b, 60, [.slice na pn.length nc, .slice fa T.free.length fc, .int .i64 (T.root : Int), .int .i64 (T.count : Int)]⟩ :: (nit ++ (fit ++ own pn))) := ⟨pn, na, nc, nit, fa, fc, fit, ⟨hrn, hrf, hok, hnd, rfl⟩⟩
  have hne : 0 < T.nodes.length := Nat.lt_of_le_of_lt (Nat.zero_le _) (List.getElem?_eq_some_iff.1 hlay.at).1
  obtain ⟨nb, npad, rfl, rfl, hnp⟩ := hrn.blk (by omega)
  have hle1 := hsz.le
  obtain ⟨xn, kn, hatn, hxn0, hkn0⟩ : ∃ x k, T.nodes[t.i]? = some ⟨x, k⟩ ∧ x = t.ps ∧ k = t.ks.map Tr.i := ⟨_, _, hlay.at, rfl, rfl⟩
  have hibn := (List.getElem?_eq_some_iff.1 hatn).1
  obtain ⟨nn, hn, en⟩ := nd_get hnd hatn
  have hon := get_ok hok hn
  obtain ⟨⟨xn', apn, cpn, ipn⟩, ⟨kn', akn, ckn, ikn⟩⟩ := nn
  obtain ⟨rfl, rfl⟩ : xn' = xn ∧ kn' = kn := by simpa [PN.nd] using en
  have hpn : Row 47 encP 2 apn cpn xn' ipn := hon.p
  have hkn : Row 3 encK 1 akn ckn kn' ikn := hon.k
  have hxl : xn'.length = t.ps.length := by rw [hxn0]
  have hkl0 : kn'.length = 0 := by rw [hkn0, hlay.1]; rfl
  refine Fn.start1 Try.func29 rfl Try.ntmps29 rfl (env := [(0, _), (1, _), (2, _)]) rfl ?_
  intro R
  refine .items (L' := [[⟨b, 60, _⟩], [⟨nb, 68, _⟩], fit, own pn, R]) (fun w ho => by simpa [List.append_assoc] using ho) ?_
  refine .seq ?_
  refine .region ?_
  refine .v (.asn rfl) rfl ?_
  refine .nil ?_
  refine .then ?_
  refine .seq ?_
  refine .region ?_
  refine .v (.mv rfl) rfl ?_
  refine .v (.nilc rfl) rfl ?_
  refine .v (.fa0 fl60_0 rfl) rfl ?_
  refine .v (.ldb ty57 rfl .here rfl) rfl ?_
  refine .v (.mv rfl) rfl ?_
  refine .v (.ixo sl57 rfl rfl (t.i) ⟨rfl, by have h_ := (List.getElem?_eq_some_iff.1 hn).1; omega⟩) rfl ?_
  refine .v (.ldm [.slice (apn) (xn').length (cpn), .slice (akn) (kn').length (ckn)] ty68 rfl (.there .here) rfl (fun j_ v_ hj_ => encN_ok.get pn t.i _ hn npad j_ v_ hj_)) rfl ?_
  refine .nb (.alloc ty68 rfl) rfl (fun b1 => ?_)
  refine .st (.stw ty68 rfl rfl rfl rfl rfl .here) ?_
  refine .nil ?_
  refine .then ?_
  refine .seq ?_
  refine .seq ?_
  refine .region ?_
  refine .v (.fa0 fl68_0 rfl) rfl ?_
  refine .v (.ldb ty22 rfl .here rfl) rfl ?_
  refine .v (.lenl Try.underlying22 rfl) rfl ?_
  refine .vF (.gt rfl rfl) rfl (by omega) ?_
  refine .v (.mv rfl) rfl ?_
  refine .g rfl rfl rfl ?_
  refine .v (.mv rfl) rfl ?_
  refine .g rfl rfl rfl ?_
  refine .v (.mv rfl) rfl ?_
  refine .g rfl rfl rfl ?_
  refine .v (.nilc rfl) rfl ?_
  refine .g rfl rfl rfl ?_
  refine .v (.fab fl60_2 rfl) rfl ?_
  refine .g rfl rfl rfl ?_
  refine .v (.ldb ty3 rfl (.there .here) rfl) rfl ?_
  refine .g rfl rfl rfl ?_
  refine .vs (.ne rfl rfl) rfl (fun h27_2 => ?_) (fun h27_2 => ?_)
  · skip
    refine .g rfl rfl rfl ?_
    refine .v (.mv rfl) rfl ?_
    refine .g rfl rfl rfl ?_
    refine .v (.fa0 fl68_0 rfl) rfl ?_
    refine .g rfl rfl rfl ?_
    refine .v (.ldb ty22 rfl .here rfl) rfl ?_
    refine .g rfl rfl rfl ?_
    refine .v (.lenl Try.underlying22 rfl) rfl ?_
    refine .g rfl rfl rfl ?_
    refine .vF (.lt rfl rfl) rfl (by have h_ := h2 (fun e_ => h27_2 (by omega)); omega) ?_
    refine .g rfl rfl rfl ?_
    refine .v (.pkT rfl rfl) rfl ?_
    refine .v (.pkF rfl rfl) rfl ?_
    refine .v (.mv rfl) rfl ?_
    refine .g rfl rfl rfl ?_
    refine .v (.ldw ty68 rfl .here rfl) rfl ?_
    refine .g rfl rfl rfl ?_
    refine .vT (.call rfl rfl (Try.call37 _) (fun G hle hG => leaf_fn _ _ _ _ kn'.length _ G)) rfl (by omega) ?_
    refine .g rfl rfl rfl ?_
    refine .v (.mv rfl) rfl ?_
    refine .g rfl rfl rfl ?_
    refine .vT (.eq rfl rfl) rfl (by omega) ?_
    refine .g rfl rfl rfl ?_
    refine .vF (.neb Try.underlying4 rfl rfl) rfl (by simp) ?_
    refine .v (.pkF rfl rfl) rfl ?_
    refine .nil ?_
    refine .then ?_
    refine .condF rfl ?_
    refine .skip ?_
    refine .then ?_
    refine .seq ?_
    refine .seq ?_
    refine .region ?_
    refine .v (.ldw ty68 rfl .here rfl) rfl ?_
    refine .vT (.call rfl rfl (Try.call37 _) (fun G hle hG => leaf_fn _ _ _ _ kn'.length _ G)) rfl (by omega) ?_
    refine .nil ?_
    refine .then ?_
    refine .condT rfl ?_
    refine .seq ?_
    refine .region ?_
    refine .v (.asn rfl) rfl ?_
    refine .nil ?_
    refine .then ?_
    refine .ret ?_
    refine .then_ret ?_
    refine .front (.there (.there (.there (.there .here)))) ?_
    refine .front (.there (.there (.there (.there .here)))) ?_
    refine .front (.there (.there (.there (.there .here)))) ?_
    refine .front (.there (.there (.there (.there .here)))) ?_
    exact .done _ [_] (.t1 rfl rfl) .rfl ⟨rfl, rfl, rfl⟩ (fun w ho => by simpa [List.append_assoc] using (subl (.cons_cons _ (.cons_cons _ (.cons_cons _ (.cons_cons _ (.cons _ (.cons_cons _ .slnil)))))) w ho))
  · skip
    refine .g rfl rfl rfl ?_
    refine .v (.mv rfl) rfl ?_
    refine .gs rfl rfl rfl rfl ?_
    refine .gs rfl rfl rfl rfl ?_
    refine .gs rfl rfl rfl rfl ?_
    refine .gs rfl rfl rfl rfl ?_
    refine .g rfl rfl rfl ?_
    refine .v (.pkF rfl rfl) rfl ?_
    refine .v (.pkF rfl rfl) rfl ?_
    refine .v (.mv rfl) rfl ?_
    refine .g rfl rfl rfl ?_
    refine .v (.ldw ty68 rfl .here rfl) rfl ?_
    refine .g rfl rfl rfl ?_
    refine .vT (.call rfl rfl (Try.call37 _) (fun G hle hG => leaf_fn _ _ _ _ kn'.length _ G)) rfl (by omega) ?_
    refine .g rfl rfl rfl ?_
    refine .v (.mv rfl) rfl ?_
    refine .g rfl rfl rfl ?_
    refine .vT (.eq rfl rfl) rfl (by omega) ?_
    refine .g rfl rfl rfl ?_
    refine .vF (.neb Try.underlying4 rfl rfl) rfl (by simp) ?_
    refine .v (.pkF rfl rfl) rfl ?_
    refine .nil ?_
    refine .then ?_
    refine .condF rfl ?_
    refine .skip ?_
    refine .then ?_
    refine .seq ?_
    refine .seq ?_
    refine .region ?_
    refine .v (.ldw ty68 rfl .here rfl) rfl ?_
    refine .vT (.call rfl rfl (Try.call37 _) (fun G hle hG => leaf_fn _ _ _ _ kn'.length _ G)) rfl (by omega) ?_
    refine .nil ?_
    refine .then ?_
    refine .condT rfl ?_
    refine .seq ?_
    refine .region ?_
    refine .v (.asn rfl) rfl ?_
    refine .nil ?_
    refine .then ?_
    refine .ret ?_
    refine .then_ret ?_
    refine .front (.there (.there (.there (.there .here)))) ?_
    refine .front (.there (.there (.there (.there .here)))) ?_
    refine .front (.there (.there (.there (.there .here)))) ?_
    refine .front (.there (.there (.there (.there .here)))) ?_
    exact .done _ [_] (.t1 rfl rfl) .rfl ⟨rfl, rfl, rfl⟩ (fun w ho => by simpa [List.append_assoc] using (subl (.cons_cons _ (.cons_cons _ (.cons_cons _ (.cons_cons _ (.cons _ (.cons_cons _ .slnil)))))) w ho))
theorem check_s (h : Nat) (ih : CheckSpec h) : CheckSpec (h + 1) := by
  intro b T it F hT t hlay hsz h2 h1 hh d hd
  obtain ⟨pn, na, nc, nit, fa, fc, fit, hP⟩ := hT
  obtain ⟨hrn, hrf, hok, hnd, rfl⟩ := hP
  have hln : pn.length = T.nodes.length := by rw [← hnd, List.length_map]
  have hmx := hrn.max
  have hcp := hrn.cap
  have hfm := hrf.max
  have hfcp := hrf.cap
  have hL0 : Lies b T (⟨b, 60, [.slice na pn.length nc, .slice fa T.free.length fc, .int .i64 (T.root : Int), .int .i64 (T.count : Int)]⟩ :: (nit ++ (fit ++ own pn))) := ⟨pn, na, nc, nit, fa, fc, fit, ⟨hrn, hrf, hok, hnd, rfl⟩⟩
  have hne : 0 < T.nodes.length := Nat.lt_of_le_of_lt (Nat.zero_le _) (List.getElem?_eq_some_iff.1 hlay.at).1
  obtain ⟨nb, npad, rfl, rfl, hnp⟩ := hrn.blk (by omega)
  have hle1 := hsz.le
  obtain ⟨xn, kn, hatn, hxn0, hkn0⟩ : ∃ x k, T.nodes[t.i]? = some ⟨x, k⟩ ∧ x = t.ps ∧ k = t.ks.map Tr.i := ⟨_, _, hlay.at, rfl, rfl⟩
  have hibn := (List.getElem?_eq_some_iff.1 hatn).1
  obtain ⟨nn, hn, en⟩ := nd_get hnd hatn
  have hon := get_ok hok hn
  obtain ⟨⟨xn', apn, cpn, ipn⟩, ⟨kn', akn, ckn, ikn⟩⟩ := nn
  obtain ⟨rfl, rfl⟩ : xn' = xn ∧ kn' = kn := by simpa [PN.nd] using en
  have hpn : Row 47 encP 2 apn cpn xn' ipn := hon.p
  have hkn : Row 3 encK 1 akn ckn kn' ikn := hon.k
  have hxl : xn'.length = t.ps.length := by rw [hxn0]
  have hkl0 : kn'.length = t.ps.length + 1 := by rw [hkn0, List.length_map, hlay.1]
  refine Fn.start1 Try.func29 rfl Try.ntmps29 rfl (env := [(0, _), (1, _), (2, _)]) rfl ?_
  intro R
  refine .items (L' := [[⟨b, 60, _⟩], [⟨nb, 68, _⟩], fit, own pn, R]) (fun w ho => by simpa [List.append_assoc] using ho) ?_
  refine .seq ?_
  refine .region ?_
  refine .v (.asn rfl) rfl ?_
  refine .nil ?_
  refine .then ?_
  refine .seq ?_
  refine .region ?_
  refine .v (.mv rfl) rfl ?_
  refine .v (.nilc rfl) rfl ?_
  refine .v (.fa0 fl60_0 rfl) rfl ?_
  refine .v (.ldb ty57 rfl .here rfl) rfl ?_
  refine .v (.mv rfl) rfl ?_
  refine .v (.ixo sl57 rfl rfl (t.i) ⟨rfl, by have h_ := (List.getElem?_eq_some_iff.1 hn).1; omega⟩) rfl ?_
  refine .v (.ldm [.slice (apn) (xn').length (cpn), .slice (akn) (kn').length (ckn)] ty68 rfl (.there .here) rfl (fun j_ v_ hj_ => encN_ok.get pn t.i _ hn npad j_ v_ hj_)) rfl ?_
  refine .nb (.alloc ty68 rfl) rfl (fun b1 => ?_)
  refine .st (.stw ty68 rfl rfl rfl rfl rfl .here) ?_
  refine .nil ?_
  refine .then ?_
  refine .seq ?_
  refine .seq ?_
  refine .region ?_
  refine .v (.fa0 fl68_0 rfl) rfl ?_
  refine .v (.ldb ty22 rfl .here rfl) rfl ?_
  refine .v (.lenl Try.underlying22 rfl) rfl ?_
  refine .vF (.gt rfl rfl) rfl (by omega) ?_
  refine .v (.mv rfl) rfl ?_
  refine .g rfl rfl rfl ?_
  refine .v (.mv rfl) rfl ?_
  refine .g rfl rfl rfl ?_
  refine .v (.mv rfl) rfl ?_
  refine .g rfl rfl rfl ?_
  refine .v (.nilc rfl) rfl ?_
  refine .g rfl rfl rfl ?_
  refine .v (.fab fl60_2 rfl) rfl ?_
  refine .g rfl rfl rfl ?_
  refine .v (.ldb ty3 rfl (.there .here) rfl) rfl ?_
  refine .g rfl rfl rfl ?_
  refine .vs (.ne rfl rfl) rfl (fun h27_2 => ?_) (fun h27_2 => ?_)
  · skip
    refine .g rfl rfl rfl ?_
    refine .v (.mv rfl) rfl ?_
    refine .g rfl rfl rfl ?_
    refine .v (.fa0 fl68_0 rfl) rfl ?_
    refine .g rfl rfl rfl ?_
    refine .v (.ldb ty22 rfl .here rfl) rfl ?_
    refine .g rfl rfl rfl ?_
    refine .v (.lenl Try.underlying22 rfl) rfl ?_
    refine .g rfl rfl rfl ?_
    refine .vF (.lt rfl rfl) rfl (by have h_ := h2 (fun e_ => h27_2 (by omega)); omega) ?_
    refine .g rfl rfl rfl ?_
    refine .v (.pkT rfl rfl) rfl ?_
    refine .v (.pkF rfl rfl) rfl ?_
    refine .v (.mv rfl) rfl ?_
    refine .g rfl rfl rfl ?_
    refine .v (.ldw ty68 rfl .here rfl) rfl ?_
    refine .g rfl rfl rfl ?_
    refine .vF (.call rfl rfl (Try.call37 _) (fun G hle hG => leaf_fn _ _ _ _ kn'.length _ G)) rfl (by omega) ?_
    refine .g rfl rfl rfl ?_
    refine .v (.mv rfl) rfl ?_
    refine .g rfl rfl rfl ?_
    refine .vF (.eq rfl rfl) rfl (by omega) ?_
    refine .g rfl rfl rfl ?_
    refine .vF (.neb Try.underlying4 rfl rfl) rfl (by simp) ?_
    refine .v (.pkF rfl rfl) rfl ?_
    refine .nil ?_
    refine .then ?_
    refine .condF rfl ?_
    refine .skip ?_
    refine .then ?_
    refine .seq ?_
    refine .seq ?_
    refine .region ?_
    refine .v (.ldw ty68 rfl .here rfl) rfl ?_
    refine .vF (.call rfl rfl (Try.call37 _) (fun G hle hG => leaf_fn _ _ _ _ kn'.length _ G)) rfl (by omega) ?_
    refine .nil ?_
    refine .then ?_
    refine .condF rfl ?_
    refine .skip ?_
    refine .then ?_
    refine .seq ?_
    refine .seq ?_
    refine .region ?_
    refine .v (.fab fl68_1 rfl) rfl ?_
    refine .v (.ldb ty58 rfl .here rfl) rfl ?_
    refine .v (.lenl Try.underlying58 rfl) rfl ?_
    refine .v (.mv rfl) rfl ?_
    refine .nil ?_
    refine .then ?_
    refine .block ?_
    refine WC.loop0 (fx := [(0, _), (2, _), (7, _), (45, _), (46, _)]) (.cons rfl rfl (.cons rfl rfl (.cons rfl rfl (.cons rfl rfl (.cons rfl rfl .nil))))) (ι := Nat) (fun k => k ≤ kn'.length) (fun k => kn'.length - k) (fun k => [(47, .int .i64 (k : Int))]) 0 (by omega) ?he ?round
    case he => exact .cons rfl rfl (.cons rfl rfl (.cons rfl rfl (.cons rfl rfl (.cons rfl rfl (.cons rfl rfl .nil)))))
    case round =>
      intro k hk
      refine .seq ?_
      refine .region ?_
      refine .vs (.lt rfl rfl) rfl (fun h48_3 => ?_) (fun h48_3 => ?_)
      · skip
        refine .nil ?_
        refine .then ?_
        refine .seq ?_
        refine .condT rfl ?_
        refine .skip ?_
        refine .then ?_
        refine .seq ?_
        refine .block ?_
        refine .seq ?_
        refine .region ?_
        obtain ⟨c, hc⟩ : ∃ y, t.ks[k]? = some y := ⟨_, List.getElem?_eq_getElem (by have h_ := h48_3; rw [hkn0, List.length_map] at h_; omega)⟩
        have hcm := List.mem_of_getElem? hc
        have hkc : kn'[k]? = some c.i := by rw [hkn0, List.getElem?_map, hc]; rfl
        have hkl := (List.getElem?_eq_some_iff.1 hkc).1
        obtain ⟨bkn, dkn, rfl, rfl, hdkn⟩ := hkn.blk (by omega)
        refine .v (.ixo sl58 rfl rfl (k) ⟨by omega, by have h_ := (List.getElem?_eq_some_iff.1 hkc).1; omega⟩) rfl ?_
        refine .v (.ldb ty3 rfl (.there (.there (.there (.there (.part (sub_k hn)))))) (encK_ok.get kn' (k) _ hkc dkn 0 _ rfl)) rfl ?_
        refine .v (.asn rfl) rfl ?_
        refine .nil ?_
        refine .then ?_
        refine .seq ?_
        refine .region ?_
        refine .v (.mv rfl) rfl ?_
        refine .v (.mv rfl) rfl ?_
        refine .v (.mv rfl) rfl ?_
        refine .v (.sub rfl rfl (by omega)) rfl ?_
        refine .v (.ro rfl rfl (Try.call29 _) (sel4 (.there .here) (.there .here) (.there .here) (.there .here)) (ih b T _ _ hL0 c (hlay.2.2 c hcm) ((hsz.2.2 c hcm).mono (Nat.zero_le _)) (fun _ => (hsz.2.2 c hcm).ge) (fun _ => Nat.le_trans (by decide) (hsz.2.2 c hcm).ge) (by omega) _ (by omega))) rfl ?_
        refine .v (.not rfl) rfl ?_
        refine .nil ?_
        refine .then ?_
        refine .condF rfl ?_
        refine .skip ?_
        refine .blk ?_
        refine .then ?_
        refine .region ?_
        refine .v (.add rfl rfl (by omega)) rfl ?_
        refine .v (.mv rfl) rfl ?_
        refine .nil ?_
        exact .again (k + 1) (by omega) (by omega) (.cons rfl rfl (.cons rfl rfl (.cons rfl rfl (.cons rfl rfl (.cons rfl rfl (.cons rfl rfl .nil)))))) (subl (.refl _))
      · skip
        refine .nil ?_
        refine .then ?_
        refine .seq ?_
        refine .condF rfl ?_
        refine .exit ?_
        refine .then_exit ?_
        refine .then_exit ?_
        refine .blk_exit ?_
        refine .then ?_
        refine .seq ?_
        refine .region ?_
        refine .v (.fab fl68_1 rfl) rfl ?_
        refine .v (.ldb ty58 rfl .here rfl) rfl ?_
        refine .v (.lenl Try.underlying58 rfl) rfl ?_
        refine .v (.fa0 fl68_0 rfl) rfl ?_
        refine .v (.ldb ty22 rfl .here rfl) rfl ?_
        refine .v (.lenl Try.underlying22 rfl) rfl ?_
        refine .v (.add rfl rfl (by omega)) rfl ?_
        refine .vT (.eq rfl rfl) rfl (by omega) ?_
        refine .v (.mv rfl) rfl ?_
        refine .g rfl rfl rfl ?_
        refine .v (.fa0 fl68_0 rfl) rfl ?_
        refine .g rfl rfl rfl ?_
        refine .v (.ldb ty22 rfl .here rfl) rfl ?_
        refine .g rfl rfl rfl ?_
        refine .v (.lenl Try.underlying22 rfl) rfl ?_
        refine .g rfl rfl rfl ?_
        refine .vT (.gt rfl rfl) rfl (by have h_ := h1 (by omega); omega) ?_
        refine .v (.pkT rfl rfl) rfl ?_
        refine .v (.asn rfl) rfl ?_
        refine .nil ?_
        refine .then ?_
        refine .ret ?_
        refine .front (.there (.there (.there (.there .here)))) ?_
        refine .front (.there (.there (.there (.there .here)))) ?_
        refine .front (.there (.there (.there (.there .here)))) ?_
        refine .front (.there (.there (.there (.there .here)))) ?_
        exact .done _ [_] (.t1 rfl rfl) .rfl ⟨rfl, rfl, rfl⟩ (fun w ho => by simpa [List.append_assoc] using (subl (.cons_cons _ (.cons_cons _ (.cons_cons _ (.cons_cons _ (.cons _ (.cons_cons _ .slnil)))))) w ho))
  · skip
    refine .g rfl rfl rfl ?_
    refine .v (.mv rfl) rfl ?_
    refine .gs rfl rfl rfl rfl ?_
    refine .gs rfl rfl rfl rfl ?_
    refine .gs rfl rfl rfl rfl ?_
    refine .gs rfl rfl rfl rfl ?_
    refine .g rfl rfl rfl ?_
    refine .v (.pkF rfl rfl) rfl ?_
    refine .v (.pkF rfl rfl) rfl ?_
    refine .v (.mv rfl) rfl ?_
    refine .g rfl rfl rfl ?_
    refine .v (.ldw ty68 rfl .here rfl) rfl ?_
    refine .g rfl rfl rfl ?_
    refine .vF (.call rfl rfl (Try.call37 _) (fun G hle hG => leaf_fn _ _ _ _ kn'.length _ G)) rfl (by omega) ?_
    refine .g rfl rfl rfl ?_
    refine .v (.mv rfl) rfl ?_
    refine .g rfl rfl rfl ?_
    refine .vF (.eq rfl rfl) rfl (by omega) ?_
    refine .g rfl rfl rfl ?_
    refine .vF (.neb Try.underlying4 rfl rfl) rfl (by simp) ?_
    refine .v (.pkF rfl rfl) rfl ?_
    refine .nil ?_
    refine .then ?_
    refine .condF rfl ?_
    refine .skip ?_
    refine .then ?_
    refine .seq ?_
    refine .seq ?_
    refine .region ?_
    refine .v (.ldw ty68 rfl .here rfl) rfl ?_
    refine .vF (.call rfl rfl (Try.call37 _) (fun G hle hG => leaf_fn _ _ _ _ kn'.length _ G)) rfl (by omega) ?_
    refine .nil ?_
    refine .then ?_
    refine .condF rfl ?_
    refine .skip ?_
    refine .then ?_
    refine .seq ?_
    refine .seq ?_
    refine .region ?_
    refine .v (.fab fl68_1 rfl) rfl ?_
    refine .v (.ldb ty58 rfl .here rfl) rfl ?_
    refine .v (.lenl Try.underlying58 rfl) rfl ?_
    refine .v (.mv rfl) rfl ?_
    refine .nil ?_
    refine .then ?_
    refine .block ?_
    refine WC.loop0 (fx := [(0, _), (2, _), (7, _), (45, _), (46, _)]) (.cons rfl rfl (.cons rfl rfl (.cons rfl rfl (.cons rfl rfl (.cons rfl rfl .nil))))) (ι := Nat) (fun k => k ≤ kn'.length) (fun k => kn'.length - k) (fun k => [(47, .int .i64 (k : Int))]) 0 (by omega) ?he ?round
    case he => exact .cons rfl rfl (.cons rfl rfl (.cons rfl rfl (.cons rfl rfl (.cons rfl rfl (.cons rfl rfl .nil)))))
    case round =>
      intro k hk
      refine .seq ?_
      refine .region ?_
      refine .vs (.lt rfl rfl) rfl (fun h48_4 => ?_) (fun h48_4 => ?_)
      · skip
        refine .nil ?_
        refine .then ?_
        refine .seq ?_
        refine .condT rfl ?_
        refine .skip ?_
        refine .then ?_
        refine .seq ?_
        refine .block ?_
        refine .seq ?_
        refine .region ?_
        obtain ⟨c, hc⟩ : ∃ y, t.ks[k]? = some y := ⟨_, List.getElem?_eq_getElem (by have h_ := h48_4; rw [hkn0, List.length_map] at h_; omega)⟩
        have hcm := List.mem_of_getElem? hc
        have hkc : kn'[k]? = some c.i := by rw [hkn0, List.getElem?_map, hc]; rfl
        have hkl := (List.getElem?_eq_some_iff.1 hkc).1
        obtain ⟨bkn, dkn, rfl, rfl, hdkn⟩ := hkn.blk (by omega)
        refine .v (.ixo sl58 rfl rfl (k) ⟨by omega, by have h_ := (List.getElem?_eq_some_iff.1 hkc).1; omega⟩) rfl ?_
        refine .v (.ldb ty3 rfl (.there (.there (.there (.there (.part (sub_k hn)))))) (encK_ok.get kn' (k) _ hkc dkn 0 _ rfl)) rfl ?_
        refine .v (.asn rfl) rfl ?_
        refine .nil ?_
        refine .then ?_
        refine .seq ?_
        refine .region ?_
        refine .v (.mv rfl) rfl ?_
        refine .v (.mv rfl) rfl ?_
        refine .v (.mv rfl) rfl ?_
        refine .v (.sub rfl rfl (by omega)) rfl ?_
        refine .v (.ro rfl rfl (Try.call29 _) (sel4 (.there .here) (.there .here) (.there .here) (.there .here)) (ih b T _ _ hL0 c (hlay.2.2 c hcm) ((hsz.2.2 c hcm).mono (Nat.zero_le _)) (fun _ => (hsz.2.2 c hcm).ge) (fun _ => Nat.le_trans (by decide) (hsz.2.2 c hcm).ge) (by omega) _ (by omega))) rfl ?_
        refine .v (.not rfl) rfl ?_
        refine .nil ?_
        refine .then ?_
        refine .condF rfl ?_
        refine .skip ?_
        refine .blk ?_
        refine .then ?_
        refine .region ?_
        refine .v (.add rfl rfl (by omega)) rfl ?_
        refine .v (.mv rfl) rfl ?_
        refine .nil ?_
        exact .again (k + 1) (by omega) (by omega) (.cons rfl rfl (.cons rfl rfl (.cons rfl rfl (.cons rfl rfl (.cons rfl rfl (.cons rfl rfl .nil)))))) (subl (.refl _))
      · skip
        refine .nil ?_
        refine .then ?_
        refine .seq ?_
        refine .condF rfl ?_
        refine .exit ?_
        refine .then_exit ?_
        refine .then_exit ?_
        refine .blk_exit ?_
        refine .then ?_
        refine .seq ?_
        refine .region ?_
        refine .v (.fab fl68_1 rfl) rfl ?_
        refine .v (.ldb ty58 rfl .here rfl) rfl ?_
        refine .v (.lenl Try.underlying58 rfl) rfl ?_
        refine .v (.fa0 fl68_0 rfl) rfl ?_
        refine .v (.ldb ty22 rfl .here rfl) rfl ?_
        refine .v (.lenl Try.underlying22 rfl) rfl ?_
        refine .v (.add rfl rfl (by omega)) rfl ?_
        refine .vT (.eq rfl rfl) rfl (by omega) ?_
        refine .v (.mv rfl) rfl ?_
        refine .g rfl rfl rfl ?_
        refine .v (.fa0 fl68_0 rfl) rfl ?_
        refine .g rfl rfl rfl ?_
        refine .v (.ldb ty22 rfl .here rfl) rfl ?_
        refine .g rfl rfl rfl ?_
        refine .v (.lenl Try.underlying22 rfl) rfl ?_
        refine .g rfl rfl rfl ?_
        refine .vT (.gt rfl rfl) rfl (by have h_ := h1 (by omega); omega) ?_
        refine .v (.pkT rfl rfl) rfl ?_
        refine .v (.asn rfl) rfl ?_
        refine .nil ?_
        refine .then ?_
        refine .ret ?_
        refine .front (.there (.there (.there (.there .here)))) ?_
        refine .front (.there (.there (.there (.there .here)))) ?_
        refine .front (.there (.there (.there (.there .here)))) ?_
        refine .front (.there (.there (.there (.there .here)))) ?_
        exact .done _ [_] (.t1 rfl rfl) .rfl ⟨rfl, rfl, rfl⟩ (fun w ho => by simpa [List.append_assoc] using (subl (.cons_cons _ (.cons_cons _ (.cons_cons _ (.cons_cons _ (.cons _ (.cons_cons _ .slnil)))))) w ho))
theorem check_fn : ∀ h, CheckSpec h
  | 0 => check_0
  | h + 1 => check_s h (check_fn h)
theorem new_fn (F : Mem) : Fn Try.prog 20 #[] [] F (fun v M G => ∃ b it, M = [it] ∧ G = F ∧ v = .pointer (some ⟨b, 0, none⟩) ∧ Lies b ⟨[⟨[], []⟩], [], 0, 0⟩ it) := by
  refine Fn.start0 Try.func20 rfl Try.ntmps20 rfl (env := []) rfl ?_
  intro R
  refine .seq ?_
  refine .region ?_
  refine .v (.asn rfl) rfl ?_
  refine .nil ?_
  refine .then ?_
  refine .seq ?_
  refine .region ?_
  refine .nb (.mks (cs := [.slice none 0 0, .slice none 0 0]) 1 sl57 ty68 rfl rfl rfl (by decide) (by decide) (by kernel_rfl)) rfl (fun b1 => ?_)
  refine .v (.build rfl (fun w => bd60_0 w _ _ _)) rfl ?_
  refine .nb (.box rfl rfl) rfl (fun b2 => ?_)
  refine .v (.asn rfl) rfl ?_
  refine .nil ?_
  refine .then ?_
  refine .ret ?_
  exact .done _ [[⟨b2, 60, _⟩, ⟨b1, 68, _⟩]] (.t1 rfl rfl) .rfl ⟨_, _, rfl, rfl, rfl, ⟨[noN], some ⟨b1, 0, none⟩, 1, [⟨b1, 68, _⟩], none, 0, [], ⟨Row.of [] rfl rfl (Nat.le_refl _) (by decide), Row.nil, fun n hn => by simp at hn; subst hn; exact noN_ok, rfl, rfl⟩⟩⟩ (fun w ho => by simpa [encN, noN] using (subl (.cons_cons _ (.cons_cons _ (.cons_cons _ .slnil))) w ho))
end Go.Proofs.Ytbmpdccoffkjgaa.Ow
