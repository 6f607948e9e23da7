/- Walks. -/
import Derived.Test.YtbmpdccoffkjgaaBk
import Derived.Test.YtbmpdccoffkjgaaBtn
import Derived.Test.YtbmpdccoffkjgaaTyu
namespace Go.Proofs.Ytbmpdccoffkjgaa.Ow
open Go
set_option linter.unusedVariables false
/-- A tree that holds a list. -/
def Tre (b : Nat) (l : List Pr) (n : Nat) (it : Itm) : Prop := ∃ T h t, Lies b T it ∧ TInv T h t ∧ flat h t = l ∧ T.nodes.length ≤ n
theorem Tre.srt {b : Nat} {l : List Pr} {n : Nat} {it : Itm} (h : Tre b l n it) : Srt l := by
  obtain ⟨T, h, t, _, hI, rfl, _⟩ := h
  exact hI.srt
theorem new_tre (F : Mem) : Fn Try.prog 20 #[] [] F (fun v M G => ∃ it', M = [it'] ∧ (∃ b, v = .pointer (some ⟨b, 0, none⟩) ∧ Tre b [] 1 it')) :=
  (new_fn F).mono fun v M G _ ⟨b, it, h1, h2, h3, h4⟩ => ⟨it, h1, b, h3, T0, 0, .node 0 [] [], h4, T0_inv, rfl, Nat.le_refl _⟩
section
variable {b : Nat} {l : List Pr} {n : Nat} {it : Itm} (F : Mem) (hT : Tre b l n it)
include hT
theorem put_tre (k v : ByteArray) (hl : l.length ≤ 900) (hn : n ≤ 100000000) : Fn Try.prog 21 #[.pointer (some ⟨b, 0, none⟩), .string k, .string v] [it] F (fun u M G => ∃ it', M = [it'] ∧ (Tre b (putS l k v) (n + 1000) it' ∧ u = .bool (!hasK l k))) := by
  obtain ⟨T, h, t, hL, hI, rfl, hb⟩ := hT
  have hh := hI.height
  have hc := hI.cnt
  obtain ⟨T', h', t', p1, p2, p3, p4⟩ := put_inv (k := k) (v := v) hI (by omega) (by omega)
  exact (put_fn b T it F hL k v T' _ p1).mono fun u M G _ ⟨it', h1, h2, h3, h4⟩ => ⟨it', h1, ⟨T', h', t', h3, p2, p3, by omega⟩, h4⟩
theorem len_tre : Fn Try.prog 16 #[.pointer (some ⟨b, 0, none⟩)] [it] F (fun v M G => M = [it] ∧ G = F ∧ v = .int .i64 (l.length : Int)) := by
  obtain ⟨T, h, t, hL, hI, rfl, hb⟩ := hT
  have := len_fn b T it F hL
  rw [hI.cnt] at this
  exact this
theorem get_tre (k : ByteArray) : Fn Try.prog 25 #[.pointer (some ⟨b, 0, none⟩), .string k] [it] F (fun v M G => M = [it] ∧ G = F ∧ v = .tuple #[.string ((getS l k).getD ⟨#[]⟩), .bool (hasK l k)]) := by
  obtain ⟨T, h, t, hL, hI, rfl, hb⟩ := hT
  exact get_fn b T it F hL h t hI.lay hI.siz hI.srt hI.root k
theorem range_tre (lo hi : ByteArray) (lim : Int) (hl : l.length ≤ 1000000000) : Fn Try.prog 18 #[.pointer (some ⟨b, 0, none⟩), .string lo, .string hi, .int .i64 lim] [it] F (fun v M G => ∃ io', M = [it, io'] ∧ G = F ∧ ∃ a' c', v = .slice a' (rng lo hi lim.toNat [] l).length c' ∧ Row 47 encP 2 a' c' (rng lo hi lim.toNat [] l) io') := by
  obtain ⟨T, h, t, hL, hI, rfl, hb⟩ := hT
  exact range_fn b T it F hL h t hI.lay hI.siz hI.srt hI.root lo hi lim hl
theorem check_tre (hl : l.length ≤ 900) : Fn Try.prog 15 #[.pointer (some ⟨b, 0, none⟩)] [it] F (fun v M G => M = [it] ∧ G = F ∧ v = .bool true) := by
  obtain ⟨T, h, t, hL, hI, rfl, hb⟩ := hT
  have hh := hI.height
  have hc := hI.cnt
  exact check_all b T it F hL h t hI (by omega) (by omega)
/-- How deep a tree of a list may be. -/
theorem depth_tre (hl : l.length ≤ 900) : ∃ d : Nat, (l.length = 0 → d = 0) ∧ (l.length ≠ 0 → d = 1 ∨ 1 ≤ d ∧ 2 * 3 ^ (d - 1) ≤ l.length + 1) ∧ ∀ F, Fn Try.prog 23 #[.pointer (some ⟨b, 0, none⟩)] [it] F (fun v M G => M = [it] ∧ G = F ∧ v = .int .i64 (d : Int)) := by
  obtain ⟨T, h, t, hL, hI, rfl, hb⟩ := hT
  have hh := hI.height
  have hc := hI.cnt
  refine ⟨if T.count = 0 then 0 else h + 1, fun h0 => by rw [if_pos (by omega)], fun h0 => ?_, fun F => ?_⟩
  · rw [if_neg (by omega)]
    rcases hI.deeper with h1 | h1
    · right
      refine ⟨by omega, ?_⟩
      rw [show h + 1 - 1 = h by omega]
      omega
    · left; omega
  · have := depth_fn b T it F hL h t hI.lay hI.root (by omega)
    rw [show (((if T.count = 0 then 0 else h + 1 : Nat)) : Int) = (if T.count = 0 then 0 else ((h + 1 : Nat) : Int)) by split <;> rfl]
    exact this
end
theorem slt_ab : slt ⟨#[97]⟩ ⟨#[98]⟩ = true := by
  unfold slt
  rw [ByteArray.toList_eq, ByteArray.toList_eq]
  rfl
theorem awake_list : putS (putS [] ⟨#[98]⟩ ⟨#[49]⟩) ⟨#[97]⟩ ⟨#[50]⟩ = [⟨⟨#[97]⟩, ⟨#[50]⟩⟩, ⟨⟨#[98]⟩, ⟨#[49]⟩⟩] := by
  simp [putS, slt_ab, slt_asymm slt_ab]
theorem awake_has : hasK (putS [] ⟨#[98]⟩ ⟨#[49]⟩) ⟨#[97]⟩ = false := by
  simp [putS, hasK]

theorem put_nil (k v : ByteArray) (F : Mem) : Fn Try.prog 21 #[.pointer none, .string k, .string v] [] F (fun u _ _ => u = .bool false) := by
  refine Fn.start0 Try.func21 rfl Try.ntmps21 rfl (env := [(0, _), (1, _), (2, _)]) rfl ?_
  intro R
  refine .seq ?_
  refine .region ?_
  refine .v (.asn rfl) rfl ?_
  refine .nil ?_
  refine .then ?_
  refine .seq ?_
  refine .seq ?_
  refine .region ?_
  refine .v (.mv rfl) rfl ?_
  refine .vT (.eqpn Try.underlying28 rfl rfl) rfl rfl ?_
  refine .nil ?_
  refine .then ?_
  refine .condT rfl ?_
  refine .seq ?_
  refine .region ?_
  refine .v (.asn rfl) rfl ?_
  refine .nil ?_
  refine .then ?_
  refine .ret ?_
  refine .then_ret ?_
  exact .done _ [] (.t1 rfl rfl) .rfl rfl (Inn.keep .here)
theorem delete_nil (k : ByteArray) (F : Mem) : Fn Try.prog 22 #[.pointer none, .string k] [] F (fun u _ _ => u = .bool false) := by
  refine Fn.start0 Try.func22 rfl Try.ntmps22 rfl (env := [(0, _), (1, _)]) rfl ?_
  intro R
  refine .seq ?_
  refine .region ?_
  refine .v (.asn rfl) rfl ?_
  refine .nil ?_
  refine .then ?_
  refine .seq ?_
  refine .seq ?_
  refine .region ?_
  refine .v (.mv rfl) rfl ?_
  refine .vT (.eqpn Try.underlying28 rfl rfl) rfl rfl ?_
  refine .nil ?_
  refine .then ?_
  refine .condT rfl ?_
  refine .seq ?_
  refine .region ?_
  refine .v (.asn rfl) rfl ?_
  refine .nil ?_
  refine .then ?_
  refine .ret ?_
  refine .then_ret ?_
  exact .done _ [] (.t1 rfl rfl) .rfl rfl (Inn.keep .here)
theorem get_nil (k : ByteArray) (F : Mem) : Fn Try.prog 25 #[.pointer none, .string k] [] F (fun u _ _ => u = .tuple #[.string ⟨#[]⟩, .bool false]) := by
  refine Fn.start0 Try.func25 rfl Try.ntmps25 rfl (env := [(0, _), (1, _)]) rfl ?_
  intro R
  refine .seq ?_
  refine .region ?_
  refine .v (.asn rfl) rfl ?_
  refine .v (.asn rfl) rfl ?_
  refine .nil ?_
  refine .then ?_
  refine .seq ?_
  refine .seq ?_
  refine .region ?_
  refine .v (.mv rfl) rfl ?_
  refine .vT (.eqpn Try.underlying28 rfl rfl) rfl rfl ?_
  refine .nil ?_
  refine .then ?_
  refine .condT rfl ?_
  refine .seq ?_
  refine .region ?_
  refine .v (.asn rfl) rfl ?_
  refine .v (.asn rfl) rfl ?_
  refine .nil ?_
  refine .then ?_
  refine .ret ?_
  refine .then_ret ?_
  exact .done _ [] (.t2 rfl rfl rfl) .rfl rfl (Inn.keep .here)
theorem range_nil (lo hi : ByteArray) (lim : Int) (F : Mem) : Fn Try.prog 18 #[.pointer none, .string lo, .string hi, .int .i64 lim] [] F (fun u _ _ => u = .slice none 0 0) := by
  refine Fn.start0 Try.func18 rfl Try.ntmps18 rfl (env := [(0, _), (1, _), (2, _), (3, _)]) rfl ?_
  intro R
  refine .seq ?_
  refine .region ?_
  refine .v (.asn rfl) rfl ?_
  refine .nil ?_
  refine .then ?_
  refine .seq ?_
  refine .seq ?_
  refine .region ?_
  refine .v (.mv rfl) rfl ?_
  refine .vT (.eqpn Try.underlying28 rfl rfl) rfl rfl ?_
  refine .nil ?_
  refine .then ?_
  refine .condT rfl ?_
  refine .seq ?_
  refine .region ?_
  refine .v (.asn rfl) rfl ?_
  refine .nil ?_
  refine .then ?_
  refine .ret ?_
  refine .then_ret ?_
  exact .done _ [] (.t1 rfl rfl) .rfl rfl (Inn.keep .here)
theorem len_nil (F : Mem) : Fn Try.prog 16 #[.pointer none] [] F (fun u _ _ => u = .int .i64 0) := by
  refine Fn.start0 Try.func16 rfl Try.ntmps16 rfl (env := [(0, _)]) rfl ?_
  intro R
  refine .seq ?_
  refine .region ?_
  refine .v (.asn rfl) rfl ?_
  refine .nil ?_
  refine .then ?_
  refine .seq ?_
  refine .seq ?_
  refine .region ?_
  refine .v (.mv rfl) rfl ?_
  refine .vT (.eqpn Try.underlying28 rfl rfl) rfl rfl ?_
  refine .nil ?_
  refine .then ?_
  refine .condT rfl ?_
  refine .seq ?_
  refine .region ?_
  refine .v (.asn rfl) rfl ?_
  refine .nil ?_
  refine .then ?_
  refine .ret ?_
  refine .then_ret ?_
  exact .done _ [] (.t1 rfl rfl) .rfl rfl (Inn.keep .here)
theorem depth_nil (F : Mem) : Fn Try.prog 23 #[.pointer none] [] F (fun u _ _ => u = .int .i64 0) := by
  refine Fn.start0 Try.func23 rfl Try.ntmps23 rfl (env := [(0, _)]) rfl ?_
  intro R
  refine .seq ?_
  refine .region ?_
  refine .v (.asn rfl) rfl ?_
  refine .nil ?_
  refine .then ?_
  refine .seq ?_
  refine .seq ?_
  refine .region ?_
  refine .v (.mv rfl) rfl ?_
  refine .v (.call rfl rfl (Try.call16 _) (fun G hle hG => len_nil G)) rfl ?_
  refine .vT (.eq rfl rfl) rfl rfl ?_
  refine .nil ?_
  refine .then ?_
  refine .condT rfl ?_
  refine .seq ?_
  refine .region ?_
  refine .v (.asn rfl) rfl ?_
  refine .nil ?_
  refine .then ?_
  refine .ret ?_
  refine .then_ret ?_
  exact .done _ [] (.t1 rfl rfl) .rfl rfl (Inn.keep .here)
theorem check_nil (F : Mem) : Fn Try.prog 15 #[.pointer none] [] F (fun u _ _ => u = .bool false) := by
  refine Fn.start0 Try.func15 rfl Try.ntmps15 rfl (env := [(0, _)]) rfl ?_
  intro R
  refine .seq ?_
  refine .region ?_
  refine .v (.asn rfl) rfl ?_
  refine .nil ?_
  refine .then ?_
  refine .seq ?_
  refine .seq ?_
  refine .region ?_
  refine .v (.mv rfl) rfl ?_
  refine .vT (.eqpn Try.underlying28 rfl rfl) rfl rfl ?_
  refine .nil ?_
  refine .then ?_
  refine .condT rfl ?_
  refine .seq ?_
  refine .region ?_
  refine .v (.asn rfl) rfl ?_
  refine .nil ?_
  refine .then ?_
  refine .ret ?_
  refine .then_ret ?_
  exact .done _ [] (.t1 rfl rfl) .rfl rfl (Inn.keep .here)
theorem awake_fn (F : Mem) : Fn Try.prog 11 #[] [] F (fun u _ _ => u = .bool true) := by
  refine Fn.start0 Try.func11 rfl Try.ntmps11 rfl (env := []) rfl ?_
  intro R
  refine .seq ?_
  refine .region ?_
  refine .v (.asn rfl) rfl ?_
  refine .nil ?_
  refine .then ?_
  refine .seq ?_
  refine .region ?_
  refine .lend (.make rfl rfl (Try.call20 _) (fun G hle hG => (new_tre G).mono (fun v M H _ h_ => h_))) rfl ?_
  rintro _ itA ⟨bA, rfl, hTA⟩
  refine .v (.asn rfl) rfl ?_
  refine .nil ?_
  refine .then ?_
  refine .seq ?_
  refine .region ?_
  refine .v (.mv rfl) rfl ?_
  refine .lend (.lend rfl rfl (Try.call21 _) _ (fun _ => .here) (fun G hle hG => (put_tre G hTA _ _ (by decide) (by omega)).mono (fun v M H _ h_ => h_))) rfl ?_
  rintro _ itA1 ⟨hTA1, rfl⟩
  refine .kn (t := 7) (v := .bool true) rfl (congrArg Value.bool (by rfl)) ?_
  refine .v (.mv rfl) rfl ?_
  refine .lend (.lend rfl rfl (Try.call21 _) _ (fun _ => .here) (fun G hle hG => (put_tre G hTA1 _ _ (by decide) (by omega)).mono (fun v M H _ h_ => h_))) rfl ?_
  rintro _ itA2 ⟨hTA2, rfl⟩
  rw [awake_list] at hTA2
  refine .kn (t := 9) (v := .bool true) rfl (congrArg Value.bool (by rw [awake_has]; rfl)) ?_
  refine .v (.asn rfl) rfl ?_
  refine .v (.asn rfl) rfl ?_
  refine .nil ?_
  refine .then ?_
  refine .seq ?_
  refine .region ?_
  refine .v (.mv rfl) rfl ?_
  refine .lend (.rom rfl rfl (Try.call18 _) (sel1 .here) ((range_tre _ hTA2 _ _ _ (by decide)).mono (fun v M G _ h_ => h_))) rfl ?_
  rintro _ ia ⟨aa, ca, rfl, hra⟩
  refine .v (.asn rfl) rfl ?_
  rw [show rng ⟨#[]⟩ ⟨#[]⟩ ((9 : Int).toNat) [] [(⟨⟨#[97]⟩, ⟨#[50]⟩⟩ : Pr), ⟨⟨#[98]⟩, ⟨#[49]⟩⟩] = [(⟨⟨#[97]⟩, ⟨#[50]⟩⟩ : Pr), ⟨⟨#[98]⟩, ⟨#[49]⟩⟩] from rng_all (by decide)] at hra ⊢
  obtain ⟨bal, dal, rfl, rfl, hdal⟩ := hra.blk (by exact (show 0 < 2 by decide))
  refine .nil ?_
  refine .then ?_
  refine .seq ?_
  refine .region ?_
  refine .v (.mv rfl) rfl ?_
  refine .v (.mv rfl) rfl ?_
  refine .g rfl rfl rfl ?_
  refine .v (.mv rfl) rfl ?_
  refine .v (.pkT rfl rfl) rfl ?_
  refine .v (.mv rfl) rfl ?_
  refine .g rfl rfl rfl ?_
  refine .v (.mv rfl) rfl ?_
  refine .g rfl rfl rfl ?_
  refine .v (.lenl Try.underlying22 rfl) rfl ?_
  refine .g rfl rfl rfl ?_
  refine .vT (.eq rfl rfl) rfl (by rfl) ?_
  refine .v (.pkT rfl rfl) rfl ?_
  refine .v (.mv rfl) rfl ?_
  refine .g rfl rfl rfl ?_
  refine .v (.mv rfl) rfl ?_
  refine .g rfl rfl rfl ?_
  refine .v (.ixo sl22 rfl rfl (0) ⟨by first | omega | (dsimp only; omega), by have h_ := (List.getElem?_eq_some_iff.1 (show [(⟨⟨#[97]⟩, ⟨#[50]⟩⟩ : Pr), ⟨⟨#[98]⟩, ⟨#[49]⟩⟩][0]? = some ⟨⟨#[97]⟩, ⟨#[50]⟩⟩ from rfl)).1; omega⟩) rfl ?_
  refine .g rfl rfl rfl ?_
  refine .v (.fa0 fl47_0 rfl) rfl ?_
  refine .g rfl rfl rfl ?_
  refine .v (.ldb ty9 rfl .here (encP_ok.get [(⟨⟨#[97]⟩, ⟨#[50]⟩⟩ : Pr), ⟨⟨#[98]⟩, ⟨#[49]⟩⟩] (0) _ (show [(⟨⟨#[97]⟩, ⟨#[50]⟩⟩ : Pr), ⟨⟨#[98]⟩, ⟨#[49]⟩⟩][0]? = some ⟨⟨#[97]⟩, ⟨#[50]⟩⟩ from rfl) dal 0 _ rfl)) rfl ?_
  refine .g rfl rfl rfl ?_
  refine .vT (.eqs rfl rfl) rfl (by rfl) ?_
  refine .v (.pkT rfl rfl) rfl ?_
  refine .v (.mv rfl) rfl ?_
  refine .g rfl rfl rfl ?_
  refine .v (.mv rfl) rfl ?_
  refine .g rfl rfl rfl ?_
  refine .v (.ro rfl rfl (Try.call16 _) (sel1 (.there .here)) (len_tre _ hTA2)) rfl ?_
  refine .g rfl rfl rfl ?_
  refine .vT (.eq rfl rfl) rfl (by rfl) ?_
  refine .v (.pkT rfl rfl) rfl ?_
  refine .v (.mv rfl) rfl ?_
  refine .g rfl rfl rfl ?_
  refine .v (.mv rfl) rfl ?_
  refine .g rfl rfl rfl ?_
  refine .v (.ro rfl rfl (Try.call15 _) (sel1 (.there .here)) (check_tre _ hTA2 (by decide))) rfl ?_
  refine .v (.pkT rfl rfl) rfl ?_
  refine .v (.mv rfl) rfl ?_
  refine .g rfl rfl rfl ?_
  refine .v (.mv rfl) rfl ?_
  obtain ⟨d, hd0, hd1, hdF⟩ := depth_tre hTA2 (by decide)
  have hd : d = 1 := by rcases hd1 (by decide) with h | ⟨h, h'⟩; exact h; (have h3 := le_pow3 (d - 1); rw [show [(⟨⟨#[97]⟩, ⟨#[50]⟩⟩ : Pr), ⟨⟨#[98]⟩, ⟨#[49]⟩⟩].length = 2 from rfl] at h'; omega)
  refine .g rfl rfl rfl ?_
  refine .v (.ro rfl rfl (Try.call23 _) (sel1 (.there .here)) (hdF _)) rfl ?_
  refine .g rfl rfl rfl ?_
  refine .vT (.eq rfl rfl) rfl (by omega) ?_
  refine .v (.pkT rfl rfl) rfl ?_
  refine .v (.asn rfl) rfl ?_
  refine .nil ?_
  refine .then ?_
  refine .ret ?_
  exact .done _ [] (.t1 rfl rfl) .rfl rfl (Inn.keep (.there (.there .here)))
end Go.Proofs.Ytbmpdccoffkjgaa.Ow
