/- Walks. -/
import Derived.Test.YtbmpdccoffkjgaaBm
import Derived.Test.YtbmpdccoffkjgaaBto
import Derived.Test.YtbmpdccoffkjgaaTyu
namespace Go.Proofs.Ytbmpdccoffkjgaa.Ow
open Go
set_option linter.unusedVariables false
theorem Tre.le {b : Nat} {l : List Pr} {n n' : Nat} {it : Itm} (h : Tre b l n it) (hn : n ≤ n') : Tre b l n' it := by
  obtain ⟨T, h, t, h1, h2, h3, h4⟩ := h
  exact ⟨T, h, t, h1, h2, h3, Nat.le_trans h4 hn⟩
theorem run_eqP (w : World) (f g : Pr) (d : Nat) : (Op.equalIn (d + 2) 47 (.agg (encP f).toArray) (.agg (encP g).toArray)).run Try.prog w = .ok (decide (f = g)) w := by
  have p0 : ∀ (a b : Value) (w : World), (part 9 #[a, b] 0).run Try.prog w = .ok a w := fun a b w => ty9.part rfl w
  have p1 : ∀ (a b : Value) (w : World), (part 9 #[a, b] 1).run Try.prog w = .ok b w := fun a b w => ty9.part rfl w
  have q9 : ∀ (a b : ByteArray) (w : World), (Op.equalIn (d + 1) 9 (.string a) (.string b)).run Try.prog w = .ok (decide (a = b)) w := fun a b w => by
    unfold Op.equalIn
    simp [run_underlying Try.underlying9, bytes_beq]
  unfold Op.equalIn
  simp [run_underlying Try.underlying47, encP, p0, p1, q9]
  obtain ⟨a, b⟩ := f
  obtain ⟨c, e⟩ := g
  by_cases h1 : a = c <;> by_cases h2 : b = e <;> simp [h1, h2]
theorem OpV.neP {d : Option Tmp} {x y : Operand} {yt ty : TypeId} {pos : String} {af : Array Edge} {gd : Option (Nat × Bool)} {env : Env} {L : List Itm} {F : Mem} {f g : Pr} (hx : ev env x = some (.agg (encP f).toArray)) (hy : ev env y = some (.agg (encP g).toArray)) :
    OpV Try.prog ⟨d, .binOp .neq 47 x y yt, ty, pos, af, gd⟩ env L F (.bool (decide (¬ f = g))) :=
  .bin hx hy fun w => by
    have h0 : (Op.equal 47 (.agg (encP f).toArray) (.agg (encP g).toArray)).run Try.prog w = .ok (decide (f = g)) w := run_eqP w f g 9998
    have h1 : (binOp .neq 47 (.agg (encP f).toArray) (.agg (encP g).toArray)).run Try.prog w = .ok (.bool !(decide (f = g))) w := by
      unfold binOp
      simp [h0]
    have h2 : (eqGuard .neq 47 x y (.agg (encP f).toArray) (.agg (encP g).toArray)).run Try.prog w = .ok () w := by
      unfold eqGuard
      simp
    rw [Sem.run_bind, h2]
    show (binOp .neq 47 _ _).run Try.prog w = _
    rw [h1]
    simp
theorem order_fn (l : List ByteArray) (a : Option Addr) (c : Nat) (F : Mem) (hS : Sl F encS 1 a c l) (lo hi : ByteArray) : Fn Try.prog 5 #[.slice a l.length c, .string lo, .string hi] [] F (fun u M _ => M = [] ∧ u = .bool true) := by
  have hm := hS.len
  refine Fn.start0 Try.func5 rfl Try.ntmps5 rfl (env := [(0, _), (1, _), (2, _)]) rfl ?_
  intro R
  refine .seq ?_
  refine .region ?_
  refine .v (.asn rfl) rfl ?_
  refine .nil ?_
  refine .then ?_
  refine .seq ?_
  refine .seq ?_
  refine .region ?_
  refine .v (.mv rfl) rfl ?_
  refine .v (.lenl Try.underlying45 rfl) rfl ?_
  refine .vs (.gt rfl rfl) rfl (fun h15_1 => ?_) (fun h15_1 => ?_)
  · skip
    refine .nil ?_
    refine .then ?_
    refine .condT rfl ?_
    refine .seq ?_
    refine .region ?_
    refine .v (.call rfl rfl (Try.call11 _) (fun G hle hG => awake_fn G)) rfl ?_
    refine .v (.asn rfl) rfl ?_
    refine .nil ?_
    refine .then ?_
    refine .ret ?_
    refine .then_ret ?_
    exact .done _ [] (.t1 rfl rfl) .rfl ⟨rfl, rfl⟩ (Inn.keep .here)
  · skip
    refine .nil ?_
    refine .then ?_
    refine .condF rfl ?_
    refine .skip ?_
    refine .then ?_
    refine .seq ?_
    refine .region ?_
    refine .lend (.make rfl rfl (Try.call20 _) (fun G hle hG => (new_tre G).mono (fun v M H _ h_ => h_))) rfl ?_
    rintro _ itA ⟨bA, rfl, hTA⟩
    refine .lend (.make rfl rfl (Try.call20 _) (fun G hle hG => (new_tre G).mono (fun v M H _ h_ => h_))) rfl ?_
    rintro _ itB ⟨bB, rfl, hTB⟩
    refine .v (.asn rfl) rfl ?_
    refine .v (.asn rfl) rfl ?_
    refine .nil ?_
    refine .then ?_
    refine .seq ?_
    refine .seq ?_
    refine .region ?_
    refine .v (.mv rfl) rfl ?_
    refine .v (.lenl Try.underlying45 rfl) rfl ?_
    refine .v (.mv rfl) rfl ?_
    refine .nil ?_
    refine .then ?_
    refine .block ?_
    refine WC.loopx (fx := [(0, _), (1, _), (2, _), (7, _), (8, _), (20, _)]) (pre := [_, _]) (fm := [_]) rfl (.cons rfl rfl (.cons rfl rfl (.cons rfl rfl (.cons rfl rfl (.cons rfl rfl (.cons rfl rfl .nil)))))) (ι := OrdZ) (fun z => z.k ≤ l.length ∧ Tre bA (putsK (l.take z.k)) (1 + 1000 * z.k) z.a ∧ Tre bB (putsK (l.reverse.take z.k)) (1 + 1000 * z.k) z.b) (fun z => l.length - z.k) (fun z => [(21, .int .i64 (z.k : Int))]) (fun z => [z.b, z.a]) (fun _ => F) ⟨0, itA, itB⟩ ⟨Nat.zero_le _, hTA, hTB⟩ ?he ?hm ?round
    case he => exact .cons rfl rfl (.cons rfl rfl (.cons rfl rfl (.cons rfl rfl (.cons rfl rfl (.cons rfl rfl (.cons rfl rfl .nil))))))
    case hm => exact (fun _ h => h)
    case round =>
      intro z hk
      obtain ⟨k, itA, itB⟩ := z
      obtain ⟨hk, hTA, hTB⟩ := hk
      dsimp only [List.cons_append, List.nil_append] at hk hTA hTB ⊢
      refine .seq ?_
      refine .region ?_
      refine .vs (.lt rfl rfl) rfl (fun h22_2 => ?_) (fun h22_2 => ?_)
      · skip
        refine .nil ?_
        refine .then ?_
        refine .seq ?_
        refine .condT rfl ?_
        refine .skip ?_
        refine .then ?_
        refine .seq ?_
        refine .block ?_
        refine .seq ?_
        refine .region ?_
        refine .v (.mv rfl) rfl ?_
        refine .v (.asn rfl) rfl ?_
        refine .nil ?_
        refine .then ?_
        refine .seq ?_
        refine .seq ?_
        refine .region ?_
        obtain ⟨x, hx⟩ : ∃ y, l[k]? = some y := ⟨_, List.getElem?_eq_getElem (by omega)⟩
        obtain ⟨y, hy⟩ : ∃ y, l[l.length - 1 - k]? = some y := ⟨_, List.getElem?_eq_getElem (by omega)⟩
        have hy' : l.reverse[k]? = some y := by rw [List.getElem?_reverse (by omega)]; exact hy
        have hyi : l[((l.length : Int) - 1 - (k : Int)).toNat]? = some y := by rw [show ((l.length : Int) - 1 - (k : Int)).toNat = l.length - 1 - k by omega]; exact hy
        have hl1 := putsK_len (l.take k)
        have hl2 := putsK_len (l.reverse.take k)
        rw [List.length_take] at hl1 hl2
        refine .v (.mv rfl) rfl ?_
        refine .v (.mv rfl) rfl ?_
        refine .ix sl45 rfl rfl hS rfl x ⟨by omega, hx⟩ (fun p3 o4 r5 => ?_)
        refine .v (.ldr0 ty9 rfl r5 rfl) rfl ?_
        refine .v (.lens Try.underlying9 rfl) rfl ?_
        refine .vs (.gt rfl rfl) rfl (fun h29_6 => ?_) (fun h29_6 => ?_)
        · skip
          refine .nil ?_
          refine .then ?_
          refine .condT rfl ?_
          refine .seq ?_
          refine .region ?_
          refine .v (.call rfl rfl (Try.call11 _) (fun G hle hG => awake_fn G)) rfl ?_
          refine .v (.asn rfl) rfl ?_
          refine .nil ?_
          refine .then ?_
          refine .ret ?_
          refine .then_ret ?_
          refine .blk_ret ?_
          refine .then_ret ?_
          refine .then_ret ?_
          refine .blk_ret ?_
          refine .then_ret ?_
          exact .done _ [] (.t1 rfl rfl) .rfl ⟨rfl, rfl⟩ (Inn.keep (.there (.there .here)))
        · skip
          refine .nil ?_
          refine .then ?_
          refine .condF rfl ?_
          refine .skip ?_
          refine .then ?_
          refine .seq ?_
          refine .draw [[], [], [], [1, 2], [3], [], [], [5, 6], [7], [0, 4, 8]] [] (by kernel_rfl) (by kernel_rfl) rfl (e1 := [(0, _), (1, _), (2, _), (7, _), (8, _), (9, _), (20, _), (21, _)]) (.cons rfl rfl (.cons rfl rfl (.cons rfl rfl (.cons rfl rfl (.cons rfl rfl (.cons rfl rfl (.cons rfl rfl (.cons rfl rfl .nil)))))))) (fun x hx => by cases hx) rfl ?_
          refine .v (i := 0) [] rfl rfl rfl .nil (.n (.mv rfl)) ?_
          refine .v (i := 1) [] rfl rfl rfl .nil (.n (.mv rfl)) ?_
          refine .v (i := 2) [] rfl rfl rfl .nil (.n (.mv rfl)) ?_
          refine .ix (i := 3) (j := (k : Int)) [(32, _), (33, _)] rfl rfl rfl (.cons (.tail _ (.head _)) rfl rfl (.cons (.head _) rfl rfl .nil)) hS x ⟨by omega, hx⟩ (fun b_ o_ hr_ ha_ hle_ => .n (.ixs sl45 rfl rfl ⟨by omega, hx⟩ ha_ hle_)) (fun p7 o8 r9 => ?_)
          refine .v (i := 4) [(34, _)] rfl rfl rfl (.cons (.head _) rfl rfl .nil) (.n (.ldr0 ty9 rfl r9 rfl)) ?_
          refine .v (i := 5) [] rfl rfl rfl .nil (.n (.mv rfl)) ?_
          refine .v (i := 6) [] rfl rfl rfl .nil (.n (.mv rfl)) ?_
          refine .ix (i := 7) (j := (k : Int)) [(36, _), (37, _)] rfl rfl rfl (.cons (.tail _ (.head _)) rfl rfl (.cons (.head _) rfl rfl .nil)) hS x ⟨by omega, hx⟩ (fun b_ o_ hr_ ha_ hle_ => .n (.ixs sl45 rfl rfl ⟨by omega, hx⟩ ha_ hle_)) (fun p10 o11 r12 => ?_)
          refine .v (i := 8) [(38, _)] rfl rfl rfl (.cons (.head _) rfl rfl .nil) (.n (.ldr0 ty9 rfl r12 rfl)) ?_
          refine .tail0 9 [[9, 0, 4, 8, 3, 7, 1, 2, 5, 6]] rfl rfl rfl rfl (e' := [(39, _), (38, _), (37, _), (36, _), (35, _), (34, _), (33, _), (32, _), (31, _), (0, _), (1, _), (2, _), (7, _), (8, _), (9, _), (20, _), (21, _)]) rfl ?_
          refine .lend (.lend rfl rfl (Try.call21 _) _ (fun _ => (.there .here)) (fun G hle hG => (put_tre G hTA _ _ (by omega) (by omega)).mono (fun v M H _ h_ => h_))) rfl ?_
          rintro _ itA13 ⟨hTA13, rfl⟩
          refine .nil ?_
          refine .then ?_
          refine .draw [[], [], [], [2], [3], [], [4, 5], [1, 6], [7], [], [], [10], [11], [], [12, 13], [9, 14], [15], [0, 8, 16]] [] (by kernel_rfl) (by kernel_rfl) rfl (e1 := [(0, _), (1, _), (2, _), (7, _), (8, _), (9, _), (20, _), (21, _)]) (.cons rfl rfl (.cons rfl rfl (.cons rfl rfl (.cons rfl rfl (.cons rfl rfl (.cons rfl rfl (.cons rfl rfl (.cons rfl rfl .nil)))))))) (fun x hx => by cases hx) rfl ?_
          refine .v (i := 0) [] rfl rfl rfl .nil (.n (.mv rfl)) ?_
          refine .v (i := 1) [] rfl rfl rfl .nil (.n (.mv rfl)) ?_
          refine .v (i := 2) [] rfl rfl rfl .nil (.n (.mv rfl)) ?_
          refine .v (i := 3) [(43, _)] rfl rfl rfl (.cons (.head _) rfl rfl .nil) (.n (.lenl Try.underlying45 rfl)) ?_
          refine .v (i := 4) [(44, _)] rfl rfl rfl (.cons (.head _) rfl rfl .nil) (.n (.sub rfl rfl (by omega))) ?_
          refine .v (i := 5) [] rfl rfl rfl .nil (.n (.mv rfl)) ?_
          refine .v (i := 6) [(45, _), (46, _)] rfl rfl rfl (.cons (.tail _ (.head _)) rfl rfl (.cons (.head _) rfl rfl .nil)) (.n (.sub rfl rfl (by omega))) ?_
          refine .ix (i := 7) (j := ((l.length : Int) - 1 - (k : Int))) [(42, _), (47, _)] rfl rfl rfl (.cons (.tail _ (.tail _ (.tail _ (.tail _ (.tail _ (.head _)))))) rfl rfl (.cons (.head _) rfl rfl .nil)) hS y ⟨by omega, hyi⟩ (fun b_ o_ hr_ ha_ hle_ => .n (.ixs sl45 rfl rfl ⟨by omega, hyi⟩ ha_ hle_)) (fun p14 o15 r16 => ?_)
          refine .v (i := 8) [(48, _)] rfl rfl rfl (.cons (.head _) rfl rfl .nil) (.n (.ldr0 ty9 rfl r16 rfl)) ?_
          refine .v (i := 9) [] rfl rfl rfl .nil (.n (.mv rfl)) ?_
          refine .v (i := 10) [] rfl rfl rfl .nil (.n (.mv rfl)) ?_
          refine .v (i := 11) [(51, _)] rfl rfl rfl (.cons (.head _) rfl rfl .nil) (.n (.lenl Try.underlying45 rfl)) ?_
          refine .v (i := 12) [(52, _)] rfl rfl rfl (.cons (.head _) rfl rfl .nil) (.n (.sub rfl rfl (by omega))) ?_
          refine .v (i := 13) [] rfl rfl rfl .nil (.n (.mv rfl)) ?_
          refine .v (i := 14) [(53, _), (54, _)] rfl rfl rfl (.cons (.tail _ (.head _)) rfl rfl (.cons (.head _) rfl rfl .nil)) (.n (.sub rfl rfl (by omega))) ?_
          refine .ix (i := 15) (j := ((l.length : Int) - 1 - (k : Int))) [(50, _), (55, _)] rfl rfl rfl (.cons (.tail _ (.tail _ (.tail _ (.tail _ (.tail _ (.head _)))))) rfl rfl (.cons (.head _) rfl rfl .nil)) hS y ⟨by omega, hyi⟩ (fun b_ o_ hr_ ha_ hle_ => .n (.ixs sl45 rfl rfl ⟨by omega, hyi⟩ ha_ hle_)) (fun p17 o18 r19 => ?_)
          refine .v (i := 16) [(56, _)] rfl rfl rfl (.cons (.head _) rfl rfl .nil) (.n (.ldr0 ty9 rfl r19 rfl)) ?_
          refine .tail0 17 [[17, 0, 8, 16, 7, 15, 1, 6, 9, 14, 4, 5, 12, 13, 3, 11, 2, 10]] rfl rfl rfl rfl (e' := [(57, _), (56, _), (55, _), (54, _), (53, _), (52, _), (51, _), (50, _), (49, _), (48, _), (47, _), (46, _), (45, _), (44, _), (43, _), (42, _), (41, _), (0, _), (1, _), (2, _), (7, _), (8, _), (9, _), (20, _), (21, _)]) rfl ?_
          refine .lend (.lend rfl rfl (Try.call21 _) _ (fun _ => .here) (fun G hle hG => (put_tre G hTB _ _ (by omega) (by omega)).mono (fun v M H _ h_ => h_))) rfl ?_
          rintro _ itB20 ⟨hTB20, rfl⟩
          refine .nil ?_
          refine .blk ?_
          refine .then ?_
          refine .region ?_
          refine .v (.add rfl rfl (by omega)) rfl ?_
          refine .v (.mv rfl) rfl ?_
          refine .nil ?_
          exact .again ⟨k + 1, _, _⟩ ⟨by (try dsimp only); omega, by rw [putsK_take hx]; exact hTA13.le (by (try dsimp only); omega), by rw [putsK_take hy']; exact hTB20.le (by (try dsimp only); omega)⟩ (by (try dsimp only); omega) (.cons rfl rfl (.cons rfl rfl (.cons rfl rfl (.cons rfl rfl (.cons rfl rfl (.cons rfl rfl (.cons rfl rfl .nil))))))) (subl (.cons_cons _ (.cons_cons _ (.cons_cons _ .slnil))))
      · skip
        refine .nil ?_
        refine .then ?_
        refine .seq ?_
        refine .condF rfl ?_
        refine .exit ?_
        refine .then_exit ?_
        refine .then_exit ?_
        refine .blk_exit ?_
        refine .then ?_
        refine .seq ?_
        refine .region ?_
        obtain rfl : k = l.length := by omega
        rw [List.take_length] at hTA
        rw [show l.length = l.reverse.length from List.length_reverse.symm, List.take_length, putsK_rev] at hTB
        have hlL := putsK_len l
        refine .v (.mv rfl) rfl ?_
        refine .v (.mv rfl) rfl ?_
        refine .v (.mv rfl) rfl ?_
        refine .lend (.rom rfl rfl (Try.call18 _) (sel1 (.there .here)) ((range_tre _ hTA _ _ _ (by omega)).mono (fun v M G _ h_ => h_))) rfl ?_
        rintro _ ix ⟨ax, cx, rfl, hrx⟩
        refine .v (.mv rfl) rfl ?_
        refine .v (.mv rfl) rfl ?_
        refine .v (.mv rfl) rfl ?_
        refine .lend (.rom rfl rfl (Try.call18 _) (sel1 (.there .here)) ((range_tre _ hTB _ _ _ (by omega)).mono (fun v M G _ h_ => h_))) rfl ?_
        rintro _ iy ⟨ay, cy, rfl, hry⟩
        refine .v (.asn rfl) rfl ?_
        refine .v (.asn rfl) rfl ?_
        obtain ⟨X, hX⟩ : ∃ X, X = rng lo hi ((1000 : Int).toNat) [] (putsK l) := ⟨_, rfl⟩
        rw [← hX] at hrx hry ⊢
        have hXl : X.length ≤ l.length := by have h_ := (rng_len (lo := lo) (hi := hi) (L := (1000 : Int).toNat) (out := []) (a := putsK l)).2; rw [← hX, List.length_nil] at h_; omega
        refine .nil ?_
        refine .then ?_
        refine .seq ?_
        refine .seq ?_
        refine .region ?_
        refine .v (.mv rfl) rfl ?_
        refine .v (.lenl Try.underlying22 rfl) rfl ?_
        refine .v (.mv rfl) rfl ?_
        refine .v (.lenl Try.underlying22 rfl) rfl ?_
        refine .vF (.ne rfl rfl) rfl (by omega) ?_
        refine .v (.mv rfl) rfl ?_
        refine .g rfl rfl rfl ?_
        refine .v (.mv rfl) rfl ?_
        refine .g rfl rfl rfl ?_
        refine .v (.ro rfl rfl (Try.call16 _) (sel1 (.there (.there (.there .here)))) (len_tre _ hTA)) rfl ?_
        refine .g rfl rfl rfl ?_
        refine .v (.mv rfl) rfl ?_
        refine .g rfl rfl rfl ?_
        refine .v (.ro rfl rfl (Try.call16 _) (sel1 (.there (.there .here))) (len_tre _ hTB)) rfl ?_
        refine .g rfl rfl rfl ?_
        refine .vF (.ne rfl rfl) rfl (by omega) ?_
        refine .v (.pkF rfl rfl) rfl ?_
        refine .nil ?_
        refine .then ?_
        refine .condF rfl ?_
        refine .skip ?_
        refine .then ?_
        refine .seq ?_
        refine .seq ?_
        refine .region ?_
        refine .v (.mv rfl) rfl ?_
        refine .v (.lenl Try.underlying22 rfl) rfl ?_
        refine .v (.mv rfl) rfl ?_
        refine .nil ?_
        refine .then ?_
        refine .block ?_
        refine WC.loop0 (fx := [(1, _), (2, _), (10, _), (11, _), (81, _)]) (.cons rfl rfl (.cons rfl rfl (.cons rfl rfl (.cons rfl rfl (.cons rfl rfl .nil))))) (ι := Nat) (fun j => j ≤ X.length) (fun j => X.length - j) (fun j => [(82, .int .i64 (j : Int))]) 0 (by omega) ?he ?round
        case he => exact .cons rfl rfl (.cons rfl rfl (.cons rfl rfl (.cons rfl rfl (.cons rfl rfl (.cons rfl rfl .nil)))))
        case round =>
          intro j hk
          refine .seq ?_
          refine .region ?_
          refine .vs (.lt rfl rfl) rfl (fun h83_21 => ?_) (fun h83_21 => ?_)
          · skip
            refine .nil ?_
            refine .then ?_
            refine .seq ?_
            refine .condT rfl ?_
            refine .skip ?_
            refine .then ?_
            refine .seq ?_
            refine .block ?_
            refine .seq ?_
            refine .region ?_
            obtain ⟨p, hp⟩ : ∃ y, X[j]? = some y := ⟨_, List.getElem?_eq_getElem (by omega)⟩
            have hin : inR lo hi p = true := rng_mem (by rw [← hX]; exact List.mem_of_getElem? hp)
            obtain ⟨bax, dax, rfl, rfl, hdax⟩ := hrx.blk (by omega)
            obtain ⟨bay, day, rfl, rfl, hday⟩ := hry.blk (by omega)
            refine .v (.mv rfl) rfl ?_
            refine .v (.asn rfl) rfl ?_
            refine .nil ?_
            refine .then ?_
            refine .seq ?_
            refine .draw [[], [], [0, 1], [2], [], [], [4, 5], [6], [3, 7], [8], [9], [9], [10, 11, 9], [12, 9], [13, 9], [9], [14, 15, 9], [9, 16], [17, 9], [18], [19, 18], [20, 18, 18], [21], [21], [22, 23, 21], [24, 21], [25, 21], [21], [26, 27, 21], [21, 28, 18], [18, 29]] [] (by kernel_rfl) (by kernel_rfl) rfl (e1 := [(1, _), (2, _), (10, _), (11, _), (12, _), (81, _), (82, _)]) (.cons rfl rfl (.cons rfl rfl (.cons rfl rfl (.cons rfl rfl (.cons rfl rfl (.cons rfl rfl (.cons rfl rfl .nil))))))) (fun x hx => by cases hx) rfl ?_
            refine .v (i := 0) [] rfl rfl rfl .nil (.n (.mv rfl)) ?_
            refine .v (i := 1) [] rfl rfl rfl .nil (.n (.mv rfl)) ?_
            refine .v (i := 2) [(85, _), (86, _)] rfl rfl rfl (.cons (.tail _ (.head _)) rfl rfl (.cons (.head _) rfl rfl .nil)) (.n (.ixo sl22 rfl rfl (j) ⟨by first | omega | (dsimp only; omega), by have h_ := (List.getElem?_eq_some_iff.1 hp).1; omega⟩)) ?_
            refine .v (i := 3) [(87, _)] rfl rfl rfl (.cons (.head _) rfl rfl .nil) (.n (.ldm _ ty47 rfl (.there .here) rfl (fun j_ v_ hj_ => encP_ok.get X (j) _ hp dax j_ v_ hj_))) ?_
            refine .v (i := 4) [] rfl rfl rfl .nil (.n (.mv rfl)) ?_
            refine .v (i := 5) [] rfl rfl rfl .nil (.n (.mv rfl)) ?_
            refine .v (i := 6) [(89, _), (90, _)] rfl rfl rfl (.cons (.tail _ (.head _)) rfl rfl (.cons (.head _) rfl rfl .nil)) (.n (.ixo sl22 rfl rfl (j) ⟨by first | omega | (dsimp only; omega), by have h_ := (List.getElem?_eq_some_iff.1 hp).1; omega⟩)) ?_
            refine .v (i := 7) [(91, _)] rfl rfl rfl (.cons (.head _) rfl rfl .nil) (.n (.ldm _ ty47 rfl .here rfl (fun j_ v_ hj_ => encP_ok.get X (j) _ hp day j_ v_ hj_))) ?_
            refine .vF (i := 8) [(88, _), (92, _)] rfl rfl rfl (.cons (.tail _ (.tail _ (.tail _ (.tail _ (.head _))))) rfl rfl (.cons (.head _) rfl rfl .nil)) (.n (.neP (f := p) (g := p) rfl rfl)) (by simp) ?_
            refine .v (i := 9) [(93, _)] rfl rfl rfl (.cons (.head _) rfl rfl .nil) (.n (.mv rfl)) ?_
            refine .v (i := 10) [(94, _)] rfl rfl rfl (.cons (.head _) rfl rfl .nil) (.g rfl rfl rfl (.mv rfl)) ?_
            refine .v (i := 11) [(94, _)] rfl rfl rfl (.cons (.tail _ (.head _)) rfl rfl .nil) (.g rfl rfl rfl (.mv rfl)) ?_
            refine .v (i := 12) [(95, _), (96, _), (94, _)] rfl rfl rfl (.cons (.tail _ (.head _)) rfl rfl (.cons (.head _) rfl rfl (.cons (.tail _ (.tail _ (.head _))) rfl rfl .nil))) (.g rfl rfl rfl (.ixo sl22 rfl rfl (j) ⟨by first | omega | (dsimp only; omega), by have h_ := (List.getElem?_eq_some_iff.1 hp).1; omega⟩)) ?_
            refine .v (i := 13) [(97, _), (94, _)] rfl rfl rfl (.cons (.head _) rfl rfl (.cons (.tail _ (.tail _ (.tail _ (.head _)))) rfl rfl .nil)) (.g rfl rfl rfl (.fa0 fl47_0 rfl)) ?_
            refine .v (i := 14) [(98, _), (94, _)] rfl rfl rfl (.cons (.head _) rfl rfl (.cons (.tail _ (.tail _ (.tail _ (.tail _ (.head _))))) rfl rfl .nil)) (.g rfl rfl rfl (.ldb ty9 rfl (.there .here) (encP_ok.get X (j) _ hp dax 0 _ rfl))) ?_
            refine .v (i := 15) [(94, _)] rfl rfl rfl (.cons (.tail _ (.tail _ (.tail _ (.tail _ (.tail _ (.head _)))))) rfl rfl .nil) (.g rfl rfl rfl (.mv rfl)) ?_
            refine .bF (i := 16) [(99, _), (100, _), (94, _)] rfl rfl rfl (.cons (.tail _ (.head _)) rfl rfl (.cons (.head _) rfl rfl (.cons (.tail _ (.tail _ (.tail _ (.tail _ (.tail _ (.tail _ (.head _))))))) rfl rfl .nil))) (.g rfl rfl rfl (.lts rfl rfl)) (inR_lo hin) ?_
            refine .v (i := 17) [(94, _), (101, _)] rfl rfl rfl (.cons (.tail _ (.tail _ (.tail _ (.tail _ (.tail _ (.tail _ (.tail _ (.head _)))))))) rfl rfl (.cons (.head _) rfl rfl .nil)) (.n (.pkF rfl rfl)) ?_
            refine .v (i := 18) [(102, _)] rfl rfl rfl (.cons (.head _) rfl rfl .nil) (.n (.mv rfl)) ?_
            refine .v (i := 19) [(103, _)] rfl rfl rfl (.cons (.head _) rfl rfl .nil) (.g rfl rfl rfl (.mv rfl)) ?_
            refine .vs (i := 20) [(104, _), (103, _)] rfl rfl rfl (.cons (.head _) rfl rfl (.cons (.tail _ (.head _)) rfl rfl .nil)) (.g rfl rfl rfl (.nes rfl rfl)) (fun h105_22 => ?_) (fun h105_22 => ?_)
            · skip
              refine .v (i := 21) [(105, _), (103, _)] rfl rfl rfl (.cons (.head _) rfl rfl (.cons (.tail _ (.tail _ (.head _))) rfl rfl .nil)) (.g rfl rfl rfl (.mv rfl)) ?_
              refine .v (i := 22) [(106, _)] rfl rfl rfl (.cons (.head _) rfl rfl .nil) (.g rfl rfl rfl (.mv rfl)) ?_
              refine .v (i := 23) [(106, _)] rfl rfl rfl (.cons (.tail _ (.head _)) rfl rfl .nil) (.g rfl rfl rfl (.mv rfl)) ?_
              refine .v (i := 24) [(107, _), (108, _), (106, _)] rfl rfl rfl (.cons (.tail _ (.head _)) rfl rfl (.cons (.head _) rfl rfl (.cons (.tail _ (.tail _ (.head _))) rfl rfl .nil))) (.g rfl rfl rfl (.ixo sl22 rfl rfl (j) ⟨by first | omega | (dsimp only; omega), by have h_ := (List.getElem?_eq_some_iff.1 hp).1; omega⟩)) ?_
              refine .v (i := 25) [(109, _), (106, _)] rfl rfl rfl (.cons (.head _) rfl rfl (.cons (.tail _ (.tail _ (.tail _ (.head _)))) rfl rfl .nil)) (.g rfl rfl rfl (.fa0 fl47_0 rfl)) ?_
              refine .v (i := 26) [(110, _), (106, _)] rfl rfl rfl (.cons (.head _) rfl rfl (.cons (.tail _ (.tail _ (.tail _ (.tail _ (.head _))))) rfl rfl .nil)) (.g rfl rfl rfl (.ldb ty9 rfl (.there .here) (encP_ok.get X (j) _ hp dax 0 _ rfl))) ?_
              refine .v (i := 27) [(106, _)] rfl rfl rfl (.cons (.tail _ (.tail _ (.tail _ (.tail _ (.tail _ (.head _)))))) rfl rfl .nil) (.g rfl rfl rfl (.mv rfl)) ?_
              refine .tail0 28 [[28, 26, 27, 21, 25, 20, 18, 24, 19, 17, 9, 22, 23, 16, 8, 14, 15, 3, 7, 13, 2, 6, 12, 0, 1, 4, 5, 10, 11], [29, 21, 28, 18, 20, 26, 27, 17, 9, 19, 25, 16, 8, 24, 14, 15, 3, 7, 22, 23, 13, 2, 6, 12, 0, 1, 4, 5, 10, 11], [30, 18, 29, 17, 9, 21, 28, 16, 8, 20, 26, 27, 14, 15, 3, 7, 19, 25, 13, 2, 6, 24, 12, 0, 1, 4, 5, 22, 23, 10, 11]] rfl rfl rfl rfl (e' := [(112, _), (111, _), (110, _), (109, _), (108, _), (107, _), (106, _), (105, _), (104, _), (103, _), (102, _), (101, _), (100, _), (99, _), (98, _), (97, _), (96, _), (95, _), (94, _), (93, _), (92, _), (91, _), (90, _), (89, _), (88, _), (87, _), (86, _), (85, _), (1, _), (2, _), (10, _), (11, _), (12, _), (81, _), (82, _)]) rfl ?_
              refine .g rfl rfl rfl ?_
              refine .bF (.ges rfl rfl) rfl (by rw [inR_hi hin h105_22]; rfl) ?_
              refine .g rfl rfl rfl ?_
              refine .v (.pkT rfl rfl) rfl ?_
              refine .v (.pkF rfl rfl) rfl ?_
              refine .nil ?_
              refine .then ?_
              refine .condF rfl ?_
              refine .skip ?_
              refine .blk ?_
              refine .then ?_
              refine .region ?_
              refine .v (.add rfl rfl (by omega)) rfl ?_
              refine .v (.mv rfl) rfl ?_
              refine .nil ?_
              exact .again (j + 1) (by omega) (by omega) (.cons rfl rfl (.cons rfl rfl (.cons rfl rfl (.cons rfl rfl (.cons rfl rfl (.cons rfl rfl .nil)))))) (subl (.refl _))
            · skip
              refine .v (i := 21) [(105, _), (103, _)] rfl rfl rfl (.cons (.head _) rfl rfl (.cons (.tail _ (.tail _ (.head _))) rfl rfl .nil)) (.g rfl rfl rfl (.mv rfl)) ?_
              refine .v (i := 22) [(106, _)] rfl rfl rfl (.cons (.head _) rfl rfl .nil) (.s rfl rfl rfl) ?_
              refine .v (i := 23) [(106, _)] rfl rfl rfl (.cons (.tail _ (.head _)) rfl rfl .nil) (.s rfl rfl rfl) ?_
              refine .v (i := 24) [(107, _), (108, _), (106, _)] rfl rfl rfl (.cons (.tail _ (.head _)) rfl rfl (.cons (.head _) rfl rfl (.cons (.tail _ (.tail _ (.head _))) rfl rfl .nil))) (.s rfl rfl rfl) ?_
              refine .v (i := 25) [(109, _), (106, _)] rfl rfl rfl (.cons (.head _) rfl rfl (.cons (.tail _ (.tail _ (.tail _ (.head _)))) rfl rfl .nil)) (.s rfl rfl rfl) ?_
              refine .v (i := 26) [(110, _), (106, _)] rfl rfl rfl (.cons (.head _) rfl rfl (.cons (.tail _ (.tail _ (.tail _ (.tail _ (.head _))))) rfl rfl .nil)) (.s rfl rfl rfl) ?_
              refine .v (i := 27) [(106, _)] rfl rfl rfl (.cons (.tail _ (.tail _ (.tail _ (.tail _ (.tail _ (.head _)))))) rfl rfl .nil) (.s rfl rfl rfl) ?_
              refine .tail0 28 [[28, 26, 27, 21, 25, 20, 18, 24, 19, 17, 9, 22, 23, 16, 8, 14, 15, 3, 7, 13, 2, 6, 12, 0, 1, 4, 5, 10, 11], [29, 21, 28, 18, 20, 26, 27, 17, 9, 19, 25, 16, 8, 24, 14, 15, 3, 7, 22, 23, 13, 2, 6, 12, 0, 1, 4, 5, 10, 11], [30, 18, 29, 17, 9, 21, 28, 16, 8, 20, 26, 27, 14, 15, 3, 7, 19, 25, 13, 2, 6, 24, 12, 0, 1, 4, 5, 22, 23, 10, 11]] rfl rfl rfl rfl (e' := [(112, _), (111, _), (110, _), (109, _), (108, _), (107, _), (106, _), (105, _), (104, _), (103, _), (102, _), (101, _), (100, _), (99, _), (98, _), (97, _), (96, _), (95, _), (94, _), (93, _), (92, _), (91, _), (90, _), (89, _), (88, _), (87, _), (86, _), (85, _), (1, _), (2, _), (10, _), (11, _), (12, _), (81, _), (82, _)]) rfl ?_
              refine .gs rfl rfl rfl rfl ?_
              refine .g rfl rfl rfl ?_
              refine .v (.pkF rfl rfl) rfl ?_
              refine .v (.pkF rfl rfl) rfl ?_
              refine .nil ?_
              refine .then ?_
              refine .condF rfl ?_
              refine .skip ?_
              refine .blk ?_
              refine .then ?_
              refine .region ?_
              refine .v (.add rfl rfl (by omega)) rfl ?_
              refine .v (.mv rfl) rfl ?_
              refine .nil ?_
              exact .again (j + 1) (by omega) (by omega) (.cons rfl rfl (.cons rfl rfl (.cons rfl rfl (.cons rfl rfl (.cons rfl rfl (.cons rfl rfl .nil)))))) (subl (.refl _))
          · skip
            refine .nil ?_
            refine .then ?_
            refine .seq ?_
            refine .condF rfl ?_
            refine .exit ?_
            refine .then_exit ?_
            refine .then_exit ?_
            refine .blk_exit ?_
            refine .then ?_
            refine .seq ?_
            refine .region ?_
            refine .v (.call rfl rfl (Try.call11 _) (fun G hle hG => awake_fn G)) rfl ?_
            refine .v (.asn rfl) rfl ?_
            refine .nil ?_
            refine .then ?_
            refine .ret ?_
            exact .done _ [] (.t1 rfl rfl) .rfl ⟨rfl, rfl⟩ (Inn.keep (.there (.there (.there (.there .here)))))
end Go.Proofs.Ytbmpdccoffkjgaa.Ow
