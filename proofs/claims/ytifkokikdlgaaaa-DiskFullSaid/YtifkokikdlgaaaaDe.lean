/- Walks. -/
import Derived.Test.YtifkokikdlgaaaaDd
namespace Go.Proofs.Ytifkokikdlgaaaa.Ow
open Go
set_option linter.unusedVariables false
theorem rtext_fn (d : Dk) (a : Option Addr) (c : Nat) (F : Mem) (hS : Sl F encF 3 a c d.files) (hb : tot d.files ≤ 4611686018427387904) (id : Int) : Fn Try.prog 25 #[dval a c d, .int .i64 id] [] F (fun u _ _ => u = .tuple #[.string (text d id).1, .int .i64 (text d id).2]) := by
  refine Fn.start0 Try.func25 rfl Try.ntmps25 rfl (env := [(0, _), (1, _)]) rfl ?_
  intro R
  refine .seq ?_
  refine .region ?_
  refine .nb (.box rfl rfl) rfl (fun b1 => ?_)
  refine .v (.asn rfl) rfl ?_
  refine .v (.asn rfl) rfl ?_
  refine .nil ?_
  refine .then ?_
  refine .seq ?_
  refine .seq ?_
  refine .region ?_
  refine .v (.ldw ty38 rfl .here rfl) rfl ?_
  refine .vb (.call rfl rfl (Try.call19 _) (fun G hle hG => rright_fn d a c G (hS.mono hle) hb)) rfl (fun h8_2 => ?_) (fun h8_2 => ?_)
  · skip
    refine .v (.not rfl) rfl ?_
    refine .v (.mv rfl) rfl ?_
    refine .g rfl rfl rfl ?_
    refine .v (.mv rfl) rfl ?_
    refine .g rfl rfl rfl ?_
    refine .vb (.call rfl rfl (Try.call36 _) (fun G hle hG => rnumber_fn _ G)) rfl (fun h12_3 => ?_) (fun h12_3 => ?_)
    · skip
      obtain ⟨hsf, htot, hleft⟩ := right_files h8_2
      have hlen := right_len hsf
      refine .g rfl rfl rfl ?_
      refine .v (.not rfl) rfl ?_
      refine .v (.pkF rfl rfl) rfl ?_
      refine .nil ?_
      refine .then ?_
      refine .condF rfl ?_
      refine .skip ?_
      refine .then ?_
      refine .seq ?_
      refine .seq ?_
      refine .region ?_
      refine .v (.fab fl38_3 rfl) rfl ?_
      refine .v (.ldb ty4 rfl .here rfl) rfl ?_
      refine .nil ?_
      refine .then ?_
      refine .cs (t := 16) rfl (fun c16_4 => ?_) (fun c16_4 => ?_)
      · skip
        refine .condT rfl ?_
        refine .seq ?_
        refine .region ?_
        refine .v (.asn rfl) rfl ?_
        refine .v (.asn rfl) rfl ?_
        refine .nil ?_
        refine .then ?_
        refine .ret ?_
        refine .then_ret ?_
        exact .done _ [] (.t2 rfl rfl rfl) .rfl (by rw [text_err (ready_down h8_2 h12_3 c16_4) (by decide)]) (Inn.keep (.there .here))
      · skip
        refine .condF rfl ?_
        refine .skip ?_
        refine .then ?_
        refine .seq ?_
        refine .seq ?_
        refine .region ?_
        refine .v (.ldw ty38 rfl .here rfl) rfl ?_
        refine .v (.mv rfl) rfl ?_
        refine .v (.call rfl rfl (Try.call39 _) (fun G hle hG => rat_fn d a c G (hS.mono hle) _)) rfl ?_
        refine .vs (.lt rfl rfl) rfl (fun h20_5 => ?_) (fun h20_5 => ?_)
        · skip
          refine .nil ?_
          refine .then ?_
          refine .condT rfl ?_
          refine .seq ?_
          refine .region ?_
          refine .v (.asn rfl) rfl ?_
          refine .v (.asn rfl) rfl ?_
          refine .nil ?_
          refine .then ?_
          refine .ret ?_
          refine .then_ret ?_
          have hth : there d.files id = false := by
            rcases at_cases hsf id with ⟨_, hat, _⟩ | ⟨hth, _⟩
            · have := h20_5; omega
            · exact hth
          exact .done _ [] (.t2 rfl rfl rfl) .rfl (by rw [show text d id = (⟨#[]⟩, 8) from by unfold text; rw [if_neg (by simp [ready_ok h8_2 h12_3 c16_4])]; exact text_none hth]) (Inn.keep (.there .here))
        · skip
          obtain ⟨hth, hat, f, hf, hfi⟩ : there d.files id = true ∧ atF d.files id = pos d.files id ∧ ∃ f, d.files[pos d.files id]? = some f ∧ f.id = id := (at_cases hsf id).resolve_right fun h => h20_5 (by rw [h.2]; decide)
          have hft := tot_get hf
          refine .nil ?_
          refine .then ?_
          refine .condF rfl ?_
          refine .skip ?_
          refine .then ?_
          refine .seq ?_
          refine .draw [[], [0], [], [], [2, 3], [1, 4], [5], [], [7, 6, 4, 0, 1, 2, 3, 4, 5, 6, 7]] [⟨7, 6, 76, _⟩] (by kernel_rfl) (by kernel_rfl) rfl (e1 := [(1, _), (2, _), (4, _), (5, _)]) (.cons rfl rfl (.cons rfl rfl (.cons rfl rfl (.cons rfl rfl .nil)))) (fun x hx => by rcases List.mem_cons.1 hx with rfl | hx; (exact ⟨_, _, _, _, _, _, _, rfl, ty76, rfl⟩); cases hx) rfl ?_
          refine .v (i := 0) [] rfl rfl rfl .nil (.n (.fa0 fl38_0 rfl)) ?_
          refine .v (i := 1) [(21, _)] rfl rfl rfl (.cons (.head _) rfl rfl .nil) (.n (.ldb ty36 rfl .here rfl)) ?_
          refine .v (i := 2) [] rfl rfl rfl .nil (.n (.ldw ty38 rfl .here rfl)) ?_
          refine .v (i := 3) [] rfl rfl rfl .nil (.n (.mv rfl)) ?_
          refine .v (i := 4) [(23, _), (24, _)] rfl rfl rfl (.cons (.tail _ (.head _)) rfl rfl (.cons (.head _) rfl rfl .nil)) (.n (.call rfl rfl (Try.call39 _) (fun G hle hG => rat_fn d a c G (hS.mono hle) _))) ?_
          refine .ix (i := 5) (j := (atF d.files id)) [(22, _), (25, _)] rfl rfl rfl (.cons (.tail _ (.tail _ (.tail _ (.head _)))) rfl rfl (.cons (.head _) rfl rfl .nil)) hS f ⟨by omega, by rw [hat]; exact hf⟩ (fun b_ o_ hr_ ha_ hle_ => .n (.ixs sl36 rfl rfl ⟨by omega, by rw [hat]; exact hf⟩ ha_ hle_)) (fun p6 o7 r8 => ?_)
          refine .v (i := 6) [(26, _)] rfl rfl rfl (.cons (.head _) rfl rfl .nil) (.n (.ldrw ty76 rfl r8 rfl)) ?_
          refine .tail1 8 [[8, 7, 6, 4, 0, 1, 2, 3, 5]] rfl rfl rfl rfl (e' := fun f => [(6, _), (27, _), (26, _), (25, _), (24, _), (23, _), (22, _), (21, _), (1, _), (2, _), (4, _), (5, _)]) (M := fun f => [_, _, _]) (fun _ => rfl) (fun _ => rfl) (fun f9 => ?_)
          refine .st (.stw ty76 rfl rfl rfl rfl rfl .here) ?_
          refine .nil ?_
          refine .then ?_
          refine .seq ?_
          refine .region ?_
          refine .v (.fab fl76_1 rfl) rfl ?_
          refine .v (.ldb ty9 rfl .here rfl) rfl ?_
          refine .v (.fab fl76_2 rfl) rfl ?_
          refine .v (.ldb ty9 rfl .here rfl) rfl ?_
          refine .v (.cat rfl rfl (by omega)) rfl ?_
          refine .v (.asn rfl) rfl ?_
          refine .v (.asn rfl) rfl ?_
          refine .nil ?_
          refine .then ?_
          refine .ret ?_
          exact .done _ [] (.t2 rfl rfl rfl) .rfl (by rw [show text d id = (f.firm ++ f.loose, 0) from by unfold text; rw [if_neg (by simp [ready_ok h8_2 h12_3 c16_4]), hf]; exact if_neg (by simp [hth])]) (Inn.keep (.there (.there .here)))
    · skip
      refine .g rfl rfl rfl ?_
      refine .v (.not rfl) rfl ?_
      refine .v (.pkF rfl rfl) rfl ?_
      refine .nil ?_
      refine .then ?_
      refine .condT rfl ?_
      refine .seq ?_
      refine .region ?_
      refine .v (.asn rfl) rfl ?_
      refine .v (.asn rfl) rfl ?_
      refine .nil ?_
      refine .then ?_
      refine .ret ?_
      refine .then_ret ?_
      exact .done _ [] (.t2 rfl rfl rfl) .rfl (by rw [text_err (ready_num h12_3) (by decide)]) (Inn.keep (.there .here))
  · skip
    refine .v (.not rfl) rfl ?_
    refine .v (.mv rfl) rfl ?_
    refine .gs rfl rfl rfl rfl ?_
    refine .gs rfl rfl rfl rfl ?_
    refine .gs rfl rfl rfl rfl ?_
    refine .v (.pkT rfl rfl) rfl ?_
    refine .nil ?_
    refine .then ?_
    refine .condT rfl ?_
    refine .seq ?_
    refine .region ?_
    refine .v (.asn rfl) rfl ?_
    refine .v (.asn rfl) rfl ?_
    refine .nil ?_
    refine .then ?_
    refine .ret ?_
    refine .then_ret ?_
    exact .done _ [] (.t2 rfl rfl rfl) .rfl (by rw [text_err (ready_right h8_2) (by decide)]) (Inn.keep (.there .here))
theorem rarm_fn (d : Dk) (a : Option Addr) (c : Nat) (F : Mem) (hS : Sl F encF 3 a c d.files) (n : Int) (hr : right d = true) : Fn Try.prog 20 #[dval a c d, .int .i64 n] [] F (fun u _ _ => u = dval a c (arm d n)) := by
  refine Fn.start0 Try.func20 rfl Try.ntmps20 rfl (env := [(0, _), (1, _)]) rfl ?_
  intro R
  refine .seq ?_
  refine .region ?_
  refine .nb (.box rfl rfl) rfl (fun b1 => ?_)
  refine .nb (.alloc ty38 rfl) rfl (fun b2 => ?_)
  refine .nil ?_
  refine .then ?_
  refine .seq ?_
  refine .region ?_
  refine .v (.mv rfl) rfl ?_
  refine .v (.fab fl38_2 rfl) rfl ?_
  refine .st (.stb ty4 rfl rfl rfl st2 (.there .here)) ?_
  refine .v (.fab fl38_1 rfl) rfl ?_
  refine .st (.stb ty3 rfl rfl rfl st1 (.there .here)) ?_
  refine .nil ?_
  refine .then ?_
  refine .seq ?_
  refine .seq ?_
  refine .region ?_
  refine .v (.mv rfl) rfl ?_
  refine .vs (.lt rfl rfl) rfl (fun h9_3 => ?_) (fun h9_3 => ?_)
  · skip
    refine .nil ?_
    refine .then ?_
    refine .condT rfl ?_
    refine .region ?_
    refine .v (.fab fl38_2 rfl) rfl ?_
    refine .st (.stb ty4 rfl rfl rfl st2 (.there .here)) ?_
    refine .v (.fab fl38_1 rfl) rfl ?_
    refine .st (.stb ty3 rfl rfl rfl st1 (.there .here)) ?_
    refine .nil ?_
    refine .then ?_
    refine .seq ?_
    refine .seq ?_
    refine .region ?_
    refine .v (.mv rfl) rfl ?_
    refine .vF (.gt rfl rfl) rfl (by omega) ?_
    refine .nil ?_
    refine .then ?_
    refine .condF rfl ?_
    refine .skip ?_
    refine .then ?_
    refine .seq ?_
    refine .region ?_
    refine .v (.ldw ty38 rfl (.there .here) rfl) rfl ?_
    refine .st (.stw ty38 rfl rfl rfl rfl rfl .here) ?_
    refine .nil ?_
    refine .then ?_
    refine .ret ?_
    exact .done _ [] (.c1 rfl ty38 rfl .here rfl) .rfl (by simp [arm, *]; try omega) (Inn.keep (.there (.there .here)))
  · skip
    refine .nil ?_
    refine .then ?_
    refine .condF rfl ?_
    refine .skip ?_
    refine .then ?_
    refine .seq ?_
    refine .seq ?_
    refine .region ?_
    refine .v (.mv rfl) rfl ?_
    refine .vs (.gt rfl rfl) rfl (fun h13_4 => ?_) (fun h13_4 => ?_)
    · skip
      refine .nil ?_
      refine .then ?_
      refine .condT rfl ?_
      refine .region ?_
      refine .v (.fab fl38_1 rfl) rfl ?_
      refine .st (.stb ty3 rfl rfl rfl st1 (.there .here)) ?_
      refine .nil ?_
      refine .then ?_
      refine .seq ?_
      refine .region ?_
      refine .v (.ldw ty38 rfl (.there .here) rfl) rfl ?_
      refine .st (.stw ty38 rfl rfl rfl rfl rfl .here) ?_
      refine .nil ?_
      refine .then ?_
      refine .ret ?_
      exact .done _ [] (.c1 rfl ty38 rfl .here rfl) .rfl (by simp [arm, *]; try omega) (Inn.keep (.there (.there .here)))
    · skip
      refine .nil ?_
      refine .then ?_
      refine .condF rfl ?_
      refine .skip ?_
      refine .then ?_
      refine .seq ?_
      refine .region ?_
      refine .v (.ldw ty38 rfl (.there .here) rfl) rfl ?_
      refine .st (.stw ty38 rfl rfl rfl rfl rfl .here) ?_
      refine .nil ?_
      refine .then ?_
      refine .ret ?_
      exact .done _ [] (.c1 rfl ty38 rfl .here rfl) .rfl (by simp [arm, *]; try omega) (Inn.keep (.there (.there .here)))
theorem run_eqF (w : World) (f g : Fl) (d : Nat) : (Op.equalIn (d + 2) 76 (.agg (encF f).toArray) (.agg (encF g).toArray)).run Try.prog w = .ok (fEq f g) w := by
  have p0 : ∀ (a b c : Value) (w : World), (part 3 #[a, b, c] 0).run Try.prog w = .ok a w := fun a b c w => ty3.part rfl w
  have p1 : ∀ (a b c : Value) (w : World), (part 9 #[a, b, c] 1).run Try.prog w = .ok b w := fun a b c w => ty9.part rfl w
  have p2 : ∀ (a b c : Value) (w : World), (part 9 #[a, b, c] 2).run Try.prog w = .ok c w := fun a b c w => ty9.part rfl w
  have q3 : ∀ (a b : Int) (w : World), (Op.equalIn (d + 1) 3 (.int .i64 a) (.int .i64 b)).run Try.prog w = .ok (decide (a = b)) w := fun a b w => by
    unfold Op.equalIn
    simp [run_underlying Try.underlying3]
    rfl
  have q9 : ∀ (a b : ByteArray) (w : World), (Op.equalIn (d + 1) 9 (.string a) (.string b)).run Try.prog w = .ok (decide (a = b)) w := fun a b w => by
    unfold Op.equalIn
    simp [run_underlying Try.underlying9, bytes_beq]
  unfold Op.equalIn
  simp [run_underlying Try.underlying76, encF, p0, p1, p2, q3, q9]
  unfold fEq
  by_cases h1 : f.id = g.id <;> by_cases h2 : f.firm = g.firm <;> by_cases h3 : f.loose = g.loose <;> simp [h1, h2, h3]
theorem OpV.neF {d : Option Tmp} {x y : Operand} {yt ty : TypeId} {pos : String} {af : Array Edge} {gd : Option (Nat × Bool)} {env : Env} {L : List Itm} {F : Mem} {f g : Fl} (hx : ev env x = some (.agg #[.int .i64 f.id, .string f.firm, .string f.loose])) (hy : ev env y = some (.agg #[.int .i64 g.id, .string g.firm, .string g.loose])) :
    OpV Try.prog ⟨d, .binOp .neq 76 x y yt, ty, pos, af, gd⟩ env L F (.bool (decide (¬ fEq f g = true))) :=
  .bin hx hy fun w => by
    have h0 : (Op.equal 76 (.agg #[.int .i64 f.id, .string f.firm, .string f.loose]) (.agg #[.int .i64 g.id, .string g.firm, .string g.loose])).run Try.prog w = .ok (fEq f g) w := run_eqF w f g 9998
    have h1 : (binOp .neq 76 (.agg #[.int .i64 f.id, .string f.firm, .string f.loose]) (.agg #[.int .i64 g.id, .string g.firm, .string g.loose])).run Try.prog w = .ok (.bool !(fEq f g)) w := by
      unfold binOp
      simp [h0]
    have h2 : (eqGuard .neq 76 x y (.agg #[.int .i64 f.id, .string f.firm, .string f.loose]) (.agg #[.int .i64 g.id, .string g.firm, .string g.loose])).run Try.prog w = .ok () w := by
      unfold eqGuard
      simp
    rw [Sem.run_bind, h2]
    show (binOp .neq 76 _ _).run Try.prog w = _
    rw [h1]
    simp
theorem requal_fn (d e : Dk) (a a2 : Option Addr) (c c2 : Nat) (F : Mem) (hS : Sl F encF 3 a c d.files) (hS2 : Sl F encF 3 a2 c2 e.files) : Fn Try.prog 15 #[dval a c d, dval a2 c2 e] [] F (fun u _ _ => u = .bool (sameD d e)) := by
  have hm := hS.len
  have hm2 := hS2.len
  refine Fn.start0 Try.func15 rfl Try.ntmps15 rfl (env := [(0, _), (1, _)]) rfl ?_
  intro R
  refine .seq ?_
  refine .region ?_
  refine .nb (.box rfl rfl) rfl (fun b1 => ?_)
  refine .nb (.box rfl rfl) rfl (fun b2 => ?_)
  refine .v (.asn rfl) rfl ?_
  refine .nil ?_
  refine .then ?_
  refine .seq ?_
  refine .seq ?_
  refine .region ?_
  refine .v (.fa0 fl38_0 rfl) rfl ?_
  refine .v (.ldb ty36 rfl (.there .here) rfl) rfl ?_
  refine .v (.lenl Try.underlying36 rfl) rfl ?_
  refine .v (.fa0 fl38_0 rfl) rfl ?_
  refine .v (.ldb ty36 rfl .here rfl) rfl ?_
  refine .v (.lenl Try.underlying36 rfl) rfl ?_
  refine .vs (.ne rfl rfl) rfl (fun h12_3 => ?_) (fun h12_3 => ?_)
  · skip
    refine .v (.mv rfl) rfl ?_
    refine .gs rfl rfl rfl rfl ?_
    refine .gs rfl rfl rfl rfl ?_
    refine .gs rfl rfl rfl rfl ?_
    refine .gs rfl rfl rfl rfl ?_
    refine .gs rfl rfl rfl rfl ?_
    refine .v (.pkT rfl rfl) rfl ?_
    refine .v (.mv rfl) rfl ?_
    refine .gs rfl rfl rfl rfl ?_
    refine .gs rfl rfl rfl rfl ?_
    refine .gs rfl rfl rfl rfl ?_
    refine .gs rfl rfl rfl rfl ?_
    refine .gs rfl rfl rfl rfl ?_
    refine .v (.pkT rfl rfl) rfl ?_
    refine .v (.mv rfl) rfl ?_
    refine .gs rfl rfl rfl rfl ?_
    refine .gs rfl rfl rfl rfl ?_
    refine .gs rfl rfl rfl rfl ?_
    refine .gs rfl rfl rfl rfl ?_
    refine .gs rfl rfl rfl rfl ?_
    refine .v (.pkT rfl rfl) rfl ?_
    refine .nil ?_
    refine .then ?_
    refine .condT rfl ?_
    refine .seq ?_
    refine .region ?_
    refine .v (.asn rfl) rfl ?_
    refine .nil ?_
    refine .then ?_
    refine .ret ?_
    refine .then_ret ?_
    exact .done _ [] (.t1 rfl rfl) .rfl (by simp [sameD, *]; try omega) (Inn.keep (.there (.there .here)))
  · skip
    refine .v (.mv rfl) rfl ?_
    refine .g rfl rfl rfl ?_
    refine .v (.fab fl38_1 rfl) rfl ?_
    refine .g rfl rfl rfl ?_
    refine .v (.ldb ty3 rfl (.there .here) rfl) rfl ?_
    refine .g rfl rfl rfl ?_
    refine .v (.fab fl38_1 rfl) rfl ?_
    refine .g rfl rfl rfl ?_
    refine .v (.ldb ty3 rfl .here rfl) rfl ?_
    refine .g rfl rfl rfl ?_
    refine .vs (.ne rfl rfl) rfl (fun h18_4 => ?_) (fun h18_4 => ?_)
    · skip
      refine .v (.pkF rfl rfl) rfl ?_
      refine .v (.mv rfl) rfl ?_
      refine .gs rfl rfl rfl rfl ?_
      refine .gs rfl rfl rfl rfl ?_
      refine .gs rfl rfl rfl rfl ?_
      refine .gs rfl rfl rfl rfl ?_
      refine .gs rfl rfl rfl rfl ?_
      refine .v (.pkT rfl rfl) rfl ?_
      refine .v (.mv rfl) rfl ?_
      refine .gs rfl rfl rfl rfl ?_
      refine .gs rfl rfl rfl rfl ?_
      refine .gs rfl rfl rfl rfl ?_
      refine .gs rfl rfl rfl rfl ?_
      refine .gs rfl rfl rfl rfl ?_
      refine .v (.pkT rfl rfl) rfl ?_
      refine .nil ?_
      refine .then ?_
      refine .condT rfl ?_
      refine .seq ?_
      refine .region ?_
      refine .v (.asn rfl) rfl ?_
      refine .nil ?_
      refine .then ?_
      refine .ret ?_
      refine .then_ret ?_
      exact .done _ [] (.t1 rfl rfl) .rfl (by simp [sameD, *]; try omega) (Inn.keep (.there (.there .here)))
    · skip
      refine .v (.pkF rfl rfl) rfl ?_
      refine .v (.mv rfl) rfl ?_
      refine .g rfl rfl rfl ?_
      refine .v (.fab fl38_2 rfl) rfl ?_
      refine .g rfl rfl rfl ?_
      refine .v (.ldb ty4 rfl (.there .here) rfl) rfl ?_
      refine .g rfl rfl rfl ?_
      refine .v (.fab fl38_2 rfl) rfl ?_
      refine .g rfl rfl rfl ?_
      refine .v (.ldb ty4 rfl .here rfl) rfl ?_
      refine .g rfl rfl rfl ?_
      refine .vs (.neb Try.underlying4 rfl rfl) rfl (fun h25_5 => ?_) (fun h25_5 => ?_)
      · skip
        refine .v (.pkF rfl rfl) rfl ?_
        refine .v (.mv rfl) rfl ?_
        refine .gs rfl rfl rfl rfl ?_
        refine .gs rfl rfl rfl rfl ?_
        refine .gs rfl rfl rfl rfl ?_
        refine .gs rfl rfl rfl rfl ?_
        refine .gs rfl rfl rfl rfl ?_
        refine .v (.pkT rfl rfl) rfl ?_
        refine .nil ?_
        refine .then ?_
        refine .condT rfl ?_
        refine .seq ?_
        refine .region ?_
        refine .v (.asn rfl) rfl ?_
        refine .nil ?_
        refine .then ?_
        refine .ret ?_
        refine .then_ret ?_
        exact .done _ [] (.t1 rfl rfl) .rfl (by simp [sameD, *]; try omega) (Inn.keep (.there (.there .here)))
      · skip
        refine .v (.pkF rfl rfl) rfl ?_
        refine .v (.mv rfl) rfl ?_
        refine .g rfl rfl rfl ?_
        refine .v (.fab fl38_3 rfl) rfl ?_
        refine .g rfl rfl rfl ?_
        refine .v (.ldb ty4 rfl (.there .here) rfl) rfl ?_
        refine .g rfl rfl rfl ?_
        refine .v (.fab fl38_3 rfl) rfl ?_
        refine .g rfl rfl rfl ?_
        refine .v (.ldb ty4 rfl .here rfl) rfl ?_
        refine .g rfl rfl rfl ?_
        refine .vs (.neb Try.underlying4 rfl rfl) rfl (fun h32_6 => ?_) (fun h32_6 => ?_)
        · skip
          refine .v (.pkF rfl rfl) rfl ?_
          refine .nil ?_
          refine .then ?_
          refine .condT rfl ?_
          refine .seq ?_
          refine .region ?_
          refine .v (.asn rfl) rfl ?_
          refine .nil ?_
          refine .then ?_
          refine .ret ?_
          refine .then_ret ?_
          exact .done _ [] (.t1 rfl rfl) .rfl (by simp [sameD, *]; try omega) (Inn.keep (.there (.there .here)))
        · skip
          refine .v (.pkF rfl rfl) rfl ?_
          refine .nil ?_
          refine .then ?_
          refine .condF rfl ?_
          refine .skip ?_
          refine .then ?_
          refine .seq ?_
          refine .seq ?_
          refine .region ?_
          refine .v (.asn rfl) rfl ?_
          refine .nil ?_
          refine .then ?_
          refine .block ?_
          have hl : d.files.length = e.files.length ∧ d.left = e.left ∧ d.armed = e.armed ∧ d.down = e.down := ⟨by omega, by omega, by simpa using h25_5, by simpa using h32_6⟩
          refine WC.loop0 (fx := [(2, _), (3, _)]) (.cons rfl rfl (.cons rfl rfl .nil)) (ι := Nat) (fun k => k ≤ d.files.length ∧ ∀ p x y, p < k → d.files[p]? = some x → e.files[p]? = some y → fEq x y = true) (fun k => d.files.length - k) (fun k => [(5, .int .i64 k)]) 0 ⟨by omega, fun p x y h => absurd h (Nat.not_lt_zero _)⟩ ?he ?round
          case he => exact .cons rfl rfl (.cons rfl rfl (.cons rfl rfl .nil))
          case round =>
            intro k hk
            obtain ⟨hk, hk2⟩ := hk
            have hl1 := hl.1
            refine .seq ?_
            refine .seq ?_
            refine .region ?_
            refine .v (.mv rfl) rfl ?_
            refine .v (.fa0 fl38_0 rfl) rfl ?_
            refine .v (.ldb ty36 rfl (.there .here) rfl) rfl ?_
            refine .v (.lenl Try.underlying36 rfl) rfl ?_
            refine .vs (.lt rfl rfl) rfl (fun h38_7 => ?_) (fun h38_7 => ?_)
            · skip
              obtain ⟨f, hf⟩ : ∃ y, d.files[k]? = some y := ⟨_, List.getElem?_eq_getElem (by omega)⟩
              obtain ⟨g, hg⟩ : ∃ y, e.files[k]? = some y := ⟨_, List.getElem?_eq_getElem (by omega)⟩
              refine .nil ?_
              refine .then ?_
              refine .condT rfl ?_
              refine .skip ?_
              refine .then ?_
              refine .seq ?_
              refine .block ?_
              refine .seq ?_
              refine .draw [[], [0], [], [1, 2], [3], [], [5], [], [6, 7], [8], [4, 9]] [] (by kernel_rfl) (by kernel_rfl) rfl (e1 := [(2, _), (3, _), (5, _)]) (.cons rfl rfl (.cons rfl rfl (.cons rfl rfl .nil))) (fun x hx => by cases hx) rfl ?_
              refine .v (i := 0) [] rfl rfl rfl .nil (.n (.fa0 fl38_0 rfl)) ?_
              refine .v (i := 1) [(41, _)] rfl rfl rfl (.cons (.head _) rfl rfl .nil) (.n (.ldb ty36 rfl (.there .here) rfl)) ?_
              refine .v (i := 2) [] rfl rfl rfl .nil (.n (.mv rfl)) ?_
              refine .ix (i := 3) (j := (k : Int)) [(42, _), (43, _)] rfl rfl rfl (.cons (.tail _ (.head _)) rfl rfl (.cons (.head _) rfl rfl .nil)) hS f ⟨by omega, hf⟩ (fun b_ o_ hr_ ha_ hle_ => .n (.ixs sl36 rfl rfl ⟨by omega, hf⟩ ha_ hle_)) (fun p8 o9 r10 => ?_)
              refine .v (i := 4) [(44, _)] rfl rfl rfl (.cons (.head _) rfl rfl .nil) (.n (.ldrw ty76 rfl r10 rfl)) ?_
              refine .v (i := 5) [] rfl rfl rfl .nil (.n (.fa0 fl38_0 rfl)) ?_
              refine .v (i := 6) [(46, _)] rfl rfl rfl (.cons (.head _) rfl rfl .nil) (.n (.ldb ty36 rfl .here rfl)) ?_
              refine .v (i := 7) [] rfl rfl rfl .nil (.n (.mv rfl)) ?_
              refine .ix (i := 8) (j := (k : Int)) [(47, _), (48, _)] rfl rfl rfl (.cons (.tail _ (.head _)) rfl rfl (.cons (.head _) rfl rfl .nil)) hS2 g ⟨by omega, hg⟩ (fun b_ o_ hr_ ha_ hle_ => .n (.ixs sl36 rfl rfl ⟨by omega, hg⟩ ha_ hle_)) (fun p11 o12 r13 => ?_)
              refine .v (i := 9) [(49, _)] rfl rfl rfl (.cons (.head _) rfl rfl .nil) (.n (.ldrw ty76 rfl r13 rfl)) ?_
              refine .tail0 10 [[10, 4, 9, 3, 8, 1, 2, 6, 7, 0, 5]] rfl rfl rfl rfl (e' := [(50, _), (49, _), (48, _), (47, _), (46, _), (45, _), (44, _), (43, _), (42, _), (41, _), (2, _), (3, _), (5, _)]) rfl ?_
              refine .vs (.neF rfl rfl) rfl (fun h51_14 => ?_) (fun h51_14 => ?_)
              · skip
                refine .nil ?_
                refine .then ?_
                refine .condT rfl ?_
                refine .seq ?_
                refine .region ?_
                refine .v (.asn rfl) rfl ?_
                refine .nil ?_
                refine .then ?_
                refine .ret ?_
                refine .blk_ret ?_
                refine .then_ret ?_
                refine .then_ret ?_
                refine .blk_ret ?_
                refine .then_ret ?_
                exact .done _ [] (.t1 rfl rfl) .rfl (by rw [sameD_skip hl hf hg (by simpa using h51_14)]) (Inn.keep (.there (.there .here)))
              · skip
                refine .nil ?_
                refine .then ?_
                refine .condF rfl ?_
                refine .skip ?_
                refine .blk ?_
                refine .then ?_
                refine .region ?_
                refine .v (.mv rfl) rfl ?_
                refine .v (.add rfl rfl (by omega)) rfl ?_
                refine .v (.asn rfl) rfl ?_
                refine .nil ?_
                exact .again (k + 1) ⟨by omega, fun p x y hp h1 h2 => if e : p = k then (by subst e; rw [hf] at h1; rw [hg] at h2; injection h1 with h1; injection h2 with h2; subst h1 h2; exact Decidable.not_not.1 h51_14) else hk2 p x y (by omega) h1 h2⟩ (by omega) (.cons rfl rfl (.cons rfl rfl (.cons rfl rfl .nil))) (subl (.refl _))
            · skip
              refine .nil ?_
              refine .then ?_
              refine .condF rfl ?_
              refine .exit ?_
              refine .then_exit ?_
              refine .then_exit ?_
              refine .blk_exit ?_
              refine .then ?_
              refine .seq ?_
              refine .region ?_
              refine .v (.asn rfl) rfl ?_
              refine .nil ?_
              refine .then ?_
              refine .ret ?_
              exact .done _ [] (.t1 rfl rfl) .rfl (by rw [sameD_all hl fun p x y hp h1 h2 => hk2 p x y (by omega) h1 h2]) (Inn.keep (.there (.there .here)))
theorem rsmall_fn (d : Dk) (a : Option Addr) (c : Nat) (F : Mem) (hS : Sl F encF 3 a c d.files) : Fn Try.prog 12 #[dval a c d] [] F (fun u _ _ => u = .bool (small d)) := by
  have hm := hS.len
  refine Fn.start0 Try.func12 rfl Try.ntmps12 rfl (env := [(0, _)]) rfl ?_
  intro R
  refine .seq ?_
  refine .region ?_
  refine .nb (.box rfl rfl) rfl (fun b1 => ?_)
  refine .v (.asn rfl) rfl ?_
  refine .nil ?_
  refine .then ?_
  refine .seq ?_
  refine .seq ?_
  refine .region ?_
  refine .v (.fa0 fl38_0 rfl) rfl ?_
  refine .v (.ldb ty36 rfl .here rfl) rfl ?_
  refine .v (.lenl Try.underlying36 rfl) rfl ?_
  refine .vs (.gt rfl rfl) rfl (fun h7_2 => ?_) (fun h7_2 => ?_)
  · skip
    refine .nil ?_
    refine .then ?_
    refine .condT rfl ?_
    refine .seq ?_
    refine .region ?_
    refine .v (.asn rfl) rfl ?_
    refine .nil ?_
    refine .then ?_
    refine .ret ?_
    refine .then_ret ?_
    exact .done _ [] (.t1 rfl rfl) .rfl (by simp [small]; omega) (Inn.keep (.there .here))
  · skip
    refine .nil ?_
    refine .then ?_
    refine .condF rfl ?_
    refine .skip ?_
    refine .then ?_
    refine .seq ?_
    refine .seq ?_
    refine .region ?_
    refine .v (.asn rfl) rfl ?_
    refine .nil ?_
    refine .then ?_
    refine .block ?_
    refine WC.loop0 (fx := [(1, _)]) (.cons rfl rfl .nil) (ι := Nat) (fun k => k ≤ d.files.length ∧ ∀ p g, p < k → d.files[p]? = some g → g.firm.size ≤ 4096 ∧ g.loose.size ≤ 4096) (fun k => d.files.length - k) (fun k => [(3, .int .i64 k)]) 0 ⟨by omega, fun p g h => absurd h (Nat.not_lt_zero _)⟩ ?he ?round
    case he => exact .cons rfl rfl (.cons rfl rfl .nil)
    case round =>
      intro k hk
      obtain ⟨hk, hk2⟩ := hk
      refine .seq ?_
      refine .seq ?_
      refine .region ?_
      refine .v (.mv rfl) rfl ?_
      refine .v (.fa0 fl38_0 rfl) rfl ?_
      refine .v (.ldb ty36 rfl .here rfl) rfl ?_
      refine .v (.lenl Try.underlying36 rfl) rfl ?_
      refine .vs (.lt rfl rfl) rfl (fun h12_3 => ?_) (fun h12_3 => ?_)
      · skip
        refine .nil ?_
        refine .then ?_
        refine .condT rfl ?_
        refine .skip ?_
        refine .then ?_
        refine .seq ?_
        refine .block ?_
        refine .seq ?_
        refine .region ?_
        refine .v (.fa0 fl38_0 rfl) rfl ?_
        refine .v (.ldb ty36 rfl .here rfl) rfl ?_
        refine .v (.mv rfl) rfl ?_
        obtain ⟨f, hf⟩ : ∃ y, d.files[k]? = some y := ⟨_, List.getElem?_eq_getElem (by omega)⟩
        refine .ix sl36 rfl rfl hS rfl f ⟨by omega, hf⟩ (fun p4 o5 r6 => ?_)
        refine .v (.fae fl76_1 rfl) rfl ?_
        refine .v (.ldr (j := 1) ty9 rfl r6 rfl) rfl ?_
        refine .v (.lens Try.underlying9 rfl) rfl ?_
        refine .vs (.gt rfl rfl) rfl (fun h22_7 => ?_) (fun h22_7 => ?_)
        · skip
          refine .v (.mv rfl) rfl ?_
          refine .gs rfl rfl rfl rfl ?_
          refine .gs rfl rfl rfl rfl ?_
          refine .gs rfl rfl rfl rfl ?_
          refine .gs rfl rfl rfl rfl ?_
          refine .gs rfl rfl rfl rfl ?_
          refine .gs rfl rfl rfl rfl ?_
          refine .gs rfl rfl rfl rfl ?_
          refine .gs rfl rfl rfl rfl ?_
          refine .v (.pkT rfl rfl) rfl ?_
          refine .nil ?_
          refine .then ?_
          refine .condT rfl ?_
          refine .seq ?_
          refine .region ?_
          refine .v (.asn rfl) rfl ?_
          refine .nil ?_
          refine .then ?_
          refine .ret ?_
          refine .blk_ret ?_
          refine .then_ret ?_
          refine .then_ret ?_
          refine .blk_ret ?_
          refine .then_ret ?_
          exact .done _ [] (.t1 rfl rfl) .rfl (by rw [small_no hf (by omega)]) (Inn.keep (.there .here))
        · skip
          refine .v (.mv rfl) rfl ?_
          refine .g rfl rfl rfl ?_
          refine .v (.fa0 fl38_0 rfl) rfl ?_
          refine .g rfl rfl rfl ?_
          refine .v (.ldb ty36 rfl .here rfl) rfl ?_
          refine .g rfl rfl rfl ?_
          refine .v (.mv rfl) rfl ?_
          refine .g rfl rfl rfl ?_
          refine .ix sl36 rfl rfl hS rfl f ⟨by omega, hf⟩ (fun p8 o9 r10 => ?_)
          refine .g rfl rfl rfl ?_
          refine .v (.fae fl76_2 rfl) rfl ?_
          refine .g rfl rfl rfl ?_
          refine .v (.ldr (j := 2) ty9 rfl r10 rfl) rfl ?_
          refine .g rfl rfl rfl ?_
          refine .v (.lens Try.underlying9 rfl) rfl ?_
          refine .g rfl rfl rfl ?_
          refine .vs (.gt rfl rfl) rfl (fun h31_11 => ?_) (fun h31_11 => ?_)
          · skip
            refine .v (.pkF rfl rfl) rfl ?_
            refine .nil ?_
            refine .then ?_
            refine .condT rfl ?_
            refine .seq ?_
            refine .region ?_
            refine .v (.asn rfl) rfl ?_
            refine .nil ?_
            refine .then ?_
            refine .ret ?_
            refine .blk_ret ?_
            refine .then_ret ?_
            refine .then_ret ?_
            refine .blk_ret ?_
            refine .then_ret ?_
            exact .done _ [] (.t1 rfl rfl) .rfl (by rw [small_no hf (by omega)]) (Inn.keep (.there .here))
          · skip
            refine .v (.pkF rfl rfl) rfl ?_
            refine .nil ?_
            refine .then ?_
            refine .condF rfl ?_
            refine .skip ?_
            refine .blk ?_
            refine .then ?_
            refine .region ?_
            refine .v (.mv rfl) rfl ?_
            refine .v (.add rfl rfl (by omega)) rfl ?_
            refine .v (.asn rfl) rfl ?_
            refine .nil ?_
            exact .again (k + 1) ⟨by omega, fun p g hp hg => if e : p = k then (by subst e; rw [hf] at hg; injection hg with hg; subst hg; omega) else hk2 p g (by omega) hg⟩ (by omega) (.cons rfl rfl (.cons rfl rfl .nil)) (subl (.refl _))
      · skip
        refine .nil ?_
        refine .then ?_
        refine .condF rfl ?_
        refine .exit ?_
        refine .then_exit ?_
        refine .then_exit ?_
        refine .blk_exit ?_
        refine .then ?_
        refine .seq ?_
        refine .region ?_
        refine .v (.asn rfl) rfl ?_
        refine .nil ?_
        refine .then ?_
        refine .ret ?_
        exact .done _ [] (.t1 rfl rfl) .rfl (by rw [small_yes (by omega) fun p g hp hg => hk2 p g (by omega) hg]) (Inn.keep (.there .here))
end Go.Proofs.Ytifkokikdlgaaaa.Ow
