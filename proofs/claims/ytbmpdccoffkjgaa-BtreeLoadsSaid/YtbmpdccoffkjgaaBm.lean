/- Walks. -/
import Derived.Test.YtbmpdccoffkjgaaBl
import Derived.Test.YtbmpdccoffkjgaaTyu
namespace Go.Proofs.Ytbmpdccoffkjgaa.Ow
open Go
set_option linter.unusedVariables false
theorem none_fn (k v : ByteArray) (n : Int) (F : Mem) : Fn Try.prog 8 #[.string k, .string v, .int .i64 n] [] F (fun u M _ => M = [] ∧ u = .bool true) := by
  refine Fn.start0 Try.func8 rfl Try.ntmps8 rfl (env := [(0, _), (1, _), (2, _)]) rfl ?_
  intro R
  refine .seq ?_
  refine .region ?_
  refine .v (.asn rfl) rfl ?_
  refine .nil ?_
  refine .then ?_
  refine .seq ?_
  refine .region ?_
  refine .v (.asn rfl) rfl ?_
  refine .nil ?_
  refine .then ?_
  refine .seq ?_
  refine .region ?_
  refine .v (.mv rfl) rfl ?_
  refine .v (.mv rfl) rfl ?_
  refine .v (.call rfl rfl (Try.call25 _) (fun G hle hG => get_nil _ G)) rfl ?_
  refine .v (.mv rfl) rfl ?_
  refine .v (.ext rfl rfl) rfl ?_
  refine .v (.ext rfl rfl) rfl ?_
  refine .v (.asn rfl) rfl ?_
  refine .v (.asn rfl) rfl ?_
  refine .nil ?_
  refine .then ?_
  refine .seq ?_
  refine .region ?_
  refine .v (.mv rfl) rfl ?_
  refine .vT (.eqs rfl rfl) rfl (by first | rfl | decide) ?_
  refine .v (.mv rfl) rfl ?_
  refine .g rfl rfl rfl ?_
  refine .v (.mv rfl) rfl ?_
  refine .g rfl rfl rfl ?_
  refine .v (.not rfl) rfl ?_
  refine .v (.pkT rfl rfl) rfl ?_
  refine .v (.mv rfl) rfl ?_
  refine .g rfl rfl rfl ?_
  refine .v (.mv rfl) rfl ?_
  refine .g rfl rfl rfl ?_
  refine .v (.mv rfl) rfl ?_
  refine .g rfl rfl rfl ?_
  refine .v (.mv rfl) rfl ?_
  refine .g rfl rfl rfl ?_
  refine .v (.call rfl rfl (Try.call21 _) (fun G hle hG => put_nil _ _ G)) rfl ?_
  refine .g rfl rfl rfl ?_
  refine .v (.not rfl) rfl ?_
  refine .v (.pkT rfl rfl) rfl ?_
  refine .v (.mv rfl) rfl ?_
  refine .g rfl rfl rfl ?_
  refine .v (.mv rfl) rfl ?_
  refine .g rfl rfl rfl ?_
  refine .v (.mv rfl) rfl ?_
  refine .g rfl rfl rfl ?_
  refine .v (.call rfl rfl (Try.call22 _) (fun G hle hG => delete_nil _ G)) rfl ?_
  refine .g rfl rfl rfl ?_
  refine .v (.not rfl) rfl ?_
  refine .v (.pkT rfl rfl) rfl ?_
  refine .v (.mv rfl) rfl ?_
  refine .g rfl rfl rfl ?_
  refine .v (.mv rfl) rfl ?_
  refine .g rfl rfl rfl ?_
  refine .v (.mv rfl) rfl ?_
  refine .g rfl rfl rfl ?_
  refine .v (.mv rfl) rfl ?_
  refine .g rfl rfl rfl ?_
  refine .v (.mv rfl) rfl ?_
  refine .g rfl rfl rfl ?_
  refine .v (.call rfl rfl (Try.call18 _) (fun G hle hG => range_nil _ _ _ G)) rfl ?_
  refine .g rfl rfl rfl ?_
  refine .v (.lenl Try.underlying22 rfl) rfl ?_
  refine .g rfl rfl rfl ?_
  refine .vT (.eq rfl rfl) rfl rfl ?_
  refine .v (.pkT rfl rfl) rfl ?_
  refine .v (.mv rfl) rfl ?_
  refine .g rfl rfl rfl ?_
  refine .v (.mv rfl) rfl ?_
  refine .g rfl rfl rfl ?_
  refine .v (.call rfl rfl (Try.call16 _) (fun G hle hG => len_nil G)) rfl ?_
  refine .g rfl rfl rfl ?_
  refine .vT (.eq rfl rfl) rfl rfl ?_
  refine .v (.pkT rfl rfl) rfl ?_
  refine .v (.mv rfl) rfl ?_
  refine .g rfl rfl rfl ?_
  refine .v (.mv rfl) rfl ?_
  refine .g rfl rfl rfl ?_
  refine .v (.call rfl rfl (Try.call23 _) (fun G hle hG => depth_nil G)) rfl ?_
  refine .g rfl rfl rfl ?_
  refine .vT (.eq rfl rfl) rfl rfl ?_
  refine .v (.pkT rfl rfl) rfl ?_
  refine .v (.mv rfl) rfl ?_
  refine .g rfl rfl rfl ?_
  refine .v (.mv rfl) rfl ?_
  refine .g rfl rfl rfl ?_
  refine .v (.call rfl rfl (Try.call15 _) (fun G hle hG => check_nil G)) rfl ?_
  refine .g rfl rfl rfl ?_
  refine .v (.not rfl) rfl ?_
  refine .v (.pkT rfl rfl) rfl ?_
  refine .v (.mv rfl) rfl ?_
  refine .g rfl rfl rfl ?_
  refine .v (.call rfl rfl (Try.call11 _) (fun G hle hG => awake_fn G)) rfl ?_
  refine .v (.pkT rfl rfl) rfl ?_
  refine .v (.asn rfl) rfl ?_
  refine .nil ?_
  refine .then ?_
  refine .ret ?_
  exact .done _ [] (.t1 rfl rfl) .rfl ⟨rfl, rfl⟩ (Inn.keep .here)
end Go.Proofs.Ytbmpdccoffkjgaa.Ow
