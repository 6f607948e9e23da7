/- What is known of the types of this program. -/
import Derived.Test.YtbmpdccoffkjgaaOwn6
import Derived.Test.YtbmpdccoffkjgaaProg
namespace Go.Proofs.Ytbmpdccoffkjgaa.Ow
open Go
theorem ty2 : Ty Try.prog 2 1 8 false (.int .i64 0) := ⟨by kernel_rfl, Try.isAgg2⟩
theorem ty3 : Ty Try.prog 3 1 8 false (.int .i64 0) := ⟨by kernel_rfl, Try.isAgg3⟩
theorem ty4 : Ty Try.prog 4 1 1 false (.bool false) := ⟨by kernel_rfl, Try.isAgg4⟩
theorem ty5 : Ty Try.prog 5 1 1 false (.int .u8 0) := ⟨by kernel_rfl, Try.isAgg5⟩
theorem ty9 : Ty Try.prog 9 1 16 false (.string ⟨#[]⟩) := ⟨by kernel_rfl, Try.isAgg9⟩
theorem ty12 : Ty Try.prog 12 1 8 false (.int .u64 0) := ⟨by kernel_rfl, Try.isAgg12⟩
theorem ty13 : Ty Try.prog 13 2 24 true (.agg #[(.string ⟨#[]⟩), (.int .u64 0)]) := ⟨by kernel_rfl, Try.isAgg13⟩
theorem fl13_0 : Fld Try.prog 13 0 0 := ⟨fun a w => by simp [Instr.fieldAt, Instr.sureAddr, fieldPlace]⟩
theorem fl13_1 : Fld Try.prog 13 1 1 := ⟨fun a w => by simp [Instr.fieldAt, Instr.sureAddr, fieldPlace]⟩
theorem ty22 : Ty Try.prog 22 1 24 false (.slice none 0 0) := ⟨by kernel_rfl, Try.isAgg22⟩
theorem sl22 : Sld Try.prog 22 47 2 := ⟨Try.underlying22, Try.sizeOf47⟩
theorem ty23 : Ty Try.prog 23 1 24 false (.slice none 0 0) := ⟨by kernel_rfl, Try.isAgg23⟩
theorem sl23 : Sld Try.prog 23 37 5 := ⟨Try.underlying23, Try.sizeOf37⟩
theorem ty26 : Ty Try.prog 26 1 24 false (.slice none 0 0) := ⟨by kernel_rfl, Try.isAgg26⟩
theorem sl26 : Sld Try.prog 26 56 2 := ⟨Try.underlying26, Try.sizeOf56⟩
theorem ty28 : Ty Try.prog 28 1 8 false (.pointer none) := ⟨by kernel_rfl, Try.isAgg28⟩
theorem ty36 : Ty Try.prog 36 5 64 true (.agg #[(.int .i64 0), (.int .i64 0), (.string ⟨#[]⟩), (.string ⟨#[]⟩), (.string ⟨#[]⟩)]) := ⟨by kernel_rfl, Try.isAgg36⟩
theorem fl36_0 : Fld Try.prog 36 0 0 := ⟨fun a w => by simp [Instr.fieldAt, Instr.sureAddr, fieldPlace]⟩
theorem fl36_1 : Fld Try.prog 36 1 1 := ⟨fun a w => by simp [Instr.fieldAt, Instr.sureAddr, fieldPlace]⟩
theorem fl36_2 : Fld Try.prog 36 2 2 := ⟨fun a w => by simp [Instr.fieldAt, Instr.sureAddr, fieldPlace]⟩
theorem fl36_3 : Fld Try.prog 36 3 3 := ⟨fun a w => by simp [Instr.fieldAt, Instr.sureAddr, fieldPlace]⟩
theorem fl36_4 : Fld Try.prog 36 4 4 := ⟨fun a w => by simp [Instr.fieldAt, Instr.sureAddr, fieldPlace]⟩
theorem ty37 : Ty Try.prog 37 5 64 true (.agg #[(.int .i64 0), (.int .i64 0), (.string ⟨#[]⟩), (.string ⟨#[]⟩), (.string ⟨#[]⟩)]) := ⟨by kernel_rfl, Try.isAgg37⟩
theorem fl37_0 : Fld Try.prog 37 0 0 := ⟨fun a w => by simp [Instr.fieldAt, Instr.sureAddr, fieldPlace]⟩
theorem fl37_1 : Fld Try.prog 37 1 1 := ⟨fun a w => by simp [Instr.fieldAt, Instr.sureAddr, fieldPlace]⟩
theorem fl37_2 : Fld Try.prog 37 2 2 := ⟨fun a w => by simp [Instr.fieldAt, Instr.sureAddr, fieldPlace]⟩
theorem fl37_3 : Fld Try.prog 37 3 3 := ⟨fun a w => by simp [Instr.fieldAt, Instr.sureAddr, fieldPlace]⟩
theorem fl37_4 : Fld Try.prog 37 4 4 := ⟨fun a w => by simp [Instr.fieldAt, Instr.sureAddr, fieldPlace]⟩
theorem ty40 : Ty Try.prog 40 1 8 false (.int .u64 0) := ⟨by kernel_rfl, Try.isAgg40⟩
theorem ty45 : Ty Try.prog 45 1 24 false (.slice none 0 0) := ⟨by kernel_rfl, Try.isAgg45⟩
theorem sl45 : Sld Try.prog 45 9 1 := ⟨Try.underlying45, Try.sizeOf9⟩
theorem ty46 : Ty Try.prog 46 2 32 true (.agg #[(.string ⟨#[]⟩), (.string ⟨#[]⟩)]) := ⟨by kernel_rfl, Try.isAgg46⟩
theorem fl46_0 : Fld Try.prog 46 0 0 := ⟨fun a w => by simp [Instr.fieldAt, Instr.sureAddr, fieldPlace]⟩
theorem fl46_1 : Fld Try.prog 46 1 1 := ⟨fun a w => by simp [Instr.fieldAt, Instr.sureAddr, fieldPlace]⟩
theorem ty47 : Ty Try.prog 47 2 32 true (.agg #[(.string ⟨#[]⟩), (.string ⟨#[]⟩)]) := ⟨by kernel_rfl, Try.isAgg47⟩
theorem fl47_0 : Fld Try.prog 47 0 0 := ⟨fun a w => by simp [Instr.fieldAt, Instr.sureAddr, fieldPlace]⟩
theorem fl47_1 : Fld Try.prog 47 1 1 := ⟨fun a w => by simp [Instr.fieldAt, Instr.sureAddr, fieldPlace]⟩
theorem ty56 : Ty Try.prog 56 2 32 true (.agg #[(.string ⟨#[]⟩), (.string ⟨#[]⟩)]) := ⟨by kernel_rfl, Try.isAgg56⟩
theorem fl56_0 : Fld Try.prog 56 0 0 := ⟨fun a w => by simp [Instr.fieldAt, Instr.sureAddr, fieldPlace]⟩
theorem fl56_1 : Fld Try.prog 56 1 1 := ⟨fun a w => by simp [Instr.fieldAt, Instr.sureAddr, fieldPlace]⟩
theorem ty57 : Ty Try.prog 57 1 24 false (.slice none 0 0) := ⟨by kernel_rfl, Try.isAgg57⟩
theorem sl57 : Sld Try.prog 57 68 2 := ⟨Try.underlying57, Try.sizeOf68⟩
theorem ty58 : Ty Try.prog 58 1 24 false (.slice none 0 0) := ⟨by kernel_rfl, Try.isAgg58⟩
theorem sl58 : Sld Try.prog 58 3 1 := ⟨Try.underlying58, Try.sizeOf3⟩
theorem ty59 : Ty Try.prog 59 4 64 true (.agg #[(.slice none 0 0), (.slice none 0 0), (.int .i64 0), (.int .i64 0)]) := ⟨by kernel_rfl, Try.isAgg59⟩
theorem fl59_0 : Fld Try.prog 59 0 0 := ⟨fun a w => by simp [Instr.fieldAt, Instr.sureAddr, fieldPlace]⟩
theorem fl59_1 : Fld Try.prog 59 1 1 := ⟨fun a w => by simp [Instr.fieldAt, Instr.sureAddr, fieldPlace]⟩
theorem fl59_2 : Fld Try.prog 59 2 2 := ⟨fun a w => by simp [Instr.fieldAt, Instr.sureAddr, fieldPlace]⟩
theorem fl59_3 : Fld Try.prog 59 3 3 := ⟨fun a w => by simp [Instr.fieldAt, Instr.sureAddr, fieldPlace]⟩
theorem ty60 : Ty Try.prog 60 4 64 true (.agg #[(.slice none 0 0), (.slice none 0 0), (.int .i64 0), (.int .i64 0)]) := ⟨by kernel_rfl, Try.isAgg60⟩
theorem fl60_0 : Fld Try.prog 60 0 0 := ⟨fun a w => by simp [Instr.fieldAt, Instr.sureAddr, fieldPlace]⟩
theorem fl60_1 : Fld Try.prog 60 1 1 := ⟨fun a w => by simp [Instr.fieldAt, Instr.sureAddr, fieldPlace]⟩
theorem fl60_2 : Fld Try.prog 60 2 2 := ⟨fun a w => by simp [Instr.fieldAt, Instr.sureAddr, fieldPlace]⟩
theorem fl60_3 : Fld Try.prog 60 3 3 := ⟨fun a w => by simp [Instr.fieldAt, Instr.sureAddr, fieldPlace]⟩
theorem ty67 : Ty Try.prog 67 2 48 true (.agg #[(.slice none 0 0), (.slice none 0 0)]) := ⟨by kernel_rfl, Try.isAgg67⟩
theorem fl67_0 : Fld Try.prog 67 0 0 := ⟨fun a w => by simp [Instr.fieldAt, Instr.sureAddr, fieldPlace]⟩
theorem fl67_1 : Fld Try.prog 67 1 1 := ⟨fun a w => by simp [Instr.fieldAt, Instr.sureAddr, fieldPlace]⟩
theorem ty68 : Ty Try.prog 68 2 48 true (.agg #[(.slice none 0 0), (.slice none 0 0)]) := ⟨by kernel_rfl, Try.isAgg68⟩
theorem fl68_0 : Fld Try.prog 68 0 0 := ⟨fun a w => by simp [Instr.fieldAt, Instr.sureAddr, fieldPlace]⟩
theorem fl68_1 : Fld Try.prog 68 1 1 := ⟨fun a w => by simp [Instr.fieldAt, Instr.sureAddr, fieldPlace]⟩
theorem ty78 : Ty Try.prog 78 1 8 false (.pointer none) := ⟨by kernel_rfl, Try.isAgg78⟩
theorem ty100 : Ty Try.prog 100 1 4 false (.int .u32 0) := ⟨by kernel_rfl, Try.isAgg100⟩
theorem ty104 : Ty Try.prog 104 1 8 false (.pointer none) := ⟨by kernel_rfl, Try.isAgg104⟩
theorem bd68_ (w : World)  : (Instr.build 68 ([] : List (Nat × Value)).toArray).run Try.prog w = .ok (.agg #[(.slice none 0 0), (.slice none 0 0)]) w := by simp [Instr.build, Instr.fill, Value.cells]
theorem bd68_0 (w : World) (x0a : Option Addr) (x0n x0c : Nat) : (Instr.build 68 ([(0, .slice x0a x0n x0c)] : List (Nat × Value)).toArray).run Try.prog w = .ok (.agg #[(.slice x0a x0n x0c), (.slice none 0 0)]) w := by simp [Instr.build, Instr.fill, Value.cells]
end Go.Proofs.Ytbmpdccoffkjgaa.Ow
