/- What is known of the types of this program. -/
import Derived.Test.YtifkokikdlgaaaaOwn6
import Derived.Test.YtifkokikdlgaaaaProg
namespace Go.Proofs.Ytifkokikdlgaaaa.Ow
open Go
theorem ty2 : Ty Try.prog 2 1 8 false (.int .i64 0) := ⟨by kernel_rfl, Try.isAgg2⟩
theorem ty3 : Ty Try.prog 3 1 8 false (.int .i64 0) := ⟨by kernel_rfl, Try.isAgg3⟩
theorem ty4 : Ty Try.prog 4 1 1 false (.bool false) := ⟨by kernel_rfl, Try.isAgg4⟩
theorem ty5 : Ty Try.prog 5 1 1 false (.int .u8 0) := ⟨by kernel_rfl, Try.isAgg5⟩
theorem ty9 : Ty Try.prog 9 1 16 false (.string ⟨#[]⟩) := ⟨by kernel_rfl, Try.isAgg9⟩
theorem ty12 : Ty Try.prog 12 1 8 false (.int .u64 0) := ⟨by kernel_rfl, Try.isAgg12⟩
theorem ty13 : Ty Try.prog 13 2 24 true (.agg #[(.string ⟨#[]⟩), (.int .u64 0)]) := ⟨by kernel_rfl, Try.isAgg13⟩
theorem fl13_0 : Fld Try.prog 13 0 0 := ⟨fun a w => by simp [Instr.fieldAt, Instr.sureAddr, fieldPlace]⟩
theorem fl13_1 : Fld Try.prog 13 1 1 := ⟨fun a w => by simp [Instr.fieldAt, Instr.sureAddr, fieldPlace]⟩
theorem ty22 : Ty Try.prog 22 1 1 false (.int .i8 0) := ⟨by kernel_rfl, Try.isAgg22⟩
theorem ty23 : Ty Try.prog 23 1 24 false (.slice none 0 0) := ⟨by kernel_rfl, Try.isAgg23⟩
theorem sl23 : Sld Try.prog 23 5 1 := ⟨Try.underlying23, Try.sizeOf5⟩
theorem ty24 : Ty Try.prog 24 3 40 true (.agg #[(.int .i64 0), (.string ⟨#[]⟩), (.string ⟨#[]⟩)]) := ⟨by kernel_rfl, Try.isAgg24⟩
theorem fl24_0 : Fld Try.prog 24 0 0 := ⟨fun a w => by simp [Instr.fieldAt, Instr.sureAddr, fieldPlace]⟩
theorem fl24_1 : Fld Try.prog 24 1 1 := ⟨fun a w => by simp [Instr.fieldAt, Instr.sureAddr, fieldPlace]⟩
theorem fl24_2 : Fld Try.prog 24 2 2 := ⟨fun a w => by simp [Instr.fieldAt, Instr.sureAddr, fieldPlace]⟩
theorem ty25 : Ty Try.prog 25 3 40 true (.agg #[(.int .i64 0), (.string ⟨#[]⟩), (.string ⟨#[]⟩)]) := ⟨by kernel_rfl, Try.isAgg25⟩
theorem fl25_0 : Fld Try.prog 25 0 0 := ⟨fun a w => by simp [Instr.fieldAt, Instr.sureAddr, fieldPlace]⟩
theorem fl25_1 : Fld Try.prog 25 1 1 := ⟨fun a w => by simp [Instr.fieldAt, Instr.sureAddr, fieldPlace]⟩
theorem fl25_2 : Fld Try.prog 25 2 2 := ⟨fun a w => by simp [Instr.fieldAt, Instr.sureAddr, fieldPlace]⟩
theorem ty26 : Ty Try.prog 26 1 24 false (.slice none 0 0) := ⟨by kernel_rfl, Try.isAgg26⟩
theorem sl26 : Sld Try.prog 26 25 3 := ⟨Try.underlying26, Try.sizeOf25⟩
theorem ty27 : Ty Try.prog 27 4 40 true (.agg #[(.slice none 0 0), (.int .i64 0), (.bool false), (.bool false)]) := ⟨by kernel_rfl, Try.isAgg27⟩
theorem fl27_0 : Fld Try.prog 27 0 0 := ⟨fun a w => by simp [Instr.fieldAt, Instr.sureAddr, fieldPlace]⟩
theorem fl27_1 : Fld Try.prog 27 1 1 := ⟨fun a w => by simp [Instr.fieldAt, Instr.sureAddr, fieldPlace]⟩
theorem fl27_2 : Fld Try.prog 27 2 2 := ⟨fun a w => by simp [Instr.fieldAt, Instr.sureAddr, fieldPlace]⟩
theorem fl27_3 : Fld Try.prog 27 3 3 := ⟨fun a w => by simp [Instr.fieldAt, Instr.sureAddr, fieldPlace]⟩
theorem ty28 : Ty Try.prog 28 4 40 true (.agg #[(.slice none 0 0), (.int .i64 0), (.bool false), (.bool false)]) := ⟨by kernel_rfl, Try.isAgg28⟩
theorem fl28_0 : Fld Try.prog 28 0 0 := ⟨fun a w => by simp [Instr.fieldAt, Instr.sureAddr, fieldPlace]⟩
theorem fl28_1 : Fld Try.prog 28 1 1 := ⟨fun a w => by simp [Instr.fieldAt, Instr.sureAddr, fieldPlace]⟩
theorem fl28_2 : Fld Try.prog 28 2 2 := ⟨fun a w => by simp [Instr.fieldAt, Instr.sureAddr, fieldPlace]⟩
theorem fl28_3 : Fld Try.prog 28 3 3 := ⟨fun a w => by simp [Instr.fieldAt, Instr.sureAddr, fieldPlace]⟩
theorem ty29 : Ty Try.prog 29 1 8 false (.int .i64 0) := ⟨by kernel_rfl, Try.isAgg29⟩
theorem ty36 : Ty Try.prog 36 1 24 false (.slice none 0 0) := ⟨by kernel_rfl, Try.isAgg36⟩
theorem sl36 : Sld Try.prog 36 76 3 := ⟨Try.underlying36, Try.sizeOf76⟩
theorem ty37 : Ty Try.prog 37 4 40 true (.agg #[(.slice none 0 0), (.int .i64 0), (.bool false), (.bool false)]) := ⟨by kernel_rfl, Try.isAgg37⟩
theorem fl37_0 : Fld Try.prog 37 0 0 := ⟨fun a w => by simp [Instr.fieldAt, Instr.sureAddr, fieldPlace]⟩
theorem fl37_1 : Fld Try.prog 37 1 1 := ⟨fun a w => by simp [Instr.fieldAt, Instr.sureAddr, fieldPlace]⟩
theorem fl37_2 : Fld Try.prog 37 2 2 := ⟨fun a w => by simp [Instr.fieldAt, Instr.sureAddr, fieldPlace]⟩
theorem fl37_3 : Fld Try.prog 37 3 3 := ⟨fun a w => by simp [Instr.fieldAt, Instr.sureAddr, fieldPlace]⟩
theorem ty38 : Ty Try.prog 38 4 40 true (.agg #[(.slice none 0 0), (.int .i64 0), (.bool false), (.bool false)]) := ⟨by kernel_rfl, Try.isAgg38⟩
theorem fl38_0 : Fld Try.prog 38 0 0 := ⟨fun a w => by simp [Instr.fieldAt, Instr.sureAddr, fieldPlace]⟩
theorem fl38_1 : Fld Try.prog 38 1 1 := ⟨fun a w => by simp [Instr.fieldAt, Instr.sureAddr, fieldPlace]⟩
theorem fl38_2 : Fld Try.prog 38 2 2 := ⟨fun a w => by simp [Instr.fieldAt, Instr.sureAddr, fieldPlace]⟩
theorem fl38_3 : Fld Try.prog 38 3 3 := ⟨fun a w => by simp [Instr.fieldAt, Instr.sureAddr, fieldPlace]⟩
theorem ty43 : Ty Try.prog 43 1 24 false (.slice none 0 0) := ⟨by kernel_rfl, Try.isAgg43⟩
theorem sl43 : Sld Try.prog 43 3 1 := ⟨Try.underlying43, Try.sizeOf3⟩
theorem ty57 : Ty Try.prog 57 1 24 false (.slice none 0 0) := ⟨by kernel_rfl, Try.isAgg57⟩
theorem sl57 : Sld Try.prog 57 59 5 := ⟨Try.underlying57, Try.sizeOf59⟩
theorem ty58 : Ty Try.prog 58 5 64 true (.agg #[(.int .i64 0), (.int .i64 0), (.int .i64 0), (.string ⟨#[]⟩), (.slice none 0 0)]) := ⟨by kernel_rfl, Try.isAgg58⟩
theorem fl58_0 : Fld Try.prog 58 0 0 := ⟨fun a w => by simp [Instr.fieldAt, Instr.sureAddr, fieldPlace]⟩
theorem fl58_1 : Fld Try.prog 58 1 1 := ⟨fun a w => by simp [Instr.fieldAt, Instr.sureAddr, fieldPlace]⟩
theorem fl58_2 : Fld Try.prog 58 2 2 := ⟨fun a w => by simp [Instr.fieldAt, Instr.sureAddr, fieldPlace]⟩
theorem fl58_3 : Fld Try.prog 58 3 3 := ⟨fun a w => by simp [Instr.fieldAt, Instr.sureAddr, fieldPlace]⟩
theorem fl58_4 : Fld Try.prog 58 4 4 := ⟨fun a w => by simp [Instr.fieldAt, Instr.sureAddr, fieldPlace]⟩
theorem ty59 : Ty Try.prog 59 5 64 true (.agg #[(.int .i64 0), (.int .i64 0), (.int .i64 0), (.string ⟨#[]⟩), (.slice none 0 0)]) := ⟨by kernel_rfl, Try.isAgg59⟩
theorem fl59_0 : Fld Try.prog 59 0 0 := ⟨fun a w => by simp [Instr.fieldAt, Instr.sureAddr, fieldPlace]⟩
theorem fl59_1 : Fld Try.prog 59 1 1 := ⟨fun a w => by simp [Instr.fieldAt, Instr.sureAddr, fieldPlace]⟩
theorem fl59_2 : Fld Try.prog 59 2 2 := ⟨fun a w => by simp [Instr.fieldAt, Instr.sureAddr, fieldPlace]⟩
theorem fl59_3 : Fld Try.prog 59 3 3 := ⟨fun a w => by simp [Instr.fieldAt, Instr.sureAddr, fieldPlace]⟩
theorem fl59_4 : Fld Try.prog 59 4 4 := ⟨fun a w => by simp [Instr.fieldAt, Instr.sureAddr, fieldPlace]⟩
theorem ty63 : Ty Try.prog 63 1 8 false (.int .u64 0) := ⟨by kernel_rfl, Try.isAgg63⟩
theorem ty76 : Ty Try.prog 76 3 40 true (.agg #[(.int .i64 0), (.string ⟨#[]⟩), (.string ⟨#[]⟩)]) := ⟨by kernel_rfl, Try.isAgg76⟩
theorem fl76_0 : Fld Try.prog 76 0 0 := ⟨fun a w => by simp [Instr.fieldAt, Instr.sureAddr, fieldPlace]⟩
theorem fl76_1 : Fld Try.prog 76 1 1 := ⟨fun a w => by simp [Instr.fieldAt, Instr.sureAddr, fieldPlace]⟩
theorem fl76_2 : Fld Try.prog 76 2 2 := ⟨fun a w => by simp [Instr.fieldAt, Instr.sureAddr, fieldPlace]⟩
theorem ty93 : Ty Try.prog 93 1 4 false (.int .u32 0) := ⟨by kernel_rfl, Try.isAgg93⟩
theorem ty97 : Ty Try.prog 97 1 8 false (.pointer none) := ⟨by kernel_rfl, Try.isAgg97⟩
theorem bd25_0 (w : World) (x0 : Int) : (Instr.build 25 ([(0, .int .i64 x0)] : List (Nat × Value)).toArray).run Try.prog w = .ok (.agg #[(.int .i64 x0), (.string ⟨#[]⟩), (.string ⟨#[]⟩)]) w := by simp [Instr.build, Instr.fill, Value.cells]
theorem bd25_0_1 (w : World) (x0 : Int) (x1 : ByteArray) : (Instr.build 25 ([(0, .int .i64 x0), (1, .string x1)] : List (Nat × Value)).toArray).run Try.prog w = .ok (.agg #[(.int .i64 x0), (.string x1), (.string ⟨#[]⟩)]) w := by simp [Instr.build, Instr.fill, Value.cells]
theorem bd25_0_2 (w : World) (x0 : Int) (x2 : ByteArray) : (Instr.build 25 ([(0, .int .i64 x0), (2, .string x2)] : List (Nat × Value)).toArray).run Try.prog w = .ok (.agg #[(.int .i64 x0), (.string ⟨#[]⟩), (.string x2)]) w := by simp [Instr.build, Instr.fill, Value.cells]
theorem bd28_ (w : World)  : (Instr.build 28 ([] : List (Nat × Value)).toArray).run Try.prog w = .ok (.agg #[(.slice none 0 0), (.int .i64 0), (.bool false), (.bool false)]) w := by simp [Instr.build, Instr.fill, Value.cells]
theorem bd28_0 (w : World) (x0a : Option Addr) (x0n x0c : Nat) : (Instr.build 28 ([(0, .slice x0a x0n x0c)] : List (Nat × Value)).toArray).run Try.prog w = .ok (.agg #[(.slice x0a x0n x0c), (.int .i64 0), (.bool false), (.bool false)]) w := by simp [Instr.build, Instr.fill, Value.cells]
theorem bd38_0 (w : World) (x0a : Option Addr) (x0n x0c : Nat) : (Instr.build 38 ([(0, .slice x0a x0n x0c)] : List (Nat × Value)).toArray).run Try.prog w = .ok (.agg #[(.slice x0a x0n x0c), (.int .i64 0), (.bool false), (.bool false)]) w := by simp [Instr.build, Instr.fill, Value.cells]
theorem bd38_1_2_3 (w : World) (x1 : Int) (x2 : Bool) (x3 : Bool) : (Instr.build 38 ([(1, .int .i64 x1), (2, .bool x2), (3, .bool x3)] : List (Nat × Value)).toArray).run Try.prog w = .ok (.agg #[(.slice none 0 0), (.int .i64 x1), (.bool x2), (.bool x3)]) w := by simp [Instr.build, Instr.fill, Value.cells]
theorem bd59_0_1_3 (w : World) (x0 : Int) (x1 : Int) (x3 : ByteArray) : (Instr.build 59 ([(0, .int .i64 x0), (1, .int .i64 x1), (3, .string x3)] : List (Nat × Value)).toArray).run Try.prog w = .ok (.agg #[(.int .i64 x0), (.int .i64 x1), (.int .i64 0), (.string x3), (.slice none 0 0)]) w := by simp [Instr.build, Instr.fill, Value.cells]
theorem bd76_0 (w : World) (x0 : Int) : (Instr.build 76 ([(0, .int .i64 x0)] : List (Nat × Value)).toArray).run Try.prog w = .ok (.agg #[(.int .i64 x0), (.string ⟨#[]⟩), (.string ⟨#[]⟩)]) w := by simp [Instr.build, Instr.fill, Value.cells]
theorem bd76_0_1 (w : World) (x0 : Int) (x1 : ByteArray) : (Instr.build 76 ([(0, .int .i64 x0), (1, .string x1)] : List (Nat × Value)).toArray).run Try.prog w = .ok (.agg #[(.int .i64 x0), (.string x1), (.string ⟨#[]⟩)]) w := by simp [Instr.build, Instr.fill, Value.cells]
end Go.Proofs.Ytifkokikdlgaaaa.Ow
