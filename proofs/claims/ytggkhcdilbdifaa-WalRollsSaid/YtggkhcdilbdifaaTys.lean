/- What is known of the types of this program. -/
import Derived.Test.YtggkhcdilbdifaaOwn6
import Derived.Test.YtggkhcdilbdifaaProg
namespace Go.Proofs.Ytggkhcdilbdifaa.Ow
open Go
theorem ty2 : Ty Try.prog 2 1 8 false (.int .i64 0) := ⟨by kernel_rfl, Try.isAgg2⟩
theorem ty3 : Ty Try.prog 3 1 8 false (.int .i64 0) := ⟨by kernel_rfl, Try.isAgg3⟩
theorem ty4 : Ty Try.prog 4 1 1 false (.bool false) := ⟨by kernel_rfl, Try.isAgg4⟩
theorem ty5 : Ty Try.prog 5 1 1 false (.int .u8 0) := ⟨by kernel_rfl, Try.isAgg5⟩
theorem ty9 : Ty Try.prog 9 1 16 false (.string ⟨#[]⟩) := ⟨by kernel_rfl, Try.isAgg9⟩
theorem ty12 : Ty Try.prog 12 1 8 false (.int .u64 0) := ⟨by kernel_rfl, Try.isAgg12⟩
theorem ty13 : Ty Try.prog 13 2 24 true (.agg #[(.string ⟨#[]⟩), (.int .u64 0)]) := ⟨by kernel_rfl, Try.isAgg13⟩
theorem fl13_0 : Fld Try.prog 13 0 0 := ⟨fun a w => by simp [Instr.fieldAt, Instr.sureAddr, fieldPlace]⟩
theorem fl13_1 : Fld Try.prog 13 1 1 := ⟨fun a w => by simp [Instr.fieldAt, Instr.sureAddr, fieldPlace]⟩
theorem ty22 : Ty Try.prog 22 1 24 false (.slice none 0 0) := ⟨by kernel_rfl, Try.isAgg22⟩
theorem sl22 : Sld Try.prog 22 50 3 := ⟨Try.underlying22, Try.sizeOf50⟩
theorem ty23 : Ty Try.prog 23 4 40 true (.agg #[(.slice none 0 0), (.int .i64 0), (.bool false), (.bool false)]) := ⟨by kernel_rfl, Try.isAgg23⟩
theorem fl23_0 : Fld Try.prog 23 0 0 := ⟨fun a w => by simp [Instr.fieldAt, Instr.sureAddr, fieldPlace]⟩
theorem fl23_1 : Fld Try.prog 23 1 1 := ⟨fun a w => by simp [Instr.fieldAt, Instr.sureAddr, fieldPlace]⟩
theorem fl23_2 : Fld Try.prog 23 2 2 := ⟨fun a w => by simp [Instr.fieldAt, Instr.sureAddr, fieldPlace]⟩
theorem fl23_3 : Fld Try.prog 23 3 3 := ⟨fun a w => by simp [Instr.fieldAt, Instr.sureAddr, fieldPlace]⟩
theorem ty24 : Ty Try.prog 24 4 40 true (.agg #[(.slice none 0 0), (.int .i64 0), (.bool false), (.bool false)]) := ⟨by kernel_rfl, Try.isAgg24⟩
theorem fl24_0 : Fld Try.prog 24 0 0 := ⟨fun a w => by simp [Instr.fieldAt, Instr.sureAddr, fieldPlace]⟩
theorem fl24_1 : Fld Try.prog 24 1 1 := ⟨fun a w => by simp [Instr.fieldAt, Instr.sureAddr, fieldPlace]⟩
theorem fl24_2 : Fld Try.prog 24 2 2 := ⟨fun a w => by simp [Instr.fieldAt, Instr.sureAddr, fieldPlace]⟩
theorem fl24_3 : Fld Try.prog 24 3 3 := ⟨fun a w => by simp [Instr.fieldAt, Instr.sureAddr, fieldPlace]⟩
theorem ty25 : Ty Try.prog 25 1 24 false (.slice none 0 0) := ⟨by kernel_rfl, Try.isAgg25⟩
theorem sl25 : Sld Try.prog 25 51 3 := ⟨Try.underlying25, Try.sizeOf51⟩
theorem ty26 : Ty Try.prog 26 4 40 true (.agg #[(.slice none 0 0), (.int .i64 0), (.bool false), (.bool false)]) := ⟨by kernel_rfl, Try.isAgg26⟩
theorem fl26_0 : Fld Try.prog 26 0 0 := ⟨fun a w => by simp [Instr.fieldAt, Instr.sureAddr, fieldPlace]⟩
theorem fl26_1 : Fld Try.prog 26 1 1 := ⟨fun a w => by simp [Instr.fieldAt, Instr.sureAddr, fieldPlace]⟩
theorem fl26_2 : Fld Try.prog 26 2 2 := ⟨fun a w => by simp [Instr.fieldAt, Instr.sureAddr, fieldPlace]⟩
theorem fl26_3 : Fld Try.prog 26 3 3 := ⟨fun a w => by simp [Instr.fieldAt, Instr.sureAddr, fieldPlace]⟩
theorem ty27 : Ty Try.prog 27 4 40 true (.agg #[(.slice none 0 0), (.int .i64 0), (.bool false), (.bool false)]) := ⟨by kernel_rfl, Try.isAgg27⟩
theorem fl27_0 : Fld Try.prog 27 0 0 := ⟨fun a w => by simp [Instr.fieldAt, Instr.sureAddr, fieldPlace]⟩
theorem fl27_1 : Fld Try.prog 27 1 1 := ⟨fun a w => by simp [Instr.fieldAt, Instr.sureAddr, fieldPlace]⟩
theorem fl27_2 : Fld Try.prog 27 2 2 := ⟨fun a w => by simp [Instr.fieldAt, Instr.sureAddr, fieldPlace]⟩
theorem fl27_3 : Fld Try.prog 27 3 3 := ⟨fun a w => by simp [Instr.fieldAt, Instr.sureAddr, fieldPlace]⟩
theorem ty31 : Ty Try.prog 31 1 8 false (.int .i64 0) := ⟨by kernel_rfl, Try.isAgg31⟩
theorem ty34 : Ty Try.prog 34 1 24 false (.slice none 0 0) := ⟨by kernel_rfl, Try.isAgg34⟩
theorem sl34 : Sld Try.prog 34 9 1 := ⟨Try.underlying34, Try.sizeOf9⟩
theorem ty49 : Ty Try.prog 49 3 40 true (.agg #[(.int .i64 0), (.string ⟨#[]⟩), (.string ⟨#[]⟩)]) := ⟨by kernel_rfl, Try.isAgg49⟩
theorem fl49_0 : Fld Try.prog 49 0 0 := ⟨fun a w => by simp [Instr.fieldAt, Instr.sureAddr, fieldPlace]⟩
theorem fl49_1 : Fld Try.prog 49 1 1 := ⟨fun a w => by simp [Instr.fieldAt, Instr.sureAddr, fieldPlace]⟩
theorem fl49_2 : Fld Try.prog 49 2 2 := ⟨fun a w => by simp [Instr.fieldAt, Instr.sureAddr, fieldPlace]⟩
theorem ty50 : Ty Try.prog 50 3 40 true (.agg #[(.int .i64 0), (.string ⟨#[]⟩), (.string ⟨#[]⟩)]) := ⟨by kernel_rfl, Try.isAgg50⟩
theorem fl50_0 : Fld Try.prog 50 0 0 := ⟨fun a w => by simp [Instr.fieldAt, Instr.sureAddr, fieldPlace]⟩
theorem fl50_1 : Fld Try.prog 50 1 1 := ⟨fun a w => by simp [Instr.fieldAt, Instr.sureAddr, fieldPlace]⟩
theorem fl50_2 : Fld Try.prog 50 2 2 := ⟨fun a w => by simp [Instr.fieldAt, Instr.sureAddr, fieldPlace]⟩
theorem ty51 : Ty Try.prog 51 3 40 true (.agg #[(.int .i64 0), (.string ⟨#[]⟩), (.string ⟨#[]⟩)]) := ⟨by kernel_rfl, Try.isAgg51⟩
theorem fl51_0 : Fld Try.prog 51 0 0 := ⟨fun a w => by simp [Instr.fieldAt, Instr.sureAddr, fieldPlace]⟩
theorem fl51_1 : Fld Try.prog 51 1 1 := ⟨fun a w => by simp [Instr.fieldAt, Instr.sureAddr, fieldPlace]⟩
theorem fl51_2 : Fld Try.prog 51 2 2 := ⟨fun a w => by simp [Instr.fieldAt, Instr.sureAddr, fieldPlace]⟩
theorem ty52 : Ty Try.prog 52 1 24 false (.slice none 0 0) := ⟨by kernel_rfl, Try.isAgg52⟩
theorem sl52 : Sld Try.prog 52 57 3 := ⟨Try.underlying52, Try.sizeOf57⟩
theorem ty56 : Ty Try.prog 56 3 40 true (.agg #[(.int .i64 0), (.slice none 0 0), (.bool false)]) := ⟨by kernel_rfl, Try.isAgg56⟩
theorem fl56_0 : Fld Try.prog 56 0 0 := ⟨fun a w => by simp [Instr.fieldAt, Instr.sureAddr, fieldPlace]⟩
theorem fl56_1 : Fld Try.prog 56 1 1 := ⟨fun a w => by simp [Instr.fieldAt, Instr.sureAddr, fieldPlace]⟩
theorem fl56_2 : Fld Try.prog 56 2 2 := ⟨fun a w => by simp [Instr.fieldAt, Instr.sureAddr, fieldPlace]⟩
theorem ty57 : Ty Try.prog 57 3 40 true (.agg #[(.int .i64 0), (.slice none 0 0), (.bool false)]) := ⟨by kernel_rfl, Try.isAgg57⟩
theorem fl57_0 : Fld Try.prog 57 0 0 := ⟨fun a w => by simp [Instr.fieldAt, Instr.sureAddr, fieldPlace]⟩
theorem fl57_1 : Fld Try.prog 57 1 1 := ⟨fun a w => by simp [Instr.fieldAt, Instr.sureAddr, fieldPlace]⟩
theorem fl57_2 : Fld Try.prog 57 2 2 := ⟨fun a w => by simp [Instr.fieldAt, Instr.sureAddr, fieldPlace]⟩
theorem ty59 : Ty Try.prog 59 1 24 false (.slice none 0 0) := ⟨by kernel_rfl, Try.isAgg59⟩
theorem sl59 : Sld Try.prog 59 3 1 := ⟨Try.underlying59, Try.sizeOf3⟩
theorem ty72 : Ty Try.prog 72 1 4 false (.int .u32 0) := ⟨by kernel_rfl, Try.isAgg72⟩
theorem ty87 : Ty Try.prog 87 1 8 false (.int .u64 0) := ⟨by kernel_rfl, Try.isAgg87⟩
theorem ty88 : Ty Try.prog 88 1 24 false (.slice none 0 0) := ⟨by kernel_rfl, Try.isAgg88⟩
theorem sl88 : Sld Try.prog 88 5 1 := ⟨Try.underlying88, Try.sizeOf5⟩
theorem ty108 : Ty Try.prog 108 1 8 false (.pointer none) := ⟨by kernel_rfl, Try.isAgg108⟩
theorem bd24_ (w : World)  : (Instr.build 24 ([] : List (Nat × Value)).toArray).run Try.prog w = .ok (.agg #[(.slice none 0 0), (.int .i64 0), (.bool false), (.bool false)]) w := by simp [Instr.build, Instr.fill, Value.cells]
theorem bd27_1_2_3 (w : World) (x1 : Int) (x2 : Bool) (x3 : Bool) : (Instr.build 27 ([(1, .int .i64 x1), (2, .bool x2), (3, .bool x3)] : List (Nat × Value)).toArray).run Try.prog w = .ok (.agg #[(.slice none 0 0), (.int .i64 x1), (.bool x2), (.bool x3)]) w := by simp [Instr.build, Instr.fill, Value.cells]
theorem bd50_0 (w : World) (x0 : Int) : (Instr.build 50 ([(0, .int .i64 x0)] : List (Nat × Value)).toArray).run Try.prog w = .ok (.agg #[(.int .i64 x0), (.string ⟨#[]⟩), (.string ⟨#[]⟩)]) w := by simp [Instr.build, Instr.fill, Value.cells]
theorem bd57_0_1_2 (w : World) (x0 : Int) (x1a : Option Addr) (x1n x1c : Nat) (x2 : Bool) : (Instr.build 57 ([(0, .int .i64 x0), (1, .slice x1a x1n x1c), (2, .bool x2)] : List (Nat × Value)).toArray).run Try.prog w = .ok (.agg #[(.int .i64 x0), (.slice x1a x1n x1c), (.bool x2)]) w := by simp [Instr.build, Instr.fill, Value.cells]
end Go.Proofs.Ytggkhcdilbdifaa.Ow
