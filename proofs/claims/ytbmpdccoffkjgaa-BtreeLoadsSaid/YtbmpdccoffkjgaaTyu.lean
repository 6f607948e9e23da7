import Derived.Test.YtbmpdccoffkjgaaTys
namespace Go.Proofs.Ytbmpdccoffkjgaa.Ow
open Go
theorem bd47_0_1 (w : World) (x0 : ByteArray) (x1 : ByteArray) : (Instr.build 47 ([(0, .string x0), (1, .string x1)] : List (Nat × Value)).toArray).run Try.prog w = .ok (.agg #[(.string x0), (.string x1)]) w := by simp [Instr.build, Instr.fill, Value.cells]
theorem bd56_0_1 (w : World) (x0 : ByteArray) (x1 : ByteArray) : (Instr.build 56 ([(0, .string x0), (1, .string x1)] : List (Nat × Value)).toArray).run Try.prog w = .ok (.agg #[(.string x0), (.string x1)]) w := by simp [Instr.build, Instr.fill, Value.cells]
theorem bd60_0 (w : World) (x0a : Option Addr) (x0n x0c : Nat) : (Instr.build 60 ([(0, .slice x0a x0n x0c)] : List (Nat × Value)).toArray).run Try.prog w = .ok (.agg #[(.slice x0a x0n x0c), (.slice none 0 0), (.int .i64 0), (.int .i64 0)]) w := by simp [Instr.build, Instr.fill, Value.cells]
theorem bd60_3 (w : World) (x3 : Int) : (Instr.build 60 ([(3, .int .i64 x3)] : List (Nat × Value)).toArray).run Try.prog w = .ok (.agg #[(.slice none 0 0), (.slice none 0 0), (.int .i64 0), (.int .i64 x3)]) w := by simp [Instr.build, Instr.fill, Value.cells]
theorem bd68_1 (w : World) (x1a : Option Addr) (x1n x1c : Nat) : (Instr.build 68 ([(1, .slice x1a x1n x1c)] : List (Nat × Value)).toArray).run Try.prog w = .ok (.agg #[(.slice none 0 0), (.slice x1a x1n x1c)]) w := by simp [Instr.build, Instr.fill, Value.cells]
end Go.Proofs.Ytbmpdccoffkjgaa.Ow
