import Derived.Test.YtaklegcphmfghaaSymOps
import Derived.Test.YtaklegcphmfghaaProg
import Derived.KernelRfl
import Derived.Shelf.Abstract
/- What is known of the types and the functions of this translation, told one by one. Printed by a program of this session. -/
namespace Go.Proofs.Ytaklegcphmfghaa
open Go.Shelf
theorem sc1 : Scalar Try.prog 1 := Scalar.mk' Try.underlying1 rfl (by kernel_rfl)
theorem zt1 : ZeroT Try.prog 1 [.nilFunc] := ZeroT.mk' (v := .nilFunc) (by kernel_rfl) rfl
theorem sc2 : Scalar Try.prog 2 := Scalar.mk' Try.underlying2 rfl (by kernel_rfl)
theorem zt2 : ZeroT Try.prog 2 [.int .i64 0] := ZeroT.mk' (v := .int .i64 0) (by kernel_rfl) rfl
theorem sc3 : Scalar Try.prog 3 := Scalar.mk' Try.underlying3 rfl (by kernel_rfl)
theorem zt3 : ZeroT Try.prog 3 [.int .i64 0] := ZeroT.mk' (v := .int .i64 0) (by kernel_rfl) rfl
theorem sc4 : Scalar Try.prog 4 := Scalar.mk' Try.underlying4 rfl (by kernel_rfl)
theorem zt4 : ZeroT Try.prog 4 [.bool false] := ZeroT.mk' (v := .bool false) (by kernel_rfl) rfl
theorem sc5 : Scalar Try.prog 5 := Scalar.mk' Try.underlying5 rfl (by kernel_rfl)
theorem zt5 : ZeroT Try.prog 5 [.int .u8 0] := ZeroT.mk' (v := .int .u8 0) (by kernel_rfl) rfl
theorem sc6 : Scalar Try.prog 6 := Scalar.mk' Try.underlying6 rfl (by kernel_rfl)
theorem zt6 : ZeroT Try.prog 6 [.int .u8 0] := ZeroT.mk' (v := .int .u8 0) (by kernel_rfl) rfl
theorem ag7 : AggT Try.prog 7 4 := AggT.mk' Try.underlying7 rfl (by kernel_rfl)
theorem zt7 : ZeroT Try.prog 7 [.int .i64 0, .int .i64 0, .bool false, .int .u8 0] := ZeroT.mk' (v := .agg #[.int .i64 0, .int .i64 0, .bool false, .int .u8 0]) (by kernel_rfl) rfl
theorem fd7_0 : FldT Try.prog 7 0 0 := FldT.mk' (n := 1) Try.underlying7 rfl rfl (by kernel_rfl) rfl
theorem fd7_1 : FldT Try.prog 7 1 1 := FldT.mk' (n := 1) Try.underlying7 rfl rfl (by kernel_rfl) rfl
theorem fd7_2 : FldT Try.prog 7 2 2 := FldT.mk' (n := 1) Try.underlying7 rfl rfl (by kernel_rfl) rfl
theorem fd7_3 : FldT Try.prog 7 3 3 := FldT.mk' (n := 1) Try.underlying7 rfl rfl (by kernel_rfl) rfl
theorem ag8 : AggT Try.prog 8 4 := AggT.mk' Try.underlying8 rfl (by kernel_rfl)
theorem zt8 : ZeroT Try.prog 8 [.int .i64 0, .int .i64 0, .bool false, .int .u8 0] := ZeroT.mk' (v := .agg #[.int .i64 0, .int .i64 0, .bool false, .int .u8 0]) (by kernel_rfl) rfl
theorem fd8_0 : FldT Try.prog 8 0 0 := FldT.mk' (n := 1) Try.underlying8 rfl rfl (by kernel_rfl) rfl
theorem fd8_1 : FldT Try.prog 8 1 1 := FldT.mk' (n := 1) Try.underlying8 rfl rfl (by kernel_rfl) rfl
theorem fd8_2 : FldT Try.prog 8 2 2 := FldT.mk' (n := 1) Try.underlying8 rfl rfl (by kernel_rfl) rfl
theorem fd8_3 : FldT Try.prog 8 3 3 := FldT.mk' (n := 1) Try.underlying8 rfl rfl (by kernel_rfl) rfl
theorem sc9 : Scalar Try.prog 9 := Scalar.mk' Try.underlying9 rfl (by kernel_rfl)
theorem zt9 : ZeroT Try.prog 9 [.string ByteArray.empty] := ZeroT.mk' (v := .string ByteArray.empty) (by kernel_rfl) rfl
theorem sc10 : Scalar Try.prog 10 := Scalar.mk' Try.underlying10 rfl (by kernel_rfl)
theorem zt10 : ZeroT Try.prog 10 [.string ByteArray.empty] := ZeroT.mk' (v := .string ByteArray.empty) (by kernel_rfl) rfl
theorem sc11 : Scalar Try.prog 11 := Scalar.mk' Try.underlying11 rfl (by kernel_rfl)
theorem zt11 : ZeroT Try.prog 11 [.string ByteArray.empty] := ZeroT.mk' (v := .string ByteArray.empty) (by kernel_rfl) rfl
theorem sc12 : Scalar Try.prog 12 := Scalar.mk' Try.underlying12 rfl (by kernel_rfl)
theorem zt12 : ZeroT Try.prog 12 [.int .u64 0] := ZeroT.mk' (v := .int .u64 0) (by kernel_rfl) rfl
theorem ag13 : AggT Try.prog 13 2 := AggT.mk' Try.underlying13 rfl (by kernel_rfl)
theorem zt13 : ZeroT Try.prog 13 [.string ByteArray.empty, .int .u64 0] := ZeroT.mk' (v := .agg #[.string ByteArray.empty, .int .u64 0]) (by kernel_rfl) rfl
theorem fd13_0 : FldT Try.prog 13 0 0 := FldT.mk' (n := 1) Try.underlying13 rfl rfl (by kernel_rfl) rfl
theorem fd13_1 : FldT Try.prog 13 1 1 := FldT.mk' (n := 1) Try.underlying13 rfl rfl (by kernel_rfl) rfl
theorem ag14 : AggT Try.prog 14 2 := AggT.mk' Try.underlying14 rfl (by kernel_rfl)
theorem zt14 : ZeroT Try.prog 14 [.string ByteArray.empty, .int .u64 0] := ZeroT.mk' (v := .agg #[.string ByteArray.empty, .int .u64 0]) (by kernel_rfl) rfl
theorem fd14_0 : FldT Try.prog 14 0 0 := FldT.mk' (n := 1) Try.underlying14 rfl rfl (by kernel_rfl) rfl
theorem fd14_1 : FldT Try.prog 14 1 1 := FldT.mk' (n := 1) Try.underlying14 rfl rfl (by kernel_rfl) rfl
theorem sc15 : Scalar Try.prog 15 := Scalar.mk' Try.underlying15 rfl (by kernel_rfl)
theorem zt15 : ZeroT Try.prog 15 [.pointer none] := ZeroT.mk' (v := .pointer none) (by kernel_rfl) rfl
theorem sc16 : Scalar Try.prog 16 := Scalar.mk' Try.underlying16 rfl (by kernel_rfl)
theorem zt16 : ZeroT Try.prog 16 [.pointer none] := ZeroT.mk' (v := .pointer none) (by kernel_rfl) rfl
theorem sc17 : Scalar Try.prog 17 := Scalar.mk' Try.underlying17 rfl (by kernel_rfl)
theorem zt17 : ZeroT Try.prog 17 [.pointer none] := ZeroT.mk' (v := .pointer none) (by kernel_rfl) rfl
theorem ag18 : AggT Try.prog 18 1 := AggT.mk' Try.underlying18 rfl (by kernel_rfl)
theorem zt18 : ZeroT Try.prog 18 [.pointer none] := ZeroT.mk' (v := .agg #[.pointer none]) (by kernel_rfl) rfl
theorem fd18_0 : FldT Try.prog 18 0 0 := FldT.mk' (n := 1) Try.underlying18 rfl rfl (by kernel_rfl) rfl
theorem ag19 : AggT Try.prog 19 1 := AggT.mk' Try.underlying19 rfl (by kernel_rfl)
theorem zt19 : ZeroT Try.prog 19 [.pointer none] := ZeroT.mk' (v := .agg #[.pointer none]) (by kernel_rfl) rfl
theorem fd19_0 : FldT Try.prog 19 0 0 := FldT.mk' (n := 1) Try.underlying19 rfl rfl (by kernel_rfl) rfl
theorem sc20 : Scalar Try.prog 20 := Scalar.mk' Try.underlying20 rfl (by kernel_rfl)
theorem zt20 : ZeroT Try.prog 20 [.nilIface] := ZeroT.mk' (v := .nilIface) (by kernel_rfl) rfl
theorem sc21 : Scalar Try.prog 21 := Scalar.mk' Try.underlying21 rfl (by kernel_rfl)
theorem zt21 : ZeroT Try.prog 21 [.int .i32 0] := ZeroT.mk' (v := .int .i32 0) (by kernel_rfl) rfl
theorem sc22 : Scalar Try.prog 22 := Scalar.mk' Try.underlying22 rfl (by kernel_rfl)
theorem zt22 : ZeroT Try.prog 22 [.slice none 0 0] := ZeroT.mk' (v := .slice none 0 0) (by kernel_rfl) rfl
theorem sl22 : SlT Try.prog 22 32 3 := ⟨Try.underlying22, size_of_info (by kernel_rfl)⟩
theorem sc23 : Scalar Try.prog 23 := Scalar.mk' Try.underlying23 rfl (by kernel_rfl)
theorem zt23 : ZeroT Try.prog 23 [.nilFunc] := ZeroT.mk' (v := .nilFunc) (by kernel_rfl) rfl
theorem sc24 : Scalar Try.prog 24 := Scalar.mk' Try.underlying24 rfl (by kernel_rfl)
theorem zt24 : ZeroT Try.prog 24 [.nilFunc] := ZeroT.mk' (v := .nilFunc) (by kernel_rfl) rfl
theorem sc25 : Scalar Try.prog 25 := Scalar.mk' Try.underlying25 rfl (by kernel_rfl)
theorem zt25 : ZeroT Try.prog 25 [.int .i64 0] := ZeroT.mk' (v := .int .i64 0) (by kernel_rfl) rfl
theorem sc27 : Scalar Try.prog 27 := Scalar.mk' Try.underlying27 rfl (by kernel_rfl)
theorem zt27 : ZeroT Try.prog 27 [.nilFunc] := ZeroT.mk' (v := .nilFunc) (by kernel_rfl) rfl
theorem sc28 : Scalar Try.prog 28 := Scalar.mk' Try.underlying28 rfl (by kernel_rfl)
theorem zt28 : ZeroT Try.prog 28 [.slice none 0 0] := ZeroT.mk' (v := .slice none 0 0) (by kernel_rfl) rfl
theorem sl28 : SlT Try.prog 28 3 1 := ⟨Try.underlying28, size_of_info (by kernel_rfl)⟩
theorem sc30 : Scalar Try.prog 30 := Scalar.mk' Try.underlying30 rfl (by kernel_rfl)
theorem zt30 : ZeroT Try.prog 30 [.nilFunc] := ZeroT.mk' (v := .nilFunc) (by kernel_rfl) rfl
theorem ag31 : AggT Try.prog 31 3 := AggT.mk' Try.underlying31 rfl (by kernel_rfl)
theorem zt31 : ZeroT Try.prog 31 [.int .i64 0, .int .i64 0, .int .i64 0] := ZeroT.mk' (v := .agg #[.int .i64 0, .int .i64 0, .int .i64 0]) (by kernel_rfl) rfl
theorem fd31_0 : FldT Try.prog 31 0 0 := FldT.mk' (n := 1) Try.underlying31 rfl rfl (by kernel_rfl) rfl
theorem fd31_1 : FldT Try.prog 31 1 1 := FldT.mk' (n := 1) Try.underlying31 rfl rfl (by kernel_rfl) rfl
theorem fd31_2 : FldT Try.prog 31 2 2 := FldT.mk' (n := 1) Try.underlying31 rfl rfl (by kernel_rfl) rfl
theorem ag32 : AggT Try.prog 32 3 := AggT.mk' Try.underlying32 rfl (by kernel_rfl)
theorem zt32 : ZeroT Try.prog 32 [.int .i64 0, .int .i64 0, .int .i64 0] := ZeroT.mk' (v := .agg #[.int .i64 0, .int .i64 0, .int .i64 0]) (by kernel_rfl) rfl
theorem fd32_0 : FldT Try.prog 32 0 0 := FldT.mk' (n := 1) Try.underlying32 rfl rfl (by kernel_rfl) rfl
theorem fd32_1 : FldT Try.prog 32 1 1 := FldT.mk' (n := 1) Try.underlying32 rfl rfl (by kernel_rfl) rfl
theorem fd32_2 : FldT Try.prog 32 2 2 := FldT.mk' (n := 1) Try.underlying32 rfl rfl (by kernel_rfl) rfl
theorem sc33 : Scalar Try.prog 33 := Scalar.mk' Try.underlying33 rfl (by kernel_rfl)
theorem zt33 : ZeroT Try.prog 33 [.nilFunc] := ZeroT.mk' (v := .nilFunc) (by kernel_rfl) rfl
theorem sc34 : Scalar Try.prog 34 := Scalar.mk' Try.underlying34 rfl (by kernel_rfl)
theorem zt34 : ZeroT Try.prog 34 [.nilFunc] := ZeroT.mk' (v := .nilFunc) (by kernel_rfl) rfl
theorem sc35 : Scalar Try.prog 35 := Scalar.mk' Try.underlying35 rfl (by kernel_rfl)
theorem zt35 : ZeroT Try.prog 35 [.int .u64 0] := ZeroT.mk' (v := .int .u64 0) (by kernel_rfl) rfl
theorem sc36 : Scalar Try.prog 36 := Scalar.mk' Try.underlying36 rfl (by kernel_rfl)
theorem zt36 : ZeroT Try.prog 36 [.int .u64 0] := ZeroT.mk' (v := .int .u64 0) (by kernel_rfl) rfl
theorem sc37 : Scalar Try.prog 37 := Scalar.mk' Try.underlying37 rfl (by kernel_rfl)
theorem zt37 : ZeroT Try.prog 37 [.nilFunc] := ZeroT.mk' (v := .nilFunc) (by kernel_rfl) rfl
theorem sc38 : Scalar Try.prog 38 := Scalar.mk' Try.underlying38 rfl (by kernel_rfl)
theorem zt38 : ZeroT Try.prog 38 [.nilFunc] := ZeroT.mk' (v := .nilFunc) (by kernel_rfl) rfl
theorem sc40 : Scalar Try.prog 40 := Scalar.mk' Try.underlying40 rfl (by kernel_rfl)
theorem zt40 : ZeroT Try.prog 40 [.nilFunc] := ZeroT.mk' (v := .nilFunc) (by kernel_rfl) rfl
theorem sc41 : Scalar Try.prog 41 := Scalar.mk' Try.underlying41 rfl (by kernel_rfl)
theorem zt41 : ZeroT Try.prog 41 [.nilFunc] := ZeroT.mk' (v := .nilFunc) (by kernel_rfl) rfl
theorem sc42 : Scalar Try.prog 42 := Scalar.mk' Try.underlying42 rfl (by kernel_rfl)
theorem zt42 : ZeroT Try.prog 42 [.nilFunc] := ZeroT.mk' (v := .nilFunc) (by kernel_rfl) rfl
theorem sc43 : Scalar Try.prog 43 := Scalar.mk' Try.underlying43 rfl (by kernel_rfl)
theorem zt43 : ZeroT Try.prog 43 [.nilFunc] := ZeroT.mk' (v := .nilFunc) (by kernel_rfl) rfl
theorem sc44 : Scalar Try.prog 44 := Scalar.mk' Try.underlying44 rfl (by kernel_rfl)
theorem zt44 : ZeroT Try.prog 44 [.nilFunc] := ZeroT.mk' (v := .nilFunc) (by kernel_rfl) rfl
theorem sc46 : Scalar Try.prog 46 := Scalar.mk' Try.underlying46 rfl (by kernel_rfl)
theorem zt46 : ZeroT Try.prog 46 [.nilFunc] := ZeroT.mk' (v := .nilFunc) (by kernel_rfl) rfl
theorem sc47 : Scalar Try.prog 47 := Scalar.mk' Try.underlying47 rfl (by kernel_rfl)
theorem zt47 : ZeroT Try.prog 47 [.nilFunc] := ZeroT.mk' (v := .nilFunc) (by kernel_rfl) rfl
theorem sc49 : Scalar Try.prog 49 := Scalar.mk' Try.underlying49 rfl (by kernel_rfl)
theorem zt49 : ZeroT Try.prog 49 [.nilFunc] := ZeroT.mk' (v := .nilFunc) (by kernel_rfl) rfl
theorem sc50 : Scalar Try.prog 50 := Scalar.mk' Try.underlying50 rfl (by kernel_rfl)
theorem zt50 : ZeroT Try.prog 50 [.nilFunc] := ZeroT.mk' (v := .nilFunc) (by kernel_rfl) rfl
theorem sc51 : Scalar Try.prog 51 := Scalar.mk' Try.underlying51 rfl (by kernel_rfl)
theorem zt51 : ZeroT Try.prog 51 [.nilFunc] := ZeroT.mk' (v := .nilFunc) (by kernel_rfl) rfl
theorem sc52 : Scalar Try.prog 52 := Scalar.mk' Try.underlying52 rfl (by kernel_rfl)
theorem zt52 : ZeroT Try.prog 52 [.nilFunc] := ZeroT.mk' (v := .nilFunc) (by kernel_rfl) rfl
theorem sc53 : Scalar Try.prog 53 := Scalar.mk' Try.underlying53 rfl (by kernel_rfl)
theorem zt53 : ZeroT Try.prog 53 [.slice none 0 0] := ZeroT.mk' (v := .slice none 0 0) (by kernel_rfl) rfl
theorem sl53 : SlT Try.prog 53 9 1 := ⟨Try.underlying53, size_of_info (by kernel_rfl)⟩
theorem sc54 : Scalar Try.prog 54 := Scalar.mk' Try.underlying54 rfl (by kernel_rfl)
theorem zt54 : ZeroT Try.prog 54 [.nilFunc] := ZeroT.mk' (v := .nilFunc) (by kernel_rfl) rfl
theorem ag55 : AggT Try.prog 55 4 := AggT.mk' Try.underlying55 rfl (by kernel_rfl)
theorem zt55 : ZeroT Try.prog 55 [.pointer none, .pointer none, .pointer none, .string ByteArray.empty] := ZeroT.mk' (v := .agg #[.pointer none, .pointer none, .pointer none, .string ByteArray.empty]) (by kernel_rfl) rfl
theorem fd55_0 : FldT Try.prog 55 0 0 := FldT.mk' (n := 1) Try.underlying55 rfl rfl (by kernel_rfl) rfl
theorem fd55_1 : FldT Try.prog 55 1 1 := FldT.mk' (n := 1) Try.underlying55 rfl rfl (by kernel_rfl) rfl
theorem fd55_2 : FldT Try.prog 55 2 2 := FldT.mk' (n := 1) Try.underlying55 rfl rfl (by kernel_rfl) rfl
theorem fd55_3 : FldT Try.prog 55 3 3 := FldT.mk' (n := 1) Try.underlying55 rfl rfl (by kernel_rfl) rfl
theorem ag56 : AggT Try.prog 56 4 := AggT.mk' Try.underlying56 rfl (by kernel_rfl)
theorem zt56 : ZeroT Try.prog 56 [.pointer none, .pointer none, .pointer none, .string ByteArray.empty] := ZeroT.mk' (v := .agg #[.pointer none, .pointer none, .pointer none, .string ByteArray.empty]) (by kernel_rfl) rfl
theorem fd56_0 : FldT Try.prog 56 0 0 := FldT.mk' (n := 1) Try.underlying56 rfl rfl (by kernel_rfl) rfl
theorem fd56_1 : FldT Try.prog 56 1 1 := FldT.mk' (n := 1) Try.underlying56 rfl rfl (by kernel_rfl) rfl
theorem fd56_2 : FldT Try.prog 56 2 2 := FldT.mk' (n := 1) Try.underlying56 rfl rfl (by kernel_rfl) rfl
theorem fd56_3 : FldT Try.prog 56 3 3 := FldT.mk' (n := 1) Try.underlying56 rfl rfl (by kernel_rfl) rfl
theorem sc60 : Scalar Try.prog 60 := Scalar.mk' Try.underlying60 rfl (by kernel_rfl)
theorem zt60 : ZeroT Try.prog 60 [.nilFunc] := ZeroT.mk' (v := .nilFunc) (by kernel_rfl) rfl
theorem sc61 : Scalar Try.prog 61 := Scalar.mk' Try.underlying61 rfl (by kernel_rfl)
theorem zt61 : ZeroT Try.prog 61 [.int .u32 0] := ZeroT.mk' (v := .int .u32 0) (by kernel_rfl) rfl
theorem sc62 : Scalar Try.prog 62 := Scalar.mk' Try.underlying62 rfl (by kernel_rfl)
theorem zt62 : ZeroT Try.prog 62 [.int .u8 0] := ZeroT.mk' (v := .int .u8 0) (by kernel_rfl) rfl
theorem sc63 : Scalar Try.prog 63 := Scalar.mk' Try.underlying63 rfl (by kernel_rfl)
theorem zt63 : ZeroT Try.prog 63 [.int .u8 0] := ZeroT.mk' (v := .int .u8 0) (by kernel_rfl) rfl
theorem sc64 : Scalar Try.prog 64 := Scalar.mk' Try.underlying64 rfl (by kernel_rfl)
theorem zt64 : ZeroT Try.prog 64 [.nilFunc] := ZeroT.mk' (v := .nilFunc) (by kernel_rfl) rfl
theorem sc65 : Scalar Try.prog 65 := Scalar.mk' Try.underlying65 rfl (by kernel_rfl)
theorem zt65 : ZeroT Try.prog 65 [.pointer none] := ZeroT.mk' (v := .pointer none) (by kernel_rfl) rfl
theorem sc66 : Scalar Try.prog 66 := Scalar.mk' Try.underlying66 rfl (by kernel_rfl)
theorem zt66 : ZeroT Try.prog 66 [.int .i32 0] := ZeroT.mk' (v := .int .i32 0) (by kernel_rfl) rfl
theorem sc67 : Scalar Try.prog 67 := Scalar.mk' Try.underlying67 rfl (by kernel_rfl)
theorem zt67 : ZeroT Try.prog 67 [.int .i32 0] := ZeroT.mk' (v := .int .i32 0) (by kernel_rfl) rfl
theorem ag68 : AggT Try.prog 68 11 := AggT.mk' Try.underlying68 rfl (by kernel_rfl)
theorem zt68 : ZeroT Try.prog 68 [.int .u64 0, .int .u64 0, .int .u32 0, .int .u8 0, .int .u8 0, .int .u8 0, .int .u8 0, .nilFunc, .pointer none, .int .i32 0, .int .i32 0] := ZeroT.mk' (v := .agg #[.int .u64 0, .int .u64 0, .int .u32 0, .int .u8 0, .int .u8 0, .int .u8 0, .int .u8 0, .nilFunc, .pointer none, .int .i32 0, .int .i32 0]) (by kernel_rfl) rfl
theorem fd68_0 : FldT Try.prog 68 0 0 := FldT.mk' (n := 1) Try.underlying68 rfl rfl (by kernel_rfl) rfl
theorem fd68_1 : FldT Try.prog 68 1 1 := FldT.mk' (n := 1) Try.underlying68 rfl rfl (by kernel_rfl) rfl
theorem fd68_2 : FldT Try.prog 68 2 2 := FldT.mk' (n := 1) Try.underlying68 rfl rfl (by kernel_rfl) rfl
theorem fd68_3 : FldT Try.prog 68 3 3 := FldT.mk' (n := 1) Try.underlying68 rfl rfl (by kernel_rfl) rfl
theorem fd68_4 : FldT Try.prog 68 4 4 := FldT.mk' (n := 1) Try.underlying68 rfl rfl (by kernel_rfl) rfl
theorem fd68_5 : FldT Try.prog 68 5 5 := FldT.mk' (n := 1) Try.underlying68 rfl rfl (by kernel_rfl) rfl
theorem fd68_6 : FldT Try.prog 68 6 6 := FldT.mk' (n := 1) Try.underlying68 rfl rfl (by kernel_rfl) rfl
theorem fd68_7 : FldT Try.prog 68 7 7 := FldT.mk' (n := 1) Try.underlying68 rfl rfl (by kernel_rfl) rfl
theorem fd68_8 : FldT Try.prog 68 8 8 := FldT.mk' (n := 1) Try.underlying68 rfl rfl (by kernel_rfl) rfl
theorem fd68_9 : FldT Try.prog 68 9 9 := FldT.mk' (n := 1) Try.underlying68 rfl rfl (by kernel_rfl) rfl
theorem fd68_10 : FldT Try.prog 68 10 10 := FldT.mk' (n := 1) Try.underlying68 rfl rfl (by kernel_rfl) rfl
theorem ag69 : AggT Try.prog 69 11 := AggT.mk' Try.underlying69 rfl (by kernel_rfl)
theorem zt69 : ZeroT Try.prog 69 [.int .u64 0, .int .u64 0, .int .u32 0, .int .u8 0, .int .u8 0, .int .u8 0, .int .u8 0, .nilFunc, .pointer none, .int .i32 0, .int .i32 0] := ZeroT.mk' (v := .agg #[.int .u64 0, .int .u64 0, .int .u32 0, .int .u8 0, .int .u8 0, .int .u8 0, .int .u8 0, .nilFunc, .pointer none, .int .i32 0, .int .i32 0]) (by kernel_rfl) rfl
theorem fd69_0 : FldT Try.prog 69 0 0 := FldT.mk' (n := 1) Try.underlying69 rfl rfl (by kernel_rfl) rfl
theorem fd69_1 : FldT Try.prog 69 1 1 := FldT.mk' (n := 1) Try.underlying69 rfl rfl (by kernel_rfl) rfl
theorem fd69_2 : FldT Try.prog 69 2 2 := FldT.mk' (n := 1) Try.underlying69 rfl rfl (by kernel_rfl) rfl
theorem fd69_3 : FldT Try.prog 69 3 3 := FldT.mk' (n := 1) Try.underlying69 rfl rfl (by kernel_rfl) rfl
theorem fd69_4 : FldT Try.prog 69 4 4 := FldT.mk' (n := 1) Try.underlying69 rfl rfl (by kernel_rfl) rfl
theorem fd69_5 : FldT Try.prog 69 5 5 := FldT.mk' (n := 1) Try.underlying69 rfl rfl (by kernel_rfl) rfl
theorem fd69_6 : FldT Try.prog 69 6 6 := FldT.mk' (n := 1) Try.underlying69 rfl rfl (by kernel_rfl) rfl
theorem fd69_7 : FldT Try.prog 69 7 7 := FldT.mk' (n := 1) Try.underlying69 rfl rfl (by kernel_rfl) rfl
theorem fd69_8 : FldT Try.prog 69 8 8 := FldT.mk' (n := 1) Try.underlying69 rfl rfl (by kernel_rfl) rfl
theorem fd69_9 : FldT Try.prog 69 9 9 := FldT.mk' (n := 1) Try.underlying69 rfl rfl (by kernel_rfl) rfl
theorem fd69_10 : FldT Try.prog 69 10 10 := FldT.mk' (n := 1) Try.underlying69 rfl rfl (by kernel_rfl) rfl
theorem sc70 : Scalar Try.prog 70 := Scalar.mk' Try.underlying70 rfl (by kernel_rfl)
theorem zt70 : ZeroT Try.prog 70 [.pointer none] := ZeroT.mk' (v := .pointer none) (by kernel_rfl) rfl
theorem en3 : ∀ args w, (callFunc 3 args).run Try.prog w = .ok (.enter 3 args) w := enters_of Try.func3 (by kernel_rfl) rfl
theorem en4 : ∀ args w, (callFunc 4 args).run Try.prog w = .ok (.enter 4 args) w := enters_of Try.func4 (by kernel_rfl) rfl
theorem en5 : ∀ args w, (callFunc 5 args).run Try.prog w = .ok (.enter 5 args) w := enters_of Try.func5 (by kernel_rfl) rfl
theorem en6 : ∀ args w, (callFunc 6 args).run Try.prog w = .ok (.enter 6 args) w := enters_of Try.func6 (by kernel_rfl) rfl
theorem en7 : ∀ args w, (callFunc 7 args).run Try.prog w = .ok (.enter 7 args) w := enters_of Try.func7 (by kernel_rfl) rfl
theorem en8 : ∀ args w, (callFunc 8 args).run Try.prog w = .ok (.enter 8 args) w := enters_of Try.func8 (by kernel_rfl) rfl
theorem en9 : ∀ args w, (callFunc 9 args).run Try.prog w = .ok (.enter 9 args) w := enters_of Try.func9 (by kernel_rfl) rfl
theorem en10 : ∀ args w, (callFunc 10 args).run Try.prog w = .ok (.enter 10 args) w := enters_of Try.func10 (by kernel_rfl) rfl
theorem en11 : ∀ args w, (callFunc 11 args).run Try.prog w = .ok (.enter 11 args) w := enters_of Try.func11 (by kernel_rfl) rfl
theorem en12 : ∀ args w, (callFunc 12 args).run Try.prog w = .ok (.enter 12 args) w := enters_of Try.func12 (by kernel_rfl) rfl
theorem en13 : ∀ args w, (callFunc 13 args).run Try.prog w = .ok (.enter 13 args) w := enters_of Try.func13 (by kernel_rfl) rfl
theorem en14 : ∀ args w, (callFunc 14 args).run Try.prog w = .ok (.enter 14 args) w := enters_of Try.func14 (by kernel_rfl) rfl
theorem en15 : ∀ args w, (callFunc 15 args).run Try.prog w = .ok (.enter 15 args) w := enters_of Try.func15 (by kernel_rfl) rfl
theorem en16 : ∀ args w, (callFunc 16 args).run Try.prog w = .ok (.enter 16 args) w := enters_of Try.func16 (by kernel_rfl) rfl
theorem en17 : ∀ args w, (callFunc 17 args).run Try.prog w = .ok (.enter 17 args) w := enters_of Try.func17 (by kernel_rfl) rfl
theorem en18 : ∀ args w, (callFunc 18 args).run Try.prog w = .ok (.enter 18 args) w := enters_of Try.func18 (by kernel_rfl) rfl
theorem en19 : ∀ args w, (callFunc 19 args).run Try.prog w = .ok (.enter 19 args) w := enters_of Try.func19 (by kernel_rfl) rfl
theorem en20 : ∀ args w, (callFunc 20 args).run Try.prog w = .ok (.enter 20 args) w := enters_of Try.func20 (by kernel_rfl) rfl
theorem en21 : ∀ args w, (callFunc 21 args).run Try.prog w = .ok (.enter 21 args) w := enters_of Try.func21 (by kernel_rfl) rfl
theorem en22 : ∀ args w, (callFunc 22 args).run Try.prog w = .ok (.enter 22 args) w := enters_of Try.func22 (by kernel_rfl) rfl
theorem en23 : ∀ args w, (callFunc 23 args).run Try.prog w = .ok (.enter 23 args) w := enters_of Try.func23 (by kernel_rfl) rfl
theorem en24 : ∀ args w, (callFunc 24 args).run Try.prog w = .ok (.enter 24 args) w := enters_of Try.func24 (by kernel_rfl) rfl
theorem en25 : ∀ args w, (callFunc 25 args).run Try.prog w = .ok (.enter 25 args) w := enters_of Try.func25 (by kernel_rfl) rfl
theorem en26 : ∀ args w, (callFunc 26 args).run Try.prog w = .ok (.enter 26 args) w := enters_of Try.func26 (by kernel_rfl) rfl
end Go.Proofs.Ytaklegcphmfghaa
