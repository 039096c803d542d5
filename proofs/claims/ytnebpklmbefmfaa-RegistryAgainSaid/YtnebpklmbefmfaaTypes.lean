import Derived.Test.YtnebpklmbefmfaaSymOps
import Derived.Test.YtnebpklmbefmfaaProg
import Derived.KernelRfl
import Derived.Shelf.Abstract
/- What is known of the types and the functions of this translation, told one by one. Printed by a program of this session. -/
namespace Go.Proofs.Ytnebpklmbefmfaa
open Go.Shelf
theorem sc1 : Scalar Try.prog 1 := Scalar.mk' Try.underlying1 rfl (by kernel_rfl)
theorem zt1 : ZeroT Try.prog 1 [.nilFunc] := ZeroT.mk' (v := .nilFunc) (by kernel_rfl) rfl
theorem sc2 : Scalar Try.prog 2 := Scalar.mk' Try.underlying2 rfl (by kernel_rfl)
theorem zt2 : ZeroT Try.prog 2 [.int .i64 0] := ZeroT.mk' (v := .int .i64 0) (by kernel_rfl) rfl
theorem sc3 : Scalar Try.prog 3 := Scalar.mk' Try.underlying3 rfl (by kernel_rfl)
theorem zt3 : ZeroT Try.prog 3 [.int .i64 0] := ZeroT.mk' (v := .int .i64 0) (by kernel_rfl) rfl
theorem sc4 : Scalar Try.prog 4 := Scalar.mk' Try.underlying4 rfl (by kernel_rfl)
theorem zt4 : ZeroT Try.prog 4 [.bool false] := ZeroT.mk' (v := .bool false) (by kernel_rfl) rfl
theorem sc5 : Scalar Try.prog 5 := Scalar.mk' Try.underlying5 rfl (by kernel_rfl)
theorem zt5 : ZeroT Try.prog 5 [.int .u8 0] := ZeroT.mk' (v := .int .u8 0) (by kernel_rfl) rfl
theorem sc6 : Scalar Try.prog 6 := Scalar.mk' Try.underlying6 rfl (by kernel_rfl)
theorem zt6 : ZeroT Try.prog 6 [.int .u8 0] := ZeroT.mk' (v := .int .u8 0) (by kernel_rfl) rfl
theorem ag7 : AggT Try.prog 7 4 := AggT.mk' Try.underlying7 rfl (by kernel_rfl)
theorem zt7 : ZeroT Try.prog 7 [.int .i64 0, .int .i64 0, .bool false, .int .u8 0] := ZeroT.mk' (v := .agg #[.int .i64 0, .int .i64 0, .bool false, .int .u8 0]) (by kernel_rfl) rfl
theorem fd7_0 : FldT Try.prog 7 0 0 := FldT.mk' (n := 1) Try.underlying7 rfl rfl (by kernel_rfl) rfl
theorem fd7_1 : FldT Try.prog 7 1 1 := FldT.mk' (n := 1) Try.underlying7 rfl rfl (by kernel_rfl) rfl
theorem fd7_2 : FldT Try.prog 7 2 2 := FldT.mk' (n := 1) Try.underlying7 rfl rfl (by kernel_rfl) rfl
theorem fd7_3 : FldT Try.prog 7 3 3 := FldT.mk' (n := 1) Try.underlying7 rfl rfl (by kernel_rfl) rfl
theorem ag8 : AggT Try.prog 8 4 := AggT.mk' Try.underlying8 rfl (by kernel_rfl)
theorem zt8 : ZeroT Try.prog 8 [.int .i64 0, .int .i64 0, .bool false, .int .u8 0] := ZeroT.mk' (v := .agg #[.int .i64 0, .int .i64 0, .bool false, .int .u8 0]) (by kernel_rfl) rfl
theorem fd8_0 : FldT Try.prog 8 0 0 := FldT.mk' (n := 1) Try.underlying8 rfl rfl (by kernel_rfl) rfl
theorem fd8_1 : FldT Try.prog 8 1 1 := FldT.mk' (n := 1) Try.underlying8 rfl rfl (by kernel_rfl) rfl
theorem fd8_2 : FldT Try.prog 8 2 2 := FldT.mk' (n := 1) Try.underlying8 rfl rfl (by kernel_rfl) rfl
theorem fd8_3 : FldT Try.prog 8 3 3 := FldT.mk' (n := 1) Try.underlying8 rfl rfl (by kernel_rfl) rfl
theorem sc9 : Scalar Try.prog 9 := Scalar.mk' Try.underlying9 rfl (by kernel_rfl)
theorem zt9 : ZeroT Try.prog 9 [.string ByteArray.empty] := ZeroT.mk' (v := .string ByteArray.empty) (by kernel_rfl) rfl
theorem sc10 : Scalar Try.prog 10 := Scalar.mk' Try.underlying10 rfl (by kernel_rfl)
theorem zt10 : ZeroT Try.prog 10 [.string ByteArray.empty] := ZeroT.mk' (v := .string ByteArray.empty) (by kernel_rfl) rfl
theorem sc11 : Scalar Try.prog 11 := Scalar.mk' Try.underlying11 rfl (by kernel_rfl)
theorem zt11 : ZeroT Try.prog 11 [.string ByteArray.empty] := ZeroT.mk' (v := .string ByteArray.empty) (by kernel_rfl) rfl
theorem sc12 : Scalar Try.prog 12 := Scalar.mk' Try.underlying12 rfl (by kernel_rfl)
theorem zt12 : ZeroT Try.prog 12 [.int .u64 0] := ZeroT.mk' (v := .int .u64 0) (by kernel_rfl) rfl
theorem ag13 : AggT Try.prog 13 2 := AggT.mk' Try.underlying13 rfl (by kernel_rfl)
theorem zt13 : ZeroT Try.prog 13 [.string ByteArray.empty, .int .u64 0] := ZeroT.mk' (v := .agg #[.string ByteArray.empty, .int .u64 0]) (by kernel_rfl) rfl
theorem fd13_0 : FldT Try.prog 13 0 0 := FldT.mk' (n := 1) Try.underlying13 rfl rfl (by kernel_rfl) rfl
theorem fd13_1 : FldT Try.prog 13 1 1 := FldT.mk' (n := 1) Try.underlying13 rfl rfl (by kernel_rfl) rfl
theorem ag14 : AggT Try.prog 14 2 := AggT.mk' Try.underlying14 rfl (by kernel_rfl)
theorem zt14 : ZeroT Try.prog 14 [.string ByteArray.empty, .int .u64 0] := ZeroT.mk' (v := .agg #[.string ByteArray.empty, .int .u64 0]) (by kernel_rfl) rfl
theorem fd14_0 : FldT Try.prog 14 0 0 := FldT.mk' (n := 1) Try.underlying14 rfl rfl (by kernel_rfl) rfl
theorem fd14_1 : FldT Try.prog 14 1 1 := FldT.mk' (n := 1) Try.underlying14 rfl rfl (by kernel_rfl) rfl
theorem sc15 : Scalar Try.prog 15 := Scalar.mk' Try.underlying15 rfl (by kernel_rfl)
theorem zt15 : ZeroT Try.prog 15 [.pointer none] := ZeroT.mk' (v := .pointer none) (by kernel_rfl) rfl
theorem sc16 : Scalar Try.prog 16 := Scalar.mk' Try.underlying16 rfl (by kernel_rfl)
theorem zt16 : ZeroT Try.prog 16 [.pointer none] := ZeroT.mk' (v := .pointer none) (by kernel_rfl) rfl
theorem sc17 : Scalar Try.prog 17 := Scalar.mk' Try.underlying17 rfl (by kernel_rfl)
theorem zt17 : ZeroT Try.prog 17 [.pointer none] := ZeroT.mk' (v := .pointer none) (by kernel_rfl) rfl
theorem ag18 : AggT Try.prog 18 1 := AggT.mk' Try.underlying18 rfl (by kernel_rfl)
theorem zt18 : ZeroT Try.prog 18 [.pointer none] := ZeroT.mk' (v := .agg #[.pointer none]) (by kernel_rfl) rfl
theorem fd18_0 : FldT Try.prog 18 0 0 := FldT.mk' (n := 1) Try.underlying18 rfl rfl (by kernel_rfl) rfl
theorem ag19 : AggT Try.prog 19 1 := AggT.mk' Try.underlying19 rfl (by kernel_rfl)
theorem zt19 : ZeroT Try.prog 19 [.pointer none] := ZeroT.mk' (v := .agg #[.pointer none]) (by kernel_rfl) rfl
theorem fd19_0 : FldT Try.prog 19 0 0 := FldT.mk' (n := 1) Try.underlying19 rfl rfl (by kernel_rfl) rfl
theorem sc20 : Scalar Try.prog 20 := Scalar.mk' Try.underlying20 rfl (by kernel_rfl)
theorem zt20 : ZeroT Try.prog 20 [.nilIface] := ZeroT.mk' (v := .nilIface) (by kernel_rfl) rfl
theorem sc21 : Scalar Try.prog 21 := Scalar.mk' Try.underlying21 rfl (by kernel_rfl)
theorem zt21 : ZeroT Try.prog 21 [.int .i32 0] := ZeroT.mk' (v := .int .i32 0) (by kernel_rfl) rfl
theorem sc22 : Scalar Try.prog 22 := Scalar.mk' Try.underlying22 rfl (by kernel_rfl)
theorem zt22 : ZeroT Try.prog 22 [.slice none 0 0] := ZeroT.mk' (v := .slice none 0 0) (by kernel_rfl) rfl
theorem sl22 : SlT Try.prog 22 36 4 := ⟨Try.underlying22, size_of_info (by kernel_rfl)⟩
theorem sc23 : Scalar Try.prog 23 := Scalar.mk' Try.underlying23 rfl (by kernel_rfl)
theorem zt23 : ZeroT Try.prog 23 [.nilFunc] := ZeroT.mk' (v := .nilFunc) (by kernel_rfl) rfl
theorem sc24 : Scalar Try.prog 24 := Scalar.mk' Try.underlying24 rfl (by kernel_rfl)
theorem zt24 : ZeroT Try.prog 24 [.pointer none] := ZeroT.mk' (v := .pointer none) (by kernel_rfl) rfl
theorem sc25 : Scalar Try.prog 25 := Scalar.mk' Try.underlying25 rfl (by kernel_rfl)
theorem zt25 : ZeroT Try.prog 25 [.int .i64 0] := ZeroT.mk' (v := .int .i64 0) (by kernel_rfl) rfl
theorem sc27 : Scalar Try.prog 27 := Scalar.mk' Try.underlying27 rfl (by kernel_rfl)
theorem zt27 : ZeroT Try.prog 27 [.nilFunc] := ZeroT.mk' (v := .nilFunc) (by kernel_rfl) rfl
theorem sc28 : Scalar Try.prog 28 := Scalar.mk' Try.underlying28 rfl (by kernel_rfl)
theorem zt28 : ZeroT Try.prog 28 [.slice none 0 0] := ZeroT.mk' (v := .slice none 0 0) (by kernel_rfl) rfl
theorem sl28 : SlT Try.prog 28 69 19 := ⟨Try.underlying28, size_of_info (by kernel_rfl)⟩
theorem ag29 : AggT Try.prog 29 1 := AggT.mk' Try.underlying29 rfl (by kernel_rfl)
theorem zt29 : ZeroT Try.prog 29 [.slice none 0 0] := ZeroT.mk' (v := .agg #[.slice none 0 0]) (by kernel_rfl) rfl
theorem fd29_0 : FldT Try.prog 29 0 0 := FldT.mk' (n := 1) Try.underlying29 rfl rfl (by kernel_rfl) rfl
theorem ag30 : AggT Try.prog 30 1 := AggT.mk' Try.underlying30 rfl (by kernel_rfl)
theorem zt30 : ZeroT Try.prog 30 [.slice none 0 0] := ZeroT.mk' (v := .agg #[.slice none 0 0]) (by kernel_rfl) rfl
theorem fd30_0 : FldT Try.prog 30 0 0 := FldT.mk' (n := 1) Try.underlying30 rfl rfl (by kernel_rfl) rfl
theorem sc31 : Scalar Try.prog 31 := Scalar.mk' Try.underlying31 rfl (by kernel_rfl)
theorem zt31 : ZeroT Try.prog 31 [.nilFunc] := ZeroT.mk' (v := .nilFunc) (by kernel_rfl) rfl
theorem sc32 : Scalar Try.prog 32 := Scalar.mk' Try.underlying32 rfl (by kernel_rfl)
theorem zt32 : ZeroT Try.prog 32 [.slice none 0 0] := ZeroT.mk' (v := .slice none 0 0) (by kernel_rfl) rfl
theorem sl32 : SlT Try.prog 32 30 1 := ⟨Try.underlying32, size_of_info (by kernel_rfl)⟩
theorem ag33 : AggT Try.prog 33 3 := AggT.mk' Try.underlying33 rfl (by kernel_rfl)
theorem zt33 : ZeroT Try.prog 33 [.int .i64 0, .int .i64 0, .int .i64 0] := ZeroT.mk' (v := .agg #[.int .i64 0, .int .i64 0, .int .i64 0]) (by kernel_rfl) rfl
theorem ag34 : AggT Try.prog 34 6 := AggT.mk' Try.underlying34 rfl (by kernel_rfl)
theorem zt34 : ZeroT Try.prog 34 [.int .i64 0, .int .i64 0, .int .i64 0, .int .i64 0, .int .i64 0, .int .i64 0] := ZeroT.mk' (v := .agg #[.int .i64 0, .int .i64 0, .int .i64 0, .int .i64 0, .int .i64 0, .int .i64 0]) (by kernel_rfl) rfl
theorem ag35 : AggT Try.prog 35 4 := AggT.mk' Try.underlying35 rfl (by kernel_rfl)
theorem zt35 : ZeroT Try.prog 35 [.int .i64 0, .int .i64 0, .int .i64 0, .bool false] := ZeroT.mk' (v := .agg #[.int .i64 0, .int .i64 0, .int .i64 0, .bool false]) (by kernel_rfl) rfl
theorem fd35_0 : FldT Try.prog 35 0 0 := FldT.mk' (n := 1) Try.underlying35 rfl rfl (by kernel_rfl) rfl
theorem fd35_1 : FldT Try.prog 35 1 1 := FldT.mk' (n := 1) Try.underlying35 rfl rfl (by kernel_rfl) rfl
theorem fd35_2 : FldT Try.prog 35 2 2 := FldT.mk' (n := 1) Try.underlying35 rfl rfl (by kernel_rfl) rfl
theorem fd35_3 : FldT Try.prog 35 3 3 := FldT.mk' (n := 1) Try.underlying35 rfl rfl (by kernel_rfl) rfl
theorem ag36 : AggT Try.prog 36 4 := AggT.mk' Try.underlying36 rfl (by kernel_rfl)
theorem zt36 : ZeroT Try.prog 36 [.int .i64 0, .int .i64 0, .int .i64 0, .bool false] := ZeroT.mk' (v := .agg #[.int .i64 0, .int .i64 0, .int .i64 0, .bool false]) (by kernel_rfl) rfl
theorem fd36_0 : FldT Try.prog 36 0 0 := FldT.mk' (n := 1) Try.underlying36 rfl rfl (by kernel_rfl) rfl
theorem fd36_1 : FldT Try.prog 36 1 1 := FldT.mk' (n := 1) Try.underlying36 rfl rfl (by kernel_rfl) rfl
theorem fd36_2 : FldT Try.prog 36 2 2 := FldT.mk' (n := 1) Try.underlying36 rfl rfl (by kernel_rfl) rfl
theorem fd36_3 : FldT Try.prog 36 3 3 := FldT.mk' (n := 1) Try.underlying36 rfl rfl (by kernel_rfl) rfl
theorem sc37 : Scalar Try.prog 37 := Scalar.mk' Try.underlying37 rfl (by kernel_rfl)
theorem zt37 : ZeroT Try.prog 37 [.nilFunc] := ZeroT.mk' (v := .nilFunc) (by kernel_rfl) rfl
theorem sc38 : Scalar Try.prog 38 := Scalar.mk' Try.underlying38 rfl (by kernel_rfl)
theorem zt38 : ZeroT Try.prog 38 [.slice none 0 0] := ZeroT.mk' (v := .slice none 0 0) (by kernel_rfl) rfl
theorem sl38 : SlT Try.prog 38 3 1 := ⟨Try.underlying38, size_of_info (by kernel_rfl)⟩
theorem sc39 : Scalar Try.prog 39 := Scalar.mk' Try.underlying39 rfl (by kernel_rfl)
theorem zt39 : ZeroT Try.prog 39 [.nilFunc] := ZeroT.mk' (v := .nilFunc) (by kernel_rfl) rfl
theorem sc40 : Scalar Try.prog 40 := Scalar.mk' Try.underlying40 rfl (by kernel_rfl)
theorem zt40 : ZeroT Try.prog 40 [.nilFunc] := ZeroT.mk' (v := .nilFunc) (by kernel_rfl) rfl
theorem sc41 : Scalar Try.prog 41 := Scalar.mk' Try.underlying41 rfl (by kernel_rfl)
theorem zt41 : ZeroT Try.prog 41 [.nilFunc] := ZeroT.mk' (v := .nilFunc) (by kernel_rfl) rfl
theorem sc42 : Scalar Try.prog 42 := Scalar.mk' Try.underlying42 rfl (by kernel_rfl)
theorem zt42 : ZeroT Try.prog 42 [.nilFunc] := ZeroT.mk' (v := .nilFunc) (by kernel_rfl) rfl
theorem sc43 : Scalar Try.prog 43 := Scalar.mk' Try.underlying43 rfl (by kernel_rfl)
theorem zt43 : ZeroT Try.prog 43 [.nilFunc] := ZeroT.mk' (v := .nilFunc) (by kernel_rfl) rfl
theorem sc45 : Scalar Try.prog 45 := Scalar.mk' Try.underlying45 rfl (by kernel_rfl)
theorem zt45 : ZeroT Try.prog 45 [.nilFunc] := ZeroT.mk' (v := .nilFunc) (by kernel_rfl) rfl
theorem ag46 : AggT Try.prog 46 16 := AggT.mk' Try.underlying46 rfl (by kernel_rfl)
theorem zt46 : ZeroT Try.prog 46 [.int .u8 0, .int .u8 0, .int .u8 0, .int .u8 0, .int .u8 0, .int .u8 0, .int .u8 0, .int .u8 0, .int .u8 0, .int .u8 0, .int .u8 0, .int .u8 0, .int .u8 0, .int .u8 0, .int .u8 0, .int .u8 0] := ZeroT.mk' (v := .agg #[.int .u8 0, .int .u8 0, .int .u8 0, .int .u8 0, .int .u8 0, .int .u8 0, .int .u8 0, .int .u8 0, .int .u8 0, .int .u8 0, .int .u8 0, .int .u8 0, .int .u8 0, .int .u8 0, .int .u8 0, .int .u8 0]) (by kernel_rfl) rfl
theorem ag47 : AggT Try.prog 47 16 := AggT.mk' Try.underlying47 rfl (by kernel_rfl)
theorem zt47 : ZeroT Try.prog 47 [.int .u8 0, .int .u8 0, .int .u8 0, .int .u8 0, .int .u8 0, .int .u8 0, .int .u8 0, .int .u8 0, .int .u8 0, .int .u8 0, .int .u8 0, .int .u8 0, .int .u8 0, .int .u8 0, .int .u8 0, .int .u8 0] := ZeroT.mk' (v := .agg #[.int .u8 0, .int .u8 0, .int .u8 0, .int .u8 0, .int .u8 0, .int .u8 0, .int .u8 0, .int .u8 0, .int .u8 0, .int .u8 0, .int .u8 0, .int .u8 0, .int .u8 0, .int .u8 0, .int .u8 0, .int .u8 0]) (by kernel_rfl) rfl
theorem sc48 : Scalar Try.prog 48 := Scalar.mk' Try.underlying48 rfl (by kernel_rfl)
theorem zt48 : ZeroT Try.prog 48 [.nilFunc] := ZeroT.mk' (v := .nilFunc) (by kernel_rfl) rfl
theorem sc49 : Scalar Try.prog 49 := Scalar.mk' Try.underlying49 rfl (by kernel_rfl)
theorem zt49 : ZeroT Try.prog 49 [.pointer none] := ZeroT.mk' (v := .pointer none) (by kernel_rfl) rfl
theorem sc51 : Scalar Try.prog 51 := Scalar.mk' Try.underlying51 rfl (by kernel_rfl)
theorem zt51 : ZeroT Try.prog 51 [.nilFunc] := ZeroT.mk' (v := .nilFunc) (by kernel_rfl) rfl
theorem sc52 : Scalar Try.prog 52 := Scalar.mk' Try.underlying52 rfl (by kernel_rfl)
theorem zt52 : ZeroT Try.prog 52 [.nilFunc] := ZeroT.mk' (v := .nilFunc) (by kernel_rfl) rfl
theorem sc54 : Scalar Try.prog 54 := Scalar.mk' Try.underlying54 rfl (by kernel_rfl)
theorem zt54 : ZeroT Try.prog 54 [.nilFunc] := ZeroT.mk' (v := .nilFunc) (by kernel_rfl) rfl
theorem sc55 : Scalar Try.prog 55 := Scalar.mk' Try.underlying55 rfl (by kernel_rfl)
theorem zt55 : ZeroT Try.prog 55 [.int .u32 0] := ZeroT.mk' (v := .int .u32 0) (by kernel_rfl) rfl
theorem ag56 : AggT Try.prog 56 3 := AggT.mk' Try.underlying56 rfl (by kernel_rfl)
theorem zt56 : ZeroT Try.prog 56 [.int .u32 0, .int .u32 0, .int .u32 0] := ZeroT.mk' (v := .agg #[.int .u32 0, .int .u32 0, .int .u32 0]) (by kernel_rfl) rfl
theorem ag57 : AggT Try.prog 57 6 := AggT.mk' Try.underlying57 rfl (by kernel_rfl)
theorem zt57 : ZeroT Try.prog 57 [.slice none 0 0, .bool false, .int .u32 0, .int .u32 0, .int .u32 0, .int .i64 0] := ZeroT.mk' (v := .agg #[.slice none 0 0, .bool false, .int .u32 0, .int .u32 0, .int .u32 0, .int .i64 0]) (by kernel_rfl) rfl
theorem fd57_0 : FldT Try.prog 57 0 0 := FldT.mk' (n := 1) Try.underlying57 rfl rfl (by kernel_rfl) rfl
theorem fd57_1 : FldT Try.prog 57 1 1 := FldT.mk' (n := 1) Try.underlying57 rfl rfl (by kernel_rfl) rfl
theorem fd57_2 : FldT Try.prog 57 2 2 := FldT.mk' (n := 3) Try.underlying57 rfl rfl (by kernel_rfl) rfl
theorem fd57_3 : FldT Try.prog 57 3 5 := FldT.mk' (n := 1) Try.underlying57 rfl rfl (by kernel_rfl) rfl
theorem ag58 : AggT Try.prog 58 6 := AggT.mk' Try.underlying58 rfl (by kernel_rfl)
theorem zt58 : ZeroT Try.prog 58 [.slice none 0 0, .bool false, .int .u32 0, .int .u32 0, .int .u32 0, .int .i64 0] := ZeroT.mk' (v := .agg #[.slice none 0 0, .bool false, .int .u32 0, .int .u32 0, .int .u32 0, .int .i64 0]) (by kernel_rfl) rfl
theorem fd58_0 : FldT Try.prog 58 0 0 := FldT.mk' (n := 1) Try.underlying58 rfl rfl (by kernel_rfl) rfl
theorem fd58_1 : FldT Try.prog 58 1 1 := FldT.mk' (n := 1) Try.underlying58 rfl rfl (by kernel_rfl) rfl
theorem fd58_2 : FldT Try.prog 58 2 2 := FldT.mk' (n := 3) Try.underlying58 rfl rfl (by kernel_rfl) rfl
theorem fd58_3 : FldT Try.prog 58 3 5 := FldT.mk' (n := 1) Try.underlying58 rfl rfl (by kernel_rfl) rfl
theorem sc59 : Scalar Try.prog 59 := Scalar.mk' Try.underlying59 rfl (by kernel_rfl)
theorem zt59 : ZeroT Try.prog 59 [.slice none 0 0] := ZeroT.mk' (v := .slice none 0 0) (by kernel_rfl) rfl
theorem sl59 : SlT Try.prog 59 58 6 := ⟨Try.underlying59, size_of_info (by kernel_rfl)⟩
theorem ag60 : AggT Try.prog 60 2 := AggT.mk' Try.underlying60 rfl (by kernel_rfl)
theorem zt60 : ZeroT Try.prog 60 [.slice none 0 0, .int .i64 0] := ZeroT.mk' (v := .agg #[.slice none 0 0, .int .i64 0]) (by kernel_rfl) rfl
theorem fd60_0 : FldT Try.prog 60 0 0 := FldT.mk' (n := 1) Try.underlying60 rfl rfl (by kernel_rfl) rfl
theorem fd60_1 : FldT Try.prog 60 1 1 := FldT.mk' (n := 1) Try.underlying60 rfl rfl (by kernel_rfl) rfl
theorem ag61 : AggT Try.prog 61 2 := AggT.mk' Try.underlying61 rfl (by kernel_rfl)
theorem zt61 : ZeroT Try.prog 61 [.slice none 0 0, .int .i64 0] := ZeroT.mk' (v := .agg #[.slice none 0 0, .int .i64 0]) (by kernel_rfl) rfl
theorem fd61_0 : FldT Try.prog 61 0 0 := FldT.mk' (n := 1) Try.underlying61 rfl rfl (by kernel_rfl) rfl
theorem fd61_1 : FldT Try.prog 61 1 1 := FldT.mk' (n := 1) Try.underlying61 rfl rfl (by kernel_rfl) rfl
theorem sc62 : Scalar Try.prog 62 := Scalar.mk' Try.underlying62 rfl (by kernel_rfl)
theorem zt62 : ZeroT Try.prog 62 [.nilFunc] := ZeroT.mk' (v := .nilFunc) (by kernel_rfl) rfl
theorem sc63 : Scalar Try.prog 63 := Scalar.mk' Try.underlying63 rfl (by kernel_rfl)
theorem zt63 : ZeroT Try.prog 63 [.nilFunc] := ZeroT.mk' (v := .nilFunc) (by kernel_rfl) rfl
theorem sc65 : Scalar Try.prog 65 := Scalar.mk' Try.underlying65 rfl (by kernel_rfl)
theorem zt65 : ZeroT Try.prog 65 [.nilFunc] := ZeroT.mk' (v := .nilFunc) (by kernel_rfl) rfl
theorem sc66 : Scalar Try.prog 66 := Scalar.mk' Try.underlying66 rfl (by kernel_rfl)
theorem zt66 : ZeroT Try.prog 66 [.slice none 0 0] := ZeroT.mk' (v := .slice none 0 0) (by kernel_rfl) rfl
theorem sl66 : SlT Try.prog 66 93 17 := ⟨Try.underlying66, size_of_info (by kernel_rfl)⟩
theorem sc67 : Scalar Try.prog 67 := Scalar.mk' Try.underlying67 rfl (by kernel_rfl)
theorem zt67 : ZeroT Try.prog 67 [.slice none 0 0] := ZeroT.mk' (v := .slice none 0 0) (by kernel_rfl) rfl
theorem sl67 : SlT Try.prog 67 78 1 := ⟨Try.underlying67, size_of_info (by kernel_rfl)⟩
theorem ag68 : AggT Try.prog 68 19 := AggT.mk' Try.underlying68 rfl (by kernel_rfl)
theorem zt68 : ZeroT Try.prog 68 [.int .u8 0, .int .u8 0, .int .u8 0, .int .u8 0, .int .u8 0, .int .u8 0, .int .u8 0, .int .u8 0, .int .u8 0, .int .u8 0, .int .u8 0, .int .u8 0, .int .u8 0, .int .u8 0, .int .u8 0, .int .u8 0, .slice none 0 0, .int .i64 0, .slice none 0 0] := ZeroT.mk' (v := .agg #[.int .u8 0, .int .u8 0, .int .u8 0, .int .u8 0, .int .u8 0, .int .u8 0, .int .u8 0, .int .u8 0, .int .u8 0, .int .u8 0, .int .u8 0, .int .u8 0, .int .u8 0, .int .u8 0, .int .u8 0, .int .u8 0, .slice none 0 0, .int .i64 0, .slice none 0 0]) (by kernel_rfl) rfl
theorem fd68_0 : FldT Try.prog 68 0 0 := FldT.mk' (n := 16) Try.underlying68 rfl rfl (by kernel_rfl) rfl
theorem fd68_1 : FldT Try.prog 68 1 16 := FldT.mk' (n := 1) Try.underlying68 rfl rfl (by kernel_rfl) rfl
theorem fd68_2 : FldT Try.prog 68 2 17 := FldT.mk' (n := 1) Try.underlying68 rfl rfl (by kernel_rfl) rfl
theorem fd68_3 : FldT Try.prog 68 3 18 := FldT.mk' (n := 1) Try.underlying68 rfl rfl (by kernel_rfl) rfl
theorem ag69 : AggT Try.prog 69 19 := AggT.mk' Try.underlying69 rfl (by kernel_rfl)
theorem zt69 : ZeroT Try.prog 69 [.int .u8 0, .int .u8 0, .int .u8 0, .int .u8 0, .int .u8 0, .int .u8 0, .int .u8 0, .int .u8 0, .int .u8 0, .int .u8 0, .int .u8 0, .int .u8 0, .int .u8 0, .int .u8 0, .int .u8 0, .int .u8 0, .slice none 0 0, .int .i64 0, .slice none 0 0] := ZeroT.mk' (v := .agg #[.int .u8 0, .int .u8 0, .int .u8 0, .int .u8 0, .int .u8 0, .int .u8 0, .int .u8 0, .int .u8 0, .int .u8 0, .int .u8 0, .int .u8 0, .int .u8 0, .int .u8 0, .int .u8 0, .int .u8 0, .int .u8 0, .slice none 0 0, .int .i64 0, .slice none 0 0]) (by kernel_rfl) rfl
theorem fd69_0 : FldT Try.prog 69 0 0 := FldT.mk' (n := 16) Try.underlying69 rfl rfl (by kernel_rfl) rfl
theorem fd69_1 : FldT Try.prog 69 1 16 := FldT.mk' (n := 1) Try.underlying69 rfl rfl (by kernel_rfl) rfl
theorem fd69_2 : FldT Try.prog 69 2 17 := FldT.mk' (n := 1) Try.underlying69 rfl rfl (by kernel_rfl) rfl
theorem fd69_3 : FldT Try.prog 69 3 18 := FldT.mk' (n := 1) Try.underlying69 rfl rfl (by kernel_rfl) rfl
theorem sc71 : Scalar Try.prog 71 := Scalar.mk' Try.underlying71 rfl (by kernel_rfl)
theorem zt71 : ZeroT Try.prog 71 [.nilFunc] := ZeroT.mk' (v := .nilFunc) (by kernel_rfl) rfl
theorem sc72 : Scalar Try.prog 72 := Scalar.mk' Try.underlying72 rfl (by kernel_rfl)
theorem zt72 : ZeroT Try.prog 72 [.nilFunc] := ZeroT.mk' (v := .nilFunc) (by kernel_rfl) rfl
theorem sc73 : Scalar Try.prog 73 := Scalar.mk' Try.underlying73 rfl (by kernel_rfl)
theorem zt73 : ZeroT Try.prog 73 [.nilFunc] := ZeroT.mk' (v := .nilFunc) (by kernel_rfl) rfl
theorem sc75 : Scalar Try.prog 75 := Scalar.mk' Try.underlying75 rfl (by kernel_rfl)
theorem zt75 : ZeroT Try.prog 75 [.nilFunc] := ZeroT.mk' (v := .nilFunc) (by kernel_rfl) rfl
theorem ag76 : AggT Try.prog 76 3 := AggT.mk' Try.underlying76 rfl (by kernel_rfl)
theorem zt76 : ZeroT Try.prog 76 [.int .i64 0, .int .i64 0, .int .i64 0] := ZeroT.mk' (v := .agg #[.int .i64 0, .int .i64 0, .int .i64 0]) (by kernel_rfl) rfl
theorem fd76_0 : FldT Try.prog 76 0 0 := FldT.mk' (n := 1) Try.underlying76 rfl rfl (by kernel_rfl) rfl
theorem fd76_1 : FldT Try.prog 76 1 1 := FldT.mk' (n := 1) Try.underlying76 rfl rfl (by kernel_rfl) rfl
theorem fd76_2 : FldT Try.prog 76 2 2 := FldT.mk' (n := 1) Try.underlying76 rfl rfl (by kernel_rfl) rfl
theorem ag77 : AggT Try.prog 77 3 := AggT.mk' Try.underlying77 rfl (by kernel_rfl)
theorem zt77 : ZeroT Try.prog 77 [.int .i64 0, .int .i64 0, .int .i64 0] := ZeroT.mk' (v := .agg #[.int .i64 0, .int .i64 0, .int .i64 0]) (by kernel_rfl) rfl
theorem fd77_0 : FldT Try.prog 77 0 0 := FldT.mk' (n := 1) Try.underlying77 rfl rfl (by kernel_rfl) rfl
theorem fd77_1 : FldT Try.prog 77 1 1 := FldT.mk' (n := 1) Try.underlying77 rfl rfl (by kernel_rfl) rfl
theorem fd77_2 : FldT Try.prog 77 2 2 := FldT.mk' (n := 1) Try.underlying77 rfl rfl (by kernel_rfl) rfl
theorem sc78 : Scalar Try.prog 78 := Scalar.mk' Try.underlying78 rfl (by kernel_rfl)
theorem zt78 : ZeroT Try.prog 78 [.slice none 0 0] := ZeroT.mk' (v := .slice none 0 0) (by kernel_rfl) rfl
theorem sl78 : SlT Try.prog 78 77 3 := ⟨Try.underlying78, size_of_info (by kernel_rfl)⟩
theorem sc79 : Scalar Try.prog 79 := Scalar.mk' Try.underlying79 rfl (by kernel_rfl)
theorem zt79 : ZeroT Try.prog 79 [.nilFunc] := ZeroT.mk' (v := .nilFunc) (by kernel_rfl) rfl
theorem sc80 : Scalar Try.prog 80 := Scalar.mk' Try.underlying80 rfl (by kernel_rfl)
theorem zt80 : ZeroT Try.prog 80 [.nilFunc] := ZeroT.mk' (v := .nilFunc) (by kernel_rfl) rfl
theorem sc81 : Scalar Try.prog 81 := Scalar.mk' Try.underlying81 rfl (by kernel_rfl)
theorem zt81 : ZeroT Try.prog 81 [.slice none 0 0] := ZeroT.mk' (v := .slice none 0 0) (by kernel_rfl) rfl
theorem sl81 : SlT Try.prog 81 89 1 := ⟨Try.underlying81, size_of_info (by kernel_rfl)⟩
theorem ag82 : AggT Try.prog 82 2 := AggT.mk' Try.underlying82 rfl (by kernel_rfl)
theorem zt82 : ZeroT Try.prog 82 [.slice none 0 0, .int .i64 0] := ZeroT.mk' (v := .agg #[.slice none 0 0, .int .i64 0]) (by kernel_rfl) rfl
theorem fd82_0 : FldT Try.prog 82 0 0 := FldT.mk' (n := 1) Try.underlying82 rfl rfl (by kernel_rfl) rfl
theorem fd82_1 : FldT Try.prog 82 1 1 := FldT.mk' (n := 1) Try.underlying82 rfl rfl (by kernel_rfl) rfl
theorem ag83 : AggT Try.prog 83 2 := AggT.mk' Try.underlying83 rfl (by kernel_rfl)
theorem zt83 : ZeroT Try.prog 83 [.slice none 0 0, .int .i64 0] := ZeroT.mk' (v := .agg #[.slice none 0 0, .int .i64 0]) (by kernel_rfl) rfl
theorem fd83_0 : FldT Try.prog 83 0 0 := FldT.mk' (n := 1) Try.underlying83 rfl rfl (by kernel_rfl) rfl
theorem fd83_1 : FldT Try.prog 83 1 1 := FldT.mk' (n := 1) Try.underlying83 rfl rfl (by kernel_rfl) rfl
theorem sc84 : Scalar Try.prog 84 := Scalar.mk' Try.underlying84 rfl (by kernel_rfl)
theorem zt84 : ZeroT Try.prog 84 [.slice none 0 0] := ZeroT.mk' (v := .slice none 0 0) (by kernel_rfl) rfl
theorem sl84 : SlT Try.prog 84 5 1 := ⟨Try.underlying84, size_of_info (by kernel_rfl)⟩
theorem sc86 : Scalar Try.prog 86 := Scalar.mk' Try.underlying86 rfl (by kernel_rfl)
theorem zt86 : ZeroT Try.prog 86 [.nilFunc] := ZeroT.mk' (v := .nilFunc) (by kernel_rfl) rfl
theorem sc88 : Scalar Try.prog 88 := Scalar.mk' Try.underlying88 rfl (by kernel_rfl)
theorem zt88 : ZeroT Try.prog 88 [.nilFunc] := ZeroT.mk' (v := .nilFunc) (by kernel_rfl) rfl
theorem sc89 : Scalar Try.prog 89 := Scalar.mk' Try.underlying89 rfl (by kernel_rfl)
theorem zt89 : ZeroT Try.prog 89 [.pointer none] := ZeroT.mk' (v := .pointer none) (by kernel_rfl) rfl
theorem ag90 : AggT Try.prog 90 7 := AggT.mk' Try.underlying90 rfl (by kernel_rfl)
theorem zt90 : ZeroT Try.prog 90 [.slice none 0 0, .slice none 0 0, .bool false, .int .u32 0, .int .u32 0, .int .u32 0, .int .i64 0] := ZeroT.mk' (v := .agg #[.slice none 0 0, .slice none 0 0, .bool false, .int .u32 0, .int .u32 0, .int .u32 0, .int .i64 0]) (by kernel_rfl) rfl
theorem fd90_0 : FldT Try.prog 90 0 0 := FldT.mk' (n := 1) Try.underlying90 rfl rfl (by kernel_rfl) rfl
theorem fd90_1 : FldT Try.prog 90 1 1 := FldT.mk' (n := 1) Try.underlying90 rfl rfl (by kernel_rfl) rfl
theorem fd90_2 : FldT Try.prog 90 2 2 := FldT.mk' (n := 1) Try.underlying90 rfl rfl (by kernel_rfl) rfl
theorem fd90_3 : FldT Try.prog 90 3 3 := FldT.mk' (n := 3) Try.underlying90 rfl rfl (by kernel_rfl) rfl
theorem fd90_4 : FldT Try.prog 90 4 6 := FldT.mk' (n := 1) Try.underlying90 rfl rfl (by kernel_rfl) rfl
theorem ag91 : AggT Try.prog 91 7 := AggT.mk' Try.underlying91 rfl (by kernel_rfl)
theorem zt91 : ZeroT Try.prog 91 [.slice none 0 0, .slice none 0 0, .bool false, .int .u32 0, .int .u32 0, .int .u32 0, .int .i64 0] := ZeroT.mk' (v := .agg #[.slice none 0 0, .slice none 0 0, .bool false, .int .u32 0, .int .u32 0, .int .u32 0, .int .i64 0]) (by kernel_rfl) rfl
theorem fd91_0 : FldT Try.prog 91 0 0 := FldT.mk' (n := 1) Try.underlying91 rfl rfl (by kernel_rfl) rfl
theorem fd91_1 : FldT Try.prog 91 1 1 := FldT.mk' (n := 1) Try.underlying91 rfl rfl (by kernel_rfl) rfl
theorem fd91_2 : FldT Try.prog 91 2 2 := FldT.mk' (n := 1) Try.underlying91 rfl rfl (by kernel_rfl) rfl
theorem fd91_3 : FldT Try.prog 91 3 3 := FldT.mk' (n := 3) Try.underlying91 rfl rfl (by kernel_rfl) rfl
theorem fd91_4 : FldT Try.prog 91 4 6 := FldT.mk' (n := 1) Try.underlying91 rfl rfl (by kernel_rfl) rfl
theorem ag92 : AggT Try.prog 92 17 := AggT.mk' Try.underlying92 rfl (by kernel_rfl)
theorem zt92 : ZeroT Try.prog 92 [.int .u8 0, .int .u8 0, .int .u8 0, .int .u8 0, .int .u8 0, .int .u8 0, .int .u8 0, .int .u8 0, .int .u8 0, .int .u8 0, .int .u8 0, .int .u8 0, .int .u8 0, .int .u8 0, .int .u8 0, .int .u8 0, .int .i64 0] := ZeroT.mk' (v := .agg #[.int .u8 0, .int .u8 0, .int .u8 0, .int .u8 0, .int .u8 0, .int .u8 0, .int .u8 0, .int .u8 0, .int .u8 0, .int .u8 0, .int .u8 0, .int .u8 0, .int .u8 0, .int .u8 0, .int .u8 0, .int .u8 0, .int .i64 0]) (by kernel_rfl) rfl
theorem fd92_0 : FldT Try.prog 92 0 0 := FldT.mk' (n := 16) Try.underlying92 rfl rfl (by kernel_rfl) rfl
theorem fd92_1 : FldT Try.prog 92 1 16 := FldT.mk' (n := 1) Try.underlying92 rfl rfl (by kernel_rfl) rfl
theorem ag93 : AggT Try.prog 93 17 := AggT.mk' Try.underlying93 rfl (by kernel_rfl)
theorem zt93 : ZeroT Try.prog 93 [.int .u8 0, .int .u8 0, .int .u8 0, .int .u8 0, .int .u8 0, .int .u8 0, .int .u8 0, .int .u8 0, .int .u8 0, .int .u8 0, .int .u8 0, .int .u8 0, .int .u8 0, .int .u8 0, .int .u8 0, .int .u8 0, .int .i64 0] := ZeroT.mk' (v := .agg #[.int .u8 0, .int .u8 0, .int .u8 0, .int .u8 0, .int .u8 0, .int .u8 0, .int .u8 0, .int .u8 0, .int .u8 0, .int .u8 0, .int .u8 0, .int .u8 0, .int .u8 0, .int .u8 0, .int .u8 0, .int .u8 0, .int .i64 0]) (by kernel_rfl) rfl
theorem fd93_0 : FldT Try.prog 93 0 0 := FldT.mk' (n := 16) Try.underlying93 rfl rfl (by kernel_rfl) rfl
theorem fd93_1 : FldT Try.prog 93 1 16 := FldT.mk' (n := 1) Try.underlying93 rfl rfl (by kernel_rfl) rfl
theorem sc94 : Scalar Try.prog 94 := Scalar.mk' Try.underlying94 rfl (by kernel_rfl)
theorem zt94 : ZeroT Try.prog 94 [.nilFunc] := ZeroT.mk' (v := .nilFunc) (by kernel_rfl) rfl
theorem sc95 : Scalar Try.prog 95 := Scalar.mk' Try.underlying95 rfl (by kernel_rfl)
theorem zt95 : ZeroT Try.prog 95 [.pointer none] := ZeroT.mk' (v := .pointer none) (by kernel_rfl) rfl
theorem sc97 : Scalar Try.prog 97 := Scalar.mk' Try.underlying97 rfl (by kernel_rfl)
theorem zt97 : ZeroT Try.prog 97 [.nilFunc] := ZeroT.mk' (v := .nilFunc) (by kernel_rfl) rfl
theorem sc98 : Scalar Try.prog 98 := Scalar.mk' Try.underlying98 rfl (by kernel_rfl)
theorem zt98 : ZeroT Try.prog 98 [.nilFunc] := ZeroT.mk' (v := .nilFunc) (by kernel_rfl) rfl
theorem sc99 : Scalar Try.prog 99 := Scalar.mk' Try.underlying99 rfl (by kernel_rfl)
theorem zt99 : ZeroT Try.prog 99 [.nilFunc] := ZeroT.mk' (v := .nilFunc) (by kernel_rfl) rfl
theorem sc100 : Scalar Try.prog 100 := Scalar.mk' Try.underlying100 rfl (by kernel_rfl)
theorem zt100 : ZeroT Try.prog 100 [.nilFunc] := ZeroT.mk' (v := .nilFunc) (by kernel_rfl) rfl
theorem sc101 : Scalar Try.prog 101 := Scalar.mk' Try.underlying101 rfl (by kernel_rfl)
theorem zt101 : ZeroT Try.prog 101 [.nilFunc] := ZeroT.mk' (v := .nilFunc) (by kernel_rfl) rfl
theorem sc102 : Scalar Try.prog 102 := Scalar.mk' Try.underlying102 rfl (by kernel_rfl)
theorem zt102 : ZeroT Try.prog 102 [.nilFunc] := ZeroT.mk' (v := .nilFunc) (by kernel_rfl) rfl
theorem sc103 : Scalar Try.prog 103 := Scalar.mk' Try.underlying103 rfl (by kernel_rfl)
theorem zt103 : ZeroT Try.prog 103 [.nilFunc] := ZeroT.mk' (v := .nilFunc) (by kernel_rfl) rfl
theorem sc104 : Scalar Try.prog 104 := Scalar.mk' Try.underlying104 rfl (by kernel_rfl)
theorem zt104 : ZeroT Try.prog 104 [.nilFunc] := ZeroT.mk' (v := .nilFunc) (by kernel_rfl) rfl
theorem sc106 : Scalar Try.prog 106 := Scalar.mk' Try.underlying106 rfl (by kernel_rfl)
theorem zt106 : ZeroT Try.prog 106 [.nilFunc] := ZeroT.mk' (v := .nilFunc) (by kernel_rfl) rfl
theorem sc107 : Scalar Try.prog 107 := Scalar.mk' Try.underlying107 rfl (by kernel_rfl)
theorem zt107 : ZeroT Try.prog 107 [.nilFunc] := ZeroT.mk' (v := .nilFunc) (by kernel_rfl) rfl
theorem sc108 : Scalar Try.prog 108 := Scalar.mk' Try.underlying108 rfl (by kernel_rfl)
theorem zt108 : ZeroT Try.prog 108 [.nilFunc] := ZeroT.mk' (v := .nilFunc) (by kernel_rfl) rfl
theorem sc109 : Scalar Try.prog 109 := Scalar.mk' Try.underlying109 rfl (by kernel_rfl)
theorem zt109 : ZeroT Try.prog 109 [.nilFunc] := ZeroT.mk' (v := .nilFunc) (by kernel_rfl) rfl
theorem sc110 : Scalar Try.prog 110 := Scalar.mk' Try.underlying110 rfl (by kernel_rfl)
theorem zt110 : ZeroT Try.prog 110 [.nilFunc] := ZeroT.mk' (v := .nilFunc) (by kernel_rfl) rfl
theorem sc111 : Scalar Try.prog 111 := Scalar.mk' Try.underlying111 rfl (by kernel_rfl)
theorem zt111 : ZeroT Try.prog 111 [.nilFunc] := ZeroT.mk' (v := .nilFunc) (by kernel_rfl) rfl
theorem sc112 : Scalar Try.prog 112 := Scalar.mk' Try.underlying112 rfl (by kernel_rfl)
theorem zt112 : ZeroT Try.prog 112 [.nilFunc] := ZeroT.mk' (v := .nilFunc) (by kernel_rfl) rfl
theorem sc116 : Scalar Try.prog 116 := Scalar.mk' Try.underlying116 rfl (by kernel_rfl)
theorem zt116 : ZeroT Try.prog 116 [.pointer none] := ZeroT.mk' (v := .pointer none) (by kernel_rfl) rfl
theorem ag117 : AggT Try.prog 117 1 := AggT.mk' Try.underlying117 rfl (by kernel_rfl)
theorem zt117 : ZeroT Try.prog 117 [.slice none 0 0] := ZeroT.mk' (v := .agg #[.slice none 0 0]) (by kernel_rfl) rfl
theorem fd117_0 : FldT Try.prog 117 0 0 := FldT.mk' (n := 1) Try.underlying117 rfl rfl (by kernel_rfl) rfl
theorem ag118 : AggT Try.prog 118 1 := AggT.mk' Try.underlying118 rfl (by kernel_rfl)
theorem zt118 : ZeroT Try.prog 118 [.slice none 0 0] := ZeroT.mk' (v := .agg #[.slice none 0 0]) (by kernel_rfl) rfl
theorem fd118_0 : FldT Try.prog 118 0 0 := FldT.mk' (n := 1) Try.underlying118 rfl rfl (by kernel_rfl) rfl
theorem sc119 : Scalar Try.prog 119 := Scalar.mk' Try.underlying119 rfl (by kernel_rfl)
theorem zt119 : ZeroT Try.prog 119 [.nilFunc] := ZeroT.mk' (v := .nilFunc) (by kernel_rfl) rfl
theorem sc120 : Scalar Try.prog 120 := Scalar.mk' Try.underlying120 rfl (by kernel_rfl)
theorem zt120 : ZeroT Try.prog 120 [.nilFunc] := ZeroT.mk' (v := .nilFunc) (by kernel_rfl) rfl
theorem sc121 : Scalar Try.prog 121 := Scalar.mk' Try.underlying121 rfl (by kernel_rfl)
theorem zt121 : ZeroT Try.prog 121 [.nilFunc] := ZeroT.mk' (v := .nilFunc) (by kernel_rfl) rfl
theorem sc123 : Scalar Try.prog 123 := Scalar.mk' Try.underlying123 rfl (by kernel_rfl)
theorem zt123 : ZeroT Try.prog 123 [.nilFunc] := ZeroT.mk' (v := .nilFunc) (by kernel_rfl) rfl
theorem sc124 : Scalar Try.prog 124 := Scalar.mk' Try.underlying124 rfl (by kernel_rfl)
theorem zt124 : ZeroT Try.prog 124 [.nilFunc] := ZeroT.mk' (v := .nilFunc) (by kernel_rfl) rfl
theorem sc125 : Scalar Try.prog 125 := Scalar.mk' Try.underlying125 rfl (by kernel_rfl)
theorem zt125 : ZeroT Try.prog 125 [.nilFunc] := ZeroT.mk' (v := .nilFunc) (by kernel_rfl) rfl
theorem sc126 : Scalar Try.prog 126 := Scalar.mk' Try.underlying126 rfl (by kernel_rfl)
theorem zt126 : ZeroT Try.prog 126 [.nilFunc] := ZeroT.mk' (v := .nilFunc) (by kernel_rfl) rfl
theorem sc127 : Scalar Try.prog 127 := Scalar.mk' Try.underlying127 rfl (by kernel_rfl)
theorem zt127 : ZeroT Try.prog 127 [.nilFunc] := ZeroT.mk' (v := .nilFunc) (by kernel_rfl) rfl
theorem sc128 : Scalar Try.prog 128 := Scalar.mk' Try.underlying128 rfl (by kernel_rfl)
theorem zt128 : ZeroT Try.prog 128 [.nilFunc] := ZeroT.mk' (v := .nilFunc) (by kernel_rfl) rfl
theorem sc130 : Scalar Try.prog 130 := Scalar.mk' Try.underlying130 rfl (by kernel_rfl)
theorem zt130 : ZeroT Try.prog 130 [.nilFunc] := ZeroT.mk' (v := .nilFunc) (by kernel_rfl) rfl
theorem sc131 : Scalar Try.prog 131 := Scalar.mk' Try.underlying131 rfl (by kernel_rfl)
theorem zt131 : ZeroT Try.prog 131 [.nilFunc] := ZeroT.mk' (v := .nilFunc) (by kernel_rfl) rfl
theorem sc132 : Scalar Try.prog 132 := Scalar.mk' Try.underlying132 rfl (by kernel_rfl)
theorem zt132 : ZeroT Try.prog 132 [.nilFunc] := ZeroT.mk' (v := .nilFunc) (by kernel_rfl) rfl
theorem sc133 : Scalar Try.prog 133 := Scalar.mk' Try.underlying133 rfl (by kernel_rfl)
theorem zt133 : ZeroT Try.prog 133 [.nilFunc] := ZeroT.mk' (v := .nilFunc) (by kernel_rfl) rfl
theorem sc134 : Scalar Try.prog 134 := Scalar.mk' Try.underlying134 rfl (by kernel_rfl)
theorem zt134 : ZeroT Try.prog 134 [.nilFunc] := ZeroT.mk' (v := .nilFunc) (by kernel_rfl) rfl
theorem ag135 : AggT Try.prog 135 4 := AggT.mk' Try.underlying135 rfl (by kernel_rfl)
theorem zt135 : ZeroT Try.prog 135 [.pointer none, .pointer none, .pointer none, .string ByteArray.empty] := ZeroT.mk' (v := .agg #[.pointer none, .pointer none, .pointer none, .string ByteArray.empty]) (by kernel_rfl) rfl
theorem fd135_0 : FldT Try.prog 135 0 0 := FldT.mk' (n := 1) Try.underlying135 rfl rfl (by kernel_rfl) rfl
theorem fd135_1 : FldT Try.prog 135 1 1 := FldT.mk' (n := 1) Try.underlying135 rfl rfl (by kernel_rfl) rfl
theorem fd135_2 : FldT Try.prog 135 2 2 := FldT.mk' (n := 1) Try.underlying135 rfl rfl (by kernel_rfl) rfl
theorem fd135_3 : FldT Try.prog 135 3 3 := FldT.mk' (n := 1) Try.underlying135 rfl rfl (by kernel_rfl) rfl
theorem ag136 : AggT Try.prog 136 4 := AggT.mk' Try.underlying136 rfl (by kernel_rfl)
theorem zt136 : ZeroT Try.prog 136 [.pointer none, .pointer none, .pointer none, .string ByteArray.empty] := ZeroT.mk' (v := .agg #[.pointer none, .pointer none, .pointer none, .string ByteArray.empty]) (by kernel_rfl) rfl
theorem fd136_0 : FldT Try.prog 136 0 0 := FldT.mk' (n := 1) Try.underlying136 rfl rfl (by kernel_rfl) rfl
theorem fd136_1 : FldT Try.prog 136 1 1 := FldT.mk' (n := 1) Try.underlying136 rfl rfl (by kernel_rfl) rfl
theorem fd136_2 : FldT Try.prog 136 2 2 := FldT.mk' (n := 1) Try.underlying136 rfl rfl (by kernel_rfl) rfl
theorem fd136_3 : FldT Try.prog 136 3 3 := FldT.mk' (n := 1) Try.underlying136 rfl rfl (by kernel_rfl) rfl
theorem sc140 : Scalar Try.prog 140 := Scalar.mk' Try.underlying140 rfl (by kernel_rfl)
theorem zt140 : ZeroT Try.prog 140 [.int .u8 0] := ZeroT.mk' (v := .int .u8 0) (by kernel_rfl) rfl
theorem sc141 : Scalar Try.prog 141 := Scalar.mk' Try.underlying141 rfl (by kernel_rfl)
theorem zt141 : ZeroT Try.prog 141 [.int .u8 0] := ZeroT.mk' (v := .int .u8 0) (by kernel_rfl) rfl
theorem sc142 : Scalar Try.prog 142 := Scalar.mk' Try.underlying142 rfl (by kernel_rfl)
theorem zt142 : ZeroT Try.prog 142 [.nilFunc] := ZeroT.mk' (v := .nilFunc) (by kernel_rfl) rfl
theorem sc143 : Scalar Try.prog 143 := Scalar.mk' Try.underlying143 rfl (by kernel_rfl)
theorem zt143 : ZeroT Try.prog 143 [.pointer none] := ZeroT.mk' (v := .pointer none) (by kernel_rfl) rfl
theorem sc144 : Scalar Try.prog 144 := Scalar.mk' Try.underlying144 rfl (by kernel_rfl)
theorem zt144 : ZeroT Try.prog 144 [.int .i32 0] := ZeroT.mk' (v := .int .i32 0) (by kernel_rfl) rfl
theorem sc145 : Scalar Try.prog 145 := Scalar.mk' Try.underlying145 rfl (by kernel_rfl)
theorem zt145 : ZeroT Try.prog 145 [.int .i32 0] := ZeroT.mk' (v := .int .i32 0) (by kernel_rfl) rfl
theorem ag146 : AggT Try.prog 146 11 := AggT.mk' Try.underlying146 rfl (by kernel_rfl)
theorem zt146 : ZeroT Try.prog 146 [.int .u64 0, .int .u64 0, .int .u32 0, .int .u8 0, .int .u8 0, .int .u8 0, .int .u8 0, .nilFunc, .pointer none, .int .i32 0, .int .i32 0] := ZeroT.mk' (v := .agg #[.int .u64 0, .int .u64 0, .int .u32 0, .int .u8 0, .int .u8 0, .int .u8 0, .int .u8 0, .nilFunc, .pointer none, .int .i32 0, .int .i32 0]) (by kernel_rfl) rfl
theorem fd146_0 : FldT Try.prog 146 0 0 := FldT.mk' (n := 1) Try.underlying146 rfl rfl (by kernel_rfl) rfl
theorem fd146_1 : FldT Try.prog 146 1 1 := FldT.mk' (n := 1) Try.underlying146 rfl rfl (by kernel_rfl) rfl
theorem fd146_2 : FldT Try.prog 146 2 2 := FldT.mk' (n := 1) Try.underlying146 rfl rfl (by kernel_rfl) rfl
theorem fd146_3 : FldT Try.prog 146 3 3 := FldT.mk' (n := 1) Try.underlying146 rfl rfl (by kernel_rfl) rfl
theorem fd146_4 : FldT Try.prog 146 4 4 := FldT.mk' (n := 1) Try.underlying146 rfl rfl (by kernel_rfl) rfl
theorem fd146_5 : FldT Try.prog 146 5 5 := FldT.mk' (n := 1) Try.underlying146 rfl rfl (by kernel_rfl) rfl
theorem fd146_6 : FldT Try.prog 146 6 6 := FldT.mk' (n := 1) Try.underlying146 rfl rfl (by kernel_rfl) rfl
theorem fd146_7 : FldT Try.prog 146 7 7 := FldT.mk' (n := 1) Try.underlying146 rfl rfl (by kernel_rfl) rfl
theorem fd146_8 : FldT Try.prog 146 8 8 := FldT.mk' (n := 1) Try.underlying146 rfl rfl (by kernel_rfl) rfl
theorem fd146_9 : FldT Try.prog 146 9 9 := FldT.mk' (n := 1) Try.underlying146 rfl rfl (by kernel_rfl) rfl
theorem fd146_10 : FldT Try.prog 146 10 10 := FldT.mk' (n := 1) Try.underlying146 rfl rfl (by kernel_rfl) rfl
theorem ag147 : AggT Try.prog 147 11 := AggT.mk' Try.underlying147 rfl (by kernel_rfl)
theorem zt147 : ZeroT Try.prog 147 [.int .u64 0, .int .u64 0, .int .u32 0, .int .u8 0, .int .u8 0, .int .u8 0, .int .u8 0, .nilFunc, .pointer none, .int .i32 0, .int .i32 0] := ZeroT.mk' (v := .agg #[.int .u64 0, .int .u64 0, .int .u32 0, .int .u8 0, .int .u8 0, .int .u8 0, .int .u8 0, .nilFunc, .pointer none, .int .i32 0, .int .i32 0]) (by kernel_rfl) rfl
theorem fd147_0 : FldT Try.prog 147 0 0 := FldT.mk' (n := 1) Try.underlying147 rfl rfl (by kernel_rfl) rfl
theorem fd147_1 : FldT Try.prog 147 1 1 := FldT.mk' (n := 1) Try.underlying147 rfl rfl (by kernel_rfl) rfl
theorem fd147_2 : FldT Try.prog 147 2 2 := FldT.mk' (n := 1) Try.underlying147 rfl rfl (by kernel_rfl) rfl
theorem fd147_3 : FldT Try.prog 147 3 3 := FldT.mk' (n := 1) Try.underlying147 rfl rfl (by kernel_rfl) rfl
theorem fd147_4 : FldT Try.prog 147 4 4 := FldT.mk' (n := 1) Try.underlying147 rfl rfl (by kernel_rfl) rfl
theorem fd147_5 : FldT Try.prog 147 5 5 := FldT.mk' (n := 1) Try.underlying147 rfl rfl (by kernel_rfl) rfl
theorem fd147_6 : FldT Try.prog 147 6 6 := FldT.mk' (n := 1) Try.underlying147 rfl rfl (by kernel_rfl) rfl
theorem fd147_7 : FldT Try.prog 147 7 7 := FldT.mk' (n := 1) Try.underlying147 rfl rfl (by kernel_rfl) rfl
theorem fd147_8 : FldT Try.prog 147 8 8 := FldT.mk' (n := 1) Try.underlying147 rfl rfl (by kernel_rfl) rfl
theorem fd147_9 : FldT Try.prog 147 9 9 := FldT.mk' (n := 1) Try.underlying147 rfl rfl (by kernel_rfl) rfl
theorem fd147_10 : FldT Try.prog 147 10 10 := FldT.mk' (n := 1) Try.underlying147 rfl rfl (by kernel_rfl) rfl
theorem sc148 : Scalar Try.prog 148 := Scalar.mk' Try.underlying148 rfl (by kernel_rfl)
theorem zt148 : ZeroT Try.prog 148 [.pointer none] := ZeroT.mk' (v := .pointer none) (by kernel_rfl) rfl
theorem en3 : ∀ args w, (callFunc 3 args).run Try.prog w = .ok (.enter 3 args) w := enters_of Try.func3 (by kernel_rfl) rfl
theorem en4 : ∀ args w, (callFunc 4 args).run Try.prog w = .ok (.enter 4 args) w := enters_of Try.func4 (by kernel_rfl) rfl
theorem en5 : ∀ args w, (callFunc 5 args).run Try.prog w = .ok (.enter 5 args) w := enters_of Try.func5 (by kernel_rfl) rfl
theorem en6 : ∀ args w, (callFunc 6 args).run Try.prog w = .ok (.enter 6 args) w := enters_of Try.func6 (by kernel_rfl) rfl
theorem en7 : ∀ args w, (callFunc 7 args).run Try.prog w = .ok (.enter 7 args) w := enters_of Try.func7 (by kernel_rfl) rfl
theorem en8 : ∀ args w, (callFunc 8 args).run Try.prog w = .ok (.enter 8 args) w := enters_of Try.func8 (by kernel_rfl) rfl
theorem en9 : ∀ args w, (callFunc 9 args).run Try.prog w = .ok (.enter 9 args) w := enters_of Try.func9 (by kernel_rfl) rfl
theorem en10 : ∀ args w, (callFunc 10 args).run Try.prog w = .ok (.enter 10 args) w := enters_of Try.func10 (by kernel_rfl) rfl
theorem en11 : ∀ args w, (callFunc 11 args).run Try.prog w = .ok (.enter 11 args) w := enters_of Try.func11 (by kernel_rfl) rfl
theorem en12 : ∀ args w, (callFunc 12 args).run Try.prog w = .ok (.enter 12 args) w := enters_of Try.func12 (by kernel_rfl) rfl
theorem en13 : ∀ args w, (callFunc 13 args).run Try.prog w = .ok (.enter 13 args) w := enters_of Try.func13 (by kernel_rfl) rfl
theorem en14 : ∀ args w, (callFunc 14 args).run Try.prog w = .ok (.enter 14 args) w := enters_of Try.func14 (by kernel_rfl) rfl
theorem en15 : ∀ args w, (callFunc 15 args).run Try.prog w = .ok (.enter 15 args) w := enters_of Try.func15 (by kernel_rfl) rfl
theorem en16 : ∀ args w, (callFunc 16 args).run Try.prog w = .ok (.enter 16 args) w := enters_of Try.func16 (by kernel_rfl) rfl
theorem en17 : ∀ args w, (callFunc 17 args).run Try.prog w = .ok (.enter 17 args) w := enters_of Try.func17 (by kernel_rfl) rfl
theorem en18 : ∀ args w, (callFunc 18 args).run Try.prog w = .ok (.enter 18 args) w := enters_of Try.func18 (by kernel_rfl) rfl
theorem en19 : ∀ args w, (callFunc 19 args).run Try.prog w = .ok (.enter 19 args) w := enters_of Try.func19 (by kernel_rfl) rfl
theorem en20 : ∀ args w, (callFunc 20 args).run Try.prog w = .ok (.enter 20 args) w := enters_of Try.func20 (by kernel_rfl) rfl
theorem en21 : ∀ args w, (callFunc 21 args).run Try.prog w = .ok (.enter 21 args) w := enters_of Try.func21 (by kernel_rfl) rfl
theorem en22 : ∀ args w, (callFunc 22 args).run Try.prog w = .ok (.enter 22 args) w := enters_of Try.func22 (by kernel_rfl) rfl
theorem en23 : ∀ args w, (callFunc 23 args).run Try.prog w = .ok (.enter 23 args) w := enters_of Try.func23 (by kernel_rfl) rfl
theorem en24 : ∀ args w, (callFunc 24 args).run Try.prog w = .ok (.enter 24 args) w := enters_of Try.func24 (by kernel_rfl) rfl
theorem en25 : ∀ args w, (callFunc 25 args).run Try.prog w = .ok (.enter 25 args) w := enters_of Try.func25 (by kernel_rfl) rfl
theorem en26 : ∀ args w, (callFunc 26 args).run Try.prog w = .ok (.enter 26 args) w := enters_of Try.func26 (by kernel_rfl) rfl
theorem en27 : ∀ args w, (callFunc 27 args).run Try.prog w = .ok (.enter 27 args) w := enters_of Try.func27 (by kernel_rfl) rfl
theorem en28 : ∀ args w, (callFunc 28 args).run Try.prog w = .ok (.enter 28 args) w := enters_of Try.func28 (by kernel_rfl) rfl
theorem en29 : ∀ args w, (callFunc 29 args).run Try.prog w = .ok (.enter 29 args) w := enters_of Try.func29 (by kernel_rfl) rfl
theorem en30 : ∀ args w, (callFunc 30 args).run Try.prog w = .ok (.enter 30 args) w := enters_of Try.func30 (by kernel_rfl) rfl
theorem en31 : ∀ args w, (callFunc 31 args).run Try.prog w = .ok (.enter 31 args) w := enters_of Try.func31 (by kernel_rfl) rfl
theorem en32 : ∀ args w, (callFunc 32 args).run Try.prog w = .ok (.enter 32 args) w := enters_of Try.func32 (by kernel_rfl) rfl
theorem en33 : ∀ args w, (callFunc 33 args).run Try.prog w = .ok (.enter 33 args) w := enters_of Try.func33 (by kernel_rfl) rfl
theorem en34 : ∀ args w, (callFunc 34 args).run Try.prog w = .ok (.enter 34 args) w := enters_of Try.func34 (by kernel_rfl) rfl
theorem en35 : ∀ args w, (callFunc 35 args).run Try.prog w = .ok (.enter 35 args) w := enters_of Try.func35 (by kernel_rfl) rfl
theorem en36 : ∀ args w, (callFunc 36 args).run Try.prog w = .ok (.enter 36 args) w := enters_of Try.func36 (by kernel_rfl) rfl
theorem en37 : ∀ args w, (callFunc 37 args).run Try.prog w = .ok (.enter 37 args) w := enters_of Try.func37 (by kernel_rfl) rfl
theorem en38 : ∀ args w, (callFunc 38 args).run Try.prog w = .ok (.enter 38 args) w := enters_of Try.func38 (by kernel_rfl) rfl
theorem en39 : ∀ args w, (callFunc 39 args).run Try.prog w = .ok (.enter 39 args) w := enters_of Try.func39 (by kernel_rfl) rfl
theorem en40 : ∀ args w, (callFunc 40 args).run Try.prog w = .ok (.enter 40 args) w := enters_of Try.func40 (by kernel_rfl) rfl
theorem en41 : ∀ args w, (callFunc 41 args).run Try.prog w = .ok (.enter 41 args) w := enters_of Try.func41 (by kernel_rfl) rfl
theorem en42 : ∀ args w, (callFunc 42 args).run Try.prog w = .ok (.enter 42 args) w := enters_of Try.func42 (by kernel_rfl) rfl
theorem en43 : ∀ args w, (callFunc 43 args).run Try.prog w = .ok (.enter 43 args) w := enters_of Try.func43 (by kernel_rfl) rfl
theorem en44 : ∀ args w, (callFunc 44 args).run Try.prog w = .ok (.enter 44 args) w := enters_of Try.func44 (by kernel_rfl) rfl
theorem en45 : ∀ args w, (callFunc 45 args).run Try.prog w = .ok (.enter 45 args) w := enters_of Try.func45 (by kernel_rfl) rfl
theorem en46 : ∀ args w, (callFunc 46 args).run Try.prog w = .ok (.enter 46 args) w := enters_of Try.func46 (by kernel_rfl) rfl
theorem en47 : ∀ args w, (callFunc 47 args).run Try.prog w = .ok (.enter 47 args) w := enters_of Try.func47 (by kernel_rfl) rfl
theorem en48 : ∀ args w, (callFunc 48 args).run Try.prog w = .ok (.enter 48 args) w := enters_of Try.func48 (by kernel_rfl) rfl
theorem en49 : ∀ args w, (callFunc 49 args).run Try.prog w = .ok (.enter 49 args) w := enters_of Try.func49 (by kernel_rfl) rfl
theorem en50 : ∀ args w, (callFunc 50 args).run Try.prog w = .ok (.enter 50 args) w := enters_of Try.func50 (by kernel_rfl) rfl
theorem en51 : ∀ args w, (callFunc 51 args).run Try.prog w = .ok (.enter 51 args) w := enters_of Try.func51 (by kernel_rfl) rfl
theorem en52 : ∀ args w, (callFunc 52 args).run Try.prog w = .ok (.enter 52 args) w := enters_of Try.func52 (by kernel_rfl) rfl
theorem en53 : ∀ args w, (callFunc 53 args).run Try.prog w = .ok (.enter 53 args) w := enters_of Try.func53 (by kernel_rfl) rfl
theorem en54 : ∀ args w, (callFunc 54 args).run Try.prog w = .ok (.enter 54 args) w := enters_of Try.func54 (by kernel_rfl) rfl
theorem en55 : ∀ args w, (callFunc 55 args).run Try.prog w = .ok (.enter 55 args) w := enters_of Try.func55 (by kernel_rfl) rfl
theorem en56 : ∀ args w, (callFunc 56 args).run Try.prog w = .ok (.enter 56 args) w := enters_of Try.func56 (by kernel_rfl) rfl
theorem en57 : ∀ args w, (callFunc 57 args).run Try.prog w = .ok (.enter 57 args) w := enters_of Try.func57 (by kernel_rfl) rfl
theorem en58 : ∀ args w, (callFunc 58 args).run Try.prog w = .ok (.enter 58 args) w := enters_of Try.func58 (by kernel_rfl) rfl
theorem en59 : ∀ args w, (callFunc 59 args).run Try.prog w = .ok (.enter 59 args) w := enters_of Try.func59 (by kernel_rfl) rfl
theorem en60 : ∀ args w, (callFunc 60 args).run Try.prog w = .ok (.enter 60 args) w := enters_of Try.func60 (by kernel_rfl) rfl
theorem en61 : ∀ args w, (callFunc 61 args).run Try.prog w = .ok (.enter 61 args) w := enters_of Try.func61 (by kernel_rfl) rfl
end Go.Proofs.Ytnebpklmbefmfaa
