import Derived.Test.YtekepfpkihnodaaSymOps
import Derived.Test.YtekepfpkihnodaaProg
import Derived.KernelRfl
import Derived.Shelf.Abstract
/- What is known of the types and the functions of this translation, told one by one. Printed by a program of this session. -/
namespace Go.Proofs.Ytekepfpkihnodaa
open Go.Shelf
theorem sc1 : Scalar Try.prog 1 := Scalar.mk' Try.underlying1 rfl (by kernel_rfl)
theorem zt1 : ZeroT Try.prog 1 [.nilFunc] := ZeroT.mk' (v := .nilFunc) (by kernel_rfl) rfl
theorem sc2 : Scalar Try.prog 2 := Scalar.mk' Try.underlying2 rfl (by kernel_rfl)
theorem zt2 : ZeroT Try.prog 2 [.int .i64 0] := ZeroT.mk' (v := .int .i64 0) (by kernel_rfl) rfl
theorem sc3 : Scalar Try.prog 3 := Scalar.mk' Try.underlying3 rfl (by kernel_rfl)
theorem zt3 : ZeroT Try.prog 3 [.int .i64 0] := ZeroT.mk' (v := .int .i64 0) (by kernel_rfl) rfl
theorem sc4 : Scalar Try.prog 4 := Scalar.mk' Try.underlying4 rfl (by kernel_rfl)
theorem zt4 : ZeroT Try.prog 4 [.bool false] := ZeroT.mk' (v := .bool false) (by kernel_rfl) rfl
theorem sc5 : Scalar Try.prog 5 := Scalar.mk' Try.underlying5 rfl (by kernel_rfl)
theorem zt5 : ZeroT Try.prog 5 [.int .u8 0] := ZeroT.mk' (v := .int .u8 0) (by kernel_rfl) rfl
theorem sc6 : Scalar Try.prog 6 := Scalar.mk' Try.underlying6 rfl (by kernel_rfl)
theorem zt6 : ZeroT Try.prog 6 [.int .u8 0] := ZeroT.mk' (v := .int .u8 0) (by kernel_rfl) rfl
theorem ag7 : AggT Try.prog 7 4 := AggT.mk' Try.underlying7 rfl (by kernel_rfl)
theorem zt7 : ZeroT Try.prog 7 [.int .i64 0, .int .i64 0, .bool false, .int .u8 0] := ZeroT.mk' (v := .agg #[.int .i64 0, .int .i64 0, .bool false, .int .u8 0]) (by kernel_rfl) rfl
theorem fd7_0 : FldT Try.prog 7 0 0 := FldT.mk' (n := 1) Try.underlying7 rfl rfl (by kernel_rfl) rfl
theorem fd7_1 : FldT Try.prog 7 1 1 := FldT.mk' (n := 1) Try.underlying7 rfl rfl (by kernel_rfl) rfl
theorem fd7_2 : FldT Try.prog 7 2 2 := FldT.mk' (n := 1) Try.underlying7 rfl rfl (by kernel_rfl) rfl
theorem fd7_3 : FldT Try.prog 7 3 3 := FldT.mk' (n := 1) Try.underlying7 rfl rfl (by kernel_rfl) rfl
theorem ag8 : AggT Try.prog 8 4 := AggT.mk' Try.underlying8 rfl (by kernel_rfl)
theorem zt8 : ZeroT Try.prog 8 [.int .i64 0, .int .i64 0, .bool false, .int .u8 0] := ZeroT.mk' (v := .agg #[.int .i64 0, .int .i64 0, .bool false, .int .u8 0]) (by kernel_rfl) rfl
theorem fd8_0 : FldT Try.prog 8 0 0 := FldT.mk' (n := 1) Try.underlying8 rfl rfl (by kernel_rfl) rfl
theorem fd8_1 : FldT Try.prog 8 1 1 := FldT.mk' (n := 1) Try.underlying8 rfl rfl (by kernel_rfl) rfl
theorem fd8_2 : FldT Try.prog 8 2 2 := FldT.mk' (n := 1) Try.underlying8 rfl rfl (by kernel_rfl) rfl
theorem fd8_3 : FldT Try.prog 8 3 3 := FldT.mk' (n := 1) Try.underlying8 rfl rfl (by kernel_rfl) rfl
theorem sc9 : Scalar Try.prog 9 := Scalar.mk' Try.underlying9 rfl (by kernel_rfl)
theorem zt9 : ZeroT Try.prog 9 [.string ByteArray.empty] := ZeroT.mk' (v := .string ByteArray.empty) (by kernel_rfl) rfl
theorem sc10 : Scalar Try.prog 10 := Scalar.mk' Try.underlying10 rfl (by kernel_rfl)
theorem zt10 : ZeroT Try.prog 10 [.string ByteArray.empty] := ZeroT.mk' (v := .string ByteArray.empty) (by kernel_rfl) rfl
theorem sc11 : Scalar Try.prog 11 := Scalar.mk' Try.underlying11 rfl (by kernel_rfl)
theorem zt11 : ZeroT Try.prog 11 [.string ByteArray.empty] := ZeroT.mk' (v := .string ByteArray.empty) (by kernel_rfl) rfl
theorem sc12 : Scalar Try.prog 12 := Scalar.mk' Try.underlying12 rfl (by kernel_rfl)
theorem zt12 : ZeroT Try.prog 12 [.int .u64 0] := ZeroT.mk' (v := .int .u64 0) (by kernel_rfl) rfl
theorem ag13 : AggT Try.prog 13 2 := AggT.mk' Try.underlying13 rfl (by kernel_rfl)
theorem zt13 : ZeroT Try.prog 13 [.string ByteArray.empty, .int .u64 0] := ZeroT.mk' (v := .agg #[.string ByteArray.empty, .int .u64 0]) (by kernel_rfl) rfl
theorem fd13_0 : FldT Try.prog 13 0 0 := FldT.mk' (n := 1) Try.underlying13 rfl rfl (by kernel_rfl) rfl
theorem fd13_1 : FldT Try.prog 13 1 1 := FldT.mk' (n := 1) Try.underlying13 rfl rfl (by kernel_rfl) rfl
theorem ag14 : AggT Try.prog 14 2 := AggT.mk' Try.underlying14 rfl (by kernel_rfl)
theorem zt14 : ZeroT Try.prog 14 [.string ByteArray.empty, .int .u64 0] := ZeroT.mk' (v := .agg #[.string ByteArray.empty, .int .u64 0]) (by kernel_rfl) rfl
theorem fd14_0 : FldT Try.prog 14 0 0 := FldT.mk' (n := 1) Try.underlying14 rfl rfl (by kernel_rfl) rfl
theorem fd14_1 : FldT Try.prog 14 1 1 := FldT.mk' (n := 1) Try.underlying14 rfl rfl (by kernel_rfl) rfl
theorem sc15 : Scalar Try.prog 15 := Scalar.mk' Try.underlying15 rfl (by kernel_rfl)
theorem zt15 : ZeroT Try.prog 15 [.pointer none] := ZeroT.mk' (v := .pointer none) (by kernel_rfl) rfl
theorem sc16 : Scalar Try.prog 16 := Scalar.mk' Try.underlying16 rfl (by kernel_rfl)
theorem zt16 : ZeroT Try.prog 16 [.pointer none] := ZeroT.mk' (v := .pointer none) (by kernel_rfl) rfl
theorem sc17 : Scalar Try.prog 17 := Scalar.mk' Try.underlying17 rfl (by kernel_rfl)
theorem zt17 : ZeroT Try.prog 17 [.pointer none] := ZeroT.mk' (v := .pointer none) (by kernel_rfl) rfl
theorem ag18 : AggT Try.prog 18 1 := AggT.mk' Try.underlying18 rfl (by kernel_rfl)
theorem zt18 : ZeroT Try.prog 18 [.pointer none] := ZeroT.mk' (v := .agg #[.pointer none]) (by kernel_rfl) rfl
theorem fd18_0 : FldT Try.prog 18 0 0 := FldT.mk' (n := 1) Try.underlying18 rfl rfl (by kernel_rfl) rfl
theorem ag19 : AggT Try.prog 19 1 := AggT.mk' Try.underlying19 rfl (by kernel_rfl)
theorem zt19 : ZeroT Try.prog 19 [.pointer none] := ZeroT.mk' (v := .agg #[.pointer none]) (by kernel_rfl) rfl
theorem fd19_0 : FldT Try.prog 19 0 0 := FldT.mk' (n := 1) Try.underlying19 rfl rfl (by kernel_rfl) rfl
theorem sc20 : Scalar Try.prog 20 := Scalar.mk' Try.underlying20 rfl (by kernel_rfl)
theorem zt20 : ZeroT Try.prog 20 [.nilIface] := ZeroT.mk' (v := .nilIface) (by kernel_rfl) rfl
theorem sc21 : Scalar Try.prog 21 := Scalar.mk' Try.underlying21 rfl (by kernel_rfl)
theorem zt21 : ZeroT Try.prog 21 [.int .i32 0] := ZeroT.mk' (v := .int .i32 0) (by kernel_rfl) rfl
theorem sc22 : Scalar Try.prog 22 := Scalar.mk' Try.underlying22 rfl (by kernel_rfl)
theorem zt22 : ZeroT Try.prog 22 [.pointer none] := ZeroT.mk' (v := .pointer none) (by kernel_rfl) rfl
theorem sc23 : Scalar Try.prog 23 := Scalar.mk' Try.underlying23 rfl (by kernel_rfl)
theorem zt23 : ZeroT Try.prog 23 [.int .i64 0] := ZeroT.mk' (v := .int .i64 0) (by kernel_rfl) rfl
theorem sc25 : Scalar Try.prog 25 := Scalar.mk' Try.underlying25 rfl (by kernel_rfl)
theorem zt25 : ZeroT Try.prog 25 [.nilFunc] := ZeroT.mk' (v := .nilFunc) (by kernel_rfl) rfl
theorem ag26 : AggT Try.prog 26 3 := AggT.mk' Try.underlying26 rfl (by kernel_rfl)
theorem zt26 : ZeroT Try.prog 26 [.int .i64 0, .int .i64 0, .int .i64 0] := ZeroT.mk' (v := .agg #[.int .i64 0, .int .i64 0, .int .i64 0]) (by kernel_rfl) rfl
theorem fd26_0 : FldT Try.prog 26 0 0 := FldT.mk' (n := 1) Try.underlying26 rfl rfl (by kernel_rfl) rfl
theorem fd26_1 : FldT Try.prog 26 1 1 := FldT.mk' (n := 1) Try.underlying26 rfl rfl (by kernel_rfl) rfl
theorem fd26_2 : FldT Try.prog 26 2 2 := FldT.mk' (n := 1) Try.underlying26 rfl rfl (by kernel_rfl) rfl
theorem ag27 : AggT Try.prog 27 3 := AggT.mk' Try.underlying27 rfl (by kernel_rfl)
theorem zt27 : ZeroT Try.prog 27 [.int .i64 0, .int .i64 0, .int .i64 0] := ZeroT.mk' (v := .agg #[.int .i64 0, .int .i64 0, .int .i64 0]) (by kernel_rfl) rfl
theorem fd27_0 : FldT Try.prog 27 0 0 := FldT.mk' (n := 1) Try.underlying27 rfl rfl (by kernel_rfl) rfl
theorem fd27_1 : FldT Try.prog 27 1 1 := FldT.mk' (n := 1) Try.underlying27 rfl rfl (by kernel_rfl) rfl
theorem fd27_2 : FldT Try.prog 27 2 2 := FldT.mk' (n := 1) Try.underlying27 rfl rfl (by kernel_rfl) rfl
theorem sc28 : Scalar Try.prog 28 := Scalar.mk' Try.underlying28 rfl (by kernel_rfl)
theorem zt28 : ZeroT Try.prog 28 [.slice none 0 0] := ZeroT.mk' (v := .slice none 0 0) (by kernel_rfl) rfl
theorem sl28 : SlT Try.prog 28 27 3 := ⟨Try.underlying28, size_of_info (by kernel_rfl)⟩
theorem ag29 : AggT Try.prog 29 5 := AggT.mk' Try.underlying29 rfl (by kernel_rfl)
theorem zt29 : ZeroT Try.prog 29 [.int .i64 0, .int .i64 0, .int .i64 0, .int .i64 0, .int .i64 0] := ZeroT.mk' (v := .agg #[.int .i64 0, .int .i64 0, .int .i64 0, .int .i64 0, .int .i64 0]) (by kernel_rfl) rfl
theorem fd29_0 : FldT Try.prog 29 0 0 := FldT.mk' (n := 1) Try.underlying29 rfl rfl (by kernel_rfl) rfl
theorem fd29_1 : FldT Try.prog 29 1 1 := FldT.mk' (n := 1) Try.underlying29 rfl rfl (by kernel_rfl) rfl
theorem fd29_2 : FldT Try.prog 29 2 2 := FldT.mk' (n := 1) Try.underlying29 rfl rfl (by kernel_rfl) rfl
theorem fd29_3 : FldT Try.prog 29 3 3 := FldT.mk' (n := 1) Try.underlying29 rfl rfl (by kernel_rfl) rfl
theorem fd29_4 : FldT Try.prog 29 4 4 := FldT.mk' (n := 1) Try.underlying29 rfl rfl (by kernel_rfl) rfl
theorem ag30 : AggT Try.prog 30 5 := AggT.mk' Try.underlying30 rfl (by kernel_rfl)
theorem zt30 : ZeroT Try.prog 30 [.int .i64 0, .int .i64 0, .int .i64 0, .int .i64 0, .int .i64 0] := ZeroT.mk' (v := .agg #[.int .i64 0, .int .i64 0, .int .i64 0, .int .i64 0, .int .i64 0]) (by kernel_rfl) rfl
theorem fd30_0 : FldT Try.prog 30 0 0 := FldT.mk' (n := 1) Try.underlying30 rfl rfl (by kernel_rfl) rfl
theorem fd30_1 : FldT Try.prog 30 1 1 := FldT.mk' (n := 1) Try.underlying30 rfl rfl (by kernel_rfl) rfl
theorem fd30_2 : FldT Try.prog 30 2 2 := FldT.mk' (n := 1) Try.underlying30 rfl rfl (by kernel_rfl) rfl
theorem fd30_3 : FldT Try.prog 30 3 3 := FldT.mk' (n := 1) Try.underlying30 rfl rfl (by kernel_rfl) rfl
theorem fd30_4 : FldT Try.prog 30 4 4 := FldT.mk' (n := 1) Try.underlying30 rfl rfl (by kernel_rfl) rfl
theorem sc32 : Scalar Try.prog 32 := Scalar.mk' Try.underlying32 rfl (by kernel_rfl)
theorem zt32 : ZeroT Try.prog 32 [.nilFunc] := ZeroT.mk' (v := .nilFunc) (by kernel_rfl) rfl
theorem sc33 : Scalar Try.prog 33 := Scalar.mk' Try.underlying33 rfl (by kernel_rfl)
theorem zt33 : ZeroT Try.prog 33 [.nilFunc] := ZeroT.mk' (v := .nilFunc) (by kernel_rfl) rfl
theorem sc34 : Scalar Try.prog 34 := Scalar.mk' Try.underlying34 rfl (by kernel_rfl)
theorem zt34 : ZeroT Try.prog 34 [.nilFunc] := ZeroT.mk' (v := .nilFunc) (by kernel_rfl) rfl
theorem sc35 : Scalar Try.prog 35 := Scalar.mk' Try.underlying35 rfl (by kernel_rfl)
theorem zt35 : ZeroT Try.prog 35 [.slice none 0 0] := ZeroT.mk' (v := .slice none 0 0) (by kernel_rfl) rfl
theorem sl35 : SlT Try.prog 35 2 1 := ⟨Try.underlying35, size_of_info (by kernel_rfl)⟩
theorem sc36 : Scalar Try.prog 36 := Scalar.mk' Try.underlying36 rfl (by kernel_rfl)
theorem zt36 : ZeroT Try.prog 36 [.nilFunc] := ZeroT.mk' (v := .nilFunc) (by kernel_rfl) rfl
theorem sc37 : Scalar Try.prog 37 := Scalar.mk' Try.underlying37 rfl (by kernel_rfl)
theorem zt37 : ZeroT Try.prog 37 [.nilFunc] := ZeroT.mk' (v := .nilFunc) (by kernel_rfl) rfl
theorem sc38 : Scalar Try.prog 38 := Scalar.mk' Try.underlying38 rfl (by kernel_rfl)
theorem zt38 : ZeroT Try.prog 38 [.nilFunc] := ZeroT.mk' (v := .nilFunc) (by kernel_rfl) rfl
theorem sc39 : Scalar Try.prog 39 := Scalar.mk' Try.underlying39 rfl (by kernel_rfl)
theorem zt39 : ZeroT Try.prog 39 [.nilFunc] := ZeroT.mk' (v := .nilFunc) (by kernel_rfl) rfl
theorem sc40 : Scalar Try.prog 40 := Scalar.mk' Try.underlying40 rfl (by kernel_rfl)
theorem zt40 : ZeroT Try.prog 40 [.nilFunc] := ZeroT.mk' (v := .nilFunc) (by kernel_rfl) rfl
theorem sc41 : Scalar Try.prog 41 := Scalar.mk' Try.underlying41 rfl (by kernel_rfl)
theorem zt41 : ZeroT Try.prog 41 [.slice none 0 0] := ZeroT.mk' (v := .slice none 0 0) (by kernel_rfl) rfl
theorem sl41 : SlT Try.prog 41 3 1 := ⟨Try.underlying41, size_of_info (by kernel_rfl)⟩
theorem sc43 : Scalar Try.prog 43 := Scalar.mk' Try.underlying43 rfl (by kernel_rfl)
theorem zt43 : ZeroT Try.prog 43 [.nilFunc] := ZeroT.mk' (v := .nilFunc) (by kernel_rfl) rfl
theorem sc44 : Scalar Try.prog 44 := Scalar.mk' Try.underlying44 rfl (by kernel_rfl)
theorem zt44 : ZeroT Try.prog 44 [.pointer none] := ZeroT.mk' (v := .pointer none) (by kernel_rfl) rfl
theorem ag45 : AggT Try.prog 45 6 := AggT.mk' Try.underlying45 rfl (by kernel_rfl)
theorem zt45 : ZeroT Try.prog 45 [.slice none 0 0, .int .i64 0, .int .i64 0, .slice none 0 0, .bool false, .bool false] := ZeroT.mk' (v := .agg #[.slice none 0 0, .int .i64 0, .int .i64 0, .slice none 0 0, .bool false, .bool false]) (by kernel_rfl) rfl
theorem fd45_0 : FldT Try.prog 45 0 0 := FldT.mk' (n := 1) Try.underlying45 rfl rfl (by kernel_rfl) rfl
theorem fd45_1 : FldT Try.prog 45 1 1 := FldT.mk' (n := 1) Try.underlying45 rfl rfl (by kernel_rfl) rfl
theorem fd45_2 : FldT Try.prog 45 2 2 := FldT.mk' (n := 1) Try.underlying45 rfl rfl (by kernel_rfl) rfl
theorem fd45_3 : FldT Try.prog 45 3 3 := FldT.mk' (n := 1) Try.underlying45 rfl rfl (by kernel_rfl) rfl
theorem fd45_4 : FldT Try.prog 45 4 4 := FldT.mk' (n := 1) Try.underlying45 rfl rfl (by kernel_rfl) rfl
theorem fd45_5 : FldT Try.prog 45 5 5 := FldT.mk' (n := 1) Try.underlying45 rfl rfl (by kernel_rfl) rfl
theorem ag46 : AggT Try.prog 46 6 := AggT.mk' Try.underlying46 rfl (by kernel_rfl)
theorem zt46 : ZeroT Try.prog 46 [.slice none 0 0, .int .i64 0, .int .i64 0, .slice none 0 0, .bool false, .bool false] := ZeroT.mk' (v := .agg #[.slice none 0 0, .int .i64 0, .int .i64 0, .slice none 0 0, .bool false, .bool false]) (by kernel_rfl) rfl
theorem fd46_0 : FldT Try.prog 46 0 0 := FldT.mk' (n := 1) Try.underlying46 rfl rfl (by kernel_rfl) rfl
theorem fd46_1 : FldT Try.prog 46 1 1 := FldT.mk' (n := 1) Try.underlying46 rfl rfl (by kernel_rfl) rfl
theorem fd46_2 : FldT Try.prog 46 2 2 := FldT.mk' (n := 1) Try.underlying46 rfl rfl (by kernel_rfl) rfl
theorem fd46_3 : FldT Try.prog 46 3 3 := FldT.mk' (n := 1) Try.underlying46 rfl rfl (by kernel_rfl) rfl
theorem fd46_4 : FldT Try.prog 46 4 4 := FldT.mk' (n := 1) Try.underlying46 rfl rfl (by kernel_rfl) rfl
theorem fd46_5 : FldT Try.prog 46 5 5 := FldT.mk' (n := 1) Try.underlying46 rfl rfl (by kernel_rfl) rfl
theorem sc47 : Scalar Try.prog 47 := Scalar.mk' Try.underlying47 rfl (by kernel_rfl)
theorem zt47 : ZeroT Try.prog 47 [.nilFunc] := ZeroT.mk' (v := .nilFunc) (by kernel_rfl) rfl
theorem sc48 : Scalar Try.prog 48 := Scalar.mk' Try.underlying48 rfl (by kernel_rfl)
theorem zt48 : ZeroT Try.prog 48 [.nilFunc] := ZeroT.mk' (v := .nilFunc) (by kernel_rfl) rfl
theorem sc50 : Scalar Try.prog 50 := Scalar.mk' Try.underlying50 rfl (by kernel_rfl)
theorem zt50 : ZeroT Try.prog 50 [.nilFunc] := ZeroT.mk' (v := .nilFunc) (by kernel_rfl) rfl
theorem sc51 : Scalar Try.prog 51 := Scalar.mk' Try.underlying51 rfl (by kernel_rfl)
theorem zt51 : ZeroT Try.prog 51 [.nilFunc] := ZeroT.mk' (v := .nilFunc) (by kernel_rfl) rfl
theorem ag52 : AggT Try.prog 52 6 := AggT.mk' Try.underlying52 rfl (by kernel_rfl)
theorem zt52 : ZeroT Try.prog 52 [.slice none 0 0, .int .i64 0, .int .i64 0, .slice none 0 0, .bool false, .bool false] := ZeroT.mk' (v := .agg #[.slice none 0 0, .int .i64 0, .int .i64 0, .slice none 0 0, .bool false, .bool false]) (by kernel_rfl) rfl
theorem fd52_0 : FldT Try.prog 52 0 0 := FldT.mk' (n := 1) Try.underlying52 rfl rfl (by kernel_rfl) rfl
theorem fd52_1 : FldT Try.prog 52 1 1 := FldT.mk' (n := 1) Try.underlying52 rfl rfl (by kernel_rfl) rfl
theorem fd52_2 : FldT Try.prog 52 2 2 := FldT.mk' (n := 1) Try.underlying52 rfl rfl (by kernel_rfl) rfl
theorem fd52_3 : FldT Try.prog 52 3 3 := FldT.mk' (n := 1) Try.underlying52 rfl rfl (by kernel_rfl) rfl
theorem fd52_4 : FldT Try.prog 52 4 4 := FldT.mk' (n := 1) Try.underlying52 rfl rfl (by kernel_rfl) rfl
theorem fd52_5 : FldT Try.prog 52 5 5 := FldT.mk' (n := 1) Try.underlying52 rfl rfl (by kernel_rfl) rfl
theorem ag53 : AggT Try.prog 53 6 := AggT.mk' Try.underlying53 rfl (by kernel_rfl)
theorem zt53 : ZeroT Try.prog 53 [.slice none 0 0, .int .i64 0, .int .i64 0, .slice none 0 0, .bool false, .bool false] := ZeroT.mk' (v := .agg #[.slice none 0 0, .int .i64 0, .int .i64 0, .slice none 0 0, .bool false, .bool false]) (by kernel_rfl) rfl
theorem fd53_0 : FldT Try.prog 53 0 0 := FldT.mk' (n := 1) Try.underlying53 rfl rfl (by kernel_rfl) rfl
theorem fd53_1 : FldT Try.prog 53 1 1 := FldT.mk' (n := 1) Try.underlying53 rfl rfl (by kernel_rfl) rfl
theorem fd53_2 : FldT Try.prog 53 2 2 := FldT.mk' (n := 1) Try.underlying53 rfl rfl (by kernel_rfl) rfl
theorem fd53_3 : FldT Try.prog 53 3 3 := FldT.mk' (n := 1) Try.underlying53 rfl rfl (by kernel_rfl) rfl
theorem fd53_4 : FldT Try.prog 53 4 4 := FldT.mk' (n := 1) Try.underlying53 rfl rfl (by kernel_rfl) rfl
theorem fd53_5 : FldT Try.prog 53 5 5 := FldT.mk' (n := 1) Try.underlying53 rfl rfl (by kernel_rfl) rfl
theorem sc54 : Scalar Try.prog 54 := Scalar.mk' Try.underlying54 rfl (by kernel_rfl)
theorem zt54 : ZeroT Try.prog 54 [.nilFunc] := ZeroT.mk' (v := .nilFunc) (by kernel_rfl) rfl
theorem sc55 : Scalar Try.prog 55 := Scalar.mk' Try.underlying55 rfl (by kernel_rfl)
theorem zt55 : ZeroT Try.prog 55 [.nilFunc] := ZeroT.mk' (v := .nilFunc) (by kernel_rfl) rfl
theorem sc56 : Scalar Try.prog 56 := Scalar.mk' Try.underlying56 rfl (by kernel_rfl)
theorem zt56 : ZeroT Try.prog 56 [.nilFunc] := ZeroT.mk' (v := .nilFunc) (by kernel_rfl) rfl
theorem sc57 : Scalar Try.prog 57 := Scalar.mk' Try.underlying57 rfl (by kernel_rfl)
theorem zt57 : ZeroT Try.prog 57 [.nilFunc] := ZeroT.mk' (v := .nilFunc) (by kernel_rfl) rfl
theorem sc58 : Scalar Try.prog 58 := Scalar.mk' Try.underlying58 rfl (by kernel_rfl)
theorem zt58 : ZeroT Try.prog 58 [.nilFunc] := ZeroT.mk' (v := .nilFunc) (by kernel_rfl) rfl
theorem sc59 : Scalar Try.prog 59 := Scalar.mk' Try.underlying59 rfl (by kernel_rfl)
theorem zt59 : ZeroT Try.prog 59 [.nilFunc] := ZeroT.mk' (v := .nilFunc) (by kernel_rfl) rfl
theorem sc61 : Scalar Try.prog 61 := Scalar.mk' Try.underlying61 rfl (by kernel_rfl)
theorem zt61 : ZeroT Try.prog 61 [.nilFunc] := ZeroT.mk' (v := .nilFunc) (by kernel_rfl) rfl
theorem sc63 : Scalar Try.prog 63 := Scalar.mk' Try.underlying63 rfl (by kernel_rfl)
theorem zt63 : ZeroT Try.prog 63 [.nilFunc] := ZeroT.mk' (v := .nilFunc) (by kernel_rfl) rfl
theorem sc64 : Scalar Try.prog 64 := Scalar.mk' Try.underlying64 rfl (by kernel_rfl)
theorem zt64 : ZeroT Try.prog 64 [.int .u64 0] := ZeroT.mk' (v := .int .u64 0) (by kernel_rfl) rfl
theorem sc66 : Scalar Try.prog 66 := Scalar.mk' Try.underlying66 rfl (by kernel_rfl)
theorem zt66 : ZeroT Try.prog 66 [.nilFunc] := ZeroT.mk' (v := .nilFunc) (by kernel_rfl) rfl
theorem sc67 : Scalar Try.prog 67 := Scalar.mk' Try.underlying67 rfl (by kernel_rfl)
theorem zt67 : ZeroT Try.prog 67 [.nilFunc] := ZeroT.mk' (v := .nilFunc) (by kernel_rfl) rfl
theorem sc68 : Scalar Try.prog 68 := Scalar.mk' Try.underlying68 rfl (by kernel_rfl)
theorem zt68 : ZeroT Try.prog 68 [.nilFunc] := ZeroT.mk' (v := .nilFunc) (by kernel_rfl) rfl
theorem sc69 : Scalar Try.prog 69 := Scalar.mk' Try.underlying69 rfl (by kernel_rfl)
theorem zt69 : ZeroT Try.prog 69 [.nilFunc] := ZeroT.mk' (v := .nilFunc) (by kernel_rfl) rfl
theorem sc70 : Scalar Try.prog 70 := Scalar.mk' Try.underlying70 rfl (by kernel_rfl)
theorem zt70 : ZeroT Try.prog 70 [.nilFunc] := ZeroT.mk' (v := .nilFunc) (by kernel_rfl) rfl
theorem ag71 : AggT Try.prog 71 4 := AggT.mk' Try.underlying71 rfl (by kernel_rfl)
theorem zt71 : ZeroT Try.prog 71 [.pointer none, .pointer none, .pointer none, .string ByteArray.empty] := ZeroT.mk' (v := .agg #[.pointer none, .pointer none, .pointer none, .string ByteArray.empty]) (by kernel_rfl) rfl
theorem fd71_0 : FldT Try.prog 71 0 0 := FldT.mk' (n := 1) Try.underlying71 rfl rfl (by kernel_rfl) rfl
theorem fd71_1 : FldT Try.prog 71 1 1 := FldT.mk' (n := 1) Try.underlying71 rfl rfl (by kernel_rfl) rfl
theorem fd71_2 : FldT Try.prog 71 2 2 := FldT.mk' (n := 1) Try.underlying71 rfl rfl (by kernel_rfl) rfl
theorem fd71_3 : FldT Try.prog 71 3 3 := FldT.mk' (n := 1) Try.underlying71 rfl rfl (by kernel_rfl) rfl
theorem ag72 : AggT Try.prog 72 4 := AggT.mk' Try.underlying72 rfl (by kernel_rfl)
theorem zt72 : ZeroT Try.prog 72 [.pointer none, .pointer none, .pointer none, .string ByteArray.empty] := ZeroT.mk' (v := .agg #[.pointer none, .pointer none, .pointer none, .string ByteArray.empty]) (by kernel_rfl) rfl
theorem fd72_0 : FldT Try.prog 72 0 0 := FldT.mk' (n := 1) Try.underlying72 rfl rfl (by kernel_rfl) rfl
theorem fd72_1 : FldT Try.prog 72 1 1 := FldT.mk' (n := 1) Try.underlying72 rfl rfl (by kernel_rfl) rfl
theorem fd72_2 : FldT Try.prog 72 2 2 := FldT.mk' (n := 1) Try.underlying72 rfl rfl (by kernel_rfl) rfl
theorem fd72_3 : FldT Try.prog 72 3 3 := FldT.mk' (n := 1) Try.underlying72 rfl rfl (by kernel_rfl) rfl
theorem sc76 : Scalar Try.prog 76 := Scalar.mk' Try.underlying76 rfl (by kernel_rfl)
theorem zt76 : ZeroT Try.prog 76 [.int .u32 0] := ZeroT.mk' (v := .int .u32 0) (by kernel_rfl) rfl
theorem sc77 : Scalar Try.prog 77 := Scalar.mk' Try.underlying77 rfl (by kernel_rfl)
theorem zt77 : ZeroT Try.prog 77 [.int .u8 0] := ZeroT.mk' (v := .int .u8 0) (by kernel_rfl) rfl
theorem sc78 : Scalar Try.prog 78 := Scalar.mk' Try.underlying78 rfl (by kernel_rfl)
theorem zt78 : ZeroT Try.prog 78 [.int .u8 0] := ZeroT.mk' (v := .int .u8 0) (by kernel_rfl) rfl
theorem sc79 : Scalar Try.prog 79 := Scalar.mk' Try.underlying79 rfl (by kernel_rfl)
theorem zt79 : ZeroT Try.prog 79 [.nilFunc] := ZeroT.mk' (v := .nilFunc) (by kernel_rfl) rfl
theorem sc80 : Scalar Try.prog 80 := Scalar.mk' Try.underlying80 rfl (by kernel_rfl)
theorem zt80 : ZeroT Try.prog 80 [.pointer none] := ZeroT.mk' (v := .pointer none) (by kernel_rfl) rfl
theorem sc81 : Scalar Try.prog 81 := Scalar.mk' Try.underlying81 rfl (by kernel_rfl)
theorem zt81 : ZeroT Try.prog 81 [.int .i32 0] := ZeroT.mk' (v := .int .i32 0) (by kernel_rfl) rfl
theorem sc82 : Scalar Try.prog 82 := Scalar.mk' Try.underlying82 rfl (by kernel_rfl)
theorem zt82 : ZeroT Try.prog 82 [.int .i32 0] := ZeroT.mk' (v := .int .i32 0) (by kernel_rfl) rfl
theorem ag83 : AggT Try.prog 83 11 := AggT.mk' Try.underlying83 rfl (by kernel_rfl)
theorem zt83 : ZeroT Try.prog 83 [.int .u64 0, .int .u64 0, .int .u32 0, .int .u8 0, .int .u8 0, .int .u8 0, .int .u8 0, .nilFunc, .pointer none, .int .i32 0, .int .i32 0] := ZeroT.mk' (v := .agg #[.int .u64 0, .int .u64 0, .int .u32 0, .int .u8 0, .int .u8 0, .int .u8 0, .int .u8 0, .nilFunc, .pointer none, .int .i32 0, .int .i32 0]) (by kernel_rfl) rfl
theorem fd83_0 : FldT Try.prog 83 0 0 := FldT.mk' (n := 1) Try.underlying83 rfl rfl (by kernel_rfl) rfl
theorem fd83_1 : FldT Try.prog 83 1 1 := FldT.mk' (n := 1) Try.underlying83 rfl rfl (by kernel_rfl) rfl
theorem fd83_2 : FldT Try.prog 83 2 2 := FldT.mk' (n := 1) Try.underlying83 rfl rfl (by kernel_rfl) rfl
theorem fd83_3 : FldT Try.prog 83 3 3 := FldT.mk' (n := 1) Try.underlying83 rfl rfl (by kernel_rfl) rfl
theorem fd83_4 : FldT Try.prog 83 4 4 := FldT.mk' (n := 1) Try.underlying83 rfl rfl (by kernel_rfl) rfl
theorem fd83_5 : FldT Try.prog 83 5 5 := FldT.mk' (n := 1) Try.underlying83 rfl rfl (by kernel_rfl) rfl
theorem fd83_6 : FldT Try.prog 83 6 6 := FldT.mk' (n := 1) Try.underlying83 rfl rfl (by kernel_rfl) rfl
theorem fd83_7 : FldT Try.prog 83 7 7 := FldT.mk' (n := 1) Try.underlying83 rfl rfl (by kernel_rfl) rfl
theorem fd83_8 : FldT Try.prog 83 8 8 := FldT.mk' (n := 1) Try.underlying83 rfl rfl (by kernel_rfl) rfl
theorem fd83_9 : FldT Try.prog 83 9 9 := FldT.mk' (n := 1) Try.underlying83 rfl rfl (by kernel_rfl) rfl
theorem fd83_10 : FldT Try.prog 83 10 10 := FldT.mk' (n := 1) Try.underlying83 rfl rfl (by kernel_rfl) rfl
theorem ag84 : AggT Try.prog 84 11 := AggT.mk' Try.underlying84 rfl (by kernel_rfl)
theorem zt84 : ZeroT Try.prog 84 [.int .u64 0, .int .u64 0, .int .u32 0, .int .u8 0, .int .u8 0, .int .u8 0, .int .u8 0, .nilFunc, .pointer none, .int .i32 0, .int .i32 0] := ZeroT.mk' (v := .agg #[.int .u64 0, .int .u64 0, .int .u32 0, .int .u8 0, .int .u8 0, .int .u8 0, .int .u8 0, .nilFunc, .pointer none, .int .i32 0, .int .i32 0]) (by kernel_rfl) rfl
theorem fd84_0 : FldT Try.prog 84 0 0 := FldT.mk' (n := 1) Try.underlying84 rfl rfl (by kernel_rfl) rfl
theorem fd84_1 : FldT Try.prog 84 1 1 := FldT.mk' (n := 1) Try.underlying84 rfl rfl (by kernel_rfl) rfl
theorem fd84_2 : FldT Try.prog 84 2 2 := FldT.mk' (n := 1) Try.underlying84 rfl rfl (by kernel_rfl) rfl
theorem fd84_3 : FldT Try.prog 84 3 3 := FldT.mk' (n := 1) Try.underlying84 rfl rfl (by kernel_rfl) rfl
theorem fd84_4 : FldT Try.prog 84 4 4 := FldT.mk' (n := 1) Try.underlying84 rfl rfl (by kernel_rfl) rfl
theorem fd84_5 : FldT Try.prog 84 5 5 := FldT.mk' (n := 1) Try.underlying84 rfl rfl (by kernel_rfl) rfl
theorem fd84_6 : FldT Try.prog 84 6 6 := FldT.mk' (n := 1) Try.underlying84 rfl rfl (by kernel_rfl) rfl
theorem fd84_7 : FldT Try.prog 84 7 7 := FldT.mk' (n := 1) Try.underlying84 rfl rfl (by kernel_rfl) rfl
theorem fd84_8 : FldT Try.prog 84 8 8 := FldT.mk' (n := 1) Try.underlying84 rfl rfl (by kernel_rfl) rfl
theorem fd84_9 : FldT Try.prog 84 9 9 := FldT.mk' (n := 1) Try.underlying84 rfl rfl (by kernel_rfl) rfl
theorem fd84_10 : FldT Try.prog 84 10 10 := FldT.mk' (n := 1) Try.underlying84 rfl rfl (by kernel_rfl) rfl
theorem sc85 : Scalar Try.prog 85 := Scalar.mk' Try.underlying85 rfl (by kernel_rfl)
theorem zt85 : ZeroT Try.prog 85 [.pointer none] := ZeroT.mk' (v := .pointer none) (by kernel_rfl) rfl
theorem en3 : ∀ args w, (callFunc 3 args).run Try.prog w = .ok (.enter 3 args) w := enters_of Try.func3 (by kernel_rfl) rfl
theorem en4 : ∀ args w, (callFunc 4 args).run Try.prog w = .ok (.enter 4 args) w := enters_of Try.func4 (by kernel_rfl) rfl
theorem en5 : ∀ args w, (callFunc 5 args).run Try.prog w = .ok (.enter 5 args) w := enters_of Try.func5 (by kernel_rfl) rfl
theorem en6 : ∀ args w, (callFunc 6 args).run Try.prog w = .ok (.enter 6 args) w := enters_of Try.func6 (by kernel_rfl) rfl
theorem en7 : ∀ args w, (callFunc 7 args).run Try.prog w = .ok (.enter 7 args) w := enters_of Try.func7 (by kernel_rfl) rfl
theorem en8 : ∀ args w, (callFunc 8 args).run Try.prog w = .ok (.enter 8 args) w := enters_of Try.func8 (by kernel_rfl) rfl
theorem en9 : ∀ args w, (callFunc 9 args).run Try.prog w = .ok (.enter 9 args) w := enters_of Try.func9 (by kernel_rfl) rfl
theorem en10 : ∀ args w, (callFunc 10 args).run Try.prog w = .ok (.enter 10 args) w := enters_of Try.func10 (by kernel_rfl) rfl
theorem en11 : ∀ args w, (callFunc 11 args).run Try.prog w = .ok (.enter 11 args) w := enters_of Try.func11 (by kernel_rfl) rfl
theorem en12 : ∀ args w, (callFunc 12 args).run Try.prog w = .ok (.enter 12 args) w := enters_of Try.func12 (by kernel_rfl) rfl
theorem en13 : ∀ args w, (callFunc 13 args).run Try.prog w = .ok (.enter 13 args) w := enters_of Try.func13 (by kernel_rfl) rfl
theorem en14 : ∀ args w, (callFunc 14 args).run Try.prog w = .ok (.enter 14 args) w := enters_of Try.func14 (by kernel_rfl) rfl
theorem en15 : ∀ args w, (callFunc 15 args).run Try.prog w = .ok (.enter 15 args) w := enters_of Try.func15 (by kernel_rfl) rfl
theorem en16 : ∀ args w, (callFunc 16 args).run Try.prog w = .ok (.enter 16 args) w := enters_of Try.func16 (by kernel_rfl) rfl
theorem en17 : ∀ args w, (callFunc 17 args).run Try.prog w = .ok (.enter 17 args) w := enters_of Try.func17 (by kernel_rfl) rfl
theorem en18 : ∀ args w, (callFunc 18 args).run Try.prog w = .ok (.enter 18 args) w := enters_of Try.func18 (by kernel_rfl) rfl
theorem en19 : ∀ args w, (callFunc 19 args).run Try.prog w = .ok (.enter 19 args) w := enters_of Try.func19 (by kernel_rfl) rfl
theorem en20 : ∀ args w, (callFunc 20 args).run Try.prog w = .ok (.enter 20 args) w := enters_of Try.func20 (by kernel_rfl) rfl
theorem en21 : ∀ args w, (callFunc 21 args).run Try.prog w = .ok (.enter 21 args) w := enters_of Try.func21 (by kernel_rfl) rfl
theorem en22 : ∀ args w, (callFunc 22 args).run Try.prog w = .ok (.enter 22 args) w := enters_of Try.func22 (by kernel_rfl) rfl
theorem en23 : ∀ args w, (callFunc 23 args).run Try.prog w = .ok (.enter 23 args) w := enters_of Try.func23 (by kernel_rfl) rfl
theorem en24 : ∀ args w, (callFunc 24 args).run Try.prog w = .ok (.enter 24 args) w := enters_of Try.func24 (by kernel_rfl) rfl
theorem en25 : ∀ args w, (callFunc 25 args).run Try.prog w = .ok (.enter 25 args) w := enters_of Try.func25 (by kernel_rfl) rfl
theorem en26 : ∀ args w, (callFunc 26 args).run Try.prog w = .ok (.enter 26 args) w := enters_of Try.func26 (by kernel_rfl) rfl
theorem en27 : ∀ args w, (callFunc 27 args).run Try.prog w = .ok (.enter 27 args) w := enters_of Try.func27 (by kernel_rfl) rfl
theorem en28 : ∀ args w, (callFunc 28 args).run Try.prog w = .ok (.enter 28 args) w := enters_of Try.func28 (by kernel_rfl) rfl
theorem en29 : ∀ args w, (callFunc 29 args).run Try.prog w = .ok (.enter 29 args) w := enters_of Try.func29 (by kernel_rfl) rfl
end Go.Proofs.Ytekepfpkihnodaa
