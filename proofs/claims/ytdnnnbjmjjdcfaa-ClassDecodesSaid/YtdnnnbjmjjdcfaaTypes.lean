import Derived.Test.YtdnnnbjmjjdcfaaSymOps
import Derived.Test.YtdnnnbjmjjdcfaaProg
import Derived.KernelRfl
import Derived.Shelf.Abstract
/- What is known of the types and the functions of this translation, told one by one. Printed by a program of this session. -/
namespace Go.Proofs.Ytdnnnbjmjjdcfaa
open Go.Shelf
theorem sc1 : Scalar Try.prog 1 := Scalar.mk' Try.underlying1 rfl (by kernel_rfl)
theorem zt1 : ZeroT Try.prog 1 [.nilFunc] := ZeroT.mk' (v := .nilFunc) (by kernel_rfl) rfl
theorem sc2 : Scalar Try.prog 2 := Scalar.mk' Try.underlying2 rfl (by kernel_rfl)
theorem zt2 : ZeroT Try.prog 2 [.int .i64 0] := ZeroT.mk' (v := .int .i64 0) (by kernel_rfl) rfl
theorem sc3 : Scalar Try.prog 3 := Scalar.mk' Try.underlying3 rfl (by kernel_rfl)
theorem zt3 : ZeroT Try.prog 3 [.int .i64 0] := ZeroT.mk' (v := .int .i64 0) (by kernel_rfl) rfl
theorem sc4 : Scalar Try.prog 4 := Scalar.mk' Try.underlying4 rfl (by kernel_rfl)
theorem zt4 : ZeroT Try.prog 4 [.bool false] := ZeroT.mk' (v := .bool false) (by kernel_rfl) rfl
theorem sc5 : Scalar Try.prog 5 := Scalar.mk' Try.underlying5 rfl (by kernel_rfl)
theorem zt5 : ZeroT Try.prog 5 [.int .u8 0] := ZeroT.mk' (v := .int .u8 0) (by kernel_rfl) rfl
theorem sc6 : Scalar Try.prog 6 := Scalar.mk' Try.underlying6 rfl (by kernel_rfl)
theorem zt6 : ZeroT Try.prog 6 [.int .u8 0] := ZeroT.mk' (v := .int .u8 0) (by kernel_rfl) rfl
theorem ag7 : AggT Try.prog 7 4 := AggT.mk' Try.underlying7 rfl (by kernel_rfl)
theorem zt7 : ZeroT Try.prog 7 [.int .i64 0, .int .i64 0, .bool false, .int .u8 0] := ZeroT.mk' (v := .agg #[.int .i64 0, .int .i64 0, .bool false, .int .u8 0]) (by kernel_rfl) rfl
theorem fd7_0 : FldT Try.prog 7 0 0 := FldT.mk' (n := 1) Try.underlying7 rfl rfl (by kernel_rfl) rfl
theorem fd7_1 : FldT Try.prog 7 1 1 := FldT.mk' (n := 1) Try.underlying7 rfl rfl (by kernel_rfl) rfl
theorem fd7_2 : FldT Try.prog 7 2 2 := FldT.mk' (n := 1) Try.underlying7 rfl rfl (by kernel_rfl) rfl
theorem fd7_3 : FldT Try.prog 7 3 3 := FldT.mk' (n := 1) Try.underlying7 rfl rfl (by kernel_rfl) rfl
theorem ag8 : AggT Try.prog 8 4 := AggT.mk' Try.underlying8 rfl (by kernel_rfl)
theorem zt8 : ZeroT Try.prog 8 [.int .i64 0, .int .i64 0, .bool false, .int .u8 0] := ZeroT.mk' (v := .agg #[.int .i64 0, .int .i64 0, .bool false, .int .u8 0]) (by kernel_rfl) rfl
theorem fd8_0 : FldT Try.prog 8 0 0 := FldT.mk' (n := 1) Try.underlying8 rfl rfl (by kernel_rfl) rfl
theorem fd8_1 : FldT Try.prog 8 1 1 := FldT.mk' (n := 1) Try.underlying8 rfl rfl (by kernel_rfl) rfl
theorem fd8_2 : FldT Try.prog 8 2 2 := FldT.mk' (n := 1) Try.underlying8 rfl rfl (by kernel_rfl) rfl
theorem fd8_3 : FldT Try.prog 8 3 3 := FldT.mk' (n := 1) Try.underlying8 rfl rfl (by kernel_rfl) rfl
theorem sc9 : Scalar Try.prog 9 := Scalar.mk' Try.underlying9 rfl (by kernel_rfl)
theorem zt9 : ZeroT Try.prog 9 [.string ByteArray.empty] := ZeroT.mk' (v := .string ByteArray.empty) (by kernel_rfl) rfl
theorem sc10 : Scalar Try.prog 10 := Scalar.mk' Try.underlying10 rfl (by kernel_rfl)
theorem zt10 : ZeroT Try.prog 10 [.string ByteArray.empty] := ZeroT.mk' (v := .string ByteArray.empty) (by kernel_rfl) rfl
theorem sc11 : Scalar Try.prog 11 := Scalar.mk' Try.underlying11 rfl (by kernel_rfl)
theorem zt11 : ZeroT Try.prog 11 [.string ByteArray.empty] := ZeroT.mk' (v := .string ByteArray.empty) (by kernel_rfl) rfl
theorem sc12 : Scalar Try.prog 12 := Scalar.mk' Try.underlying12 rfl (by kernel_rfl)
theorem zt12 : ZeroT Try.prog 12 [.int .u64 0] := ZeroT.mk' (v := .int .u64 0) (by kernel_rfl) rfl
theorem ag13 : AggT Try.prog 13 2 := AggT.mk' Try.underlying13 rfl (by kernel_rfl)
theorem zt13 : ZeroT Try.prog 13 [.string ByteArray.empty, .int .u64 0] := ZeroT.mk' (v := .agg #[.string ByteArray.empty, .int .u64 0]) (by kernel_rfl) rfl
theorem fd13_0 : FldT Try.prog 13 0 0 := FldT.mk' (n := 1) Try.underlying13 rfl rfl (by kernel_rfl) rfl
theorem fd13_1 : FldT Try.prog 13 1 1 := FldT.mk' (n := 1) Try.underlying13 rfl rfl (by kernel_rfl) rfl
theorem ag14 : AggT Try.prog 14 2 := AggT.mk' Try.underlying14 rfl (by kernel_rfl)
theorem zt14 : ZeroT Try.prog 14 [.string ByteArray.empty, .int .u64 0] := ZeroT.mk' (v := .agg #[.string ByteArray.empty, .int .u64 0]) (by kernel_rfl) rfl
theorem fd14_0 : FldT Try.prog 14 0 0 := FldT.mk' (n := 1) Try.underlying14 rfl rfl (by kernel_rfl) rfl
theorem fd14_1 : FldT Try.prog 14 1 1 := FldT.mk' (n := 1) Try.underlying14 rfl rfl (by kernel_rfl) rfl
theorem sc15 : Scalar Try.prog 15 := Scalar.mk' Try.underlying15 rfl (by kernel_rfl)
theorem zt15 : ZeroT Try.prog 15 [.pointer none] := ZeroT.mk' (v := .pointer none) (by kernel_rfl) rfl
theorem sc16 : Scalar Try.prog 16 := Scalar.mk' Try.underlying16 rfl (by kernel_rfl)
theorem zt16 : ZeroT Try.prog 16 [.pointer none] := ZeroT.mk' (v := .pointer none) (by kernel_rfl) rfl
theorem sc17 : Scalar Try.prog 17 := Scalar.mk' Try.underlying17 rfl (by kernel_rfl)
theorem zt17 : ZeroT Try.prog 17 [.pointer none] := ZeroT.mk' (v := .pointer none) (by kernel_rfl) rfl
theorem ag18 : AggT Try.prog 18 1 := AggT.mk' Try.underlying18 rfl (by kernel_rfl)
theorem zt18 : ZeroT Try.prog 18 [.pointer none] := ZeroT.mk' (v := .agg #[.pointer none]) (by kernel_rfl) rfl
theorem fd18_0 : FldT Try.prog 18 0 0 := FldT.mk' (n := 1) Try.underlying18 rfl rfl (by kernel_rfl) rfl
theorem ag19 : AggT Try.prog 19 1 := AggT.mk' Try.underlying19 rfl (by kernel_rfl)
theorem zt19 : ZeroT Try.prog 19 [.pointer none] := ZeroT.mk' (v := .agg #[.pointer none]) (by kernel_rfl) rfl
theorem fd19_0 : FldT Try.prog 19 0 0 := FldT.mk' (n := 1) Try.underlying19 rfl rfl (by kernel_rfl) rfl
theorem sc20 : Scalar Try.prog 20 := Scalar.mk' Try.underlying20 rfl (by kernel_rfl)
theorem zt20 : ZeroT Try.prog 20 [.nilIface] := ZeroT.mk' (v := .nilIface) (by kernel_rfl) rfl
theorem sc21 : Scalar Try.prog 21 := Scalar.mk' Try.underlying21 rfl (by kernel_rfl)
theorem zt21 : ZeroT Try.prog 21 [.int .i32 0] := ZeroT.mk' (v := .int .i32 0) (by kernel_rfl) rfl
theorem sc22 : Scalar Try.prog 22 := Scalar.mk' Try.underlying22 rfl (by kernel_rfl)
theorem zt22 : ZeroT Try.prog 22 [.slice none 0 0] := ZeroT.mk' (v := .slice none 0 0) (by kernel_rfl) rfl
theorem sl22 : SlT Try.prog 22 38 19 := ⟨Try.underlying22, size_of_info (by kernel_rfl)⟩
theorem ag23 : AggT Try.prog 23 1 := AggT.mk' Try.underlying23 rfl (by kernel_rfl)
theorem zt23 : ZeroT Try.prog 23 [.slice none 0 0] := ZeroT.mk' (v := .agg #[.slice none 0 0]) (by kernel_rfl) rfl
theorem fd23_0 : FldT Try.prog 23 0 0 := FldT.mk' (n := 1) Try.underlying23 rfl rfl (by kernel_rfl) rfl
theorem ag24 : AggT Try.prog 24 1 := AggT.mk' Try.underlying24 rfl (by kernel_rfl)
theorem zt24 : ZeroT Try.prog 24 [.slice none 0 0] := ZeroT.mk' (v := .agg #[.slice none 0 0]) (by kernel_rfl) rfl
theorem fd24_0 : FldT Try.prog 24 0 0 := FldT.mk' (n := 1) Try.underlying24 rfl rfl (by kernel_rfl) rfl
theorem sc25 : Scalar Try.prog 25 := Scalar.mk' Try.underlying25 rfl (by kernel_rfl)
theorem zt25 : ZeroT Try.prog 25 [.nilFunc] := ZeroT.mk' (v := .nilFunc) (by kernel_rfl) rfl
theorem sc26 : Scalar Try.prog 26 := Scalar.mk' Try.underlying26 rfl (by kernel_rfl)
theorem zt26 : ZeroT Try.prog 26 [.nilFunc] := ZeroT.mk' (v := .nilFunc) (by kernel_rfl) rfl
theorem sc27 : Scalar Try.prog 27 := Scalar.mk' Try.underlying27 rfl (by kernel_rfl)
theorem zt27 : ZeroT Try.prog 27 [.int .i64 0] := ZeroT.mk' (v := .int .i64 0) (by kernel_rfl) rfl
theorem sc29 : Scalar Try.prog 29 := Scalar.mk' Try.underlying29 rfl (by kernel_rfl)
theorem zt29 : ZeroT Try.prog 29 [.nilFunc] := ZeroT.mk' (v := .nilFunc) (by kernel_rfl) rfl
theorem sc31 : Scalar Try.prog 31 := Scalar.mk' Try.underlying31 rfl (by kernel_rfl)
theorem zt31 : ZeroT Try.prog 31 [.nilFunc] := ZeroT.mk' (v := .nilFunc) (by kernel_rfl) rfl
theorem sc32 : Scalar Try.prog 32 := Scalar.mk' Try.underlying32 rfl (by kernel_rfl)
theorem zt32 : ZeroT Try.prog 32 [.nilFunc] := ZeroT.mk' (v := .nilFunc) (by kernel_rfl) rfl
theorem ag33 : AggT Try.prog 33 16 := AggT.mk' Try.underlying33 rfl (by kernel_rfl)
theorem zt33 : ZeroT Try.prog 33 [.int .u8 0, .int .u8 0, .int .u8 0, .int .u8 0, .int .u8 0, .int .u8 0, .int .u8 0, .int .u8 0, .int .u8 0, .int .u8 0, .int .u8 0, .int .u8 0, .int .u8 0, .int .u8 0, .int .u8 0, .int .u8 0] := ZeroT.mk' (v := .agg #[.int .u8 0, .int .u8 0, .int .u8 0, .int .u8 0, .int .u8 0, .int .u8 0, .int .u8 0, .int .u8 0, .int .u8 0, .int .u8 0, .int .u8 0, .int .u8 0, .int .u8 0, .int .u8 0, .int .u8 0, .int .u8 0]) (by kernel_rfl) rfl
theorem ag34 : AggT Try.prog 34 16 := AggT.mk' Try.underlying34 rfl (by kernel_rfl)
theorem zt34 : ZeroT Try.prog 34 [.int .u8 0, .int .u8 0, .int .u8 0, .int .u8 0, .int .u8 0, .int .u8 0, .int .u8 0, .int .u8 0, .int .u8 0, .int .u8 0, .int .u8 0, .int .u8 0, .int .u8 0, .int .u8 0, .int .u8 0, .int .u8 0] := ZeroT.mk' (v := .agg #[.int .u8 0, .int .u8 0, .int .u8 0, .int .u8 0, .int .u8 0, .int .u8 0, .int .u8 0, .int .u8 0, .int .u8 0, .int .u8 0, .int .u8 0, .int .u8 0, .int .u8 0, .int .u8 0, .int .u8 0, .int .u8 0]) (by kernel_rfl) rfl
theorem sc35 : Scalar Try.prog 35 := Scalar.mk' Try.underlying35 rfl (by kernel_rfl)
theorem zt35 : ZeroT Try.prog 35 [.slice none 0 0] := ZeroT.mk' (v := .slice none 0 0) (by kernel_rfl) rfl
theorem sl35 : SlT Try.prog 35 72 17 := ⟨Try.underlying35, size_of_info (by kernel_rfl)⟩
theorem sc36 : Scalar Try.prog 36 := Scalar.mk' Try.underlying36 rfl (by kernel_rfl)
theorem zt36 : ZeroT Try.prog 36 [.slice none 0 0] := ZeroT.mk' (v := .slice none 0 0) (by kernel_rfl) rfl
theorem sl36 : SlT Try.prog 36 56 1 := ⟨Try.underlying36, size_of_info (by kernel_rfl)⟩
theorem ag37 : AggT Try.prog 37 19 := AggT.mk' Try.underlying37 rfl (by kernel_rfl)
theorem zt37 : ZeroT Try.prog 37 [.int .u8 0, .int .u8 0, .int .u8 0, .int .u8 0, .int .u8 0, .int .u8 0, .int .u8 0, .int .u8 0, .int .u8 0, .int .u8 0, .int .u8 0, .int .u8 0, .int .u8 0, .int .u8 0, .int .u8 0, .int .u8 0, .slice none 0 0, .int .i64 0, .slice none 0 0] := ZeroT.mk' (v := .agg #[.int .u8 0, .int .u8 0, .int .u8 0, .int .u8 0, .int .u8 0, .int .u8 0, .int .u8 0, .int .u8 0, .int .u8 0, .int .u8 0, .int .u8 0, .int .u8 0, .int .u8 0, .int .u8 0, .int .u8 0, .int .u8 0, .slice none 0 0, .int .i64 0, .slice none 0 0]) (by kernel_rfl) rfl
theorem fd37_0 : FldT Try.prog 37 0 0 := FldT.mk' (n := 16) Try.underlying37 rfl rfl (by kernel_rfl) rfl
theorem fd37_1 : FldT Try.prog 37 1 16 := FldT.mk' (n := 1) Try.underlying37 rfl rfl (by kernel_rfl) rfl
theorem fd37_2 : FldT Try.prog 37 2 17 := FldT.mk' (n := 1) Try.underlying37 rfl rfl (by kernel_rfl) rfl
theorem fd37_3 : FldT Try.prog 37 3 18 := FldT.mk' (n := 1) Try.underlying37 rfl rfl (by kernel_rfl) rfl
theorem ag38 : AggT Try.prog 38 19 := AggT.mk' Try.underlying38 rfl (by kernel_rfl)
theorem zt38 : ZeroT Try.prog 38 [.int .u8 0, .int .u8 0, .int .u8 0, .int .u8 0, .int .u8 0, .int .u8 0, .int .u8 0, .int .u8 0, .int .u8 0, .int .u8 0, .int .u8 0, .int .u8 0, .int .u8 0, .int .u8 0, .int .u8 0, .int .u8 0, .slice none 0 0, .int .i64 0, .slice none 0 0] := ZeroT.mk' (v := .agg #[.int .u8 0, .int .u8 0, .int .u8 0, .int .u8 0, .int .u8 0, .int .u8 0, .int .u8 0, .int .u8 0, .int .u8 0, .int .u8 0, .int .u8 0, .int .u8 0, .int .u8 0, .int .u8 0, .int .u8 0, .int .u8 0, .slice none 0 0, .int .i64 0, .slice none 0 0]) (by kernel_rfl) rfl
theorem fd38_0 : FldT Try.prog 38 0 0 := FldT.mk' (n := 16) Try.underlying38 rfl rfl (by kernel_rfl) rfl
theorem fd38_1 : FldT Try.prog 38 1 16 := FldT.mk' (n := 1) Try.underlying38 rfl rfl (by kernel_rfl) rfl
theorem fd38_2 : FldT Try.prog 38 2 17 := FldT.mk' (n := 1) Try.underlying38 rfl rfl (by kernel_rfl) rfl
theorem fd38_3 : FldT Try.prog 38 3 18 := FldT.mk' (n := 1) Try.underlying38 rfl rfl (by kernel_rfl) rfl
theorem sc39 : Scalar Try.prog 39 := Scalar.mk' Try.underlying39 rfl (by kernel_rfl)
theorem zt39 : ZeroT Try.prog 39 [.nilFunc] := ZeroT.mk' (v := .nilFunc) (by kernel_rfl) rfl
theorem sc40 : Scalar Try.prog 40 := Scalar.mk' Try.underlying40 rfl (by kernel_rfl)
theorem zt40 : ZeroT Try.prog 40 [.slice none 0 0] := ZeroT.mk' (v := .slice none 0 0) (by kernel_rfl) rfl
theorem sl40 : SlT Try.prog 40 5 1 := ⟨Try.underlying40, size_of_info (by kernel_rfl)⟩
theorem sc42 : Scalar Try.prog 42 := Scalar.mk' Try.underlying42 rfl (by kernel_rfl)
theorem zt42 : ZeroT Try.prog 42 [.nilFunc] := ZeroT.mk' (v := .nilFunc) (by kernel_rfl) rfl
theorem sc43 : Scalar Try.prog 43 := Scalar.mk' Try.underlying43 rfl (by kernel_rfl)
theorem zt43 : ZeroT Try.prog 43 [.nilFunc] := ZeroT.mk' (v := .nilFunc) (by kernel_rfl) rfl
theorem sc44 : Scalar Try.prog 44 := Scalar.mk' Try.underlying44 rfl (by kernel_rfl)
theorem zt44 : ZeroT Try.prog 44 [.nilFunc] := ZeroT.mk' (v := .nilFunc) (by kernel_rfl) rfl
theorem sc45 : Scalar Try.prog 45 := Scalar.mk' Try.underlying45 rfl (by kernel_rfl)
theorem zt45 : ZeroT Try.prog 45 [.nilFunc] := ZeroT.mk' (v := .nilFunc) (by kernel_rfl) rfl
theorem sc47 : Scalar Try.prog 47 := Scalar.mk' Try.underlying47 rfl (by kernel_rfl)
theorem zt47 : ZeroT Try.prog 47 [.nilFunc] := ZeroT.mk' (v := .nilFunc) (by kernel_rfl) rfl
theorem sc49 : Scalar Try.prog 49 := Scalar.mk' Try.underlying49 rfl (by kernel_rfl)
theorem zt49 : ZeroT Try.prog 49 [.nilFunc] := ZeroT.mk' (v := .nilFunc) (by kernel_rfl) rfl
theorem sc50 : Scalar Try.prog 50 := Scalar.mk' Try.underlying50 rfl (by kernel_rfl)
theorem zt50 : ZeroT Try.prog 50 [.nilFunc] := ZeroT.mk' (v := .nilFunc) (by kernel_rfl) rfl
theorem sc51 : Scalar Try.prog 51 := Scalar.mk' Try.underlying51 rfl (by kernel_rfl)
theorem zt51 : ZeroT Try.prog 51 [.nilFunc] := ZeroT.mk' (v := .nilFunc) (by kernel_rfl) rfl
theorem sc52 : Scalar Try.prog 52 := Scalar.mk' Try.underlying52 rfl (by kernel_rfl)
theorem zt52 : ZeroT Try.prog 52 [.nilFunc] := ZeroT.mk' (v := .nilFunc) (by kernel_rfl) rfl
theorem sc53 : Scalar Try.prog 53 := Scalar.mk' Try.underlying53 rfl (by kernel_rfl)
theorem zt53 : ZeroT Try.prog 53 [.nilFunc] := ZeroT.mk' (v := .nilFunc) (by kernel_rfl) rfl
theorem sc54 : Scalar Try.prog 54 := Scalar.mk' Try.underlying54 rfl (by kernel_rfl)
theorem zt54 : ZeroT Try.prog 54 [.nilFunc] := ZeroT.mk' (v := .nilFunc) (by kernel_rfl) rfl
theorem sc55 : Scalar Try.prog 55 := Scalar.mk' Try.underlying55 rfl (by kernel_rfl)
theorem zt55 : ZeroT Try.prog 55 [.nilFunc] := ZeroT.mk' (v := .nilFunc) (by kernel_rfl) rfl
theorem sc56 : Scalar Try.prog 56 := Scalar.mk' Try.underlying56 rfl (by kernel_rfl)
theorem zt56 : ZeroT Try.prog 56 [.slice none 0 0] := ZeroT.mk' (v := .slice none 0 0) (by kernel_rfl) rfl
theorem sl56 : SlT Try.prog 56 61 3 := ⟨Try.underlying56, size_of_info (by kernel_rfl)⟩
theorem sc58 : Scalar Try.prog 58 := Scalar.mk' Try.underlying58 rfl (by kernel_rfl)
theorem zt58 : ZeroT Try.prog 58 [.nilFunc] := ZeroT.mk' (v := .nilFunc) (by kernel_rfl) rfl
theorem sc59 : Scalar Try.prog 59 := Scalar.mk' Try.underlying59 rfl (by kernel_rfl)
theorem zt59 : ZeroT Try.prog 59 [.nilFunc] := ZeroT.mk' (v := .nilFunc) (by kernel_rfl) rfl
theorem ag60 : AggT Try.prog 60 3 := AggT.mk' Try.underlying60 rfl (by kernel_rfl)
theorem zt60 : ZeroT Try.prog 60 [.int .i64 0, .int .i64 0, .int .i64 0] := ZeroT.mk' (v := .agg #[.int .i64 0, .int .i64 0, .int .i64 0]) (by kernel_rfl) rfl
theorem fd60_0 : FldT Try.prog 60 0 0 := FldT.mk' (n := 1) Try.underlying60 rfl rfl (by kernel_rfl) rfl
theorem fd60_1 : FldT Try.prog 60 1 1 := FldT.mk' (n := 1) Try.underlying60 rfl rfl (by kernel_rfl) rfl
theorem fd60_2 : FldT Try.prog 60 2 2 := FldT.mk' (n := 1) Try.underlying60 rfl rfl (by kernel_rfl) rfl
theorem ag61 : AggT Try.prog 61 3 := AggT.mk' Try.underlying61 rfl (by kernel_rfl)
theorem zt61 : ZeroT Try.prog 61 [.int .i64 0, .int .i64 0, .int .i64 0] := ZeroT.mk' (v := .agg #[.int .i64 0, .int .i64 0, .int .i64 0]) (by kernel_rfl) rfl
theorem fd61_0 : FldT Try.prog 61 0 0 := FldT.mk' (n := 1) Try.underlying61 rfl rfl (by kernel_rfl) rfl
theorem fd61_1 : FldT Try.prog 61 1 1 := FldT.mk' (n := 1) Try.underlying61 rfl rfl (by kernel_rfl) rfl
theorem fd61_2 : FldT Try.prog 61 2 2 := FldT.mk' (n := 1) Try.underlying61 rfl rfl (by kernel_rfl) rfl
theorem sc62 : Scalar Try.prog 62 := Scalar.mk' Try.underlying62 rfl (by kernel_rfl)
theorem zt62 : ZeroT Try.prog 62 [.nilFunc] := ZeroT.mk' (v := .nilFunc) (by kernel_rfl) rfl
theorem sc63 : Scalar Try.prog 63 := Scalar.mk' Try.underlying63 rfl (by kernel_rfl)
theorem zt63 : ZeroT Try.prog 63 [.nilFunc] := ZeroT.mk' (v := .nilFunc) (by kernel_rfl) rfl
theorem sc64 : Scalar Try.prog 64 := Scalar.mk' Try.underlying64 rfl (by kernel_rfl)
theorem zt64 : ZeroT Try.prog 64 [.nilFunc] := ZeroT.mk' (v := .nilFunc) (by kernel_rfl) rfl
theorem sc66 : Scalar Try.prog 66 := Scalar.mk' Try.underlying66 rfl (by kernel_rfl)
theorem zt66 : ZeroT Try.prog 66 [.nilFunc] := ZeroT.mk' (v := .nilFunc) (by kernel_rfl) rfl
theorem sc67 : Scalar Try.prog 67 := Scalar.mk' Try.underlying67 rfl (by kernel_rfl)
theorem zt67 : ZeroT Try.prog 67 [.nilFunc] := ZeroT.mk' (v := .nilFunc) (by kernel_rfl) rfl
theorem sc68 : Scalar Try.prog 68 := Scalar.mk' Try.underlying68 rfl (by kernel_rfl)
theorem zt68 : ZeroT Try.prog 68 [.slice none 0 0] := ZeroT.mk' (v := .slice none 0 0) (by kernel_rfl) rfl
theorem sl68 : SlT Try.prog 68 3 1 := ⟨Try.underlying68, size_of_info (by kernel_rfl)⟩
theorem sc70 : Scalar Try.prog 70 := Scalar.mk' Try.underlying70 rfl (by kernel_rfl)
theorem zt70 : ZeroT Try.prog 70 [.nilFunc] := ZeroT.mk' (v := .nilFunc) (by kernel_rfl) rfl
theorem ag71 : AggT Try.prog 71 17 := AggT.mk' Try.underlying71 rfl (by kernel_rfl)
theorem zt71 : ZeroT Try.prog 71 [.int .u8 0, .int .u8 0, .int .u8 0, .int .u8 0, .int .u8 0, .int .u8 0, .int .u8 0, .int .u8 0, .int .u8 0, .int .u8 0, .int .u8 0, .int .u8 0, .int .u8 0, .int .u8 0, .int .u8 0, .int .u8 0, .int .i64 0] := ZeroT.mk' (v := .agg #[.int .u8 0, .int .u8 0, .int .u8 0, .int .u8 0, .int .u8 0, .int .u8 0, .int .u8 0, .int .u8 0, .int .u8 0, .int .u8 0, .int .u8 0, .int .u8 0, .int .u8 0, .int .u8 0, .int .u8 0, .int .u8 0, .int .i64 0]) (by kernel_rfl) rfl
theorem fd71_0 : FldT Try.prog 71 0 0 := FldT.mk' (n := 16) Try.underlying71 rfl rfl (by kernel_rfl) rfl
theorem fd71_1 : FldT Try.prog 71 1 16 := FldT.mk' (n := 1) Try.underlying71 rfl rfl (by kernel_rfl) rfl
theorem ag72 : AggT Try.prog 72 17 := AggT.mk' Try.underlying72 rfl (by kernel_rfl)
theorem zt72 : ZeroT Try.prog 72 [.int .u8 0, .int .u8 0, .int .u8 0, .int .u8 0, .int .u8 0, .int .u8 0, .int .u8 0, .int .u8 0, .int .u8 0, .int .u8 0, .int .u8 0, .int .u8 0, .int .u8 0, .int .u8 0, .int .u8 0, .int .u8 0, .int .i64 0] := ZeroT.mk' (v := .agg #[.int .u8 0, .int .u8 0, .int .u8 0, .int .u8 0, .int .u8 0, .int .u8 0, .int .u8 0, .int .u8 0, .int .u8 0, .int .u8 0, .int .u8 0, .int .u8 0, .int .u8 0, .int .u8 0, .int .u8 0, .int .u8 0, .int .i64 0]) (by kernel_rfl) rfl
theorem fd72_0 : FldT Try.prog 72 0 0 := FldT.mk' (n := 16) Try.underlying72 rfl rfl (by kernel_rfl) rfl
theorem fd72_1 : FldT Try.prog 72 1 16 := FldT.mk' (n := 1) Try.underlying72 rfl rfl (by kernel_rfl) rfl
theorem sc73 : Scalar Try.prog 73 := Scalar.mk' Try.underlying73 rfl (by kernel_rfl)
theorem zt73 : ZeroT Try.prog 73 [.int .u32 0] := ZeroT.mk' (v := .int .u32 0) (by kernel_rfl) rfl
theorem sc74 : Scalar Try.prog 74 := Scalar.mk' Try.underlying74 rfl (by kernel_rfl)
theorem zt74 : ZeroT Try.prog 74 [.nilFunc] := ZeroT.mk' (v := .nilFunc) (by kernel_rfl) rfl
theorem sc75 : Scalar Try.prog 75 := Scalar.mk' Try.underlying75 rfl (by kernel_rfl)
theorem zt75 : ZeroT Try.prog 75 [.int .u64 0] := ZeroT.mk' (v := .int .u64 0) (by kernel_rfl) rfl
theorem sc76 : Scalar Try.prog 76 := Scalar.mk' Try.underlying76 rfl (by kernel_rfl)
theorem zt76 : ZeroT Try.prog 76 [.nilFunc] := ZeroT.mk' (v := .nilFunc) (by kernel_rfl) rfl
theorem sc77 : Scalar Try.prog 77 := Scalar.mk' Try.underlying77 rfl (by kernel_rfl)
theorem zt77 : ZeroT Try.prog 77 [.nilFunc] := ZeroT.mk' (v := .nilFunc) (by kernel_rfl) rfl
theorem sc78 : Scalar Try.prog 78 := Scalar.mk' Try.underlying78 rfl (by kernel_rfl)
theorem zt78 : ZeroT Try.prog 78 [.nilFunc] := ZeroT.mk' (v := .nilFunc) (by kernel_rfl) rfl
theorem sc79 : Scalar Try.prog 79 := Scalar.mk' Try.underlying79 rfl (by kernel_rfl)
theorem zt79 : ZeroT Try.prog 79 [.nilFunc] := ZeroT.mk' (v := .nilFunc) (by kernel_rfl) rfl
theorem sc80 : Scalar Try.prog 80 := Scalar.mk' Try.underlying80 rfl (by kernel_rfl)
theorem zt80 : ZeroT Try.prog 80 [.nilFunc] := ZeroT.mk' (v := .nilFunc) (by kernel_rfl) rfl
theorem sc81 : Scalar Try.prog 81 := Scalar.mk' Try.underlying81 rfl (by kernel_rfl)
theorem zt81 : ZeroT Try.prog 81 [.nilFunc] := ZeroT.mk' (v := .nilFunc) (by kernel_rfl) rfl
theorem sc82 : Scalar Try.prog 82 := Scalar.mk' Try.underlying82 rfl (by kernel_rfl)
theorem zt82 : ZeroT Try.prog 82 [.nilFunc] := ZeroT.mk' (v := .nilFunc) (by kernel_rfl) rfl
theorem sc83 : Scalar Try.prog 83 := Scalar.mk' Try.underlying83 rfl (by kernel_rfl)
theorem zt83 : ZeroT Try.prog 83 [.nilFunc] := ZeroT.mk' (v := .nilFunc) (by kernel_rfl) rfl
theorem sc84 : Scalar Try.prog 84 := Scalar.mk' Try.underlying84 rfl (by kernel_rfl)
theorem zt84 : ZeroT Try.prog 84 [.nilFunc] := ZeroT.mk' (v := .nilFunc) (by kernel_rfl) rfl
theorem sc86 : Scalar Try.prog 86 := Scalar.mk' Try.underlying86 rfl (by kernel_rfl)
theorem zt86 : ZeroT Try.prog 86 [.nilFunc] := ZeroT.mk' (v := .nilFunc) (by kernel_rfl) rfl
theorem sc90 : Scalar Try.prog 90 := Scalar.mk' Try.underlying90 rfl (by kernel_rfl)
theorem zt90 : ZeroT Try.prog 90 [.pointer none] := ZeroT.mk' (v := .pointer none) (by kernel_rfl) rfl
theorem ag91 : AggT Try.prog 91 1 := AggT.mk' Try.underlying91 rfl (by kernel_rfl)
theorem zt91 : ZeroT Try.prog 91 [.slice none 0 0] := ZeroT.mk' (v := .agg #[.slice none 0 0]) (by kernel_rfl) rfl
theorem fd91_0 : FldT Try.prog 91 0 0 := FldT.mk' (n := 1) Try.underlying91 rfl rfl (by kernel_rfl) rfl
theorem ag92 : AggT Try.prog 92 1 := AggT.mk' Try.underlying92 rfl (by kernel_rfl)
theorem zt92 : ZeroT Try.prog 92 [.slice none 0 0] := ZeroT.mk' (v := .agg #[.slice none 0 0]) (by kernel_rfl) rfl
theorem fd92_0 : FldT Try.prog 92 0 0 := FldT.mk' (n := 1) Try.underlying92 rfl rfl (by kernel_rfl) rfl
theorem sc93 : Scalar Try.prog 93 := Scalar.mk' Try.underlying93 rfl (by kernel_rfl)
theorem zt93 : ZeroT Try.prog 93 [.nilFunc] := ZeroT.mk' (v := .nilFunc) (by kernel_rfl) rfl
theorem sc94 : Scalar Try.prog 94 := Scalar.mk' Try.underlying94 rfl (by kernel_rfl)
theorem zt94 : ZeroT Try.prog 94 [.nilFunc] := ZeroT.mk' (v := .nilFunc) (by kernel_rfl) rfl
theorem sc95 : Scalar Try.prog 95 := Scalar.mk' Try.underlying95 rfl (by kernel_rfl)
theorem zt95 : ZeroT Try.prog 95 [.nilFunc] := ZeroT.mk' (v := .nilFunc) (by kernel_rfl) rfl
theorem sc96 : Scalar Try.prog 96 := Scalar.mk' Try.underlying96 rfl (by kernel_rfl)
theorem zt96 : ZeroT Try.prog 96 [.nilFunc] := ZeroT.mk' (v := .nilFunc) (by kernel_rfl) rfl
theorem sc97 : Scalar Try.prog 97 := Scalar.mk' Try.underlying97 rfl (by kernel_rfl)
theorem zt97 : ZeroT Try.prog 97 [.nilFunc] := ZeroT.mk' (v := .nilFunc) (by kernel_rfl) rfl
theorem ag98 : AggT Try.prog 98 4 := AggT.mk' Try.underlying98 rfl (by kernel_rfl)
theorem zt98 : ZeroT Try.prog 98 [.pointer none, .pointer none, .pointer none, .string ByteArray.empty] := ZeroT.mk' (v := .agg #[.pointer none, .pointer none, .pointer none, .string ByteArray.empty]) (by kernel_rfl) rfl
theorem fd98_0 : FldT Try.prog 98 0 0 := FldT.mk' (n := 1) Try.underlying98 rfl rfl (by kernel_rfl) rfl
theorem fd98_1 : FldT Try.prog 98 1 1 := FldT.mk' (n := 1) Try.underlying98 rfl rfl (by kernel_rfl) rfl
theorem fd98_2 : FldT Try.prog 98 2 2 := FldT.mk' (n := 1) Try.underlying98 rfl rfl (by kernel_rfl) rfl
theorem fd98_3 : FldT Try.prog 98 3 3 := FldT.mk' (n := 1) Try.underlying98 rfl rfl (by kernel_rfl) rfl
theorem ag99 : AggT Try.prog 99 4 := AggT.mk' Try.underlying99 rfl (by kernel_rfl)
theorem zt99 : ZeroT Try.prog 99 [.pointer none, .pointer none, .pointer none, .string ByteArray.empty] := ZeroT.mk' (v := .agg #[.pointer none, .pointer none, .pointer none, .string ByteArray.empty]) (by kernel_rfl) rfl
theorem fd99_0 : FldT Try.prog 99 0 0 := FldT.mk' (n := 1) Try.underlying99 rfl rfl (by kernel_rfl) rfl
theorem fd99_1 : FldT Try.prog 99 1 1 := FldT.mk' (n := 1) Try.underlying99 rfl rfl (by kernel_rfl) rfl
theorem fd99_2 : FldT Try.prog 99 2 2 := FldT.mk' (n := 1) Try.underlying99 rfl rfl (by kernel_rfl) rfl
theorem fd99_3 : FldT Try.prog 99 3 3 := FldT.mk' (n := 1) Try.underlying99 rfl rfl (by kernel_rfl) rfl
theorem sc103 : Scalar Try.prog 103 := Scalar.mk' Try.underlying103 rfl (by kernel_rfl)
theorem zt103 : ZeroT Try.prog 103 [.int .u8 0] := ZeroT.mk' (v := .int .u8 0) (by kernel_rfl) rfl
theorem sc104 : Scalar Try.prog 104 := Scalar.mk' Try.underlying104 rfl (by kernel_rfl)
theorem zt104 : ZeroT Try.prog 104 [.int .u8 0] := ZeroT.mk' (v := .int .u8 0) (by kernel_rfl) rfl
theorem sc105 : Scalar Try.prog 105 := Scalar.mk' Try.underlying105 rfl (by kernel_rfl)
theorem zt105 : ZeroT Try.prog 105 [.nilFunc] := ZeroT.mk' (v := .nilFunc) (by kernel_rfl) rfl
theorem sc106 : Scalar Try.prog 106 := Scalar.mk' Try.underlying106 rfl (by kernel_rfl)
theorem zt106 : ZeroT Try.prog 106 [.pointer none] := ZeroT.mk' (v := .pointer none) (by kernel_rfl) rfl
theorem sc107 : Scalar Try.prog 107 := Scalar.mk' Try.underlying107 rfl (by kernel_rfl)
theorem zt107 : ZeroT Try.prog 107 [.int .i32 0] := ZeroT.mk' (v := .int .i32 0) (by kernel_rfl) rfl
theorem sc108 : Scalar Try.prog 108 := Scalar.mk' Try.underlying108 rfl (by kernel_rfl)
theorem zt108 : ZeroT Try.prog 108 [.int .i32 0] := ZeroT.mk' (v := .int .i32 0) (by kernel_rfl) rfl
theorem ag109 : AggT Try.prog 109 11 := AggT.mk' Try.underlying109 rfl (by kernel_rfl)
theorem zt109 : ZeroT Try.prog 109 [.int .u64 0, .int .u64 0, .int .u32 0, .int .u8 0, .int .u8 0, .int .u8 0, .int .u8 0, .nilFunc, .pointer none, .int .i32 0, .int .i32 0] := ZeroT.mk' (v := .agg #[.int .u64 0, .int .u64 0, .int .u32 0, .int .u8 0, .int .u8 0, .int .u8 0, .int .u8 0, .nilFunc, .pointer none, .int .i32 0, .int .i32 0]) (by kernel_rfl) rfl
theorem fd109_0 : FldT Try.prog 109 0 0 := FldT.mk' (n := 1) Try.underlying109 rfl rfl (by kernel_rfl) rfl
theorem fd109_1 : FldT Try.prog 109 1 1 := FldT.mk' (n := 1) Try.underlying109 rfl rfl (by kernel_rfl) rfl
theorem fd109_2 : FldT Try.prog 109 2 2 := FldT.mk' (n := 1) Try.underlying109 rfl rfl (by kernel_rfl) rfl
theorem fd109_3 : FldT Try.prog 109 3 3 := FldT.mk' (n := 1) Try.underlying109 rfl rfl (by kernel_rfl) rfl
theorem fd109_4 : FldT Try.prog 109 4 4 := FldT.mk' (n := 1) Try.underlying109 rfl rfl (by kernel_rfl) rfl
theorem fd109_5 : FldT Try.prog 109 5 5 := FldT.mk' (n := 1) Try.underlying109 rfl rfl (by kernel_rfl) rfl
theorem fd109_6 : FldT Try.prog 109 6 6 := FldT.mk' (n := 1) Try.underlying109 rfl rfl (by kernel_rfl) rfl
theorem fd109_7 : FldT Try.prog 109 7 7 := FldT.mk' (n := 1) Try.underlying109 rfl rfl (by kernel_rfl) rfl
theorem fd109_8 : FldT Try.prog 109 8 8 := FldT.mk' (n := 1) Try.underlying109 rfl rfl (by kernel_rfl) rfl
theorem fd109_9 : FldT Try.prog 109 9 9 := FldT.mk' (n := 1) Try.underlying109 rfl rfl (by kernel_rfl) rfl
theorem fd109_10 : FldT Try.prog 109 10 10 := FldT.mk' (n := 1) Try.underlying109 rfl rfl (by kernel_rfl) rfl
theorem ag110 : AggT Try.prog 110 11 := AggT.mk' Try.underlying110 rfl (by kernel_rfl)
theorem zt110 : ZeroT Try.prog 110 [.int .u64 0, .int .u64 0, .int .u32 0, .int .u8 0, .int .u8 0, .int .u8 0, .int .u8 0, .nilFunc, .pointer none, .int .i32 0, .int .i32 0] := ZeroT.mk' (v := .agg #[.int .u64 0, .int .u64 0, .int .u32 0, .int .u8 0, .int .u8 0, .int .u8 0, .int .u8 0, .nilFunc, .pointer none, .int .i32 0, .int .i32 0]) (by kernel_rfl) rfl
theorem fd110_0 : FldT Try.prog 110 0 0 := FldT.mk' (n := 1) Try.underlying110 rfl rfl (by kernel_rfl) rfl
theorem fd110_1 : FldT Try.prog 110 1 1 := FldT.mk' (n := 1) Try.underlying110 rfl rfl (by kernel_rfl) rfl
theorem fd110_2 : FldT Try.prog 110 2 2 := FldT.mk' (n := 1) Try.underlying110 rfl rfl (by kernel_rfl) rfl
theorem fd110_3 : FldT Try.prog 110 3 3 := FldT.mk' (n := 1) Try.underlying110 rfl rfl (by kernel_rfl) rfl
theorem fd110_4 : FldT Try.prog 110 4 4 := FldT.mk' (n := 1) Try.underlying110 rfl rfl (by kernel_rfl) rfl
theorem fd110_5 : FldT Try.prog 110 5 5 := FldT.mk' (n := 1) Try.underlying110 rfl rfl (by kernel_rfl) rfl
theorem fd110_6 : FldT Try.prog 110 6 6 := FldT.mk' (n := 1) Try.underlying110 rfl rfl (by kernel_rfl) rfl
theorem fd110_7 : FldT Try.prog 110 7 7 := FldT.mk' (n := 1) Try.underlying110 rfl rfl (by kernel_rfl) rfl
theorem fd110_8 : FldT Try.prog 110 8 8 := FldT.mk' (n := 1) Try.underlying110 rfl rfl (by kernel_rfl) rfl
theorem fd110_9 : FldT Try.prog 110 9 9 := FldT.mk' (n := 1) Try.underlying110 rfl rfl (by kernel_rfl) rfl
theorem fd110_10 : FldT Try.prog 110 10 10 := FldT.mk' (n := 1) Try.underlying110 rfl rfl (by kernel_rfl) rfl
theorem sc111 : Scalar Try.prog 111 := Scalar.mk' Try.underlying111 rfl (by kernel_rfl)
theorem zt111 : ZeroT Try.prog 111 [.pointer none] := ZeroT.mk' (v := .pointer none) (by kernel_rfl) rfl
theorem en3 : ∀ args w, (callFunc 3 args).run Try.prog w = .ok (.enter 3 args) w := enters_of Try.func3 (by kernel_rfl) rfl
theorem en4 : ∀ args w, (callFunc 4 args).run Try.prog w = .ok (.enter 4 args) w := enters_of Try.func4 (by kernel_rfl) rfl
theorem en5 : ∀ args w, (callFunc 5 args).run Try.prog w = .ok (.enter 5 args) w := enters_of Try.func5 (by kernel_rfl) rfl
theorem en6 : ∀ args w, (callFunc 6 args).run Try.prog w = .ok (.enter 6 args) w := enters_of Try.func6 (by kernel_rfl) rfl
theorem en7 : ∀ args w, (callFunc 7 args).run Try.prog w = .ok (.enter 7 args) w := enters_of Try.func7 (by kernel_rfl) rfl
theorem en8 : ∀ args w, (callFunc 8 args).run Try.prog w = .ok (.enter 8 args) w := enters_of Try.func8 (by kernel_rfl) rfl
theorem en9 : ∀ args w, (callFunc 9 args).run Try.prog w = .ok (.enter 9 args) w := enters_of Try.func9 (by kernel_rfl) rfl
theorem en10 : ∀ args w, (callFunc 10 args).run Try.prog w = .ok (.enter 10 args) w := enters_of Try.func10 (by kernel_rfl) rfl
theorem en11 : ∀ args w, (callFunc 11 args).run Try.prog w = .ok (.enter 11 args) w := enters_of Try.func11 (by kernel_rfl) rfl
theorem en12 : ∀ args w, (callFunc 12 args).run Try.prog w = .ok (.enter 12 args) w := enters_of Try.func12 (by kernel_rfl) rfl
theorem en13 : ∀ args w, (callFunc 13 args).run Try.prog w = .ok (.enter 13 args) w := enters_of Try.func13 (by kernel_rfl) rfl
theorem en14 : ∀ args w, (callFunc 14 args).run Try.prog w = .ok (.enter 14 args) w := enters_of Try.func14 (by kernel_rfl) rfl
theorem en15 : ∀ args w, (callFunc 15 args).run Try.prog w = .ok (.enter 15 args) w := enters_of Try.func15 (by kernel_rfl) rfl
theorem en16 : ∀ args w, (callFunc 16 args).run Try.prog w = .ok (.enter 16 args) w := enters_of Try.func16 (by kernel_rfl) rfl
theorem en17 : ∀ args w, (callFunc 17 args).run Try.prog w = .ok (.enter 17 args) w := enters_of Try.func17 (by kernel_rfl) rfl
theorem en18 : ∀ args w, (callFunc 18 args).run Try.prog w = .ok (.enter 18 args) w := enters_of Try.func18 (by kernel_rfl) rfl
theorem en19 : ∀ args w, (callFunc 19 args).run Try.prog w = .ok (.enter 19 args) w := enters_of Try.func19 (by kernel_rfl) rfl
theorem en20 : ∀ args w, (callFunc 20 args).run Try.prog w = .ok (.enter 20 args) w := enters_of Try.func20 (by kernel_rfl) rfl
theorem en21 : ∀ args w, (callFunc 21 args).run Try.prog w = .ok (.enter 21 args) w := enters_of Try.func21 (by kernel_rfl) rfl
theorem en22 : ∀ args w, (callFunc 22 args).run Try.prog w = .ok (.enter 22 args) w := enters_of Try.func22 (by kernel_rfl) rfl
theorem en23 : ∀ args w, (callFunc 23 args).run Try.prog w = .ok (.enter 23 args) w := enters_of Try.func23 (by kernel_rfl) rfl
theorem en24 : ∀ args w, (callFunc 24 args).run Try.prog w = .ok (.enter 24 args) w := enters_of Try.func24 (by kernel_rfl) rfl
theorem en25 : ∀ args w, (callFunc 25 args).run Try.prog w = .ok (.enter 25 args) w := enters_of Try.func25 (by kernel_rfl) rfl
theorem en26 : ∀ args w, (callFunc 26 args).run Try.prog w = .ok (.enter 26 args) w := enters_of Try.func26 (by kernel_rfl) rfl
theorem en27 : ∀ args w, (callFunc 27 args).run Try.prog w = .ok (.enter 27 args) w := enters_of Try.func27 (by kernel_rfl) rfl
theorem en28 : ∀ args w, (callFunc 28 args).run Try.prog w = .ok (.enter 28 args) w := enters_of Try.func28 (by kernel_rfl) rfl
theorem en29 : ∀ args w, (callFunc 29 args).run Try.prog w = .ok (.enter 29 args) w := enters_of Try.func29 (by kernel_rfl) rfl
theorem en30 : ∀ args w, (callFunc 30 args).run Try.prog w = .ok (.enter 30 args) w := enters_of Try.func30 (by kernel_rfl) rfl
theorem en31 : ∀ args w, (callFunc 31 args).run Try.prog w = .ok (.enter 31 args) w := enters_of Try.func31 (by kernel_rfl) rfl
theorem en32 : ∀ args w, (callFunc 32 args).run Try.prog w = .ok (.enter 32 args) w := enters_of Try.func32 (by kernel_rfl) rfl
theorem en33 : ∀ args w, (callFunc 33 args).run Try.prog w = .ok (.enter 33 args) w := enters_of Try.func33 (by kernel_rfl) rfl
theorem en34 : ∀ args w, (callFunc 34 args).run Try.prog w = .ok (.enter 34 args) w := enters_of Try.func34 (by kernel_rfl) rfl
theorem en35 : ∀ args w, (callFunc 35 args).run Try.prog w = .ok (.enter 35 args) w := enters_of Try.func35 (by kernel_rfl) rfl
theorem en36 : ∀ args w, (callFunc 36 args).run Try.prog w = .ok (.enter 36 args) w := enters_of Try.func36 (by kernel_rfl) rfl
theorem en37 : ∀ args w, (callFunc 37 args).run Try.prog w = .ok (.enter 37 args) w := enters_of Try.func37 (by kernel_rfl) rfl
theorem en38 : ∀ args w, (callFunc 38 args).run Try.prog w = .ok (.enter 38 args) w := enters_of Try.func38 (by kernel_rfl) rfl
theorem en39 : ∀ args w, (callFunc 39 args).run Try.prog w = .ok (.enter 39 args) w := enters_of Try.func39 (by kernel_rfl) rfl
theorem en40 : ∀ args w, (callFunc 40 args).run Try.prog w = .ok (.enter 40 args) w := enters_of Try.func40 (by kernel_rfl) rfl
theorem en41 : ∀ args w, (callFunc 41 args).run Try.prog w = .ok (.enter 41 args) w := enters_of Try.func41 (by kernel_rfl) rfl
theorem en42 : ∀ args w, (callFunc 42 args).run Try.prog w = .ok (.enter 42 args) w := enters_of Try.func42 (by kernel_rfl) rfl
theorem en43 : ∀ args w, (callFunc 43 args).run Try.prog w = .ok (.enter 43 args) w := enters_of Try.func43 (by kernel_rfl) rfl
theorem en44 : ∀ args w, (callFunc 44 args).run Try.prog w = .ok (.enter 44 args) w := enters_of Try.func44 (by kernel_rfl) rfl
theorem en45 : ∀ args w, (callFunc 45 args).run Try.prog w = .ok (.enter 45 args) w := enters_of Try.func45 (by kernel_rfl) rfl
theorem en46 : ∀ args w, (callFunc 46 args).run Try.prog w = .ok (.enter 46 args) w := enters_of Try.func46 (by kernel_rfl) rfl
theorem en47 : ∀ args w, (callFunc 47 args).run Try.prog w = .ok (.enter 47 args) w := enters_of Try.func47 (by kernel_rfl) rfl
theorem en48 : ∀ args w, (callFunc 48 args).run Try.prog w = .ok (.enter 48 args) w := enters_of Try.func48 (by kernel_rfl) rfl
theorem en49 : ∀ args w, (callFunc 49 args).run Try.prog w = .ok (.enter 49 args) w := enters_of Try.func49 (by kernel_rfl) rfl
theorem en50 : ∀ args w, (callFunc 50 args).run Try.prog w = .ok (.enter 50 args) w := enters_of Try.func50 (by kernel_rfl) rfl
theorem en51 : ∀ args w, (callFunc 51 args).run Try.prog w = .ok (.enter 51 args) w := enters_of Try.func51 (by kernel_rfl) rfl
end Go.Proofs.Ytdnnnbjmjjdcfaa
