import Derived.Test.YtnebpklmbefmfaaSymOps
import Derived.Test.YtnebpklmbefmfaaProg
import Derived.KernelRfl
import Derived.Shelf.Abstract
/- What is known of the types and the functions of this translation, told one by one. Printed by a program of this session. -/
namespace Go.Proofs.Ytnebpklmbefmfaa
open Go.Shelf
theorem sc3 : Scalar Try.prog 3 := Scalar.mk' Try.underlying3 rfl (by kernel_rfl)
theorem zt3 : ZeroT Try.prog 3 [.int .i64 0] := ZeroT.mk' (v := .int .i64 0) (by kernel_rfl) rfl
theorem sc4 : Scalar Try.prog 4 := Scalar.mk' Try.underlying4 rfl (by kernel_rfl)
theorem zt4 : ZeroT Try.prog 4 [.bool false] := ZeroT.mk' (v := .bool false) (by kernel_rfl) rfl
theorem sc5 : Scalar Try.prog 5 := Scalar.mk' Try.underlying5 rfl (by kernel_rfl)
theorem zt5 : ZeroT Try.prog 5 [.int .u8 0] := ZeroT.mk' (v := .int .u8 0) (by kernel_rfl) rfl
theorem sl22 : SlT Try.prog 22 36 4 := ⟨Try.underlying22, size_of_info (by kernel_rfl)⟩
theorem sc24 : Scalar Try.prog 24 := Scalar.mk' Try.underlying24 rfl (by kernel_rfl)
theorem sc28 : Scalar Try.prog 28 := Scalar.mk' Try.underlying28 rfl (by kernel_rfl)
theorem zt28 : ZeroT Try.prog 28 [.slice none 0 0] := ZeroT.mk' (v := .slice none 0 0) (by kernel_rfl) rfl
theorem sl28 : SlT Try.prog 28 69 19 := ⟨Try.underlying28, size_of_info (by kernel_rfl)⟩
theorem ag30 : AggT Try.prog 30 1 := AggT.mk' Try.underlying30 rfl (by kernel_rfl)
theorem zt30 : ZeroT Try.prog 30 [.slice none 0 0] := ZeroT.mk' (v := .agg #[.slice none 0 0]) (by kernel_rfl) rfl
theorem fd30_0 : FldT Try.prog 30 0 0 := FldT.mk' (n := 1) Try.underlying30 rfl rfl (by kernel_rfl) rfl
theorem sl32 : SlT Try.prog 32 30 1 := ⟨Try.underlying32, size_of_info (by kernel_rfl)⟩
theorem ag33 : AggT Try.prog 33 3 := AggT.mk' Try.underlying33 rfl (by kernel_rfl)
theorem zt34 : ZeroT Try.prog 34 [.int .i64 0, .int .i64 0, .int .i64 0, .int .i64 0, .int .i64 0, .int .i64 0] := ZeroT.mk' (v := .agg #[.int .i64 0, .int .i64 0, .int .i64 0, .int .i64 0, .int .i64 0, .int .i64 0]) (by kernel_rfl) rfl
theorem ag36 : AggT Try.prog 36 4 := AggT.mk' Try.underlying36 rfl (by kernel_rfl)
theorem zt36 : ZeroT Try.prog 36 [.int .i64 0, .int .i64 0, .int .i64 0, .bool false] := ZeroT.mk' (v := .agg #[.int .i64 0, .int .i64 0, .int .i64 0, .bool false]) (by kernel_rfl) rfl
theorem fd36_0 : FldT Try.prog 36 0 0 := FldT.mk' (n := 1) Try.underlying36 rfl rfl (by kernel_rfl) rfl
theorem fd36_1 : FldT Try.prog 36 1 1 := FldT.mk' (n := 1) Try.underlying36 rfl rfl (by kernel_rfl) rfl
theorem fd36_2 : FldT Try.prog 36 2 2 := FldT.mk' (n := 1) Try.underlying36 rfl rfl (by kernel_rfl) rfl
theorem fd36_3 : FldT Try.prog 36 3 3 := FldT.mk' (n := 1) Try.underlying36 rfl rfl (by kernel_rfl) rfl
theorem sc38 : Scalar Try.prog 38 := Scalar.mk' Try.underlying38 rfl (by kernel_rfl)
theorem zt38 : ZeroT Try.prog 38 [.slice none 0 0] := ZeroT.mk' (v := .slice none 0 0) (by kernel_rfl) rfl
theorem sl38 : SlT Try.prog 38 3 1 := ⟨Try.underlying38, size_of_info (by kernel_rfl)⟩
theorem ag47 : AggT Try.prog 47 16 := AggT.mk' Try.underlying47 rfl (by kernel_rfl)
theorem sc55 : Scalar Try.prog 55 := Scalar.mk' Try.underlying55 rfl (by kernel_rfl)
theorem ag56 : AggT Try.prog 56 3 := AggT.mk' Try.underlying56 rfl (by kernel_rfl)
theorem ag58 : AggT Try.prog 58 6 := AggT.mk' Try.underlying58 rfl (by kernel_rfl)
theorem zt58 : ZeroT Try.prog 58 [.slice none 0 0, .bool false, .int .u32 0, .int .u32 0, .int .u32 0, .int .i64 0] := ZeroT.mk' (v := .agg #[.slice none 0 0, .bool false, .int .u32 0, .int .u32 0, .int .u32 0, .int .i64 0]) (by kernel_rfl) rfl
theorem fd58_0 : FldT Try.prog 58 0 0 := FldT.mk' (n := 1) Try.underlying58 rfl rfl (by kernel_rfl) rfl
theorem fd58_1 : FldT Try.prog 58 1 1 := FldT.mk' (n := 1) Try.underlying58 rfl rfl (by kernel_rfl) rfl
theorem fd58_2 : FldT Try.prog 58 2 2 := FldT.mk' (n := 3) Try.underlying58 rfl rfl (by kernel_rfl) rfl
theorem fd58_3 : FldT Try.prog 58 3 5 := FldT.mk' (n := 1) Try.underlying58 rfl rfl (by kernel_rfl) rfl
theorem sc59 : Scalar Try.prog 59 := Scalar.mk' Try.underlying59 rfl (by kernel_rfl)
theorem sl59 : SlT Try.prog 59 58 6 := ⟨Try.underlying59, size_of_info (by kernel_rfl)⟩
theorem fd61_0 : FldT Try.prog 61 0 0 := FldT.mk' (n := 1) Try.underlying61 rfl rfl (by kernel_rfl) rfl
theorem fd61_1 : FldT Try.prog 61 1 1 := FldT.mk' (n := 1) Try.underlying61 rfl rfl (by kernel_rfl) rfl
theorem sc66 : Scalar Try.prog 66 := Scalar.mk' Try.underlying66 rfl (by kernel_rfl)
theorem sl66 : SlT Try.prog 66 93 17 := ⟨Try.underlying66, size_of_info (by kernel_rfl)⟩
theorem sc67 : Scalar Try.prog 67 := Scalar.mk' Try.underlying67 rfl (by kernel_rfl)
theorem sl67 : SlT Try.prog 67 78 1 := ⟨Try.underlying67, size_of_info (by kernel_rfl)⟩
theorem ag69 : AggT Try.prog 69 19 := AggT.mk' Try.underlying69 rfl (by kernel_rfl)
theorem zt69 : ZeroT Try.prog 69 [.int .u8 0, .int .u8 0, .int .u8 0, .int .u8 0, .int .u8 0, .int .u8 0, .int .u8 0, .int .u8 0, .int .u8 0, .int .u8 0, .int .u8 0, .int .u8 0, .int .u8 0, .int .u8 0, .int .u8 0, .int .u8 0, .slice none 0 0, .int .i64 0, .slice none 0 0] := ZeroT.mk' (v := .agg #[.int .u8 0, .int .u8 0, .int .u8 0, .int .u8 0, .int .u8 0, .int .u8 0, .int .u8 0, .int .u8 0, .int .u8 0, .int .u8 0, .int .u8 0, .int .u8 0, .int .u8 0, .int .u8 0, .int .u8 0, .int .u8 0, .slice none 0 0, .int .i64 0, .slice none 0 0]) (by kernel_rfl) rfl
theorem fd69_0 : FldT Try.prog 69 0 0 := FldT.mk' (n := 16) Try.underlying69 rfl rfl (by kernel_rfl) rfl
theorem fd69_1 : FldT Try.prog 69 1 16 := FldT.mk' (n := 1) Try.underlying69 rfl rfl (by kernel_rfl) rfl
theorem fd69_2 : FldT Try.prog 69 2 17 := FldT.mk' (n := 1) Try.underlying69 rfl rfl (by kernel_rfl) rfl
theorem fd69_3 : FldT Try.prog 69 3 18 := FldT.mk' (n := 1) Try.underlying69 rfl rfl (by kernel_rfl) rfl
theorem ag77 : AggT Try.prog 77 3 := AggT.mk' Try.underlying77 rfl (by kernel_rfl)
theorem zt77 : ZeroT Try.prog 77 [.int .i64 0, .int .i64 0, .int .i64 0] := ZeroT.mk' (v := .agg #[.int .i64 0, .int .i64 0, .int .i64 0]) (by kernel_rfl) rfl
theorem fd77_0 : FldT Try.prog 77 0 0 := FldT.mk' (n := 1) Try.underlying77 rfl rfl (by kernel_rfl) rfl
theorem fd77_1 : FldT Try.prog 77 1 1 := FldT.mk' (n := 1) Try.underlying77 rfl rfl (by kernel_rfl) rfl
theorem fd77_2 : FldT Try.prog 77 2 2 := FldT.mk' (n := 1) Try.underlying77 rfl rfl (by kernel_rfl) rfl
theorem sc78 : Scalar Try.prog 78 := Scalar.mk' Try.underlying78 rfl (by kernel_rfl)
theorem zt78 : ZeroT Try.prog 78 [.slice none 0 0] := ZeroT.mk' (v := .slice none 0 0) (by kernel_rfl) rfl
theorem sl78 : SlT Try.prog 78 77 3 := ⟨Try.underlying78, size_of_info (by kernel_rfl)⟩
theorem sc81 : Scalar Try.prog 81 := Scalar.mk' Try.underlying81 rfl (by kernel_rfl)
theorem sl81 : SlT Try.prog 81 89 1 := ⟨Try.underlying81, size_of_info (by kernel_rfl)⟩
theorem fd83_0 : FldT Try.prog 83 0 0 := FldT.mk' (n := 1) Try.underlying83 rfl rfl (by kernel_rfl) rfl
theorem fd83_1 : FldT Try.prog 83 1 1 := FldT.mk' (n := 1) Try.underlying83 rfl rfl (by kernel_rfl) rfl
theorem sc84 : Scalar Try.prog 84 := Scalar.mk' Try.underlying84 rfl (by kernel_rfl)
theorem sl84 : SlT Try.prog 84 5 1 := ⟨Try.underlying84, size_of_info (by kernel_rfl)⟩
theorem sc89 : Scalar Try.prog 89 := Scalar.mk' Try.underlying89 rfl (by kernel_rfl)
theorem zt89 : ZeroT Try.prog 89 [.pointer none] := ZeroT.mk' (v := .pointer none) (by kernel_rfl) rfl
theorem fd91_0 : FldT Try.prog 91 0 0 := FldT.mk' (n := 1) Try.underlying91 rfl rfl (by kernel_rfl) rfl
theorem fd91_1 : FldT Try.prog 91 1 1 := FldT.mk' (n := 1) Try.underlying91 rfl rfl (by kernel_rfl) rfl
theorem fd91_2 : FldT Try.prog 91 2 2 := FldT.mk' (n := 1) Try.underlying91 rfl rfl (by kernel_rfl) rfl
theorem fd91_3 : FldT Try.prog 91 3 3 := FldT.mk' (n := 3) Try.underlying91 rfl rfl (by kernel_rfl) rfl
theorem fd91_4 : FldT Try.prog 91 4 6 := FldT.mk' (n := 1) Try.underlying91 rfl rfl (by kernel_rfl) rfl
theorem ag93 : AggT Try.prog 93 17 := AggT.mk' Try.underlying93 rfl (by kernel_rfl)
theorem zt93 : ZeroT Try.prog 93 [.int .u8 0, .int .u8 0, .int .u8 0, .int .u8 0, .int .u8 0, .int .u8 0, .int .u8 0, .int .u8 0, .int .u8 0, .int .u8 0, .int .u8 0, .int .u8 0, .int .u8 0, .int .u8 0, .int .u8 0, .int .u8 0, .int .i64 0] := ZeroT.mk' (v := .agg #[.int .u8 0, .int .u8 0, .int .u8 0, .int .u8 0, .int .u8 0, .int .u8 0, .int .u8 0, .int .u8 0, .int .u8 0, .int .u8 0, .int .u8 0, .int .u8 0, .int .u8 0, .int .u8 0, .int .u8 0, .int .u8 0, .int .i64 0]) (by kernel_rfl) rfl
theorem fd93_0 : FldT Try.prog 93 0 0 := FldT.mk' (n := 16) Try.underlying93 rfl rfl (by kernel_rfl) rfl
theorem fd93_1 : FldT Try.prog 93 1 16 := FldT.mk' (n := 1) Try.underlying93 rfl rfl (by kernel_rfl) rfl
theorem fd118_0 : FldT Try.prog 118 0 0 := FldT.mk' (n := 1) Try.underlying118 rfl rfl (by kernel_rfl) rfl
theorem en9 : ∀ args w, (callFunc 9 args).run Try.prog w = .ok (.enter 9 args) w := enters_of Try.func9 (by kernel_rfl) rfl
theorem en10 : ∀ args w, (callFunc 10 args).run Try.prog w = .ok (.enter 10 args) w := enters_of Try.func10 (by kernel_rfl) rfl
theorem en11 : ∀ args w, (callFunc 11 args).run Try.prog w = .ok (.enter 11 args) w := enters_of Try.func11 (by kernel_rfl) rfl
theorem en12 : ∀ args w, (callFunc 12 args).run Try.prog w = .ok (.enter 12 args) w := enters_of Try.func12 (by kernel_rfl) rfl
theorem en13 : ∀ args w, (callFunc 13 args).run Try.prog w = .ok (.enter 13 args) w := enters_of Try.func13 (by kernel_rfl) rfl
theorem en14 : ∀ args w, (callFunc 14 args).run Try.prog w = .ok (.enter 14 args) w := enters_of Try.func14 (by kernel_rfl) rfl
theorem en15 : ∀ args w, (callFunc 15 args).run Try.prog w = .ok (.enter 15 args) w := enters_of Try.func15 (by kernel_rfl) rfl
theorem en16 : ∀ args w, (callFunc 16 args).run Try.prog w = .ok (.enter 16 args) w := enters_of Try.func16 (by kernel_rfl) rfl
theorem en17 : ∀ args w, (callFunc 17 args).run Try.prog w = .ok (.enter 17 args) w := enters_of Try.func17 (by kernel_rfl) rfl
theorem en18 : ∀ args w, (callFunc 18 args).run Try.prog w = .ok (.enter 18 args) w := enters_of Try.func18 (by kernel_rfl) rfl
theorem en19 : ∀ args w, (callFunc 19 args).run Try.prog w = .ok (.enter 19 args) w := enters_of Try.func19 (by kernel_rfl) rfl
theorem en20 : ∀ args w, (callFunc 20 args).run Try.prog w = .ok (.enter 20 args) w := enters_of Try.func20 (by kernel_rfl) rfl
theorem en21 : ∀ args w, (callFunc 21 args).run Try.prog w = .ok (.enter 21 args) w := enters_of Try.func21 (by kernel_rfl) rfl
theorem en22 : ∀ args w, (callFunc 22 args).run Try.prog w = .ok (.enter 22 args) w := enters_of Try.func22 (by kernel_rfl) rfl
theorem en23 : ∀ args w, (callFunc 23 args).run Try.prog w = .ok (.enter 23 args) w := enters_of Try.func23 (by kernel_rfl) rfl
theorem en24 : ∀ args w, (callFunc 24 args).run Try.prog w = .ok (.enter 24 args) w := enters_of Try.func24 (by kernel_rfl) rfl
theorem en25 : ∀ args w, (callFunc 25 args).run Try.prog w = .ok (.enter 25 args) w := enters_of Try.func25 (by kernel_rfl) rfl
theorem en26 : ∀ args w, (callFunc 26 args).run Try.prog w = .ok (.enter 26 args) w := enters_of Try.func26 (by kernel_rfl) rfl
theorem en27 : ∀ args w, (callFunc 27 args).run Try.prog w = .ok (.enter 27 args) w := enters_of Try.func27 (by kernel_rfl) rfl
theorem en28 : ∀ args w, (callFunc 28 args).run Try.prog w = .ok (.enter 28 args) w := enters_of Try.func28 (by kernel_rfl) rfl
theorem en29 : ∀ args w, (callFunc 29 args).run Try.prog w = .ok (.enter 29 args) w := enters_of Try.func29 (by kernel_rfl) rfl
theorem en30 : ∀ args w, (callFunc 30 args).run Try.prog w = .ok (.enter 30 args) w := enters_of Try.func30 (by kernel_rfl) rfl
theorem en31 : ∀ args w, (callFunc 31 args).run Try.prog w = .ok (.enter 31 args) w := enters_of Try.func31 (by kernel_rfl) rfl
theorem en32 : ∀ args w, (callFunc 32 args).run Try.prog w = .ok (.enter 32 args) w := enters_of Try.func32 (by kernel_rfl) rfl
theorem en33 : ∀ args w, (callFunc 33 args).run Try.prog w = .ok (.enter 33 args) w := enters_of Try.func33 (by kernel_rfl) rfl
theorem en34 : ∀ args w, (callFunc 34 args).run Try.prog w = .ok (.enter 34 args) w := enters_of Try.func34 (by kernel_rfl) rfl
theorem en35 : ∀ args w, (callFunc 35 args).run Try.prog w = .ok (.enter 35 args) w := enters_of Try.func35 (by kernel_rfl) rfl
theorem en36 : ∀ args w, (callFunc 36 args).run Try.prog w = .ok (.enter 36 args) w := enters_of Try.func36 (by kernel_rfl) rfl
theorem en37 : ∀ args w, (callFunc 37 args).run Try.prog w = .ok (.enter 37 args) w := enters_of Try.func37 (by kernel_rfl) rfl
theorem en38 : ∀ args w, (callFunc 38 args).run Try.prog w = .ok (.enter 38 args) w := enters_of Try.func38 (by kernel_rfl) rfl
theorem en39 : ∀ args w, (callFunc 39 args).run Try.prog w = .ok (.enter 39 args) w := enters_of Try.func39 (by kernel_rfl) rfl
theorem en40 : ∀ args w, (callFunc 40 args).run Try.prog w = .ok (.enter 40 args) w := enters_of Try.func40 (by kernel_rfl) rfl
theorem en41 : ∀ args w, (callFunc 41 args).run Try.prog w = .ok (.enter 41 args) w := enters_of Try.func41 (by kernel_rfl) rfl
theorem en42 : ∀ args w, (callFunc 42 args).run Try.prog w = .ok (.enter 42 args) w := enters_of Try.func42 (by kernel_rfl) rfl
theorem en43 : ∀ args w, (callFunc 43 args).run Try.prog w = .ok (.enter 43 args) w := enters_of Try.func43 (by kernel_rfl) rfl
theorem en44 : ∀ args w, (callFunc 44 args).run Try.prog w = .ok (.enter 44 args) w := enters_of Try.func44 (by kernel_rfl) rfl
theorem en45 : ∀ args w, (callFunc 45 args).run Try.prog w = .ok (.enter 45 args) w := enters_of Try.func45 (by kernel_rfl) rfl
theorem en46 : ∀ args w, (callFunc 46 args).run Try.prog w = .ok (.enter 46 args) w := enters_of Try.func46 (by kernel_rfl) rfl
theorem en47 : ∀ args w, (callFunc 47 args).run Try.prog w = .ok (.enter 47 args) w := enters_of Try.func47 (by kernel_rfl) rfl
theorem en48 : ∀ args w, (callFunc 48 args).run Try.prog w = .ok (.enter 48 args) w := enters_of Try.func48 (by kernel_rfl) rfl
theorem en49 : ∀ args w, (callFunc 49 args).run Try.prog w = .ok (.enter 49 args) w := enters_of Try.func49 (by kernel_rfl) rfl
theorem en50 : ∀ args w, (callFunc 50 args).run Try.prog w = .ok (.enter 50 args) w := enters_of Try.func50 (by kernel_rfl) rfl
theorem en51 : ∀ args w, (callFunc 51 args).run Try.prog w = .ok (.enter 51 args) w := enters_of Try.func51 (by kernel_rfl) rfl
theorem en52 : ∀ args w, (callFunc 52 args).run Try.prog w = .ok (.enter 52 args) w := enters_of Try.func52 (by kernel_rfl) rfl
theorem en53 : ∀ args w, (callFunc 53 args).run Try.prog w = .ok (.enter 53 args) w := enters_of Try.func53 (by kernel_rfl) rfl
theorem en54 : ∀ args w, (callFunc 54 args).run Try.prog w = .ok (.enter 54 args) w := enters_of Try.func54 (by kernel_rfl) rfl
theorem en55 : ∀ args w, (callFunc 55 args).run Try.prog w = .ok (.enter 55 args) w := enters_of Try.func55 (by kernel_rfl) rfl
theorem en56 : ∀ args w, (callFunc 56 args).run Try.prog w = .ok (.enter 56 args) w := enters_of Try.func56 (by kernel_rfl) rfl
theorem en57 : ∀ args w, (callFunc 57 args).run Try.prog w = .ok (.enter 57 args) w := enters_of Try.func57 (by kernel_rfl) rfl
theorem en58 : ∀ args w, (callFunc 58 args).run Try.prog w = .ok (.enter 58 args) w := enters_of Try.func58 (by kernel_rfl) rfl
theorem en59 : ∀ args w, (callFunc 59 args).run Try.prog w = .ok (.enter 59 args) w := enters_of Try.func59 (by kernel_rfl) rfl
theorem en60 : ∀ args w, (callFunc 60 args).run Try.prog w = .ok (.enter 60 args) w := enters_of Try.func60 (by kernel_rfl) rfl
theorem en61 : ∀ args w, (callFunc 61 args).run Try.prog w = .ok (.enter 61 args) w := enters_of Try.func61 (by kernel_rfl) rfl
end Go.Proofs.Ytnebpklmbefmfaa
