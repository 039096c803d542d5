/- WholeCancel, the data: the states that its runs come to, and what has been run once. -/
import Derived.Test.YtgmlbaffghogaaaGreatDoorEvMy
import Derived.Test.YtgmlbaffghogaaaGreatDoorProg
import Derived.KernelRfl
set_option linter.unusedVariables false
set_option linter.unusedSimpArgs false
set_option maxRecDepth 100000
namespace Go.Proofs.YtgmlbaffghogaaaGreatDoor
open Go Go.RowKit
def form : List Nat := [2, 0, 0, 0, 0, 0, 0, 0, 0, 0, 0, 0, 0, 0, 0, 0, 100, 3, 0, 0, 0, 0, 0, 0, 0, 0, 0, 0, 0, 0, 0, 0, 0, 0, 0, 0, 0, 0, 0, 0, 0, 0, 0, 0, 0, 0, 0, 0, 0, 0, 1, 1, 0, 0, 0, 0, 0, 0, 0, 0, 0, 0, 0, 0, 0, 0, 0, 2, 2, 2, 6, 6, 3, 0, 0, 0, 0, 0, 2, 0, 0, 0, 0, 0, 5, 0, 0, 0, 0, 0, 4, 0, 0, 0, 0, 0, 3, 0, 0, 0, 0, 0, 11, 0, 0, 0, 0, 0, 3, 9, 0, 0, 0, 0, 0, 3, 0, 0, 0, 0, 0, 11, 0, 0, 0, 0, 0, 3, 10, 0, 0, 0, 0, 0, 3, 0, 0, 0, 0, 0, 11, 0, 0, 0, 0, 0, 3, 2, 0, 0, 0, 0, 0, 8, 0, 0, 0, 0, 0, 11, 0, 0, 0, 0, 0, 5, 2, 0, 0, 0, 0, 0, 8, 4, 0, 0, 0, 0, 1, 0, 1, 0, 0, 0, 5, 0, 0, 0, 0, 0, 11, 0, 0, 0, 0, 0, 3, 9, 0, 1, 0, 0, 0, 3, 0, 0, 0, 0, 0, 11, 0, 0, 0, 0, 0, 0, 0, 0, 0, 0, 0, 0, 0, 0, 0, 0, 0, 0, 0, 0, 101, 2, 0, 0, 0, 0, 0, 0, 0, 0, 0, 0, 0, 0, 0, 0, 0, 0, 0, 0, 0, 0, 0, 0, 0, 0, 0, 0, 0, 0, 0, 0, 0, 0, 1, 1, 2, 3, 6, 3, 0, 0, 0, 0, 0, 2, 0, 0, 0, 0, 0, 5, 0, 0, 0, 0, 0, 4, 0, 0, 0, 0, 0, 3, 0, 0, 0, 0, 0, 11, 0, 0, 0, 0, 0, 3, 9, 0, 0, 0, 0, 0, 3, 0, 0, 0, 0, 0, 11, 0, 0, 0, 0, 0, 3, 10, 0, 0, 0, 0, 0, 3, 0, 0, 0, 0, 0, 11, 0, 0, 0, 0, 0]
noncomputable def formC : List S := form.map fun n => .i .u8 (.ofNat n)
abbrev bT : S := .b true
abbrev bF : S := .b false
abbrev xpn : S := .x .pn
abbrev xsn : S := .x .sn
abbrev xse : S := .x .se
abbrev xfn : S := .x .fn
abbrev xmn : S := .x .mn
abbrev xnn : S := .x .nn
abbrev iI (n : Nat) : S := .i .i64 (.ofNat n)
abbrev iB (n : Nat) : S := .i .u8 (.ofNat n)
abbrev iU (n : Nat) : S := .i .u64 (.ofNat n)
abbrev iW (n : Nat) : S := .i .u32 (.ofNat n)
abbrev iR (n : Nat) : S := .i .i32 (.ofNat n)
abbrev iH (n : Nat) : S := .i .u16 (.ofNat n)
abbrev iC (n : Nat) : S := .i .i8 (.ofNat n)
abbrev iG (n : Nat) : S := .i .i16 (.ofNat n)
noncomputable def rp (n : Nat) (x : S) (l : List S) : List S := Nat.rec (motive := fun _ => List S) l (fun _ r => x :: r) n
noncomputable def ap (l m : List S) : List S := List.rec (motive := fun _ => List S) m (fun x _ r => x :: r) l
noncomputable def m0 : Nm := ⟨⟨.a, .a, .a, .a⟩, ⟨.a, .a, .a, .a⟩⟩
noncomputable def m1 : Nm := ⟨⟨.b, .a, .a, .a⟩, ⟨.a, .a, .a, .a⟩⟩
noncomputable def m3 : Nm := ⟨⟨.d, .a, .a, .a⟩, ⟨.a, .a, .a, .a⟩⟩
noncomputable def m4 : Nm := ⟨⟨.a, .b, .a, .a⟩, ⟨.a, .a, .a, .a⟩⟩
noncomputable def m5 : Nm := ⟨⟨.b, .b, .a, .a⟩, ⟨.a, .a, .a, .a⟩⟩
noncomputable def m6 : Nm := ⟨⟨.c, .b, .a, .a⟩, ⟨.a, .a, .a, .a⟩⟩
noncomputable def m7 : Nm := ⟨⟨.d, .b, .a, .a⟩, ⟨.a, .a, .a, .a⟩⟩
noncomputable def m8 : Nm := ⟨⟨.a, .c, .a, .a⟩, ⟨.a, .a, .a, .a⟩⟩
noncomputable def m9 : Nm := ⟨⟨.b, .c, .a, .a⟩, ⟨.a, .a, .a, .a⟩⟩
noncomputable def m10 : Nm := ⟨⟨.c, .c, .a, .a⟩, ⟨.a, .a, .a, .a⟩⟩
noncomputable def m11 : Nm := ⟨⟨.d, .c, .a, .a⟩, ⟨.a, .a, .a, .a⟩⟩
noncomputable def m13 : Nm := ⟨⟨.b, .d, .a, .a⟩, ⟨.a, .a, .a, .a⟩⟩
noncomputable def m17 : Nm := ⟨⟨.b, .a, .b, .a⟩, ⟨.a, .a, .a, .a⟩⟩
noncomputable def m20 : Nm := ⟨⟨.a, .b, .b, .a⟩, ⟨.a, .a, .a, .a⟩⟩
noncomputable def m26 : Nm := ⟨⟨.c, .c, .b, .a⟩, ⟨.a, .a, .a, .a⟩⟩
noncomputable def m35 : Nm := ⟨⟨.d, .a, .c, .a⟩, ⟨.a, .a, .a, .a⟩⟩
noncomputable def m46 : Nm := ⟨⟨.c, .d, .c, .a⟩, ⟨.a, .a, .a, .a⟩⟩
noncomputable def m57 : Nm := ⟨⟨.b, .c, .d, .a⟩, ⟨.a, .a, .a, .a⟩⟩
noncomputable def m68 : Nm := ⟨⟨.a, .b, .a, .b⟩, ⟨.a, .a, .a, .a⟩⟩
noncomputable def m85 : Nm := ⟨⟨.b, .b, .b, .b⟩, ⟨.a, .a, .a, .a⟩⟩
noncomputable def m96 : Nm := ⟨⟨.a, .a, .c, .b⟩, ⟨.a, .a, .a, .a⟩⟩
noncomputable def m98 : Nm := ⟨⟨.c, .a, .c, .b⟩, ⟨.a, .a, .a, .a⟩⟩
noncomputable def m109 : Nm := ⟨⟨.b, .d, .c, .b⟩, ⟨.a, .a, .a, .a⟩⟩
noncomputable def m127 : Nm := ⟨⟨.d, .d, .d, .b⟩, ⟨.a, .a, .a, .a⟩⟩
noncomputable def m138 : Nm := ⟨⟨.c, .c, .a, .c⟩, ⟨.a, .a, .a, .a⟩⟩
noncomputable def m149 : Nm := ⟨⟨.b, .b, .b, .c⟩, ⟨.a, .a, .a, .a⟩⟩
noncomputable def m151 : Nm := ⟨⟨.d, .b, .b, .c⟩, ⟨.a, .a, .a, .a⟩⟩
noncomputable def m152 : Nm := ⟨⟨.a, .c, .b, .c⟩, ⟨.a, .a, .a, .a⟩⟩
noncomputable def m660 : Nm := ⟨⟨.a, .b, .b, .c⟩, ⟨.c, .a, .a, .a⟩⟩
noncomputable def m665 : Nm := ⟨⟨.b, .c, .b, .c⟩, ⟨.c, .a, .a, .a⟩⟩
noncomputable def m666 : Nm := ⟨⟨.c, .c, .b, .c⟩, ⟨.c, .a, .a, .a⟩⟩
noncomputable def m667 : Nm := ⟨⟨.d, .c, .b, .c⟩, ⟨.c, .a, .a, .a⟩⟩
noncomputable def m668 : Nm := ⟨⟨.a, .d, .b, .c⟩, ⟨.c, .a, .a, .a⟩⟩
noncomputable def m669 : Nm := ⟨⟨.b, .d, .b, .c⟩, ⟨.c, .a, .a, .a⟩⟩
noncomputable def m670 : Nm := ⟨⟨.c, .d, .b, .c⟩, ⟨.c, .a, .a, .a⟩⟩
noncomputable def m671 : Nm := ⟨⟨.d, .d, .b, .c⟩, ⟨.c, .a, .a, .a⟩⟩
noncomputable def m672 : Nm := ⟨⟨.a, .a, .c, .c⟩, ⟨.c, .a, .a, .a⟩⟩
noncomputable def m673 : Nm := ⟨⟨.b, .a, .c, .c⟩, ⟨.c, .a, .a, .a⟩⟩
noncomputable def m674 : Nm := ⟨⟨.c, .a, .c, .c⟩, ⟨.c, .a, .a, .a⟩⟩
noncomputable def m675 : Nm := ⟨⟨.d, .a, .c, .c⟩, ⟨.c, .a, .a, .a⟩⟩
noncomputable def m676 : Nm := ⟨⟨.a, .b, .c, .c⟩, ⟨.c, .a, .a, .a⟩⟩
noncomputable def m677 : Nm := ⟨⟨.b, .b, .c, .c⟩, ⟨.c, .a, .a, .a⟩⟩
noncomputable def m678 : Nm := ⟨⟨.c, .b, .c, .c⟩, ⟨.c, .a, .a, .a⟩⟩
noncomputable def m680 : Nm := ⟨⟨.a, .c, .c, .c⟩, ⟨.c, .a, .a, .a⟩⟩
noncomputable def m683 : Nm := ⟨⟨.d, .c, .c, .c⟩, ⟨.c, .a, .a, .a⟩⟩
noncomputable def m684 : Nm := ⟨⟨.a, .d, .c, .c⟩, ⟨.c, .a, .a, .a⟩⟩
noncomputable def m685 : Nm := ⟨⟨.b, .d, .c, .c⟩, ⟨.c, .a, .a, .a⟩⟩
noncomputable def m686 : Nm := ⟨⟨.c, .d, .c, .c⟩, ⟨.c, .a, .a, .a⟩⟩
noncomputable def m687 : Nm := ⟨⟨.d, .d, .c, .c⟩, ⟨.c, .a, .a, .a⟩⟩
noncomputable def m688 : Nm := ⟨⟨.a, .a, .d, .c⟩, ⟨.c, .a, .a, .a⟩⟩
noncomputable def m689 : Nm := ⟨⟨.b, .a, .d, .c⟩, ⟨.c, .a, .a, .a⟩⟩
noncomputable def m690 : Nm := ⟨⟨.c, .a, .d, .c⟩, ⟨.c, .a, .a, .a⟩⟩
noncomputable def m691 : Nm := ⟨⟨.d, .a, .d, .c⟩, ⟨.c, .a, .a, .a⟩⟩
noncomputable def m692 : Nm := ⟨⟨.a, .b, .d, .c⟩, ⟨.c, .a, .a, .a⟩⟩
noncomputable def m693 : Nm := ⟨⟨.b, .b, .d, .c⟩, ⟨.c, .a, .a, .a⟩⟩
noncomputable def m694 : Nm := ⟨⟨.c, .b, .d, .c⟩, ⟨.c, .a, .a, .a⟩⟩
noncomputable def m697 : Nm := ⟨⟨.b, .c, .d, .c⟩, ⟨.c, .a, .a, .a⟩⟩
noncomputable def m698 : Nm := ⟨⟨.c, .c, .d, .c⟩, ⟨.c, .a, .a, .a⟩⟩
noncomputable def m699 : Nm := ⟨⟨.d, .c, .d, .c⟩, ⟨.c, .a, .a, .a⟩⟩
noncomputable def m700 : Nm := ⟨⟨.a, .d, .d, .c⟩, ⟨.c, .a, .a, .a⟩⟩
noncomputable def m701 : Nm := ⟨⟨.b, .d, .d, .c⟩, ⟨.c, .a, .a, .a⟩⟩
noncomputable def m702 : Nm := ⟨⟨.c, .d, .d, .c⟩, ⟨.c, .a, .a, .a⟩⟩
noncomputable def m703 : Nm := ⟨⟨.d, .d, .d, .c⟩, ⟨.c, .a, .a, .a⟩⟩
noncomputable def m704 : Nm := ⟨⟨.a, .a, .a, .d⟩, ⟨.c, .a, .a, .a⟩⟩
noncomputable def m705 : Nm := ⟨⟨.b, .a, .a, .d⟩, ⟨.c, .a, .a, .a⟩⟩
noncomputable def m707 : Nm := ⟨⟨.d, .a, .a, .d⟩, ⟨.c, .a, .a, .a⟩⟩
noncomputable def m708 : Nm := ⟨⟨.a, .b, .a, .d⟩, ⟨.c, .a, .a, .a⟩⟩
noncomputable def m709 : Nm := ⟨⟨.b, .b, .a, .d⟩, ⟨.c, .a, .a, .a⟩⟩
noncomputable def m710 : Nm := ⟨⟨.c, .b, .a, .d⟩, ⟨.c, .a, .a, .a⟩⟩
noncomputable def m711 : Nm := ⟨⟨.d, .b, .a, .d⟩, ⟨.c, .a, .a, .a⟩⟩
noncomputable def m712 : Nm := ⟨⟨.a, .c, .a, .d⟩, ⟨.c, .a, .a, .a⟩⟩
noncomputable def m713 : Nm := ⟨⟨.b, .c, .a, .d⟩, ⟨.c, .a, .a, .a⟩⟩
noncomputable def m714 : Nm := ⟨⟨.c, .c, .a, .d⟩, ⟨.c, .a, .a, .a⟩⟩
noncomputable def m715 : Nm := ⟨⟨.d, .c, .a, .d⟩, ⟨.c, .a, .a, .a⟩⟩
noncomputable def m716 : Nm := ⟨⟨.a, .d, .a, .d⟩, ⟨.c, .a, .a, .a⟩⟩
noncomputable def m717 : Nm := ⟨⟨.b, .d, .a, .d⟩, ⟨.c, .a, .a, .a⟩⟩
noncomputable def m718 : Nm := ⟨⟨.c, .d, .a, .d⟩, ⟨.c, .a, .a, .a⟩⟩
noncomputable def m719 : Nm := ⟨⟨.d, .d, .a, .d⟩, ⟨.c, .a, .a, .a⟩⟩
noncomputable def m720 : Nm := ⟨⟨.a, .a, .b, .d⟩, ⟨.c, .a, .a, .a⟩⟩
noncomputable def m721 : Nm := ⟨⟨.b, .a, .b, .d⟩, ⟨.c, .a, .a, .a⟩⟩
noncomputable def m722 : Nm := ⟨⟨.c, .a, .b, .d⟩, ⟨.c, .a, .a, .a⟩⟩
noncomputable def m723 : Nm := ⟨⟨.d, .a, .b, .d⟩, ⟨.c, .a, .a, .a⟩⟩
noncomputable def m766 : Nm := ⟨⟨.c, .d, .d, .d⟩, ⟨.c, .a, .a, .a⟩⟩
noncomputable def m767 : Nm := ⟨⟨.d, .d, .d, .d⟩, ⟨.c, .a, .a, .a⟩⟩
noncomputable def m770 : Nm := ⟨⟨.c, .a, .a, .a⟩, ⟨.d, .a, .a, .a⟩⟩
noncomputable def m779 : Nm := ⟨⟨.d, .c, .a, .a⟩, ⟨.d, .a, .a, .a⟩⟩
noncomputable def m825 : Nm := ⟨⟨.b, .c, .d, .a⟩, ⟨.d, .a, .a, .a⟩⟩
noncomputable def m827 : Nm := ⟨⟨.d, .c, .d, .a⟩, ⟨.d, .a, .a, .a⟩⟩
noncomputable def m828 : Nm := ⟨⟨.a, .d, .d, .a⟩, ⟨.d, .a, .a, .a⟩⟩
noncomputable def m831 : Nm := ⟨⟨.d, .d, .d, .a⟩, ⟨.d, .a, .a, .a⟩⟩
noncomputable def m863 : Nm := ⟨⟨.d, .d, .b, .b⟩, ⟨.d, .a, .a, .a⟩⟩
noncomputable def m904 : Nm := ⟨⟨.a, .c, .a, .c⟩, ⟨.d, .a, .a, .a⟩⟩
noncomputable def m920 : Nm := ⟨⟨.a, .c, .b, .c⟩, ⟨.d, .a, .a, .a⟩⟩
noncomputable def m924 : Nm := ⟨⟨.a, .d, .b, .c⟩, ⟨.d, .a, .a, .a⟩⟩
noncomputable def m930 : Nm := ⟨⟨.c, .a, .c, .c⟩, ⟨.d, .a, .a, .a⟩⟩
noncomputable def m939 : Nm := ⟨⟨.d, .c, .c, .c⟩, ⟨.d, .a, .a, .a⟩⟩
noncomputable def m964 : Nm := ⟨⟨.a, .b, .a, .d⟩, ⟨.d, .a, .a, .a⟩⟩
noncomputable def m1173 : Nm := ⟨⟨.b, .b, .b, .c⟩, ⟨.a, .b, .a, .a⟩⟩
noncomputable def m1175 : Nm := ⟨⟨.d, .b, .b, .c⟩, ⟨.a, .b, .a, .a⟩⟩
noncomputable def m1177 : Nm := ⟨⟨.b, .c, .b, .c⟩, ⟨.a, .b, .a, .a⟩⟩
noncomputable def m1506 : Nm := ⟨⟨.c, .a, .c, .d⟩, ⟨.b, .b, .a, .a⟩⟩
noncomputable def m1592 : Nm := ⟨⟨.a, .c, .d, .a⟩, ⟨.c, .b, .a, .a⟩⟩
noncomputable def m1593 : Nm := ⟨⟨.b, .c, .d, .a⟩, ⟨.c, .b, .a, .a⟩⟩
noncomputable def m1598 : Nm := ⟨⟨.c, .d, .d, .a⟩, ⟨.c, .b, .a, .a⟩⟩
noncomputable def m1600 : Nm := ⟨⟨.a, .a, .a, .b⟩, ⟨.c, .b, .a, .a⟩⟩
noncomputable def m1602 : Nm := ⟨⟨.c, .a, .a, .b⟩, ⟨.c, .b, .a, .a⟩⟩
noncomputable def m1635 : Nm := ⟨⟨.d, .a, .c, .b⟩, ⟨.c, .b, .a, .a⟩⟩
noncomputable def m1978 : Nm := ⟨⟨.c, .c, .d, .c⟩, ⟨.d, .b, .a, .a⟩⟩
noncomputable def m2003 : Nm := ⟨⟨.d, .a, .b, .d⟩, ⟨.d, .b, .a, .a⟩⟩
noncomputable def m2036 : Nm := ⟨⟨.a, .b, .d, .d⟩, ⟨.d, .b, .a, .a⟩⟩
noncomputable def m2087 : Nm := ⟨⟨.d, .b, .c, .a⟩, ⟨.a, .c, .a, .a⟩⟩
noncomputable def m2090 : Nm := ⟨⟨.c, .c, .c, .a⟩, ⟨.a, .c, .a, .a⟩⟩
noncomputable def m2233 : Nm := ⟨⟨.b, .c, .d, .c⟩, ⟨.a, .c, .a, .a⟩⟩
noncomputable def m2248 : Nm := ⟨⟨.a, .c, .a, .d⟩, ⟨.a, .c, .a, .a⟩⟩
noncomputable def m8080 : Nm := ⟨⟨.a, .a, .b, .c⟩, ⟨.d, .d, .b, .a⟩⟩
noncomputable def m13912 : Nm := ⟨⟨.a, .c, .b, .b⟩, ⟨.c, .b, .d, .a⟩⟩
noncomputable def m19258 : Nm := ⟨⟨.c, .c, .d, .a⟩, ⟨.d, .c, .a, .b⟩⟩
noncomputable def m19578 : Nm := ⟨⟨.c, .c, .d, .b⟩, ⟨.a, .d, .a, .b⟩⟩
noncomputable def m19597 : Nm := ⟨⟨.b, .d, .a, .c⟩, ⟨.a, .d, .a, .b⟩⟩
noncomputable def m20265 : Nm := ⟨⟨.b, .c, .c, .a⟩, ⟨.d, .d, .a, .b⟩⟩
noncomputable def m20268 : Nm := ⟨⟨.a, .d, .c, .a⟩, ⟨.d, .d, .a, .b⟩⟩
noncomputable def m20269 : Nm := ⟨⟨.b, .d, .c, .a⟩, ⟨.d, .d, .a, .b⟩⟩
noncomputable def btE : List (Nm × O) := [(m722, .c 44 0 0 [.p m721 0, iI 2, xsn]),
 (m721, .c 67 0 0 (ap [.p m685 0] (rp 9 (xsn) ([])))),
 (m685, .c 79 0 0 [.l m20 0 2 0 true, .l m13 0 1 1 false, iI 2, iI 2, iI 1, .l m707 0 2 0 true, .p m709 0, .x (.m m684), .p m712 0, .p m714 0, .p m716 0, .p m719 0, .p m26 0, .p m720 0, iU 0, xpn, xsn, xsn]),
 (m20, .c 4 1 2 [bF, bT]),
 (m13, .c 60 0 0 [.l m11 0 2 2 false]),
 (m11, .c 57 0 0 (rp 15 (iB 0) (ap [iB 100, .l m10 0 3 3 false, iI 2, .l m9 0 6 6 false] (rp 15 (iB 0) (ap [iB 101, .l m10 0 2 3 false, iI 2, .l m9 0 3 6 false] ([])))))),
 (m10, .c 101 0 0 (rp 16 (iB 0) (ap [.i .i64 (.negSucc 0)] (rp 15 (iB 0) (ap [iB 1, iI 0] (rp 15 (iB 0) (ap [iB 2, iI 1] ([])))))))),
 (m9, .c 99 0 0 [.l m3 0 6 6 false, .l m4 0 3 3 false, .l m5 0 3 3 false, .l m6 0 3 3 false, .l m7 0 5 5 false, .l m8 0 3 3 false]),
 (m3, .c 98 0 0 [iI 3, iI 0, iI 0, iI 2, iI 0, iI 0, iI 5, iI 0, iI 0, iI 4, iI 0, iI 0, iI 3, iI 0, iI 0, iI 11, iI 0, iI 0]),
 (m4, .c 98 0 0 [iI 9, iI 0, iI 0, iI 3, iI 0, iI 0, iI 11, iI 0, iI 0]),
 (m5, .c 98 0 0 [iI 10, iI 0, iI 0, iI 3, iI 0, iI 0, iI 11, iI 0, iI 0]),
 (m6, .c 98 0 0 [iI 2, iI 0, iI 0, iI 8, iI 0, iI 0, iI 11, iI 0, iI 0]),
 (m7, .c 98 0 0 [iI 2, iI 0, iI 0, iI 8, iI 0, iI 4, iI 1, iI 1, iI 0, iI 5, iI 0, iI 0, iI 11, iI 0, iI 0]),
 (m8, .c 98 0 0 [iI 9, iI 1, iI 0, iI 3, iI 0, iI 0, iI 11, iI 0, iI 0]),
 (m707, .c 80 1 2 [.p m688 0, .p m699 0]),
 (m688, .c 88 0 0 [bF, bF, .p m689 0, .p m691 0, .p m693 0, .p m687 0, .p m694 0, xsn]),
 (m689, .c 194 0 0 [iI 256, iW 1, xsn, xsn, iI 0]),
 (m691, .c 200 0 0 [iU 0, .p m690 0]),
 (m690, .c 321 0 0 [iI 1024, iW 1, xsn, xsn, iI 0]),
 (m693, .c 206 0 0 [.p m692 0]),
 (m692, .c 324 0 0 [iI 256, iW 1, xsn, xsn, iI 0]),
 (m687, .c 184 0 0 [iI 4, iI 0, .x (.m m686)]),
 (m686, .m [] 0),
 (m694, .c 106 0 0 [iI 16, xsn, iI 0, iI 0]),
 (m699, .c 88 0 0 [bT, bF, .p m700 0, .p m702 0, .p m704 0, .p m698 0, .p m705 0, xsn]),
 (m700, .c 194 0 0 [iI 256, iW 1, xsn, xsn, iI 0]),
 (m702, .c 200 0 0 [iU 1, .p m701 0]),
 (m701, .c 321 0 0 [iI 1024, iW 1, xsn, xsn, iI 0]),
 (m704, .c 206 0 0 [.p m703 0]),
 (m703, .c 324 0 0 [iI 256, iW 1, xsn, xsn, iI 0]),
 (m698, .c 184 0 0 [iI 4, iI 0, .x (.m m697)]),
 (m697, .m [] 0),
 (m705, .c 106 0 0 [iI 16, xsn, iI 0, iI 0]),
 (m709, .c 212 0 0 [iW 1048576, .p m708 0]),
 (m708, .c 327 0 0 [iI 256, iW 1, xsn, xsn, iI 0]),
 (m684, .m [] 0),
 (m712, .c 219 0 0 [.p m710 0, .x (.m m711)]),
 (m710, .c 330 0 0 [iI 256, iW 1, xsn, xsn, iI 0]),
 (m711, .m [] 0),
 (m714, .c 226 0 0 [.p m713 0]),
 (m713, .c 333 0 0 [iI 256, iW 1, xsn, xsn, iI 0]),
 (m716, .c 233 0 0 [.p m715 0]),
 (m715, .c 336 0 0 [iI 256, iW 1, xsn, xsn, iI 0]),
 (m719, .c 111 0 0 [iI 4096, xsn, .x (.m m717), .x (.m m718)]),
 (m717, .m [] 0),
 (m718, .m [] 0),
 (m26, .c 187 0 0 [.l m683 0 1 0 true, iI 1]),
 (m683, .c 172 1 1 [.p m680 0]),
 (m680, .c 177 0 0 [.l m660 0 343 0 true, .l m665 0 2 0 true, bF, iW 0, iW 0, iW 0, iI 0]),
 (m660, .c 5 1 343 (ap [iB 2] (rp 15 (iB 0) (ap [iB 100, iB 3] (rp 32 (iB 0) (ap [iB 1, iB 1] (rp 15 (iB 0) (ap [iB 2, iB 2, iB 2, iB 6, iB 6, iB 3, iB 0, iB 0, iB 0, iB 0, iB 0, iB 2, iB 0, iB 0, iB 0, iB 0, iB 0, iB 5, iB 0, iB 0, iB 0, iB 0, iB 0, iB 4, iB 0, iB 0, iB 0, iB 0, iB 0, iB 3, iB 0, iB 0, iB 0, iB 0, iB 0, iB 11, iB 0, iB 0, iB 0, iB 0, iB 0, iB 3, iB 9, iB 0, iB 0, iB 0, iB 0, iB 0, iB 3, iB 0, iB 0, iB 0, iB 0, iB 0, iB 11, iB 0, iB 0, iB 0, iB 0, iB 0, iB 3, iB 10, iB 0, iB 0, iB 0, iB 0, iB 0, iB 3, iB 0, iB 0, iB 0, iB 0, iB 0, iB 11, iB 0, iB 0, iB 0, iB 0, iB 0, iB 3, iB 2, iB 0, iB 0, iB 0, iB 0, iB 0, iB 8, iB 0, iB 0, iB 0, iB 0, iB 0, iB 11, iB 0, iB 0, iB 0, iB 0, iB 0, iB 5, iB 2, iB 0, iB 0, iB 0, iB 0, iB 0, iB 8, iB 4, iB 0, iB 0, iB 0, iB 0, iB 1, iB 0, iB 1, iB 0, iB 0, iB 0, iB 5, iB 0, iB 0, iB 0, iB 0, iB 0, iB 11, iB 0, iB 0, iB 0, iB 0, iB 0, iB 3, iB 9, iB 0, iB 1, iB 0, iB 0, iB 0, iB 3, iB 0, iB 0, iB 0, iB 0, iB 0, iB 11] (rp 20 (iB 0) (ap [iB 101, iB 2] (rp 32 (iB 0) (ap [iB 1, iB 1, iB 2, iB 3, iB 6, iB 3, iB 0, iB 0, iB 0, iB 0, iB 0, iB 2, iB 0, iB 0, iB 0, iB 0, iB 0, iB 5, iB 0, iB 0, iB 0, iB 0, iB 0, iB 4, iB 0, iB 0, iB 0, iB 0, iB 0, iB 3, iB 0, iB 0, iB 0, iB 0, iB 0, iB 11, iB 0, iB 0, iB 0, iB 0, iB 0, iB 3, iB 9, iB 0, iB 0, iB 0, iB 0, iB 0, iB 3, iB 0, iB 0, iB 0, iB 0, iB 0, iB 11, iB 0, iB 0, iB 0, iB 0, iB 0, iB 3, iB 10, iB 0, iB 0, iB 0, iB 0, iB 0, iB 3, iB 0, iB 0, iB 0, iB 0, iB 0, iB 11, iB 0, iB 0, iB 0, iB 0, iB 0] ([]))))))))))))),
 (m665, .c 57 19 2 (rp 15 (iB 0) (ap [iB 100, .l m666 0 3 0 true, iI 2, .l m667 0 6 0 true] (rp 15 (iB 0) (ap [iB 101, .l m668 0 2 0 true, iI 2, .l m669 0 3 0 true] ([])))))),
 (m666, .c 101 17 3 (rp 16 (iB 0) (ap [.i .i64 (.negSucc 0)] (rp 15 (iB 0) (ap [iB 1, iI 0] (rp 15 (iB 0) (ap [iB 2, iI 1] ([])))))))),
 (m667, .c 99 1 6 [.l m670 0 6 0 true, .l m671 0 3 0 true, .l m672 0 3 0 true, .l m673 0 3 0 true, .l m674 0 5 0 true, .l m675 0 3 0 true]),
 (m670, .c 98 3 6 [iI 3, iI 0, iI 0, iI 2, iI 0, iI 0, iI 5, iI 0, iI 0, iI 4, iI 0, iI 0, iI 3, iI 0, iI 0, iI 11, iI 0, iI 0]),
 (m671, .c 98 3 3 [iI 9, iI 0, iI 0, iI 3, iI 0, iI 0, iI 11, iI 0, iI 0]),
 (m672, .c 98 3 3 [iI 10, iI 0, iI 0, iI 3, iI 0, iI 0, iI 11, iI 0, iI 0]),
 (m673, .c 98 3 3 [iI 2, iI 0, iI 0, iI 8, iI 0, iI 0, iI 11, iI 0, iI 0]),
 (m674, .c 98 3 5 [iI 2, iI 0, iI 0, iI 8, iI 0, iI 4, iI 1, iI 1, iI 0, iI 5, iI 0, iI 0, iI 11, iI 0, iI 0]),
 (m675, .c 98 3 3 [iI 9, iI 1, iI 0, iI 3, iI 0, iI 0, iI 11, iI 0, iI 0]),
 (m668, .c 101 17 2 (rp 16 (iB 0) (ap [.i .i64 (.negSucc 0)] (rp 15 (iB 0) (ap [iB 1, iI 0] ([])))))),
 (m669, .c 99 1 3 [.l m676 0 6 0 true, .l m677 0 3 0 true, .l m678 0 3 0 true]),
 (m676, .c 98 3 6 [iI 3, iI 0, iI 0, iI 2, iI 0, iI 0, iI 5, iI 0, iI 0, iI 4, iI 0, iI 0, iI 3, iI 0, iI 0, iI 11, iI 0, iI 0]),
 (m677, .c 98 3 3 [iI 9, iI 0, iI 0, iI 3, iI 0, iI 0, iI 11, iI 0, iI 0]),
 (m678, .c 98 3 3 [iI 10, iI 0, iI 0, iI 3, iI 0, iI 0, iI 11, iI 0, iI 0]),
 (m720, .c 236 0 0 [iI 256, iW 1, xsn, xsn, iI 0])]
noncomputable def bfE : List (Nm × O) := [(m722, .c 44 0 0 [.p m721 0, iI 2, xsn]),
 (m721, .c 67 0 0 (ap [.p m685 0] (rp 9 (xsn) ([])))),
 (m685, .c 79 0 0 [.l m20 0 2 0 true, .l m13 0 1 1 false, iI 2, iI 2, iI 1, .l m707 0 2 0 true, .p m709 0, .x (.m m684), .p m712 0, .p m714 0, .p m716 0, .p m719 0, .p m26 0, .p m720 0, iU 0, xpn, xsn, xsn]),
 (m20, .c 4 1 2 [bF, bF]),
 (m13, .c 60 0 0 [.l m11 0 2 2 false]),
 (m11, .c 57 0 0 (rp 15 (iB 0) (ap [iB 100, .l m10 0 3 3 false, iI 2, .l m9 0 6 6 false] (rp 15 (iB 0) (ap [iB 101, .l m10 0 2 3 false, iI 2, .l m9 0 3 6 false] ([])))))),
 (m10, .c 101 0 0 (rp 16 (iB 0) (ap [.i .i64 (.negSucc 0)] (rp 15 (iB 0) (ap [iB 1, iI 0] (rp 15 (iB 0) (ap [iB 2, iI 1] ([])))))))),
 (m9, .c 99 0 0 [.l m3 0 6 6 false, .l m4 0 3 3 false, .l m5 0 3 3 false, .l m6 0 3 3 false, .l m7 0 5 5 false, .l m8 0 3 3 false]),
 (m3, .c 98 0 0 [iI 3, iI 0, iI 0, iI 2, iI 0, iI 0, iI 5, iI 0, iI 0, iI 4, iI 0, iI 0, iI 3, iI 0, iI 0, iI 11, iI 0, iI 0]),
 (m4, .c 98 0 0 [iI 9, iI 0, iI 0, iI 3, iI 0, iI 0, iI 11, iI 0, iI 0]),
 (m5, .c 98 0 0 [iI 10, iI 0, iI 0, iI 3, iI 0, iI 0, iI 11, iI 0, iI 0]),
 (m6, .c 98 0 0 [iI 2, iI 0, iI 0, iI 8, iI 0, iI 0, iI 11, iI 0, iI 0]),
 (m7, .c 98 0 0 [iI 2, iI 0, iI 0, iI 8, iI 0, iI 4, iI 1, iI 1, iI 0, iI 5, iI 0, iI 0, iI 11, iI 0, iI 0]),
 (m8, .c 98 0 0 [iI 9, iI 1, iI 0, iI 3, iI 0, iI 0, iI 11, iI 0, iI 0]),
 (m707, .c 80 1 2 [.p m688 0, .p m699 0]),
 (m688, .c 88 0 0 [bF, bF, .p m689 0, .p m691 0, .p m693 0, .p m687 0, .p m694 0, xsn]),
 (m689, .c 194 0 0 [iI 256, iW 1, xsn, xsn, iI 0]),
 (m691, .c 200 0 0 [iU 0, .p m690 0]),
 (m690, .c 321 0 0 [iI 1024, iW 1, xsn, xsn, iI 0]),
 (m693, .c 206 0 0 [.p m692 0]),
 (m692, .c 324 0 0 [iI 256, iW 1, xsn, xsn, iI 0]),
 (m687, .c 184 0 0 [iI 4, iI 0, .x (.m m686)]),
 (m686, .m [] 0),
 (m694, .c 106 0 0 [iI 16, xsn, iI 0, iI 0]),
 (m699, .c 88 0 0 [bF, bF, .p m700 0, .p m702 0, .p m704 0, .p m698 0, .p m705 0, xsn]),
 (m700, .c 194 0 0 [iI 256, iW 1, xsn, xsn, iI 0]),
 (m702, .c 200 0 0 [iU 1, .p m701 0]),
 (m701, .c 321 0 0 [iI 1024, iW 1, xsn, xsn, iI 0]),
 (m704, .c 206 0 0 [.p m703 0]),
 (m703, .c 324 0 0 [iI 256, iW 1, xsn, xsn, iI 0]),
 (m698, .c 184 0 0 [iI 4, iI 0, .x (.m m697)]),
 (m697, .m [] 0),
 (m705, .c 106 0 0 [iI 16, xsn, iI 0, iI 0]),
 (m709, .c 212 0 0 [iW 1048576, .p m708 0]),
 (m708, .c 327 0 0 [iI 256, iW 1, xsn, xsn, iI 0]),
 (m684, .m [] 0),
 (m712, .c 219 0 0 [.p m710 0, .x (.m m711)]),
 (m710, .c 330 0 0 [iI 256, iW 1, xsn, xsn, iI 0]),
 (m711, .m [] 0),
 (m714, .c 226 0 0 [.p m713 0]),
 (m713, .c 333 0 0 [iI 256, iW 1, xsn, xsn, iI 0]),
 (m716, .c 233 0 0 [.p m715 0]),
 (m715, .c 336 0 0 [iI 256, iW 1, xsn, xsn, iI 0]),
 (m719, .c 111 0 0 [iI 4096, xsn, .x (.m m717), .x (.m m718)]),
 (m717, .m [] 0),
 (m718, .m [] 0),
 (m26, .c 187 0 0 [.l m683 0 1 0 true, iI 1]),
 (m683, .c 172 1 1 [.p m680 0]),
 (m680, .c 177 0 0 [.l m660 0 343 0 true, .l m665 0 2 0 true, bF, iW 0, iW 0, iW 0, iI 0]),
 (m660, .c 5 1 343 (ap [iB 2] (rp 15 (iB 0) (ap [iB 100, iB 3] (rp 32 (iB 0) (ap [iB 1, iB 1] (rp 15 (iB 0) (ap [iB 2, iB 2, iB 2, iB 6, iB 6, iB 3, iB 0, iB 0, iB 0, iB 0, iB 0, iB 2, iB 0, iB 0, iB 0, iB 0, iB 0, iB 5, iB 0, iB 0, iB 0, iB 0, iB 0, iB 4, iB 0, iB 0, iB 0, iB 0, iB 0, iB 3, iB 0, iB 0, iB 0, iB 0, iB 0, iB 11, iB 0, iB 0, iB 0, iB 0, iB 0, iB 3, iB 9, iB 0, iB 0, iB 0, iB 0, iB 0, iB 3, iB 0, iB 0, iB 0, iB 0, iB 0, iB 11, iB 0, iB 0, iB 0, iB 0, iB 0, iB 3, iB 10, iB 0, iB 0, iB 0, iB 0, iB 0, iB 3, iB 0, iB 0, iB 0, iB 0, iB 0, iB 11, iB 0, iB 0, iB 0, iB 0, iB 0, iB 3, iB 2, iB 0, iB 0, iB 0, iB 0, iB 0, iB 8, iB 0, iB 0, iB 0, iB 0, iB 0, iB 11, iB 0, iB 0, iB 0, iB 0, iB 0, iB 5, iB 2, iB 0, iB 0, iB 0, iB 0, iB 0, iB 8, iB 4, iB 0, iB 0, iB 0, iB 0, iB 1, iB 0, iB 1, iB 0, iB 0, iB 0, iB 5, iB 0, iB 0, iB 0, iB 0, iB 0, iB 11, iB 0, iB 0, iB 0, iB 0, iB 0, iB 3, iB 9, iB 0, iB 1, iB 0, iB 0, iB 0, iB 3, iB 0, iB 0, iB 0, iB 0, iB 0, iB 11] (rp 20 (iB 0) (ap [iB 101, iB 2] (rp 32 (iB 0) (ap [iB 1, iB 1, iB 2, iB 3, iB 6, iB 3, iB 0, iB 0, iB 0, iB 0, iB 0, iB 2, iB 0, iB 0, iB 0, iB 0, iB 0, iB 5, iB 0, iB 0, iB 0, iB 0, iB 0, iB 4, iB 0, iB 0, iB 0, iB 0, iB 0, iB 3, iB 0, iB 0, iB 0, iB 0, iB 0, iB 11, iB 0, iB 0, iB 0, iB 0, iB 0, iB 3, iB 9, iB 0, iB 0, iB 0, iB 0, iB 0, iB 3, iB 0, iB 0, iB 0, iB 0, iB 0, iB 11, iB 0, iB 0, iB 0, iB 0, iB 0, iB 3, iB 10, iB 0, iB 0, iB 0, iB 0, iB 0, iB 3, iB 0, iB 0, iB 0, iB 0, iB 0, iB 11, iB 0, iB 0, iB 0, iB 0, iB 0] ([]))))))))))))),
 (m665, .c 57 19 2 (rp 15 (iB 0) (ap [iB 100, .l m666 0 3 0 true, iI 2, .l m667 0 6 0 true] (rp 15 (iB 0) (ap [iB 101, .l m668 0 2 0 true, iI 2, .l m669 0 3 0 true] ([])))))),
 (m666, .c 101 17 3 (rp 16 (iB 0) (ap [.i .i64 (.negSucc 0)] (rp 15 (iB 0) (ap [iB 1, iI 0] (rp 15 (iB 0) (ap [iB 2, iI 1] ([])))))))),
 (m667, .c 99 1 6 [.l m670 0 6 0 true, .l m671 0 3 0 true, .l m672 0 3 0 true, .l m673 0 3 0 true, .l m674 0 5 0 true, .l m675 0 3 0 true]),
 (m670, .c 98 3 6 [iI 3, iI 0, iI 0, iI 2, iI 0, iI 0, iI 5, iI 0, iI 0, iI 4, iI 0, iI 0, iI 3, iI 0, iI 0, iI 11, iI 0, iI 0]),
 (m671, .c 98 3 3 [iI 9, iI 0, iI 0, iI 3, iI 0, iI 0, iI 11, iI 0, iI 0]),
 (m672, .c 98 3 3 [iI 10, iI 0, iI 0, iI 3, iI 0, iI 0, iI 11, iI 0, iI 0]),
 (m673, .c 98 3 3 [iI 2, iI 0, iI 0, iI 8, iI 0, iI 0, iI 11, iI 0, iI 0]),
 (m674, .c 98 3 5 [iI 2, iI 0, iI 0, iI 8, iI 0, iI 4, iI 1, iI 1, iI 0, iI 5, iI 0, iI 0, iI 11, iI 0, iI 0]),
 (m675, .c 98 3 3 [iI 9, iI 1, iI 0, iI 3, iI 0, iI 0, iI 11, iI 0, iI 0]),
 (m668, .c 101 17 2 (rp 16 (iB 0) (ap [.i .i64 (.negSucc 0)] (rp 15 (iB 0) (ap [iB 1, iI 0] ([])))))),
 (m669, .c 99 1 3 [.l m676 0 6 0 true, .l m677 0 3 0 true, .l m678 0 3 0 true]),
 (m676, .c 98 3 6 [iI 3, iI 0, iI 0, iI 2, iI 0, iI 0, iI 5, iI 0, iI 0, iI 4, iI 0, iI 0, iI 3, iI 0, iI 0, iI 11, iI 0, iI 0]),
 (m677, .c 98 3 3 [iI 9, iI 0, iI 0, iI 3, iI 0, iI 0, iI 11, iI 0, iI 0]),
 (m678, .c 98 3 3 [iI 10, iI 0, iI 0, iI 3, iI 0, iI 0, iI 11, iI 0, iI 0]),
 (m720, .c 236 0 0 [iI 256, iW 1, xsn, xsn, iI 0])]
noncomputable def s1E : List (Nm × O) := [(m722, .c 44 0 0 [.p m721 0, iI 2, .l m1978 0 6 0 true]),
 (m721, .c 67 0 0 (ap [.p m685 0] (rp 9 (xsn) ([])))),
 (m685, .c 79 0 0 [.l m20 0 2 0 true, .l m13 0 1 1 false, iI 2, iI 2, iI 1, .l m707 0 2 0 true, .p m709 0, .x (.m m684), .p m712 0, .p m714 0, .p m716 0, .p m719 0, .p m26 0, .p m720 0, iU 2, xpn, xsn, xsn]),
 (m20, .c 4 1 2 [bF, bT]),
 (m13, .c 60 0 0 [.l m11 0 2 2 false]),
 (m11, .c 57 0 0 (rp 15 (iB 0) (ap [iB 100, .l m10 0 3 3 false, iI 2, .l m9 0 6 6 false] (rp 15 (iB 0) (ap [iB 101, .l m10 0 2 3 false, iI 2, .l m9 0 3 6 false] ([])))))),
 (m10, .c 101 0 0 (rp 16 (iB 0) (ap [.i .i64 (.negSucc 0)] (rp 15 (iB 0) (ap [iB 1, iI 0] (rp 15 (iB 0) (ap [iB 2, iI 1] ([])))))))),
 (m9, .c 99 0 0 [.l m3 0 6 6 false, .l m4 0 3 3 false, .l m5 0 3 3 false, .l m6 0 3 3 false, .l m7 0 5 5 false, .l m8 0 3 3 false]),
 (m3, .c 98 0 0 [iI 3, iI 0, iI 0, iI 2, iI 0, iI 0, iI 5, iI 0, iI 0, iI 4, iI 0, iI 0, iI 3, iI 0, iI 0, iI 11, iI 0, iI 0]),
 (m4, .c 98 0 0 [iI 9, iI 0, iI 0, iI 3, iI 0, iI 0, iI 11, iI 0, iI 0]),
 (m5, .c 98 0 0 [iI 10, iI 0, iI 0, iI 3, iI 0, iI 0, iI 11, iI 0, iI 0]),
 (m6, .c 98 0 0 [iI 2, iI 0, iI 0, iI 8, iI 0, iI 0, iI 11, iI 0, iI 0]),
 (m7, .c 98 0 0 [iI 2, iI 0, iI 0, iI 8, iI 0, iI 4, iI 1, iI 1, iI 0, iI 5, iI 0, iI 0, iI 11, iI 0, iI 0]),
 (m8, .c 98 0 0 [iI 9, iI 1, iI 0, iI 3, iI 0, iI 0, iI 11, iI 0, iI 0]),
 (m707, .c 80 1 2 [.p m688 0, .p m699 0]),
 (m688, .c 88 0 0 [bF, bF, .p m689 0, .p m691 0, .p m693 0, .p m687 0, .p m694 0, .l m1602 0 0 0 true]),
 (m689, .c 194 0 0 [iI 256, iW 1, .l m779 0 1 0 true, xsn, iI 1]),
 (m779, .c 406 21 1 (ap [iI 1, iU 4294967297] (rp 16 (iB 0) (ap [iW 1, iW 1, bT] ([]))))),
 (m691, .c 200 0 0 [iU 0, .p m690 0]),
 (m690, .c 321 0 0 [iI 1024, iW 1, .l m831 0 1 0 true, xsn, iI 1]),
 (m831, .c 468 3 1 [.p m825 0, iW 1, bT]),
 (m825, .c 314 0 0 (ap [iU 4294967297] (rp 16 (iB 0) (ap [.p m828 0, iW 0, iW 0, iW 0] ([]))))),
 (m828, .c 500 0 0 [iW 4294967295, .x (.m m827)]),
 (m827, .m [(.s (iU 1), .s (iW 1), 1)] 2),
 (m693, .c 206 0 0 [.p m692 0]),
 (m692, .c 324 0 0 [iI 256, iW 1, xsn, xsn, iI 0]),
 (m687, .c 184 0 0 [iI 4, iI 0, .x (.m m686)]),
 (m686, .m [(.s (iU 1), .s (iI 0), 0)] 1),
 (m694, .c 106 0 0 [iI 16, .l m1506 0 4 4 false, iI 1, iI 0]),
 (m1506, .c 92 0 0 (ap [iI 0, iI 0, iI 0, iU 0, iU 0] (rp 16 (iB 0) (ap [iI 0, iI 0, iI 0, xsn, iI 0, iI 0, iI 0, iU 0, iU 0] (rp 16 (iB 0) (ap [iI 0, iI 0, iI 0, xsn, iI 0, iI 0, iI 0, iU 0, iU 0] (rp 16 (iB 0) (ap [iI 0, iI 0, iI 0, xsn, iI 0, iI 0, iI 0, iU 0, iU 0] (rp 16 (iB 0) (ap [iI 0, iI 0, iI 0, xsn] ([]))))))))))),
 (m1602, .c 262 1 1 [.l m1600 0 0 1 false]),
 (m1600, .c 263 0 0 [.p m1598 0]),
 (m1598, .c 268 0 0 (ap [iU 4294967297, iI 0, iI 0, iI 7, .p m1593 0, iI 0, iU 0, iU 0, bF, iI 0, iI 0, iI 1, iI 1, iI 0, iU 1, iU 1] (rp 11 (iB 0) (ap [iB 1, iB 0, iB 0, iB 0, iB 1, iI 0, iI 7, iI 0, xsn, iU 0] ([]))))),
 (m1593, .c 517 0 0 [.l m1592 0 6 0 true, iI 7, iI 5, .l m1635 0 0 0 true, bF, bT]),
 (m1592, .c 98 3 6 [iI 3, iI 0, iI 0, iI 2, iI 0, iI 0, iI 5, iI 0, iI 0, iI 4, iI 0, iI 0, iI 3, iI 0, iI 0, iI 11, iI 0, iI 0]),
 (m1635, .c 2 1 2 [iI 7, iI 7]),
 (m699, .c 88 0 0 [bT, bF, .p m700 0, .p m702 0, .p m704 0, .p m698 0, .p m705 0, .l m1177 0 0 0 true]),
 (m700, .c 194 0 0 [iI 256, iW 1, .l m939 0 1 0 true, xsn, iI 1]),
 (m939, .c 406 21 1 (ap [iI 2, iU 1152921508901814273] (rp 16 (iB 0) (ap [iW 1, iW 1, bT] ([]))))),
 (m702, .c 200 0 0 [iU 1, .p m701 0]),
 (m701, .c 321 0 0 [iI 1024, iW 1, xsn, xsn, iI 0]),
 (m704, .c 206 0 0 [.p m703 0]),
 (m703, .c 324 0 0 [iI 256, iW 1, .l m924 0 1 0 true, xsn, iI 1]),
 (m924, .c 561 3 1 [.p m920 0, iW 1, bT]),
 (m920, .c 382 0 0 [iU 0, iU 4294967297, iW 1, bF, .l m930 0 1 0 true]),
 (m930, .c 151 36 1 (ap [iW 0, iW 1, iU 0, iU 4294967297] (rp 11 (iB 0) (ap [iB 1, iB 0, iB 0, iB 0, iB 1] (rp 16 (iB 0) ([])))))),
 (m698, .c 184 0 0 [iI 4, iI 0, .x (.m m697)]),
 (m697, .m [] 0),
 (m705, .c 106 0 0 [iI 16, xsn, iI 0, iI 0]),
 (m1177, .c 262 1 1 [.l m1175 0 0 1 false]),
 (m1175, .c 263 0 0 [.p m964 0]),
 (m964, .c 268 0 0 (ap [iU 0, iI 0, iI 0, iI 0, xpn, iI 0, iU 0, iU 1, bT, iI 7, iI 0, iI 0, iI 0, iI 0, iU 0, iU 0] (rp 16 (iB 0) (ap [iI 0, iI 0, iI 0, xsn, iU 2] ([]))))),
 (m709, .c 212 0 0 [iW 1048576, .p m708 0]),
 (m708, .c 327 0 0 [iI 256, iW 1, .l m770 0 1 0 true, xsn, iI 1]),
 (m770, .c 564 3 1 [.p m767 0, iW 1, bT]),
 (m767, .c 340 0 0 [iW 2, iU 0, iI 7, .l m766 0 2 2 false, xsn]),
 (m766, .c 128 0 0 [iI 0, iU 0, iI 0, iU 0]),
 (m684, .m [(.s (iU 4294967297), .a [iI 0, iI 0, iI 0], 0)] 1),
 (m712, .c 219 0 0 [.p m710 0, .x (.m m711)]),
 (m710, .c 330 0 0 [iI 256, iW 1, xsn, xsn, iI 0]),
 (m711, .m [] 0),
 (m714, .c 226 0 0 [.p m713 0]),
 (m713, .c 333 0 0 [iI 256, iW 1, xsn, xsn, iI 0]),
 (m716, .c 233 0 0 [.p m715 0]),
 (m715, .c 336 0 0 [iI 256, iW 1, xsn, xsn, iI 0]),
 (m719, .c 111 0 0 [iI 4096, .l m1173 0 0 0 true, .x (.m m717), .x (.m m718)]),
 (m1173, .c 174 1 1 [xsn]),
 (m717, .m [(.a [iI 1, iI 0], .s (iU 1), 0), (.a [iI 0, iI 1], .s (iU 1), 1)] 2),
 (m718, .m [(.a [iI 1, iI 0, iU 1], .a [], 0), (.a [iI 0, iI 1, iU 1], .a [], 1)] 2),
 (m26, .c 187 0 0 [.l m683 0 1 0 true, iI 1]),
 (m683, .c 172 1 1 [.p m680 0]),
 (m680, .c 177 0 0 [.l m660 0 343 0 true, .l m665 0 2 0 true, bT, iW 1, iW 0, iW 0, iI 0]),
 (m660, .c 5 1 343 (ap [iB 2] (rp 15 (iB 0) (ap [iB 100, iB 3] (rp 32 (iB 0) (ap [iB 1, iB 1] (rp 15 (iB 0) (ap [iB 2, iB 2, iB 2, iB 6, iB 6, iB 3, iB 0, iB 0, iB 0, iB 0, iB 0, iB 2, iB 0, iB 0, iB 0, iB 0, iB 0, iB 5, iB 0, iB 0, iB 0, iB 0, iB 0, iB 4, iB 0, iB 0, iB 0, iB 0, iB 0, iB 3, iB 0, iB 0, iB 0, iB 0, iB 0, iB 11, iB 0, iB 0, iB 0, iB 0, iB 0, iB 3, iB 9, iB 0, iB 0, iB 0, iB 0, iB 0, iB 3, iB 0, iB 0, iB 0, iB 0, iB 0, iB 11, iB 0, iB 0, iB 0, iB 0, iB 0, iB 3, iB 10, iB 0, iB 0, iB 0, iB 0, iB 0, iB 3, iB 0, iB 0, iB 0, iB 0, iB 0, iB 11, iB 0, iB 0, iB 0, iB 0, iB 0, iB 3, iB 2, iB 0, iB 0, iB 0, iB 0, iB 0, iB 8, iB 0, iB 0, iB 0, iB 0, iB 0, iB 11, iB 0, iB 0, iB 0, iB 0, iB 0, iB 5, iB 2, iB 0, iB 0, iB 0, iB 0, iB 0, iB 8, iB 4, iB 0, iB 0, iB 0, iB 0, iB 1, iB 0, iB 1, iB 0, iB 0, iB 0, iB 5, iB 0, iB 0, iB 0, iB 0, iB 0, iB 11, iB 0, iB 0, iB 0, iB 0, iB 0, iB 3, iB 9, iB 0, iB 1, iB 0, iB 0, iB 0, iB 3, iB 0, iB 0, iB 0, iB 0, iB 0, iB 11] (rp 20 (iB 0) (ap [iB 101, iB 2] (rp 32 (iB 0) (ap [iB 1, iB 1, iB 2, iB 3, iB 6, iB 3, iB 0, iB 0, iB 0, iB 0, iB 0, iB 2, iB 0, iB 0, iB 0, iB 0, iB 0, iB 5, iB 0, iB 0, iB 0, iB 0, iB 0, iB 4, iB 0, iB 0, iB 0, iB 0, iB 0, iB 3, iB 0, iB 0, iB 0, iB 0, iB 0, iB 11, iB 0, iB 0, iB 0, iB 0, iB 0, iB 3, iB 9, iB 0, iB 0, iB 0, iB 0, iB 0, iB 3, iB 0, iB 0, iB 0, iB 0, iB 0, iB 11, iB 0, iB 0, iB 0, iB 0, iB 0, iB 3, iB 10, iB 0, iB 0, iB 0, iB 0, iB 0, iB 3, iB 0, iB 0, iB 0, iB 0, iB 0, iB 11, iB 0, iB 0, iB 0, iB 0, iB 0] ([]))))))))))))),
 (m665, .c 57 19 2 (rp 15 (iB 0) (ap [iB 100, .l m666 0 3 0 true, iI 2, .l m667 0 6 0 true] (rp 15 (iB 0) (ap [iB 101, .l m668 0 2 0 true, iI 2, .l m669 0 3 0 true] ([])))))),
 (m666, .c 101 17 3 (rp 16 (iB 0) (ap [.i .i64 (.negSucc 0)] (rp 15 (iB 0) (ap [iB 1, iI 0] (rp 15 (iB 0) (ap [iB 2, iI 1] ([])))))))),
 (m667, .c 99 1 6 [.l m670 0 6 0 true, .l m671 0 3 0 true, .l m672 0 3 0 true, .l m673 0 3 0 true, .l m674 0 5 0 true, .l m675 0 3 0 true]),
 (m670, .c 98 3 6 [iI 3, iI 0, iI 0, iI 2, iI 0, iI 0, iI 5, iI 0, iI 0, iI 4, iI 0, iI 0, iI 3, iI 0, iI 0, iI 11, iI 0, iI 0]),
 (m671, .c 98 3 3 [iI 9, iI 0, iI 0, iI 3, iI 0, iI 0, iI 11, iI 0, iI 0]),
 (m672, .c 98 3 3 [iI 10, iI 0, iI 0, iI 3, iI 0, iI 0, iI 11, iI 0, iI 0]),
 (m673, .c 98 3 3 [iI 2, iI 0, iI 0, iI 8, iI 0, iI 0, iI 11, iI 0, iI 0]),
 (m674, .c 98 3 5 [iI 2, iI 0, iI 0, iI 8, iI 0, iI 4, iI 1, iI 1, iI 0, iI 5, iI 0, iI 0, iI 11, iI 0, iI 0]),
 (m675, .c 98 3 3 [iI 9, iI 1, iI 0, iI 3, iI 0, iI 0, iI 11, iI 0, iI 0]),
 (m668, .c 101 17 2 (rp 16 (iB 0) (ap [.i .i64 (.negSucc 0)] (rp 15 (iB 0) (ap [iB 1, iI 0] ([])))))),
 (m669, .c 99 1 3 [.l m676 0 6 0 true, .l m677 0 3 0 true, .l m678 0 3 0 true]),
 (m676, .c 98 3 6 [iI 3, iI 0, iI 0, iI 2, iI 0, iI 0, iI 5, iI 0, iI 0, iI 4, iI 0, iI 0, iI 3, iI 0, iI 0, iI 11, iI 0, iI 0]),
 (m677, .c 98 3 3 [iI 9, iI 0, iI 0, iI 3, iI 0, iI 0, iI 11, iI 0, iI 0]),
 (m678, .c 98 3 3 [iI 10, iI 0, iI 0, iI 3, iI 0, iI 0, iI 11, iI 0, iI 0]),
 (m720, .c 236 0 0 [iI 256, iW 1, .l m863 0 1 0 true, .l m904 0 1 0 true, iI 0]),
 (m863, .c 432 39 1 (ap [iW 0, iW 0, iU 0, iU 0] (rp 32 (iB 0) (ap [iI 0, iW 2, bF] ([]))))),
 (m904, .c 3 1 1 [iI 0]),
 (m1978, .c 40 6 6 [iI 1, iU 4294967297, iI 0, iI 0, iI 0, iI 0, iI 1, iU 4294967297, iI 0, iI 0, iI 0, iI 0, iI 1, iU 4294967297, iI 0, iI 0, iI 0, iI 0, iI 2, iU 2, iI 0, iI 0, iI 0, iI 0, iI 4, iU 4294967297, iI 0, iI 7, iI 7, iI 0, iI 3, iU 2, iI 0, iI 7, iI 0, iI 0])]
noncomputable def d0E : List (Nm × O) := [(m722, .c 44 0 0 [.p m721 0, iI 2, .l m1978 0 6 0 true]),
 (m721, .c 67 0 0 (ap [.p m685 0] (rp 9 (xsn) ([])))),
 (m685, .c 79 0 0 [.l m20 0 2 0 true, .l m13 0 1 1 false, iI 2, iI 2, iI 1, .l m707 0 2 0 true, .p m709 0, .x (.m m684), .p m712 0, .p m714 0, .p m716 0, .p m719 0, .p m26 0, .p m720 0, iU 2, xpn, xsn, xsn]),
 (m20, .c 4 1 2 [bF, bT]),
 (m13, .c 60 0 0 [.l m11 0 2 2 false]),
 (m11, .c 57 0 0 (rp 15 (iB 0) (ap [iB 100, .l m10 0 3 3 false, iI 2, .l m9 0 6 6 false] (rp 15 (iB 0) (ap [iB 101, .l m10 0 2 3 false, iI 2, .l m9 0 3 6 false] ([])))))),
 (m10, .c 101 0 0 (rp 16 (iB 0) (ap [.i .i64 (.negSucc 0)] (rp 15 (iB 0) (ap [iB 1, iI 0] (rp 15 (iB 0) (ap [iB 2, iI 1] ([])))))))),
 (m9, .c 99 0 0 [.l m3 0 6 6 false, .l m4 0 3 3 false, .l m5 0 3 3 false, .l m6 0 3 3 false, .l m7 0 5 5 false, .l m8 0 3 3 false]),
 (m3, .c 98 0 0 [iI 3, iI 0, iI 0, iI 2, iI 0, iI 0, iI 5, iI 0, iI 0, iI 4, iI 0, iI 0, iI 3, iI 0, iI 0, iI 11, iI 0, iI 0]),
 (m4, .c 98 0 0 [iI 9, iI 0, iI 0, iI 3, iI 0, iI 0, iI 11, iI 0, iI 0]),
 (m5, .c 98 0 0 [iI 10, iI 0, iI 0, iI 3, iI 0, iI 0, iI 11, iI 0, iI 0]),
 (m6, .c 98 0 0 [iI 2, iI 0, iI 0, iI 8, iI 0, iI 0, iI 11, iI 0, iI 0]),
 (m7, .c 98 0 0 [iI 2, iI 0, iI 0, iI 8, iI 0, iI 4, iI 1, iI 1, iI 0, iI 5, iI 0, iI 0, iI 11, iI 0, iI 0]),
 (m8, .c 98 0 0 [iI 9, iI 1, iI 0, iI 3, iI 0, iI 0, iI 11, iI 0, iI 0]),
 (m707, .c 80 1 2 [.p m688 0, .p m699 0]),
 (m688, .c 88 0 0 [bF, bF, .p m689 0, .p m691 0, .p m693 0, .p m687 0, .p m694 0, .l m1602 0 0 0 true]),
 (m689, .c 194 0 0 [iI 256, iW 1, .l m779 0 1 0 true, .l m2036 0 1 0 true, iI 0]),
 (m779, .c 406 21 1 (ap [iI 0, iU 0] (rp 16 (iB 0) (ap [iW 0, iW 2, bF] ([]))))),
 (m2036, .c 3 1 1 [iI 0]),
 (m691, .c 200 0 0 [iU 0, .p m690 0]),
 (m690, .c 321 0 0 [iI 1024, iW 1, .l m831 0 1 0 true, xsn, iI 1]),
 (m831, .c 468 3 1 [.p m825 0, iW 1, bT]),
 (m825, .c 314 0 0 (ap [iU 4294967297] (rp 16 (iB 0) (ap [.p m828 0, iW 0, iW 0, iW 0] ([]))))),
 (m828, .c 500 0 0 [iW 4294967295, .x (.m m827)]),
 (m827, .m [(.s (iU 1), .s (iW 1), 1)] 2),
 (m693, .c 206 0 0 [.p m692 0]),
 (m692, .c 324 0 0 [iI 256, iW 1, xsn, xsn, iI 0]),
 (m687, .c 184 0 0 [iI 4, iI 0, .x (.m m686)]),
 (m686, .m [(.s (iU 1), .s (iI 0), 0)] 1),
 (m694, .c 106 0 0 [iI 16, .l m1506 0 4 4 false, iI 1, iI 0]),
 (m1506, .c 92 0 0 (ap [iI 0, iI 0, iI 0, iU 0, iU 0] (rp 16 (iB 0) (ap [iI 0, iI 0, iI 0, xsn, iI 0, iI 0, iI 0, iU 0, iU 0] (rp 16 (iB 0) (ap [iI 0, iI 0, iI 0, xsn, iI 0, iI 0, iI 0, iU 0, iU 0] (rp 16 (iB 0) (ap [iI 0, iI 0, iI 0, xsn, iI 0, iI 0, iI 0, iU 0, iU 0] (rp 16 (iB 0) (ap [iI 0, iI 0, iI 0, xsn] ([]))))))))))),
 (m1602, .c 262 1 1 [.l m1600 0 0 1 false]),
 (m1600, .c 263 0 0 [.p m1598 0]),
 (m1598, .c 268 0 0 (ap [iU 4294967297, iI 0, iI 0, iI 7, .p m1593 0, iI 0, iU 0, iU 0, bF, iI 0, iI 0, iI 1, iI 1, iI 0, iU 1, iU 1] (rp 11 (iB 0) (ap [iB 1, iB 0, iB 0, iB 0, iB 1, iI 0, iI 7, iI 0, xsn, iU 0] ([]))))),
 (m1593, .c 517 0 0 [.l m1592 0 6 0 true, iI 7, iI 5, .l m1635 0 0 0 true, bF, bT]),
 (m1592, .c 98 3 6 [iI 3, iI 0, iI 0, iI 2, iI 0, iI 0, iI 5, iI 0, iI 0, iI 4, iI 0, iI 0, iI 3, iI 0, iI 0, iI 11, iI 0, iI 0]),
 (m1635, .c 2 1 2 [iI 7, iI 7]),
 (m699, .c 88 0 0 [bT, bF, .p m700 0, .p m702 0, .p m704 0, .p m698 0, .p m705 0, .l m1177 0 0 0 true]),
 (m700, .c 194 0 0 [iI 256, iW 1, .l m939 0 1 0 true, .l m2087 0 1 0 true, iI 0]),
 (m939, .c 406 21 1 (ap [iI 0, iU 0] (rp 16 (iB 0) (ap [iW 0, iW 2, bF] ([]))))),
 (m2087, .c 3 1 1 [iI 0]),
 (m702, .c 200 0 0 [iU 1, .p m701 0]),
 (m701, .c 321 0 0 [iI 1024, iW 1, xsn, xsn, iI 0]),
 (m704, .c 206 0 0 [.p m703 0]),
 (m703, .c 324 0 0 [iI 256, iW 1, .l m924 0 1 0 true, .l m2090 0 1 0 true, iI 0]),
 (m924, .c 561 3 1 [xpn, iW 2, bF]),
 (m2090, .c 3 1 1 [iI 0]),
 (m698, .c 184 0 0 [iI 4, iI 0, .x (.m m697)]),
 (m697, .m [] 0),
 (m705, .c 106 0 0 [iI 16, xsn, iI 0, iI 0]),
 (m1177, .c 262 1 1 [.l m1175 0 0 1 false]),
 (m1175, .c 263 0 0 [.p m964 0]),
 (m964, .c 268 0 0 (ap [iU 0, iI 0, iI 0, iI 0, xpn, iI 0, iU 0, iU 1, bT, iI 7, iI 0, iI 0, iI 0, iI 0, iU 0, iU 0] (rp 16 (iB 0) (ap [iI 0, iI 0, iI 0, xsn, iU 2] ([]))))),
 (m709, .c 212 0 0 [iW 1048576, .p m708 0]),
 (m708, .c 327 0 0 [iI 256, iW 1, .l m770 0 1 0 true, xsn, iI 1]),
 (m770, .c 564 3 1 [.p m767 0, iW 1, bT]),
 (m767, .c 340 0 0 [iW 1, iU 0, iI 7, .l m766 0 2 2 false, xsn]),
 (m766, .c 128 0 0 [iI 0, iU 0, iI 0, iU 0]),
 (m684, .m [(.s (iU 4294967297), .a [iI 0, iI 0, iI 0], 0)] 1),
 (m712, .c 219 0 0 [.p m710 0, .x (.m m711)]),
 (m710, .c 330 0 0 [iI 256, iW 1, xsn, xsn, iI 0]),
 (m711, .m [] 0),
 (m714, .c 226 0 0 [.p m713 0]),
 (m713, .c 333 0 0 [iI 256, iW 1, xsn, xsn, iI 0]),
 (m716, .c 233 0 0 [.p m715 0]),
 (m715, .c 336 0 0 [iI 256, iW 1, xsn, xsn, iI 0]),
 (m719, .c 111 0 0 [iI 4096, .l m1173 0 1 0 true, .x (.m m717), .x (.m m718)]),
 (m1173, .c 174 1 1 [.l m2233 0 40 0 true]),
 (m2233, .c 5 1 40 (ap [iB 4, iB 1] (rp 6 (iB 0) (ap [iB 2] (rp 18 (iB 0) (ap [iB 1, iB 0, iB 0, iB 0, iB 1, iB 1] (rp 7 (iB 0) ([])))))))),
 (m717, .m [(.a [iI 1, iI 0], .s (iU 2), 0), (.a [iI 0, iI 1], .s (iU 1), 1)] 2),
 (m718, .m [(.a [iI 1, iI 0, iU 1], .a [], 0), (.a [iI 0, iI 1, iU 1], .a [], 1)] 2),
 (m26, .c 187 0 0 [.l m683 0 1 0 true, iI 1]),
 (m683, .c 172 1 1 [.p m680 0]),
 (m680, .c 177 0 0 [.l m660 0 343 0 true, .l m665 0 2 0 true, bT, iW 1, iW 0, iW 0, iI 0]),
 (m660, .c 5 1 343 (ap [iB 2] (rp 15 (iB 0) (ap [iB 100, iB 3] (rp 32 (iB 0) (ap [iB 1, iB 1] (rp 15 (iB 0) (ap [iB 2, iB 2, iB 2, iB 6, iB 6, iB 3, iB 0, iB 0, iB 0, iB 0, iB 0, iB 2, iB 0, iB 0, iB 0, iB 0, iB 0, iB 5, iB 0, iB 0, iB 0, iB 0, iB 0, iB 4, iB 0, iB 0, iB 0, iB 0, iB 0, iB 3, iB 0, iB 0, iB 0, iB 0, iB 0, iB 11, iB 0, iB 0, iB 0, iB 0, iB 0, iB 3, iB 9, iB 0, iB 0, iB 0, iB 0, iB 0, iB 3, iB 0, iB 0, iB 0, iB 0, iB 0, iB 11, iB 0, iB 0, iB 0, iB 0, iB 0, iB 3, iB 10, iB 0, iB 0, iB 0, iB 0, iB 0, iB 3, iB 0, iB 0, iB 0, iB 0, iB 0, iB 11, iB 0, iB 0, iB 0, iB 0, iB 0, iB 3, iB 2, iB 0, iB 0, iB 0, iB 0, iB 0, iB 8, iB 0, iB 0, iB 0, iB 0, iB 0, iB 11, iB 0, iB 0, iB 0, iB 0, iB 0, iB 5, iB 2, iB 0, iB 0, iB 0, iB 0, iB 0, iB 8, iB 4, iB 0, iB 0, iB 0, iB 0, iB 1, iB 0, iB 1, iB 0, iB 0, iB 0, iB 5, iB 0, iB 0, iB 0, iB 0, iB 0, iB 11, iB 0, iB 0, iB 0, iB 0, iB 0, iB 3, iB 9, iB 0, iB 1, iB 0, iB 0, iB 0, iB 3, iB 0, iB 0, iB 0, iB 0, iB 0, iB 11] (rp 20 (iB 0) (ap [iB 101, iB 2] (rp 32 (iB 0) (ap [iB 1, iB 1, iB 2, iB 3, iB 6, iB 3, iB 0, iB 0, iB 0, iB 0, iB 0, iB 2, iB 0, iB 0, iB 0, iB 0, iB 0, iB 5, iB 0, iB 0, iB 0, iB 0, iB 0, iB 4, iB 0, iB 0, iB 0, iB 0, iB 0, iB 3, iB 0, iB 0, iB 0, iB 0, iB 0, iB 11, iB 0, iB 0, iB 0, iB 0, iB 0, iB 3, iB 9, iB 0, iB 0, iB 0, iB 0, iB 0, iB 3, iB 0, iB 0, iB 0, iB 0, iB 0, iB 11, iB 0, iB 0, iB 0, iB 0, iB 0, iB 3, iB 10, iB 0, iB 0, iB 0, iB 0, iB 0, iB 3, iB 0, iB 0, iB 0, iB 0, iB 0, iB 11, iB 0, iB 0, iB 0, iB 0, iB 0] ([]))))))))))))),
 (m665, .c 57 19 2 (rp 15 (iB 0) (ap [iB 100, .l m666 0 3 0 true, iI 2, .l m667 0 6 0 true] (rp 15 (iB 0) (ap [iB 101, .l m668 0 2 0 true, iI 2, .l m669 0 3 0 true] ([])))))),
 (m666, .c 101 17 3 (rp 16 (iB 0) (ap [.i .i64 (.negSucc 0)] (rp 15 (iB 0) (ap [iB 1, iI 0] (rp 15 (iB 0) (ap [iB 2, iI 1] ([])))))))),
 (m667, .c 99 1 6 [.l m670 0 6 0 true, .l m671 0 3 0 true, .l m672 0 3 0 true, .l m673 0 3 0 true, .l m674 0 5 0 true, .l m675 0 3 0 true]),
 (m670, .c 98 3 6 [iI 3, iI 0, iI 0, iI 2, iI 0, iI 0, iI 5, iI 0, iI 0, iI 4, iI 0, iI 0, iI 3, iI 0, iI 0, iI 11, iI 0, iI 0]),
 (m671, .c 98 3 3 [iI 9, iI 0, iI 0, iI 3, iI 0, iI 0, iI 11, iI 0, iI 0]),
 (m672, .c 98 3 3 [iI 10, iI 0, iI 0, iI 3, iI 0, iI 0, iI 11, iI 0, iI 0]),
 (m673, .c 98 3 3 [iI 2, iI 0, iI 0, iI 8, iI 0, iI 0, iI 11, iI 0, iI 0]),
 (m674, .c 98 3 5 [iI 2, iI 0, iI 0, iI 8, iI 0, iI 4, iI 1, iI 1, iI 0, iI 5, iI 0, iI 0, iI 11, iI 0, iI 0]),
 (m675, .c 98 3 3 [iI 9, iI 1, iI 0, iI 3, iI 0, iI 0, iI 11, iI 0, iI 0]),
 (m668, .c 101 17 2 (rp 16 (iB 0) (ap [.i .i64 (.negSucc 0)] (rp 15 (iB 0) (ap [iB 1, iI 0] ([])))))),
 (m669, .c 99 1 3 [.l m676 0 6 0 true, .l m677 0 3 0 true, .l m678 0 3 0 true]),
 (m676, .c 98 3 6 [iI 3, iI 0, iI 0, iI 2, iI 0, iI 0, iI 5, iI 0, iI 0, iI 4, iI 0, iI 0, iI 3, iI 0, iI 0, iI 11, iI 0, iI 0]),
 (m677, .c 98 3 3 [iI 9, iI 0, iI 0, iI 3, iI 0, iI 0, iI 11, iI 0, iI 0]),
 (m678, .c 98 3 3 [iI 10, iI 0, iI 0, iI 3, iI 0, iI 0, iI 11, iI 0, iI 0]),
 (m720, .c 236 0 0 [iI 256, iW 1, .l m863 0 1 0 true, .l m904 0 1 0 true, iI 0]),
 (m863, .c 432 39 1 (ap [iW 0, iW 0, iU 0, iU 0] (rp 32 (iB 0) (ap [iI 0, iW 2, bF] ([]))))),
 (m904, .c 3 1 1 [iI 0]),
 (m1978, .c 40 6 6 [iI 1, iU 4294967297, iI 0, iI 0, iI 0, iI 0, iI 1, iU 4294967297, iI 0, iI 0, iI 0, iI 0, iI 1, iU 4294967297, iI 0, iI 0, iI 0, iI 0, iI 2, iU 2, iI 0, iI 0, iI 0, iI 0, iI 4, iU 4294967297, iI 0, iI 7, iI 7, iI 0, iI 3, iU 2, iI 0, iI 7, iI 0, iI 0])]
noncomputable def r4E : List (Nm × O) := [(m722, .c 44 0 0 [.p m721 0, iI 2, .l m20268 0 8 0 true]),
 (m721, .c 67 0 0 (ap [.p m685 0] (rp 9 (xsn) ([])))),
 (m685, .c 79 0 0 [.l m20 0 2 0 true, .l m13 0 1 1 false, iI 2, iI 2, iI 1, .l m707 0 2 0 true, .p m709 0, .x (.m m684), .p m712 0, .p m714 0, .p m716 0, .p m719 0, .p m26 0, .p m720 0, iU 2, xpn, xsn, .l m20265 0 1 0 true]),
 (m20, .c 4 1 2 [bF, bT]),
 (m13, .c 60 0 0 [.l m11 0 2 2 false]),
 (m11, .c 57 0 0 (rp 15 (iB 0) (ap [iB 100, .l m10 0 3 3 false, iI 2, .l m9 0 6 6 false] (rp 15 (iB 0) (ap [iB 101, .l m10 0 2 3 false, iI 2, .l m9 0 3 6 false] ([])))))),
 (m10, .c 101 0 0 (rp 16 (iB 0) (ap [.i .i64 (.negSucc 0)] (rp 15 (iB 0) (ap [iB 1, iI 0] (rp 15 (iB 0) (ap [iB 2, iI 1] ([])))))))),
 (m9, .c 99 0 0 [.l m3 0 6 6 false, .l m4 0 3 3 false, .l m5 0 3 3 false, .l m6 0 3 3 false, .l m7 0 5 5 false, .l m8 0 3 3 false]),
 (m3, .c 98 0 0 [iI 3, iI 0, iI 0, iI 2, iI 0, iI 0, iI 5, iI 0, iI 0, iI 4, iI 0, iI 0, iI 3, iI 0, iI 0, iI 11, iI 0, iI 0]),
 (m4, .c 98 0 0 [iI 9, iI 0, iI 0, iI 3, iI 0, iI 0, iI 11, iI 0, iI 0]),
 (m5, .c 98 0 0 [iI 10, iI 0, iI 0, iI 3, iI 0, iI 0, iI 11, iI 0, iI 0]),
 (m6, .c 98 0 0 [iI 2, iI 0, iI 0, iI 8, iI 0, iI 0, iI 11, iI 0, iI 0]),
 (m7, .c 98 0 0 [iI 2, iI 0, iI 0, iI 8, iI 0, iI 4, iI 1, iI 1, iI 0, iI 5, iI 0, iI 0, iI 11, iI 0, iI 0]),
 (m8, .c 98 0 0 [iI 9, iI 1, iI 0, iI 3, iI 0, iI 0, iI 11, iI 0, iI 0]),
 (m707, .c 80 1 2 [.p m688 0, .p m699 0]),
 (m688, .c 88 0 0 [bF, bF, .p m689 0, .p m691 0, .p m693 0, .p m687 0, .p m694 0, .l m1602 0 0 0 true]),
 (m689, .c 194 0 0 [iI 256, iW 1, .l m779 0 1 0 true, .l m2036 0 1 0 true, iI 0]),
 (m779, .c 406 21 1 (ap [iI 0, iU 0] (rp 16 (iB 0) (ap [iW 0, iW 2, bF] ([]))))),
 (m2036, .c 3 1 1 [iI 0]),
 (m691, .c 200 0 0 [iU 0, .p m690 0]),
 (m690, .c 321 0 0 [iI 1024, iW 1, .l m831 0 1 0 true, .l m19578 0 1 0 true, iI 0]),
 (m831, .c 468 3 1 [xpn, iW 2, bF]),
 (m19578, .c 3 1 1 [iI 0]),
 (m693, .c 206 0 0 [.p m692 0]),
 (m692, .c 324 0 0 [iI 256, iW 1, xsn, xsn, iI 0]),
 (m687, .c 184 0 0 [iI 4, iI 7, .x (.m m686)]),
 (m686, .m [] 1),
 (m694, .c 106 0 0 [iI 16, .l m1506 0 4 4 false, iI 1, iI 0]),
 (m1506, .c 92 0 0 (ap [iI 0, iI 0, iI 0, iU 0, iU 0] (rp 16 (iB 0) (ap [iI 0, iI 0, iI 0, xsn, iI 0, iI 0, iI 0, iU 0, iU 0] (rp 16 (iB 0) (ap [iI 0, iI 0, iI 0, xsn, iI 0, iI 0, iI 0, iU 0, iU 0] (rp 16 (iB 0) (ap [iI 0, iI 0, iI 0, xsn, iI 0, iI 0, iI 0, iU 0, iU 0] (rp 16 (iB 0) (ap [iI 0, iI 0, iI 0, xsn] ([]))))))))))),
 (m1602, .c 262 1 1 [.l m1600 0 0 1 false]),
 (m1600, .c 263 0 0 [.p m1598 0]),
 (m1598, .c 268 0 0 (ap [iU 4294967297, iI 0, iI 0, iI 7, .p m1593 0, iI 0, iU 0, iU 0, bF, iI 0, iI 0, iI 1, iI 1, iI 0, iU 1, iU 1] (rp 11 (iB 0) (ap [iB 1, iB 0, iB 0, iB 0, iB 1, iI 0, iI 7, iI 0, xsn, iU 0] ([]))))),
 (m1593, .c 517 0 0 [.l m1592 0 6 0 true, iI 7, iI 5, .l m1635 0 0 0 true, bF, bT]),
 (m1592, .c 98 3 6 [iI 3, iI 0, iI 0, iI 2, iI 0, iI 0, iI 5, iI 0, iI 0, iI 4, iI 0, iI 0, iI 3, iI 0, iI 0, iI 11, iI 0, iI 0]),
 (m1635, .c 2 1 2 [iI 7, iI 7]),
 (m699, .c 88 0 0 [bT, bF, .p m700 0, .p m702 0, .p m704 0, .p m698 0, .p m705 0, .l m1177 0 0 0 true]),
 (m700, .c 194 0 0 [iI 256, iW 1, .l m939 0 1 0 true, .l m2087 0 1 0 true, iI 0]),
 (m939, .c 406 21 1 (ap [iI 0, iU 0] (rp 16 (iB 0) (ap [iW 0, iW 2, bF] ([]))))),
 (m2087, .c 3 1 1 [iI 0]),
 (m702, .c 200 0 0 [iU 1, .p m701 0]),
 (m701, .c 321 0 0 [iI 1024, iW 1, xsn, xsn, iI 0]),
 (m704, .c 206 0 0 [.p m703 0]),
 (m703, .c 324 0 0 [iI 256, iW 1, .l m924 0 1 0 true, .l m2090 0 1 0 true, iI 0]),
 (m924, .c 561 3 1 [xpn, iW 2, bF]),
 (m2090, .c 3 1 1 [iI 0]),
 (m698, .c 184 0 0 [iI 4, iI 7, .x (.m m697)]),
 (m697, .m [] 0),
 (m705, .c 106 0 0 [iI 16, xsn, iI 0, iI 0]),
 (m1177, .c 262 1 1 [.l m1175 0 0 1 false]),
 (m1175, .c 263 0 0 [.p m964 0]),
 (m964, .c 268 0 0 (ap [iU 0, iI 0, iI 0, iI 0, xpn, iI 0, iU 0, iU 1, bT, iI 7, iI 0, iI 0, iI 0, iI 0, iU 0, iU 0] (rp 16 (iB 0) (ap [iI 0, iI 0, iI 0, xsn, iU 2] ([]))))),
 (m709, .c 212 0 0 [iW 1048576, .p m708 0]),
 (m708, .c 327 0 0 [iI 256, iW 1, .l m770 0 1 0 true, .l m19597 0 1 0 true, iI 0]),
 (m770, .c 564 3 1 [xpn, iW 2, bF]),
 (m19597, .c 3 1 1 [iI 0]),
 (m684, .m [] 1),
 (m712, .c 219 0 0 [.p m710 0, .x (.m m711)]),
 (m710, .c 330 0 0 [iI 256, iW 1, xsn, xsn, iI 0]),
 (m711, .m [] 0),
 (m714, .c 226 0 0 [.p m713 0]),
 (m713, .c 333 0 0 [iI 256, iW 1, xsn, xsn, iI 0]),
 (m716, .c 233 0 0 [.p m715 0]),
 (m715, .c 336 0 0 [iI 256, iW 1, xsn, xsn, iI 0]),
 (m719, .c 111 0 0 [iI 4096, .l m1173 0 0 0 true, .x (.m m717), .x (.m m718)]),
 (m1173, .c 174 1 1 [xsn]),
 (m717, .m [(.a [iI 1, iI 0], .s (iU 2), 0), (.a [iI 0, iI 1], .s (iU 1), 1)] 2),
 (m718, .m [(.a [iI 1, iI 0, iU 1], .a [], 0), (.a [iI 0, iI 1, iU 1], .a [], 1), (.a [iI 1, iI 0, iU 2], .a [], 2)] 3),
 (m26, .c 187 0 0 [.l m683 0 1 0 true, iI 1]),
 (m683, .c 172 1 1 [.p m680 0]),
 (m680, .c 177 0 0 [.l m660 0 343 0 true, .l m665 0 2 0 true, bF, iW 0, iW 0, iW 0, iI 0]),
 (m660, .c 5 1 343 (ap [iB 2] (rp 15 (iB 0) (ap [iB 100, iB 3] (rp 32 (iB 0) (ap [iB 1, iB 1] (rp 15 (iB 0) (ap [iB 2, iB 2, iB 2, iB 6, iB 6, iB 3, iB 0, iB 0, iB 0, iB 0, iB 0, iB 2, iB 0, iB 0, iB 0, iB 0, iB 0, iB 5, iB 0, iB 0, iB 0, iB 0, iB 0, iB 4, iB 0, iB 0, iB 0, iB 0, iB 0, iB 3, iB 0, iB 0, iB 0, iB 0, iB 0, iB 11, iB 0, iB 0, iB 0, iB 0, iB 0, iB 3, iB 9, iB 0, iB 0, iB 0, iB 0, iB 0, iB 3, iB 0, iB 0, iB 0, iB 0, iB 0, iB 11, iB 0, iB 0, iB 0, iB 0, iB 0, iB 3, iB 10, iB 0, iB 0, iB 0, iB 0, iB 0, iB 3, iB 0, iB 0, iB 0, iB 0, iB 0, iB 11, iB 0, iB 0, iB 0, iB 0, iB 0, iB 3, iB 2, iB 0, iB 0, iB 0, iB 0, iB 0, iB 8, iB 0, iB 0, iB 0, iB 0, iB 0, iB 11, iB 0, iB 0, iB 0, iB 0, iB 0, iB 5, iB 2, iB 0, iB 0, iB 0, iB 0, iB 0, iB 8, iB 4, iB 0, iB 0, iB 0, iB 0, iB 1, iB 0, iB 1, iB 0, iB 0, iB 0, iB 5, iB 0, iB 0, iB 0, iB 0, iB 0, iB 11, iB 0, iB 0, iB 0, iB 0, iB 0, iB 3, iB 9, iB 0, iB 1, iB 0, iB 0, iB 0, iB 3, iB 0, iB 0, iB 0, iB 0, iB 0, iB 11] (rp 20 (iB 0) (ap [iB 101, iB 2] (rp 32 (iB 0) (ap [iB 1, iB 1, iB 2, iB 3, iB 6, iB 3, iB 0, iB 0, iB 0, iB 0, iB 0, iB 2, iB 0, iB 0, iB 0, iB 0, iB 0, iB 5, iB 0, iB 0, iB 0, iB 0, iB 0, iB 4, iB 0, iB 0, iB 0, iB 0, iB 0, iB 3, iB 0, iB 0, iB 0, iB 0, iB 0, iB 11, iB 0, iB 0, iB 0, iB 0, iB 0, iB 3, iB 9, iB 0, iB 0, iB 0, iB 0, iB 0, iB 3, iB 0, iB 0, iB 0, iB 0, iB 0, iB 11, iB 0, iB 0, iB 0, iB 0, iB 0, iB 3, iB 10, iB 0, iB 0, iB 0, iB 0, iB 0, iB 3, iB 0, iB 0, iB 0, iB 0, iB 0, iB 11, iB 0, iB 0, iB 0, iB 0, iB 0] ([]))))))))))))),
 (m665, .c 57 19 2 (rp 15 (iB 0) (ap [iB 100, .l m666 0 3 0 true, iI 2, .l m667 0 6 0 true] (rp 15 (iB 0) (ap [iB 101, .l m668 0 2 0 true, iI 2, .l m669 0 3 0 true] ([])))))),
 (m666, .c 101 17 3 (rp 16 (iB 0) (ap [.i .i64 (.negSucc 0)] (rp 15 (iB 0) (ap [iB 1, iI 0] (rp 15 (iB 0) (ap [iB 2, iI 1] ([])))))))),
 (m667, .c 99 1 6 [.l m670 0 6 0 true, .l m671 0 3 0 true, .l m672 0 3 0 true, .l m673 0 3 0 true, .l m674 0 5 0 true, .l m675 0 3 0 true]),
 (m670, .c 98 3 6 [iI 3, iI 0, iI 0, iI 2, iI 0, iI 0, iI 5, iI 0, iI 0, iI 4, iI 0, iI 0, iI 3, iI 0, iI 0, iI 11, iI 0, iI 0]),
 (m671, .c 98 3 3 [iI 9, iI 0, iI 0, iI 3, iI 0, iI 0, iI 11, iI 0, iI 0]),
 (m672, .c 98 3 3 [iI 10, iI 0, iI 0, iI 3, iI 0, iI 0, iI 11, iI 0, iI 0]),
 (m673, .c 98 3 3 [iI 2, iI 0, iI 0, iI 8, iI 0, iI 0, iI 11, iI 0, iI 0]),
 (m674, .c 98 3 5 [iI 2, iI 0, iI 0, iI 8, iI 0, iI 4, iI 1, iI 1, iI 0, iI 5, iI 0, iI 0, iI 11, iI 0, iI 0]),
 (m675, .c 98 3 3 [iI 9, iI 1, iI 0, iI 3, iI 0, iI 0, iI 11, iI 0, iI 0]),
 (m668, .c 101 17 2 (rp 16 (iB 0) (ap [.i .i64 (.negSucc 0)] (rp 15 (iB 0) (ap [iB 1, iI 0] ([])))))),
 (m669, .c 99 1 3 [.l m676 0 6 0 true, .l m677 0 3 0 true, .l m678 0 3 0 true]),
 (m676, .c 98 3 6 [iI 3, iI 0, iI 0, iI 2, iI 0, iI 0, iI 5, iI 0, iI 0, iI 4, iI 0, iI 0, iI 3, iI 0, iI 0, iI 11, iI 0, iI 0]),
 (m677, .c 98 3 3 [iI 9, iI 0, iI 0, iI 3, iI 0, iI 0, iI 11, iI 0, iI 0]),
 (m678, .c 98 3 3 [iI 10, iI 0, iI 0, iI 3, iI 0, iI 0, iI 11, iI 0, iI 0]),
 (m720, .c 236 0 0 [iI 256, iW 1, .l m863 0 1 0 true, .l m904 0 1 0 true, iI 0]),
 (m863, .c 432 39 1 (ap [iW 0, iW 0, iU 0, iU 0] (rp 32 (iB 0) (ap [iI 0, iW 2, bF] ([]))))),
 (m904, .c 3 1 1 [iI 0]),
 (m20265, .c 40 6 1 [iI 6, iU 0, iI 0, iI 0, iI 0, iI 0]),
 (m20268, .c 40 6 8 [iI 1, iU 4294967297, iI 0, iI 0, iI 0, iI 0, iI 1, iU 4294967297, iI 0, iI 0, iI 0, iI 0, iI 1, iU 4294967297, iI 0, iI 0, iI 0, iI 0, iI 2, iU 2, iI 0, iI 0, iI 0, iI 0, iI 4, iU 4294967297, iI 0, iI 7, iI 7, iI 0, iI 3, iU 2, iI 0, iI 7, iI 0, iI 0, iI 5, iU 4294967297, iI 0, iI 0, iI 0, iI 0, iI 6, iU 0, iI 0, iI 0, iI 0, iI 0])]
noncomputable def decV (x0 x1 x2 x3 x4 x5 x6 x7 x8 x9 x10 x11 x12 x13 : Nm) : V := .t [.a [.l x0 0 2 0 true], .s (.i .i64 (.ofNat 0))]
noncomputable def decE (x0 x1 x2 x3 x4 x5 x6 x7 x8 x9 x10 x11 x12 x13 : Nm) : List (Nm × O) := [(x0, .c 57 19 2 [.i .u8 (.ofNat 0), .i .u8 (.ofNat 0), .i .u8 (.ofNat 0), .i .u8 (.ofNat 0), .i .u8 (.ofNat 0), .i .u8 (.ofNat 0), .i .u8 (.ofNat 0), .i .u8 (.ofNat 0), .i .u8 (.ofNat 0), .i .u8 (.ofNat 0), .i .u8 (.ofNat 0), .i .u8 (.ofNat 0), .i .u8 (.ofNat 0), .i .u8 (.ofNat 0), .i .u8 (.ofNat 0), .i .u8 (.ofNat 100), .l x1 0 3 0 true, .i .i64 (.ofNat 2), .l x2 0 6 0 true, .i .u8 (.ofNat 0), .i .u8 (.ofNat 0), .i .u8 (.ofNat 0), .i .u8 (.ofNat 0), .i .u8 (.ofNat 0), .i .u8 (.ofNat 0), .i .u8 (.ofNat 0), .i .u8 (.ofNat 0), .i .u8 (.ofNat 0), .i .u8 (.ofNat 0), .i .u8 (.ofNat 0), .i .u8 (.ofNat 0), .i .u8 (.ofNat 0), .i .u8 (.ofNat 0), .i .u8 (.ofNat 0), .i .u8 (.ofNat 101), .l x3 0 2 0 true, .i .i64 (.ofNat 2), .l x4 0 3 0 true]),
 (x1, .c 101 17 3 [.i .u8 (.ofNat 0), .i .u8 (.ofNat 0), .i .u8 (.ofNat 0), .i .u8 (.ofNat 0), .i .u8 (.ofNat 0), .i .u8 (.ofNat 0), .i .u8 (.ofNat 0), .i .u8 (.ofNat 0), .i .u8 (.ofNat 0), .i .u8 (.ofNat 0), .i .u8 (.ofNat 0), .i .u8 (.ofNat 0), .i .u8 (.ofNat 0), .i .u8 (.ofNat 0), .i .u8 (.ofNat 0), .i .u8 (.ofNat 0), .i .i64 (.negSucc 0), .i .u8 (.ofNat 0), .i .u8 (.ofNat 0), .i .u8 (.ofNat 0), .i .u8 (.ofNat 0), .i .u8 (.ofNat 0), .i .u8 (.ofNat 0), .i .u8 (.ofNat 0), .i .u8 (.ofNat 0), .i .u8 (.ofNat 0), .i .u8 (.ofNat 0), .i .u8 (.ofNat 0), .i .u8 (.ofNat 0), .i .u8 (.ofNat 0), .i .u8 (.ofNat 0), .i .u8 (.ofNat 0), .i .u8 (.ofNat 1), .i .i64 (.ofNat 0), .i .u8 (.ofNat 0), .i .u8 (.ofNat 0), .i .u8 (.ofNat 0), .i .u8 (.ofNat 0), .i .u8 (.ofNat 0), .i .u8 (.ofNat 0), .i .u8 (.ofNat 0), .i .u8 (.ofNat 0), .i .u8 (.ofNat 0), .i .u8 (.ofNat 0), .i .u8 (.ofNat 0), .i .u8 (.ofNat 0), .i .u8 (.ofNat 0), .i .u8 (.ofNat 0), .i .u8 (.ofNat 0), .i .u8 (.ofNat 2), .i .i64 (.ofNat 1)]),
 (x2, .c 99 1 6 [.l x5 0 6 0 true, .l x6 0 3 0 true, .l x7 0 3 0 true, .l x8 0 3 0 true, .l x9 0 5 0 true, .l x10 0 3 0 true]),
 (x3, .c 101 17 2 [.i .u8 (.ofNat 0), .i .u8 (.ofNat 0), .i .u8 (.ofNat 0), .i .u8 (.ofNat 0), .i .u8 (.ofNat 0), .i .u8 (.ofNat 0), .i .u8 (.ofNat 0), .i .u8 (.ofNat 0), .i .u8 (.ofNat 0), .i .u8 (.ofNat 0), .i .u8 (.ofNat 0), .i .u8 (.ofNat 0), .i .u8 (.ofNat 0), .i .u8 (.ofNat 0), .i .u8 (.ofNat 0), .i .u8 (.ofNat 0), .i .i64 (.negSucc 0), .i .u8 (.ofNat 0), .i .u8 (.ofNat 0), .i .u8 (.ofNat 0), .i .u8 (.ofNat 0), .i .u8 (.ofNat 0), .i .u8 (.ofNat 0), .i .u8 (.ofNat 0), .i .u8 (.ofNat 0), .i .u8 (.ofNat 0), .i .u8 (.ofNat 0), .i .u8 (.ofNat 0), .i .u8 (.ofNat 0), .i .u8 (.ofNat 0), .i .u8 (.ofNat 0), .i .u8 (.ofNat 0), .i .u8 (.ofNat 1), .i .i64 (.ofNat 0)]),
 (x4, .c 99 1 3 [.l x11 0 6 0 true, .l x12 0 3 0 true, .l x13 0 3 0 true]),
 (x5, .c 98 3 6 [.i .i64 (.ofNat 3), .i .i64 (.ofNat 0), .i .i64 (.ofNat 0), .i .i64 (.ofNat 2), .i .i64 (.ofNat 0), .i .i64 (.ofNat 0), .i .i64 (.ofNat 5), .i .i64 (.ofNat 0), .i .i64 (.ofNat 0), .i .i64 (.ofNat 4), .i .i64 (.ofNat 0), .i .i64 (.ofNat 0), .i .i64 (.ofNat 3), .i .i64 (.ofNat 0), .i .i64 (.ofNat 0), .i .i64 (.ofNat 11), .i .i64 (.ofNat 0), .i .i64 (.ofNat 0)]),
 (x6, .c 98 3 3 [.i .i64 (.ofNat 9), .i .i64 (.ofNat 0), .i .i64 (.ofNat 0), .i .i64 (.ofNat 3), .i .i64 (.ofNat 0), .i .i64 (.ofNat 0), .i .i64 (.ofNat 11), .i .i64 (.ofNat 0), .i .i64 (.ofNat 0)]),
 (x7, .c 98 3 3 [.i .i64 (.ofNat 10), .i .i64 (.ofNat 0), .i .i64 (.ofNat 0), .i .i64 (.ofNat 3), .i .i64 (.ofNat 0), .i .i64 (.ofNat 0), .i .i64 (.ofNat 11), .i .i64 (.ofNat 0), .i .i64 (.ofNat 0)]),
 (x8, .c 98 3 3 [.i .i64 (.ofNat 2), .i .i64 (.ofNat 0), .i .i64 (.ofNat 0), .i .i64 (.ofNat 8), .i .i64 (.ofNat 0), .i .i64 (.ofNat 0), .i .i64 (.ofNat 11), .i .i64 (.ofNat 0), .i .i64 (.ofNat 0)]),
 (x9, .c 98 3 5 [.i .i64 (.ofNat 2), .i .i64 (.ofNat 0), .i .i64 (.ofNat 0), .i .i64 (.ofNat 8), .i .i64 (.ofNat 0), .i .i64 (.ofNat 4), .i .i64 (.ofNat 1), .i .i64 (.ofNat 1), .i .i64 (.ofNat 0), .i .i64 (.ofNat 5), .i .i64 (.ofNat 0), .i .i64 (.ofNat 0), .i .i64 (.ofNat 11), .i .i64 (.ofNat 0), .i .i64 (.ofNat 0)]),
 (x10, .c 98 3 3 [.i .i64 (.ofNat 9), .i .i64 (.ofNat 1), .i .i64 (.ofNat 0), .i .i64 (.ofNat 3), .i .i64 (.ofNat 0), .i .i64 (.ofNat 0), .i .i64 (.ofNat 11), .i .i64 (.ofNat 0), .i .i64 (.ofNat 0)]),
 (x11, .c 98 3 6 [.i .i64 (.ofNat 3), .i .i64 (.ofNat 0), .i .i64 (.ofNat 0), .i .i64 (.ofNat 2), .i .i64 (.ofNat 0), .i .i64 (.ofNat 0), .i .i64 (.ofNat 5), .i .i64 (.ofNat 0), .i .i64 (.ofNat 0), .i .i64 (.ofNat 4), .i .i64 (.ofNat 0), .i .i64 (.ofNat 0), .i .i64 (.ofNat 3), .i .i64 (.ofNat 0), .i .i64 (.ofNat 0), .i .i64 (.ofNat 11), .i .i64 (.ofNat 0), .i .i64 (.ofNat 0)]),
 (x12, .c 98 3 3 [.i .i64 (.ofNat 9), .i .i64 (.ofNat 0), .i .i64 (.ofNat 0), .i .i64 (.ofNat 3), .i .i64 (.ofNat 0), .i .i64 (.ofNat 0), .i .i64 (.ofNat 11), .i .i64 (.ofNat 0), .i .i64 (.ofNat 0)]),
 (x13, .c 98 3 3 [.i .i64 (.ofNat 10), .i .i64 (.ofNat 0), .i .i64 (.ofNat 0), .i .i64 (.ofNat 3), .i .i64 (.ofNat 0), .i .i64 (.ofNat 0), .i .i64 (.ofNat 11), .i .i64 (.ofNat 0), .i .i64 (.ofNat 0)])]
noncomputable def decK (h : Hp) (x0 : Nm) : Rs := newK x0 fun x1 => newK x1 fun x2 => newK x2 fun x3 => newK x3 fun x4 => newK x4 fun x5 => newK x5 fun x6 => newK x6 fun x7 => newK x7 fun x8 => newK x8 fun x9 => newK x9 fun x10 => newK x10 fun x11 => newK x11 fun x12 => newK x12 fun x13 => newK x13 fun x14 => .F (decV x0 x1 x2 x3 x4 x5 x6 x7 x8 x9 x10 x11 x12 x13) (setAll (decE x0 x1 x2 x3 x4 x5 x6 x7 x8 x9 x10 x11 x12 x13) h) x14
/-- The block that holds the form. -/
noncomputable def formO : O := .c 5 1 343 formC
/-- 'class.Decode' of the document's module. -/
noncomputable def decM (vs : List V) (h : Hp) (nx : Nm) : Rs := match vs with
  | [.s (.l n o len c r)] => onC (get8 n h) fun t rr m ks => cond (Nat.beq o 0 && (Nat.beq len 343 && (Nat.beq c 0 && (r && (Nat.beq t 5 && (Nat.beq rr 1 && (Nat.beq m 343 && beqL ks formC))))))) (decK h nx) (.bad 90)
  | _ => .bad 91
noncomputable def gV : V := .s (.p m722 0)
noncomputable def inB2 (b : Bool) : List (Nm × O) := [(m0, .c 4 0 0 [bF, .b b])]
noncomputable def begVs : List V := [.s (.l m0 0 2 2 false)]
/-- 'begun'. -/
noncomputable def begM (vs : List V) (h : Hp) (nx : Nm) : Rs := cond (covB h (inB2 true)) (exactM begVs m1 (inB2 true) gV m723 btE vs h nx) (exactM begVs m1 (inB2 false) gV m723 bfE vs h nx)
noncomputable def mo0 (f : FuncId) : Option (List V → Hp → Nm → Rs) := none
noncomputable def mo1 (f : FuncId) : Option (List V → Hp → Nm → Rs) := cond (Nat.beq f 64) (some decM) none
noncomputable def mo2 (f : FuncId) : Option (List V → Hp → Nm → Rs) := cond (Nat.beq f 64) (some decM) (cond (Nat.beq f 4) (some begM) (cond (Nat.beq f 19) (some (exactM [gV] m2003 s1E (.t []) m19258 d0E)) (cond (Nat.beq f 20) (some (exactM [gV] m19258 d0E (.t []) m20269 r4E)) none)))
noncomputable def wakM (vs : List V) (h : Hp) (nx : Nm) : Rs := match vs with | [] => .F (.s (.b true)) h nx | _ => .bad 93
noncomputable def mo3 (f : FuncId) : Option (List V → Hp → Nm → Rs) := cond (Nat.beq f 64) (some decM) (cond (Nat.beq f 4) (some begM) (cond (Nat.beq f 11) (some wakM) none))
noncomputable abbrev K0 : Ih := runK Tryz.prog 314 429 mo0 300
noncomputable abbrev K1 : Ih := runK Tryz.prog 314 429 mo1 300
noncomputable abbrev K2 : Ih := runK Tryz.prog 314 429 mo2 300
noncomputable abbrev K3 : Ih := runK Tryz.prog 314 429 mo3 300
/-! the code of 'drop' -/
noncomputable def bodyOf (f : FuncId) : Code := match (Tryz.prog.funcs[f]?).bind (·.body) with | some c => c | none => .skip
noncomputable def fstC (c : Code) : Code := match c with | .seq a _ => a | _ => .skip
noncomputable def sndC (c : Code) : Code := match c with | .seq _ b => b | _ => .skip
noncomputable def inB (c : Code) : Code := match c with | .block _ b => b | _ => .skip
noncomputable def inL (c : Code) : Code := match c with | .loop b => b | _ => .skip
noncomputable abbrev dBody : Code := bodyOf 19
noncomputable abbrev dLoop : Code := inL (inB (sndC (sndC dBody)))
noncomputable def dS (i : Nat) : List (Nat × V) := [(0, gV), (8, .s (.i .i64 (.ofNat i)))]
end Go.Proofs.YtgmlbaffghogaaaGreatDoor
